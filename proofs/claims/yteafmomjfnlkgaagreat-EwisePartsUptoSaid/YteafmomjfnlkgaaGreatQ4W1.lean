/- The walks of the plain functions. Made by a program of mine. Conditions: none. -/
import Derived.Test.YteafmomjfnlkgaaGreatQ4S
import Derived.Test.YteafmomjfnlkgaaGreatQ4A
import Derived.Test.YteafmomjfnlkgaaGreatProg
set_option linter.unusedVariables false
set_option linter.unusedSimpArgs false
set_option linter.defProp false
set_option maxRecDepth 20000
set_option maxHeartbeats 20000000
open Go Go.Proofs
open Tryz (prog)
namespace Go.Av
variable {fu:Nat} {cp:af}
theorem mixed:prog.follows .mixedOrders=true:=by kernel_rfl
def ae(f:Func):Code:=f.body.getD .skip
theorem OE:aP prog 2=some (.int .i64):=by kernel_rfl
theorem ts2:bi prog 2=1:=by kernel_rfl
def pt2:= @jQ _ _ _ OE rfl
def st2:= @DN _ _ ts2
theorem OJ:aP prog 3=some (.int .i64):=by kernel_rfl
theorem iG:bi prog 3=1:=by kernel_rfl
def pt3:= @jQ _ _ _ OJ rfl
def st3:= @DN _ _ iG
theorem tv4:aP prog 4=some (.bool):=by kernel_rfl
theorem jy:bi prog 4=1:=by kernel_rfl
def pt4:= @jQ _ _ _ tv4 rfl
def sb4:= @sbW _ _ jy
theorem TN:aP prog 5=some (.int .u8):=by kernel_rfl
theorem ts5:bi prog 5=1:=by kernel_rfl
def pt5:= @jQ _ _ _ TN rfl
def st5:= @DN _ _ ts5
theorem Vl:aP prog 9=some (.str):=by kernel_rfl
theorem ts9:bi prog 9=1:=by kernel_rfl
def pt9:= @jQ _ _ _ Vl rfl
theorem le9: ∀ {s:ByteArray},jJ prog .len #[9] [.v (.string s)]=some (.v (.int .i64 s.size)):=aAt Vl
theorem ix9: ∀ {s:ByteArray} {i:Int},yg prog 9 (.v (.string s)) i=J5 s i:=anV Vl
theorem lQ:aP prog 22=some (.slice 3 1 8):=by kernel_rfl
theorem xQ:bi prog 22=1:=by kernel_rfl
def azG:= @jQ _ _ _ lQ rfl
def aKD:= @BJ _ _ _ _ _ lQ
def aFh:= @Bl _ _ _ _ _ lQ
def atQ:= @zO _ _ _ _ _ lQ
theorem Iz:dG prog 3=some [.v (.int .i64 0)]:=by kernel_rfl
theorem ayi: ∀ {a b:Int} {k k':IntKind},0<=a->a<=b->b<=140737488355328->b*8<=140737488355328->uJ prog 22 (.v (.int k a)) (.v (.int k' b))=some (.fresh 1 a.toNat (lm (ik .i64) (List.replicate a.toNat 0))):=Z9 lQ Iz
def avH:= @Df _ _ _ _ _ _ lQ Iz rfl (by decide)
def aEJ:= @Ad _ _ _ _ _ _ lQ Iz rfl (by decide)
def aBM:= @aoW _ _ _ _ _ lQ
def ano:= @asW _ _ _ _ _ lQ
def ang:= @Ba _ _ xQ
def aLc:= @Ag _ _ xQ
theorem KH:aP prog 23=some (.int .u32):=by kernel_rfl
theorem E5:bi prog 23=1:=by kernel_rfl
def atC:= @jQ _ _ _ KH rfl
def avC:= @DN _ _ E5
theorem uZ:aP prog 24=some (.slice 23 1 4):=by kernel_rfl
theorem CJ:bi prog 24=1:=by kernel_rfl
def awp:= @jQ _ _ _ uZ rfl
def ax7:= @BJ _ _ _ _ _ uZ
def ay2:= @Bl _ _ _ _ _ uZ
def aza:= @zO _ _ _ _ _ uZ
theorem Jf:dG prog 23=some [.v (.int .u32 0)]:=by kernel_rfl
theorem aGy: ∀ {a b:Int} {k k':IntKind},0<=a->a<=b->b<=140737488355328->b*4<=140737488355328->uJ prog 24 (.v (.int k a)) (.v (.int k' b))=some (.fresh 1 a.toNat (lm (ik .u32) (List.replicate a.toNat 0))):=Z9 uZ Jf
def aCG:= @Df _ _ _ _ _ _ uZ Jf rfl (by decide)
def auR:= @Ad _ _ _ _ _ _ uZ Jf rfl (by decide)
def aC8:= @aoW _ _ _ _ _ uZ
def arn:= @asW _ _ _ _ _ uZ
def aHe:= @Ba _ _ CJ
def aqG:= @Ag _ _ CJ
theorem yG:aP prog 25=some (.slice 2 1 8):=by kernel_rfl
theorem Fv:bi prog 25=1:=by kernel_rfl
def aBT:= @jQ _ _ _ yG rfl
def aHH:= @BJ _ _ _ _ _ yG
def aDi:= @Bl _ _ _ _ _ yG
def aIJ:= @zO _ _ _ _ _ yG
theorem OV:dG prog 2=some [.v (.int .i64 0)]:=by kernel_rfl
theorem mk25: ∀ {a b:Int} {k k':IntKind},0<=a->a<=b->b<=140737488355328->b*8<=140737488355328->uJ prog 25 (.v (.int k a)) (.v (.int k' b))=some (.fresh 1 a.toNat (lm (ik .i64) (List.replicate a.toNat 0))):=Z9 yG OV
def aHM:= @Df _ _ _ _ _ _ yG OV rfl (by decide)
def axp:= @Ad _ _ _ _ _ _ yG OV rfl (by decide)
def ax1:= @Ba _ _ Fv
def atc:= @Ag _ _ Fv
theorem zx:aP prog 26=some (.slice 4 1 1):=by kernel_rfl
theorem CB:bi prog 26=1:=by kernel_rfl
def aDM:= @jQ _ _ _ zx rfl
def aqu:= @BJ _ _ _ _ _ zx
def atK:= @Bl _ _ _ _ _ zx
def awN:= @zO _ _ _ _ _ zx
theorem Nb:dG prog 4=some [.v (.bool false)]:=by kernel_rfl
theorem aGE: ∀ {a b:Int} {k k':IntKind},0<=a->a<=b->b<=140737488355328->b*1<=140737488355328->uJ prog 26 (.v (.int k a)) (.v (.int k' b))=some (.fresh 1 a.toNat (lm bk (List.replicate a.toNat false))):=awm zx Nb
def aAl:= @Df _ _ _ _ _ _ zx Nb rfl (by decide)
def aCQ:= @Ad _ _ _ _ _ _ zx Nb rfl (by decide)
def aFW:= @Ba _ _ CB
def at6:= @Ag _ _ CB
theorem ac0:aP prog 28=some (.struct):=by kernel_rfl
theorem xE:bi prog 28=5:=by kernel_rfl
theorem aJX: ∀ {xs:List AV} {off:Nat},part prog xs 28 off=if off+5<=xs.length then some (.agg ((xs.drop off).take 5))else none:=xA ac0 xE
theorem avP: ∀ {h:Heap} {id:Id} {off:Nat} {ys:List AV},ys.length=5->iK prog 28 h (.ptr id off 0) (.agg ys)=(h.get id).bind (ry prog 28 h id off ys):=yV xE (by decide)
theorem ayh:aP prog 30=some (.struct):=by kernel_rfl
theorem wF:bi prog 30=36:=by kernel_rfl
theorem aqT: ∀ {xs:List AV} {off:Nat},part prog xs 30 off=if off+36<=xs.length then some (.agg ((xs.drop off).take 36))else none:=xA ayh wF
theorem aqv: ∀ {h:Heap} {id:Id} {off:Nat} {ys:List AV},ys.length=36->iK prog 30 h (.ptr id off 0) (.agg ys)=(h.get id).bind (ry prog 30 h id off ys):=yV wF (by decide)
theorem Fq:aP prog 31=some (.slice 28 5 104):=by kernel_rfl
theorem Ew:bi prog 31=1:=by kernel_rfl
def aup:= @jQ _ _ _ Fq rfl
def aG6:= @BJ _ _ _ _ _ Fq
def aCH:= @Bl _ _ _ _ _ Fq
def atw:= @zO _ _ _ _ _ Fq
theorem Ir:dG prog 28=some [.v (.int .i64 0),.v (.slice none 0 0),.v (.slice none 0 0),.v (.slice none 0 0),.v (.slice none 0 0)]:=by kernel_rfl
def aL6:= @Df _ _ _ _ _ _ Fq Ir rfl (by decide)
theorem aKT: ∀ {lvl d m:Nat} {h:Heap} {id:Id} {n by_:Nat} {l b:List T_Tensor},m=b.length->n+m<=140737488355328->(n+m)*by_<=140737488355328->lU lvl d 5 by_ h m (fm bV b) id n n (.sl true true 5 n (fm bV l))=some (.own id 0 (n+m) (n+m),h.set id (.sl true true 5 (n+m) (fm bV (l++b)))):=λh1 h2 h3=>akE kE h1 h2 h3 (lL WM)
def aDF:= @Ad _ _ _ _ _ _ Fq Ir rfl (by decide)
def azQ:= @Ba _ _ Ew
def arb:= @Ag _ _ Ew
theorem aBE:aP prog 34=some (.int .i64):=by kernel_rfl
theorem amj:bi prog 34=1:=by kernel_rfl
def aoo:= @jQ _ _ _ aBE rfl
def aBN:= @DN _ _ amj
theorem FK:aP prog 46=some (.slice 51 8 144):=by kernel_rfl
theorem Ea:bi prog 46=1:=by kernel_rfl
def aqe:= @jQ _ _ _ FK rfl
def aqa:= @BJ _ _ _ _ _ FK
def aoH:= @Bl _ _ _ _ _ FK
def aCw:= @zO _ _ _ _ _ FK
theorem I5:dG prog 51=some [.v (.int .i64 0),.v (.slice none 0 0),.v (.bool false),.v (.int .i64 0),.v (.slice none 0 0),.v (.slice none 0 0),.v (.slice none 0 0),.v (.slice none 0 0)]:=by kernel_rfl
def ay0:= @Df _ _ _ _ _ _ FK I5 rfl (by decide)
theorem aJf: ∀ {lvl d m:Nat} {h:Heap} {id:Id} {n by_:Nat} {l b:List aQ},m=b.length->n+m<=140737488355328->(n+m)*by_<=140737488355328->lU lvl d 8 by_ h m (fm cO b) id n n (.sl true true 8 n (fm cO l))=some (.own id 0 (n+m) (n+m),h.set id (.sl true true 8 (n+m) (fm cO (l++b)))):=λh1 h2 h3=>akE gG h1 h2 h3 (lL aa8)
def aDT:= @Ad _ _ _ _ _ _ FK I5 rfl (by decide)
def aDp:= @Ba _ _ Ea
def aJw:= @Ag _ _ Ea
theorem adb:aP prog 51=some (.struct):=by kernel_rfl
theorem UJ:bi prog 51=8:=by kernel_rfl
theorem aHx: ∀ {xs:List AV} {off:Nat},part prog xs 51 off=if off+8<=xs.length then some (.agg ((xs.drop off).take 8))else none:=xA adb UJ
theorem aMr: ∀ {h:Heap} {id:Id} {off:Nat} {ys:List AV},ys.length=8->iK prog 51 h (.ptr id off 0) (.agg ys)=(h.get id).bind (ry prog 51 h id off ys):=yV UJ (by decide)
theorem amE:aP prog 61=some (.struct):=by kernel_rfl
theorem aj0:bi prog 61=44:=by kernel_rfl
theorem aFb: ∀ {xs:List AV} {off:Nat},part prog xs 61 off=if off+44<=xs.length then some (.agg ((xs.drop off).take 44))else none:=xA amE aj0
theorem Ij:aP prog 77=some (.slice 22 1 24):=by kernel_rfl
theorem YJ:bi prog 77=1:=by kernel_rfl
def apj:= @jQ _ _ _ Ij rfl
def aAI:= @BJ _ _ _ _ _ Ij
def aDe:= @Bl _ _ _ _ _ Ij
def axH:= @zO _ _ _ _ _ Ij
theorem aMI:dG prog 22=some [.v (.slice none 0 0)]:=by kernel_rfl
def aEo:= @Ad _ _ _ _ _ _ Ij aMI rfl (by decide)
def ay7:= @Ba _ _ YJ
def aIR:= @Ag _ _ YJ
theorem aH0:aP prog 81=some (.other):=by kernel_rfl
theorem apU:bi prog 81=1:=by kernel_rfl
def aEB:= @jQ _ _ _ aH0 rfl
theorem ar7:aP prog 84=some (.other):=by kernel_rfl
theorem Vh:bi prog 84=1:=by kernel_rfl
def aIl:= @jQ _ _ _ ar7 rfl
theorem auH:aP prog 85=some (.other):=by kernel_rfl
theorem Vf:bi prog 85=1:=by kernel_rfl
def aFd:= @jQ _ _ _ auH rfl
theorem aMl:aP prog 86=some (.other):=by kernel_rfl
theorem abm:bi prog 86=1:=by kernel_rfl
def arM:= @jQ _ _ _ aMl rfl
theorem aD9:aP prog 87=some (.other):=by kernel_rfl
theorem VU:bi prog 87=1:=by kernel_rfl
def aAj:= @jQ _ _ _ aD9 rfl
theorem aKL:aP prog 88=some (.other):=by kernel_rfl
theorem Y6:bi prog 88=1:=by kernel_rfl
def aGz:= @jQ _ _ _ aKL rfl
theorem aAN:aP prog 90=some (.struct):=by kernel_rfl
theorem YB:bi prog 90=5:=by kernel_rfl
theorem aKk: ∀ {xs:List AV} {off:Nat},part prog xs 90 off=if off+5<=xs.length then some (.agg ((xs.drop off).take 5))else none:=xA aAN YB
theorem ayu: ∀ {h:Heap} {id:Id} {off:Nat} {ys:List AV},ys.length=5->iK prog 90 h (.ptr id off 0) (.agg ys)=(h.get id).bind (ry prog 90 h id off ys):=yV YB (by decide)
theorem aeR:aP prog 132=some (.struct):=by kernel_rfl
theorem ZP:bi prog 132=39:=by kernel_rfl
theorem aw8: ∀ {xs:List AV} {off:Nat},part prog xs 132 off=if off+39<=xs.length then some (.agg ((xs.drop off).take 39))else none:=xA aeR ZP
theorem avw: ∀ {h:Heap} {id:Id} {off:Nat} {ys:List AV},ys.length=39->iK prog 132 h (.ptr id off 0) (.agg ys)=(h.get id).bind (ry prog 132 h id off ys):=yV ZP (by decide)
theorem AO:aP prog 172=some (.int .u64):=by kernel_rfl
theorem pF:bi prog 172=1:=by kernel_rfl
def ayM:= @jQ _ _ _ AO rfl
def asa:= @DN _ _ pF
theorem af0:aP prog 174=some (.struct):=by kernel_rfl
theorem Y5:bi prog 174=3:=by kernel_rfl
theorem aB5: ∀ {xs:List AV} {off:Nat},part prog xs 174 off=if off+3<=xs.length then some (.agg ((xs.drop off).take 3))else none:=xA af0 Y5
theorem aIp: ∀ {h:Heap} {id:Id} {off:Nat} {ys:List AV},ys.length=3->iK prog 174 h (.ptr id off 0) (.agg ys)=(h.get id).bind (ry prog 174 h id off ys):=yV Y5 (by decide)
theorem af4:aP prog 236=some (.struct):=by kernel_rfl
theorem V8:bi prog 236=5:=by kernel_rfl
theorem aw3: ∀ {xs:List AV} {off:Nat},part prog xs 236 off=if off+5<=xs.length then some (.agg ((xs.drop off).take 5))else none:=xA af4 V8
theorem aq7: ∀ {h:Heap} {id:Id} {off:Nat} {ys:List AV},ys.length=5->iK prog 236 h (.ptr id off 0) (.agg ys)=(h.get id).bind (ry prog 236 h id off ys):=yV V8 (by decide)
theorem ag3:aP prog 260=some (.struct):=by kernel_rfl
theorem abH:bi prog 260=2:=by kernel_rfl
theorem aKu: ∀ {xs:List AV} {off:Nat},part prog xs 260 off=if off+2<=xs.length then some (.agg ((xs.drop off).take 2))else none:=xA ag3 abH
theorem aoO: ∀ {h:Heap} {id:Id} {off:Nat} {ys:List AV},ys.length=2->iK prog 260 h (.ptr id off 0) (.agg ys)=(h.get id).bind (ry prog 260 h id off ys):=yV abH (by decide)
theorem Mc:dh prog 28 0=some (0,3):=by kernel_rfl
def ay1:= @eu _ _ _ _ _ _ Mc iG (by decide)
def aIU:= @eG _ _ _ _ _ _ Mc iG (by decide)
theorem Pi:dh prog 28 1=some (1,22):=by kernel_rfl
def avu:= @eu _ _ _ _ _ _ Pi xQ (by decide)
def aBu:= @eG _ _ _ _ _ _ Pi xQ (by decide)
theorem Oi:dh prog 28 2=some (2,24):=by kernel_rfl
def ayj:= @eu _ _ _ _ _ _ Oi CJ (by decide)
def asc:= @eG _ _ _ _ _ _ Oi CJ (by decide)
theorem KQ:dh prog 28 3=some (3,25):=by kernel_rfl
def aB0:= @eu _ _ _ _ _ _ KQ Fv (by decide)
def au8:= @eG _ _ _ _ _ _ KQ Fv (by decide)
theorem Ji:dh prog 28 4=some (4,26):=by kernel_rfl
def ays:= @eu _ _ _ _ _ _ Ji CB (by decide)
def aLz:= @eG _ _ _ _ _ _ Ji CB (by decide)
theorem Ul:dh prog 30 9=some (9,23):=by kernel_rfl
def az2:= @eu _ _ _ _ _ _ Ul E5 (by decide)
def aKy:= @eG _ _ _ _ _ _ Ul E5 (by decide)
theorem UN:dh prog 30 10=some (10,23):=by kernel_rfl
def ao7:= @eu _ _ _ _ _ _ UN E5 (by decide)
def aIX:= @eG _ _ _ _ _ _ UN E5 (by decide)
theorem Uy:dh prog 30 12=some (12,4):=by kernel_rfl
def aHp:= @eu _ _ _ _ _ _ Uy jy (by decide)
def aFC:= @eG _ _ _ _ _ _ Uy jy (by decide)
theorem YF:dh prog 30 13=some (13,4):=by kernel_rfl
def ayD:= @eu _ _ _ _ _ _ YF jy (by decide)
def aoM:= @eG _ _ _ _ _ _ YF jy (by decide)
theorem abd:dh prog 30 14=some (14,4):=by kernel_rfl
def as1:= @eu _ _ _ _ _ _ abd jy (by decide)
def avX:= @eG _ _ _ _ _ _ abd jy (by decide)
theorem abC:dh prog 30 15=some (15,3):=by kernel_rfl
def axf:= @eu _ _ _ _ _ _ abC iG (by decide)
def aoY:= @eG _ _ _ _ _ _ abC iG (by decide)
theorem Ik:dh prog 51 0=some (0,3):=by kernel_rfl
def aED:= @eu _ _ _ _ _ _ Ik iG (by decide)
def aMe:= @eG _ _ _ _ _ _ Ik iG (by decide)
theorem anl: ∀ {xs:List AV},CU prog 51 0 (.agg xs)=part prog xs 3 0:=abV Ik
theorem IK:dh prog 51 1=some (1,22):=by kernel_rfl
def aBw:= @eu _ _ _ _ _ _ IK xQ (by decide)
def ayn:= @eG _ _ _ _ _ _ IK xQ (by decide)
theorem apu: ∀ {xs:List AV},CU prog 51 1 (.agg xs)=part prog xs 22 1:=abV IK
theorem Qm:dh prog 51 2=some (2,4):=by kernel_rfl
def aB4:= @eu _ _ _ _ _ _ Qm jy (by decide)
def apy:= @eG _ _ _ _ _ _ Qm jy (by decide)
theorem Qo:dh prog 51 3=some (3,28):=by kernel_rfl
def aDH:= @eu _ _ _ _ _ _ Qo xE (by decide)
def aw1:= @eG _ _ _ _ _ _ Qo xE (by decide)
theorem KU:dh prog 61 0=some (0,3):=by kernel_rfl
def aBt:= @eu _ _ _ _ _ _ KU iG (by decide)
def aLo:= @eG _ _ _ _ _ _ KU iG (by decide)
theorem P5:dh prog 61 1=some (1,30):=by kernel_rfl
def aGG:= @eu _ _ _ _ _ _ P5 wF (by decide)
def aAh:= @eG _ _ _ _ _ _ P5 wF (by decide)
theorem MQ:dh prog 61 2=some (37,31):=by kernel_rfl
def aAD:= @eu _ _ _ _ _ _ MQ Ew (by decide)
def azu:= @eG _ _ _ _ _ _ MQ Ew (by decide)
theorem KX:dh prog 61 3=some (38,28):=by kernel_rfl
def aEX:= @eu _ _ _ _ _ _ KX xE (by decide)
def ari:= @eG _ _ _ _ _ _ KX xE (by decide)
theorem Ox:dh prog 61 4=some (43,3):=by kernel_rfl
def aDN:= @eu _ _ _ _ _ _ Ox iG (by decide)
def aw4:= @eG _ _ _ _ _ _ Ox iG (by decide)
theorem aaV:dh prog 90 0=some (0,84):=by kernel_rfl
def aA5:= @eu _ _ _ _ _ _ aaV Vh (by decide)
def axG:= @eG _ _ _ _ _ _ aaV Vh (by decide)
theorem UE:dh prog 90 1=some (1,85):=by kernel_rfl
def aIK:= @eu _ _ _ _ _ _ UE Vf (by decide)
def ayk:= @eG _ _ _ _ _ _ UE Vf (by decide)
theorem Y7:dh prog 90 2=some (2,86):=by kernel_rfl
def aDy:= @eu _ _ _ _ _ _ Y7 abm (by decide)
def aA1:= @eG _ _ _ _ _ _ Y7 abm (by decide)
theorem WF:dh prog 90 3=some (3,87):=by kernel_rfl
def aBV:= @eu _ _ _ _ _ _ WF VU (by decide)
def azY:= @eG _ _ _ _ _ _ WF VU (by decide)
theorem aac:dh prog 90 4=some (4,88):=by kernel_rfl
def an7:= @eu _ _ _ _ _ _ aac Y6 (by decide)
def ao8:= @eG _ _ _ _ _ _ aac Y6 (by decide)
theorem KJ:dh prog 132 0=some (0,3):=by kernel_rfl
def ar1:= @eu _ _ _ _ _ _ KJ iG (by decide)
def arF:= @eG _ _ _ _ _ _ KJ iG (by decide)
theorem P8:dh prog 132 1=some (1,30):=by kernel_rfl
def awY:= @eu _ _ _ _ _ _ P8 wF (by decide)
def aoh:= @eG _ _ _ _ _ _ P8 wF (by decide)
theorem MF:dh prog 132 2=some (37,46):=by kernel_rfl
def aBz:= @eu _ _ _ _ _ _ MF Ea (by decide)
def arj:= @eG _ _ _ _ _ _ MF Ea (by decide)
theorem QL:dh prog 132 3=some (38,3):=by kernel_rfl
def aKr:= @eu _ _ _ _ _ _ QL iG (by decide)
def aq2:= @eG _ _ _ _ _ _ QL iG (by decide)
theorem Pq:dh prog 174 0=some (0,4):=by kernel_rfl
def aq4:= @eu _ _ _ _ _ _ Pq jy (by decide)
def aKS:= @eG _ _ _ _ _ _ Pq jy (by decide)
theorem Qn:dh prog 174 1=some (1,3):=by kernel_rfl
def aHE:= @eu _ _ _ _ _ _ Qn iG (by decide)
def aHQ:= @eG _ _ _ _ _ _ Qn iG (by decide)
theorem PZ:dh prog 174 2=some (2,172):=by kernel_rfl
def azE:= @eu _ _ _ _ _ _ PZ pF (by decide)
def aMj:= @eG _ _ _ _ _ _ PZ pF (by decide)
theorem QD:dh prog 236 0=some (0,4):=by kernel_rfl
def aFr:= @eu _ _ _ _ _ _ QD jy (by decide)
def axb:= @eG _ _ _ _ _ _ QD jy (by decide)
theorem Qe:dh prog 236 1=some (1,4):=by kernel_rfl
def apv:= @eu _ _ _ _ _ _ Qe jy (by decide)
def ant:= @eG _ _ _ _ _ _ Qe jy (by decide)
theorem Me:dh prog 236 2=some (2,4):=by kernel_rfl
def atX:= @eu _ _ _ _ _ _ Me jy (by decide)
def aEI:= @eG _ _ _ _ _ _ Me jy (by decide)
theorem QK:dh prog 236 3=some (3,3):=by kernel_rfl
def aw5:= @eu _ _ _ _ _ _ QK iG (by decide)
def aqg:= @eG _ _ _ _ _ _ QK iG (by decide)
theorem OX:dh prog 236 4=some (4,172):=by kernel_rfl
def amV:= @eu _ _ _ _ _ _ OX pF (by decide)
def aFi:= @eG _ _ _ _ _ _ OX pF (by decide)
theorem Qs:dh prog 260 0=some (0,172):=by kernel_rfl
def aoA:= @eu _ _ _ _ _ _ Qs pF (by decide)
def ayG:= @eG _ _ _ _ _ _ Qs pF (by decide)
theorem MW:dh prog 260 1=some (1,172):=by kernel_rfl
def aqA:= @eu _ _ _ _ _ _ MW pF (by decide)
def aMu:= @eG _ _ _ _ _ _ MW pF (by decide)
def auK:= @Aa _ _ _ Ir ac0
theorem aIj:gq prog 28 0=some (0,1):= @iy _ _ _ _ _ _ Mc iG
theorem aKo:gq prog 28 1=some (1,1):= @iy _ _ _ _ _ _ Pi xQ
theorem atJ:gq prog 28 2=some (2,1):= @iy _ _ _ _ _ _ Oi CJ
theorem aEa:gq prog 28 3=some (3,1):= @iy _ _ _ _ _ _ KQ Fv
theorem aK4:gq prog 28 4=some (4,1):= @iy _ _ _ _ _ _ Ji CB
def aIG:= @Aa _ _ _ I5 adb
theorem aD1:gq prog 51 0=some (0,1):= @iy _ _ _ _ _ _ Ik iG
theorem aEw:gq prog 51 1=some (1,1):= @iy _ _ _ _ _ _ IK xQ
theorem anj:gq prog 51 2=some (2,1):= @iy _ _ _ _ _ _ Qm jy
theorem aCC:gq prog 51 3=some (3,5):= @iy _ _ _ _ _ _ Qo xE
theorem aIu:dG prog 61=some [.v (.int .i64 0),.v (.int .i64 0),.v (.slice none 0 0),.v (.bool false),.v (.bool false),.v (.bool false),.v (.bool false),.v (.bool false),.v (.slice none 0 0),.v (.bool false),.v (.int .u32 0),.v (.int .u32 0),.v (.int .u32 0),.v (.bool false),.v (.bool false),.v (.bool false),.v (.int .i64 0),.v (.int .i64 0),.v (.bool false),.v (.bool false),.v (.int .i64 0),.v (.slice none 0 0),.v (.slice none 0 0),.v (.slice none 0 0),.v (.slice none 0 0),.v (.int .i64 0),.v (.bool false),.v (.bool false),.v (.int .i64 0),.v (.int .i64 0),.v (.int .i64 0),.v (.bool false),.v (.int .i64 0),.v (.slice none 0 0),.v (.slice none 0 0),.v (.slice none 0 0),.v (.slice none 0 0),.v (.slice none 0 0),.v (.int .i64 0),.v (.slice none 0 0),.v (.slice none 0 0),.v (.slice none 0 0),.v (.slice none 0 0),.v (.int .i64 0)]:=by kernel_rfl
def aEf:= @Aa _ _ _ aIu amE
theorem aCj:gq prog 61 0=some (0,1):= @iy _ _ _ _ _ _ KU iG
theorem ap6:gq prog 61 1=some (1,36):= @iy _ _ _ _ _ _ P5 wF
theorem at1:gq prog 61 2=some (37,1):= @iy _ _ _ _ _ _ MQ Ew
theorem aMo:gq prog 61 3=some (38,5):= @iy _ _ _ _ _ _ KX xE
theorem aBF:gq prog 61 4=some (43,1):= @iy _ _ _ _ _ _ Ox iG
theorem aaZ:dG prog 132=some [.v (.int .i64 0),.v (.int .i64 0),.v (.slice none 0 0),.v (.bool false),.v (.bool false),.v (.bool false),.v (.bool false),.v (.bool false),.v (.slice none 0 0),.v (.bool false),.v (.int .u32 0),.v (.int .u32 0),.v (.int .u32 0),.v (.bool false),.v (.bool false),.v (.bool false),.v (.int .i64 0),.v (.int .i64 0),.v (.bool false),.v (.bool false),.v (.int .i64 0),.v (.slice none 0 0),.v (.slice none 0 0),.v (.slice none 0 0),.v (.slice none 0 0),.v (.int .i64 0),.v (.bool false),.v (.bool false),.v (.int .i64 0),.v (.int .i64 0),.v (.int .i64 0),.v (.bool false),.v (.int .i64 0),.v (.slice none 0 0),.v (.slice none 0 0),.v (.slice none 0 0),.v (.slice none 0 0),.v (.slice none 0 0),.v (.int .i64 0)]:=by kernel_rfl
def amY:= @Aa _ _ _ aaZ aeR
theorem aDd:gq prog 132 0=some (0,1):= @iy _ _ _ _ _ _ KJ iG
theorem asM:gq prog 132 1=some (1,36):= @iy _ _ _ _ _ _ P8 wF
theorem aCR:gq prog 132 2=some (37,1):= @iy _ _ _ _ _ _ MF Ea
theorem ar6:gq prog 132 3=some (38,1):= @iy _ _ _ _ _ _ QL iG
theorem aaS:dG prog 174=some [.v (.bool false),.v (.int .i64 0),.v (.int .u64 0)]:=by kernel_rfl
def ap7:= @Aa _ _ _ aaS af0
theorem aKP:gq prog 174 0=some (0,1):= @iy _ _ _ _ _ _ Pq jy
theorem anz:gq prog 174 1=some (1,1):= @iy _ _ _ _ _ _ Qn iG
theorem asQ:gq prog 174 2=some (2,1):= @iy _ _ _ _ _ _ PZ pF
theorem Ui:dG prog 236=some [.v (.bool false),.v (.bool false),.v (.bool false),.v (.int .i64 0),.v (.int .u64 0)]:=by kernel_rfl
def aue:= @Aa _ _ _ Ui af4
theorem atY:gq prog 236 0=some (0,1):= @iy _ _ _ _ _ _ QD jy
theorem axW:gq prog 236 1=some (1,1):= @iy _ _ _ _ _ _ Qe jy
theorem ato:gq prog 236 2=some (2,1):= @iy _ _ _ _ _ _ Me jy
theorem axE:gq prog 236 3=some (3,1):= @iy _ _ _ _ _ _ QK iG
theorem azN:gq prog 236 4=some (4,1):= @iy _ _ _ _ _ _ OX pF
theorem Xv:dG prog 260=some [.v (.int .u64 0),.v (.int .u64 0)]:=by kernel_rfl
def aKH:= @Aa _ _ _ Xv ag3
theorem auS:gq prog 260 0=some (0,1):= @iy _ _ _ _ _ _ Qs pF
theorem aHq:gq prog 260 1=some (1,1):= @iy _ _ _ _ _ _ MW pF
def al3:= @wI _ _ _ Iz
def aq3:= @xI _ _ _ Iz
def aLS:= @wI _ _ _ Ir
def azb:= @xI _ _ _ Ir
theorem ah5:dG prog 30=some [.v (.int .i64 0),.v (.slice none 0 0),.v (.bool false),.v (.bool false),.v (.bool false),.v (.bool false),.v (.bool false),.v (.slice none 0 0),.v (.bool false),.v (.int .u32 0),.v (.int .u32 0),.v (.int .u32 0),.v (.bool false),.v (.bool false),.v (.bool false),.v (.int .i64 0),.v (.int .i64 0),.v (.bool false),.v (.bool false),.v (.int .i64 0),.v (.slice none 0 0),.v (.slice none 0 0),.v (.slice none 0 0),.v (.slice none 0 0),.v (.int .i64 0),.v (.bool false),.v (.bool false),.v (.int .i64 0),.v (.int .i64 0),.v (.int .i64 0),.v (.bool false),.v (.int .i64 0),.v (.slice none 0 0),.v (.slice none 0 0),.v (.slice none 0 0),.v (.slice none 0 0)]:=by kernel_rfl
def aFH:= @wI _ _ _ ah5
def aAa:= @xI _ _ _ ah5
def azP:= @wI _ _ _ I5
def asP:= @xI _ _ _ I5
theorem afq:dG prog 90=some [.v .nilFunc,.v .nilFunc,.v .nilFunc,.v .nilFunc,.v .nilFunc]:=by kernel_rfl
def ass:= @wI _ _ _ afq
def aDx:= @xI _ _ _ afq
def aAm:= @wI _ _ _ aaZ
def aAC:= @xI _ _ _ aaZ
def aJi:= @wI _ _ _ aaS
def aDB:= @xI _ _ _ aaS
def avq:= @wI _ _ _ Ui
def ayp:= @xI _ _ _ Ui
def aoI:= @wI _ _ _ Xv
def aMx:= @xI _ _ _ Xv
theorem ab4: ∀ {op:BinOp} {a b:Bool},nU prog op 4 (.v (.bool a)) (.v (.bool b))=Eg op a b:=aJh tv4
theorem aCd: ∀ {a0 a1 b0 b1:Int},nU prog .eql 260 (.agg [.v (.int .u64 a0),.v (.int .u64 a1)]) (.agg [.v (.int .u64 b0),.v (.int .u64 b1)])=some (.v (.bool (a0==b0&&(a1==b1)))):=by intro a0 a1 b0 b1;refine Eq.trans (b:=some (.v (.bool (a0==b0&&(a1==b1&&true))))) (by kernel_rfl) (by rw[Bool.and_true])
theorem aDS: ∀ {k':IntKind} {z:Int},qO prog 2 172 (.v (.int k' z))=some (.v (.int .u64 (wk .u64 z))):=yU OE AO
theorem aCP: ∀ {k':IntKind} {z:Int},qO prog 3 172 (.v (.int k' z))=some (.v (.int .u64 (wk .u64 z))):=yU OJ AO
theorem aES: ∀ {k':IntKind} {z:Int},qO prog 5 3 (.v (.int k' z))=some (.v (.int .i64 (wk .i64 z))):=yU TN OJ
theorem atF: ∀ {k':IntKind} {z:Int},qO prog 23 3 (.v (.int k' z))=some (.v (.int .i64 (wk .i64 z))):=yU KH OJ
theorem aIH: ∀ {k':IntKind} {z:Int},qO prog 23 172 (.v (.int k' z))=some (.v (.int .u64 (wk .u64 z))):=yU KH AO
theorem avj: ∀ {k':IntKind} {z:Int},qO prog 172 2 (.v (.int k' z))=some (.v (.int .i64 (wk .i64 z))):=yU AO OE
theorem an0: ∀ {k':IntKind} {z:Int},qO prog 172 5 (.v (.int k' z))=some (.v (.int .u8 (wk .u8 z))):=yU AO TN
theorem aA0: ∀ {k':IntKind} {z:Int},qO prog 172 23 (.v (.int k' z))=some (.v (.int .u32 (wk .u32 z))):=yU AO KH
theorem aMy:kU prog 4 22=[2]:=by kernel_rfl
theorem aKt:typed prog 22 (.v (.slice none 0 0))= .fresh 1 0 []:=Dv aMy
theorem axZ:kU prog 4 24=[2]:=by kernel_rfl
theorem aJo:typed prog 24 (.v (.slice none 0 0))= .fresh 1 0 []:=Dv axZ
theorem aJE:kU prog 4 25=[2]:=by kernel_rfl
theorem auv:typed prog 25 (.v (.slice none 0 0))= .fresh 1 0 []:=Dv aJE
theorem apl:kU prog 4 26=[2]:=by kernel_rfl
theorem avb:typed prog 26 (.v (.slice none 0 0))= .fresh 1 0 []:=Dv apl
theorem aGb:kU prog 4 28=[0,2,2,2,2]:=by kernel_rfl
theorem aBg: ∀ {xs:List AV},typed prog 28 (.agg xs)= .agg (dM xs [0,2,2,2,2]):=Gu aGb
theorem aIw:kU prog 4 46=[9]:=by kernel_rfl
theorem aKl:typed prog 46 (.v (.slice none 0 0))= .fresh 8 0 []:=Dv aIw
theorem aE1:kU prog 4 51=[0,2,0,0,2,2,2,2]:=by kernel_rfl
theorem aHI: ∀ {xs:List AV},typed prog 51 (.agg xs)= .agg (dM xs [0,2,0,0,2,2,2,2]):=Gu aE1
theorem aGS:kU prog 4 77=[2]:=by kernel_rfl
theorem aEm:typed prog 77 (.v (.slice none 0 0))= .fresh 1 0 []:=Dv aGS
theorem am1:kU prog 4 174=[0,0,0]:=by kernel_rfl
theorem aF3: ∀ {xs:List AV},typed prog 174 (.agg xs)= .agg (dM xs [0,0,0]):=Gu am1
theorem am8:kU prog 4 236=[0,0,0,0,0]:=by kernel_rfl
theorem aIC: ∀ {xs:List AV},typed prog 236 (.agg xs)= .agg (dM xs [0,0,0,0,0]):=Gu am8
theorem awU:kU prog 4 260=[0,0]:=by kernel_rfl
theorem az1: ∀ {xs:List AV},typed prog 260 (.agg xs)= .agg (dM xs [0,0]):=Gu awU
theorem Ue{x:T_Tensor}:bV x=[.v (.int .i64 x.fType),.arr x.fDims.length (lm (ik .i64) x.fDims),.arr x.fF.length (lm (ik .u32) x.fF),.arr x.fI.length (lm (ik .i64) x.fI),.arr x.fB.length (lm (bk) x.fB)]:=rfl
theorem XT{x:T_Setting}:dL x=[.v (.int .i64 x.fAxis),.arr x.fAxes.length (lm (ik .i64) x.fAxes),.v (.bool x.fHasAxes),.v (.bool x.fKeep),.v (.bool x.fNoop),.v (.bool x.fLast),.v (.bool x.fZero),.arr x.fPerm.length (lm (ik .i64) x.fPerm),.v (.bool x.fHasPerm),.v (.int .u32 x.fAlpha),.v (.int .u32 x.fBeta),.v (.int .u32 x.fEpsilon),.v (.bool x.fLow),.v (.bool x.fHigh),.v (.bool x.fFmod),.v (.int .i64 x.fTo),.v (.int .i64 x.fMode),.v (.bool x.fTransA),.v (.bool x.fTransB),.v (.int .i64 x.fGroup),.arr x.fKernel.length (lm (ik .i64) x.fKernel),.arr x.fStrides.length (lm (ik .i64) x.fStrides),.arr x.fPads.length (lm (ik .i64) x.fPads),.arr x.fDilations.length (lm (ik .i64) x.fDilations),.v (.int .i64 x.fAuto),.v (.bool x.fCeil),.v (.bool x.fCount),.v (.int .i64 x.fBlock),.v (.int .i64 x.fStart),.v (.int .i64 x.fEnd),.v (.bool x.fHasEnd),.v (.int .i64 x.fValue.fType),.arr x.fValue.fDims.length (lm (ik .i64) x.fValue.fDims),.arr x.fValue.fF.length (lm (ik .u32) x.fValue.fF),.arr x.fValue.fI.length (lm (ik .i64) x.fValue.fI),.arr x.fValue.fB.length (lm (bk) x.fValue.fB)]:=rfl
theorem XE{x:aQ}:cO x=[.v (.int .i64 x.fType),.arr x.fDims.length (lm (ik .i64) x.fDims),.v (.bool x.fConst),.v (.int .i64 x.fT.fType),.arr x.fT.fDims.length (lm (ik .i64) x.fT.fDims),.arr x.fT.fF.length (lm (ik .u32) x.fT.fF),.arr x.fT.fI.length (lm (ik .i64) x.fT.fI),.arr x.fT.fB.length (lm (bk) x.fT.fB)]:=rfl
theorem Ym{x:aX}:bK x=[.v (.int .i64 x.fop),.v (.int .i64 x.fs.fAxis),.arr x.fs.fAxes.length (lm (ik .i64) x.fs.fAxes),.v (.bool x.fs.fHasAxes),.v (.bool x.fs.fKeep),.v (.bool x.fs.fNoop),.v (.bool x.fs.fLast),.v (.bool x.fs.fZero),.arr x.fs.fPerm.length (lm (ik .i64) x.fs.fPerm),.v (.bool x.fs.fHasPerm),.v (.int .u32 x.fs.fAlpha),.v (.int .u32 x.fs.fBeta),.v (.int .u32 x.fs.fEpsilon),.v (.bool x.fs.fLow),.v (.bool x.fs.fHigh),.v (.bool x.fs.fFmod),.v (.int .i64 x.fs.fTo),.v (.int .i64 x.fs.fMode),.v (.bool x.fs.fTransA),.v (.bool x.fs.fTransB),.v (.int .i64 x.fs.fGroup),.arr x.fs.fKernel.length (lm (ik .i64) x.fs.fKernel),.arr x.fs.fStrides.length (lm (ik .i64) x.fs.fStrides),.arr x.fs.fPads.length (lm (ik .i64) x.fs.fPads),.arr x.fs.fDilations.length (lm (ik .i64) x.fs.fDilations),.v (.int .i64 x.fs.fAuto),.v (.bool x.fs.fCeil),.v (.bool x.fs.fCount),.v (.int .i64 x.fs.fBlock),.v (.int .i64 x.fs.fStart),.v (.int .i64 x.fs.fEnd),.v (.bool x.fs.fHasEnd),.v (.int .i64 x.fs.fValue.fType),.arr x.fs.fValue.fDims.length (lm (ik .i64) x.fs.fValue.fDims),.arr x.fs.fValue.fF.length (lm (ik .u32) x.fs.fValue.fF),.arr x.fs.fValue.fI.length (lm (ik .i64) x.fs.fValue.fI),.arr x.fs.fValue.fB.length (lm (bk) x.fs.fValue.fB),.arr x.fin.length (fm cO x.fin),.v (.int .i64 x.fouts)]:=rfl
theorem WQ{x:dN}:kN x=[.v (.int .i64 x.fop),.v (.int .i64 x.fs.fAxis),.arr x.fs.fAxes.length (lm (ik .i64) x.fs.fAxes),.v (.bool x.fs.fHasAxes),.v (.bool x.fs.fKeep),.v (.bool x.fs.fNoop),.v (.bool x.fs.fLast),.v (.bool x.fs.fZero),.arr x.fs.fPerm.length (lm (ik .i64) x.fs.fPerm),.v (.bool x.fs.fHasPerm),.v (.int .u32 x.fs.fAlpha),.v (.int .u32 x.fs.fBeta),.v (.int .u32 x.fs.fEpsilon),.v (.bool x.fs.fLow),.v (.bool x.fs.fHigh),.v (.bool x.fs.fFmod),.v (.int .i64 x.fs.fTo),.v (.int .i64 x.fs.fMode),.v (.bool x.fs.fTransA),.v (.bool x.fs.fTransB),.v (.int .i64 x.fs.fGroup),.arr x.fs.fKernel.length (lm (ik .i64) x.fs.fKernel),.arr x.fs.fStrides.length (lm (ik .i64) x.fs.fStrides),.arr x.fs.fPads.length (lm (ik .i64) x.fs.fPads),.arr x.fs.fDilations.length (lm (ik .i64) x.fs.fDilations),.v (.int .i64 x.fs.fAuto),.v (.bool x.fs.fCeil),.v (.bool x.fs.fCount),.v (.int .i64 x.fs.fBlock),.v (.int .i64 x.fs.fStart),.v (.int .i64 x.fs.fEnd),.v (.bool x.fs.fHasEnd),.v (.int .i64 x.fs.fValue.fType),.arr x.fs.fValue.fDims.length (lm (ik .i64) x.fs.fValue.fDims),.arr x.fs.fValue.fF.length (lm (ik .u32) x.fs.fValue.fF),.arr x.fs.fValue.fI.length (lm (ik .i64) x.fs.fValue.fI),.arr x.fs.fValue.fB.length (lm (bk) x.fs.fValue.fB),.arr x.fin.length (fm bV x.fin),.v (.int .i64 x.fout.fType),.arr x.fout.fDims.length (lm (ik .i64) x.fout.fDims),.arr x.fout.fF.length (lm (ik .u32) x.fout.fF),.arr x.fout.fI.length (lm (ik .i64) x.fout.fI),.arr x.fout.fB.length (lm (bk) x.fout.fB),.v (.int .i64 x.fsize)]:=rfl
theorem Z7{x:dQ}:nR x=[.v (.bool x.fneg),.v (.int .i64 x.fexp),.v (.int .u64 x.fsig)]:=rfl
theorem Wn{x:gI}:rM x=[.v (.bool x.fneg),.v (.bool x.fnan),.v (.bool x.finf),.v (.int .i64 x.fexp),.v (.int .u64 x.fsig)]:=rfl
theorem Ti{x:bU}:fJ x=[.v (.int .u64 x.fhigh),.v (.int .u64 x.flow)]:=rfl
theorem ji:jg bV:=by
  intro a b h
  obtain⟨a0,a1,a2,a3,a4⟩:=a
  obtain⟨b0,b1,b2,b3,b4⟩:=b
  simp only[Ue,gB]at h
  simp_all
theorem jV:jg dL:=by
  intro a b h
  obtain⟨a0,a1,a2,a3,a4,a5,a6,a7,a8,a9,a10,a11,a12,a13,a14,a15,a16,a17,a18,a19,a20,a21,a22,a23,a24,a25,a26,a27,a28,a29,a30,⟨a_310,a_311,a_312,a_313,a_314⟩⟩:=a
  obtain⟨b0,b1,b2,b3,b4,b5,b6,b7,b8,b9,b10,b11,b12,b13,b14,b15,b16,b17,b18,b19,b20,b21,b22,b23,b24,b25,b26,b27,b28,b29,b30,⟨b_310,b_311,b_312,b_313,b_314⟩⟩:=b
  simp only[XT,gB,@fE _ _ ji,@fG _ _ (fH (bD kE (by decide) ji)),@fC _ _ (bD kE (by decide) ji)]at h
  simp_all
theorem lW:jg cO:=by
  intro a b h
  obtain⟨a0,a1,a2,⟨a_30,a_31,a_32,a_33,a_34⟩⟩:=a
  obtain⟨b0,b1,b2,⟨b_30,b_31,b_32,b_33,b_34⟩⟩:=b
  simp only[XE,gB,@fE _ _ ji,@fG _ _ (fH (bD kE (by decide) ji)),@fC _ _ (bD kE (by decide) ji),@fE _ _ jV,@fG _ _ (fH (bD nC (by decide) jV)),@fC _ _ (bD nC (by decide) jV)]at h
  simp_all
theorem og:jg bK:=by
  intro a b h
  obtain⟨a0,⟨a_10,a_11,a_12,a_13,a_14,a_15,a_16,a_17,a_18,a_19,a_110,a_111,a_112,a_113,a_114,a_115,a_116,a_117,a_118,a_119,a_120,a_121,a_122,a_123,a_124,a_125,a_126,a_127,a_128,a_129,a_130,⟨a_1_310,a_1_311,a_1_312,a_1_313,a_1_314⟩⟩,a2,a3⟩:=a
  obtain⟨b0,⟨b_10,b_11,b_12,b_13,b_14,b_15,b_16,b_17,b_18,b_19,b_110,b_111,b_112,b_113,b_114,b_115,b_116,b_117,b_118,b_119,b_120,b_121,b_122,b_123,b_124,b_125,b_126,b_127,b_128,b_129,b_130,⟨b_1_310,b_1_311,b_1_312,b_1_313,b_1_314⟩⟩,b2,b3⟩:=b
  simp only[Ym,gB,@fE _ _ ji,@fG _ _ (fH (bD kE (by decide) ji)),@fC _ _ (bD kE (by decide) ji),@fE _ _ jV,@fG _ _ (fH (bD nC (by decide) jV)),@fC _ _ (bD nC (by decide) jV),@fE _ _ lW,@fG _ _ (fH (bD gG (by decide) lW)),@fC _ _ (bD gG (by decide) lW)]at h
  simp_all
theorem qQ:jg kN:=by
  intro a b h
  obtain⟨a0,⟨a_10,a_11,a_12,a_13,a_14,a_15,a_16,a_17,a_18,a_19,a_110,a_111,a_112,a_113,a_114,a_115,a_116,a_117,a_118,a_119,a_120,a_121,a_122,a_123,a_124,a_125,a_126,a_127,a_128,a_129,a_130,⟨a_1_310,a_1_311,a_1_312,a_1_313,a_1_314⟩⟩,a2,⟨a_30,a_31,a_32,a_33,a_34⟩,a4⟩:=a
  obtain⟨b0,⟨b_10,b_11,b_12,b_13,b_14,b_15,b_16,b_17,b_18,b_19,b_110,b_111,b_112,b_113,b_114,b_115,b_116,b_117,b_118,b_119,b_120,b_121,b_122,b_123,b_124,b_125,b_126,b_127,b_128,b_129,b_130,⟨b_1_310,b_1_311,b_1_312,b_1_313,b_1_314⟩⟩,b2,⟨b_30,b_31,b_32,b_33,b_34⟩,b4⟩:=b
  simp only[WQ,gB,@fE _ _ ji,@fG _ _ (fH (bD kE (by decide) ji)),@fC _ _ (bD kE (by decide) ji),@fE _ _ jV,@fG _ _ (fH (bD nC (by decide) jV)),@fC _ _ (bD nC (by decide) jV),@fE _ _ lW,@fG _ _ (fH (bD gG (by decide) lW)),@fC _ _ (bD gG (by decide) lW),@fE _ _ og,@fG _ _ (fH (bD qJ (by decide) og)),@fC _ _ (bD qJ (by decide) og)]at h
  simp_all
theorem xM:jg nR:=by
  intro a b h
  obtain⟨a0,a1,a2⟩:=a
  obtain⟨b0,b1,b2⟩:=b
  simp only[Z7,gB,@fE _ _ ji,@fG _ _ (fH (bD kE (by decide) ji)),@fC _ _ (bD kE (by decide) ji),@fE _ _ jV,@fG _ _ (fH (bD nC (by decide) jV)),@fC _ _ (bD nC (by decide) jV),@fE _ _ lW,@fG _ _ (fH (bD gG (by decide) lW)),@fC _ _ (bD gG (by decide) lW),@fE _ _ og,@fG _ _ (fH (bD qJ (by decide) og)),@fC _ _ (bD qJ (by decide) og),@fE _ _ qQ,@fG _ _ (fH (bD uz (by decide) qQ)),@fC _ _ (bD uz (by decide) qQ)]at h
  simp_all
theorem Di:jg rM:=by
  intro a b h
  obtain⟨a0,a1,a2,a3,a4⟩:=a
  obtain⟨b0,b1,b2,b3,b4⟩:=b
  simp only[Wn,gB,@fE _ _ ji,@fG _ _ (fH (bD kE (by decide) ji)),@fC _ _ (bD kE (by decide) ji),@fE _ _ jV,@fG _ _ (fH (bD nC (by decide) jV)),@fC _ _ (bD nC (by decide) jV),@fE _ _ lW,@fG _ _ (fH (bD gG (by decide) lW)),@fC _ _ (bD gG (by decide) lW),@fE _ _ og,@fG _ _ (fH (bD qJ (by decide) og)),@fC _ _ (bD qJ (by decide) og),@fE _ _ qQ,@fG _ _ (fH (bD uz (by decide) qQ)),@fC _ _ (bD uz (by decide) qQ),@fE _ _ xM,@fG _ _ (fH (bD xU (by decide) xM)),@fC _ _ (bD xU (by decide) xM)]at h
  simp_all
theorem Si:jg fJ:=by
  intro a b h
  obtain⟨a0,a1⟩:=a
  obtain⟨b0,b1⟩:=b
  simp only[Ti,gB,@fE _ _ ji,@fG _ _ (fH (bD kE (by decide) ji)),@fC _ _ (bD kE (by decide) ji),@fE _ _ jV,@fG _ _ (fH (bD nC (by decide) jV)),@fC _ _ (bD nC (by decide) jV),@fE _ _ lW,@fG _ _ (fH (bD gG (by decide) lW)),@fC _ _ (bD gG (by decide) lW),@fE _ _ og,@fG _ _ (fH (bD qJ (by decide) og)),@fC _ _ (bD qJ (by decide) og),@fE _ _ qQ,@fG _ _ (fH (bD uz (by decide) qQ)),@fC _ _ (bD uz (by decide) qQ),@fE _ _ xM,@fG _ _ (fH (bD xU (by decide) xM)),@fC _ _ (bD xU (by decide) xM),@fE _ _ Di,@fG _ _ (fH (bD DJ (by decide) Di)),@fC _ _ (bD DJ (by decide) Di)]at h
  simp_all
def TT0:=And.intro @ts2<|And.intro @pt2<|And.intro @st2<|And.intro @iG<|And.intro @pt3<|And.intro @st3<|And.intro @jy<|And.intro @pt4<|And.intro @sb4<|And.intro @ts5<|And.intro @pt5<|And.intro @st5<|And.intro @ts9<|And.intro @pt9<|And.intro @le9<|And.intro @ix9<|And.intro @xQ<|And.intro @azG<|And.intro @aKD<|And.intro @aFh<|And.intro @atQ<|And.intro @ayi<|And.intro @avH<|And.intro @aEJ<|And.intro @aBM<|And.intro @ano<|And.intro @ang<|And.intro @aLc<|And.intro @E5<|And.intro @atC<|And.intro @avC<|And.intro @CJ<|And.intro @awp<|And.intro @ax7<|And.intro @ay2<|And.intro @aza<|And.intro @aGy<|And.intro @aCG<|And.intro @auR<| @aC8
def TT1:=And.intro @arn<|And.intro @aHe<|And.intro @aqG<|And.intro @Fv<|And.intro @aBT<|And.intro @aHH<|And.intro @aDi<|And.intro @aIJ<|And.intro @mk25<|And.intro @aHM<|And.intro @axp<|And.intro @ax1<|And.intro @atc<|And.intro @CB<|And.intro @aDM<|And.intro @aqu<|And.intro @atK<|And.intro @awN<|And.intro @aGE<|And.intro @aAl<|And.intro @aCQ<|And.intro @aFW<|And.intro @at6<|And.intro @xE<|And.intro @aJX<|And.intro @avP<|And.intro @wF<|And.intro @aqT<|And.intro @aqv<|And.intro @Ew<|And.intro @aup<|And.intro @aG6<|And.intro @aCH<|And.intro @atw<|And.intro @aL6<|And.intro @aKT<|And.intro @aDF<|And.intro @azQ<|And.intro @arb<| @amj
def TT2:=And.intro @aoo<|And.intro @aBN<|And.intro @Ea<|And.intro @aqe<|And.intro @aqa<|And.intro @aoH<|And.intro @aCw<|And.intro @ay0<|And.intro @aJf<|And.intro @aDT<|And.intro @aDp<|And.intro @aJw<|And.intro @UJ<|And.intro @aHx<|And.intro @aMr<|And.intro @aj0<|And.intro @aFb<|And.intro @YJ<|And.intro @apj<|And.intro @aAI<|And.intro @aDe<|And.intro @axH<|And.intro @aEo<|And.intro @ay7<|And.intro @aIR<|And.intro @apU<|And.intro @aEB<|And.intro @Vh<|And.intro @aIl<|And.intro @Vf<|And.intro @aFd<|And.intro @abm<|And.intro @arM<|And.intro @VU<|And.intro @aAj<|And.intro @Y6<|And.intro @aGz<|And.intro @YB<|And.intro @aKk<| @ayu
def TT3:=And.intro @ZP<|And.intro @aw8<|And.intro @avw<|And.intro @pF<|And.intro @ayM<|And.intro @asa<|And.intro @Y5<|And.intro @aB5<|And.intro @aIp<|And.intro @V8<|And.intro @aw3<|And.intro @aq7<|And.intro @abH<|And.intro @aKu<|And.intro @aoO<|And.intro @Mc<|And.intro @ay1<|And.intro @aIU<|And.intro @Pi<|And.intro @avu<|And.intro @aBu<|And.intro @Oi<|And.intro @ayj<|And.intro @asc<|And.intro @KQ<|And.intro @aB0<|And.intro @au8<|And.intro @Ji<|And.intro @ays<|And.intro @aLz<|And.intro @Ul<|And.intro @az2<|And.intro @aKy<|And.intro @UN<|And.intro @ao7<|And.intro @aIX<|And.intro @Uy<|And.intro @aHp<|And.intro @aFC<| @YF
def TT4:=And.intro @ayD<|And.intro @aoM<|And.intro @abd<|And.intro @as1<|And.intro @avX<|And.intro @abC<|And.intro @axf<|And.intro @aoY<|And.intro @Ik<|And.intro @aED<|And.intro @aMe<|And.intro @anl<|And.intro @IK<|And.intro @aBw<|And.intro @ayn<|And.intro @apu<|And.intro @Qm<|And.intro @aB4<|And.intro @apy<|And.intro @Qo<|And.intro @aDH<|And.intro @aw1<|And.intro @KU<|And.intro @aBt<|And.intro @aLo<|And.intro @P5<|And.intro @aGG<|And.intro @aAh<|And.intro @MQ<|And.intro @aAD<|And.intro @azu<|And.intro @KX<|And.intro @aEX<|And.intro @ari<|And.intro @Ox<|And.intro @aDN<|And.intro @aw4<|And.intro @aaV<|And.intro @aA5<| @axG
def TT5:=And.intro @UE<|And.intro @aIK<|And.intro @ayk<|And.intro @Y7<|And.intro @aDy<|And.intro @aA1<|And.intro @WF<|And.intro @aBV<|And.intro @azY<|And.intro @aac<|And.intro @an7<|And.intro @ao8<|And.intro @KJ<|And.intro @ar1<|And.intro @arF<|And.intro @P8<|And.intro @awY<|And.intro @aoh<|And.intro @MF<|And.intro @aBz<|And.intro @arj<|And.intro @QL<|And.intro @aKr<|And.intro @aq2<|And.intro @Pq<|And.intro @aq4<|And.intro @aKS<|And.intro @Qn<|And.intro @aHE<|And.intro @aHQ<|And.intro @PZ<|And.intro @azE<|And.intro @aMj<|And.intro @QD<|And.intro @aFr<|And.intro @axb<|And.intro @Qe<|And.intro @apv<|And.intro @ant<| @Me
def TT6:=And.intro @atX<|And.intro @aEI<|And.intro @QK<|And.intro @aw5<|And.intro @aqg<|And.intro @OX<|And.intro @amV<|And.intro @aFi<|And.intro @Qs<|And.intro @aoA<|And.intro @ayG<|And.intro @MW<|And.intro @aqA<|And.intro @aMu<|And.intro @auK<|And.intro @aIj<|And.intro @aKo<|And.intro @atJ<|And.intro @aEa<|And.intro @aK4<|And.intro @aIG<|And.intro @aD1<|And.intro @aEw<|And.intro @anj<|And.intro @aCC<|And.intro @aEf<|And.intro @aCj<|And.intro @ap6<|And.intro @at1<|And.intro @aMo<|And.intro @aBF<|And.intro @amY<|And.intro @aDd<|And.intro @asM<|And.intro @aCR<|And.intro @ar6<|And.intro @ap7<|And.intro @aKP<|And.intro @anz<| @asQ
def TT7:=And.intro @aue<|And.intro @atY<|And.intro @axW<|And.intro @ato<|And.intro @axE<|And.intro @azN<|And.intro @aKH<|And.intro @auS<|And.intro @aHq<|And.intro @al3<|And.intro @aq3<|And.intro @aLS<|And.intro @azb<|And.intro @aFH<|And.intro @aAa<|And.intro @azP<|And.intro @asP<|And.intro @ass<|And.intro @aDx<|And.intro @aAm<|And.intro @aAC<|And.intro @aJi<|And.intro @aDB<|And.intro @avq<|And.intro @ayp<|And.intro @aoI<|And.intro @aMx<|And.intro @ab4<|And.intro @aCd<|And.intro @aDS<|And.intro @aCP<|And.intro @aES<|And.intro @atF<|And.intro @aIH<|And.intro @avj<|And.intro @an0<|And.intro @aA0<|And.intro @aKt<|And.intro @aJo<| @auv
def TT8:=And.intro @avb<|And.intro @aBg<|And.intro @aKl<|And.intro @aHI<|And.intro @aEm<|And.intro @aF3<|And.intro @aIC<|And.intro @az1<|And.intro @Ue<|And.intro (λl=> @lL _ bV l WM)<|And.intro @XT<|And.intro (λl=> @lL _ dL l abS)<|And.intro @XE<|And.intro (λl=> @lL _ cO l aa8)<|And.intro @Ym<|And.intro (λl=> @lL _ bK l ad6)<|And.intro @WQ<|And.intro (λl=> @lL _ kN l afw)<|And.intro @Z7<|And.intro (λl=> @lL _ nR l ai6)<|And.intro @Wn<|And.intro (λl=> @lL _ rM l amL)<|And.intro @Ti<|(λl=> @lL _ fJ l adr)
def TT:=And.intro @TT0<|And.intro @TT1<|And.intro @TT2<|And.intro @TT3<|And.intro @TT4<|And.intro @TT5<|And.intro @TT6<|And.intro @TT7<| @TT8
def OF:=And.intro (λl=> @lL _ bV l WM)<|And.intro (λl=> @lL _ dL l abS)<|And.intro (λl=> @lL _ cO l aa8)<|And.intro (λl=> @lL _ bK l ad6)<|And.intro (λl=> @lL _ kN l afw)<|And.intro (λl=> @lL _ nR l ai6)<|And.intro (λl=> @lL _ rM l amL)<|(λl=> @lL _ fJ l adr)
def NT:=And.intro @Ue<|And.intro @XT<|And.intro @XE<|And.intro @Ym<|And.intro @WQ<|And.intro @Z7<|And.intro @Wn<| @Ti
def OZ:=And.intro LN<|And.intro RO OF
theorem Zd{p:Prop}(h:p:=by first|assumption|decide|with_unfolding_all rfl|omega|simp only[OZ] <;> omega|fail):p:=h
theorem Ze{p:Prop}(h:p:=by first|rfl|(simp only[LN,NN,NT])):p:=h
theorem Zh{p:Prop}(h:p:=by first|(simp (disch:=first|exact Zd|fail) only[RR,simprocAttr,LN,NN,NT];done)|(simp (disch:=first|exact Zd|fail) only[RR,simprocAttr,LN,MC,NN,NT];done)|rfl):p:=h
def FN:=And.intro FF<|And.intro LN<|And.intro NN NT
theorem onf{e:Nat->Option AV}:az e (.const .nilFunc)=some (.v .nilFunc):=rfl
theorem aLY:AV.one (.v .nilFunc)=true:=rfl
theorem aE6{e:Nat->Option AV}:az e (.const .nilFunc)=some (.v .nilFunc):=rfl
def ZZ:=And.intro aLY<|And.intro @aE6<|And.intro @onf<|And.intro @UU<|And.intro RR<|And.intro RM<|And.intro LN<|And.intro TT RH
theorem Jc{β:Type}{m m':Option AV}{s:Option β}{enc:β->AV}(j:J m' s enc)(h:m=m':=by conv=>lhs;simp (disch:=first|exact Zd|fail) only[ZZ,simprocAttr, *]):J m s enc:=J.eq h j
theorem Js{p:Prop}(h:p:=by simp (maxSteps:=20000000) (disch:=first|exact Zd|fail) only[ZZ,simprocAttr,FN, *]):p:=h
def IJ:=And.intro (@fE _ _ ji)<|And.intro (@fG _ _ (fH (bD kE (by decide) ji)))<|And.intro (@fC _ _ (bD kE (by decide) ji))<|And.intro (@fE _ _ jV)<|And.intro (@fG _ _ (fH (bD nC (by decide) jV)))<|And.intro (@fC _ _ (bD nC (by decide) jV))<|And.intro (@fE _ _ lW)<|And.intro (@fG _ _ (fH (bD gG (by decide) lW)))<|And.intro (@fC _ _ (bD gG (by decide) lW))<|And.intro (@fE _ _ og)<|And.intro (@fG _ _ (fH (bD qJ (by decide) og)))<|And.intro (@fC _ _ (bD qJ (by decide) og))<|And.intro (@fE _ _ qQ)<|And.intro (@fG _ _ (fH (bD uz (by decide) qQ)))<|And.intro (@fC _ _ (bD uz (by decide) qQ))<|And.intro (@fE _ _ xM)<|And.intro (@fG _ _ (fH (bD xU (by decide) xM)))<|And.intro (@fC _ _ (bD xU (by decide) xM))<|And.intro (@fE _ _ Di)<|And.intro (@fG _ _ (fH (bD DJ (by decide) Di)))<|And.intro (@fC _ _ (bD DJ (by decide) Di))<|And.intro (@fE _ _ Si)<|And.intro (@fG _ _ (fH (bD LY (by decide) Si)))<|(@fC _ _ (bD LY (by decide) Si))
theorem Zi{p:Prop}(h:p:=by intro a b h;first|(exact rfl)|(simp only[gB,IJ]at h;first|exact h|(simp_all [Prod.ext_iff]))):p:=h
theorem iR{c:Prop}[Decidable c]{Q:AV->Prop}{F G:AV}(h1:Q F)(h2:Q G):Q (if c then F else G):=by split <;> assumption
def fQ(cp:af)(ys:List AV):AV→Option AV
  | .fn k first cap=>cp k (first++ys++cap)
  |_=>none
def JB{α:Type}(c:α→List AV):Option α→List AV
  |none=>[]
  |some s=>[.aF (c s) 0]
theorem bZ{c:Prop}[Decidable c]{β:Type}{A B:Option β}{r:β}{Q:AV→Prop}{F G:AV}(h1:A=some r→Q F)(h2:B=some r→Q G)(h:(if c then A else B)=some r):Q (if c then F else G):=by
  by_cases hc:c
  · rw[if_pos hc]at h ⊢;exact h1 h
  · rw[if_neg hc]at h ⊢;exact h2 h
theorem Hz{C:bn}{cp:af}{ci:bg}{lvl dd:Nat}{h:Heap}{k:FuncId}{cap:List AV}{u v:Value}(hi:C.inl k=false)(hc:bf cap)(hu: ∀ g,aG g 4 (.v u)=some (.v u):=by intro g;rfl)(hv: ∀ g,aG g 4 (.v v)=some (.v v):=by intro g;rfl):lG C cp ci lvl dd h (some [.v u,.v v]) (.fn k [] cap)=kG lvl dd h ((fQ cp [.v u,.v v] (.fn k [] cap)).map fun r=>(r,[])):=by
  rw[UU hi]
  have h1:aV (aG h.get 4) ([]++[AV.v u,.v v]++cap)=some ([AV.v u,.v v]++cap):=by
    simp only[List.nil_append,List.cons_append,GR,hu,hv,hc.e4,Option.bind_some]
  have h2:(([]++[AV.v u,.v v]++cap).map (aO h.get 4)).flatten=[]:=by
    simp[aO,hc.b4]
  unfold kJ
  rw[h1,h2]
  simp only[Option.bind_some,fQ,List.nil_append,List.isEmpty_nil,if_true]
  cases cp k ([AV.v u,.v v]++cap) <;> rfl
theorem IM{C:bn}{cp:af}{g:Id→Option ax}{k:FuncId}{cap:List AV}{u v:Value}(hi:C.inl k=false)(hc:bf cap)(hu: ∀ g,aG g 4 (.v u)=some (.v u):=by intro g;rfl)(hv: ∀ g,aG g 4 (.v v)=some (.v v):=by intro g;rfl):pY C cp g (some [.v u,.v v]) (.fn k [] cap)=fQ cp [.v u,.v v] (.fn k [] cap):=by
  rw[ajg hi]
  have h1:aV (aG g 4) ([]++[AV.v u,.v v]++cap)=some ([AV.v u,.v v]++cap):=by
    simp only[List.nil_append,List.cons_append,GR,hu,hv,hc.e4,Option.bind_some]
  have h2:(([]++[AV.v u,.v v]++cap).map (aO g 4)).flatten=[]:=by
    simp[aO,hc.b4]
  unfold kJ
  rw[h1,h2]
  simp only[Option.bind_some,fQ,List.nil_append,List.isEmpty_nil,if_true]
  cases cp k ([AV.v u,.v v]++cap) <;> rfl
def ZG:=And.intro ZZ<|And.intro RU<|And.intro @dZ<|And.intro @dS<|And.intro @Nat.sub_zero @Nat.zero_le
def ZN:=And.intro ZZ RU
theorem Jg{β:Type}{m m':Option AV}{s:Option β}{enc:β->AV}(j:J m' s enc)(h:m=m':=by conv=>lhs;try simp (maxSteps:=20000000) (disch:=first|exact Zd|fail) only[ZG,simprocAttr, *]):J m s enc:=J.eq h j
theorem Jn{β:Type}{m m':Option AV}{s:Option β}{enc:β->AV}{i:Nat}{ρ τ:Type}{r:ρ}{fj:τ->Option β}(j:J m' (jn i r fj s) enc)(h:m=m':=by conv=>lhs;simp (maxSteps:=20000000) (disch:=first|exact Zd|fail) only[ZN,simprocAttr, *]):J m (jn i r fj s) enc:=J.eq h j
theorem Jk{β:Type}{m m':Option AV}{s:Option β}{enc:β->AV}{i:Nat}{ρ τ:Type}{r:ρ}{fj:τ->Option β}(j:J m' (jc i r fj s) enc)(h:m=m':=by conv=>lhs;simp (maxSteps:=20000000) (disch:=first|exact Zd|fail) only[ZN,simprocAttr, *]):J m (jc i r fj s) enc:=J.eq h j
theorem Jl{β:Type}{m m':Option AV}{enc:β->AV}{σ:Type}{body:(σ->Option β)->σ->Option β}{k:Nat}{s0:σ}(j:J m' (bz body k s0) enc)(h:m=m':=by conv=>lhs;simp (maxSteps:=20000000) (disch:=first|exact Zd|fail) only[ZN,simprocAttr, *]):J m (bz body k s0) enc:=J.eq h j
theorem Jw{p:Prop}(h:p:=by simp (maxSteps:=20000000) (disch:=first|exact Zd|fail) only[ZG,simprocAttr,FN, *]):p:=h
theorem Zx{p:Prop}(h:p:=by first|rfl|(simp only[LN,NN,NT];done)|(simp (disch:=first|exact Zd|fail) only[RR,simprocAttr,LN,NN,NT];done)|(simp (disch:=first|exact Zd|fail) only[RR,simprocAttr,LN,MC,NN,NT];done)|(simp (maxSteps:=20000000) (disch:=first|exact Zd|fail) only[ZZ,simprocAttr,zi,zF,FN, *];done)|(simp (maxSteps:=20000000) (disch:=first|exact Zd|fail) only[ZZ,simprocAttr,zi,zF,MC,FN, *];done)):p:=h
theorem J.gi{β:Type}{m:Option AV}{s:Option β}{enc:β->AV}{c:Prop}{dd:Decidable c}{s1:Option β}(j:J m (if c then s else s1) enc):J m (if c then s else s1) enc:=j
theorem J.gj{β:Type}{m:Option AV}{s:Option β}{enc:β->AV}{i:Nat}{ρ τ:Type}{r:ρ}{fj:τ->Option β}(j:J m (jn i r fj s) enc):J m (jn i r fj s) enc:=j
theorem J.gk{β:Type}{m:Option AV}{s:Option β}{enc:β->AV}{i:Nat}{ρ τ:Type}{r:ρ}{fj:τ->Option β}(j:J m (jc i r fj s) enc):J m (jc i r fj s) enc:=j
theorem J.gl{β:Type}{m:Option AV}{enc:β->AV}{σ:Type}{body:(σ->Option β)->σ->Option β}{k:Nat}{s0:σ}(j:J m (bz body k s0) enc):J m (bz body k s0) enc:=j
theorem Wk{p:Prop}(h:p:=by repeat' first|with_reducible exact J.none|with_reducible refine J.chk λc=> ?_ |(with_reducible refine J.atI λr a b c d=> ?_;try simp only[Int.toNat_natCast,LN,Nat.sub_zero,Nat.zero_mul,Nat.zero_add,Nat.add_zero,List.drop_zero,simprocAttr]at b c d)|(with_reducible refine J.atB λr a b c d=> ?_;try simp only[Int.toNat_natCast,LN,Nat.sub_zero,Nat.zero_mul,Nat.zero_add,Nat.add_zero,List.drop_zero,simprocAttr]at b c d)|(with_reducible refine J.atL λr a b c d=> ?_;try simp only[Int.toNat_natCast,LN,Nat.sub_zero,Nat.zero_mul,Nat.zero_add,Nat.add_zero,List.drop_zero,simprocAttr]at b c d)|(with_reducible refine J.yF kE λr b c d=> ?_;try simp only[Int.toNat_natCast,LN,Nat.sub_zero,Nat.zero_mul,Nat.zero_add,Nat.add_zero,List.drop_zero,simprocAttr]at b c d)|(with_reducible refine J.zf kE λr a b c d=> ?_;try simp only[Int.toNat_natCast,LN,Nat.sub_zero,Nat.zero_mul,Nat.zero_add,Nat.add_zero,List.drop_zero,simprocAttr]at b c d)|(with_reducible refine J.yF nC λr b c d=> ?_;try simp only[Int.toNat_natCast,LN,Nat.sub_zero,Nat.zero_mul,Nat.zero_add,Nat.add_zero,List.drop_zero,simprocAttr]at b c d)|(with_reducible refine J.zf nC λr a b c d=> ?_;try simp only[Int.toNat_natCast,LN,Nat.sub_zero,Nat.zero_mul,Nat.zero_add,Nat.add_zero,List.drop_zero,simprocAttr]at b c d)|(with_reducible refine J.yF gG λr b c d=> ?_;try simp only[Int.toNat_natCast,LN,Nat.sub_zero,Nat.zero_mul,Nat.zero_add,Nat.add_zero,List.drop_zero,simprocAttr]at b c d)|(with_reducible refine J.zf gG λr a b c d=> ?_;try simp only[Int.toNat_natCast,LN,Nat.sub_zero,Nat.zero_mul,Nat.zero_add,Nat.add_zero,List.drop_zero,simprocAttr]at b c d)|(with_reducible refine J.yF qJ λr b c d=> ?_;try simp only[Int.toNat_natCast,LN,Nat.sub_zero,Nat.zero_mul,Nat.zero_add,Nat.add_zero,List.drop_zero,simprocAttr]at b c d)|(with_reducible refine J.zf qJ λr a b c d=> ?_;try simp only[Int.toNat_natCast,LN,Nat.sub_zero,Nat.zero_mul,Nat.zero_add,Nat.add_zero,List.drop_zero,simprocAttr]at b c d)|(with_reducible refine J.yF uz λr b c d=> ?_;try simp only[Int.toNat_natCast,LN,Nat.sub_zero,Nat.zero_mul,Nat.zero_add,Nat.add_zero,List.drop_zero,simprocAttr]at b c d)|(with_reducible refine J.zf uz λr a b c d=> ?_;try simp only[Int.toNat_natCast,LN,Nat.sub_zero,Nat.zero_mul,Nat.zero_add,Nat.add_zero,List.drop_zero,simprocAttr]at b c d)|(with_reducible refine J.yF xU λr b c d=> ?_;try simp only[Int.toNat_natCast,LN,Nat.sub_zero,Nat.zero_mul,Nat.zero_add,Nat.add_zero,List.drop_zero,simprocAttr]at b c d)|(with_reducible refine J.zf xU λr a b c d=> ?_;try simp only[Int.toNat_natCast,LN,Nat.sub_zero,Nat.zero_mul,Nat.zero_add,Nat.add_zero,List.drop_zero,simprocAttr]at b c d)|(with_reducible refine J.yF DJ λr b c d=> ?_;try simp only[Int.toNat_natCast,LN,Nat.sub_zero,Nat.zero_mul,Nat.zero_add,Nat.add_zero,List.drop_zero,simprocAttr]at b c d)|(with_reducible refine J.zf DJ λr a b c d=> ?_;try simp only[Int.toNat_natCast,LN,Nat.sub_zero,Nat.zero_mul,Nat.zero_add,Nat.add_zero,List.drop_zero,simprocAttr]at b c d)|(with_reducible refine J.yF LY λr b c d=> ?_;try simp only[Int.toNat_natCast,LN,Nat.sub_zero,Nat.zero_mul,Nat.zero_add,Nat.add_zero,List.drop_zero,simprocAttr]at b c d)|(with_reducible refine J.zf LY λr a b c d=> ?_;try simp only[Int.toNat_natCast,LN,Nat.sub_zero,Nat.zero_mul,Nat.zero_add,Nat.add_zero,List.drop_zero,simprocAttr]at b c d)|(with_reducible refine J.yc (c:=bV) λr a b c d=> ?_;try simp only[Int.toNat_natCast,LN,Nat.sub_zero,Nat.zero_mul,Nat.zero_add,Nat.add_zero,List.drop_zero,simprocAttr]at b c d)|(with_reducible refine J.yc (c:=dL) λr a b c d=> ?_;try simp only[Int.toNat_natCast,LN,Nat.sub_zero,Nat.zero_mul,Nat.zero_add,Nat.add_zero,List.drop_zero,simprocAttr]at b c d)|(with_reducible refine J.yc (c:=cO) λr a b c d=> ?_;try simp only[Int.toNat_natCast,LN,Nat.sub_zero,Nat.zero_mul,Nat.zero_add,Nat.add_zero,List.drop_zero,simprocAttr]at b c d)|(with_reducible refine J.yc (c:=bK) λr a b c d=> ?_;try simp only[Int.toNat_natCast,LN,Nat.sub_zero,Nat.zero_mul,Nat.zero_add,Nat.add_zero,List.drop_zero,simprocAttr]at b c d)|(with_reducible refine J.yc (c:=kN) λr a b c d=> ?_;try simp only[Int.toNat_natCast,LN,Nat.sub_zero,Nat.zero_mul,Nat.zero_add,Nat.add_zero,List.drop_zero,simprocAttr]at b c d)|(with_reducible refine J.yc (c:=nR) λr a b c d=> ?_;try simp only[Int.toNat_natCast,LN,Nat.sub_zero,Nat.zero_mul,Nat.zero_add,Nat.add_zero,List.drop_zero,simprocAttr]at b c d)|(with_reducible refine J.yc (c:=rM) λr a b c d=> ?_;try simp only[Int.toNat_natCast,LN,Nat.sub_zero,Nat.zero_mul,Nat.zero_add,Nat.add_zero,List.drop_zero,simprocAttr]at b c d)|(with_reducible refine J.yc (c:=fJ) λr a b c d=> ?_;try simp only[Int.toNat_natCast,LN,Nat.sub_zero,Nat.zero_mul,Nat.zero_add,Nat.add_zero,List.drop_zero,simprocAttr]at b c d)|with_reducible refine J.sat λr a=> ?_ |((with_reducible refine J.bind λx h=> ?_);(first|with_reducible have e:=H1.ap h|with_reducible have e:=H2.ap h|with_reducible have e:=H3.ap h|with_reducible have e:=H4.ap h|with_reducible have e:=H5.ap h|with_reducible have e:=H6.ap h|with_reducible have e:=H7.ap h|with_reducible have e:=H8.ap h|with_reducible have e:=H9.ap h|with_reducible have e:=H10.ap h|with_reducible have e:=H11.ap h|with_reducible have e:=H12.ap h|with_reducible have e:=H13.ap h|with_reducible have e:=H14.ap h|with_reducible have e:=H15.ap h|with_reducible have e:=H16.ap h|with_reducible have e:=H17.ap h|with_reducible have e:=H18.ap h|with_reducible have e:=H19.ap h|with_reducible have e:=H20.ap h|with_reducible have e:=H21.ap h);try simp only[NN,NT,LN,simprocAttr,DT]at e)|(with_reducible refine J.some ?_;exact Jw)|(with_reducible refine J.gi ?_;refine Jg ?_;first|with_reducible refine J.aws (λh k=> ?_) (λh k=> ?_)|with_reducible refine J.ar8 (λh k=> ?_) (λh k=> ?_)|with_reducible refine J.auQ (λh k l=> ?_) (λh=> ?_)|with_reducible refine J.aGs (λh=> ?_) (λh=> ?_)|with_reducible refine J.av1 (λh=> ?_) (λh=> ?_))|(first|with_reducible refine J.hd (W1.eq_1 ..) ?_ |with_reducible refine J.hd (W2.eq_1 ..) ?_ |with_reducible refine J.hd (W3.eq_1 ..) ?_ |with_reducible refine J.hd (W4.eq_1 ..) ?_ |with_reducible refine J.hd (W5.eq_1 ..) ?_ |with_reducible refine J.hd (W6.eq_1 ..) ?_)|(with_reducible refine J.gj ?_;first|(first|(refine J.vX j1 rfl (by intro;conv=>lhs;simp (disch:=first|exact Zd|fail) only[j1,ZN,simprocAttr]) (by intro;conv=>lhs;simp (disch:=first|exact Zd|fail) only[j1,ZN,simprocAttr]) (λt=>J.hd (k1.eq_1 ..) ?_) (λa1=> ?_);all_goals try simp only[Prod.forall,uk]at a1)|(refine J.vX j2 rfl (by intro;conv=>lhs;simp (disch:=first|exact Zd|fail) only[j2,ZN,simprocAttr]) (by intro;conv=>lhs;simp (disch:=first|exact Zd|fail) only[j2,ZN,simprocAttr]) (λt=>J.hd (k2.eq_1 ..) ?_) (λa2=> ?_);all_goals try simp only[Prod.forall,uk]at a2)|(refine J.vX j3 rfl (by intro;conv=>lhs;simp (disch:=first|exact Zd|fail) only[j3,ZN,simprocAttr]) (by intro;conv=>lhs;simp (disch:=first|exact Zd|fail) only[j3,ZN,simprocAttr]) (λt=>J.hd (k3.eq_1 ..) ?_) (λa3=> ?_);all_goals try simp only[Prod.forall,uk]at a3)|(refine J.vX j4 rfl (by intro;conv=>lhs;simp (disch:=first|exact Zd|fail) only[j4,ZN,simprocAttr]) (by intro;conv=>lhs;simp (disch:=first|exact Zd|fail) only[j4,ZN,simprocAttr]) (λt=>J.hd (k4.eq_1 ..) ?_) (λa4=> ?_);all_goals try simp only[Prod.forall,uk]at a4)|(refine J.vX j5 rfl (by intro;conv=>lhs;simp (disch:=first|exact Zd|fail) only[j5,ZN,simprocAttr]) (by intro;conv=>lhs;simp (disch:=first|exact Zd|fail) only[j5,ZN,simprocAttr]) (λt=>J.hd (k5.eq_1 ..) ?_) (λa5=> ?_);all_goals try simp only[Prod.forall,uk]at a5)|refine J.sqj ?_ |refine J.rqj ?_)|(refine Jn ?_;first|(refine J.vX j1 rfl (by intro;conv=>lhs;simp (disch:=first|exact Zd|fail) only[j1,ZN,simprocAttr]) (by intro;conv=>lhs;simp (disch:=first|exact Zd|fail) only[j1,ZN,simprocAttr]) (λt=>J.hd (k1.eq_1 ..) ?_) (λa1=> ?_);all_goals try simp only[Prod.forall,uk]at a1)|(refine J.vX j2 rfl (by intro;conv=>lhs;simp (disch:=first|exact Zd|fail) only[j2,ZN,simprocAttr]) (by intro;conv=>lhs;simp (disch:=first|exact Zd|fail) only[j2,ZN,simprocAttr]) (λt=>J.hd (k2.eq_1 ..) ?_) (λa2=> ?_);all_goals try simp only[Prod.forall,uk]at a2)|(refine J.vX j3 rfl (by intro;conv=>lhs;simp (disch:=first|exact Zd|fail) only[j3,ZN,simprocAttr]) (by intro;conv=>lhs;simp (disch:=first|exact Zd|fail) only[j3,ZN,simprocAttr]) (λt=>J.hd (k3.eq_1 ..) ?_) (λa3=> ?_);all_goals try simp only[Prod.forall,uk]at a3)|(refine J.vX j4 rfl (by intro;conv=>lhs;simp (disch:=first|exact Zd|fail) only[j4,ZN,simprocAttr]) (by intro;conv=>lhs;simp (disch:=first|exact Zd|fail) only[j4,ZN,simprocAttr]) (λt=>J.hd (k4.eq_1 ..) ?_) (λa4=> ?_);all_goals try simp only[Prod.forall,uk]at a4)|(refine J.vX j5 rfl (by intro;conv=>lhs;simp (disch:=first|exact Zd|fail) only[j5,ZN,simprocAttr]) (by intro;conv=>lhs;simp (disch:=first|exact Zd|fail) only[j5,ZN,simprocAttr]) (λt=>J.hd (k5.eq_1 ..) ?_) (λa5=> ?_);all_goals try simp only[Prod.forall,uk]at a5)|refine J.sqj ?_ |refine J.rqj ?_))|(with_reducible refine J.gl ?_;first|(first|refine J.rq m1 rfl (by intro;conv=>lhs;simp (disch:=first|exact Zd|fail) only[m1,ZN,simprocAttr]) (by intro;conv=>lhs;simp (disch:=first|exact Zd|fail) only[m1,ZN,simprocAttr]) Zx Zx (λnext k n s=>J.hd (L1.eq_1 ..) ?_)|refine J.rq m2 rfl (by intro;conv=>lhs;simp (disch:=first|exact Zd|fail) only[m2,ZN,simprocAttr]) (by intro;conv=>lhs;simp (disch:=first|exact Zd|fail) only[m2,ZN,simprocAttr]) Zx Zx (λnext k n s=>J.hd (L2.eq_1 ..) ?_)|refine J.rq m3 rfl (by intro;conv=>lhs;simp (disch:=first|exact Zd|fail) only[m3,ZN,simprocAttr]) (by intro;conv=>lhs;simp (disch:=first|exact Zd|fail) only[m3,ZN,simprocAttr]) Zx Zx (λnext k n s=>J.hd (L3.eq_1 ..) ?_)|refine J.rq m4 rfl (by intro;conv=>lhs;simp (disch:=first|exact Zd|fail) only[m4,ZN,simprocAttr]) (by intro;conv=>lhs;simp (disch:=first|exact Zd|fail) only[m4,ZN,simprocAttr]) Zx Zx (λnext k n s=>J.hd (L4.eq_1 ..) ?_)|refine J.rq m5 rfl (by intro;conv=>lhs;simp (disch:=first|exact Zd|fail) only[m5,ZN,simprocAttr]) (by intro;conv=>lhs;simp (disch:=first|exact Zd|fail) only[m5,ZN,simprocAttr]) Zx Zx (λnext k n s=>J.hd (L5.eq_1 ..) ?_)|refine J.rq m6 rfl (by intro;conv=>lhs;simp (disch:=first|exact Zd|fail) only[m6,ZN,simprocAttr]) (by intro;conv=>lhs;simp (disch:=first|exact Zd|fail) only[m6,ZN,simprocAttr]) Zx Zx (λnext k n s=>J.hd (L6.eq_1 ..) ?_)|refine J.sql ?_ |refine J.rql ?_)|(refine Jl ?_;first|refine J.rq m1 rfl (by intro;conv=>lhs;simp (disch:=first|exact Zd|fail) only[m1,ZN,simprocAttr]) (by intro;conv=>lhs;simp (disch:=first|exact Zd|fail) only[m1,ZN,simprocAttr]) Zx Zx (λnext k n s=>J.hd (L1.eq_1 ..) ?_)|refine J.rq m2 rfl (by intro;conv=>lhs;simp (disch:=first|exact Zd|fail) only[m2,ZN,simprocAttr]) (by intro;conv=>lhs;simp (disch:=first|exact Zd|fail) only[m2,ZN,simprocAttr]) Zx Zx (λnext k n s=>J.hd (L2.eq_1 ..) ?_)|refine J.rq m3 rfl (by intro;conv=>lhs;simp (disch:=first|exact Zd|fail) only[m3,ZN,simprocAttr]) (by intro;conv=>lhs;simp (disch:=first|exact Zd|fail) only[m3,ZN,simprocAttr]) Zx Zx (λnext k n s=>J.hd (L3.eq_1 ..) ?_)|refine J.rq m4 rfl (by intro;conv=>lhs;simp (disch:=first|exact Zd|fail) only[m4,ZN,simprocAttr]) (by intro;conv=>lhs;simp (disch:=first|exact Zd|fail) only[m4,ZN,simprocAttr]) Zx Zx (λnext k n s=>J.hd (L4.eq_1 ..) ?_)|refine J.rq m5 rfl (by intro;conv=>lhs;simp (disch:=first|exact Zd|fail) only[m5,ZN,simprocAttr]) (by intro;conv=>lhs;simp (disch:=first|exact Zd|fail) only[m5,ZN,simprocAttr]) Zx Zx (λnext k n s=>J.hd (L5.eq_1 ..) ?_)|refine J.rq m6 rfl (by intro;conv=>lhs;simp (disch:=first|exact Zd|fail) only[m6,ZN,simprocAttr]) (by intro;conv=>lhs;simp (disch:=first|exact Zd|fail) only[m6,ZN,simprocAttr]) Zx Zx (λnext k n s=>J.hd (L6.eq_1 ..) ?_)|refine J.sql ?_ |refine J.rql ?_))|(refine Jg ?_;first|((with_reducible apply a1) <;> first|exact()|exact Zx)|((with_reducible apply a2) <;> first|exact()|exact Zx)|((with_reducible apply a3) <;> first|exact()|exact Zx)|((with_reducible apply a4) <;> first|exact()|exact Zx)|((with_reducible apply a5) <;> first|exact()|exact Zx)|((with_reducible apply b1) <;> first|exact()|exact Zx)|((with_reducible apply b2) <;> first|exact()|exact Zx)|((with_reducible apply b3) <;> first|exact()|exact Zx)|((with_reducible apply b4) <;> first|exact()|exact Zx)|((with_reducible apply b5) <;> first|exact()|exact Zx)|refine J.aEz (by assumption) Zx Zx)):p:=h
open Aw (uj)
def ak0:=Da (aC Aw.uj.eq_1)
theorem i14:au prog 14 uj=some ⟨ae Tryz.f14,[.tmp 2],[4]⟩:=fA Tryz.func14
def e14:Bool->AV:=λr=> .v (.bool r)
theorem w14(cp:af)(fu:Nat)(x1:Int):J (go prog ak cp aj 0 [] uj fu (fin prog [.tmp 2] [4]) (ae Tryz.f14) (ay 0 [.v (.int .i64 x1)]) [] []) (rO fu x1) e14:=by
 unfold rO e14
 have da:=ak0
 conv=>arg 1;simp only[ae,Tryz.f14]
 have z0:=ak0
 exact Wk
theorem atj(fu:Nat)(x1:Int)(r)(h:rO fu x1=some r):aA prog 14 [.v (.int .i64 x1)] (e14 r):=aH mixed [] (ids:=[]) rfl (by decide) i14 (C:=ak) (ci:=λcp=>aj) (λcp ok=>aB) (λcp H=>w14 cp fu x1) h
open Aw (uO)
def ai3:=Da (aC Aw.uO.eq_1)
theorem XM:au prog 172 uO=some ⟨ae Tryz.f172,[.tmp 2],[3]⟩:=fA Tryz.func172
def Qw:Int->AV:=λr=> .v (.int .i64 r)
theorem ao1(cp:af)(fu:Nat)(x1:Int):J (go prog ak cp aj 0 [] uO fu (fin prog [.tmp 2] [3]) (ae Tryz.f172) (ay 0 [.v (.int .i64 x1)]) [] []) (qX fu x1) Qw:=by
 unfold qX Qw
 have da:=ai3
 conv=>arg 1;simp only[ae,Tryz.f172]
 have z0:=ai3
 exact Wk
theorem azk(fu:Nat)(x1:Int)(r)(h:qX fu x1=some r):aA prog 172 [.v (.int .i64 x1)] (Qw r):=aH mixed [] (ids:=[]) rfl (by decide) XM (C:=ak) (ci:=λcp=>aj) (λcp ok=>aB) (λcp H=>ao1 cp fu x1) h
open Aw (tN)
def aj1:=Da (aC Aw.tN.eq_1)
theorem aa6:au prog 106 tN=some ⟨ae Tryz.f106,[.tmp 2],[4]⟩:=fA Tryz.func106
def Ot:Bool->AV:=λr=> .v (.bool r)
structure GM (fu:Nat) (cp:af):Prop where
 ap: ∀ {a0:Int} {r},qX fu a0=some r->cp 172 [.v (.int .i64 a0)]=some (.v (.int .i64 r))
noncomputable def EX(fu:Nat):Cm prog Int Int:=⟨172,λt=>[.v (.int .i64 t)],λt=>qX fu t,Qw,λt b h=>azk fu t b h,Zi⟩
theorem Lh(H:aI cp (EX fu).ct):GM fu cp:=⟨λ {a0 r} h=>(EX fu).at H a0 r h⟩
theorem awd(cp:af)(fu:Nat)(x1:Int)(H1:GM fu cp):J (go prog ak cp aj 0 [] tN fu (fin prog [.tmp 2] [4]) (ae Tryz.f106) (ay 0 [.v (.int .i64 x1)]) [] []) (xN fu x1) Ot:=by
 unfold xN Ot
 have da:=aj1
 conv=>arg 1;simp only[ae,Tryz.f106]
 have z0:=aj1
 exact Wk
theorem aDm(fu:Nat)(x1:Int)(r)(h:xN fu x1=some r):aA prog 106 [.v (.int .i64 x1)] (Ot r):=aH mixed [(EX fu).ct] (ids:=[172]) rfl (by decide) aa6 (C:=ak) (ci:=λcp=>aj) (λcp ok=>aB) (λcp H=>awd cp fu x1 (Lh H.1)) h
open Aw (uq)
def qU:=Da (aC Aw.uq.eq_1)
theorem Xc:au prog 151 uq=some ⟨ae Tryz.f151,[.tmp 4],[3]⟩:=fA Tryz.func151
def QV:Int->AV:=λr=> .v (.int .i64 r)
theorem azr(cp:af)(fu:Nat)(x1:List Int)(p1:Int→Option Bool)(fv_p1:FuncId)(ca_p1:List AV)(cap_p1:bf ca_p1)(hp_p1: ∀ (y0:Int) r,p1 y0=some r→cp fv_p1 ((.v (.int .i64 y0))::ca_p1)=some (.v (.bool r))):J (go prog ak cp aj 0 [] uq fu (fin prog [.tmp 4] [3]) (ae Tryz.f151) (ay 0 [.arr x1.length (lm (ik .i64) x1),.fn fv_p1 [] ca_p1]) [] []) (lY fu x1 p1) QV:=by
 unfold lY QV
 have da:=qU
 have c4_p1:=λg=>(cap_p1.1 g).1;have c3_p1:=λg=>(cap_p1.1 g).2.1;have b4_p1:=λg=>(cap_p1.1 g).2.2.1;have b3_p1:=λg=>(cap_p1.1 g).2.2.2;have nm_p1:=cap_p1.2
 conv=>arg 1;simp (disch:=first|exact Zd|fail) only[ae,Tryz.f151,ZZ,qU,simprocAttr,c4_p1,c3_p1,b4_p1,b3_p1,nm_p1]
 refine J.eq dZ ?_
 conv=>arg 1;simp (disch:=first|exact Zd|fail) only[ZZ,qU,simprocAttr,c4_p1,c3_p1,b4_p1,b3_p1,nm_p1]
 unfold lY.W1
 refine J.loop (λ(s:Int)=>([(0,.arr x1.length (lm (ik .i64) x1)),(1,.fn fv_p1 [] ca_p1),(7,.v (.int .i64 (x1.length:Int))),(8,.v (.int .i64 s))],[])) (λnext s=>lY.L1 fu p1 x1 next s) (s0:=0) ?_ ?_ ?_
 ·exact Ze
 ·exact Zh
 rintro nx1 k1 hn1 x4
 show J _ (lY.L1 fu p1 x1 nx1 x4) _
 unfold lY.L1
 conv=>arg 1;simp (disch:=first|exact Zd|fail) only[ZZ,qU,simprocAttr,c4_p1,c3_p1,b4_p1,b3_p1,nm_p1]
 refine J.eq dZ ?_
 conv=>arg 1;simp (disch:=first|exact Zd|fail) only[ZZ,qU,simprocAttr,c4_p1,c3_p1,b4_p1,b3_p1,nm_p1]
 refine J.ite (λh1=> ?_) (λh1=> ?_)
 ·have h1':=decide_eq_true h1
  have h1'':decide ((x1.length:Int)<=x4)=false:=decide_eq_false (by omega)
  conv=>arg 1;simp (disch:=first|exact Zd|fail) only[ZZ,qU,simprocAttr,c4_p1,c3_p1,b4_p1,b3_p1,nm_p1,h1'',h1']
  refine J.eq dS ?_
  refine J.eq dZ ?_
  refine J.at λx7 h2 h3 h4=> ?_
  refine J.bind λx8 h5=> ?_
  have e_h5:=hp_p1 _ _ h5
  try simp only[NN,NT,LN,simprocAttr,DT]at e_h5
  conv=>arg 1;simp (disch:=first|exact Zd|fail) only[ZZ,qU,simprocAttr,c4_p1,c3_p1,b4_p1,b3_p1,nm_p1,h1'',h1',fV h4,e_h5]
  refine J.ite (λh6=> ?_) (λh6=> ?_)
  ·have h6':x8=true:=h6
   refine J.some ?_
   simp (maxSteps:=20000000) (disch:=first|exact Zd|fail) only[ZZ,qU,simprocAttr,c4_p1,c3_p1,b4_p1,b3_p1,nm_p1,h1'',h1',fV h4,e_h5,h6',FN]
  ·have h6':x8=false:=Bool.eq_false_iff.2 h6
   conv=>arg 1;simp (disch:=first|exact Zd|fail) only[ZZ,qU,simprocAttr,c4_p1,c3_p1,b4_p1,b3_p1,nm_p1,h1'',h1',fV h4,e_h5,h6']
   refine J.eq dS ?_
   conv=>arg 1;simp (disch:=first|exact Zd|fail) only[ZZ,qU,simprocAttr,c4_p1,c3_p1,b4_p1,b3_p1,nm_p1,h1'',h1',fV h4,e_h5,h6']
   refine J.next (s:=wk .i64 (x4+1)) hn1 ?_ ?_
   ·exact Ze
   ·exact Zh
 ·have h1':=decide_eq_false h1
  have h1'':decide ((x1.length:Int)<=x4)=true:=decide_eq_true (by omega)
  conv=>arg 1;simp (disch:=first|exact Zd|fail) only[ZZ,qU,simprocAttr,c4_p1,c3_p1,b4_p1,b3_p1,nm_p1,h1'',h1']
  refine J.eq dS ?_
  refine J.some ?_
  simp (maxSteps:=20000000) (disch:=first|exact Zd|fail) only[ZZ,qU,simprocAttr,c4_p1,c3_p1,b4_p1,b3_p1,nm_p1,h1'',h1',FN]
noncomputable def ak4(fu:Nat)(x1:List Int)(p1:Int->Option Bool)(fv_p1:FuncId)(ca_p1:List AV):af:=gm fv_p1 (gV (λ(t:Int)=>((.v (.int .i64 t))::ca_p1:List AV)) (λt=>p1 t) (λr=> .v (.bool r))) (mY)
theorem aGY(fu:Nat)(x1:List Int)(p1:Int->Option Bool)(fv_p1:FuncId)(ca_p1:List AV)(cap_p1:bf ca_p1)(hp_p1: ∀ (y0:Int) r,p1 y0=some r->aA prog fv_p1 ((.v (.int .i64 y0))::ca_p1) (.v (.bool r))):aJ prog (ak4 fu x1 p1 fv_p1 ca_p1):=jD (nJ) (jE (λt b h=>hp_p1 t b h))
theorem avz(fu:Nat)(x1:List Int)(p1:Int→Option Bool)(fv_p1:FuncId)(ca_p1:List AV)(cap_p1:bf ca_p1)(hp_p1: ∀ (y0:Int) r,p1 y0=some r→aA prog fv_p1 ((.v (.int .i64 y0))::ca_p1) (.v (.bool r)))(r)(h:lY fu x1 p1=some r):aA prog 151 [.arr x1.length (lm (ik .i64) x1),.fn fv_p1 [] ca_p1] (QV r):=
  pJ mixed (cp:=ak4 fu x1 p1 fv_p1 ca_p1) (aGY fu x1 p1 fv_p1 ca_p1 cap_p1 hp_p1) aB Xc (azr _ fu x1 p1 fv_p1 ca_p1 cap_p1 (λy0 r h=>jo (jv (a:=y0) (by intro a b h;first|(exact rfl)|(simp only[gB,IJ]at h;first|exact h|(simp_all [Prod.ext_iff]))) h))) h
open Aw (wu)
def akF:=Da (aC Aw.wu.eq_1)
theorem i66:au prog 66 wu=some ⟨ae Tryz.f66,[.tmp 4],[4]⟩:=fA Tryz.func66
def Ff:Bool->AV:=λr=> .v (.bool r)
theorem w66(cp:af)(fu:Nat)(x1:List Int)(p1:Int→Option Bool)(fv_p1:FuncId)(ca_p1:List AV)(cap_p1:bf ca_p1)(hp_p1: ∀ (y0:Int) r,p1 y0=some r→cp fv_p1 ((.v (.int .i64 y0))::ca_p1)=some (.v (.bool r)))(H151_0: ∀ (a0:List Int) r,lY fu a0 p1=some r→cp 151 [.arr a0.length (lm (ik .i64) a0),.fn fv_p1 [] ca_p1]=some (.v (.int .i64 r))):J (go prog ak cp aj 0 [] wu fu (fin prog [.tmp 4] [4]) (ae Tryz.f66) (ay 0 [.arr x1.length (lm (ik .i64) x1),.fn fv_p1 [] ca_p1]) [] []) (oM fu x1 p1) Ff:=by
 unfold oM Ff
 have da:=akF
 have c4_p1:=λg=>(cap_p1.1 g).1;have c3_p1:=λg=>(cap_p1.1 g).2.1;have b4_p1:=λg=>(cap_p1.1 g).2.2.1;have b3_p1:=λg=>(cap_p1.1 g).2.2.2;have nm_p1:=cap_p1.2
 refine J.bind λx2 h1=> ?_
 have e_h1:=H151_0 _ _ h1
 try simp only[NN,NT,LN,simprocAttr,DT]at e_h1
 refine J.some ?_
 simp (maxSteps:=20000000) (disch:=first|exact Zd|fail) only[ae,Tryz.f66,ZZ,akF,simprocAttr,c4_p1,c3_p1,b4_p1,b3_p1,nm_p1,e_h1,FN]
noncomputable def t66(fu:Nat)(x1:List Int)(p1:Int->Option Bool)(fv_p1:FuncId)(ca_p1:List AV):af:=gm 151 (gV (λ(t:List Int)=>([.arr t.length (lm (ik .i64) t),.fn fv_p1 [] ca_p1]:List AV)) (λt=>lY fu t p1) QV) (gm fv_p1 (gV (λ(t:Int)=>((.v (.int .i64 t))::ca_p1:List AV)) (λt=>p1 t) (λr=> .v (.bool r))) (mY))
theorem avi(fu:Nat)(x1:List Int)(p1:Int->Option Bool)(fv_p1:FuncId)(ca_p1:List AV)(cap_p1:bf ca_p1)(hp_p1: ∀ (y0:Int) r,p1 y0=some r->aA prog fv_p1 ((.v (.int .i64 y0))::ca_p1) (.v (.bool r))):aJ prog (t66 fu x1 p1 fv_p1 ca_p1):=jD (jD (nJ) (jE (λt b h=>hp_p1 t b h))) (jE (λt b h=>avz fu t p1 fv_p1 ca_p1 cap_p1 hp_p1 b h))
theorem Yk(fu:Nat)(x1:List Int)(p1:Int→Option Bool)(fv_p1:FuncId)(ca_p1:List AV)(cap_p1:bf ca_p1)(hp_p1: ∀ (y0:Int) r,p1 y0=some r→aA prog fv_p1 ((.v (.int .i64 y0))::ca_p1) (.v (.bool r)))(r)(h:oM fu x1 p1=some r):aA prog 66 [.arr x1.length (lm (ik .i64) x1),.fn fv_p1 [] ca_p1] (Ff r):=
  pJ mixed (cp:=t66 fu x1 p1 fv_p1 ca_p1) (avi fu x1 p1 fv_p1 ca_p1 cap_p1 hp_p1) aB i66 (w66 _ fu x1 p1 fv_p1 ca_p1 cap_p1 (λy0 r h=>MS (λhfv=>BQ (by intro t h;simp at h)) (jo (jv (a:=y0) (by intro a b h;first|(exact rfl)|(simp only[gB,IJ]at h;first|exact h|(simp_all [Prod.ext_iff]))) h))) (λa0 r h=>jo (jv (a:=a0) (by intro a b h;first|(exact rfl)|(simp only[gB,IJ]at h;first|exact h|(simp_all [Prod.ext_iff]))) h))) h
open Aw (vU)
def aci:=Da (aC Aw.vU.eq_1)
theorem Tv:au prog 112 vU=some ⟨ae Tryz.f112,[.tmp 2],[4]⟩:=fA Tryz.func112
def YK:Bool->AV:=λr=> .v (.bool r)
theorem aAf(cp:af)(fu:Nat)(x1:Int):J (go prog ak cp aj 0 [] vU fu (fin prog [.tmp 2] [4]) (ae Tryz.f112) (ay 0 [.v (.int .i64 x1)]) [] []) (yH fu x1) YK:=by
 unfold yH YK
 have da:=aci
 conv=>arg 1;simp only[ae,Tryz.f112]
 have z0:=aci
 exact Wk
theorem aLe(fu:Nat)(x1:Int)(r)(h:yH fu x1=some r):aA prog 112 [.v (.int .i64 x1)] (YK r):=aH mixed [] (ids:=[]) rfl (by decide) Tv (C:=ak) (ci:=λcp=>aj) (λcp ok=>aB) (λcp H=>aAf cp fu x1) h
open Aw (uF)
def af1:=Da (aC Aw.uF.eq_1)
theorem YH:au prog 113 uF=some ⟨ae Tryz.f113,[.tmp 2],[4]⟩:=fA Tryz.func113
def abB:Bool->AV:=λr=> .v (.bool r)
theorem as6(cp:af)(fu:Nat)(x1:Int):J (go prog ak cp aj 0 [] uF fu (fin prog [.tmp 2] [4]) (ae Tryz.f113) (ay 0 [.v (.int .i64 x1)]) [] []) (zu fu x1) abB:=by
 unfold zu abB
 have da:=af1
 conv=>arg 1;simp only[ae,Tryz.f113]
 have z0:=af1
 exact Wk
theorem azR(fu:Nat)(x1:Int)(r)(h:zu fu x1=some r):aA prog 113 [.v (.int .i64 x1)] (abB r):=aH mixed [] (ids:=[]) rfl (by decide) YH (C:=ak) (ci:=λcp=>aj) (λcp ok=>aB) (λcp H=>as6 cp fu x1) h
open Aw (vO)
def ajN:=Da (aC Aw.vO.eq_1)
theorem UI:au prog 191 vO=some ⟨ae Tryz.f191,[.tmp 4],[3]⟩:=fA Tryz.func191
def J6:Int->AV:=λr=> .v (.int .i64 r)
def slices_Index_int.m1:LJ 1 4 Unit Int:=⟨λr s e=>[(0,er e 0),(1,er e 1),(7,er e 7),(8,.v (.int .i64 s))],λr s h=>[]⟩
open slices_Index_int in
theorem aFK(cp:af)(fu:Nat)(x1:List Int)(x2:Int):J (go prog ak cp aj 0 [] vO fu (fin prog [.tmp 4] [3]) (ae Tryz.f191) (ay 0 [.arr x1.length (lm (ik .i64) x1),.v (.int .i64 x2)]) [] []) (slices_Index_int fu x1 x2) J6:=by
 unfold slices_Index_int J6
 have da:=ajN
 conv=>arg 1;simp only[ae,Tryz.f191]
 have z0:=ajN
 exact Wk
theorem azA(fu:Nat)(x1:List Int)(x2:Int)(r)(h:slices_Index_int fu x1 x2=some r):aA prog 191 [.arr x1.length (lm (ik .i64) x1),.v (.int .i64 x2)] (J6 r):=aH mixed [] (ids:=[]) rfl (by decide) UI (C:=ak) (ci:=λcp=>aj) (λcp ok=>aB) (λcp H=>aFK cp fu x1 x2) h
open Aw (vF)
def acs:=Da (aC Aw.vF.eq_1)
theorem aaB:au prog 114 vF=some ⟨ae Tryz.f114,[.tmp 4],[4]⟩:=fA Tryz.func114
def NL:Bool->AV:=λr=> .v (.bool r)
structure acj (fu:Nat) (cp:af):Prop where
 ap: ∀ {a0:List Int} {a1:Int} {r},slices_Index_int fu a0 a1=some r->cp 191 [.arr a0.length (lm (ik .i64) a0),.v (.int .i64 a1)]=some (.v (.int .i64 r))
noncomputable def Z5(fu:Nat):Cm prog ((List Int)×Int) Int:=⟨191,λt=>[.arr t.1.length (lm (ik .i64) t.1),.v (.int .i64 t.2)],λt=>slices_Index_int fu t.1 t.2,J6,λt b h=>azA fu t.1 t.2 b h,Zi⟩
theorem aK8(H:aI cp (Z5 fu).ct):acj fu cp:=⟨λ {a0 a1 r} h=>(Z5 fu).at H (a0,a1) r h⟩
theorem aJL(cp:af)(fu:Nat)(x1:List Int)(x2:Int)(H1:acj fu cp):J (go prog ak cp aj 0 [] vF fu (fin prog [.tmp 4] [4]) (ae Tryz.f114) (ay 0 [.arr x1.length (lm (ik .i64) x1),.v (.int .i64 x2)]) [] []) (slices_Contains_int fu x1 x2) NL:=by
 unfold slices_Contains_int NL
 have da:=acs
 conv=>arg 1;simp only[ae,Tryz.f114]
 have z0:=acs
 exact Wk
theorem aoB(fu:Nat)(x1:List Int)(x2:Int)(r)(h:slices_Contains_int fu x1 x2=some r):aA prog 114 [.arr x1.length (lm (ik .i64) x1),.v (.int .i64 x2)] (NL r):=aH mixed [(Z5 fu).ct] (ids:=[191]) rfl (by decide) aaB (C:=ak) (ci:=λcp=>aj) (λcp ok=>aB) (λcp H=>aJL cp fu x1 x2 (aK8 H.1)) h
open Aw (uh)
def zD:=Da (aC Aw.uh.eq_1)
theorem i54:au prog 54 uh=some ⟨ae Tryz.f54,[.tmp 2,.tmp 3],[3,34]⟩:=fA Tryz.func54
def e54:(Int×Int)->AV:=λr=> .tuple [.v (.int .i64 r.1),.v (.int .i64 r.2)]
theorem w54(cp:af)(fu:Nat)(x1:List Int)(H66_0: ∀ (a0:List Int) r,oM fu a0 (fun y0=>yH fu y0)=some r→cp 66 [.arr a0.length (lm (ik .i64) a0),.fn 112 [] []]=some (.v (.bool r)))(H66_1: ∀ (a0:List Int) r,oM fu a0 (fun y0=>zu fu y0)=some r→cp 66 [.arr a0.length (lm (ik .i64) a0),.fn 113 [] []]=some (.v (.bool r)))(H114_0: ∀ (a0:List Int) (a1:Int) r,slices_Contains_int fu a0 a1=some r→cp 114 [.arr a0.length (lm (ik .i64) a0),.v (.int .i64 a1)]=some (.v (.bool r))):J (go prog ak cp aj 0 [] uh fu (fin prog [.tmp 2,.tmp 3] [3,34]) (ae Tryz.f54) (ay 0 [.arr x1.length (lm (ik .i64) x1)]) [] []) (eU fu x1) e54:=by
 unfold eU e54
 have da:=zD
 conv=>arg 1;simp (disch:=first|exact Zd|fail) only[ae,Tryz.f54,ZZ,zD,simprocAttr]
 refine J.eq dZ ?_
 refine J.bind λx2 h1=> ?_
 have e_h1:=H66_0 _ _ h1
 try simp only[NN,NT,LN,simprocAttr,DT]at e_h1
 refine Jc ?_
 refine J.ite (λh2=> ?_) (λh2=> ?_)
 ·have h2':x2=true:=h2
  refine J.some ?_
  exact Js
 ·have h2':x2=false:=Bool.eq_false_iff.2 h2
  refine Jc ?_
  refine J.eq dS ?_
  refine J.afi (λ(t:Unit)=>([(0,.arr x1.length (lm (ik .i64) x1))],[])) (λt=>eU.k1 fu x1) ?_ (λhj1=> ?_)
  ·rintro⟨⟩
   show J _ (eU.k1 fu x1) _
   unfold eU.k1
   refine J.eq dZ ?_
   refine J.bind λx3 h3=> ?_
   have e_h3:=H114_0 _ _ _ h3
   try simp only[NN,NT,LN,simprocAttr,DT]at e_h3
   refine Jc ?_
   refine J.ite (λh4=> ?_) (λh4=> ?_)
   ·have h4':x3=true:=h4
    refine J.some ?_
    exact Js
   ·have h4':x3=false:=Bool.eq_false_iff.2 h4
    refine Jc ?_
    refine J.eq dS ?_
    refine Jc ?_
    refine J.eq dZ ?_
    refine Jc ?_
    unfold eU.W1
    refine J.loop (λ(s:Int×Int)=>([(4,.v (.int .i64 s.1)),(18,.arr x1.length (lm (ik .i64) x1)),(19,.v (.int .i64 (x1.length:Int))),(20,.v (.int .i64 s.2))],[])) (λnext s=>eU.L1 fu x1 (λx5 x6=>next (x5,x6)) s.1 s.2) (s0:=(1,0)) ?_ ?_ ?_
    ·exact Ze
    ·exact Zh
    rintro next k1 hn1 ⟨x5,x6⟩
    let nx1:Int->Int->Option (Int×Int):=(λx5 x6=>next (x5,x6))
    show J _ (eU.L1 fu x1 nx1 x5 x6) _
    unfold eU.L1
    refine Jc ?_
    refine J.eq dZ ?_
    refine Jc ?_
    refine J.ite (λh5=> ?_) (λh5=> ?_)
    ·have h5':=decide_eq_true h5
     have h5'':decide ((x1.length:Int)<=x6)=false:=decide_eq_false (by omega)
     refine Jc ?_
     refine J.eq dS ?_
     refine J.eq dZ ?_
     refine J.at λx8 h6 h7 h8=> ?_
     conv=>arg 1;simp (disch:=first|exact Zd|fail) only[ZZ,zD,simprocAttr,e_h1,h2',e_h3,h4',h5'',h5',fV h8]
     refine J.eq dZ ?_
     refine J.chk λh9=> ?_
     conv=>arg 1;simp (disch:=first|exact Zd|fail) only[ZZ,zD,simprocAttr,e_h1,h2',e_h3,h4',h5'',h5',fV h8]
     refine J.ite (λh10=> ?_) (λh10=> ?_)
     ·have h10':=decide_eq_true h10
      have h10'':decide (x8<=(wk .i64 (Int.tdiv 4096 x5)))=false:=decide_eq_false (by omega)
      refine J.some ?_
      simp (maxSteps:=20000000) (disch:=first|exact Zd|fail) only[ZZ,zD,simprocAttr,e_h1,h2',e_h3,h4',h5'',h5',fV h8,h10'',h10',FN]
     ·have h10':=decide_eq_false h10
      have h10'':decide (x8<=(wk .i64 (Int.tdiv 4096 x5)))=true:=decide_eq_true (by omega)
      conv=>arg 1;simp (disch:=first|exact Zd|fail) only[ZZ,zD,simprocAttr,e_h1,h2',e_h3,h4',h5'',h5',fV h8,h10'',h10']
      refine J.eq dS ?_
      conv=>arg 1;simp (disch:=first|exact Zd|fail) only[ZZ,zD,simprocAttr,e_h1,h2',e_h3,h4',h5'',h5',fV h8,h10'',h10']
      refine J.eq dS ?_
      conv=>arg 1;simp (disch:=first|exact Zd|fail) only[ZZ,zD,simprocAttr,e_h1,h2',e_h3,h4',h5'',h5',fV h8,h10'',h10']
      refine J.next (s:=(wk .i64 (x5*x8),wk .i64 (x6+1))) hn1 ?_ ?_
      ·exact Ze
      ·exact Zh
    ·have h5':=decide_eq_false h5
     have h5'':decide ((x1.length:Int)<=x6)=true:=decide_eq_true (by omega)
     refine Jc ?_
     refine J.eq dS ?_
     refine J.some ?_
     exact Js
  ·refine J.hd aoP ?_
   refine J.eq dZ ?_
   refine Jc ?_
   refine J.ite (λh11=> ?_) (λh11=> ?_)
   ·have h11':=decide_eq_true h11
    have h11'':decide ((x1.length:Int)<=8)=false:=decide_eq_false (by omega)
    refine Jc ?_
    refine J.eq dS ?_
    refine J.some ?_
    exact Js
   ·have h11':=decide_eq_false h11
    have h11'':decide ((x1.length:Int)<=8)=true:=decide_eq_true (by omega)
    refine J.bind λx9 h12=> ?_
    have e_h12:=H66_1 _ _ h12
    try simp only[NN,NT,LN,simprocAttr,DT]at e_h12
    refine Jc ?_
    refine J.eq dS ?_
    refine Jc ?_
    refine J.ite (λh13=> ?_) (λh13=> ?_)
    ·have h13':x9=true:=h13
     refine J.some ?_
     exact Js
    ·have h13':x9=false:=Bool.eq_false_iff.2 h13
     refine Jc ?_
     refine J.jmp (t:=()) hj1 ?_ ?_
     ·exact Ze
     ·exact Zh
noncomputable def t54(fu:Nat):af:=gm 66 (gV (λ(t:List Int)=>([.arr t.length (lm (ik .i64) t),.fn 112 [] []]:List AV)) (λt=>oM fu t (λy0=>yH fu y0)) Ff) (gm 66 (gV (λ(t:List Int)=>([.arr t.length (lm (ik .i64) t),.fn 113 [] []]:List AV)) (λt=>oM fu t (λy0=>zu fu y0)) Ff) (gm 114 (gV (λ(t:(List Int)×Int)=>([.arr t.1.length (lm (ik .i64) t.1),.v (.int .i64 t.2)]:List AV)) (λt=>slices_Contains_int fu t.1 t.2) NL) (mY)))
theorem an6(fu:Nat):aJ prog (t54 fu):=jD (jD (jD (nJ) (jE (λt b h=>aoB fu t.1 t.2 b h))) (jE (λt b h=>Yk fu t (λy0=>zu fu y0) 113 [] bf.nil (λy0 r h=>azR fu y0 r h) b h))) (jE (λt b h=>Yk fu t (λy0=>yH fu y0) 112 [] bf.nil (λy0 r h=>aLe fu y0 r h) b h))
theorem ayd(fu:Nat)(x1:List Int)(r)(h:eU fu x1=some r):aA prog 54 [.arr x1.length (lm (ik .i64) x1)] (e54 r):=
  pJ mixed (cp:=t54 fu) (an6 fu) aB i54 (w54 _ fu x1 (λa0 r h=>jo (jv (a:=a0) (by intro a b h;first|(exact rfl)|(simp only[gB,IJ]at h;first|exact h|(simp_all [Prod.ext_iff]))) h)) (λa0 r h=>Kt (BQ (by intro t h;simp at h)) (jo (jv (a:=a0) (by intro a b h;first|(exact rfl)|(simp only[gB,IJ]at h;first|exact h|(simp_all [Prod.ext_iff]))) h))) (λa0 a1 r h=>xJ (by decide) (xJ (by decide) (jo (jv (a:=(a0,a1)) (by intro a b h;first|(exact rfl)|(simp only[gB,IJ]at h;first|exact h|(simp_all [Prod.ext_iff]))) h))))) h
open Aw (tJ)
def ah6:=Da (aC Aw.tJ.eq_1)
theorem i50:au prog 50 tJ=some ⟨ae Tryz.f50,[.tmp 2],[34]⟩:=fA Tryz.func50
def e50:Int->AV:=λr=> .v (.int .i64 r)
structure RV (fu:Nat) (cp:af):Prop where
 ap: ∀ {a0:Int} {r},xN fu a0=some r->cp 106 [.v (.int .i64 a0)]=some (.v (.bool r))
noncomputable def Nj(fu:Nat):Cm prog Int Bool:=⟨106,λt=>[.v (.int .i64 t)],λt=>xN fu t,Ot,λt b h=>aDm fu t b h,Zi⟩
theorem afv(H:aI cp (Nj fu).ct):RV fu cp:=⟨λ {a0 r} h=>(Nj fu).at H a0 r h⟩
structure vC (fu:Nat) (cp:af):Prop where
 ap: ∀ {a0:List Int} {r},eU fu a0=some r->cp 54 [.arr a0.length (lm (ik .i64) a0)]=some (.tuple [.v (.int .i64 r.1),.v (.int .i64 r.2)])
noncomputable def sW(fu:Nat):Cm prog (List Int) (Int×Int):=⟨54,λt=>[.arr t.length (lm (ik .i64) t)],λt=>eU fu t,e54,λt b h=>ayd fu t b h,Zi⟩
theorem xw(H:aI cp (sW fu).ct):vC fu cp:=⟨λ {a0 r} h=>(sW fu).at H a0 r h⟩
def jP.j1:LJ 1 24 Unit Int:=⟨λr t e=>[(1,er e 1),(3,er e 3),(5,.v (.int .i64 t))],λr t h=>[((0,1,0),hr h (0,1,0))]⟩
open jP in
theorem w50(cp:af)(fu:Nat)(x1:T_Tensor)(H1:RV fu cp)(H2:vC fu cp):J (go prog ak cp aj 0 [] tJ fu (fin prog [.tmp 2] [34]) (ae Tryz.f50) (ay 0 [.agg (bV x1)]) [] []) (jP fu x1) e50:=by
 unfold jP e50
 have da:=ah6
 conv=>arg 1;simp only[ae,Tryz.f50]
 have z0:=ah6
 exact Wk
theorem ajR(fu:Nat)(x1:T_Tensor)(r)(h:jP fu x1=some r):aA prog 50 [.agg (bV x1)] (e50 r):=aH mixed [(Nj fu).ct,(sW fu).ct] (ids:=[106,54]) rfl (by decide) i50 (C:=ak) (ci:=λcp=>aj) (λcp ok=>aB) (λcp H=>w50 cp fu x1 (afv H.1) (xw H.2.1)) h
open Aw (tq)
def alc:=Da (aC Aw.tq.eq_1)
theorem V7:au prog 102 tq=some ⟨ae Tryz.f102,[.tmp 2],[22]⟩:=fA Tryz.func102
def KZ:(List Int)->AV:=λr=> .fresh 1 r.length (lm (ik .i64) r)
theorem aCV(cp:af)(fu:Nat)(x1:List Int):J (go prog ak cp aj 0 [] tq fu (fin prog [.tmp 2] [22]) (ae Tryz.f102) (ay 0 [.arr x1.length (lm (ik .i64) x1)]) [] []) (BK fu x1) KZ:=by
 unfold BK KZ
 have da:=alc
 conv=>arg 1;simp only[ae,Tryz.f102]
 have z0:=alc
 exact Wk
theorem aol(fu:Nat)(x1:List Int)(r)(h:BK fu x1=some r):aA prog 102 [.arr x1.length (lm (ik .i64) x1)] (KZ r):=aH mixed [] (ids:=[]) rfl (by decide) V7 (C:=ak) (ci:=λcp=>aj) (λcp ok=>aB) (λcp H=>aCV cp fu x1) h
open Aw (tu)
def adA:=Da (aC Aw.tu.eq_1)
theorem Vj:au prog 103 tu=some ⟨ae Tryz.f103,[.tmp 2],[24]⟩:=fA Tryz.func103
def La:(List Int)->AV:=λr=> .fresh 1 r.length (lm (ik .u32) r)
theorem aoQ(cp:af)(fu:Nat)(x1:List Int):J (go prog ak cp aj 0 [] tu fu (fin prog [.tmp 2] [24]) (ae Tryz.f103) (ay 0 [.arr x1.length (lm (ik .u32) x1)]) [] []) (zQ fu x1) La:=by
 unfold zQ La
 have da:=adA
 conv=>arg 1;simp only[ae,Tryz.f103]
 have z0:=adA
 exact Wk
theorem aoV(fu:Nat)(x1:List Int)(r)(h:zQ fu x1=some r):aA prog 103 [.arr x1.length (lm (ik .u32) x1)] (La r):=aH mixed [] (ids:=[]) rfl (by decide) Vj (C:=ak) (ci:=λcp=>aj) (λcp ok=>aB) (λcp H=>aoQ cp fu x1) h
open Aw (uQ)
def aeo:=Da (aC Aw.uQ.eq_1)
theorem VT:au prog 104 uQ=some ⟨ae Tryz.f104,[.tmp 2],[25]⟩:=fA Tryz.func104
def Qd:(List Int)->AV:=λr=> .fresh 1 r.length (lm (ik .i64) r)
theorem arZ(cp:af)(fu:Nat)(x1:List Int):J (go prog ak cp aj 0 [] uQ fu (fin prog [.tmp 2] [25]) (ae Tryz.f104) (ay 0 [.arr x1.length (lm (ik .i64) x1)]) [] []) (BA fu x1) Qd:=by
 unfold BA Qd
 have da:=aeo
 conv=>arg 1;simp only[ae,Tryz.f104]
 have z0:=aeo
 exact Wk
theorem avS(fu:Nat)(x1:List Int)(r)(h:BA fu x1=some r):aA prog 104 [.arr x1.length (lm (ik .i64) x1)] (Qd r):=aH mixed [] (ids:=[]) rfl (by decide) VT (C:=ak) (ci:=λcp=>aj) (λcp ok=>aB) (λcp H=>arZ cp fu x1) h
open Aw (uG)
def agt:=Da (aC Aw.uG.eq_1)
theorem i105:au prog 105 uG=some ⟨ae Tryz.f105,[.tmp 2],[26]⟩:=fA Tryz.func105
def Jv:(List Bool)->AV:=λr=> .fresh 1 r.length (lm (bk) r)
theorem aFI(cp:af)(fu:Nat)(x1:List Bool):J (go prog ak cp aj 0 [] uG fu (fin prog [.tmp 2] [26]) (ae Tryz.f105) (ay 0 [.arr x1.length (lm (bk) x1)]) [] []) (AA fu x1) Jv:=by
 unfold AA Jv
 have da:=agt
 conv=>arg 1;simp only[ae,Tryz.f105]
 have z0:=agt
 exact Wk
theorem atP(fu:Nat)(x1:List Bool)(r)(h:AA fu x1=some r):aA prog 105 [.arr x1.length (lm (bk) x1)] (Jv r):=aH mixed [] (ids:=[]) rfl (by decide) i105 (C:=ak) (ci:=λcp=>aj) (λcp ok=>aB) (λcp H=>aFI cp fu x1) h
open Aw (tY)
def aiY:=Da (aC Aw.tY.eq_1)
theorem i49:au prog 49 tY=some ⟨ae Tryz.f49,[.cell 2 28],[28]⟩:=fA Tryz.func49
def e49:T_Tensor->AV:=λr=> .agg [.v (.int .i64 r.fType),.fresh 1 r.fDims.length (lm (ik .i64) r.fDims),.fresh 1 r.fF.length (lm (ik .u32) r.fF),.fresh 1 r.fI.length (lm (ik .i64) r.fI),.fresh 1 r.fB.length (lm (bk) r.fB)]
structure agc (fu:Nat) (cp:af):Prop where
 ap: ∀ {a0:List Int} {r},BK fu a0=some r->cp 102 [.arr a0.length (lm (ik .i64) a0)]=some (.fresh 1 r.length (lm (ik .i64) r))
noncomputable def ZJ(fu:Nat):Cm prog (List Int) (List Int):=⟨102,λt=>[.arr t.length (lm (ik .i64) t)],λt=>BK fu t,KZ,λt b h=>aol fu t b h,Zi⟩
theorem aqy(H:aI cp (ZJ fu).ct):agc fu cp:=⟨λ {a0 r} h=>(ZJ fu).at H a0 r h⟩
structure ajb (fu:Nat) (cp:af):Prop where
 ap: ∀ {a0:List Int} {r},zQ fu a0=some r->cp 103 [.arr a0.length (lm (ik .u32) a0)]=some (.fresh 1 r.length (lm (ik .u32) r))
noncomputable def Xz(fu:Nat):Cm prog (List Int) (List Int):=⟨103,λt=>[.arr t.length (lm (ik .u32) t)],λt=>zQ fu t,La,λt b h=>aoV fu t b h,Zi⟩
theorem aBU(H:aI cp (Xz fu).ct):ajb fu cp:=⟨λ {a0 r} h=>(Xz fu).at H a0 r h⟩
structure afE (fu:Nat) (cp:af):Prop where
 ap: ∀ {a0:List Int} {r},BA fu a0=some r->cp 104 [.arr a0.length (lm (ik .i64) a0)]=some (.fresh 1 r.length (lm (ik .i64) r))
noncomputable def abe(fu:Nat):Cm prog (List Int) (List Int):=⟨104,λt=>[.arr t.length (lm (ik .i64) t)],λt=>BA fu t,Qd,λt b h=>avS fu t b h,Zi⟩
theorem asA(H:aI cp (abe fu).ct):afE fu cp:=⟨λ {a0 r} h=>(abe fu).at H a0 r h⟩
structure aeS (fu:Nat) (cp:af):Prop where
 ap: ∀ {a0:List Bool} {r},AA fu a0=some r->cp 105 [.arr a0.length (lm (bk) a0)]=some (.fresh 1 r.length (lm (bk) r))
noncomputable def YP(fu:Nat):Cm prog (List Bool) (List Bool):=⟨105,λt=>[.arr t.length (lm (bk) t)],λt=>AA fu t,Jv,λt b h=>atP fu t b h,Zi⟩
theorem u105(H:aI cp (YP fu).ct):aeS fu cp:=⟨λ {a0 r} h=>(YP fu).at H a0 r h⟩
theorem w49(cp:af)(fu:Nat)(x1:T_Tensor)(H1:agc fu cp)(H2:ajb fu cp)(H3:afE fu cp)(H4:aeS fu cp):J (go prog ak cp aj 0 [] tY fu (fin prog [.cell 2 28] [28]) (ae Tryz.f49) (ay 0 [.agg (bV x1)]) [] []) (xk fu x1) e49:=by
 unfold xk e49
 have da:=aiY
 conv=>arg 1;simp only[ae,Tryz.f49]
 have z0:=aiY
 exact Wk
theorem ax3(fu:Nat)(x1:T_Tensor)(r)(h:xk fu x1=some r):aA prog 49 [.agg (bV x1)] (e49 r):=aH mixed [(ZJ fu).ct,(Xz fu).ct,(abe fu).ct,(YP fu).ct] (ids:=[102,103,104,105]) rfl (by decide) i49 (C:=ak) (ci:=λcp=>aj) (λcp ok=>aB) (λcp H=>w49 cp fu x1 (aqy H.1) (aBU H.2.1) (asA H.2.2.1) (u105 H.2.2.2.1)) h
open Aw (uy)
def ahJ:=Da (aC Aw.uy.eq_1)
theorem aal:au prog 140 uy=some ⟨ae Tryz.f140,[.tmp 2],[23]⟩:=fA Tryz.func140
def L8:Int->AV:=λr=> .v (.int .u32 r)
theorem aqZ(cp:af)(fu:Nat)(x1:Int):J (go prog ak cp aj 0 [] uy fu (fin prog [.tmp 2] [23]) (ae Tryz.f140) (ay 0 [.v (.int .u32 x1)]) [] []) (iU fu x1) L8:=by
 unfold iU L8
 have da:=ahJ
 conv=>arg 1;simp only[ae,Tryz.f140]
 have z0:=ahJ
 exact Wk
theorem aiS(fu:Nat)(x1:Int)(r)(h:iU fu x1=some r):aA prog 140 [.v (.int .u32 x1)] (L8 r):=aH mixed [] (ids:=[]) rfl (by decide) aal (C:=ak) (ci:=λcp=>aj) (λcp ok=>aB) (λcp H=>aqZ cp fu x1) h
open Aw (uN)
def afK:=Da (aC Aw.uN.eq_1)
theorem i124:au prog 124 uN=some ⟨ae Tryz.f124,[.tmp 2],[4]⟩:=fA Tryz.func124
def Ku:Bool->AV:=λr=> .v (.bool r)
structure oV (fu:Nat) (cp:af):Prop where
 ap: ∀ {a0:Int} {r},iU fu a0=some r->cp 140 [.v (.int .u32 a0)]=some (.v (.int .u32 r))
noncomputable def oC(fu:Nat):Cm prog Int Int:=⟨140,λt=>[.v (.int .u32 t)],λt=>iU fu t,L8,λt b h=>aiS fu t b h,Zi⟩
theorem pV(H:aI cp (oC fu).ct):oV fu cp:=⟨λ {a0 r} h=>(oC fu).at H a0 r h⟩
theorem aBx(cp:af)(fu:Nat)(x1:Int)(H1:oV fu cp):J (go prog ak cp aj 0 [] uN fu (fin prog [.tmp 2] [4]) (ae Tryz.f124) (ay 0 [.v (.int .u32 x1)]) [] []) (dV fu x1) Ku:=by
 unfold dV Ku
 have da:=afK
 conv=>arg 1;simp only[ae,Tryz.f124]
 have z0:=afK
 exact Wk
theorem aqO(fu:Nat)(x1:Int)(r)(h:dV fu x1=some r):aA prog 124 [.v (.int .u32 x1)] (Ku r):=aH mixed [(oC fu).ct] (ids:=[140]) rfl (by decide) i124 (C:=ak) (ci:=λcp=>aj) (λcp ok=>aB) (λcp H=>aBx cp fu x1 (pV H.1)) h
open Aw (vz)
def akO:=Da (aC Aw.vz.eq_1)
theorem i107:au prog 107 vz=some ⟨ae Tryz.f107,[.tmp 2],[23]⟩:=fA Tryz.func107
def OC:Int->AV:=λr=> .v (.int .u32 r)
structure jd (fu:Nat) (cp:af):Prop where
 ap: ∀ {a0:Int} {r},dV fu a0=some r->cp 124 [.v (.int .u32 a0)]=some (.v (.bool r))
noncomputable def iY(fu:Nat):Cm prog Int Bool:=⟨124,λt=>[.v (.int .u32 t)],λt=>dV fu t,Ku,λt b h=>aqO fu t b h,Zi⟩
theorem u124(H:aI cp (iY fu).ct):jd fu cp:=⟨λ {a0 r} h=>(iY fu).at H a0 r h⟩
theorem aCa(cp:af)(fu:Nat)(x1:Int)(H1:jd fu cp):J (go prog ak cp aj 0 [] vz fu (fin prog [.tmp 2] [23]) (ae Tryz.f107) (ay 0 [.v (.int .u32 x1)]) [] []) (pW fu x1) OC:=by
 unfold pW OC
 have da:=akO
 conv=>arg 1;simp only[ae,Tryz.f107]
 have z0:=akO
 exact Wk
theorem apf(fu:Nat)(x1:Int)(r)(h:pW fu x1=some r):aA prog 107 [.v (.int .u32 x1)] (OC r):=aH mixed [(iY fu).ct] (ids:=[124]) rfl (by decide) i107 (C:=ak) (ci:=λcp=>aj) (λcp ok=>aB) (λcp H=>aCa cp fu x1 (u124 H.1)) h
open Aw (ul)
def adI:=Da (aC Aw.ul.eq_1)
theorem i51:au prog 51 ul=some ⟨ae Tryz.f51,[.cell 2 28],[28]⟩:=fA Tryz.func51
def e51:T_Tensor->AV:=λr=> .agg [.v (.int .i64 r.fType),.fresh 1 r.fDims.length (lm (ik .i64) r.fDims),.fresh 1 r.fF.length (lm (ik .u32) r.fF),.fresh 1 r.fI.length (lm (ik .i64) r.fI),.fresh 1 r.fB.length (lm (bk) r.fB)]
structure UF (fu:Nat) (cp:af):Prop where
 ap: ∀ {a0:T_Tensor} {r},xk fu a0=some r->cp 49 [.agg (bV a0)]=some (.agg [.v (.int .i64 r.fType),.fresh 1 r.fDims.length (lm (ik .i64) r.fDims),.fresh 1 r.fF.length (lm (ik .u32) r.fF),.fresh 1 r.fI.length (lm (ik .i64) r.fI),.fresh 1 r.fB.length (lm (bk) r.fB)])
noncomputable def PV(fu:Nat):Cm prog T_Tensor T_Tensor:=⟨49,λt=>[.agg (bV t)],λt=>xk fu t,e49,λt b h=>ax3 fu t b h,Zi⟩
theorem u49(H:aI cp (PV fu).ct):UF fu cp:=⟨λ {a0 r} h=>(PV fu).at H a0 r h⟩
structure NW (fu:Nat) (cp:af):Prop where
 ap: ∀ {a0:Int} {r},pW fu a0=some r->cp 107 [.v (.int .u32 a0)]=some (.v (.int .u32 r))
noncomputable def GZ(fu:Nat):Cm prog Int Int:=⟨107,λt=>[.v (.int .u32 t)],λt=>pW fu t,OC,λt b h=>apf fu t b h,Zi⟩
theorem VG(H:aI cp (GZ fu).ct):NW fu cp:=⟨λ {a0 r} h=>(GZ fu).at H a0 r h⟩
def jO.m1:LJ 1 6 Unit ((List Int)×Int):=⟨λr s e=>[(2,er e 2),(3,er e 3),(9,.own (0,7,1) 0 s.1.length s.1.length),(10,er e 10),(11,.v (.int .i64 s.2))],λr s h=>[((0,2,0),hr h (0,2,0)),((0,7,0),hr h (0,7,0)),((0,7,1),.sl true true 1 s.1.length (lm (ik .u32) s.1)),((0,7,2),hr h (0,7,2)),((0,7,3),hr h (0,7,3)),((0,3,0),bs (hr h (0,3,0)) 2 (.own (0,7,1) 0 s.1.length s.1.length))]⟩
open jO in
theorem w51(cp:af)(fu:Nat)(x1:T_Tensor)(H1:UF fu cp)(H2:NW fu cp):J (go prog ak cp aj 0 [] ul fu (fin prog [.cell 2 28] [28]) (ae Tryz.f51) (ay 0 [.agg (bV x1)]) [] []) (jO fu x1) e51:=by
 unfold jO e51
 have da:=adI
 conv=>arg 1;simp only[ae,Tryz.f51]
 have z0:=adI
 exact Wk
theorem azM(fu:Nat)(x1:T_Tensor)(r)(h:jO fu x1=some r):aA prog 51 [.agg (bV x1)] (e51 r):=aH mixed [(PV fu).ct,(GZ fu).ct] (ids:=[49,107]) rfl (by decide) i51 (C:=ak) (ci:=λcp=>aj) (λcp ok=>aB) (λcp H=>w51 cp fu x1 (u49 H.1) (VG H.2.1)) h
def qV:TD:=zz [[2],[],[3],[],[],[],[0,5,6,7]]
def xR:=And.intro (show qV.getD 0 (0,[])=(0,[2])from rfl)<|And.intro (show qV.getD 1 (0,[])=(0,[])from rfl)<|And.intro (show qV.getD 2 (0,[])=(0,[3])from rfl)<|And.intro (show qV.getD 3 (0,[])=(0,[])from rfl)<|And.intro (show qV.getD 4 (0,[])=(0,[])from rfl)<|And.intro (show qV.getD 5 (0,[])=(0,[])from rfl)<|(show qV.getD 6 (0,[])=(0,[0,5,6,7])from rfl)
theorem i48:au prog 48 qV=some ⟨ae Tryz.f48,[.tmp 2],[22]⟩:=fA Tryz.func48
def e48:List Int->AV:=λr=> .fresh 1 r.length (lm (ik .i64) r)
theorem aAe(fu:Nat)(x1:List Int)(r)(h:slices_Clone_int fu x1=some r):aA prog 48 [.arr x1.length (lm (ik .i64) x1)] (e48 r):=by
  unfold slices_Clone_int chk at h
  split at h
  · rename_i hs;injection h with h;subst h
    cases x1 with
    | nil=>
      refine aA.ed λa c=> ?_
      refine pJ mixed (C:=ak) (cp:=mY) (n:=0) nJ aB i48 (s:=some []) (enc:=e48) ?_ rfl
      refine J.some ?_
      unfold e48
      cases a with
      | none=>
        conv=>lhs;simp (disch:=first|exact Zd|fail) only[ae,Tryz.f48,ZZ,xR,simprocAttr,yD lQ]
        rw[dZ]
        simp (disch:=first|exact Zd|fail) only[ZZ,xR,simprocAttr,yD lQ,FF,NN,NT]
      | some a=>
        conv=>lhs;simp (disch:=first|exact Zd|fail) only[ae,Tryz.f48,ZZ,xR,simprocAttr,yD lQ]
        rw[dZ]
        conv=>lhs;simp (disch:=first|exact Zd|fail) only[ZZ,xR,simprocAttr,yD lQ]
        rw[dS]
        simp (disch:=first|exact Zd|fail) only[ZZ,xR,simprocAttr,yD lQ,FF,NN,NT]
    | cons y x1=>
      refine pJ mixed (C:=ak) (cp:=mY) (n:=0) nJ aB i48 (s:=some (y::x1)) (enc:=e48) ?_ rfl
      refine J.some ?_
      have ha: ∀ xs,nU prog .eql 22 (.arr (y::x1).length xs) (.v (.slice none 0 0))=some (.v (.bool false)):=λxs=>aI0 (op:= .eql) lQ (by simp)
      generalize y::x1=l at hs ha ⊢
      unfold e48
      conv=>lhs;simp (disch:=first|exact Zd|fail) only[ae,Tryz.f48,ZZ,xR,simprocAttr,yD lQ,ha]
      rw[dZ]
      conv=>lhs;simp (disch:=first|exact Zd|fail) only[ZZ,xR,simprocAttr,yD lQ,ha]
      rw[dS]
      simp (disch:=first|exact Zd|fail) only[ZZ,xR,simprocAttr,yD lQ,FF,NN,NT,TI]
  · cases h
open Aw (uw)
def aja:=Da (aC Aw.uw.eq_1)
theorem i22:au prog 22 uw=some ⟨ae Tryz.f22,[.tmp 2],[46]⟩:=fA Tryz.func22
def e22:(List aQ)->AV:=λr=> .arr r.length (fm cO r)
structure Gm (fu:Nat) (cp:af):Prop where
 ap: ∀ {a0:List Int} {r},slices_Clone_int fu a0=some r->cp 48 [.arr a0.length (lm (ik .i64) a0)]=some (.fresh 1 r.length (lm (ik .i64) r))
noncomputable def EL(fu:Nat):Cm prog (List Int) (List Int):=⟨48,λt=>[.arr t.length (lm (ik .i64) t)],λt=>slices_Clone_int fu t,e48,λt b h=>aAe fu t b h,Zi⟩
theorem u48(H:aI cp (EL fu).ct):Gm fu cp:=⟨λ {a0 r} h=>(EL fu).at H a0 r h⟩
def ku.m1:LJ 1 6 Unit ((List aQ)×Int):=⟨λr s e=>[(3,.own (0,3,77) 0 s.1.length s.1.length),(7,er e 7),(8,er e 8),(9,.v (.int .i64 s.2))],λr s h=>[((0,3,77),.sl true true 8 s.1.length (fm cO s.1))]⟩
open ku in
theorem w22(cp:af)(fu:Nat)(x1:List T_Tensor)(H1:Gm fu cp)(H2:UF fu cp):J (go prog ak cp aj 0 [] uw fu (qI prog [.tmp 2] [46]) (ae Tryz.f22) (ay 0 [.arr x1.length (fm bV x1)]) [] []) (ku fu x1) e22:=by
 unfold ku e22
 have da:=aja
 conv=>arg 1;simp only[ae,Tryz.f22]
 have z0:=aja
 have z1:=SE
 exact Wk
theorem aDv(fu:Nat)(x1:List T_Tensor)(r)(h:ku fu x1=some r):aA prog 22 [.arr x1.length (fm bV x1)] (e22 r):=zk mixed [(EL fu).ct,(PV fu).ct] (ids:=[48,49]) rfl (by decide) i22 (C:=ak) (ci:=λcp=>aj) (λcp ok=>aB) (λcp H=>w22 cp fu x1 (u48 H.1) (u49 H.2.1)) h
def aeX:(Int×Int×Int×Int)->AV:=λr=> .tuple [.v (.int .i64 r.1),.v (.int .i64 r.2.1),.v (.int .i64 r.2.2.1),.v (.int .i64 r.2.2.2)]
theorem aH8(fu:Nat)(x1:Int)(r)(h:zC fu x1=some r):aA prog 173 [.v (.int .i64 x1)] (aeX r):=by
  unfold zC at h
  split at h
  · next n=>
    cases hq:tA[n]? with
    |none=>rw[hq]at h;cases h
    |some q=>rw[hq]at h;injection h with h;subst h;exact Aw.aem hq
  · cases h
open Aw (ug)
def ajx:=Da (aC Aw.ug.eq_1)
theorem UT:au prog 190 ug=some ⟨ae Tryz.f190,[.cell 4 51],[51]⟩:=fA Tryz.func190
def e190:aQ->AV:=λr=> .agg [.v (.int .i64 r.fType),.arr r.fDims.length (lm (ik .i64) r.fDims),.v (.bool r.fConst),.v (.int .i64 r.fT.fType),.arr r.fT.fDims.length (lm (ik .i64) r.fT.fDims),.arr r.fT.fF.length (lm (ik .u32) r.fT.fF),.arr r.fT.fI.length (lm (ik .i64) r.fT.fI),.arr r.fT.fB.length (lm (bk) r.fT.fB)]
theorem ank(cp:af)(fu:Nat)(x1:aX)(x2:Int):J (go prog ak cp aj 0 [] ug fu (qI prog [.cell 4 51] [51]) (ae Tryz.f190) (ay 0 [.agg (bK x1),.v (.int .i64 x2)]) [] []) (lZ fu x1 x2) e190:=by
 unfold lZ e190
 have da:=ajx
 conv=>arg 1;simp only[ae,Tryz.f190]
 have z0:=ajx
 have z1:=SE
 exact Wk
theorem axC(fu:Nat)(x1:aX)(x2:Int)(r)(h:lZ fu x1 x2=some r):aA prog 190 [.agg (bK x1),.v (.int .i64 x2)] (e190 r):=zk mixed [] (ids:=[]) rfl (by decide) UT (C:=ak) (ci:=λcp=>aj) (λcp ok=>aB) (λcp H=>ank cp fu x1 x2) h
open Aw (vw)
def adT:=Da (aC Aw.vw.eq_1)
theorem Xy:au prog 174 vw=some ⟨ae Tryz.f174,[.tmp 4],[4]⟩:=fA Tryz.func174
def Ov:Bool->AV:=λr=> .v (.bool r)
structure Aq (fu:Nat) (cp:af):Prop where
 ap: ∀ {a0:aX} {a1:Int} {r},lZ fu a0 a1=some r->cp 190 [.agg (bK a0),.v (.int .i64 a1)]=some (.agg [.v (.int .i64 r.fType),.arr r.fDims.length (lm (ik .i64) r.fDims),.v (.bool r.fConst),.v (.int .i64 r.fT.fType),.arr r.fT.fDims.length (lm (ik .i64) r.fT.fDims),.arr r.fT.fF.length (lm (ik .u32) r.fT.fF),.arr r.fT.fI.length (lm (ik .i64) r.fT.fI),.arr r.fT.fB.length (lm (bk) r.fT.fB)])
noncomputable def yw(fu:Nat):Cm prog (aX×Int) aQ:=⟨190,λt=>[.agg (bK t.1),.v (.int .i64 t.2)],λt=>lZ fu t.1 t.2,e190,λt b h=>axC fu t.1 t.2 b h,Zi⟩
theorem EH(H:aI cp (yw fu).ct):Aq fu cp:=⟨λ {a0 a1 r} h=>(yw fu).at H (a0,a1) r h⟩
theorem ape(cp:af)(fu:Nat)(x1:aX)(x2:Int)(H1:Aq fu cp):J (go prog ak cp aj 0 [] vw fu (fin prog [.tmp 4] [4]) (ae Tryz.f174) (ay 0 [.agg (bK x1),.v (.int .i64 x2)]) [] []) (vT fu x1 x2) Ov:=by
 unfold vT Ov
 have da:=adT
 conv=>arg 1;simp only[ae,Tryz.f174]
 have z0:=adT
 exact Wk
theorem azD(fu:Nat)(x1:aX)(x2:Int)(r)(h:vT fu x1 x2=some r):aA prog 174 [.agg (bK x1),.v (.int .i64 x2)] (Ov r):=aH mixed [(yw fu).ct] (ids:=[190]) rfl (by decide) Xy (C:=ak) (ci:=λcp=>aj) (λcp ok=>aB) (λcp H=>ape cp fu x1 x2 (EH H.1)) h
open Aw (uV)
def adu:=Da (aC Aw.uV.eq_1)
theorem aae:au prog 108 uV=some ⟨ae Tryz.f108,[.tmp 2],[4]⟩:=fA Tryz.func108
def e108:Bool->AV:=λr=> .v (.bool r)
structure akw (fu:Nat) (cp:af):Prop where
 ap: ∀ {a0:Int} {r},zC fu a0=some r->cp 173 [.v (.int .i64 a0)]=some (.tuple [.v (.int .i64 r.1),.v (.int .i64 r.2.1),.v (.int .i64 r.2.2.1),.v (.int .i64 r.2.2.2)])
noncomputable def WO(fu:Nat):Cm prog Int (Int×Int×Int×Int):=⟨173,λt=>[.v (.int .i64 t)],λt=>zC fu t,aeX,λt b h=>aH8 fu t b h,Zi⟩
theorem aH9(H:aI cp (WO fu).ct):akw fu cp:=⟨λ {a0 r} h=>(WO fu).at H a0 r h⟩
structure Ou (fu:Nat) (cp:af):Prop where
 ap: ∀ {a0:aX} {a1:Int} {r},vT fu a0 a1=some r->cp 174 [.agg (bK a0),.v (.int .i64 a1)]=some (.v (.bool r))
noncomputable def Ib(fu:Nat):Cm prog (aX×Int) Bool:=⟨174,λt=>[.agg (bK t.1),.v (.int .i64 t.2)],λt=>vT fu t.1 t.2,Ov,λt b h=>azD fu t.1 t.2 b h,Zi⟩
theorem X5(H:aI cp (Ib fu).ct):Ou fu cp:=⟨λ {a0 a1 r} h=>(Ib fu).at H (a0,a1) r h⟩
def jf.m1:LJ 1 10 Unit Int:=⟨λr s e=>[(1,er e 1),(49,er e 49),(50,.v (.int .i64 s))],λr s h=>[((0,1,0),hr h (0,1,0))]⟩
def jf.j1:LJ 1 8 Unit Unit:=⟨λr t e=>[(1,er e 1),(3,er e 3)],λr t h=>[((0,1,0),hr h (0,1,0))]⟩
open jf in
theorem aDG(cp:af)(fu:Nat)(x1:aX)(H1:akw fu cp)(H2:Ou fu cp):J (go prog ak cp aj 0 [] uV fu (fin prog [.tmp 2] [4]) (ae Tryz.f108) (ay 0 [.agg (bK x1)]) [] []) (jf fu x1) e108:=by
 unfold jf e108
 have da:=adu
 conv=>arg 1;simp only[ae,Tryz.f108]
 have z0:=adu
 exact Wk
theorem aHs(fu:Nat)(x1:aX)(r)(h:jf fu x1=some r):aA prog 108 [.agg (bK x1)] (e108 r):=aH mixed [(WO fu).ct,(Ib fu).ct] (ids:=[173,174]) rfl (by decide) aae (C:=ak) (ci:=λcp=>aj) (λcp ok=>aB) (λcp H=>aDG cp fu x1 (aH9 H.1) (X5 H.2.1)) h
open Aw (tZ)
def ajW:=Da (aC Aw.tZ.eq_1)
theorem XJ:au prog 268 tZ=some ⟨ae Tryz.f268,[.tmp 2],[9]⟩:=fA Tryz.func268
def e268:ByteArray->AV:=λr=> .v (.string r)
def dC.j5:LJ 5 210 Int Unit:=⟨λr t e=>[(3,er e 3),(4,er e 4),(13,er e 13),(18,er e 18),(31,er e 31),(36,er e 36),(45,.v (.bool (decide (r=51))))],λr t h=>[]⟩
def dC.j4:LJ 4 170 Unit Bool:=⟨λr t e=>[(3,er e 3),(4,er e 4),(13,er e 13),(18,er e 18),(31,er e 31),(36,.v (.bool t))],λr t h=>[]⟩
def dC.j3:LJ 3 114 Unit Bool:=⟨λr t e=>[(3,er e 3),(4,er e 4),(13,er e 13),(18,.v (.bool t))],λr t h=>[]⟩
def dC.j2:LJ 2 62 Unit Bool:=⟨λr t e=>[(3,er e 3),(4,er e 4),(13,.v (.bool t))],λr t h=>[]⟩
def dC.j1:LJ 1 42 Unit Bool:=⟨λr t e=>[(3,er e 3),(4,.v (.bool t))],λr t h=>[]⟩
open dC in
theorem aoF(cp:af)(fu:Nat)(x1:Int):J (go prog ak cp aj 0 [] tZ fu (fin prog [.tmp 2] [9]) (ae Tryz.f268) (ay 0 [.v (.int .i64 x1)]) [] []) (dC fu x1) e268:=by
 unfold dC e268
 have da:=ajW
 conv=>arg 1;simp only[ae,Tryz.f268]
 have z0:=ajW
 exact Wk
theorem aJa(fu:Nat)(x1:Int)(r)(h:dC fu x1=some r):aA prog 268 [.v (.int .i64 x1)] (e268 r):=aH mixed [] (ids:=[]) rfl (by decide) XJ (C:=ak) (ci:=λcp=>aj) (λcp ok=>aB) (λcp H=>aoF cp fu x1) h
open Aw (vV)
def akX:=Da (aC Aw.vV.eq_1)
theorem RF:au prog 269 vV=some ⟨ae Tryz.f269,[.tmp 6],[4]⟩:=fA Tryz.func269
def e269:Bool->AV:=λr=> .v (.bool r)
def oK.j1:LJ 1 0 Unit Bool:=⟨λr t e=>[(1,er e 1),(3,er e 3),(6,.v (.bool t)),(7,er e 7),(12,er e 12)],λr t h=>[((0,3,0),hr h (0,3,0))]⟩
open oK in
theorem ay3(cp:af)(fu:Nat)(x1:aX)(x2:Int)(x3:Int)(H1:Aq fu cp)(H2:GM fu cp):J (go prog ak cp aj 0 [] vV fu (fin prog [.tmp 6] [4]) (ae Tryz.f269) (ay 0 [.agg (bK x1),.v (.int .i64 x2),.v (.int .u8 x3)]) [] []) (oK fu x1 x2 x3) e269:=by
 unfold oK e269
 have da:=akX
 conv=>arg 1;simp only[ae,Tryz.f269]
 have z0:=akX
 exact Wk
theorem aEe(fu:Nat)(x1:aX)(x2:Int)(x3:Int)(r)(h:oK fu x1 x2 x3=some r):aA prog 269 [.agg (bK x1),.v (.int .i64 x2),.v (.int .u8 x3)] (e269 r):=aH mixed [(yw fu).ct,(EX fu).ct] (ids:=[190,172]) rfl (by decide) RF (C:=ak) (ci:=λcp=>aj) (λcp ok=>aB) (λcp H=>ay3 cp fu x1 x2 x3 (EH H.1) (Lh H.2.1)) h
open Aw (uY)
def acx:=Da (aC Aw.uY.eq_1)
theorem i175:au prog 175 uY=some ⟨ae Tryz.f175,[.tmp 2],[4]⟩:=fA Tryz.func175
def Ob:Bool->AV:=λr=> .v (.bool r)
structure ajz (fu:Nat) (cp:af):Prop where
 ap: ∀ {a0:Int} {r},dC fu a0=some r->cp 268 [.v (.int .i64 a0)]=some (.v (.string r))
noncomputable def aav(fu:Nat):Cm prog Int ByteArray:=⟨268,λt=>[.v (.int .i64 t)],λt=>dC fu t,e268,λt b h=>aJa fu t b h,Zi⟩
theorem atH(H:aI cp (aav fu).ct):ajz fu cp:=⟨λ {a0 r} h=>(aav fu).at H a0 r h⟩
structure aji (fu:Nat) (cp:af):Prop where
 ap: ∀ {a0:aX} {a1:Int} {a2:Int} {r},oK fu a0 a1 a2=some r->cp 269 [.agg (bK a0),.v (.int .i64 a1),.v (.int .u8 a2)]=some (.v (.bool r))
noncomputable def UB(fu:Nat):Cm prog (aX×Int×Int) Bool:=⟨269,λt=>[.agg (bK t.1),.v (.int .i64 t.2.1),.v (.int .u8 t.2.2)],λt=>oK fu t.1 t.2.1 t.2.2,e269,λt b h=>aEe fu t.1 t.2.1 t.2.2 b h,Zi⟩
theorem aGh(H:aI cp (UB fu).ct):aji fu cp:=⟨λ {a0 a1 a2 r} h=>(UB fu).at H (a0,a1,a2) r h⟩
def ja.m1:LJ 1 6 Unit Int:=⟨λr s e=>[(1,er e 1),(3,er e 3),(10,er e 10),(11,.v (.int .i64 s))],λr s h=>[((0,1,0),hr h (0,1,0))]⟩
def ja.j1:LJ 1 16 Unit Unit:=⟨λr t e=>[(1,er e 1)],λr t h=>[((0,1,0),hr h (0,1,0))]⟩
open ja in
theorem axF(cp:af)(fu:Nat)(x1:aX)(H1:ajz fu cp)(H2:Ou fu cp)(H3:Aq fu cp)(H4:GM fu cp)(H5:aji fu cp):J (go prog ak cp aj 0 [] uY fu (fin prog [.tmp 2] [4]) (ae Tryz.f175) (ay 0 [.agg (bK x1)]) [] []) (ja fu x1) Ob:=by
 unfold ja Ob
 have da:=acx
 conv=>arg 1;simp only[ae,Tryz.f175]
 have z0:=acx
 exact Wk
theorem av5(fu:Nat)(x1:aX)(r)(h:ja fu x1=some r):aA prog 175 [.agg (bK x1)] (Ob r):=aH mixed [(aav fu).ct,(Ib fu).ct,(yw fu).ct,(EX fu).ct,(UB fu).ct] (ids:=[268,174,190,172,269]) rfl (by decide) i175 (C:=ak) (ci:=λcp=>aj) (λcp ok=>aB) (λcp H=>axF cp fu x1 (atH H.1) (X5 H.2.1) (EH H.2.2.1) (Lh H.2.2.2.1) (aGh H.2.2.2.2.1)) h
open Aw (uK)
def ame:=Da (aC Aw.uK.eq_1)
theorem YW:au prog 178 uK=some ⟨ae Tryz.f178,[.tmp 4],[22]⟩:=fA Tryz.func178
def LV:(List Int)->AV:=λr=> .arr r.length (lm (ik .i64) r)
theorem axd(cp:af)(fu:Nat)(x1:aX)(x2:Int)(H1:Aq fu cp):J (go prog ak cp aj 0 [] uK fu (fin prog [.tmp 4] [22]) (ae Tryz.f178) (ay 0 [.agg (bK x1),.v (.int .i64 x2)]) [] []) (kz fu x1 x2) LV:=by
 unfold kz LV
 have da:=ame
 conv=>arg 1;simp only[ae,Tryz.f178]
 have z0:=ame
 exact Wk
theorem apP(fu:Nat)(x1:aX)(x2:Int)(r)(h:kz fu x1 x2=some r):aA prog 178 [.agg (bK x1),.v (.int .i64 x2)] (LV r):=aH mixed [(yw fu).ct] (ids:=[190]) rfl (by decide) YW (C:=ak) (ci:=λcp=>aj) (λcp ok=>aB) (λcp H=>axd cp fu x1 x2 (EH H.1)) h
open Aw (wo)
def air:=Da (aC Aw.wo.eq_1)
theorem Zj:au prog 270 wo=some ⟨ae Tryz.f270,[.tmp 2],[3]⟩:=fA Tryz.func270
def e270:Int->AV:=λr=> .v (.int .i64 r)
structure Jz (fu:Nat) (cp:af):Prop where
 ap: ∀ {a0:aX} {a1:Int} {r},kz fu a0 a1=some r->cp 178 [.agg (bK a0),.v (.int .i64 a1)]=some (.arr r.length (lm (ik .i64) r))
noncomputable def Ii(fu:Nat):Cm prog (aX×Int) (List Int):=⟨178,λt=>[.agg (bK t.1),.v (.int .i64 t.2)],λt=>kz fu t.1 t.2,LV,λt b h=>apP fu t.1 t.2 b h,Zi⟩
theorem SL(H:aI cp (Ii fu).ct):Jz fu cp:=⟨λ {a0 a1 r} h=>(Ii fu).at H (a0,a1) r h⟩
theorem arS(cp:af)(fu:Nat)(x1:aX)(H1:Jz fu cp):J (go prog ak cp aj 0 [] wo fu (fin prog [.tmp 2] [3]) (ae Tryz.f270) (ay 0 [.agg (bK x1)]) [] []) (zI fu x1) e270:=by
 unfold zI e270
 have da:=air
 conv=>arg 1;simp only[ae,Tryz.f270]
 have z0:=air
 exact Wk
theorem aFV(fu:Nat)(x1:aX)(r)(h:zI fu x1=some r):aA prog 270 [.agg (bK x1)] (e270 r):=aH mixed [(Ii fu).ct] (ids:=[178]) rfl (by decide) Zj (C:=ak) (ci:=λcp=>aj) (λcp ok=>aB) (λcp H=>arS cp fu x1 (SL H.1)) h
open Aw (vK)
def ahB:=Da (aC Aw.vK.eq_1)
theorem Zq:au prog 176 vK=some ⟨ae Tryz.f176,[.tmp 2],[4]⟩:=fA Tryz.func176
def J7:Bool->AV:=λr=> .v (.bool r)
structure adQ (fu:Nat) (cp:af):Prop where
 ap: ∀ {a0:aX} {r},zI fu a0=some r->cp 270 [.agg (bK a0)]=some (.v (.int .i64 r))
noncomputable def WC(fu:Nat):Cm prog aX Int:=⟨270,λt=>[.agg (bK t)],λt=>zI fu t,e270,λt b h=>aFV fu t b h,Zi⟩
theorem aug(H:aI cp (WC fu).ct):adQ fu cp:=⟨λ {a0 r} h=>(WC fu).at H a0 r h⟩
def kX.j2:LJ 2 136 aX Unit:=⟨λr t e=>[(1,er e 1),(3,er e 3),(4,er e 4),(17,er e 17),(58,er e 58),(99,er e 99),(131,.v (.bool (decide (r.fop=69))))],λr t h=>[((0,1,0),hr h (0,1,0)),((0,3,0),hr h (0,3,0))]⟩
def kX.j1:LJ 1 104 aX Unit:=⟨λr t e=>[(1,er e 1),(3,er e 3),(4,er e 4),(17,er e 17),(58,er e 58),(99,.v (.bool (decide (r.fop=80))))],λr t h=>[((0,1,0),hr h (0,1,0)),((0,3,0),hr h (0,3,0))]⟩
open kX in
theorem aAH(cp:af)(fu:Nat)(x1:aX)(H1:adQ fu cp)(H2:Aq fu cp)(H3:GM fu cp):J (go prog ak cp aj 0 [] vK fu (fin prog [.tmp 2] [4]) (ae Tryz.f176) (ay 0 [.agg (bK x1)]) [] []) (kX fu x1) J7:=by
 unfold kX J7
 have da:=ahB
 conv=>arg 1;simp only[ae,Tryz.f176]
 have z0:=ahB
 exact Wk
theorem aAV(fu:Nat)(x1:aX)(r)(h:kX fu x1=some r):aA prog 176 [.agg (bK x1)] (J7 r):=aH mixed [(WC fu).ct,(yw fu).ct,(EX fu).ct] (ids:=[270,190,172]) rfl (by decide) Zq (C:=ak) (ci:=λcp=>aj) (λcp ok=>aB) (λcp H=>aAH cp fu x1 (aug H.1) (EH H.2.1) (Lh H.2.2.1)) h
open Aw (uA)
def ahh:=Da (aC Aw.uA.eq_1)
theorem abk:au prog 276 uA=some ⟨ae Tryz.f276,[.tmp 2],[46]⟩:=fA Tryz.func276
def JK:(List aQ)->AV:=λr=> .fresh 8 r.length (fm cO r)
def o7.j1:LJ 1 6 aX Unit:=⟨λr t e=>[(1,er e 1),(3,er e 3),(4,er e 4),(8,er e 8),(13,.v (.bool (decide (r.fop=65))))],λr t h=>[((0,1,0),hr h (0,1,0))]⟩
open o7 in
theorem aAB(cp:af)(fu:Nat)(x1:aX):J (go prog ak cp aj 0 [] uA fu (fin prog [.tmp 2] [46]) (ae Tryz.f276) (ay 0 [.agg (bK x1)]) [] []) (o7 fu x1) JK:=by
 unfold o7 JK
 have da:=ahh
 conv=>arg 1;simp only[ae,Tryz.f276]
 have z0:=ahh
 exact Wk
theorem as5(fu:Nat)(x1:aX)(r)(h:o7 fu x1=some r):aA prog 276 [.agg (bK x1)] (JK r):=aH mixed [] (ids:=[]) rfl (by decide) abk (C:=ak) (ci:=λcp=>aj) (λcp ok=>aB) (λcp H=>aAB cp fu x1) h
open Aw (tH)
def qK:=Da (aC Aw.tH.eq_1)
theorem Um:au prog 351 tH=some ⟨ae Tryz.f351,[.tmp 4],[3]⟩:=fA Tryz.func351
def Nw:Int->AV:=λr=> .v (.int .i64 r)
theorem anD(cp:af)(fu:Nat)(x1:List aQ)(p1:aQ→Option Bool)(fv_p1:FuncId)(ca_p1:List AV)(cap_p1:bf ca_p1)(hp_p1: ∀ (y0:aQ) r,p1 y0=some r→cp fv_p1 ((.agg (cO y0))::ca_p1)=some (.v (.bool r))):J (go prog ak cp aj 0 [] tH fu (fin prog [.tmp 4] [3]) (ae Tryz.f351) (ay 0 [.arr x1.length (fm cO x1),.fn fv_p1 [] ca_p1]) [] []) (pz fu x1 p1) Nw:=by
 unfold pz Nw
 have da:=qK
 have c4_p1:=λg=>(cap_p1.1 g).1;have c3_p1:=λg=>(cap_p1.1 g).2.1;have b4_p1:=λg=>(cap_p1.1 g).2.2.1;have b3_p1:=λg=>(cap_p1.1 g).2.2.2;have nm_p1:=cap_p1.2
 conv=>arg 1;simp (disch:=first|exact Zd|fail) only[ae,Tryz.f351,ZZ,qK,simprocAttr,c4_p1,c3_p1,b4_p1,b3_p1,nm_p1]
 refine J.eq dZ ?_
 conv=>arg 1;simp (disch:=first|exact Zd|fail) only[ZZ,qK,simprocAttr,c4_p1,c3_p1,b4_p1,b3_p1,nm_p1]
 unfold pz.W1
 refine J.loop (λ(s:Int)=>([(0,.arr x1.length (fm cO x1)),(1,.fn fv_p1 [] ca_p1),(7,.v (.int .i64 (x1.length:Int))),(8,.v (.int .i64 s))],[])) (λnext s=>pz.L1 fu p1 x1 next s) (s0:=0) ?_ ?_ ?_
 ·exact Ze
 ·exact Zh
 rintro nx1 k1 hn1 x4
 show J _ (pz.L1 fu p1 x1 nx1 x4) _
 unfold pz.L1
 conv=>arg 1;simp (disch:=first|exact Zd|fail) only[ZZ,qK,simprocAttr,c4_p1,c3_p1,b4_p1,b3_p1,nm_p1]
 refine J.eq dZ ?_
 conv=>arg 1;simp (disch:=first|exact Zd|fail) only[ZZ,qK,simprocAttr,c4_p1,c3_p1,b4_p1,b3_p1,nm_p1]
 refine J.ite (λh1=> ?_) (λh1=> ?_)
 ·have h1':=decide_eq_true h1
  have h1'':decide ((x1.length:Int)<=x4)=false:=decide_eq_false (by omega)
  conv=>arg 1;simp (disch:=first|exact Zd|fail) only[ZZ,qK,simprocAttr,c4_p1,c3_p1,b4_p1,b3_p1,nm_p1,h1'',h1']
  refine J.eq dS ?_
  refine J.eq dZ ?_
  refine J.at λx7 h2 h3 h4=> ?_
  refine J.bind λx8 h5=> ?_
  have e_h5:=hp_p1 _ _ h5
  try simp only[NN,NT,LN,simprocAttr,DT]at e_h5
  conv=>arg 1;simp (disch:=first|exact Zd|fail) only[ZZ,qK,simprocAttr,c4_p1,c3_p1,b4_p1,b3_p1,nm_p1,h1'',h1',Ah gG h4,Dt gG h4,BO gG h4,Gh gG h4,e_h5]
  refine J.ite (λh6=> ?_) (λh6=> ?_)
  ·have h6':x8=true:=h6
   refine J.some ?_
   simp (maxSteps:=20000000) (disch:=first|exact Zd|fail) only[ZZ,qK,simprocAttr,c4_p1,c3_p1,b4_p1,b3_p1,nm_p1,h1'',h1',Ah gG h4,Dt gG h4,BO gG h4,Gh gG h4,e_h5,h6',FN]
  ·have h6':x8=false:=Bool.eq_false_iff.2 h6
   conv=>arg 1;simp (disch:=first|exact Zd|fail) only[ZZ,qK,simprocAttr,c4_p1,c3_p1,b4_p1,b3_p1,nm_p1,h1'',h1',Ah gG h4,Dt gG h4,BO gG h4,Gh gG h4,e_h5,h6']
   refine J.eq dS ?_
   conv=>arg 1;simp (disch:=first|exact Zd|fail) only[ZZ,qK,simprocAttr,c4_p1,c3_p1,b4_p1,b3_p1,nm_p1,h1'',h1',Ah gG h4,Dt gG h4,BO gG h4,Gh gG h4,e_h5,h6']
   refine J.next (s:=wk .i64 (x4+1)) hn1 ?_ ?_
   ·exact Ze
   ·exact Zh
 ·have h1':=decide_eq_false h1
  have h1'':decide ((x1.length:Int)<=x4)=true:=decide_eq_true (by omega)
  conv=>arg 1;simp (disch:=first|exact Zd|fail) only[ZZ,qK,simprocAttr,c4_p1,c3_p1,b4_p1,b3_p1,nm_p1,h1'',h1']
  refine J.eq dS ?_
  refine J.some ?_
  simp (maxSteps:=20000000) (disch:=first|exact Zd|fail) only[ZZ,qK,simprocAttr,c4_p1,c3_p1,b4_p1,b3_p1,nm_p1,h1'',h1',FN]
noncomputable def aiE(fu:Nat)(x1:List aQ)(p1:aQ->Option Bool)(fv_p1:FuncId)(ca_p1:List AV):af:=gm fv_p1 (gV (λ(t:aQ)=>((.agg (cO t))::ca_p1:List AV)) (λt=>p1 t) (λr=> .v (.bool r))) (mY)
theorem aoS(fu:Nat)(x1:List aQ)(p1:aQ->Option Bool)(fv_p1:FuncId)(ca_p1:List AV)(cap_p1:bf ca_p1)(hp_p1: ∀ (y0:aQ) r,p1 y0=some r->aA prog fv_p1 ((.agg (cO y0))::ca_p1) (.v (.bool r))):aJ prog (aiE fu x1 p1 fv_p1 ca_p1):=jD (nJ) (jE (λt b h=>hp_p1 t b h))
theorem aAG(fu:Nat)(x1:List aQ)(p1:aQ→Option Bool)(fv_p1:FuncId)(ca_p1:List AV)(cap_p1:bf ca_p1)(hp_p1: ∀ (y0:aQ) r,p1 y0=some r→aA prog fv_p1 ((.agg (cO y0))::ca_p1) (.v (.bool r)))(r)(h:pz fu x1 p1=some r):aA prog 351 [.arr x1.length (fm cO x1),.fn fv_p1 [] ca_p1] (Nw r):=
  pJ mixed (cp:=aiE fu x1 p1 fv_p1 ca_p1) (aoS fu x1 p1 fv_p1 ca_p1 cap_p1 hp_p1) aB Um (anD _ fu x1 p1 fv_p1 ca_p1 cap_p1 (λy0 r h=>jo (jv (a:=y0) (by intro a b h;first|(exact rfl)|(simp only[gB,IJ]at h;first|exact h|(simp_all [Prod.ext_iff]))) h))) h
open Aw (ww)
def ad5:=Da (aC Aw.ww.eq_1)
theorem aaz:au prog 277 ww=some ⟨ae Tryz.f277,[.tmp 4],[4]⟩:=fA Tryz.func277
def Fh:Bool->AV:=λr=> .v (.bool r)
theorem an5(cp:af)(fu:Nat)(x1:List aQ)(p1:aQ→Option Bool)(fv_p1:FuncId)(ca_p1:List AV)(cap_p1:bf ca_p1)(hp_p1: ∀ (y0:aQ) r,p1 y0=some r→cp fv_p1 ((.agg (cO y0))::ca_p1)=some (.v (.bool r)))(H351_0: ∀ (a0:List aQ) r,pz fu a0 p1=some r→cp 351 [.arr a0.length (fm cO a0),.fn fv_p1 [] ca_p1]=some (.v (.int .i64 r))):J (go prog ak cp aj 0 [] ww fu (fin prog [.tmp 4] [4]) (ae Tryz.f277) (ay 0 [.arr x1.length (fm cO x1),.fn fv_p1 [] ca_p1]) [] []) (qj fu x1 p1) Fh:=by
 unfold qj Fh
 have da:=ad5
 have c4_p1:=λg=>(cap_p1.1 g).1;have c3_p1:=λg=>(cap_p1.1 g).2.1;have b4_p1:=λg=>(cap_p1.1 g).2.2.1;have b3_p1:=λg=>(cap_p1.1 g).2.2.2;have nm_p1:=cap_p1.2
 refine J.bind λx2 h1=> ?_
 have e_h1:=H351_0 _ _ h1
 try simp only[NN,NT,LN,simprocAttr,DT]at e_h1
 refine J.some ?_
 simp (maxSteps:=20000000) (disch:=first|exact Zd|fail) only[ae,Tryz.f277,ZZ,ad5,simprocAttr,c4_p1,c3_p1,b4_p1,b3_p1,nm_p1,e_h1,FN]
noncomputable def alq(fu:Nat)(x1:List aQ)(p1:aQ->Option Bool)(fv_p1:FuncId)(ca_p1:List AV):af:=gm 351 (gV (λ(t:List aQ)=>([.arr t.length (fm cO t),.fn fv_p1 [] ca_p1]:List AV)) (λt=>pz fu t p1) Nw) (gm fv_p1 (gV (λ(t:aQ)=>((.agg (cO t))::ca_p1:List AV)) (λt=>p1 t) (λr=> .v (.bool r))) (mY))
theorem aBX(fu:Nat)(x1:List aQ)(p1:aQ->Option Bool)(fv_p1:FuncId)(ca_p1:List AV)(cap_p1:bf ca_p1)(hp_p1: ∀ (y0:aQ) r,p1 y0=some r->aA prog fv_p1 ((.agg (cO y0))::ca_p1) (.v (.bool r))):aJ prog (alq fu x1 p1 fv_p1 ca_p1):=jD (jD (nJ) (jE (λt b h=>hp_p1 t b h))) (jE (λt b h=>aAG fu t p1 fv_p1 ca_p1 cap_p1 hp_p1 b h))
theorem Ye(fu:Nat)(x1:List aQ)(p1:aQ→Option Bool)(fv_p1:FuncId)(ca_p1:List AV)(cap_p1:bf ca_p1)(hp_p1: ∀ (y0:aQ) r,p1 y0=some r→aA prog fv_p1 ((.agg (cO y0))::ca_p1) (.v (.bool r)))(r)(h:qj fu x1 p1=some r):aA prog 277 [.arr x1.length (fm cO x1),.fn fv_p1 [] ca_p1] (Fh r):=
  pJ mixed (cp:=alq fu x1 p1 fv_p1 ca_p1) (aBX fu x1 p1 fv_p1 ca_p1 cap_p1 hp_p1) aB aaz (an5 _ fu x1 p1 fv_p1 ca_p1 cap_p1 (λy0 r h=>MS (λhfv=>BQ (by intro t h;simp at h)) (jo (jv (a:=y0) (by intro a b h;first|(exact rfl)|(simp only[gB,IJ]at h;first|exact h|(simp_all [Prod.ext_iff]))) h))) (λa0 r h=>jo (jv (a:=a0) (by intro a b h;first|(exact rfl)|(simp only[gB,IJ]at h;first|exact h|(simp_all [Prod.ext_iff]))) h))) h
open Aw (uC)
def adH:=Da (aC Aw.uC.eq_1)
theorem i193:au prog 193 uC=some ⟨ae Tryz.f193,[.tmp 4],[4]⟩:=fA Tryz.func193
def KG:Bool->AV:=λr=> .v (.bool r)
def slices_Equal_int.m1:LJ 1 8 Unit Int:=⟨λr s e=>[(0,er e 0),(1,er e 1),(12,er e 12),(13,.v (.int .i64 s))],λr s h=>[]⟩
open slices_Equal_int in
theorem axT(cp:af)(fu:Nat)(x1:List Int)(x2:List Int):J (go prog ak cp aj 0 [] uC fu (fin prog [.tmp 4] [4]) (ae Tryz.f193) (ay 0 [.arr x1.length (lm (ik .i64) x1),.arr x2.length (lm (ik .i64) x2)]) [] []) (slices_Equal_int fu x1 x2) KG:=by
 unfold slices_Equal_int KG
 have da:=adH
 conv=>arg 1;simp only[ae,Tryz.f193]
 have z0:=adH
 exact Wk
theorem aJk(fu:Nat)(x1:List Int)(x2:List Int)(r)(h:slices_Equal_int fu x1 x2=some r):aA prog 193 [.arr x1.length (lm (ik .i64) x1),.arr x2.length (lm (ik .i64) x2)] (KG r):=aH mixed [] (ids:=[]) rfl (by decide) i193 (C:=ak) (ci:=λcp=>aj) (λcp ok=>aB) (λcp H=>axT cp fu x1 x2) h
def Va:TD:=zz [[0,2],[],[1,3,4,5,6,7,8,9,10,11,12,13,14,15,16,17,18,19,20,21,22,23,24,25,26]]
def amb:=Da (aC Va.eq_1)
theorem aFQ:au prog 279 Va=some ⟨ae Tryz.f279,[.tmp 2],[4]⟩:=fA Tryz.func279
def e279:Bool->AV:=λr=> .v (.bool r)
structure JC (fu:Nat) (cp:af):Prop where
 ap: ∀ {a0:T_Tensor} {r},jP fu a0=some r->cp 50 [.agg (bV a0)]=some (.v (.int .i64 r))
noncomputable def Hg(fu:Nat):Cm prog T_Tensor Int:=⟨50,λt=>[.agg (bV t)],λt=>jP fu t,e50,λt b h=>ajR fu t b h,Zi⟩
theorem u50(H:aI cp (Hg fu).ct):JC fu cp:=⟨λ {a0 r} h=>(Hg fu).at H a0 r h⟩
structure Qg (fu:Nat) (cp:af):Prop where
 ap: ∀ {a0:List Int} {a1:List Int} {r},slices_Equal_int fu a0 a1=some r->cp 193 [.arr a0.length (lm (ik .i64) a0),.arr a1.length (lm (ik .i64) a1)]=some (.v (.bool r))
noncomputable def IY(fu:Nat):Cm prog ((List Int)×(List Int)) Bool:=⟨193,λt=>[.arr t.1.length (lm (ik .i64) t.1),.arr t.2.length (lm (ik .i64) t.2)],λt=>slices_Equal_int fu t.1 t.2,KG,λt b h=>aJk fu t.1 t.2 b h,Zi⟩
theorem u193(H:aI cp (IY fu).ct):Qg fu cp:=⟨λ {a0 a1 r} h=>(IY fu).at H (a0,a1) r h⟩
theorem ash(cp:af)(fu:Nat)(x1:aQ)(H1:JC fu cp)(H2:Qg fu cp):J (go prog ak cp aj 0 [] Va fu (fin prog [.tmp 2] [4]) (ae Tryz.f279) (ay 0 [.agg (cO x1)]) [] []) (CY fu x1) e279:=by
 unfold CY e279
 have da:=amb
 conv=>arg 1;simp only[ae,Tryz.f279]
 have z0:=amb
 exact Wk
theorem amZ(fu:Nat)(x1:aQ)(r)(h:CY fu x1=some r):aA prog 279 [.agg (cO x1)] (e279 r):=aH mixed [(Hg fu).ct,(IY fu).ct] (ids:=[50,193]) rfl (by decide) aFQ (C:=ak) (ci:=λcp=>aj) (λcp ok=>aB) (λcp H=>ash cp fu x1 (u50 H.1) (u193 H.2.1)) h
def Uj:TD:=zz [[0,2],[],[1,3,4,5]]
def akY:=Da (aC Uj.eq_1)
theorem aMm:au prog 278 Uj=some ⟨ae Tryz.f278,[.tmp 2],[4]⟩:=fA Tryz.func278
def e278:Bool->AV:=λr=> .v (.bool r)
structure adE (fu:Nat) (cp:af):Prop where
 ap: ∀ {a0:aQ} {r},CY fu a0=some r->cp 279 [.agg (cO a0)]=some (.v (.bool r))
noncomputable def SQ(fu:Nat):Cm prog aQ Bool:=⟨279,λt=>[.agg (cO t)],λt=>CY fu t,e279,λt b h=>amZ fu t b h,Zi⟩
theorem apb(H:aI cp (SQ fu).ct):adE fu cp:=⟨λ {a0 r} h=>(SQ fu).at H a0 r h⟩
theorem aEp(cp:af)(fu:Nat)(x1:aQ)(H1:adE fu cp):J (go prog ak cp aj 0 [] Uj fu (fin prog [.tmp 2] [4]) (ae Tryz.f278) (ay 0 [.agg (cO x1)]) [] []) (BD fu x1) e278:=by
 unfold BD e278
 have da:=akY
 conv=>arg 1;simp only[ae,Tryz.f278]
 have z0:=akY
 exact Wk
theorem anJ(fu:Nat)(x1:aQ)(r)(h:BD fu x1=some r):aA prog 278 [.agg (cO x1)] (e278 r):=aH mixed [(SQ fu).ct] (ids:=[279]) rfl (by decide) aMm (C:=ak) (ci:=λcp=>aj) (λcp ok=>aB) (λcp H=>aEp cp fu x1 (apb H.1)) h
def UH:TD:=zz [[0,2],[],[1,3,4,5,6]]
def alO:=Da (aC UH.eq_1)
theorem ani:au prog 280 UH=some ⟨ae Tryz.f280,[.tmp 2],[4]⟩:=fA Tryz.func280
def e280:Bool->AV:=λr=> .v (.bool r)
theorem asl(cp:af)(fu:Nat)(x1:aQ):J (go prog ak cp aj 0 [] UH fu (fin prog [.tmp 2] [4]) (ae Tryz.f280) (ay 0 [.agg (cO x1)]) [] []) (BN fu x1) e280:=by
 unfold BN e280
 have da:=alO
 conv=>arg 1;simp only[ae,Tryz.f280]
 have z0:=alO
 exact Wk
theorem axz(fu:Nat)(x1:aQ)(r)(h:BN fu x1=some r):aA prog 280 [.agg (cO x1)] (e280 r):=aH mixed [] (ids:=[]) rfl (by decide) ani (C:=ak) (ci:=λcp=>aj) (λcp ok=>aB) (λcp H=>asl cp fu x1) h
def VP:TD:=zz [[4],[0,1,7,8],[6],[5],[],[],[10],[],[11,12,13,14,15],[],[17],[],[18],[],[]]
def qN:=Da (aC VP.eq_1)
theorem aCe:au prog 352 VP=some ⟨ae Tryz.f352,[.tmp 4],[3]⟩:=fA Tryz.func352
def NR:Int->AV:=λr=> .v (.int .i64 r)
theorem aAQ(cp:af)(fu:Nat)(x1:List Int)(p1:Int→Option Bool)(fv_p1:FuncId)(ca_p1:List AV)(cap_p1:bf ca_p1)(hp_p1: ∀ (y0:Int) r,p1 y0=some r→cp fv_p1 ((.v (.int .i64 y0))::ca_p1)=some (.v (.bool r))):J (go prog ak cp aj 0 [] VP fu (fin prog [.tmp 4] [3]) (ae Tryz.f352) (ay 0 [.arr x1.length (lm (ik .i64) x1),.fn fv_p1 [] ca_p1]) [] []) (oP fu x1 p1) NR:=by
 unfold oP NR
 have da:=qN
 have c4_p1:=λg=>(cap_p1.1 g).1;have c3_p1:=λg=>(cap_p1.1 g).2.1;have b4_p1:=λg=>(cap_p1.1 g).2.2.1;have b3_p1:=λg=>(cap_p1.1 g).2.2.2;have nm_p1:=cap_p1.2
 conv=>arg 1;simp (disch:=first|exact Zd|fail) only[ae,Tryz.f352,ZZ,qN,simprocAttr,c4_p1,c3_p1,b4_p1,b3_p1,nm_p1]
 refine J.eq dZ ?_
 conv=>arg 1;simp (disch:=first|exact Zd|fail) only[ZZ,qN,simprocAttr,c4_p1,c3_p1,b4_p1,b3_p1,nm_p1]
 unfold oP.W1
 refine J.loop (λ(s:Int)=>([(0,.arr x1.length (lm (ik .i64) x1)),(1,.fn fv_p1 [] ca_p1),(7,.v (.int .i64 (x1.length:Int))),(8,.v (.int .i64 s))],[])) (λnext s=>oP.L1 fu p1 x1 next s) (s0:=0) ?_ ?_ ?_
 ·exact Ze
 ·exact Zh
 rintro nx1 k1 hn1 x4
 show J _ (oP.L1 fu p1 x1 nx1 x4) _
 unfold oP.L1
 conv=>arg 1;simp (disch:=first|exact Zd|fail) only[ZZ,qN,simprocAttr,c4_p1,c3_p1,b4_p1,b3_p1,nm_p1]
 refine J.eq dZ ?_
 conv=>arg 1;simp (disch:=first|exact Zd|fail) only[ZZ,qN,simprocAttr,c4_p1,c3_p1,b4_p1,b3_p1,nm_p1]
 refine J.ite (λh1=> ?_) (λh1=> ?_)
 ·have h1':=decide_eq_true h1
  have h1'':decide ((x1.length:Int)<=x4)=false:=decide_eq_false (by omega)
  conv=>arg 1;simp (disch:=first|exact Zd|fail) only[ZZ,qN,simprocAttr,c4_p1,c3_p1,b4_p1,b3_p1,nm_p1,h1'',h1']
  refine J.eq dS ?_
  refine J.eq dZ ?_
  refine J.at λx7 h2 h3 h4=> ?_
  refine J.bind λx8 h5=> ?_
  have e_h5:=hp_p1 _ _ h5
  try simp only[NN,NT,LN,simprocAttr,DT]at e_h5
  conv=>arg 1;simp (disch:=first|exact Zd|fail) only[ZZ,qN,simprocAttr,c4_p1,c3_p1,b4_p1,b3_p1,nm_p1,h1'',h1',fV h4,e_h5]
  refine J.ite (λh6=> ?_) (λh6=> ?_)
  ·have h6':x8=true:=h6
   refine J.some ?_
   simp (maxSteps:=20000000) (disch:=first|exact Zd|fail) only[ZZ,qN,simprocAttr,c4_p1,c3_p1,b4_p1,b3_p1,nm_p1,h1'',h1',fV h4,e_h5,h6',FN]
  ·have h6':x8=false:=Bool.eq_false_iff.2 h6
   conv=>arg 1;simp (disch:=first|exact Zd|fail) only[ZZ,qN,simprocAttr,c4_p1,c3_p1,b4_p1,b3_p1,nm_p1,h1'',h1',fV h4,e_h5,h6']
   refine J.eq dS ?_
   conv=>arg 1;simp (disch:=first|exact Zd|fail) only[ZZ,qN,simprocAttr,c4_p1,c3_p1,b4_p1,b3_p1,nm_p1,h1'',h1',fV h4,e_h5,h6']
   refine J.next (s:=wk .i64 (x4+1)) hn1 ?_ ?_
   ·exact Ze
   ·exact Zh
 ·have h1':=decide_eq_false h1
  have h1'':decide ((x1.length:Int)<=x4)=true:=decide_eq_true (by omega)
  conv=>arg 1;simp (disch:=first|exact Zd|fail) only[ZZ,qN,simprocAttr,c4_p1,c3_p1,b4_p1,b3_p1,nm_p1,h1'',h1']
  refine J.eq dS ?_
  refine J.some ?_
  simp (maxSteps:=20000000) (disch:=first|exact Zd|fail) only[ZZ,qN,simprocAttr,c4_p1,c3_p1,b4_p1,b3_p1,nm_p1,h1'',h1',FN]
noncomputable def ag9(fu:Nat)(x1:List Int)(p1:Int->Option Bool)(fv_p1:FuncId)(ca_p1:List AV):af:=gm fv_p1 (gV (λ(t:Int)=>((.v (.int .i64 t))::ca_p1:List AV)) (λt=>p1 t) (λr=> .v (.bool r))) (mY)
theorem aBl(fu:Nat)(x1:List Int)(p1:Int->Option Bool)(fv_p1:FuncId)(ca_p1:List AV)(cap_p1:bf ca_p1)(hp_p1: ∀ (y0:Int) r,p1 y0=some r->aA prog fv_p1 ((.v (.int .i64 y0))::ca_p1) (.v (.bool r))):aJ prog (ag9 fu x1 p1 fv_p1 ca_p1):=jD (nJ) (jE (λt b h=>hp_p1 t b h))
theorem aET(fu:Nat)(x1:List Int)(p1:Int→Option Bool)(fv_p1:FuncId)(ca_p1:List AV)(cap_p1:bf ca_p1)(hp_p1: ∀ (y0:Int) r,p1 y0=some r→aA prog fv_p1 ((.v (.int .i64 y0))::ca_p1) (.v (.bool r)))(r)(h:oP fu x1 p1=some r):aA prog 352 [.arr x1.length (lm (ik .i64) x1),.fn fv_p1 [] ca_p1] (NR r):=
  pJ mixed (cp:=ag9 fu x1 p1 fv_p1 ca_p1) (aBl fu x1 p1 fv_p1 ca_p1 cap_p1 hp_p1) aB aCe (aAQ _ fu x1 p1 fv_p1 ca_p1 cap_p1 (λy0 r h=>jo (jv (a:=y0) (by intro a b h;first|(exact rfl)|(simp only[gB,IJ]at h;first|exact h|(simp_all [Prod.ext_iff]))) h))) h
def aam:TD:=zz [[4],[],[0,1,5,6,7,8]]
def afG:=Da (aC aam.eq_1)
theorem aBP:au prog 282 aam=some ⟨ae Tryz.f282,[.tmp 4],[4]⟩:=fA Tryz.func282
def Lm:Bool->AV:=λr=> .v (.bool r)
theorem aEl(cp:af)(fu:Nat)(x1:List Int)(p1:Int→Option Bool)(fv_p1:FuncId)(ca_p1:List AV)(cap_p1:bf ca_p1)(hp_p1: ∀ (y0:Int) r,p1 y0=some r→cp fv_p1 ((.v (.int .i64 y0))::ca_p1)=some (.v (.bool r)))(H352_0: ∀ (a0:List Int) r,oP fu a0 p1=some r→cp 352 [.arr a0.length (lm (ik .i64) a0),.fn fv_p1 [] ca_p1]=some (.v (.int .i64 r))):J (go prog ak cp aj 0 [] aam fu (fin prog [.tmp 4] [4]) (ae Tryz.f282) (ay 0 [.arr x1.length (lm (ik .i64) x1),.fn fv_p1 [] ca_p1]) [] []) (EO fu x1 p1) Lm:=by
 unfold EO Lm
 have da:=afG
 have c4_p1:=λg=>(cap_p1.1 g).1;have c3_p1:=λg=>(cap_p1.1 g).2.1;have b4_p1:=λg=>(cap_p1.1 g).2.2.1;have b3_p1:=λg=>(cap_p1.1 g).2.2.2;have nm_p1:=cap_p1.2
 refine J.bind λx2 h1=> ?_
 have e_h1:=H352_0 _ _ h1
 try simp only[NN,NT,LN,simprocAttr,DT]at e_h1
 refine J.some ?_
 simp (maxSteps:=20000000) (disch:=first|exact Zd|fail) only[ae,Tryz.f282,ZZ,afG,simprocAttr,c4_p1,c3_p1,b4_p1,b3_p1,nm_p1,e_h1,FN]
noncomputable def aez(fu:Nat)(x1:List Int)(p1:Int->Option Bool)(fv_p1:FuncId)(ca_p1:List AV):af:=gm 352 (gV (λ(t:List Int)=>([.arr t.length (lm (ik .i64) t),.fn fv_p1 [] ca_p1]:List AV)) (λt=>oP fu t p1) NR) (gm fv_p1 (gV (λ(t:Int)=>((.v (.int .i64 t))::ca_p1:List AV)) (λt=>p1 t) (λr=> .v (.bool r))) (mY))
theorem aD3(fu:Nat)(x1:List Int)(p1:Int->Option Bool)(fv_p1:FuncId)(ca_p1:List AV)(cap_p1:bf ca_p1)(hp_p1: ∀ (y0:Int) r,p1 y0=some r->aA prog fv_p1 ((.v (.int .i64 y0))::ca_p1) (.v (.bool r))):aJ prog (aez fu x1 p1 fv_p1 ca_p1):=jD (jD (nJ) (jE (λt b h=>hp_p1 t b h))) (jE (λt b h=>aET fu t p1 fv_p1 ca_p1 cap_p1 hp_p1 b h))
theorem aoc(fu:Nat)(x1:List Int)(p1:Int→Option Bool)(fv_p1:FuncId)(ca_p1:List AV)(cap_p1:bf ca_p1)(hp_p1: ∀ (y0:Int) r,p1 y0=some r→aA prog fv_p1 ((.v (.int .i64 y0))::ca_p1) (.v (.bool r)))(r)(h:EO fu x1 p1=some r):aA prog 282 [.arr x1.length (lm (ik .i64) x1),.fn fv_p1 [] ca_p1] (Lm r):=
  pJ mixed (cp:=aez fu x1 p1 fv_p1 ca_p1) (aD3 fu x1 p1 fv_p1 ca_p1 cap_p1 hp_p1) aB aBP (aEl _ fu x1 p1 fv_p1 ca_p1 cap_p1 (λy0 r h=>MS (λhfv=>BQ (by intro t h;simp at h)) (jo (jv (a:=y0) (by intro a b h;first|(exact rfl)|(simp only[gB,IJ]at h;first|exact h|(simp_all [Prod.ext_iff]))) h))) (λa0 r h=>jo (jv (a:=a0) (by intro a b h;first|(exact rfl)|(simp only[gB,IJ]at h;first|exact h|(simp_all [Prod.ext_iff]))) h))) h
def ZI:TD:=zz [[2],[],[0,3,4]]
def alB:=Da (aC ZI.eq_1)
theorem aBi:au prog 283 ZI=some ⟨ae Tryz.f283,[.tmp 2],[4]⟩:=fA Tryz.func283
def e283:Bool->AV:=λr=> .v (.bool r)
theorem avt(cp:af)(fu:Nat)(x1:Int):J (go prog ak cp aj 0 [] ZI fu (fin prog [.tmp 2] [4]) (ae Tryz.f283) (ay 0 [.v (.int .i64 x1)]) [] []) (BB fu x1) e283:=by
 unfold BB e283
 have da:=alB
 conv=>arg 1;simp only[ae,Tryz.f283]
 have z0:=alB
 exact Wk
theorem anI(fu:Nat)(x1:Int)(r)(h:BB fu x1=some r):aA prog 283 [.v (.int .i64 x1)] (e283 r):=aH mixed [] (ids:=[]) rfl (by decide) aBi (C:=ak) (ci:=λcp=>aj) (λcp ok=>aB) (λcp H=>avt cp fu x1) h
def TB:TD:=zz [[0,2],[],[1,3,4,5,6]]
def ajk:=Da (aC TB.eq_1)
theorem aBf:au prog 281 TB=some ⟨ae Tryz.f281,[.tmp 2],[4]⟩:=fA Tryz.func281
def SV:Bool->AV:=λr=> .v (.bool r)
structure agL (fu:Nat) (cp:af):Prop where
 ap: ∀ {a0:List Int} {r},EO fu a0 (λy0=>BB fu y0)=some r->cp 282 [.arr a0.length (lm (ik .i64) a0),.fn 283 [] []]=some (.v (.bool r))
noncomputable def Za(fu:Nat):Cm prog (List Int) Bool:=⟨282,λt=>[.arr t.length (lm (ik .i64) t),.fn 283 [] []],λt=>EO fu t (λy0=>BB fu y0),Lm,λt b h=>aoc fu t (λy0=>BB fu y0) 283 [] bf.nil (λy0 r h=>anI fu y0 r h) b h,Zi⟩
theorem ayL(H:aI cp (Za fu).ct):agL fu cp:=⟨λ {a0 r} h=>(Za fu).at H a0 r h⟩
theorem aIY(cp:af)(fu:Nat)(x1:aQ)(H1:agL fu cp):J (go prog ak cp aj 0 [] TB fu (fin prog [.tmp 2] [4]) (ae Tryz.f281) (ay 0 [.agg (cO x1)]) [] []) (Ar fu x1) SV:=by
 unfold Ar SV
 have da:=ajk
 conv=>arg 1;simp only[ae,Tryz.f281]
 have z0:=ajk
 exact Wk
theorem aGc(fu:Nat)(x1:aQ)(r)(h:Ar fu x1=some r):aA prog 281 [.agg (cO x1)] (SV r):=aH mixed [(Za fu).ct] (ids:=[282]) rfl (by decide) aBf (C:=ak) (ci:=λcp=>aj) (λcp ok=>aB) (λcp H=>aIY cp fu x1 (ayL H.1)) h
open Aw (vN)
def ahe:=Da (aC Aw.vN.eq_1)
theorem Yh:au prog 177 vN=some ⟨ae Tryz.f177,[.tmp 2],[34]⟩:=fA Tryz.func177
def JO:Int->AV:=λr=> .v (.int .i64 r)
theorem aFz(cp:af)(fu:Nat)(x1:aX)(H276_0: ∀ (a0:aX) r,o7 fu a0=some r→cp 276 [.agg (bK a0)]=some (.fresh 8 r.length (fm cO r)))(H277_0: ∀ (a0:List aQ) r,qj fu a0 (fun y0=>BD fu y0)=some r→cp 277 [.arr a0.length (fm cO a0),.fn 278 [] []]=some (.v (.bool r)))(H277_1: ∀ (a0:List aQ) r,qj fu a0 (fun y0=>BN fu y0)=some r→cp 277 [.arr a0.length (fm cO a0),.fn 280 [] []]=some (.v (.bool r)))(H277_2: ∀ (a0:List aQ) r,qj fu a0 (fun y0=>Ar fu y0)=some r→cp 277 [.arr a0.length (fm cO a0),.fn 281 [] []]=some (.v (.bool r))):J (go prog ak cp aj 0 [] vN fu (fin prog [.tmp 2] [34]) (ae Tryz.f177) (ay 0 [.agg (bK x1)]) [] []) (y9 fu x1) JO:=by
 unfold y9 JO
 have da:=ahe
 refine J.bind λx2 h1=> ?_
 have e_h1:=H276_0 _ _ h1
 try simp only[NN,NT,LN,simprocAttr,DT]at e_h1
 conv=>arg 1;simp (disch:=first|exact Zd|fail) only[ae,Tryz.f177,ZZ,ahe,simprocAttr,e_h1]
 refine J.eq dZ ?_
 refine J.bind λx3 h2=> ?_
 have e_h2:=H277_0 _ _ h2
 try simp only[NN,NT,LN,simprocAttr,DT]at e_h2
 refine Jc ?_
 refine J.ite (λh3=> ?_) (λh3=> ?_)
 ·have h3':x3=true:=h3
  refine J.some ?_
  exact Js
 ·have h3':x3=false:=Bool.eq_false_iff.2 h3
  refine J.bind λx4 h4=> ?_
  have e_h4:=H277_1 _ _ h4
  try simp only[NN,NT,LN,simprocAttr,DT]at e_h4
  refine Jc ?_
  refine J.ite (λh5=> ?_) (λh5=> ?_)
  ·have h5':x4=true:=h5
   refine J.some ?_
   exact Js
  ·have h5':x4=false:=Bool.eq_false_iff.2 h5
   refine Jc ?_
   refine J.eq dZ ?_
   refine Jc ?_
   refine J.ite (λh6=> ?_) (λh6=> ?_)
   ·exact J.none
   ·have h6':=decide_eq_false h6
    refine J.bind λx5 h7=> ?_
    have e_h7:=H277_2 _ _ h7
    try simp only[NN,NT,LN,simprocAttr,DT]at e_h7
    refine Jc ?_
    refine J.eq dS ?_
    refine Jc ?_
    refine J.ite (λh8=> ?_) (λh8=> ?_)
    ·have h8':x5=true:=h8
     refine J.some ?_
     exact Js
    ·have h8':x5=false:=Bool.eq_false_iff.2 h8
     refine Jc ?_
     refine J.eq dS ?_
     refine J.some ?_
     exact Js
noncomputable def ain(fu:Nat):af:=gm 276 (gV (λ(t:aX)=>([.agg (bK t)]:List AV)) (λt=>o7 fu t) JK) (gm 277 (gV (λ(t:List aQ)=>([.arr t.length (fm cO t),.fn 278 [] []]:List AV)) (λt=>qj fu t (λy0=>BD fu y0)) Fh) (gm 277 (gV (λ(t:List aQ)=>([.arr t.length (fm cO t),.fn 280 [] []]:List AV)) (λt=>qj fu t (λy0=>BN fu y0)) Fh) (gm 277 (gV (λ(t:List aQ)=>([.arr t.length (fm cO t),.fn 281 [] []]:List AV)) (λt=>qj fu t (λy0=>Ar fu y0)) Fh) (mY))))
theorem aA9(fu:Nat):aJ prog (ain fu):=jD (jD (jD (jD (nJ) (jE (λt b h=>Ye fu t (λy0=>Ar fu y0) 281 [] bf.nil (λy0 r h=>aGc fu y0 r h) b h))) (jE (λt b h=>Ye fu t (λy0=>BN fu y0) 280 [] bf.nil (λy0 r h=>axz fu y0 r h) b h))) (jE (λt b h=>Ye fu t (λy0=>BD fu y0) 278 [] bf.nil (λy0 r h=>anJ fu y0 r h) b h))) (jE (λt b h=>as5 fu t b h))
theorem aJb(fu:Nat)(x1:aX)(r)(h:y9 fu x1=some r):aA prog 177 [.agg (bK x1)] (JO r):=
  pJ mixed (cp:=ain fu) (aA9 fu) aB Yh (aFz _ fu x1 (λa0 r h=>jo (jv (a:=a0) (by intro a b h;first|(exact rfl)|(simp only[gB,IJ]at h;first|exact h|(simp_all [Prod.ext_iff]))) h)) (λa0 r h=>xJ (by decide) (jo (jv (a:=a0) (by intro a b h;first|(exact rfl)|(simp only[gB,IJ]at h;first|exact h|(simp_all [Prod.ext_iff]))) h))) (λa0 r h=>xJ (by decide) (Kt (BQ (by intro t h;simp at h)) (jo (jv (a:=a0) (by intro a b h;first|(exact rfl)|(simp only[gB,IJ]at h;first|exact h|(simp_all [Prod.ext_iff]))) h)))) (λa0 r h=>xJ (by decide) (Kt (BQ (by intro t h;simp at h)) (Kt (BQ (by intro t h;simp at h)) (jo (jv (a:=a0) (by intro a b h;first|(exact rfl)|(simp only[gB,IJ]at h;first|exact h|(simp_all [Prod.ext_iff]))) h)))))) h
open Aw (uo)
def ah4:=Da (aC Aw.uo.eq_1)
theorem i109:au prog 109 uo=some ⟨ae Tryz.f109,[.tmp 2],[34]⟩:=fA Tryz.func109
def e109:Int->AV:=λr=> .v (.int .i64 r)
structure acS (fu:Nat) (cp:af):Prop where
 ap: ∀ {a0:aX} {r},ja fu a0=some r->cp 175 [.agg (bK a0)]=some (.v (.bool r))
noncomputable def abq(fu:Nat):Cm prog aX Bool:=⟨175,λt=>[.agg (bK t)],λt=>ja fu t,Ob,λt b h=>av5 fu t b h,Zi⟩
theorem aCi(H:aI cp (abq fu).ct):acS fu cp:=⟨λ {a0 r} h=>(abq fu).at H a0 r h⟩
structure ag6 (fu:Nat) (cp:af):Prop where
 ap: ∀ {a0:aX} {r},kX fu a0=some r->cp 176 [.agg (bK a0)]=some (.v (.bool r))
noncomputable def Xi(fu:Nat):Cm prog aX Bool:=⟨176,λt=>[.agg (bK t)],λt=>kX fu t,J7,λt b h=>aAV fu t b h,Zi⟩
theorem av8(H:aI cp (Xi fu).ct):ag6 fu cp:=⟨λ {a0 r} h=>(Xi fu).at H a0 r h⟩
structure aek (fu:Nat) (cp:af):Prop where
 ap: ∀ {a0:aX} {r},y9 fu a0=some r->cp 177 [.agg (bK a0)]=some (.v (.int .i64 r))
noncomputable def aaJ(fu:Nat):Cm prog aX Int:=⟨177,λt=>[.agg (bK t)],λt=>y9 fu t,JO,λt b h=>aJb fu t b h,Zi⟩
theorem arT(H:aI cp (aaJ fu).ct):aek fu cp:=⟨λ {a0 r} h=>(aaJ fu).at H a0 r h⟩
def jl.m1:LJ 1 4 Unit Int:=⟨λr s e=>[(1,er e 1),(8,er e 8),(9,er e 9),(10,.v (.int .i64 s))],λr s h=>[((0,1,0),hr h (0,1,0))]⟩
def jl.j1:LJ 1 5 Unit Unit:=⟨λr t e=>[(1,er e 1)],λr t h=>[((0,1,0),hr h (0,1,0))]⟩
open jl in
theorem awQ(cp:af)(fu:Nat)(x1:aX)(H1:vC fu cp)(H2:Ou fu cp)(H3:acS fu cp)(H4:ag6 fu cp)(H5:aek fu cp):J (go prog ak cp aj 0 [] uo fu (fin prog [.tmp 2] [34]) (ae Tryz.f109) (ay 0 [.agg (bK x1)]) [] []) (jl fu x1) e109:=by
 unfold jl e109
 have da:=ah4
 conv=>arg 1;simp only[ae,Tryz.f109]
 have z0:=ah4
 exact Wk
theorem avc(fu:Nat)(x1:aX)(r)(h:jl fu x1=some r):aA prog 109 [.agg (bK x1)] (e109 r):=aH mixed [(sW fu).ct,(Ib fu).ct,(abq fu).ct,(Xi fu).ct,(aaJ fu).ct] (ids:=[54,174,175,176,177]) rfl (by decide) i109 (C:=ak) (ci:=λcp=>aj) (λcp ok=>aB) (λcp H=>awQ cp fu x1 (xw H.1) (X5 H.2.1) (aCi H.2.2.1) (av8 H.2.2.2.1) (arT H.2.2.2.2.1)) h
open Aw (uP)
def amk:=Da (aC Aw.uP.eq_1)
theorem aaM:au prog 192 uP=some ⟨ae Tryz.f192,[.tmp 4,.tmp 5],[22,34]⟩:=fA Tryz.func192
def JQ:((List Int)×Int)->AV:=λr=> .tuple [.fresh 1 r.1.length (lm (ik .i64) r.1),.v (.int .i64 r.2)]
def dJ.m1:LJ 1 26 Unit ((List Int)×Int):=⟨λr s e=>[(10,.own (0,42,0) 0 s.1.length s.1.length),(11,er e 11),(48,er e 48),(49,er e 49),(50,.v (.int .i64 s.2))],λr s h=>[((0,42,0),.sl true true 1 s.1.length (lm (ik .i64) s.1))]⟩
def dJ.j3:LJ 3 42 Unit (List Int):=⟨λr t e=>[(10,.own (0,42,0) 0 t.length t.length)],λr t h=>[((0,42,0),.sl true true 1 t.length (lm (ik .i64) t))]⟩
def dJ.j2:LJ 2 20 Unit ((List Int)×(List Int)):=⟨λr t e=>[(0,.arr t.1.length (lm (ik .i64) t.1)),(1,.arr t.2.length (lm (ik .i64) t.2))],λr t h=>[]⟩
def dJ.m2:LJ 2 4 Unit ((List (List Int))×Int):=⟨λr s e=>[(0,er e 0),(1,er e 1),(19,.own (0,19,0) 0 s.1.length s.1.length),(20,er e 20),(21,.v (.int .i64 s.2))],λr s h=>[((0,19,0),.sl true true 1 s.1.length (lm (jh (ik .i64)) s.1))]⟩
def dJ.j1:LJ 1 16 Unit (List (List Int)):=⟨λr t e=>[(0,er e 0),(1,er e 1)],λr t h=>[((0,19,0),.sl true true 1 t.length (lm (jh (ik .i64)) t))]⟩
open dJ in
theorem aJ6(cp:af)(fu:Nat)(x1:List Int)(x2:List Int)(H1:vC fu cp)(H2:Gm fu cp):J (go prog ak cp aj 0 [] uP fu (fin prog [.tmp 4,.tmp 5] [22,34]) (ae Tryz.f192) (ay 0 [.arr x1.length (lm (ik .i64) x1),.arr x2.length (lm (ik .i64) x2)]) [] []) (dJ fu x1 x2) JQ:=by
 unfold dJ JQ
 have da:=amk
 conv=>arg 1;simp only[ae,Tryz.f192]
 have z0:=amk
 exact Wk
theorem anU(fu:Nat)(x1:List Int)(x2:List Int)(r)(h:dJ fu x1 x2=some r):aA prog 192 [.arr x1.length (lm (ik .i64) x1),.arr x2.length (lm (ik .i64) x2)] (JQ r):=aH mixed [(sW fu).ct,(EL fu).ct] (ids:=[54,48]) rfl (by decide) aaM (C:=ak) (ci:=λcp=>aj) (λcp ok=>aB) (λcp H=>aJ6 cp fu x1 x2 (xw H.1) (u48 H.2.1)) h
open Aw (uT)
def amO:=Da (aC Aw.uT.eq_1)
theorem U8:au prog 189 uT=some ⟨ae Tryz.f189,[.tmp 2,.tmp 3],[77,34]⟩:=fA Tryz.func189
def e189:((List (List Int))×Int)->AV:=λr=> .tuple [.arr r.1.length (lm (jh (ik .i64)) r.1),.v (.int .i64 r.2)]
theorem aL5(cp:af)(fu:Nat)(x1:List Int):J (go prog ak cp aj 0 [] uT fu (qI prog [.tmp 2,.tmp 3] [77,34]) (ae Tryz.f189) (ay 0 [.arr x1.length (lm (ik .i64) x1)]) [] []) (Ai fu x1) e189:=by
 unfold Ai e189
 have da:=amO
 conv=>arg 1;simp only[ae,Tryz.f189]
 have z0:=amO
 have z1:=SE
 exact Wk
theorem av3(fu:Nat)(x1:List Int)(r)(h:Ai fu x1=some r):aA prog 189 [.arr x1.length (lm (ik .i64) x1)] (e189 r):=zk mixed [] (ids:=[]) rfl (by decide) U8 (C:=ak) (ci:=λcp=>aj) (λcp ok=>aB) (λcp H=>aL5 cp fu x1) h
open Aw (uf)
def ajd:=Da (aC Aw.uf.eq_1)
theorem Sr:au prog 179 uf=some ⟨ae Tryz.f179,[.tmp 2,.tmp 3],[77,34]⟩:=fA Tryz.func179
def Oe:((List (List Int))×Int)->AV:=λr=> .tuple [.arr r.1.length (lm (jh (ik .i64)) r.1),.v (.int .i64 r.2)]
structure MJ (fu:Nat) (cp:af):Prop where
 ap: ∀ {a0:List Int} {a1:List Int} {r},dJ fu a0 a1=some r->cp 192 [.arr a0.length (lm (ik .i64) a0),.arr a1.length (lm (ik .i64) a1)]=some (.tuple [.fresh 1 r.1.length (lm (ik .i64) r.1),.v (.int .i64 r.2)])
noncomputable def IV(fu:Nat):Cm prog ((List Int)×(List Int)) ((List Int)×Int):=⟨192,λt=>[.arr t.1.length (lm (ik .i64) t.1),.arr t.2.length (lm (ik .i64) t.2)],λt=>dJ fu t.1 t.2,JQ,λt b h=>anU fu t.1 t.2 b h,Zi⟩
theorem aba(H:aI cp (IV fu).ct):MJ fu cp:=⟨λ {a0 a1 r} h=>(IV fu).at H (a0,a1) r h⟩
structure TP (fu:Nat) (cp:af):Prop where
 ap: ∀ {a0:List Int} {r},Ai fu a0=some r->cp 189 [.arr a0.length (lm (ik .i64) a0)]=some (.tuple [.arr r.1.length (lm (jh (ik .i64)) r.1),.v (.int .i64 r.2)])
noncomputable def N8(fu:Nat):Cm prog (List Int) ((List (List Int))×Int):=⟨189,λt=>[.arr t.length (lm (ik .i64) t)],λt=>Ai fu t,e189,λt b h=>av3 fu t b h,Zi⟩
theorem aiq(H:aI cp (N8 fu).ct):TP fu cp:=⟨λ {a0 r} h=>(N8 fu).at H a0 r h⟩
def je.m1:LJ 1 6 Unit ((List Int)×Int):=⟨λr s e=>[(1,er e 1),(4,.arr s.1.length (lm (ik .i64) s.1)),(5,.v (.int .i64 s.2))],λr s h=>[((0,1,0),hr h (0,1,0))]⟩
def je.j1:LJ 1 18 Unit (List Int):=⟨λr t e=>[(4,.arr t.length (lm (ik .i64) t))],λr t h=>[((0,1,0),hr h (0,1,0))]⟩
open je in
theorem aK2(cp:af)(fu:Nat)(x1:aX)(H1:Jz fu cp)(H2:MJ fu cp)(H3:TP fu cp):J (go prog ak cp aj 0 [] uf fu (qI prog [.tmp 2,.tmp 3] [77,34]) (ae Tryz.f179) (ay 0 [.agg (bK x1)]) [] []) (je fu x1) Oe:=by
 unfold je Oe
 have da:=ajd
 conv=>arg 1;simp only[ae,Tryz.f179]
 have z0:=ajd
 have z1:=SE
 exact Wk
theorem aII(fu:Nat)(x1:aX)(r)(h:je fu x1=some r):aA prog 179 [.agg (bK x1)] (Oe r):=zk mixed [(Ii fu).ct,(IV fu).ct,(N8 fu).ct] (ids:=[178,192,189]) rfl (by decide) Sr (C:=ak) (ci:=λcp=>aj) (λcp ok=>aB) (λcp H=>aK2 cp fu x1 (SL H.1) (aba H.2.1) (aiq H.2.2.1)) h
def YL:TD:=zz [[4],[1,5,6],[0,7,8,9,10,11,12],[],[14,15],[],[16],[],[18,19,20,21,22,23,24,25],[],[],[],[]]
def aeP:=Da (aC YL.eq_1)
theorem aCy:au prog 180 YL=some ⟨ae Tryz.f180,[.tmp 4],[34]⟩:=fA Tryz.func180
def MR:Int->AV:=λr=> .v (.int .i64 r)
theorem aw6(cp:af)(fu:Nat)(x1:List Int)(x2:List Int)(H1:MJ fu cp)(H2:Qg fu cp):J (go prog ak cp aj 0 [] YL fu (fin prog [.tmp 4] [34]) (ae Tryz.f180) (ay 0 [.arr x1.length (lm (ik .i64) x1),.arr x2.length (lm (ik .i64) x2)]) [] []) (zA fu x1 x2) MR:=by
 unfold zA MR
 have da:=aeP
 conv=>arg 1;simp only[ae,Tryz.f180]
 have z0:=aeP
 exact Wk
theorem axj(fu:Nat)(x1:List Int)(x2:List Int)(r)(h:zA fu x1 x2=some r):aA prog 180 [.arr x1.length (lm (ik .i64) x1),.arr x2.length (lm (ik .i64) x2)] (MR r):=aH mixed [(IV fu).ct,(IY fu).ct] (ids:=[192,193]) rfl (by decide) aCy (C:=ak) (ci:=λcp=>aj) (λcp ok=>aB) (λcp H=>aw6 cp fu x1 x2 (aba H.1) (u193 H.2.1)) h
def XV:TD:=zz [[0,1],[],[]]
def ag0:=Da (aC XV.eq_1)
theorem aoZ:au prog 181 XV=some ⟨ae Tryz.f181,[.tmp 0,.tmp 1],[77,34]⟩:=fA Tryz.func181
def e181:((List (List Int))×Int)->AV:=λr=> .tuple [.arr r.1.length (lm (jh (ik .i64)) r.1),.v (.int .i64 r.2)]
theorem aJN(cp:af)(fu:Nat):J (go prog ak cp aj 0 [] XV fu (qI prog [.tmp 0,.tmp 1] [77,34]) (ae Tryz.f181) (ay 0 []) [] []) (zM fu) e181:=by
 unfold zM e181
 have da:=ag0
 conv=>arg 1;simp only[ae,Tryz.f181]
 have z0:=ag0
 have z1:=SE
 exact Wk
theorem aIc(fu:Nat)(r)(h:zM fu=some r):aA prog 181 [] (e181 r):=zk mixed [] (ids:=[]) rfl (by decide) aoZ (C:=ak) (ci:=λcp=>aj) (λcp ok=>aB) (λcp H=>aJN cp fu) h
open Aw (tK)
def ajE:=Da (aC Aw.tK.eq_1)
theorem UA:au prog 110 tK=some ⟨ae Tryz.f110,[.tmp 2,.tmp 3],[77,34]⟩:=fA Tryz.func110
def NV:((List (List Int))×Int)->AV:=λr=> .tuple [.arr r.1.length (lm (jh (ik .i64)) r.1),.v (.int .i64 r.2)]
structure ak9 (fu:Nat) (cp:af):Prop where
 ap: ∀ {a0:aX} {r},je fu a0=some r->cp 179 [.agg (bK a0)]=some (.tuple [.arr r.1.length (lm (jh (ik .i64)) r.1),.v (.int .i64 r.2)])
noncomputable def ZU(fu:Nat):Cm prog aX ((List (List Int))×Int):=⟨179,λt=>[.agg (bK t)],λt=>je fu t,Oe,λt b h=>aII fu t b h,Zi⟩
theorem ayJ(H:aI cp (ZU fu).ct):ak9 fu cp:=⟨λ {a0 r} h=>(ZU fu).at H a0 r h⟩
structure alE (fu:Nat) (cp:af):Prop where
 ap: ∀ {a0:List Int} {a1:List Int} {r},zA fu a0 a1=some r->cp 180 [.arr a0.length (lm (ik .i64) a0),.arr a1.length (lm (ik .i64) a1)]=some (.v (.int .i64 r))
noncomputable def WH(fu:Nat):Cm prog ((List Int)×(List Int)) Int:=⟨180,λt=>[.arr t.1.length (lm (ik .i64) t.1),.arr t.2.length (lm (ik .i64) t.2)],λt=>zA fu t.1 t.2,MR,λt b h=>axj fu t.1 t.2 b h,Zi⟩
theorem awW(H:aI cp (WH fu).ct):alE fu cp:=⟨λ {a0 a1 r} h=>(WH fu).at H (a0,a1) r h⟩
structure ahE (fu:Nat) (cp:af):Prop where
 ap: ∀ {r},zM fu=some r->cp 181 []=some (.tuple [.arr r.1.length (lm (jh (ik .i64)) r.1),.v (.int .i64 r.2)])
noncomputable def Zg(fu:Nat):Cm prog Unit ((List (List Int))×Int):=⟨181,λt=>[],λt=>zM fu,e181,λt b h=>aIc fu b h,Zi⟩
theorem aCM(H:aI cp (Zg fu).ct):ahE fu cp:=⟨λ {r} h=>(Zg fu).at H () r h⟩
def dB.j4:LJ 4 222 aX Unit:=⟨λr t e=>[(1,er e 1),(4,er e 4),(9,er e 9),(10,er e 10),(54,er e 54),(78,.v (.bool (decide (r.fop=71))))],λr t h=>[((0,1,0),hr h (0,1,0))]⟩
def dB.j3:LJ 3 190 aX Unit:=⟨λr t e=>[(1,er e 1),(4,er e 4),(9,er e 9),(10,er e 10),(54,.v (.bool (decide (r.fop=64))))],λr t h=>[((0,1,0),hr h (0,1,0))]⟩
def dB.j2:LJ 2 82 Unit Bool:=⟨λr t e=>[(1,er e 1),(4,er e 4),(9,er e 9),(10,.v (.bool t))],λr t h=>[((0,1,0),hr h (0,1,0))]⟩
def dB.j1:LJ 1 138 Unit Unit:=⟨λr t e=>[(4,er e 4)],λr t h=>[((0,1,0),hr h (0,1,0))]⟩
open dB in
theorem auA(cp:af)(fu:Nat)(x1:aX)(H1:Jz fu cp)(H2:ak9 fu cp)(H3:alE fu cp)(H4:ahE fu cp)(H5:TP fu cp):J (go prog ak cp aj 0 [] tK fu (qI prog [.tmp 2,.tmp 3] [77,34]) (ae Tryz.f110) (ay 0 [.agg (bK x1)]) [] []) (dB fu x1) NV:=by
 unfold dB NV
 have da:=ajE
 conv=>arg 1;simp only[ae,Tryz.f110]
 have z0:=ajE
 have z1:=SE
 exact Wk
theorem aBk(fu:Nat)(x1:aX)(r)(h:dB fu x1=some r):aA prog 110 [.agg (bK x1)] (NV r):=zk mixed [(Ii fu).ct,(ZU fu).ct,(WH fu).ct,(Zg fu).ct,(N8 fu).ct] (ids:=[178,179,180,181,189]) rfl (by decide) UA (C:=ak) (ci:=λcp=>aj) (λcp ok=>aB) (λcp H=>auA cp fu x1 (SL H.1) (ayJ H.2.1) (awW H.2.2.1) (aCM H.2.2.2.1) (aiq H.2.2.2.2.1)) h
open Aw (vJ)
def ail:=Da (aC Aw.vJ.eq_1)
theorem Yl:au prog 111 vJ=some ⟨ae Tryz.f111,[.tmp 2],[3]⟩:=fA Tryz.func111
def Ph:Int->AV:=λr=> .v (.int .i64 r)
def fZ.j3:LJ 3 74 aX Unit:=⟨λr t e=>[(1,er e 1),(4,er e 4),(5,er e 5),(17,.v (.bool (decide (r.fop=71))))],λr t h=>[((0,1,0),hr h (0,1,0))]⟩
def fZ.j2:LJ 2 54 Unit Bool:=⟨λr t e=>[(1,er e 1),(4,er e 4),(5,.v (.bool t))],λr t h=>[((0,1,0),hr h (0,1,0))]⟩
def fZ.j1:LJ 1 50 Unit Unit:=⟨λr t e=>[(1,er e 1)],λr t h=>[((0,1,0),hr h (0,1,0))]⟩
open fZ in
theorem am6(cp:af)(fu:Nat)(x1:aX)(H1:Aq fu cp):J (go prog ak cp aj 0 [] vJ fu (fin prog [.tmp 2] [3]) (ae Tryz.f111) (ay 0 [.agg (bK x1)]) [] []) (fZ fu x1) Ph:=by
 unfold fZ Ph
 have da:=ail
 conv=>arg 1;simp only[ae,Tryz.f111]
 have z0:=ail
 exact Wk
theorem avr(fu:Nat)(x1:aX)(r)(h:fZ fu x1=some r):aA prog 111 [.agg (bK x1)] (Ph r):=aH mixed [(yw fu).ct] (ids:=[190]) rfl (by decide) Yl (C:=ak) (ci:=λcp=>aj) (λcp ok=>aB) (λcp H=>am6 cp fu x1 (EH H.1)) h
open Aw (tV)
def ajr:=Da (aC Aw.tV.eq_1)
theorem i52:au prog 52 tV=some ⟨ae Tryz.f52,[.tmp 8,.tmp 9],[46,34]⟩:=fA Tryz.func52
def e52:((List aQ)×Int)->AV:=λr=> .tuple [.arr r.1.length (fm cO r.1),.v (.int .i64 r.2)]
structure ajy (fu:Nat) (cp:af):Prop where
 ap: ∀ {a0:aX} {r},jf fu a0=some r->cp 108 [.agg (bK a0)]=some (.v (.bool r))
noncomputable def aby(fu:Nat):Cm prog aX Bool:=⟨108,λt=>[.agg (bK t)],λt=>jf fu t,e108,λt b h=>aHs fu t b h,Zi⟩
theorem aDr(H:aI cp (aby fu).ct):ajy fu cp:=⟨λ {a0 r} h=>(aby fu).at H a0 r h⟩
structure amr (fu:Nat) (cp:af):Prop where
 ap: ∀ {a0:aX} {r},jl fu a0=some r->cp 109 [.agg (bK a0)]=some (.v (.int .i64 r))
noncomputable def aak(fu:Nat):Cm prog aX Int:=⟨109,λt=>[.agg (bK t)],λt=>jl fu t,e109,λt b h=>avc fu t b h,Zi⟩
theorem aFA(H:aI cp (aak fu).ct):amr fu cp:=⟨λ {a0 r} h=>(aak fu).at H a0 r h⟩
structure ah8 (fu:Nat) (cp:af):Prop where
 ap: ∀ {a0:aX} {r},dB fu a0=some r->cp 110 [.agg (bK a0)]=some (.tuple [.arr r.1.length (lm (jh (ik .i64)) r.1),.v (.int .i64 r.2)])
noncomputable def Wh(fu:Nat):Cm prog aX ((List (List Int))×Int):=⟨110,λt=>[.agg (bK t)],λt=>dB fu t,NV,λt b h=>aBk fu t b h,Zi⟩
theorem awh(H:aI cp (Wh fu).ct):ah8 fu cp:=⟨λ {a0 r} h=>(Wh fu).at H a0 r h⟩
structure acV (fu:Nat) (cp:af):Prop where
 ap: ∀ {a0:aX} {r},fZ fu a0=some r->cp 111 [.agg (bK a0)]=some (.v (.int .i64 r))
noncomputable def TA(fu:Nat):Cm prog aX Int:=⟨111,λt=>[.agg (bK t)],λt=>fZ fu t,Ph,λt b h=>avr fu t b h,Zi⟩
theorem aJq(H:aI cp (TA fu).ct):acV fu cp:=⟨λ {a0 r} h=>(TA fu).at H a0 r h⟩
def jG.m1:LJ 1 24 Unit ((List aQ)×Int):=⟨λr s e=>[(10,er e 10),(14,.own (0,14,77) 0 s.1.length s.1.length),(40,er e 40),(41,er e 41),(42,.v (.int .i64 s.2))],λr s h=>[((0,10,0),hr h (0,10,0)),((0,14,77),.sl true true 8 s.1.length (fm cO s.1))]⟩
open jG in
theorem w52(cp:af)(fu:Nat)(x1:Int)(x2:T_Setting)(x3:List aQ)(x4:Int)(H1:ajy fu cp)(H2:amr fu cp)(H3:ah8 fu cp)(H4:vC fu cp)(H5:acV fu cp)(H6:Gm fu cp):J (go prog ak cp aj 0 [] tV fu (qI prog [.tmp 8,.tmp 9] [46,34]) (ae Tryz.f52) (ay 0 [.v (.int .i64 x1),.agg (dL x2),.arr x3.length (fm cO x3),.v (.int .i64 x4)]) [] []) (jG fu x1 x2 x3 x4) e52:=by
 unfold jG e52
 have da:=ajr
 conv=>arg 1;simp only[ae,Tryz.f52]
 have z0:=ajr
 have z1:=SE
 exact Wk
theorem arf(fu:Nat)(x1:Int)(x2:T_Setting)(x3:List aQ)(x4:Int)(r)(h:jG fu x1 x2 x3 x4=some r):aA prog 52 [.v (.int .i64 x1),.agg (dL x2),.arr x3.length (fm cO x3),.v (.int .i64 x4)] (e52 r):=zk mixed [(aby fu).ct,(aak fu).ct,(Wh fu).ct,(sW fu).ct,(TA fu).ct,(EL fu).ct] (ids:=[108,109,110,54,111,48]) rfl (by decide) i52 (C:=ak) (ci:=λcp=>aj) (λcp ok=>aB) (λcp H=>w52 cp fu x1 x2 x3 x4 (aDr H.1) (aFA H.2.1) (awh H.2.2.1) (xw H.2.2.2.1) (aJq H.2.2.2.2.1) (u48 H.2.2.2.2.2.1)) h
open Aw (vI)
def ajm:=Da (aC Aw.vI.eq_1)
theorem i53:au prog 53 vI=some ⟨ae Tryz.f53,[.cell 4 28,.tmp 5],[28,34]⟩:=fA Tryz.func53
def e53:(T_Tensor×Int)->AV:=λr=> .tuple [.agg [.v (.int .i64 r.1.fType),.fresh 1 r.1.fDims.length (lm (ik .i64) r.1.fDims),.fresh 1 r.1.fF.length (lm (ik .u32) r.1.fF),.fresh 1 r.1.fI.length (lm (ik .i64) r.1.fI),.fresh 1 r.1.fB.length (lm (bk) r.1.fB)],.v (.int .i64 r.2)]
theorem w53(cp:af)(fu:Nat)(x1:Int)(x2:List Int)(H1:RV fu cp)(H2:vC fu cp)(H3:Gm fu cp):J (go prog ak cp aj 0 [] vI fu (fin prog [.cell 4 28,.tmp 5] [28,34]) (ae Tryz.f53) (ay 0 [.v (.int .i64 x1),.arr x2.length (lm (ik .i64) x2)]) [] []) (qM fu x1 x2) e53:=by
 unfold qM e53
 have da:=ajm
 conv=>arg 1;simp only[ae,Tryz.f53]
 have z0:=ajm
 exact Wk
theorem afC(fu:Nat)(x1:Int)(x2:List Int)(r)(h:qM fu x1 x2=some r):aA prog 53 [.v (.int .i64 x1),.arr x2.length (lm (ik .i64) x2)] (e53 r):=aH mixed [(Nj fu).ct,(sW fu).ct,(EL fu).ct] (ids:=[106,54,48]) rfl (by decide) i53 (C:=ak) (ci:=λcp=>aj) (λcp ok=>aB) (λcp H=>w53 cp fu x1 x2 (afv H.1) (xw H.2.1) (u48 H.2.2.1)) h
open Aw (tX)
def adl:=Da (aC Aw.tX.eq_1)
theorem V6:au prog 195 tX=some ⟨ae Tryz.f195,[.tmp 2],[22]⟩:=fA Tryz.func195
def e195:(List Int)->AV:=λr=> .fresh 1 r.length (lm (ik .i64) r)
def mF.m1:LJ 1 8 Unit ((List Int)×Int×Int):=⟨λr s e=>[(0,er e 0),(3,.own (0,8,0) 0 s.1.length s.1.length),(4,.v (.int .i64 s.2.1)),(5,.v (.int .i64 s.2.2))],λr s h=>[((0,8,0),.sl true true 1 s.1.length (lm (ik .i64) s.1))]⟩
open mF in
theorem ayT(cp:af)(fu:Nat)(x1:List Int):J (go prog ak cp aj 0 [] tX fu (fin prog [.tmp 2] [22]) (ae Tryz.f195) (ay 0 [.arr x1.length (lm (ik .i64) x1)]) [] []) (mF fu x1) e195:=by
 unfold mF e195
 have da:=adl
 conv=>arg 1;simp only[ae,Tryz.f195]
 have z0:=adl
 exact Wk
theorem aJG(fu:Nat)(x1:List Int)(r)(h:mF fu x1=some r):aA prog 195 [.arr x1.length (lm (ik .i64) x1)] (e195 r):=aH mixed [] (ids:=[]) rfl (by decide) V6 (C:=ak) (ci:=λcp=>aj) (λcp ok=>aB) (λcp H=>ayT cp fu x1) h
open Aw (ui)
def ai5:=Da (aC Aw.ui.eq_1)
theorem i194:au prog 194 ui=some ⟨ae Tryz.f194,[.tmp 4,.tmp 5],[22,34]⟩:=fA Tryz.func194
def LM:((List Int)×Int)->AV:=λr=> .tuple [.fresh 1 r.1.length (lm (ik .i64) r.1),.v (.int .i64 r.2)]
structure aaW (fu:Nat) (cp:af):Prop where
 ap: ∀ {a0:List Int} {r},mF fu a0=some r->cp 195 [.arr a0.length (lm (ik .i64) a0)]=some (.fresh 1 r.length (lm (ik .i64) r))
noncomputable def LH(fu:Nat):Cm prog (List Int) (List Int):=⟨195,λt=>[.arr t.length (lm (ik .i64) t)],λt=>mF fu t,e195,λt b h=>aJG fu t b h,Zi⟩
theorem ahC(H:aI cp (LH fu).ct):aaW fu cp:=⟨λ {a0 r} h=>(LH fu).at H a0 r h⟩
def jK.m1:LJ 1 16 Unit ((List Int)×Int×Int):=⟨λr s e=>[(1,.v (.int .i64 s.2.1)),(8,.own (0,28,0) 0 s.1.length s.1.length),(30,er e 30),(31,er e 31),(32,.v (.int .i64 s.2.2))],λr s h=>[((0,28,0),.sl true true 1 s.1.length (lm (ik .i64) s.1)),((0,30,0),hr h (0,30,0))]⟩
def jK.j1:LJ 1 12 Unit Unit:=⟨λr t e=>[(0,er e 0),(1,er e 1)],λr t h=>[]⟩
open jK in
theorem asE(cp:af)(fu:Nat)(x1:List Int)(x2:Int)(H1:vC fu cp)(H2:aaW fu cp):J (go prog ak cp aj 0 [] ui fu (fin prog [.tmp 4,.tmp 5] [22,34]) (ae Tryz.f194) (ay 0 [.arr x1.length (lm (ik .i64) x1),.v (.int .i64 x2)]) [] []) (jK fu x1 x2) LM:=by
 unfold jK LM
 have da:=ai5
 conv=>arg 1;simp only[ae,Tryz.f194]
 have z0:=ai5
 exact Wk
theorem aFl(fu:Nat)(x1:List Int)(x2:Int)(r)(h:jK fu x1 x2=some r):aA prog 194 [.arr x1.length (lm (ik .i64) x1),.v (.int .i64 x2)] (LM r):=aH mixed [(sW fu).ct,(LH fu).ct] (ids:=[54,195]) rfl (by decide) i194 (C:=ak) (ci:=λcp=>aj) (λcp ok=>aB) (λcp H=>asE cp fu x1 x2 (xw H.1) (ahC H.2.1)) h
open Aw (um)
def aeF:=Da (aC Aw.um.eq_1)
theorem ZW:au prog 115 um=some ⟨ae Tryz.f115,[.tmp 6,.tmp 7],[3,34]⟩:=fA Tryz.func115
def e115:(Int×Int)->AV:=λr=> .tuple [.v (.int .i64 r.1),.v (.int .i64 r.2)]
structure ake (fu:Nat) (cp:af):Prop where
 ap: ∀ {a0:List Int} {a1:Int} {r},jK fu a0 a1=some r->cp 194 [.arr a0.length (lm (ik .i64) a0),.v (.int .i64 a1)]=some (.tuple [.fresh 1 r.1.length (lm (ik .i64) r.1),.v (.int .i64 r.2)])
noncomputable def ZY(fu:Nat):Cm prog ((List Int)×Int) ((List Int)×Int):=⟨194,λt=>[.arr t.1.length (lm (ik .i64) t.1),.v (.int .i64 t.2)],λt=>jK fu t.1 t.2,LM,λt b h=>aFl fu t.1 t.2 b h,Zi⟩
theorem u194(H:aI cp (ZY fu).ct):ake fu cp:=⟨λ {a0 a1 r} h=>(ZY fu).at H (a0,a1) r h⟩
def jM.m1:LJ 1 32 Unit (Int×Int):=⟨λr s e=>[(0,er e 0),(14,er e 14),(15,.v (.int .i64 s.1)),(65,er e 65),(66,er e 66),(67,.v (.int .i64 s.2))],λr s h=>[((0,65,0),hr h (0,65,0))]⟩
def jM.j1:LJ 1 20 Unit Unit:=⟨λr t e=>[(0,er e 0),(1,er e 1),(2,er e 2)],λr t h=>[]⟩
open jM in
theorem aDn(cp:af)(fu:Nat)(x1:List Int)(x2:List Int)(x3:Int)(H1:vC fu cp)(H2:MJ fu cp)(H3:Qg fu cp)(H4:ake fu cp)(H5:aaW fu cp):J (go prog ak cp aj 0 [] um fu (fin prog [.tmp 6,.tmp 7] [3,34]) (ae Tryz.f115) (ay 0 [.arr x1.length (lm (ik .i64) x1),.arr x2.length (lm (ik .i64) x2),.v (.int .i64 x3)]) [] []) (jM fu x1 x2 x3) e115:=by
 unfold jM e115
 have da:=aeF
 conv=>arg 1;simp only[ae,Tryz.f115]
 have z0:=aeF
 exact Wk
theorem aqJ(fu:Nat)(x1:List Int)(x2:List Int)(x3:Int)(r)(h:jM fu x1 x2 x3=some r):aA prog 115 [.arr x1.length (lm (ik .i64) x1),.arr x2.length (lm (ik .i64) x2),.v (.int .i64 x3)] (e115 r):=aH mixed [(sW fu).ct,(IV fu).ct,(IY fu).ct,(ZY fu).ct,(LH fu).ct] (ids:=[54,192,193,194,195]) rfl (by decide) ZW (C:=ak) (ci:=λcp=>aj) (λcp ok=>aB) (λcp H=>aDn cp fu x1 x2 x3 (xw H.1) (aba H.2.1) (u193 H.2.2.1) (u194 H.2.2.2.1) (ahC H.2.2.2.2.1)) h
open Aw (uX)
def afm:=Da (aC Aw.uX.eq_1)
theorem i55:au prog 55 uX=some ⟨ae Tryz.f55,[.tmp 6],[3]⟩:=fA Tryz.func55
def e55:Int->AV:=λr=> .v (.int .i64 r)
structure ack (fu:Nat) (cp:af):Prop where
 ap: ∀ {a0:List Int} {a1:List Int} {a2:Int} {r},jM fu a0 a1 a2=some r->cp 115 [.arr a0.length (lm (ik .i64) a0),.arr a1.length (lm (ik .i64) a1),.v (.int .i64 a2)]=some (.tuple [.v (.int .i64 r.1),.v (.int .i64 r.2)])
noncomputable def SX(fu:Nat):Cm prog ((List Int)×(List Int)×Int) (Int×Int):=⟨115,λt=>[.arr t.1.length (lm (ik .i64) t.1),.arr t.2.1.length (lm (ik .i64) t.2.1),.v (.int .i64 t.2.2)],λt=>jM fu t.1 t.2.1 t.2.2,e115,λt b h=>aqJ fu t.1 t.2.1 t.2.2 b h,Zi⟩
theorem ayt(H:aI cp (SX fu).ct):ack fu cp:=⟨λ {a0 a1 a2 r} h=>(SX fu).at H (a0,a1,a2) r h⟩
theorem w55(cp:af)(fu:Nat)(x1:dN)(x2:Int)(x3:Int)(H1:ack fu cp):J (go prog ak cp aj 0 [] uX fu (fin prog [.tmp 6] [3]) (ae Tryz.f55) (ay 0 [.aF (kN x1) 0,.v (.int .i64 x2),.v (.int .i64 x3)]) [] []) (gY fu x1 x2 x3) e55:=by
 unfold gY e55
 have da:=afm
 conv=>arg 1;simp only[ae,Tryz.f55]
 have z0:=afm
 exact Wk
theorem aGr(fu:Nat)(x1:dN)(x2:Int)(x3:Int)(r)(h:gY fu x1 x2 x3=some r):aA prog 55 [.aF (kN x1) 0,.v (.int .i64 x2),.v (.int .i64 x3)] (e55 r):=aH mixed [(SX fu).ct] (ids:=[115]) rfl (by decide) i55 (C:=ak) (ci:=λcp=>aj) (λcp ok=>aB) (λcp H=>w55 cp fu x1 x2 x3 (ayt H.1)) h
open Aw (uH)
def adB:=Da (aC Aw.uH.eq_1)
theorem i26:au prog 26 uH=some ⟨ae Tryz.f26,[.tmp 2],[4]⟩:=fA Tryz.func26
def e26:Bool->AV:=λr=> .v (.bool r)
structure Og (fu:Nat) (cp:af):Prop where
 ap: ∀ {a0:dN} {a1:Int} {a2:Int} {r},gY fu a0 a1 a2=some r->cp 55 [.aF (kN a0) 0,.v (.int .i64 a1),.v (.int .i64 a2)]=some (.v (.int .i64 r))
noncomputable def Gi(fu:Nat):Cm prog (dN×Int×Int) Int:=⟨55,λt=>[.aF (kN t.1) 0,.v (.int .i64 t.2.1),.v (.int .i64 t.2.2)],λt=>gY fu t.1 t.2.1 t.2.2,e55,λt b h=>aGr fu t.1 t.2.1 t.2.2 b h,Zi⟩
theorem u55(H:aI cp (Gi fu).ct):Og fu cp:=⟨λ {a0 a1 a2 r} h=>(Gi fu).at H (a0,a1,a2) r h⟩
def fU.m1:LJ 1 8 Unit Int:=⟨λr s e=>[(0,er e 0),(29,er e 29),(30,.v (.int .i64 s))],λr s h=>[]⟩
def fU.j1:LJ 1 6 Unit Unit:=⟨λr t e=>[(0,er e 0)],λr t h=>[]⟩
open fU in
theorem w26(cp:af)(fu:Nat)(x1:dN)(H1:Og fu cp):J (go prog ak cp aj 0 [] uH fu (fin prog [.tmp 2] [4]) (ae Tryz.f26) (ay 0 [.aF (kN x1) 0]) [] []) (fU fu x1) e26:=by
 unfold fU e26
 have da:=adB
 conv=>arg 1;simp only[ae,Tryz.f26]
 have z0:=adB
 exact Wk
theorem aod(fu:Nat)(x1:dN)(r)(h:fU fu x1=some r):aA prog 26 [.aF (kN x1) 0] (e26 r):=aH mixed [(Gi fu).ct] (ids:=[55]) rfl (by decide) i26 (C:=ak) (ci:=λcp=>aj) (λcp ok=>aB) (λcp H=>w26 cp fu x1 (u55 H.1)) h
def Su:TD:=zz [[1,5],[],[0,2,6,7,8]]
def ajO:=Da (aC Su.eq_1)
theorem aDX:au prog 299 Su=some ⟨ae Tryz.f299,[.tmp 5],[23]⟩:=fA Tryz.func299
def e299:Int->AV:=λr=> .v (.int .u32 r)
theorem aIN(cp:af)(fu:Nat)(x1:Int)(x2:Int)(p2:Int→Option Int)(fv_p2:FuncId)(ca_p2:List AV)(cap_p2:bf ca_p2)(hp_p2: ∀ (y0:Int) r,p2 y0=some r→cp fv_p2 ((.v (.int .u32 y0))::ca_p2)=some (.v (.int .u32 r))):J (go prog ak cp aj 0 [] Su fu (fin prog [.tmp 5] [23]) (ae Tryz.f299) (ay 0 [.v (.int .u32 x1),.v (.int .u32 x2),.aF [.fn fv_p2 [] ca_p2] 0]) [] []) (jW fu x1 x2 p2) e299:=by
 unfold jW e299
 have da:=ajO
 have c4_p2:=λg=>(cap_p2.1 g).1;have c3_p2:=λg=>(cap_p2.1 g).2.1;have b4_p2:=λg=>(cap_p2.1 g).2.2.1;have b3_p2:=λg=>(cap_p2.1 g).2.2.2;have nm_p2:=cap_p2.2
 refine J.bind λx4 h1=> ?_
 have e_h1:=hp_p2 _ _ h1
 try simp only[NN,NT,LN,simprocAttr,DT]at e_h1
 refine J.some ?_
 simp (maxSteps:=20000000) (disch:=first|exact Zd|fail) only[ae,Tryz.f299,ZZ,ajO,simprocAttr,c4_p2,c3_p2,b4_p2,b3_p2,nm_p2,e_h1,FN]
noncomputable def ags(fu:Nat)(x1:Int)(x2:Int)(p2:Int->Option Int)(fv_p2:FuncId)(ca_p2:List AV):af:=gm fv_p2 (gV (λ(t:Int)=>((.v (.int .u32 t))::ca_p2:List AV)) (λt=>p2 t) (λr=> .v (.int .u32 r))) (mY)
theorem aDw(fu:Nat)(x1:Int)(x2:Int)(p2:Int->Option Int)(fv_p2:FuncId)(ca_p2:List AV)(cap_p2:bf ca_p2)(hp_p2: ∀ (y0:Int) r,p2 y0=some r->aA prog fv_p2 ((.v (.int .u32 y0))::ca_p2) (.v (.int .u32 r))):aJ prog (ags fu x1 x2 p2 fv_p2 ca_p2):=jD (nJ) (jE (λt b h=>hp_p2 t b h))
theorem mW(fu:Nat)(x1:Int)(x2:Int)(p2:Int→Option Int)(fv_p2:FuncId)(ca_p2:List AV)(cap_p2:bf ca_p2)(hp_p2: ∀ (y0:Int) r,p2 y0=some r→aA prog fv_p2 ((.v (.int .u32 y0))::ca_p2) (.v (.int .u32 r)))(r)(h:jW fu x1 x2 p2=some r):aA prog 299 [.v (.int .u32 x1),.v (.int .u32 x2),.aF [.fn fv_p2 [] ca_p2] 0] (e299 r):=
  pJ mixed (cp:=ags fu x1 x2 p2 fv_p2 ca_p2) (aDw fu x1 x2 p2 fv_p2 ca_p2 cap_p2 hp_p2) aB aDX (aIN _ fu x1 x2 p2 fv_p2 ca_p2 cap_p2 (λy0 r h=>jo (jv (a:=y0) (by intro a b h;first|(exact rfl)|(simp only[gB,IJ]at h;first|exact h|(simp_all [Prod.ext_iff]))) h))) h
def Xx:TD:=zz [[2],[],[0,3,4]]
def ahW:=Da (aC Xx.eq_1)
theorem aBj:au prog 197 Xx=some ⟨ae Tryz.f197,[.tmp 2],[23]⟩:=fA Tryz.func197
def e197:Int->AV:=λr=> .v (.int .u32 r)
theorem aLf(cp:af)(fu:Nat)(x1:Int):J (go prog ak cp aj 0 [] Xx fu (fin prog [.tmp 2] [23]) (ae Tryz.f197) (ay 0 [.v (.int .u32 x1)]) [] []) (lH fu x1) e197:=by
 unfold lH e197
 have da:=ahW
 conv=>arg 1;simp only[ae,Tryz.f197]
 have z0:=ahW
 exact Wk
theorem aiM(fu:Nat)(x1:Int)(r)(h:lH fu x1=some r):aA prog 197 [.v (.int .u32 x1)] (e197 r):=aH mixed [] (ids:=[]) rfl (by decide) aBj (C:=ak) (ci:=λcp=>aj) (λcp ok=>aB) (λcp H=>aLf cp fu x1) h
def Zr:TD:=zz [[2],[],[4,5,6],[],[0,7,8],[],[10,11],[],[3,12]]
def aiH:=Da (aC Zr.eq_1)
theorem i232:au prog 232 Zr=some ⟨ae Tryz.f232,[.tmp 2],[3]⟩:=fA Tryz.func232
def e232:Int->AV:=λr=> .v (.int .i64 r)
theorem awy(cp:af)(fu:Nat)(x1:Int)(H1:oV fu cp):J (go prog ak cp aj 0 [] Zr fu (fin prog [.tmp 2] [3]) (ae Tryz.f232) (ay 0 [.v (.int .u32 x1)]) [] []) (qZ fu x1) e232:=by
 unfold qZ e232
 have da:=aiH
 conv=>arg 1;simp only[ae,Tryz.f232]
 have z0:=aiH
 exact Wk
theorem aEN(fu:Nat)(x1:Int)(r)(h:qZ fu x1=some r):aA prog 232 [.v (.int .u32 x1)] (e232 r):=aH mixed [(oC fu).ct] (ids:=[140]) rfl (by decide) i232 (C:=ak) (ci:=λcp=>aj) (λcp ok=>aB) (λcp H=>awy cp fu x1 (pV H.1)) h
def aa5:TD:=zz [[4],[],[0,1,5,6,7,8,9,10,11,12,13,14,15,16,17,18,19]]
def alG:=Da (aC aa5.eq_1)
theorem i130:au prog 130 aa5=some ⟨ae Tryz.f130,[.tmp 4],[4]⟩:=fA Tryz.func130
def Gs:Bool->AV:=λr=> .v (.bool r)
structure XN (fu:Nat) (cp:af):Prop where
 ap: ∀ {a0:Int} {r},qZ fu a0=some r->cp 232 [.v (.int .u32 a0)]=some (.v (.int .i64 r))
noncomputable def Px(fu:Nat):Cm prog Int Int:=⟨232,λt=>[.v (.int .u32 t)],λt=>qZ fu t,e232,λt b h=>aEN fu t b h,Zi⟩
theorem ajB(H:aI cp (Px fu).ct):XN fu cp:=⟨λ {a0 r} h=>(Px fu).at H a0 r h⟩
theorem asq(cp:af)(fu:Nat)(x1:Int)(x2:Int)(H1:jd fu cp)(H2:XN fu cp):J (go prog ak cp aj 0 [] aa5 fu (fin prog [.tmp 4] [4]) (ae Tryz.f130) (ay 0 [.v (.int .u32 x1),.v (.int .u32 x2)]) [] []) (iM fu x1 x2) Gs:=by
 unfold iM Gs
 have da:=alG
 conv=>arg 1;simp only[ae,Tryz.f130]
 have z0:=alG
 exact Wk
theorem agk(fu:Nat)(x1:Int)(x2:Int)(r)(h:iM fu x1 x2=some r):aA prog 130 [.v (.int .u32 x1),.v (.int .u32 x2)] (Gs r):=aH mixed [(iY fu).ct,(Px fu).ct] (ids:=[124,232]) rfl (by decide) i130 (C:=ak) (ci:=λcp=>aj) (λcp ok=>aB) (λcp H=>asq cp fu x1 x2 (u124 H.1) (ajB H.2.1)) h
def Vb:TD:=zz [[2],[0],[4,5],[],[6],[],[8,9],[],[],[],[11,12],[],[],[],[]]
def akJ:=Da (aC Vb.eq_1)
theorem i198:au prog 198 Vb=some ⟨ae Tryz.f198,[.tmp 2],[23]⟩:=fA Tryz.func198
def Wv:Int->AV:=λr=> .v (.int .u32 r)
structure qc (fu:Nat) (cp:af):Prop where
 ap: ∀ {a0:Int} {a1:Int} {r},iM fu a0 a1=some r->cp 130 [.v (.int .u32 a0),.v (.int .u32 a1)]=some (.v (.bool r))
noncomputable def nZ(fu:Nat):Cm prog (Int×Int) Bool:=⟨130,λt=>[.v (.int .u32 t.1),.v (.int .u32 t.2)],λt=>iM fu t.1 t.2,Gs,λt b h=>agk fu t.1 t.2 b h,Zi⟩
theorem qp(H:aI cp (nZ fu).ct):qc fu cp:=⟨λ {a0 a1 r} h=>(nZ fu).at H (a0,a1) r h⟩
theorem aBB(cp:af)(fu:Nat)(x1:Int)(H1:jd fu cp)(H2:qc fu cp):J (go prog ak cp aj 0 [] Vb fu (fin prog [.tmp 2] [23]) (ae Tryz.f198) (ay 0 [.v (.int .u32 x1)]) [] []) (CP fu x1) Wv:=by
 unfold CP Wv
 have da:=akJ
 conv=>arg 1;simp only[ae,Tryz.f198]
 have z0:=akJ
 exact Wk
theorem aHN(fu:Nat)(x1:Int)(r)(h:CP fu x1=some r):aA prog 198 [.v (.int .u32 x1)] (Wv r):=aH mixed [(iY fu).ct,(nZ fu).ct] (ids:=[124,130]) rfl (by decide) i198 (C:=ak) (ci:=λcp=>aj) (λcp ok=>aB) (λcp H=>aBB cp fu x1 (u124 H.1) (qp H.2.1)) h
def aa0:TD:=zz [[],[],[5,6,7,8],[],[9,10,11],[],[12],[],[14,15,16,17,18],[],[0,3,4,19,20,21,22,23,24,25,26]]
def aig:=Da (aC aa0.eq_1)
theorem i233:au prog 233 aa0=some ⟨ae Tryz.f233,[.cell 2 174],[174]⟩:=fA Tryz.func233
def e233:dQ->AV:=λr=> .agg [.v (.bool r.fneg),.v (.int .i64 r.fexp),.v (.int .u64 r.fsig)]
theorem aLJ(cp:af)(fu:Nat)(x1:Int):J (go prog ak cp aj 0 [] aa0 fu (fin prog [.cell 2 174] [174]) (ae Tryz.f233) (ay 0 [.v (.int .u32 x1)]) [] []) (nG fu x1) e233:=by
 unfold nG e233
 have da:=aig
 conv=>arg 1;simp only[ae,Tryz.f233]
 have z0:=aig
 exact Wk
theorem apr(fu:Nat)(x1:Int)(r)(h:nG fu x1=some r):aA prog 233 [.v (.int .u32 x1)] (e233 r):=aH mixed [] (ids:=[]) rfl (by decide) i233 (C:=ak) (ci:=λcp=>aj) (λcp ok=>aB) (λcp H=>aLJ cp fu x1) h
def FX:TD:=zz [[2],[],[0,3,4,5]]
def adZ:=Da (aC FX.eq_1)
theorem WU:au prog 126 FX=some ⟨ae Tryz.f126,[.tmp 2],[4]⟩:=fA Tryz.func126
def e126:Bool->AV:=λr=> .v (.bool r)
theorem am5(cp:af)(fu:Nat)(x1:Int)(H1:oV fu cp):J (go prog ak cp aj 0 [] FX fu (fin prog [.tmp 2] [4]) (ae Tryz.f126) (ay 0 [.v (.int .u32 x1)]) [] []) (jb fu x1) e126:=by
 unfold jb e126
 have da:=adZ
 conv=>arg 1;simp only[ae,Tryz.f126]
 have z0:=adZ
 exact Wk
theorem aCk(fu:Nat)(x1:Int)(r)(h:jb fu x1=some r):aA prog 126 [.v (.int .u32 x1)] (e126 r):=aH mixed [(oC fu).ct] (ids:=[140]) rfl (by decide) WU (C:=ak) (ci:=λcp=>aj) (λcp ok=>aB) (λcp H=>am5 cp fu x1 (pV H.1)) h
def ZT:TD:=zz [[1,2,6],[],[0,7]]
def aeE:=Da (aC ZT.eq_1)
theorem azO:au prog 301 ZT=some ⟨ae Tryz.f301,[.tmp 6],[4]⟩:=fA Tryz.func301
def e301:Bool->AV:=λr=> .v (.bool r)
theorem ao5(cp:af)(fu:Nat)(x1:Bool)(x2:Int)(x3:Bool):J (go prog ak cp aj 0 [] ZT fu (fin prog [.tmp 6] [4]) (ae Tryz.f301) (ay 0 [.v (.bool x1),.v (.int .i64 x2),.v (.bool x3)]) [] []) (BR fu x1 x2 x3) e301:=by
 unfold BR e301
 have da:=aeE
 conv=>arg 1;simp only[ae,Tryz.f301]
 have z0:=aeE
 exact Wk
theorem aAL(fu:Nat)(x1:Bool)(x2:Int)(x3:Bool)(r)(h:BR fu x1 x2 x3=some r):aA prog 301 [.v (.bool x1),.v (.int .i64 x2),.v (.bool x3)] (e301 r):=aH mixed [] (ids:=[]) rfl (by decide) azO (C:=ak) (ci:=λcp=>aj) (λcp ok=>aB) (λcp H=>ao5 cp fu x1 x2 x3) h
def CW:TD:=zz [[],[],[3],[],[5,6],[],[],[],[7],[],[9,10],[],[11,12],[],[13],[],[15,16],[],[17,18],[],[0,19,20,21,22,23,24]]
def acT:=Da (aC CW.eq_1)
theorem abw:au prog 361 CW=some ⟨ae Tryz.f361,[.tmp 2],[3]⟩:=fA Tryz.func361
def Qa:Int->AV:=λr=> .v (.int .i64 r)
def ig.j2:LJ 2 14 Unit (Int×Int):=⟨λr t e=>[(0,.v (.int .u64 t.1)),(2,.v (.int .i64 t.2))],λr t h=>[]⟩
def ig.j1:LJ 1 8 Unit (Int×Int):=⟨λr t e=>[(0,.v (.int .u64 t.1)),(2,.v (.int .i64 t.2))],λr t h=>[]⟩
open ig in
theorem aGP(cp:af)(fu:Nat)(x1:Int):J (go prog ak cp aj 0 [] CW fu (fin prog [.tmp 2] [3]) (ae Tryz.f361) (ay 0 [.v (.int .u64 x1)]) [] []) (ig fu x1) Qa:=by
 unfold ig Qa
 have da:=acT
 conv=>arg 1;simp only[ae,Tryz.f361]
 have z0:=acT
 exact Wk
theorem azB(fu:Nat)(x1:Int)(r)(h:ig fu x1=some r):aA prog 361 [.v (.int .u64 x1)] (Qa r):=aH mixed [] (ids:=[]) rfl (by decide) abw (C:=ak) (ci:=λcp=>aj) (λcp ok=>aB) (λcp H=>aGP cp fu x1) h
def UM:TD:=zz [[4],[],[0,1,5,6,7,8,9,10,11,12,13,14,15,16,17]]
def afM:=Da (aC UM.eq_1)
theorem aKg:au prog 370 UM=some ⟨ae Tryz.f370,[.tmp 4],[4]⟩:=fA Tryz.func370
def P7:Bool->AV:=λr=> .v (.bool r)
theorem au2(cp:af)(fu:Nat)(x1:Int)(x2:Bool):J (go prog ak cp aj 0 [] UM fu (fin prog [.tmp 4] [4]) (ae Tryz.f370) (ay 0 [.v (.int .i64 x1),.v (.bool x2)]) [] []) (zH fu x1 x2) P7:=by
 unfold zH P7
 have da:=afM
 conv=>arg 1;simp only[ae,Tryz.f370]
 have z0:=afM
 exact Wk
theorem aHh(fu:Nat)(x1:Int)(x2:Bool)(r)(h:zH fu x1 x2=some r):aA prog 370 [.v (.int .i64 x1),.v (.bool x2)] (P7 r):=aH mixed [] (ids:=[]) rfl (by decide) aKg (C:=ak) (ci:=λcp=>aj) (λcp ok=>aB) (λcp H=>au2 cp fu x1 x2) h
def DD:TD:=zz [[2],[],[0],[],[],[],[]]
def aco:=Da (aC DD.eq_1)
theorem SC:au prog 364 DD=some ⟨ae Tryz.f364,[.tmp 2],[23]⟩:=fA Tryz.func364
def JR:Int->AV:=λr=> .v (.int .u32 r)
theorem aCu(cp:af)(fu:Nat)(x1:Bool):J (go prog ak cp aj 0 [] DD fu (fin prog [.tmp 2] [23]) (ae Tryz.f364) (ay 0 [.v (.bool x1)]) [] []) (jA fu x1) JR:=by
 unfold jA JR
 have da:=aco
 conv=>arg 1;simp only[ae,Tryz.f364]
 have z0:=aco
 exact Wk
theorem auO(fu:Nat)(x1:Bool)(r)(h:jA fu x1=some r):aA prog 364 [.v (.bool x1)] (JR r):=aH mixed [] (ids:=[]) rfl (by decide) SC (C:=ak) (ci:=λcp=>aj) (λcp ok=>aB) (λcp H=>aCu cp fu x1) h
def YQ:TD:=zz [[4],[],[0,5,6],[],[8,9,10],[],[1,11,12]]
def aiB:=Da (aC YQ.eq_1)
theorem az6:au prog 368 YQ=some ⟨ae Tryz.f368,[.tmp 4],[23]⟩:=fA Tryz.func368
def Rt:Int->AV:=λr=> .v (.int .u32 r)
structure ajJ (fu:Nat) (cp:af):Prop where
 ap: ∀ {a0:Int} {a1:Bool} {r},zH fu a0 a1=some r->cp 370 [.v (.int .i64 a0),.v (.bool a1)]=some (.v (.bool r))
noncomputable def Y8(fu:Nat):Cm prog (Int×Bool) Bool:=⟨370,λt=>[.v (.int .i64 t.1),.v (.bool t.2)],λt=>zH fu t.1 t.2,P7,λt b h=>aHh fu t.1 t.2 b h,Zi⟩
theorem aLx(H:aI cp (Y8 fu).ct):ajJ fu cp:=⟨λ {a0 a1 r} h=>(Y8 fu).at H (a0,a1) r h⟩
structure zV (fu:Nat) (cp:af):Prop where
 ap: ∀ {a0:Bool} {r},jA fu a0=some r->cp 364 [.v (.bool a0)]=some (.v (.int .u32 r))
noncomputable def xX(fu:Nat):Cm prog Bool Int:=⟨364,λt=>[.v (.bool t)],λt=>jA fu t,JR,λt b h=>auO fu t b h,Zi⟩
theorem Ej(H:aI cp (xX fu).ct):zV fu cp:=⟨λ {a0 r} h=>(xX fu).at H a0 r h⟩
theorem awC(cp:af)(fu:Nat)(x1:Int)(x2:Bool)(H1:ajJ fu cp)(H2:zV fu cp):J (go prog ak cp aj 0 [] YQ fu (fin prog [.tmp 4] [23]) (ae Tryz.f368) (ay 0 [.v (.int .i64 x1),.v (.bool x2)]) [] []) (wV fu x1 x2) Rt:=by
 unfold wV Rt
 have da:=aiB
 conv=>arg 1;simp only[ae,Tryz.f368]
 have z0:=aiB
 exact Wk
theorem anm(fu:Nat)(x1:Int)(x2:Bool)(r)(h:wV fu x1 x2=some r):aA prog 368 [.v (.int .i64 x1),.v (.bool x2)] (Rt r):=aH mixed [(Y8 fu).ct,(xX fu).ct] (ids:=[370,364]) rfl (by decide) az6 (C:=ak) (ci:=λcp=>aj) (λcp ok=>aB) (λcp H=>awC cp fu x1 x2 (aLx H.1) (Ej H.2.1)) h
def VD:TD:=zz [[4],[],[0,5,6,7,8,9,10,11,12,13,14,15],[],[17,18,19],[],[1,20,21,22]]
def aea:=Da (aC VD.eq_1)
theorem aAs:au prog 369 VD=some ⟨ae Tryz.f369,[.tmp 4],[23]⟩:=fA Tryz.func369
def JS:Int->AV:=λr=> .v (.int .u32 r)
def mZ.j1:LJ 1 6 Unit Unit:=⟨λr t e=>[(1,er e 1)],λr t h=>[]⟩
open mZ in
theorem aBA(cp:af)(fu:Nat)(x1:Int)(x2:Bool)(H1:zV fu cp):J (go prog ak cp aj 0 [] VD fu (fin prog [.tmp 4] [23]) (ae Tryz.f369) (ay 0 [.v (.int .i64 x1),.v (.bool x2)]) [] []) (mZ fu x1 x2) JS:=by
 unfold mZ JS
 have da:=aea
 conv=>arg 1;simp only[ae,Tryz.f369]
 have z0:=aea
 exact Wk
theorem aBr(fu:Nat)(x1:Int)(x2:Bool)(r)(h:mZ fu x1 x2=some r):aA prog 369 [.v (.int .i64 x1),.v (.bool x2)] (JS r):=aH mixed [(xX fu).ct] (ids:=[364]) rfl (by decide) aAs (C:=ak) (ci:=λcp=>aj) (λcp ok=>aB) (λcp H=>aBA cp fu x1 x2 (Ej H.1)) h
end Go.Av
