/- The walks of the plain functions. Made by a program of mine. Conditions: none. -/
import Derived.Test.YtiagecndhhinfaaGreatQ4S
import Derived.Test.YtiagecndhhinfaaGreatQ4A
import Derived.Test.YtiagecndhhinfaaGreatProg
set_option linter.unusedVariables false
set_option linter.unusedSimpArgs false
set_option linter.defProp false
set_option maxRecDepth 20000
set_option maxHeartbeats 20000000
open Go Go.Proofs
open Tryz (prog)
namespace Go.Av
open Aw (wM wO wP Ba yG yH yI Bc yJ yK yL yM wQ yN yO yP yQ yR yS yT)
def aaH(fs:List Nat):bG:=⟨λk=>jJ fs k,λ_=>[(0,[])]⟩
theorem mixed:prog.follows .mixedOrders=true:=by kernel_rfl
def az(f:Func):Code:=f.body.getD .skip
theorem tv2:aX prog 2=some (.int .i64):=by kernel_rfl
theorem ts2:bD prog 2=1:=by kernel_rfl
def pt2:= @lJ _ _ _ tv2 rfl
def st2:= @CW _ _ ts2
theorem xN:aX prog 3=some (.int .i64):=by kernel_rfl
theorem iQ:bD prog 3=1:=by kernel_rfl
def pt3:= @lJ _ _ _ xN rfl
def st3:= @CW _ _ iQ
theorem tv4:aX prog 4=some (.bool):=by kernel_rfl
theorem lM:bD prog 4=1:=by kernel_rfl
def pt4:= @lJ _ _ _ tv4 rfl
def sb4:= @sbW _ _ lM
theorem UT:aX prog 5=some (.int .u8):=by kernel_rfl
theorem ts5:bD prog 5=1:=by kernel_rfl
def pt5:= @lJ _ _ _ UT rfl
def st5:= @CW _ _ ts5
theorem UU:aX prog 9=some (.str):=by kernel_rfl
theorem ts9:bD prog 9=1:=by kernel_rfl
def pt9:= @lJ _ _ _ UU rfl
theorem le9: ∀ {s:ByteArray},jh prog .len #[9] [.v (.string s)]=some (.v (.int .i64 s.size)):=atH UU
theorem ix9: ∀ {s:ByteArray} {i:Int},wE prog 9 (.v (.string s)) i=Gu s i:=asx UU
theorem kH:aX prog 22=some (.slice 3 1 8):=by kernel_rfl
theorem sU:bD prog 22=1:=by kernel_rfl
def awN:= @lJ _ _ _ kH rfl
def arj:= @uj _ _ _ _ _ kH
def arV:= @uk _ _ _ _ _ kH
theorem ak3:jh prog .cap #[22] [.v (.slice none 0 0)]=some (.v (.int .i64 0)):=Hl kH
theorem afg: ∀ {lo hi:Option AV} {g:Id->Option ak},lg prog 22 g (.v (.slice none 0 0)) lo hi=(iP lo 0).bind λl=>(iP hi 0).bind (CG l):=GH kH
def atx:= @uo _ _ _ _ _ kH
theorem zX:dU prog 3=some [.v (.int .i64 0)]:=by kernel_rfl
theorem aup: ∀ {a b:Int} {k k':IntKind},0<=a->a<=b->b<=140737488355328->b*8<=140737488355328->uq prog 22 (.v (.int k a)) (.v (.int k' b))=some (.fresh 1 a.toNat (lm (ik .i64) (List.replicate a.toNat 0))):=TL kH zX
def agf:= @yh _ _ _ _ _ _ kH zX rfl au
theorem ahx: ∀ {lvl d:Nat} {h:Heap} {kx:IntKind} {m:Int},0<=m->m<=140737488355328->m*8<=140737488355328->rY prog lvl d 22 3 h (.v (.slice none 0 0)) (.v (.int kx m))=qo lvl d h (some (.fresh 1 m.toNat (lm (ik .i64) (List.replicate m.toNat (0:Int))))):=λh0 h1 h2=>Gy au kH xN zX rfl au h0 h1 h2 (MQ (f:=ik .i64) (x0:=(0:Int)) rfl _)
def aif:= @tY _ _ _ _ _ _ kH zX rfl au
def afn:= @Gw _ _ _ _ _ kH
def ahg:= @GG _ _ _ _ _ kH
def ax5:= @uC _ _ sU
def ay6:= @uD _ _ sU
theorem NF:aX prog 23=some (.int .u32):=by kernel_rfl
theorem adE:bD prog 23=1:=by kernel_rfl
def awO:= @lJ _ _ _ NF rfl
def azj:= @CW _ _ adE
theorem rM:aX prog 24=some (.slice 23 1 4):=by kernel_rfl
theorem Di:bD prog 24=1:=by kernel_rfl
def awP:= @lJ _ _ _ rM rfl
def ark:= @uj _ _ _ _ _ rM
def arW:= @uk _ _ _ _ _ rM
theorem ak4:jh prog .cap #[24] [.v (.slice none 0 0)]=some (.v (.int .i64 0)):=Hl rM
theorem afh: ∀ {lo hi:Option AV} {g:Id->Option ak},lg prog 24 g (.v (.slice none 0 0)) lo hi=(iP lo 0).bind λl=>(iP hi 0).bind (CG l):=GH rM
def aty:= @uo _ _ _ _ _ rM
theorem NJ:dU prog 23=some [.v (.int .u32 0)]:=by kernel_rfl
theorem auq: ∀ {a b:Int} {k k':IntKind},0<=a->a<=b->b<=140737488355328->b*4<=140737488355328->uq prog 24 (.v (.int k a)) (.v (.int k' b))=some (.fresh 1 a.toNat (lm (ik .u32) (List.replicate a.toNat 0))):=TL rM NJ
def agh:= @yh _ _ _ _ _ _ rM NJ rfl au
theorem ahy: ∀ {lvl d:Nat} {h:Heap} {kx:IntKind} {m:Int},0<=m->m<=140737488355328->m*4<=140737488355328->rY prog lvl d 24 3 h (.v (.slice none 0 0)) (.v (.int kx m))=qo lvl d h (some (.fresh 1 m.toNat (lm (ik .u32) (List.replicate m.toNat (0:Int))))):=λh0 h1 h2=>Gy au rM xN NJ rfl au h0 h1 h2 (MQ (f:=ik .u32) (x0:=(0:Int)) rfl _)
def aig:= @tY _ _ _ _ _ _ rM NJ rfl au
def afo:= @Gw _ _ _ _ _ rM
def ahh:= @GG _ _ _ _ _ rM
def ax6:= @uC _ _ Di
def ay7:= @uD _ _ Di
theorem rO:aX prog 25=some (.slice 2 1 8):=by kernel_rfl
theorem Dj:bD prog 25=1:=by kernel_rfl
def awQ:= @lJ _ _ _ rO rfl
def arl:= @uj _ _ _ _ _ rO
def arX:= @uk _ _ _ _ _ rO
theorem ak5:jh prog .cap #[25] [.v (.slice none 0 0)]=some (.v (.int .i64 0)):=Hl rO
theorem afi: ∀ {lo hi:Option AV} {g:Id->Option ak},lg prog 25 g (.v (.slice none 0 0)) lo hi=(iP lo 0).bind λl=>(iP hi 0).bind (CG l):=GH rO
def atz:= @uo _ _ _ _ _ rO
theorem NH:dU prog 2=some [.v (.int .i64 0)]:=by kernel_rfl
theorem mk25: ∀ {a b:Int} {k k':IntKind},0<=a->a<=b->b<=140737488355328->b*8<=140737488355328->uq prog 25 (.v (.int k a)) (.v (.int k' b))=some (.fresh 1 a.toNat (lm (ik .i64) (List.replicate a.toNat 0))):=TL rO NH
def agi:= @yh _ _ _ _ _ _ rO NH rfl au
theorem ahz: ∀ {lvl d:Nat} {h:Heap} {kx:IntKind} {m:Int},0<=m->m<=140737488355328->m*8<=140737488355328->rY prog lvl d 25 3 h (.v (.slice none 0 0)) (.v (.int kx m))=qo lvl d h (some (.fresh 1 m.toNat (lm (ik .i64) (List.replicate m.toNat (0:Int))))):=λh0 h1 h2=>Gy au rO xN NH rfl au h0 h1 h2 (MQ (f:=ik .i64) (x0:=(0:Int)) rfl _)
def aih:= @tY _ _ _ _ _ _ rO NH rfl au
def afp:= @Gw _ _ _ _ _ rO
def ahi:= @GG _ _ _ _ _ rO
def ax7:= @uC _ _ Dj
def ay8:= @uD _ _ Dj
theorem rQ:aX prog 26=some (.slice 4 1 1):=by kernel_rfl
theorem Dk:bD prog 26=1:=by kernel_rfl
def awR:= @lJ _ _ _ rQ rfl
def arn:= @uj _ _ _ _ _ rQ
def arY:= @uk _ _ _ _ _ rQ
theorem ak6:jh prog .cap #[26] [.v (.slice none 0 0)]=some (.v (.int .i64 0)):=Hl rQ
theorem afj: ∀ {lo hi:Option AV} {g:Id->Option ak},lg prog 26 g (.v (.slice none 0 0)) lo hi=(iP lo 0).bind λl=>(iP hi 0).bind (CG l):=GH rQ
def atA:= @uo _ _ _ _ _ rQ
theorem NK:dU prog 4=some [.v (.bool false)]:=by kernel_rfl
theorem aur: ∀ {a b:Int} {k k':IntKind},0<=a->a<=b->b<=140737488355328->b*1<=140737488355328->uq prog 26 (.v (.int k a)) (.v (.int k' b))=some (.fresh 1 a.toNat (lm bk (List.replicate a.toNat false))):=aut rQ NK
def agj:= @yh _ _ _ _ _ _ rQ NK rfl au
theorem ahA: ∀ {lvl d:Nat} {h:Heap} {kx:IntKind} {m:Int},0<=m->m<=140737488355328->m*1<=140737488355328->rY prog lvl d 26 3 h (.v (.slice none 0 0)) (.v (.int kx m))=qo lvl d h (some (.fresh 1 m.toNat (lm (bk) (List.replicate m.toNat (false:Bool))))):=λh0 h1 h2=>Gy au rQ xN NK rfl au h0 h1 h2 (MQ (f:=bk) (x0:=(false:Bool)) rfl _)
def aii:= @tY _ _ _ _ _ _ rQ NK rfl au
def afq:= @Gw _ _ _ _ _ rQ
def ahj:= @GG _ _ _ _ _ rQ
def ax8:= @uC _ _ Dk
def ay9:= @uD _ _ Dk
theorem adL:aX prog 28=some (.struct):=by kernel_rfl
theorem sV:bD prog 28=5:=by kernel_rfl
theorem awS: ∀ {xs:List AV} {off:Nat},part prog xs 28 off=if off+5<=xs.length then some (.agg ((xs.drop off).take 5))else none:=BZ adL sV
theorem ayG: ∀ {h:Heap} {id:Id} {off:Nat} {ys:List AV},ys.length=5->jQ prog 28 h (.ptr id off 0) (.agg ys)=(h.get id).bind (vO prog 28 h id off ys):=Fp sV au
theorem az9:aX prog 30=some (.struct):=by kernel_rfl
theorem vV:bD prog 30=36:=by kernel_rfl
theorem awT: ∀ {xs:List AV} {off:Nat},part prog xs 30 off=if off+36<=xs.length then some (.agg ((xs.drop off).take 36))else none:=BZ az9 vV
theorem ayH: ∀ {h:Heap} {id:Id} {off:Nat} {ys:List AV},ys.length=36->jQ prog 30 h (.ptr id off 0) (.agg ys)=(h.get id).bind (vO prog 30 h id off ys):=Fp vV au
theorem Dp:aX prog 31=some (.slice 28 5 104):=by kernel_rfl
theorem Dl:bD prog 31=1:=by kernel_rfl
def awU:= @lJ _ _ _ Dp rfl
def aro:= @uj _ _ _ _ _ Dp
def arZ:= @uk _ _ _ _ _ Dp
def atC:= @uo _ _ _ _ _ Dp
theorem FQ:dU prog 28=some [.v (.int .i64 0),.v (.slice none 0 0),.v (.slice none 0 0),.v (.slice none 0 0),.v (.slice none 0 0)]:=by kernel_rfl
def agk:= @yh _ _ _ _ _ _ Dp FQ rfl au
theorem aeC: ∀ {lvl d m:Nat} {h:Heap} {id:Id} {n by_:Nat} {l b:List aj},m=b.length->n+m<=140737488355328->(n+m)*by_<=140737488355328->lS lvl d 5 by_ h m (fm bT b) id n n (.sl true true 5 n (fm bT l))=some (.own id 0 (n+m) (n+m),h.set id (.sl true true 5 (n+m) (fm bT (l++b)))):=λh1 h2 h3=>VE nP h1 h2 h3 (qc QI)
def aij:= @tY _ _ _ _ _ _ Dp FQ rfl au
def ax9:= @uC _ _ Dl
def aza:= @uD _ _ Dl
theorem aAa:aX prog 34=some (.int .i64):=by kernel_rfl
theorem adF:bD prog 34=1:=by kernel_rfl
def awV:= @lJ _ _ _ aAa rfl
def azk:= @CW _ _ adF
theorem aAb:aX prog 46=some (.other):=by kernel_rfl
theorem az4:bD prog 46=1:=by kernel_rfl
def awW:= @lJ _ _ _ aAb rfl
theorem adM:aX prog 48=some (.struct):=by kernel_rfl
theorem adG:bD prog 48=44:=by kernel_rfl
theorem awX: ∀ {xs:List AV} {off:Nat},part prog xs 48 off=if off+44<=xs.length then some (.agg ((xs.drop off).take 44))else none:=BZ adM adG
theorem Dq:aX prog 50=some (.slice 60 8 144):=by kernel_rfl
theorem Dn:bD prog 50=1:=by kernel_rfl
def awY:= @lJ _ _ _ Dq rfl
def arp:= @uj _ _ _ _ _ Dq
def ar0:= @uk _ _ _ _ _ Dq
def atE:= @uo _ _ _ _ _ Dq
theorem FU:dU prog 60=some [.v (.int .i64 0),.v (.slice none 0 0),.v (.bool false),.v (.int .i64 0),.v (.slice none 0 0),.v (.slice none 0 0),.v (.slice none 0 0),.v (.slice none 0 0)]:=by kernel_rfl
def agl:= @yh _ _ _ _ _ _ Dq FU rfl au
theorem aeD: ∀ {lvl d m:Nat} {h:Heap} {id:Id} {n by_:Nat} {l b:List aP},m=b.length->n+m<=140737488355328->(n+m)*by_<=140737488355328->lS lvl d 8 by_ h m (fm dE b) id n n (.sl true true 8 n (fm dE l))=some (.own id 0 (n+m) (n+m),h.set id (.sl true true 8 (n+m) (fm dE (l++b)))):=λh1 h2 h3=>VE jr h1 h2 h3 (qc QK)
def aik:= @tY _ _ _ _ _ _ Dq FU rfl au
def aya:= @uC _ _ Dn
def azb:= @uD _ _ Dn
theorem adN:aX prog 60=some (.struct):=by kernel_rfl
theorem UO:bD prog 60=8:=by kernel_rfl
theorem awZ: ∀ {xs:List AV} {off:Nat},part prog xs 60 off=if off+8<=xs.length then some (.agg ((xs.drop off).take 8))else none:=BZ adN UO
theorem ayI: ∀ {h:Heap} {id:Id} {off:Nat} {ys:List AV},ys.length=8->jQ prog 60 h (.ptr id off 0) (.agg ys)=(h.get id).bind (vO prog 60 h id off ys):=Fp UO au
theorem adO:aX prog 70=some (.struct):=by kernel_rfl
theorem UQ:bD prog 70=39:=by kernel_rfl
theorem aw0: ∀ {xs:List AV} {off:Nat},part prog xs 70 off=if off+39<=xs.length then some (.agg ((xs.drop off).take 39))else none:=BZ adO UQ
theorem ayJ: ∀ {h:Heap} {id:Id} {off:Nat} {ys:List AV},ys.length=39->jQ prog 70 h (.ptr id off 0) (.agg ys)=(h.get id).bind (vO prog 70 h id off ys):=Fp UQ au
theorem Dt:aX prog 72=some (.slice 22 1 24):=by kernel_rfl
theorem UR:bD prog 72=1:=by kernel_rfl
def aw1:= @lJ _ _ _ Dt rfl
def arq:= @uj _ _ _ _ _ Dt
def ar1:= @uk _ _ _ _ _ Dt
def atF:= @uo _ _ _ _ _ Dt
theorem NI:dU prog 22=some [.v (.slice none 0 0)]:=by kernel_rfl
def agm:= @yh _ _ _ _ _ _ Dt NI rfl au
def ail:= @tY _ _ _ _ _ _ Dt NI rfl au
def ayb:= @uC _ _ UR
def azc:= @uD _ _ UR
theorem aAc:aX prog 80=some (.other):=by kernel_rfl
theorem az5:bD prog 80=1:=by kernel_rfl
def aw2:= @lJ _ _ _ aAc rfl
theorem FH:aX prog 180=some (.slice 24 1 24):=by kernel_rfl
theorem UK:bD prog 180=1:=by kernel_rfl
def awI:= @lJ _ _ _ FH rfl
def arf:= @uj _ _ _ _ _ FH
def arR:= @uk _ _ _ _ _ FH
def atu:= @uo _ _ _ _ _ FH
theorem aAw:dU prog 24=some [.v (.slice none 0 0)]:=by kernel_rfl
def aic:= @tY _ _ _ _ _ _ FH aAw rfl au
def ax2:= @uC _ _ UK
def ay3:= @uD _ _ UK
theorem FI:aX prog 181=some (.slice 25 1 24):=by kernel_rfl
theorem UL:bD prog 181=1:=by kernel_rfl
def awJ:= @lJ _ _ _ FI rfl
def arh:= @uj _ _ _ _ _ FI
def arS:= @uk _ _ _ _ _ FI
def atv:= @uo _ _ _ _ _ FI
theorem aAx:dU prog 25=some [.v (.slice none 0 0)]:=by kernel_rfl
def aid:= @tY _ _ _ _ _ _ FI aAx rfl au
def ax3:= @uC _ _ UL
def ay4:= @uD _ _ UL
theorem FK:aX prog 182=some (.slice 26 1 24):=by kernel_rfl
theorem UM:bD prog 182=1:=by kernel_rfl
def awK:= @lJ _ _ _ FK rfl
def ari:= @uj _ _ _ _ _ FK
def arU:= @uk _ _ _ _ _ FK
def atw:= @uo _ _ _ _ _ FK
theorem aAy:dU prog 26=some [.v (.slice none 0 0)]:=by kernel_rfl
def aie:= @tY _ _ _ _ _ _ FK aAy rfl au
def ax4:= @uC _ _ UM
def ay5:= @uD _ _ UM
theorem FM:aX prog 183=some (.int .u64):=by kernel_rfl
theorem FD:bD prog 183=1:=by kernel_rfl
def awL:= @lJ _ _ _ FM rfl
def azi:= @CW _ _ FD
theorem adK:aX prog 185=some (.struct):=by kernel_rfl
theorem UN:bD prog 185=5:=by kernel_rfl
theorem awM: ∀ {xs:List AV} {off:Nat},part prog xs 185 off=if off+5<=xs.length then some (.agg ((xs.drop off).take 5))else none:=BZ adK UN
theorem ayF: ∀ {h:Heap} {id:Id} {off:Nat} {ys:List AV},ys.length=5->jQ prog 185 h (.ptr id off 0) (.agg ys)=(h.get id).bind (vO prog 185 h id off ys):=Fp UN au
theorem Kq:dR prog 28 0=some (0,3):=by kernel_rfl
def anM:= @iK _ _ _ _ _ _ Kq iQ au
def aoj:= @iL _ _ _ _ _ _ Kq iQ au
theorem Kr:dR prog 28 1=some (1,22):=by kernel_rfl
def anN:= @iK _ _ _ _ _ _ Kr sU au
def aok:= @iL _ _ _ _ _ _ Kr sU au
theorem Kt:dR prog 28 2=some (2,24):=by kernel_rfl
def anO:= @iK _ _ _ _ _ _ Kt Di au
def aol:= @iL _ _ _ _ _ _ Kt Di au
theorem Eg:dR prog 28 3=some (3,25):=by kernel_rfl
def anP:= @iK _ _ _ _ _ _ Eg Dj au
def aom:= @iL _ _ _ _ _ _ Eg Dj au
theorem amV: ∀ {xs:List AV},wV prog 28 3 (.agg xs)=part prog xs 25 3:=JZ Eg
theorem Ku:dR prog 28 4=some (4,26):=by kernel_rfl
def anQ:= @iK _ _ _ _ _ _ Ku Dk au
def aon:= @iL _ _ _ _ _ _ Ku Dk au
theorem RD:dR prog 30 0=some (0,3):=by kernel_rfl
def anR:= @iK _ _ _ _ _ _ RD iQ au
def aoo:= @iL _ _ _ _ _ _ RD iQ au
theorem RV:dR prog 30 6=some (6,4):=by kernel_rfl
def anY:= @iK _ _ _ _ _ _ RV lM au
def aow:= @iL _ _ _ _ _ _ RV lM au
theorem RX:dR prog 30 7=some (7,22):=by kernel_rfl
def anZ:= @iK _ _ _ _ _ _ RX sU au
def aox:= @iL _ _ _ _ _ _ RX sU au
theorem RY:dR prog 30 8=some (8,4):=by kernel_rfl
def an0:= @iK _ _ _ _ _ _ RY lM au
def aoy:= @iL _ _ _ _ _ _ RY lM au
theorem RF:dR prog 30 16=some (16,3):=by kernel_rfl
def anS:= @iK _ _ _ _ _ _ RF iQ au
def aoq:= @iL _ _ _ _ _ _ RF iQ au
theorem RG:dR prog 30 27=some (27,3):=by kernel_rfl
def anT:= @iK _ _ _ _ _ _ RG iQ au
def aor:= @iL _ _ _ _ _ _ RG iQ au
theorem RN:dR prog 30 28=some (28,3):=by kernel_rfl
def anU:= @iK _ _ _ _ _ _ RN iQ au
def aos:= @iL _ _ _ _ _ _ RN iQ au
theorem RP:dR prog 30 29=some (29,3):=by kernel_rfl
def anV:= @iK _ _ _ _ _ _ RP iQ au
def aot:= @iL _ _ _ _ _ _ RP iQ au
theorem RQ:dR prog 30 30=some (30,4):=by kernel_rfl
def anW:= @iK _ _ _ _ _ _ RQ lM au
def aou:= @iL _ _ _ _ _ _ RQ lM au
theorem RS:dR prog 30 31=some (31,28):=by kernel_rfl
def anX:= @iK _ _ _ _ _ _ RS sV au
def aov:= @iL _ _ _ _ _ _ RS sV au
theorem Kv:dR prog 48 0=some (0,3):=by kernel_rfl
def an1:= @iK _ _ _ _ _ _ Kv iQ au
def aoz:= @iL _ _ _ _ _ _ Kv iQ au
theorem Kw:dR prog 48 1=some (1,30):=by kernel_rfl
def an2:= @iK _ _ _ _ _ _ Kw vV au
def aoA:= @iL _ _ _ _ _ _ Kw vV au
theorem Ky:dR prog 48 2=some (37,31):=by kernel_rfl
def an3:= @iK _ _ _ _ _ _ Ky Dl au
def aoB:= @iL _ _ _ _ _ _ Ky Dl au
theorem Kz:dR prog 48 3=some (38,28):=by kernel_rfl
def an4:= @iK _ _ _ _ _ _ Kz sV au
def aoC:= @iL _ _ _ _ _ _ Kz sV au
theorem KA:dR prog 48 4=some (43,3):=by kernel_rfl
def an5:= @iK _ _ _ _ _ _ KA iQ au
def aoD:= @iL _ _ _ _ _ _ KA iQ au
theorem Eh:dR prog 60 0=some (0,3):=by kernel_rfl
def an6:= @iK _ _ _ _ _ _ Eh iQ au
def aoE:= @iL _ _ _ _ _ _ Eh iQ au
theorem amW: ∀ {xs:List AV},wV prog 60 0 (.agg xs)=part prog xs 3 0:=JZ Eh
theorem Ei:dR prog 60 1=some (1,22):=by kernel_rfl
def an7:= @iK _ _ _ _ _ _ Ei sU au
def aoF:= @iL _ _ _ _ _ _ Ei sU au
theorem amX: ∀ {xs:List AV},wV prog 60 1 (.agg xs)=part prog xs 22 1:=JZ Ei
theorem KC:dR prog 60 2=some (2,4):=by kernel_rfl
def an8:= @iK _ _ _ _ _ _ KC lM au
def aoG:= @iL _ _ _ _ _ _ KC lM au
theorem Ej:dR prog 60 3=some (3,28):=by kernel_rfl
def an9:= @iK _ _ _ _ _ _ Ej sV au
def aoH:= @iL _ _ _ _ _ _ Ej sV au
theorem amY: ∀ {xs:List AV},wV prog 60 3 (.agg xs)=part prog xs 28 3:=JZ Ej
theorem KD:dR prog 70 0=some (0,3):=by kernel_rfl
def aoa:= @iK _ _ _ _ _ _ KD iQ au
def aoI:= @iL _ _ _ _ _ _ KD iQ au
theorem KE:dR prog 70 1=some (1,30):=by kernel_rfl
def aob:= @iK _ _ _ _ _ _ KE vV au
def aoJ:= @iL _ _ _ _ _ _ KE vV au
theorem KF:dR prog 70 2=some (37,50):=by kernel_rfl
def aoc:= @iK _ _ _ _ _ _ KF Dn au
def aoK:= @iL _ _ _ _ _ _ KF Dn au
theorem KG:dR prog 70 3=some (38,3):=by kernel_rfl
def aod:= @iK _ _ _ _ _ _ KG iQ au
def aoL:= @iL _ _ _ _ _ _ KG iQ au
theorem J6:dR prog 185 0=some (0,4):=by kernel_rfl
def anH:= @iK _ _ _ _ _ _ J6 lM au
def aoe:= @iL _ _ _ _ _ _ J6 lM au
theorem J7:dR prog 185 1=some (1,4):=by kernel_rfl
def anI:= @iK _ _ _ _ _ _ J7 lM au
def aof:= @iL _ _ _ _ _ _ J7 lM au
theorem J8:dR prog 185 2=some (2,4):=by kernel_rfl
def anJ:= @iK _ _ _ _ _ _ J8 lM au
def aog:= @iL _ _ _ _ _ _ J8 lM au
theorem J9:dR prog 185 3=some (3,3):=by kernel_rfl
def anK:= @iK _ _ _ _ _ _ J9 iQ au
def aoh:= @iL _ _ _ _ _ _ J9 iQ au
theorem Ko:dR prog 185 4=some (4,183):=by kernel_rfl
def anL:= @iK _ _ _ _ _ _ Ko FD au
def aoi:= @iL _ _ _ _ _ _ Ko FD au
def ahO:= @DU _ _ _ FQ adL
theorem ane:jv prog 28 0=some (0,1):= @jT _ _ _ _ _ _ Kq iQ
theorem anf:jv prog 28 1=some (1,1):= @jT _ _ _ _ _ _ Kr sU
theorem ang:jv prog 28 2=some (2,1):= @jT _ _ _ _ _ _ Kt Di
theorem anh:jv prog 28 3=some (3,1):= @jT _ _ _ _ _ _ Eg Dj
theorem ani:jv prog 28 4=some (4,1):= @jT _ _ _ _ _ _ Ku Dk
theorem aAz:dU prog 48=some [.v (.int .i64 0),.v (.int .i64 0),.v (.slice none 0 0),.v (.bool false),.v (.bool false),.v (.bool false),.v (.bool false),.v (.bool false),.v (.slice none 0 0),.v (.bool false),.v (.int .u32 0),.v (.int .u32 0),.v (.int .u32 0),.v (.bool false),.v (.bool false),.v (.bool false),.v (.int .i64 0),.v (.int .i64 0),.v (.bool false),.v (.bool false),.v (.int .i64 0),.v (.slice none 0 0),.v (.slice none 0 0),.v (.slice none 0 0),.v (.slice none 0 0),.v (.int .i64 0),.v (.bool false),.v (.bool false),.v (.int .i64 0),.v (.int .i64 0),.v (.int .i64 0),.v (.bool false),.v (.int .i64 0),.v (.slice none 0 0),.v (.slice none 0 0),.v (.slice none 0 0),.v (.slice none 0 0),.v (.slice none 0 0),.v (.int .i64 0),.v (.slice none 0 0),.v (.slice none 0 0),.v (.slice none 0 0),.v (.slice none 0 0),.v (.int .i64 0)]:=by kernel_rfl
def ahP:= @DU _ _ _ aAz adM
theorem anj:jv prog 48 0=some (0,1):= @jT _ _ _ _ _ _ Kv iQ
theorem ank:jv prog 48 1=some (1,36):= @jT _ _ _ _ _ _ Kw vV
theorem anl:jv prog 48 2=some (37,1):= @jT _ _ _ _ _ _ Ky Dl
theorem anm:jv prog 48 3=some (38,5):= @jT _ _ _ _ _ _ Kz sV
theorem ann:jv prog 48 4=some (43,1):= @jT _ _ _ _ _ _ KA iQ
def ahQ:= @DU _ _ _ FU adN
theorem ano:jv prog 60 0=some (0,1):= @jT _ _ _ _ _ _ Eh iQ
theorem anp:jv prog 60 1=some (1,1):= @jT _ _ _ _ _ _ Ei sU
theorem anq:jv prog 60 2=some (2,1):= @jT _ _ _ _ _ _ KC lM
theorem anr:jv prog 60 3=some (3,5):= @jT _ _ _ _ _ _ Ej sV
theorem UZ:dU prog 70=some [.v (.int .i64 0),.v (.int .i64 0),.v (.slice none 0 0),.v (.bool false),.v (.bool false),.v (.bool false),.v (.bool false),.v (.bool false),.v (.slice none 0 0),.v (.bool false),.v (.int .u32 0),.v (.int .u32 0),.v (.int .u32 0),.v (.bool false),.v (.bool false),.v (.bool false),.v (.int .i64 0),.v (.int .i64 0),.v (.bool false),.v (.bool false),.v (.int .i64 0),.v (.slice none 0 0),.v (.slice none 0 0),.v (.slice none 0 0),.v (.slice none 0 0),.v (.int .i64 0),.v (.bool false),.v (.bool false),.v (.int .i64 0),.v (.int .i64 0),.v (.int .i64 0),.v (.bool false),.v (.int .i64 0),.v (.slice none 0 0),.v (.slice none 0 0),.v (.slice none 0 0),.v (.slice none 0 0),.v (.slice none 0 0),.v (.int .i64 0)]:=by kernel_rfl
def ahR:= @DU _ _ _ UZ adO
theorem ant:jv prog 70 0=some (0,1):= @jT _ _ _ _ _ _ KD iQ
theorem anu:jv prog 70 1=some (1,36):= @jT _ _ _ _ _ _ KE vV
theorem anv:jv prog 70 2=some (37,1):= @jT _ _ _ _ _ _ KF Dn
theorem anw:jv prog 70 3=some (38,1):= @jT _ _ _ _ _ _ KG iQ
theorem UY:dU prog 185=some [.v (.bool false),.v (.bool false),.v (.bool false),.v (.int .i64 0),.v (.int .u64 0)]:=by kernel_rfl
def ahN:= @DU _ _ _ UY adK
theorem am8:jv prog 185 0=some (0,1):= @jT _ _ _ _ _ _ J6 lM
theorem am9:jv prog 185 1=some (1,1):= @jT _ _ _ _ _ _ J7 lM
theorem ana:jv prog 185 2=some (2,1):= @jT _ _ _ _ _ _ J8 lM
theorem anb:jv prog 185 3=some (3,1):= @jT _ _ _ _ _ _ J9 iQ
theorem anc:jv prog 185 4=some (4,1):= @jT _ _ _ _ _ _ Ko FD
def al3:= @yc _ _ _ zX
def aq3:= @yu _ _ _ zX
def aeP:= @yc _ _ _ NI
def agH:= @yu _ _ _ NI
def aeQ:= @yc _ _ _ FQ
def agI:= @yu _ _ _ FQ
theorem adQ:dU prog 30=some [.v (.int .i64 0),.v (.slice none 0 0),.v (.bool false),.v (.bool false),.v (.bool false),.v (.bool false),.v (.bool false),.v (.slice none 0 0),.v (.bool false),.v (.int .u32 0),.v (.int .u32 0),.v (.int .u32 0),.v (.bool false),.v (.bool false),.v (.bool false),.v (.int .i64 0),.v (.int .i64 0),.v (.bool false),.v (.bool false),.v (.int .i64 0),.v (.slice none 0 0),.v (.slice none 0 0),.v (.slice none 0 0),.v (.slice none 0 0),.v (.int .i64 0),.v (.bool false),.v (.bool false),.v (.int .i64 0),.v (.int .i64 0),.v (.int .i64 0),.v (.bool false),.v (.int .i64 0),.v (.slice none 0 0),.v (.slice none 0 0),.v (.slice none 0 0),.v (.slice none 0 0)]:=by kernel_rfl
def aeR:= @yc _ _ _ adQ
def agJ:= @yu _ _ _ adQ
def aeS:= @yc _ _ _ FU
def agK:= @yu _ _ _ FU
def aeT:= @yc _ _ _ UZ
def agL:= @yu _ _ _ UZ
def aeO:= @yc _ _ _ UY
def agG:= @yu _ _ _ UY
theorem ab4: ∀ {op:BinOp} {a b:Bool},pq prog op 4 (.v (.bool a)) (.v (.bool b))=Aj op a b:=aer tv4
theorem alo: ∀ {k':IntKind} {z:Int},uh prog 3 183 (.v (.int k' z))=some (.v (.int .u64 (wk .u64 z))):=A8 xN FM
theorem alp: ∀ {k':IntKind} {z:Int},uh prog 5 3 (.v (.int k' z))=some (.v (.int .i64 (wk .i64 z))):=A8 UT xN
theorem aln: ∀ {k':IntKind} {z:Int},uh prog 23 3 (.v (.int k' z))=some (.v (.int .i64 (wk .i64 z))):=A8 NF xN
theorem alm: ∀ {k':IntKind} {z:Int},uh prog 23 183 (.v (.int k' z))=some (.v (.int .u64 (wk .u64 z))):=A8 NF FM
theorem alk: ∀ {k':IntKind} {z:Int},uh prog 183 5 (.v (.int k' z))=some (.v (.int .u8 (wk .u8 z))):=A8 FM UT
theorem alj: ∀ {k':IntKind} {z:Int},uh prog 183 23 (.v (.int k' z))=some (.v (.int .u32 (wk .u32 z))):=A8 FM NF
theorem ayh:mQ prog 4 22=[2]:=by kernel_rfl
theorem aAg:typed prog 22 (.v (.slice none 0 0))= .fresh 1 0 []:=zW ayh
theorem ayi:mQ prog 4 24=[2]:=by kernel_rfl
theorem aAh:typed prog 24 (.v (.slice none 0 0))= .fresh 1 0 []:=zW ayi
theorem ayj:mQ prog 4 25=[2]:=by kernel_rfl
theorem aAi:typed prog 25 (.v (.slice none 0 0))= .fresh 1 0 []:=zW ayj
theorem ayk:mQ prog 4 26=[2]:=by kernel_rfl
theorem aAj:typed prog 26 (.v (.slice none 0 0))= .fresh 1 0 []:=zW ayk
theorem ayl:mQ prog 4 28=[0,2,2,2,2]:=by kernel_rfl
theorem aAk: ∀ {xs:List AV},typed prog 28 (.agg xs)= .agg (fO xs [0,2,2,2,2]):=UX ayl
theorem aym:mQ prog 4 31=[6]:=by kernel_rfl
theorem aAl:typed prog 31 (.v (.slice none 0 0))= .fresh 5 0 []:=zW aym
theorem ayn:mQ prog 4 50=[9]:=by kernel_rfl
theorem aAm:typed prog 50 (.v (.slice none 0 0))= .fresh 8 0 []:=zW ayn
theorem ayo:mQ prog 4 60=[0,2,0,0,2,2,2,2]:=by kernel_rfl
theorem aAn: ∀ {xs:List AV},typed prog 60 (.agg xs)= .agg (fO xs [0,2,0,0,2,2,2,2]):=UX ayo
theorem ayp:mQ prog 4 72=[2]:=by kernel_rfl
theorem aAo:typed prog 72 (.v (.slice none 0 0))= .fresh 1 0 []:=zW ayp
theorem ayg:mQ prog 4 185=[0,0,0,0,0]:=by kernel_rfl
theorem aAf: ∀ {xs:List AV},typed prog 185 (.agg xs)= .agg (fO xs [0,0,0,0,0]):=UX ayg
theorem QH{x:aj}:bT x=[.v (.int .i64 x.fType),.arr x.fDims.length (lm (ik .i64) x.fDims),.arr x.fF.length (lm (ik .u32) x.fF),.arr x.fI.length (lm (ik .i64) x.fI),.arr x.fB.length (lm (bk) x.fB)]:=rfl
theorem QG{x:dh}:mZ x=[.v (.int .i64 x.fAxis),.arr x.fAxes.length (lm (ik .i64) x.fAxes),.v (.bool x.fHasAxes),.v (.bool x.fKeep),.v (.bool x.fNoop),.v (.bool x.fLast),.v (.bool x.fZero),.arr x.fPerm.length (lm (ik .i64) x.fPerm),.v (.bool x.fHasPerm),.v (.int .u32 x.fAlpha),.v (.int .u32 x.fBeta),.v (.int .u32 x.fEpsilon),.v (.bool x.fLow),.v (.bool x.fHigh),.v (.bool x.fFmod),.v (.int .i64 x.fTo),.v (.int .i64 x.fMode),.v (.bool x.fTransA),.v (.bool x.fTransB),.v (.int .i64 x.fGroup),.arr x.fKernel.length (lm (ik .i64) x.fKernel),.arr x.fStrides.length (lm (ik .i64) x.fStrides),.arr x.fPads.length (lm (ik .i64) x.fPads),.arr x.fDilations.length (lm (ik .i64) x.fDilations),.v (.int .i64 x.fAuto),.v (.bool x.fCeil),.v (.bool x.fCount),.v (.int .i64 x.fBlock),.v (.int .i64 x.fStart),.v (.int .i64 x.fEnd),.v (.bool x.fHasEnd),.v (.int .i64 x.fValue.fType),.arr x.fValue.fDims.length (lm (ik .i64) x.fValue.fDims),.arr x.fValue.fF.length (lm (ik .u32) x.fValue.fF),.arr x.fValue.fI.length (lm (ik .i64) x.fValue.fI),.arr x.fValue.fB.length (lm (bk) x.fValue.fB)]:=rfl
theorem QJ{x:aP}:dE x=[.v (.int .i64 x.fType),.arr x.fDims.length (lm (ik .i64) x.fDims),.v (.bool x.fConst),.v (.int .i64 x.fT.fType),.arr x.fT.fDims.length (lm (ik .i64) x.fT.fDims),.arr x.fT.fF.length (lm (ik .u32) x.fT.fF),.arr x.fT.fI.length (lm (ik .i64) x.fT.fI),.arr x.fT.fB.length (lm (bk) x.fT.fB)]:=rfl
theorem QL{x:bf}:ig x=[.v (.int .i64 x.fop),.v (.int .i64 x.fs.fAxis),.arr x.fs.fAxes.length (lm (ik .i64) x.fs.fAxes),.v (.bool x.fs.fHasAxes),.v (.bool x.fs.fKeep),.v (.bool x.fs.fNoop),.v (.bool x.fs.fLast),.v (.bool x.fs.fZero),.arr x.fs.fPerm.length (lm (ik .i64) x.fs.fPerm),.v (.bool x.fs.fHasPerm),.v (.int .u32 x.fs.fAlpha),.v (.int .u32 x.fs.fBeta),.v (.int .u32 x.fs.fEpsilon),.v (.bool x.fs.fLow),.v (.bool x.fs.fHigh),.v (.bool x.fs.fFmod),.v (.int .i64 x.fs.fTo),.v (.int .i64 x.fs.fMode),.v (.bool x.fs.fTransA),.v (.bool x.fs.fTransB),.v (.int .i64 x.fs.fGroup),.arr x.fs.fKernel.length (lm (ik .i64) x.fs.fKernel),.arr x.fs.fStrides.length (lm (ik .i64) x.fs.fStrides),.arr x.fs.fPads.length (lm (ik .i64) x.fs.fPads),.arr x.fs.fDilations.length (lm (ik .i64) x.fs.fDilations),.v (.int .i64 x.fs.fAuto),.v (.bool x.fs.fCeil),.v (.bool x.fs.fCount),.v (.int .i64 x.fs.fBlock),.v (.int .i64 x.fs.fStart),.v (.int .i64 x.fs.fEnd),.v (.bool x.fs.fHasEnd),.v (.int .i64 x.fs.fValue.fType),.arr x.fs.fValue.fDims.length (lm (ik .i64) x.fs.fValue.fDims),.arr x.fs.fValue.fF.length (lm (ik .u32) x.fs.fValue.fF),.arr x.fs.fValue.fI.length (lm (ik .i64) x.fs.fValue.fI),.arr x.fs.fValue.fB.length (lm (bk) x.fs.fValue.fB),.arr x.fin.length (fm dE x.fin),.v (.int .i64 x.fouts)]:=rfl
theorem QM{x:aV}:dJ x=[.v (.int .i64 x.fop),.v (.int .i64 x.fs.fAxis),.arr x.fs.fAxes.length (lm (ik .i64) x.fs.fAxes),.v (.bool x.fs.fHasAxes),.v (.bool x.fs.fKeep),.v (.bool x.fs.fNoop),.v (.bool x.fs.fLast),.v (.bool x.fs.fZero),.arr x.fs.fPerm.length (lm (ik .i64) x.fs.fPerm),.v (.bool x.fs.fHasPerm),.v (.int .u32 x.fs.fAlpha),.v (.int .u32 x.fs.fBeta),.v (.int .u32 x.fs.fEpsilon),.v (.bool x.fs.fLow),.v (.bool x.fs.fHigh),.v (.bool x.fs.fFmod),.v (.int .i64 x.fs.fTo),.v (.int .i64 x.fs.fMode),.v (.bool x.fs.fTransA),.v (.bool x.fs.fTransB),.v (.int .i64 x.fs.fGroup),.arr x.fs.fKernel.length (lm (ik .i64) x.fs.fKernel),.arr x.fs.fStrides.length (lm (ik .i64) x.fs.fStrides),.arr x.fs.fPads.length (lm (ik .i64) x.fs.fPads),.arr x.fs.fDilations.length (lm (ik .i64) x.fs.fDilations),.v (.int .i64 x.fs.fAuto),.v (.bool x.fs.fCeil),.v (.bool x.fs.fCount),.v (.int .i64 x.fs.fBlock),.v (.int .i64 x.fs.fStart),.v (.int .i64 x.fs.fEnd),.v (.bool x.fs.fHasEnd),.v (.int .i64 x.fs.fValue.fType),.arr x.fs.fValue.fDims.length (lm (ik .i64) x.fs.fValue.fDims),.arr x.fs.fValue.fF.length (lm (ik .u32) x.fs.fValue.fF),.arr x.fs.fValue.fI.length (lm (ik .i64) x.fs.fValue.fI),.arr x.fs.fValue.fB.length (lm (bk) x.fs.fValue.fB),.arr x.fin.length (fm bT x.fin),.v (.int .i64 x.fx.fType),.arr x.fx.fDims.length (lm (ik .i64) x.fx.fDims),.arr x.fx.fF.length (lm (ik .u32) x.fx.fF),.arr x.fx.fI.length (lm (ik .i64) x.fx.fI),.arr x.fx.fB.length (lm (bk) x.fx.fB),.v (.int .i64 x.faxis)]:=rfl
theorem QN{x:qL}:yB x=[.v (.bool x.fneg),.v (.bool x.fnan),.v (.bool x.finf),.v (.int .i64 x.fexp),.v (.int .u64 x.fsig)]:=rfl
theorem mG:jZ bT:=by
  intro a b h
  obtain⟨a0,a1,a2,a3,a4⟩:=a
  obtain⟨b0,b1,b2,b3,b4⟩:=b
  simp only[QH,iY]at h
  simp_all
theorem oL:jZ mZ:=by
  intro a b h
  obtain⟨a0,a1,a2,a3,a4,a5,a6,a7,a8,a9,a10,a11,a12,a13,a14,a15,a16,a17,a18,a19,a20,a21,a22,a23,a24,a25,a26,a27,a28,a29,a30,⟨a_310,a_311,a_312,a_313,a_314⟩⟩:=a
  obtain⟨b0,b1,b2,b3,b4,b5,b6,b7,b8,b9,b10,b11,b12,b13,b14,b15,b16,b17,b18,b19,b20,b21,b22,b23,GX,b25,b26,b27,b28,b29,b30,⟨b_310,b_311,b_312,b_313,b_314⟩⟩:=b
  simp only[QG,iY,@kM _ _ mG,@kE _ _ (kU (fC nP au mG)),@kN _ _ (fC nP au mG)]at h
  simp_all
theorem qN:jZ dE:=by
  intro a b h
  obtain⟨a0,a1,a2,⟨a_30,a_31,a_32,a_33,a_34⟩⟩:=a
  obtain⟨b0,b1,b2,⟨b_30,b_31,b_32,b_33,b_34⟩⟩:=b
  simp only[QJ,iY,@kM _ _ mG,@kE _ _ (kU (fC nP au mG)),@kN _ _ (fC nP au mG),@kM _ _ oL,@kE _ _ (kU (fC qM au oL)),@kN _ _ (fC qM au oL)]at h
  simp_all
theorem uU:jZ ig:=by
  intro a b h
  obtain⟨a0,⟨a_10,a_11,a_12,a_13,a_14,a_15,a_16,a_17,a_18,a_19,a_110,a_111,a_112,a_113,a_114,a_115,a_116,a_117,a_118,a_119,a_120,a_121,a_122,a_123,a_124,a_125,a_126,a_127,a_128,a_129,a_130,⟨a_1_310,a_1_311,a_1_312,a_1_313,a_1_314⟩⟩,a2,a3⟩:=a
  obtain⟨b0,⟨b_10,b_11,b_12,b_13,b_14,b_15,b_16,b_17,b_18,b_19,b_110,b_111,b_112,b_113,b_114,b_115,b_116,b_117,b_118,b_119,b_120,b_121,b_122,b_123,b_124,b_125,b_126,b_127,b_128,b_129,b_130,⟨b_1_310,b_1_311,b_1_312,b_1_313,b_1_314⟩⟩,b2,b3⟩:=b
  simp only[QL,iY,@kM _ _ mG,@kE _ _ (kU (fC nP au mG)),@kN _ _ (fC nP au mG),@kM _ _ oL,@kE _ _ (kU (fC qM au oL)),@kN _ _ (fC qM au oL),@kM _ _ qN,@kE _ _ (kU (fC jr au qN)),@kN _ _ (fC jr au qN)]at h
  simp_all
theorem AU:jZ dJ:=by
  intro a b h
  obtain⟨a0,⟨a_10,a_11,a_12,a_13,a_14,a_15,a_16,a_17,a_18,a_19,a_110,a_111,a_112,a_113,a_114,a_115,a_116,a_117,a_118,a_119,a_120,a_121,a_122,a_123,a_124,a_125,a_126,a_127,a_128,a_129,a_130,⟨a_1_310,a_1_311,a_1_312,a_1_313,a_1_314⟩⟩,a2,⟨a_30,a_31,a_32,a_33,a_34⟩,a4⟩:=a
  obtain⟨b0,⟨b_10,b_11,b_12,b_13,b_14,b_15,b_16,b_17,b_18,b_19,b_110,b_111,b_112,b_113,b_114,b_115,b_116,b_117,b_118,b_119,b_120,b_121,b_122,b_123,b_124,b_125,b_126,b_127,b_128,b_129,b_130,⟨b_1_310,b_1_311,b_1_312,b_1_313,b_1_314⟩⟩,b2,⟨b_30,b_31,b_32,b_33,b_34⟩,b4⟩:=b
  simp only[QM,iY,@kM _ _ mG,@kE _ _ (kU (fC nP au mG)),@kN _ _ (fC nP au mG),@kM _ _ oL,@kE _ _ (kU (fC qM au oL)),@kN _ _ (fC qM au oL),@kM _ _ qN,@kE _ _ (kU (fC jr au qN)),@kN _ _ (fC jr au qN),@kM _ _ uU,@kE _ _ (kU (fC wI au uU)),@kN _ _ (fC wI au uU)]at h
  simp_all
theorem QO:jZ yB:=by
  intro a b h
  obtain⟨a0,a1,a2,a3,a4⟩:=a
  obtain⟨b0,b1,b2,b3,b4⟩:=b
  simp only[QN,iY,@kM _ _ mG,@kE _ _ (kU (fC nP au mG)),@kN _ _ (fC nP au mG),@kM _ _ oL,@kE _ _ (kU (fC qM au oL)),@kN _ _ (fC qM au oL),@kM _ _ qN,@kE _ _ (kU (fC jr au qN)),@kN _ _ (fC jr au qN),@kM _ _ uU,@kE _ _ (kU (fC wI au uU)),@kN _ _ (fC wI au uU),@kM _ _ AU,@kE _ _ (kU (fC AX au AU)),@kN _ _ (fC AX au AU)]at h
  simp_all
def TT0:=af @ts2<|af @pt2<|af @st2<|af @iQ<|af @pt3<|af @st3<|af @lM<|af @pt4<|af @sb4<|af @ts5<|af @pt5<|af @st5<|af @ts9<|af @pt9<|af @le9<|af @ix9<|af @sU<|af @awN<|af @arj<|af @arV<|af @ak3<|af @afg<|af @atx<|af @aup<|af @agf<|af @ahx<|af @aif<|af @afn<|af @ahg<|af @ax5<|af @ay6<|af @adE<|af @awO<|af @azj<|af @Di<|af @awP<|af @ark<|af @arW<|af @ak4<| @afh
def TT1:=af @aty<|af @auq<|af @agh<|af @ahy<|af @aig<|af @afo<|af @ahh<|af @ax6<|af @ay7<|af @Dj<|af @awQ<|af @arl<|af @arX<|af @ak5<|af @afi<|af @atz<|af @mk25<|af @agi<|af @ahz<|af @aih<|af @afp<|af @ahi<|af @ax7<|af @ay8<|af @Dk<|af @awR<|af @arn<|af @arY<|af @ak6<|af @afj<|af @atA<|af @aur<|af @agj<|af @ahA<|af @aii<|af @afq<|af @ahj<|af @ax8<|af @ay9<| @sV
def TT2:=af @awS<|af @ayG<|af @vV<|af @awT<|af @ayH<|af @Dl<|af @awU<|af @aro<|af @arZ<|af @atC<|af @agk<|af @aeC<|af @aij<|af @ax9<|af @aza<|af @adF<|af @awV<|af @azk<|af @az4<|af @awW<|af @adG<|af @awX<|af @Dn<|af @awY<|af @arp<|af @ar0<|af @atE<|af @agl<|af @aeD<|af @aik<|af @aya<|af @azb<|af @UO<|af @awZ<|af @ayI<|af @UQ<|af @aw0<|af @ayJ<|af @UR<| @aw1
def TT3:=af @arq<|af @ar1<|af @atF<|af @agm<|af @ail<|af @ayb<|af @azc<|af @az5<|af @aw2<|af @UK<|af @awI<|af @arf<|af @arR<|af @atu<|af @aic<|af @ax2<|af @ay3<|af @UL<|af @awJ<|af @arh<|af @arS<|af @atv<|af @aid<|af @ax3<|af @ay4<|af @UM<|af @awK<|af @ari<|af @arU<|af @atw<|af @aie<|af @ax4<|af @ay5<|af @FD<|af @awL<|af @azi<|af @UN<|af @awM<|af @ayF<| @Kq
def TT4:=af @anM<|af @aoj<|af @Kr<|af @anN<|af @aok<|af @Kt<|af @anO<|af @aol<|af @Eg<|af @anP<|af @aom<|af @amV<|af @Ku<|af @anQ<|af @aon<|af @RD<|af @anR<|af @aoo<|af @RV<|af @anY<|af @aow<|af @RX<|af @anZ<|af @aox<|af @RY<|af @an0<|af @aoy<|af @RF<|af @anS<|af @aoq<|af @RG<|af @anT<|af @aor<|af @RN<|af @anU<|af @aos<|af @RP<|af @anV<|af @aot<| @RQ
def TT5:=af @anW<|af @aou<|af @RS<|af @anX<|af @aov<|af @Kv<|af @an1<|af @aoz<|af @Kw<|af @an2<|af @aoA<|af @Ky<|af @an3<|af @aoB<|af @Kz<|af @an4<|af @aoC<|af @KA<|af @an5<|af @aoD<|af @Eh<|af @an6<|af @aoE<|af @amW<|af @Ei<|af @an7<|af @aoF<|af @amX<|af @KC<|af @an8<|af @aoG<|af @Ej<|af @an9<|af @aoH<|af @amY<|af @KD<|af @aoa<|af @aoI<|af @KE<| @aob
def TT6:=af @aoJ<|af @KF<|af @aoc<|af @aoK<|af @KG<|af @aod<|af @aoL<|af @J6<|af @anH<|af @aoe<|af @J7<|af @anI<|af @aof<|af @J8<|af @anJ<|af @aog<|af @J9<|af @anK<|af @aoh<|af @Ko<|af @anL<|af @aoi<|af @ahO<|af @ane<|af @anf<|af @ang<|af @anh<|af @ani<|af @ahP<|af @anj<|af @ank<|af @anl<|af @anm<|af @ann<|af @ahQ<|af @ano<|af @anp<|af @anq<|af @anr<| @ahR
def TT7:=af @ant<|af @anu<|af @anv<|af @anw<|af @ahN<|af @am8<|af @am9<|af @ana<|af @anb<|af @anc<|af @al3<|af @aq3<|af @aeP<|af @agH<|af @aeQ<|af @agI<|af @aeR<|af @agJ<|af @aeS<|af @agK<|af @aeT<|af @agL<|af @aeO<|af @agG<|af @ab4<|af @alo<|af @alp<|af @aln<|af @alm<|af @alk<|af @alj<|af @aAg<|af @aAh<|af @aAi<|af @aAj<|af @aAk<|af @aAl<|af @aAm<|af @aAn<| @aAo
def TT8:=af @aAf<|af @QH<|And.intro (λl=> @qc _ bT l QI)<|af @QG<|And.intro (λl=> @qc _ mZ l Xr)<|af @QJ<|And.intro (λl=> @qc _ dE l QK)<|af @QL<|And.intro (λl=> @qc _ ig l Xt)<|af @QM<|And.intro (λl=> @qc _ dJ l Xu)<|af @QN<|(λl=> @qc _ yB l Xv)
def TT:=af @TT0<|af @TT1<|af @TT2<|af @TT3<|af @TT4<|af @TT5<|af @TT6<|af @TT7<| @TT8
def OF:=And.intro (λl=> @qc _ bT l QI)<|And.intro (λl=> @qc _ mZ l Xr)<|And.intro (λl=> @qc _ dE l QK)<|And.intro (λl=> @qc _ ig l Xt)<|And.intro (λl=> @qc _ dJ l Xu)<|(λl=> @qc _ yB l Xv)
def NT:=af @QH<|af @QG<|af @QJ<|af @QL<|af @QM<| @QN
def OZ:=af LN<|af RO OF
theorem Zd{p:Prop}(h:p:=by first|assumption|decide|with_unfolding_all rfl|omega|simp only[OZ] <;> omega|fail):p:=h
theorem Ze{p:Prop}(h:p:=by first|rfl|(simp only[LN,NN,NT])):p:=h
theorem Zh{p:Prop}(h:p:=by first|(simp (disch:=first|exact Zd|fail) only[RR,simprocAttr,LN,NN,NT];done)|(simp (disch:=first|exact Zd|fail) only[RR,simprocAttr,LN,J5,NN,NT];done)|rfl):p:=h
def FN:=af FF<|af LN<|af NN NT
theorem onf{e:Nat->Option AV}:aB e (.const .nilFunc)=some (.v .nilFunc):=rfl
theorem avS{lvl k c:Nat}{h:Heap}{id:Id}{cells:List AV}:BV lvl k 0 c h id cells (.v (.slice none 0 0))=some (h.set id (.bx true (cells.set c (.arr 0 [])))):=rfl
theorem agq{α:Type}{f:α→AV}{lvl d by_ n i:Nat}{h:Heap}{id:Id}{l:List (List α)}{x:List α}{y:α}(h3:n+1≤140737488355328)(h4:(n+1)*by_≤140737488355328):lS lvl d 1 by_ h 1 [.arr x.length (lm f (x.set i y))] id n n (.sl true true 1 n (lm (eP f) l))=some (.own id 0 (n+1) (n+1),h.set id (.sl true true 1 (n+1) (lm (eP f) (l++[x.set i y])))):=by
 have:=VD (x:=x.set i y) (f:=f) (l:=l) (n:=n) (by_:=by_) (h:=h) (lvl:=lvl) (d:=d) (id:=id) h3 h4
 rwa[List.length_set]at this
def ZZ:=af @onf<|af @Z8<|af @avS<|af @agq<|af kH<|af zX<|af RR<|af RM<|af LN<|af TT RH
theorem Jc{β:Type}{m m':Option AV}{s:Option β}{enc:β->AV}(j:J m' s enc)(h:m=m':=by conv=>lhs;simp (disch:=first|exact Zd|fail) only[ZZ,simprocAttr, *]):J m s enc:=J.eq h j
theorem Js{p:Prop}(h:p:=by simp (maxSteps:=20000000) (disch:=first|exact Zd|fail) only[ZZ,simprocAttr,FN, *]):p:=h
def IJ:=And.intro (@kM _ _ mG)<|And.intro (@kE _ _ (kU (fC nP au mG)))<|And.intro (@kN _ _ (fC nP au mG))<|And.intro (@kM _ _ oL)<|And.intro (@kE _ _ (kU (fC qM au oL)))<|And.intro (@kN _ _ (fC qM au oL))<|And.intro (@kM _ _ qN)<|And.intro (@kE _ _ (kU (fC jr au qN)))<|And.intro (@kN _ _ (fC jr au qN))<|And.intro (@kM _ _ uU)<|And.intro (@kE _ _ (kU (fC wI au uU)))<|And.intro (@kN _ _ (fC wI au uU))<|And.intro (@kM _ _ AU)<|And.intro (@kE _ _ (kU (fC AX au AU)))<|And.intro (@kN _ _ (fC AX au AU))<|And.intro (@kM _ _ QO)<|And.intro (@kE _ _ (kU (fC Hg au QO)))<|And.intro (@kN _ _ (fC Hg au QO))<|(@kE _ _ (aaD aaE))
theorem Zi{p:Prop}(h:p:=by intro a b h;first|(exact rfl)|(simp only[iY,IJ]at h;first|exact h|(simp_all [Prod.ext_iff]))):p:=h
def ZG:=af ZZ<|af RU<|af @gG<|af @gq<|af @Nat.sub_zero @Nat.zero_le
def ZN:=af ZZ RU
theorem Jg{β:Type}{m m':Option AV}{s:Option β}{enc:β->AV}(j:J m' s enc)(h:m=m':=by conv=>lhs;try simp (maxSteps:=20000000) (disch:=first|exact Zd|fail) only[ZG,simprocAttr, *]):J m s enc:=J.eq h j
theorem Jn{β:Type}{m m':Option AV}{s:Option β}{enc:β->AV}{i:Nat}{ρ τ:Type}{r:ρ}{fj:τ->Option β}(j:J m' (jn i r fj s) enc)(h:m=m':=by conv=>lhs;simp (maxSteps:=20000000) (disch:=first|exact Zd|fail) only[ZN,simprocAttr, *]):J m (jn i r fj s) enc:=J.eq h j
theorem Jk{β:Type}{m m':Option AV}{s:Option β}{enc:β->AV}{i:Nat}{ρ τ:Type}{r:ρ}{fj:τ->Option β}(j:J m' (jc i r fj s) enc)(h:m=m':=by conv=>lhs;simp (maxSteps:=20000000) (disch:=first|exact Zd|fail) only[ZN,simprocAttr, *]):J m (jc i r fj s) enc:=J.eq h j
theorem Jl{β:Type}{m m':Option AV}{enc:β->AV}{σ:Type}{body:(σ->Option β)->σ->Option β}{k:Nat}{s0:σ}(j:J m' (aT body k s0) enc)(h:m=m':=by conv=>lhs;simp (maxSteps:=20000000) (disch:=first|exact Zd|fail) only[ZN,simprocAttr, *]):J m (aT body k s0) enc:=J.eq h j
theorem Ju{β:Type}{m m':Option AV}{enc:β->AV}{k:Nat}{f:Nat->Option β}(j:J m' (un k f) enc)(h:m=m':=by conv=>lhs;simp (maxSteps:=20000000) (disch:=first|exact Zd|fail) only[ZN,simprocAttr, *]):J m (un k f) enc:=J.eq h j
theorem Jw{p:Prop}(h:p:=by simp (maxSteps:=20000000) (disch:=first|exact Zd|fail) only[ZG,simprocAttr,FN, *]):p:=h
theorem Zx{p:Prop}(h:p:=by first|rfl|(simp only[LN,NN,NT];done)|(simp (disch:=first|exact Zd|fail) only[RR,simprocAttr,LN,NN,NT];done)|(simp (disch:=first|exact Zd|fail) only[RR,simprocAttr,LN,J5,NN,NT];done)|(simp (maxSteps:=20000000) (disch:=first|exact Zd|fail) only[ZZ,simprocAttr,aaQ,aaP,FN, *];done)|(simp (maxSteps:=20000000) (disch:=first|exact Zd|fail) only[ZZ,simprocAttr,aaQ,aaP,J5,FN, *];done)):p:=h
theorem J.gi{β:Type}{m:Option AV}{s:Option β}{enc:β->AV}{c:Prop}{dd:Decidable c}{s1:Option β}(j:J m (if c then s else s1) enc):J m (if c then s else s1) enc:=j
theorem J.gj{β:Type}{m:Option AV}{s:Option β}{enc:β->AV}{i:Nat}{ρ τ:Type}{r:ρ}{fj:τ->Option β}(j:J m (jn i r fj s) enc):J m (jn i r fj s) enc:=j
theorem J.gk{β:Type}{m:Option AV}{s:Option β}{enc:β->AV}{i:Nat}{ρ τ:Type}{r:ρ}{fj:τ->Option β}(j:J m (jc i r fj s) enc):J m (jc i r fj s) enc:=j
theorem J.goB{β:Type}{s:Option β}{enc:β->AV}{C:bG}{cp:aC}{ci:bz}{lvl:Nat}{prot:List Id}{D:List (Nat×List Nat)}{n:Nat}{K:KK}{e:Env}{h:Heap}{fs:List Fr}{c:Code}{f:Func}(hc:c=az f)(j:J (go prog C cp ci lvl prot D n K (az f) e h fs) s enc):J (go prog C cp ci lvl prot D n K c e h fs) s enc:=by subst hc;exact j
theorem J.gl{β:Type}{m:Option AV}{enc:β->AV}{σ:Type}{body:(σ->Option β)->σ->Option β}{k:Nat}{s0:σ}(j:J m (aT body k s0) enc):J m (aT body k s0) enc:=j
theorem J.atD{β:Type}{m:Option AV}{enc:β->AV}{l:List (List Bool)}{i:Int}{k:List Bool->Option β}(a: ∀ r,0<=i->i<l.length->l[i.toNat]? =Option.some r->(lm (eP bk) l)[i.toNat]? =Option.some (.arr r.length (lm bk r))->J m (k r) enc):J m ((at? l i).bind k) enc:=J.at λr h0 h1 h2=>a r h0 h1 h2 (aa0 h2)
theorem Wk{p:Prop}(h:p:=by repeat' first|with_reducible exact J.none|with_reducible refine J.chk λc=> ?_ |(with_reducible refine J.l3 λx y z h=> ?_;subst h)|(with_reducible refine J.gu ?_;first|(first|refine J.un λk=> ?_ |refine J.squ ?_ |refine J.rqu ?_)|(refine Ju ?_;first|refine J.un λk=> ?_ |refine J.squ ?_ |refine J.rqu ?_))|(with_reducible refine J.atI λr a b c d=> ?_;try simp only[Int.toNat_natCast,LN,Nat.sub_zero,Nat.zero_mul,Nat.zero_add,Nat.add_zero,List.drop_zero,simprocAttr]at b c d)|(with_reducible refine J.atB λr a b c d=> ?_;try simp only[Int.toNat_natCast,LN,Nat.sub_zero,Nat.zero_mul,Nat.zero_add,Nat.add_zero,List.drop_zero,simprocAttr]at b c d)|(with_reducible refine J.atL λr a b c d=> ?_;try simp only[Int.toNat_natCast,LN,Nat.sub_zero,Nat.zero_mul,Nat.zero_add,Nat.add_zero,List.drop_zero,simprocAttr]at b c d)|(with_reducible refine J.atD λr a b c d=> ?_;try simp only[Int.toNat_natCast,LN,Nat.sub_zero,Nat.zero_mul,Nat.zero_add,Nat.add_zero,List.drop_zero,simprocAttr]at b c d)|(with_reducible refine J.Az nP λr b c d=> ?_;try simp only[Int.toNat_natCast,LN,Nat.sub_zero,Nat.zero_mul,Nat.zero_add,Nat.add_zero,List.drop_zero,simprocAttr]at b c d)|(with_reducible refine J.AA nP λr a b c d=> ?_;try simp only[Int.toNat_natCast,LN,Nat.sub_zero,Nat.zero_mul,Nat.zero_add,Nat.add_zero,List.drop_zero,simprocAttr]at b c d)|(with_reducible refine J.Az qM λr b c d=> ?_;try simp only[Int.toNat_natCast,LN,Nat.sub_zero,Nat.zero_mul,Nat.zero_add,Nat.add_zero,List.drop_zero,simprocAttr]at b c d)|(with_reducible refine J.AA qM λr a b c d=> ?_;try simp only[Int.toNat_natCast,LN,Nat.sub_zero,Nat.zero_mul,Nat.zero_add,Nat.add_zero,List.drop_zero,simprocAttr]at b c d)|(with_reducible refine J.Az jr λr b c d=> ?_;try simp only[Int.toNat_natCast,LN,Nat.sub_zero,Nat.zero_mul,Nat.zero_add,Nat.add_zero,List.drop_zero,simprocAttr]at b c d)|(with_reducible refine J.AA jr λr a b c d=> ?_;try simp only[Int.toNat_natCast,LN,Nat.sub_zero,Nat.zero_mul,Nat.zero_add,Nat.add_zero,List.drop_zero,simprocAttr]at b c d)|(with_reducible refine J.Az wI λr b c d=> ?_;try simp only[Int.toNat_natCast,LN,Nat.sub_zero,Nat.zero_mul,Nat.zero_add,Nat.add_zero,List.drop_zero,simprocAttr]at b c d)|(with_reducible refine J.AA wI λr a b c d=> ?_;try simp only[Int.toNat_natCast,LN,Nat.sub_zero,Nat.zero_mul,Nat.zero_add,Nat.add_zero,List.drop_zero,simprocAttr]at b c d)|(with_reducible refine J.Az AX λr b c d=> ?_;try simp only[Int.toNat_natCast,LN,Nat.sub_zero,Nat.zero_mul,Nat.zero_add,Nat.add_zero,List.drop_zero,simprocAttr]at b c d)|(with_reducible refine J.AA AX λr a b c d=> ?_;try simp only[Int.toNat_natCast,LN,Nat.sub_zero,Nat.zero_mul,Nat.zero_add,Nat.add_zero,List.drop_zero,simprocAttr]at b c d)|(with_reducible refine J.Az Hg λr b c d=> ?_;try simp only[Int.toNat_natCast,LN,Nat.sub_zero,Nat.zero_mul,Nat.zero_add,Nat.add_zero,List.drop_zero,simprocAttr]at b c d)|(with_reducible refine J.AA Hg λr a b c d=> ?_;try simp only[Int.toNat_natCast,LN,Nat.sub_zero,Nat.zero_mul,Nat.zero_add,Nat.add_zero,List.drop_zero,simprocAttr]at b c d)|(with_reducible refine J.Ar (c:=bT) λr a b c d=> ?_;try simp only[Int.toNat_natCast,LN,Nat.sub_zero,Nat.zero_mul,Nat.zero_add,Nat.add_zero,List.drop_zero,simprocAttr]at b c d)|(with_reducible refine J.Ar (c:=mZ) λr a b c d=> ?_;try simp only[Int.toNat_natCast,LN,Nat.sub_zero,Nat.zero_mul,Nat.zero_add,Nat.add_zero,List.drop_zero,simprocAttr]at b c d)|(with_reducible refine J.Ar (c:=dE) λr a b c d=> ?_;try simp only[Int.toNat_natCast,LN,Nat.sub_zero,Nat.zero_mul,Nat.zero_add,Nat.add_zero,List.drop_zero,simprocAttr]at b c d)|(with_reducible refine J.Ar (c:=ig) λr a b c d=> ?_;try simp only[Int.toNat_natCast,LN,Nat.sub_zero,Nat.zero_mul,Nat.zero_add,Nat.add_zero,List.drop_zero,simprocAttr]at b c d)|(with_reducible refine J.Ar (c:=dJ) λr a b c d=> ?_;try simp only[Int.toNat_natCast,LN,Nat.sub_zero,Nat.zero_mul,Nat.zero_add,Nat.add_zero,List.drop_zero,simprocAttr]at b c d)|(with_reducible refine J.Ar (c:=yB) λr a b c d=> ?_;try simp only[Int.toNat_natCast,LN,Nat.sub_zero,Nat.zero_mul,Nat.zero_add,Nat.add_zero,List.drop_zero,simprocAttr]at b c d)|with_reducible refine J.sat λr a=> ?_ |((with_reducible refine J.bind λx h=> ?_);(first|with_reducible have e:=F1 h|with_reducible have e:=F2 h|with_reducible have e:=F3 h|with_reducible have e:=F4 h|with_reducible have e:=F5 h|with_reducible have e:=F6 h|with_reducible have e:=F7 h|with_reducible have e:=F8 h|with_reducible have e:=F9 h|with_reducible have e:=F10 h|with_reducible have e:=F11 h|with_reducible have e:=F12 h|with_reducible have e:=F13 h|with_reducible have e:=F14 h|with_reducible have e:=F15 h|with_reducible have e:=F16 h|with_reducible have e:=(hc H1).ap _ h|with_reducible have e:=(hc H1).ap (_,_) h|with_reducible have e:=(hc H2).ap _ h|with_reducible have e:=(hc H2).ap (_,_) h|with_reducible have e:=(hc H2).ap (_,_,_,_) h|with_reducible have e:=(hc H3).ap () h|with_reducible have e:=(hc H3).ap _ h|with_reducible have e:=(hc H3).ap (_,_) h|with_reducible have e:=(hc H4).ap () h|with_reducible have e:=(hc H4).ap _ h|with_reducible have e:=(hc H4).ap (_,_) h|with_reducible have e:=(hc H5).ap () h|with_reducible have e:=(hc H5).ap _ h|with_reducible have e:=(hc H5).ap (_,_) h|with_reducible have e:=(hc H5).ap (_,_,_) h|with_reducible have e:=(hc H6).ap () h|with_reducible have e:=(hc H6).ap _ h|with_reducible have e:=(hc H6).ap (_,_) h|with_reducible have e:=(hc H7).ap () h|with_reducible have e:=(hc H7).ap _ h|with_reducible have e:=(hc H7).ap (_,_) h|with_reducible have e:=(hc H8).ap _ h|with_reducible have e:=(hc H8).ap (_,_) h|with_reducible have e:=(hc H9).ap _ h|with_reducible have e:=(hc H9).ap (_,_,_,_) h|with_reducible have e:=(hc H10).ap _ h|with_reducible have e:=(hc H10).ap (_,_) h|with_reducible have e:=(hc H11).ap (_,_) h|with_reducible have e:=(hc H12).ap () h|with_reducible have e:=(hc H13).ap _ h|with_reducible have e:=(hc H14).ap _ h|with_reducible have e:=(hc H15).ap _ h|with_reducible have e:=(hc H16).ap _ h);try simp only[NN,NT,LN,simprocAttr,DT]at e)|(with_reducible refine J.some ?_;exact Jw)|(with_reducible refine J.gi ?_;refine Jg ?_;first|with_reducible refine J.asw (λh k=> ?_) (λh k=> ?_)|with_reducible refine J.asv (λh k=> ?_) (λh k=> ?_)|with_reducible refine J.asu (λh k l=> ?_) (λh=> ?_)|with_reducible refine J.ass (λh=> ?_) (λh=> ?_)|with_reducible refine J.ast (λh=> ?_) (λh=> ?_))|(first|with_reducible refine J.hd (W1.eq_1 ..) ?_ |with_reducible refine J.hd (W2.eq_1 ..) ?_ |with_reducible refine J.hd (W3.eq_1 ..) ?_ |with_reducible refine J.hd (W4.eq_1 ..) ?_ |with_reducible refine J.hd (W5.eq_1 ..) ?_ |with_reducible refine J.hd (W6.eq_1 ..) ?_ |with_reducible refine J.hd (W7.eq_1 ..) ?_)|(with_reducible refine J.gj ?_;first|(first|(refine J.pO j1 rfl (by intro;conv=>lhs;simp (disch:=first|exact Zd|fail) only[j1,ZN,simprocAttr]) (by intro;conv=>lhs;simp (disch:=first|exact Zd|fail) only[j1,ZN,simprocAttr]) (λt=>J.hd (k1.eq_1 ..) ?_) (λa1=> ?_);all_goals try simp only[Prod.forall,jo]at a1)|(refine J.pO j2 rfl (by intro;conv=>lhs;simp (disch:=first|exact Zd|fail) only[j2,ZN,simprocAttr]) (by intro;conv=>lhs;simp (disch:=first|exact Zd|fail) only[j2,ZN,simprocAttr]) (λt=>J.hd (k2.eq_1 ..) ?_) (λa2=> ?_);all_goals try simp only[Prod.forall,jo]at a2)|(refine J.pO j3 rfl (by intro;conv=>lhs;simp (disch:=first|exact Zd|fail) only[j3,ZN,simprocAttr]) (by intro;conv=>lhs;simp (disch:=first|exact Zd|fail) only[j3,ZN,simprocAttr]) (λt=>J.hd (k3.eq_1 ..) ?_) (λa3=> ?_);all_goals try simp only[Prod.forall,jo]at a3)|(refine J.pO j4 rfl (by intro;conv=>lhs;simp (disch:=first|exact Zd|fail) only[j4,ZN,simprocAttr]) (by intro;conv=>lhs;simp (disch:=first|exact Zd|fail) only[j4,ZN,simprocAttr]) (λt=>J.hd (k4.eq_1 ..) ?_) (λa4=> ?_);all_goals try simp only[Prod.forall,jo]at a4)|(refine J.pO j5 rfl (by intro;conv=>lhs;simp (disch:=first|exact Zd|fail) only[j5,ZN,simprocAttr]) (by intro;conv=>lhs;simp (disch:=first|exact Zd|fail) only[j5,ZN,simprocAttr]) (λt=>J.hd (k5.eq_1 ..) ?_) (λa5=> ?_);all_goals try simp only[Prod.forall,jo]at a5)|(refine J.pO j6 rfl (by intro;conv=>lhs;simp (disch:=first|exact Zd|fail) only[j6,ZN,simprocAttr]) (by intro;conv=>lhs;simp (disch:=first|exact Zd|fail) only[j6,ZN,simprocAttr]) (λt=>J.hd (k6.eq_1 ..) ?_) (λa6=> ?_);all_goals try simp only[Prod.forall,jo]at a6)|(refine J.pO j7 rfl (by intro;conv=>lhs;simp (disch:=first|exact Zd|fail) only[j7,ZN,simprocAttr]) (by intro;conv=>lhs;simp (disch:=first|exact Zd|fail) only[j7,ZN,simprocAttr]) (λt=>J.hd (k7.eq_1 ..) ?_) (λa7=> ?_);all_goals try simp only[Prod.forall,jo]at a7)|refine J.sqj ?_ |refine J.rqj ?_)|(refine Jn ?_;first|(refine J.pO j1 rfl (by intro;conv=>lhs;simp (disch:=first|exact Zd|fail) only[j1,ZN,simprocAttr]) (by intro;conv=>lhs;simp (disch:=first|exact Zd|fail) only[j1,ZN,simprocAttr]) (λt=>J.hd (k1.eq_1 ..) ?_) (λa1=> ?_);all_goals try simp only[Prod.forall,jo]at a1)|(refine J.pO j2 rfl (by intro;conv=>lhs;simp (disch:=first|exact Zd|fail) only[j2,ZN,simprocAttr]) (by intro;conv=>lhs;simp (disch:=first|exact Zd|fail) only[j2,ZN,simprocAttr]) (λt=>J.hd (k2.eq_1 ..) ?_) (λa2=> ?_);all_goals try simp only[Prod.forall,jo]at a2)|(refine J.pO j3 rfl (by intro;conv=>lhs;simp (disch:=first|exact Zd|fail) only[j3,ZN,simprocAttr]) (by intro;conv=>lhs;simp (disch:=first|exact Zd|fail) only[j3,ZN,simprocAttr]) (λt=>J.hd (k3.eq_1 ..) ?_) (λa3=> ?_);all_goals try simp only[Prod.forall,jo]at a3)|(refine J.pO j4 rfl (by intro;conv=>lhs;simp (disch:=first|exact Zd|fail) only[j4,ZN,simprocAttr]) (by intro;conv=>lhs;simp (disch:=first|exact Zd|fail) only[j4,ZN,simprocAttr]) (λt=>J.hd (k4.eq_1 ..) ?_) (λa4=> ?_);all_goals try simp only[Prod.forall,jo]at a4)|(refine J.pO j5 rfl (by intro;conv=>lhs;simp (disch:=first|exact Zd|fail) only[j5,ZN,simprocAttr]) (by intro;conv=>lhs;simp (disch:=first|exact Zd|fail) only[j5,ZN,simprocAttr]) (λt=>J.hd (k5.eq_1 ..) ?_) (λa5=> ?_);all_goals try simp only[Prod.forall,jo]at a5)|(refine J.pO j6 rfl (by intro;conv=>lhs;simp (disch:=first|exact Zd|fail) only[j6,ZN,simprocAttr]) (by intro;conv=>lhs;simp (disch:=first|exact Zd|fail) only[j6,ZN,simprocAttr]) (λt=>J.hd (k6.eq_1 ..) ?_) (λa6=> ?_);all_goals try simp only[Prod.forall,jo]at a6)|(refine J.pO j7 rfl (by intro;conv=>lhs;simp (disch:=first|exact Zd|fail) only[j7,ZN,simprocAttr]) (by intro;conv=>lhs;simp (disch:=first|exact Zd|fail) only[j7,ZN,simprocAttr]) (λt=>J.hd (k7.eq_1 ..) ?_) (λa7=> ?_);all_goals try simp only[Prod.forall,jo]at a7)|refine J.sqj ?_ |refine J.rqj ?_))|(with_reducible refine J.gk ?_;first|(first|(refine J.pI q1 (by intro;conv=>lhs;simp (disch:=first|exact Zd|fail) only[q1,ZN,simprocAttr]) (by intro;conv=>lhs;simp (disch:=first|exact Zd|fail) only[q1,ZN,simprocAttr]) (λt=>J.hd (c1.eq_1 ..) ?_) (λa1 b1=>J.goB rfl ?_);all_goals try simp only[Prod.forall,jo]at a1 b1)|(refine J.pI q2 (by intro;conv=>lhs;simp (disch:=first|exact Zd|fail) only[q2,ZN,simprocAttr]) (by intro;conv=>lhs;simp (disch:=first|exact Zd|fail) only[q2,ZN,simprocAttr]) (λt=>J.hd (c2.eq_1 ..) ?_) (λa2 b2=>J.goB rfl ?_);all_goals try simp only[Prod.forall,jo]at a2 b2)|(refine J.pI q3 (by intro;conv=>lhs;simp (disch:=first|exact Zd|fail) only[q3,ZN,simprocAttr]) (by intro;conv=>lhs;simp (disch:=first|exact Zd|fail) only[q3,ZN,simprocAttr]) (λt=>J.hd (c3.eq_1 ..) ?_) (λa3 b3=>J.goB rfl ?_);all_goals try simp only[Prod.forall,jo]at a3 b3)|(refine J.pI q4 (by intro;conv=>lhs;simp (disch:=first|exact Zd|fail) only[q4,ZN,simprocAttr]) (by intro;conv=>lhs;simp (disch:=first|exact Zd|fail) only[q4,ZN,simprocAttr]) (λt=>J.hd (c4.eq_1 ..) ?_) (λa4 b4=>J.goB rfl ?_);all_goals try simp only[Prod.forall,jo]at a4 b4)|(refine J.pI q5 (by intro;conv=>lhs;simp (disch:=first|exact Zd|fail) only[q5,ZN,simprocAttr]) (by intro;conv=>lhs;simp (disch:=first|exact Zd|fail) only[q5,ZN,simprocAttr]) (λt=>J.hd (c5.eq_1 ..) ?_) (λa5 b5=>J.goB rfl ?_);all_goals try simp only[Prod.forall,jo]at a5 b5)|(refine J.pI q6 (by intro;conv=>lhs;simp (disch:=first|exact Zd|fail) only[q6,ZN,simprocAttr]) (by intro;conv=>lhs;simp (disch:=first|exact Zd|fail) only[q6,ZN,simprocAttr]) (λt=>J.hd (c6.eq_1 ..) ?_) (λa6 b6=>J.goB rfl ?_);all_goals try simp only[Prod.forall,jo]at a6 b6)|(refine J.pI q7 (by intro;conv=>lhs;simp (disch:=first|exact Zd|fail) only[q7,ZN,simprocAttr]) (by intro;conv=>lhs;simp (disch:=first|exact Zd|fail) only[q7,ZN,simprocAttr]) (λt=>J.hd (c7.eq_1 ..) ?_) (λa7 b7=>J.goB rfl ?_);all_goals try simp only[Prod.forall,jo]at a7 b7)|refine J.sqc ?_ |refine J.rqc ?_)|(refine Jk ?_;first|(refine J.pI q1 (by intro;conv=>lhs;simp (disch:=first|exact Zd|fail) only[q1,ZN,simprocAttr]) (by intro;conv=>lhs;simp (disch:=first|exact Zd|fail) only[q1,ZN,simprocAttr]) (λt=>J.hd (c1.eq_1 ..) ?_) (λa1 b1=>J.goB rfl ?_);all_goals try simp only[Prod.forall,jo]at a1 b1)|(refine J.pI q2 (by intro;conv=>lhs;simp (disch:=first|exact Zd|fail) only[q2,ZN,simprocAttr]) (by intro;conv=>lhs;simp (disch:=first|exact Zd|fail) only[q2,ZN,simprocAttr]) (λt=>J.hd (c2.eq_1 ..) ?_) (λa2 b2=>J.goB rfl ?_);all_goals try simp only[Prod.forall,jo]at a2 b2)|(refine J.pI q3 (by intro;conv=>lhs;simp (disch:=first|exact Zd|fail) only[q3,ZN,simprocAttr]) (by intro;conv=>lhs;simp (disch:=first|exact Zd|fail) only[q3,ZN,simprocAttr]) (λt=>J.hd (c3.eq_1 ..) ?_) (λa3 b3=>J.goB rfl ?_);all_goals try simp only[Prod.forall,jo]at a3 b3)|(refine J.pI q4 (by intro;conv=>lhs;simp (disch:=first|exact Zd|fail) only[q4,ZN,simprocAttr]) (by intro;conv=>lhs;simp (disch:=first|exact Zd|fail) only[q4,ZN,simprocAttr]) (λt=>J.hd (c4.eq_1 ..) ?_) (λa4 b4=>J.goB rfl ?_);all_goals try simp only[Prod.forall,jo]at a4 b4)|(refine J.pI q5 (by intro;conv=>lhs;simp (disch:=first|exact Zd|fail) only[q5,ZN,simprocAttr]) (by intro;conv=>lhs;simp (disch:=first|exact Zd|fail) only[q5,ZN,simprocAttr]) (λt=>J.hd (c5.eq_1 ..) ?_) (λa5 b5=>J.goB rfl ?_);all_goals try simp only[Prod.forall,jo]at a5 b5)|(refine J.pI q6 (by intro;conv=>lhs;simp (disch:=first|exact Zd|fail) only[q6,ZN,simprocAttr]) (by intro;conv=>lhs;simp (disch:=first|exact Zd|fail) only[q6,ZN,simprocAttr]) (λt=>J.hd (c6.eq_1 ..) ?_) (λa6 b6=>J.goB rfl ?_);all_goals try simp only[Prod.forall,jo]at a6 b6)|(refine J.pI q7 (by intro;conv=>lhs;simp (disch:=first|exact Zd|fail) only[q7,ZN,simprocAttr]) (by intro;conv=>lhs;simp (disch:=first|exact Zd|fail) only[q7,ZN,simprocAttr]) (λt=>J.hd (c7.eq_1 ..) ?_) (λa7 b7=>J.goB rfl ?_);all_goals try simp only[Prod.forall,jo]at a7 b7)|refine J.sqc ?_ |refine J.rqc ?_))|(with_reducible refine J.gl ?_;first|(first|refine J.pR m1 rfl (by intro;conv=>lhs;simp (disch:=first|exact Zd|fail) only[m1,ZN,simprocAttr]) (by intro;conv=>lhs;simp (disch:=first|exact Zd|fail) only[m1,ZN,simprocAttr]) Zx Zx (λnext k n s=>J.hd (L1.eq_1 ..) ?_)|refine J.pR m2 rfl (by intro;conv=>lhs;simp (disch:=first|exact Zd|fail) only[m2,ZN,simprocAttr]) (by intro;conv=>lhs;simp (disch:=first|exact Zd|fail) only[m2,ZN,simprocAttr]) Zx Zx (λnext k n s=>J.hd (L2.eq_1 ..) ?_)|refine J.pR m3 rfl (by intro;conv=>lhs;simp (disch:=first|exact Zd|fail) only[m3,ZN,simprocAttr]) (by intro;conv=>lhs;simp (disch:=first|exact Zd|fail) only[m3,ZN,simprocAttr]) Zx Zx (λnext k n s=>J.hd (L3.eq_1 ..) ?_)|refine J.pR m4 rfl (by intro;conv=>lhs;simp (disch:=first|exact Zd|fail) only[m4,ZN,simprocAttr]) (by intro;conv=>lhs;simp (disch:=first|exact Zd|fail) only[m4,ZN,simprocAttr]) Zx Zx (λnext k n s=>J.hd (L4.eq_1 ..) ?_)|refine J.pR m5 rfl (by intro;conv=>lhs;simp (disch:=first|exact Zd|fail) only[m5,ZN,simprocAttr]) (by intro;conv=>lhs;simp (disch:=first|exact Zd|fail) only[m5,ZN,simprocAttr]) Zx Zx (λnext k n s=>J.hd (L5.eq_1 ..) ?_)|refine J.pR m6 rfl (by intro;conv=>lhs;simp (disch:=first|exact Zd|fail) only[m6,ZN,simprocAttr]) (by intro;conv=>lhs;simp (disch:=first|exact Zd|fail) only[m6,ZN,simprocAttr]) Zx Zx (λnext k n s=>J.hd (L6.eq_1 ..) ?_)|refine J.pR m7 rfl (by intro;conv=>lhs;simp (disch:=first|exact Zd|fail) only[m7,ZN,simprocAttr]) (by intro;conv=>lhs;simp (disch:=first|exact Zd|fail) only[m7,ZN,simprocAttr]) Zx Zx (λnext k n s=>J.hd (L7.eq_1 ..) ?_)|refine J.sql ?_ |refine J.rql ?_)|(refine Jl ?_;first|refine J.pR m1 rfl (by intro;conv=>lhs;simp (disch:=first|exact Zd|fail) only[m1,ZN,simprocAttr]) (by intro;conv=>lhs;simp (disch:=first|exact Zd|fail) only[m1,ZN,simprocAttr]) Zx Zx (λnext k n s=>J.hd (L1.eq_1 ..) ?_)|refine J.pR m2 rfl (by intro;conv=>lhs;simp (disch:=first|exact Zd|fail) only[m2,ZN,simprocAttr]) (by intro;conv=>lhs;simp (disch:=first|exact Zd|fail) only[m2,ZN,simprocAttr]) Zx Zx (λnext k n s=>J.hd (L2.eq_1 ..) ?_)|refine J.pR m3 rfl (by intro;conv=>lhs;simp (disch:=first|exact Zd|fail) only[m3,ZN,simprocAttr]) (by intro;conv=>lhs;simp (disch:=first|exact Zd|fail) only[m3,ZN,simprocAttr]) Zx Zx (λnext k n s=>J.hd (L3.eq_1 ..) ?_)|refine J.pR m4 rfl (by intro;conv=>lhs;simp (disch:=first|exact Zd|fail) only[m4,ZN,simprocAttr]) (by intro;conv=>lhs;simp (disch:=first|exact Zd|fail) only[m4,ZN,simprocAttr]) Zx Zx (λnext k n s=>J.hd (L4.eq_1 ..) ?_)|refine J.pR m5 rfl (by intro;conv=>lhs;simp (disch:=first|exact Zd|fail) only[m5,ZN,simprocAttr]) (by intro;conv=>lhs;simp (disch:=first|exact Zd|fail) only[m5,ZN,simprocAttr]) Zx Zx (λnext k n s=>J.hd (L5.eq_1 ..) ?_)|refine J.pR m6 rfl (by intro;conv=>lhs;simp (disch:=first|exact Zd|fail) only[m6,ZN,simprocAttr]) (by intro;conv=>lhs;simp (disch:=first|exact Zd|fail) only[m6,ZN,simprocAttr]) Zx Zx (λnext k n s=>J.hd (L6.eq_1 ..) ?_)|refine J.pR m7 rfl (by intro;conv=>lhs;simp (disch:=first|exact Zd|fail) only[m7,ZN,simprocAttr]) (by intro;conv=>lhs;simp (disch:=first|exact Zd|fail) only[m7,ZN,simprocAttr]) Zx Zx (λnext k n s=>J.hd (L7.eq_1 ..) ?_)|refine J.sql ?_ |refine J.rql ?_))|(refine Jg ?_;first|((with_reducible apply a1) <;> first|exact()|exact Zx)|((with_reducible apply a2) <;> first|exact()|exact Zx)|((with_reducible apply a3) <;> first|exact()|exact Zx)|((with_reducible apply a4) <;> first|exact()|exact Zx)|((with_reducible apply a5) <;> first|exact()|exact Zx)|((with_reducible apply a6) <;> first|exact()|exact Zx)|((with_reducible apply a7) <;> first|exact()|exact Zx)|((with_reducible apply b1) <;> first|exact()|exact Zx)|((with_reducible apply b2) <;> first|exact()|exact Zx)|((with_reducible apply b3) <;> first|exact()|exact Zx)|((with_reducible apply b4) <;> first|exact()|exact Zx)|((with_reducible apply b5) <;> first|exact()|exact Zx)|((with_reducible apply b6) <;> first|exact()|exact Zx)|((with_reducible apply b7) <;> first|exact()|exact Zx)|refine J.auY (by assumption) Zx Zx)):p:=h
theorem pG(fu:Nat)(C:bG)(ci:aC->bz)(hci: ∀ cp,aK prog cp->eH prog (ci cp))(D:TD){f:FuncId}{fn:Func}{c:Code}(hf:prog.funcs[f]? =some fn)(rs:List ResultVar)(ts:List TypeId)(l:List (Ct prog))(ids:List Nat){β:Type}{s:Option β}{enc:β->AV}{args:List AV}(j: ∀ cp,Hits cp l->J (go prog C cp (ci cp) 0 [] D fu (fin prog rs ts) c (bW 0 args) [] []) s enc)(hb:fn.body=some c:=by exact rfl)(hr:fn.results.toList=rs:=by exact rfl)(ht:fn.resultTypes.toList=ts:=by exact rfl)(hn:(fn.name== "runtime.NumGoroutine")=false:=by kernel_rfl)(hc:codeOk ⟨fn.ntmps,none,[]⟩ D c=true:=by kernel_rfl)(hl:l.map Ct.f=ids:=by exact rfl)(hd:ids.Nodup:=by decide)(b:β)(h:s=some b):bH prog f args (enc b):=by subst hr ht;exact acf mixed l hl hd (Ed hf hb hn hc) hci j h
theorem pT(fu:Nat)(D:TD){f:FuncId}{fn:Func}{c:Code}(hf:prog.funcs[f]? =some fn)(rs:List ResultVar)(ts:List TypeId)(l:List (Ct prog))(ids:List Nat){β:Type}{s:Option β}{enc:β->AV}{args:List AV}(j: ∀ cp,Hits cp l->J (go prog oQ cp fH 0 [] D fu (fin prog rs ts) c (bW 0 args) [] []) s enc)(hb:fn.body=some c:=by exact rfl)(hr:fn.results.toList=rs:=by exact rfl)(ht:fn.resultTypes.toList=ts:=by exact rfl)(hn:(fn.name== "runtime.NumGoroutine")=false:=by kernel_rfl)(hc:codeOk ⟨fn.ntmps,none,[]⟩ D c=true:=by kernel_rfl)(hl:l.map Ct.f=ids:=by exact rfl)(hd:ids.Nodup:=by decide)(b:β)(h:s=some b):bH prog f args (enc b):=by subst hr ht;exact acf mixed l hl hd (Ed hf hb hn hc) (λcp ok=>eY) j h
theorem zG(fu:Nat)(C:bG)(ci:aC->bz)(hci: ∀ cp,aK prog cp->eH prog (ci cp))(D:TD){f:FuncId}{fn:Func}{c:Code}(hf:prog.funcs[f]? =some fn)(rs:List ResultVar)(ts:List TypeId)(l:List (Ct prog))(ids:List Nat){β:Type}{s:Option β}{enc:β->AV}{args:List AV}(j: ∀ cp,Hits cp l->J (go prog C cp (ci cp) 0 [] D fu (Bi prog rs ts) c (bW 0 args) [] []) s enc)(hb:fn.body=some c:=by exact rfl)(hr:fn.results.toList=rs:=by exact rfl)(ht:fn.resultTypes.toList=ts:=by exact rfl)(hn:(fn.name== "runtime.NumGoroutine")=false:=by kernel_rfl)(hc:codeOk ⟨fn.ntmps,none,[]⟩ D c=true:=by kernel_rfl)(hl:l.map Ct.f=ids:=by exact rfl)(hd:ids.Nodup:=by decide)(b:β)(h:s=some b):bH prog f args (enc b):=by subst hr ht;exact ace mixed l hl hd (Ed hf hb hn hc) hci j h
theorem uA(fu:Nat)(D:TD){f:FuncId}{fn:Func}{c:Code}(hf:prog.funcs[f]? =some fn)(rs:List ResultVar)(ts:List TypeId)(l:List (Ct prog))(ids:List Nat){β:Type}{s:Option β}{enc:β->AV}{args:List AV}(j: ∀ cp,Hits cp l->J (go prog oQ cp fH 0 [] D fu (Bi prog rs ts) c (bW 0 args) [] []) s enc)(hb:fn.body=some c:=by exact rfl)(hr:fn.results.toList=rs:=by exact rfl)(ht:fn.resultTypes.toList=ts:=by exact rfl)(hn:(fn.name== "runtime.NumGoroutine")=false:=by kernel_rfl)(hc:codeOk ⟨fn.ntmps,none,[]⟩ D c=true:=by kernel_rfl)(hl:l.map Ct.f=ids:=by exact rfl)(hd:ids.Nodup:=by decide)(b:β)(h:s=some b):bH prog f args (enc b):=by subst hr ht;exact ace mixed l hl hd (Ed hf hb hn hc) (λcp ok=>eY) j h
noncomputable abbrev QT(fu:Nat):Cm prog Int Int:=⟨77,fun t=>[.v (.int .i64 t)],xK fu,fun r=> .v (.int .i64 r),by
 rintro x1
 refine pT fu Aw.Jy Tryz.func77 [.tmp 2] [3] [] [] (λcp H=> ?_)
 unfold xK
 have z0:=Da (aJ Aw.Jy.eq_1)
 exact Wk,Zi⟩
noncomputable abbrev XM(fu:Nat):Cm prog Int Bool:=⟨34,fun t=>[.v (.int .i64 t)],Dh fu,fun r=> .v (.bool r),by
 rintro x1
 refine pT fu Aw.Jb Tryz.func34 [.tmp 2] [4] [(QT fu).ct] [77] (λcp H=> ?_)
 obtain⟨H1, -⟩:=H
 unfold Dh
 have z0:=Da (aJ Aw.Jb.eq_1)
 exact Wk,Zi⟩
def qQ:=Da (aJ Aw.yJ.eq_1)
theorem i173:aN prog 173 yJ=some ⟨az Tryz.f173,[.tmp 4],[3]⟩:=fA Tryz.func173
def JW:Int->AV:=λr=> .v (.int .i64 r)
set_option maxHeartbeats 20000000 in
theorem aAC(cp:aC)(fu:Nat)(x1:List Int)(p1:Int→Option Bool)(fv_p1:FuncId)(ca_p1:List AV)(cap_p1:bK ca_p1)(hp_p1: ∀ (y0:Int) r,p1 y0=some r→cp fv_p1 ((.v (.int .i64 y0))::ca_p1)=some (.v (.bool r))):J (go prog oQ cp fH 0 [] yJ fu (fin prog [.tmp 4] [3]) (az Tryz.f173) (bW 0 [.arr x1.length (lm (ik .i64) x1),.fn fv_p1 [] ca_p1]) [] []) (lL fu x1 p1) JW:=by
 unfold lL JW
 have da:=qQ
 have c4_p1:=λg=>(cap_p1.1 g).1;have c3_p1:=λg=>(cap_p1.1 g).2.1;have b4_p1:=λg=>(cap_p1.1 g).2.2.1;have b3_p1:=λg=>(cap_p1.1 g).2.2.2;have nm_p1:=cap_p1.2
 conv=>arg 1;simp (disch:=first|exact Zd|fail) only[az,Tryz.f173,ZZ,qQ,simprocAttr,c4_p1,c3_p1,b4_p1,b3_p1,nm_p1]
 refine J.eq gG ?_
 conv=>arg 1;simp (disch:=first|exact Zd|fail) only[ZZ,qQ,simprocAttr,c4_p1,c3_p1,b4_p1,b3_p1,nm_p1]
 unfold lL.W1
 refine J.loop (λ(s:Int)=>([(0,.arr x1.length (lm (ik .i64) x1)),(1,.fn fv_p1 [] ca_p1),(7,.v (.int .i64 (x1.length:Int))),(8,.v (.int .i64 s))],[])) (λnext s=>lL.L1 fu p1 x1 next s) (s0:=0) ?_ ?_ ?_
 ·exact Ze
 ·exact Zh
 rintro nx1 k1 hn1 x4
 show J _ (lL.L1 fu p1 x1 nx1 x4) _
 unfold lL.L1
 conv=>arg 1;simp (disch:=first|exact Zd|fail) only[ZZ,qQ,simprocAttr,c4_p1,c3_p1,b4_p1,b3_p1,nm_p1]
 refine J.eq gG ?_
 conv=>arg 1;simp (disch:=first|exact Zd|fail) only[ZZ,qQ,simprocAttr,c4_p1,c3_p1,b4_p1,b3_p1,nm_p1]
 refine J.ite (λh1=> ?_) (λh1=> ?_)
 ·have h1':=decide_eq_true h1
  have h1'':decide ((x1.length:Int)<=x4)=false:=decide_eq_false ae
  conv=>arg 1;simp (disch:=first|exact Zd|fail) only[ZZ,qQ,simprocAttr,c4_p1,c3_p1,b4_p1,b3_p1,nm_p1,h1'',h1']
  refine J.eq gq ?_
  refine J.eq gG ?_
  refine J.at λx7 h2 h3 h4=> ?_
  refine J.bind λx8 h5=> ?_
  have e_h5:=hp_p1 _ _ h5
  try simp only[NN,NT,LN,simprocAttr,DT]at e_h5
  conv=>arg 1;simp (disch:=first|exact Zd|fail) only[ZZ,qQ,simprocAttr,c4_p1,c3_p1,b4_p1,b3_p1,nm_p1,h1'',h1',fD h4,e_h5]
  refine J.ite (λh6=> ?_) (λh6=> ?_)
  ·have h6':x8=true:=h6
   refine J.some ?_
   simp (maxSteps:=20000000) (disch:=first|exact Zd|fail) only[ZZ,qQ,simprocAttr,c4_p1,c3_p1,b4_p1,b3_p1,nm_p1,h1'',h1',fD h4,e_h5,h6',FN]
  ·have h6':x8=false:=Bool.eq_false_iff.2 h6
   conv=>arg 1;simp (disch:=first|exact Zd|fail) only[ZZ,qQ,simprocAttr,c4_p1,c3_p1,b4_p1,b3_p1,nm_p1,h1'',h1',fD h4,e_h5,h6']
   refine J.eq gq ?_
   conv=>arg 1;simp (disch:=first|exact Zd|fail) only[ZZ,qQ,simprocAttr,c4_p1,c3_p1,b4_p1,b3_p1,nm_p1,h1'',h1',fD h4,e_h5,h6']
   refine J.next (s:=wk .i64 (x4+1)) hn1 ?_ ?_
   ·exact Ze
   ·exact Zh
 ·have h1':=decide_eq_false h1
  have h1'':decide ((x1.length:Int)<=x4)=true:=decide_eq_true ae
  conv=>arg 1;simp (disch:=first|exact Zd|fail) only[ZZ,qQ,simprocAttr,c4_p1,c3_p1,b4_p1,b3_p1,nm_p1,h1'',h1']
  refine J.eq gq ?_
  refine J.some ?_
  simp (maxSteps:=20000000) (disch:=first|exact Zd|fail) only[ZZ,qQ,simprocAttr,c4_p1,c3_p1,b4_p1,b3_p1,nm_p1,h1'',h1',FN]
noncomputable def t173(fu:Nat)(x1:List Int)(p1:Int->Option Bool)(fv_p1:FuncId)(ca_p1:List AV):aC:=iI fv_p1 (iU (λ(t:Int)=>((.v (.int .i64 t))::ca_p1:List AV)) (λt=>p1 t) (λr=> .v (.bool r))) (nX)
theorem azE(fu:Nat)(x1:List Int)(p1:Int->Option Bool)(fv_p1:FuncId)(ca_p1:List AV)(cap_p1:bK ca_p1)(hp_p1: ∀ (y0:Int) r,p1 y0=some r->bH prog fv_p1 ((.v (.int .i64 y0))::ca_p1) (.v (.bool r))):aK prog (t173 fu x1 p1 fv_p1 ca_p1):=jO (oU) (jL (λt b h=>hp_p1 t b h))
theorem avo(fu:Nat)(x1:List Int)(p1:Int→Option Bool)(fv_p1:FuncId)(ca_p1:List AV)(cap_p1:bK ca_p1)(hp_p1: ∀ (y0:Int) r,p1 y0=some r→bH prog fv_p1 ((.v (.int .i64 y0))::ca_p1) (.v (.bool r)))(r)(h:lL fu x1 p1=some r):bH prog 173 [.arr x1.length (lm (ik .i64) x1),.fn fv_p1 [] ca_p1] (JW r):=
  qg mixed (cp:=t173 fu x1 p1 fv_p1 ca_p1) (azE fu x1 p1 fv_p1 ca_p1 cap_p1 hp_p1) eY i173 (aAC _ fu x1 p1 fv_p1 ca_p1 cap_p1 (λy0 r h=>jM (jK (a:=y0) (by intro a b h;first|(exact rfl)|(simp only[iY,IJ]at h;first|exact h|(simp_all [Prod.ext_iff]))) h))) h
def Zo:=Da (aJ Aw.yS.eq_1)
theorem i78:aN prog 78 yS=some ⟨az Tryz.f78,[.tmp 4],[4]⟩:=fA Tryz.func78
def D8:Bool->AV:=λr=> .v (.bool r)
set_option maxHeartbeats 20000000 in
theorem w78(cp:aC)(fu:Nat)(x1:List Int)(p1:Int→Option Bool)(fv_p1:FuncId)(ca_p1:List AV)(cap_p1:bK ca_p1)(hp_p1: ∀ (y0:Int) r,p1 y0=some r→cp fv_p1 ((.v (.int .i64 y0))::ca_p1)=some (.v (.bool r)))(H173_0: ∀ (a0:List Int) r,lL fu a0 p1=some r→cp 173 [.arr a0.length (lm (ik .i64) a0),.fn fv_p1 [] ca_p1]=some (.v (.int .i64 r))):J (go prog oQ cp fH 0 [] yS fu (fin prog [.tmp 4] [4]) (az Tryz.f78) (bW 0 [.arr x1.length (lm (ik .i64) x1),.fn fv_p1 [] ca_p1]) [] []) (kY fu x1 p1) D8:=by
 unfold kY D8
 have da:=Zo
 have c4_p1:=λg=>(cap_p1.1 g).1;have c3_p1:=λg=>(cap_p1.1 g).2.1;have b4_p1:=λg=>(cap_p1.1 g).2.2.1;have b3_p1:=λg=>(cap_p1.1 g).2.2.2;have nm_p1:=cap_p1.2
 refine J.bind λx2 h1=> ?_
 have e_h1:=H173_0 _ _ h1
 try simp only[NN,NT,LN,simprocAttr,DT]at e_h1
 refine J.some ?_
 simp (maxSteps:=20000000) (disch:=first|exact Zd|fail) only[az,Tryz.f78,ZZ,Zo,simprocAttr,c4_p1,c3_p1,b4_p1,b3_p1,nm_p1,e_h1,FN]
noncomputable def t78(fu:Nat)(x1:List Int)(p1:Int->Option Bool)(fv_p1:FuncId)(ca_p1:List AV):aC:=iI 173 (iU (λ(t:List Int)=>([.arr t.length (lm (ik .i64) t),.fn fv_p1 [] ca_p1]:List AV)) (λt=>lL fu t p1) JW) (iI fv_p1 (iU (λ(t:Int)=>((.v (.int .i64 t))::ca_p1:List AV)) (λt=>p1 t) (λr=> .v (.bool r))) (nX))
theorem azL(fu:Nat)(x1:List Int)(p1:Int->Option Bool)(fv_p1:FuncId)(ca_p1:List AV)(cap_p1:bK ca_p1)(hp_p1: ∀ (y0:Int) r,p1 y0=some r->bH prog fv_p1 ((.v (.int .i64 y0))::ca_p1) (.v (.bool r))):aK prog (t78 fu x1 p1 fv_p1 ca_p1):=jO (jO (oU) (jL (λt b h=>hp_p1 t b h))) (jL (λt b h=>avo fu t p1 fv_p1 ca_p1 cap_p1 hp_p1 b h))
theorem EU(fu:Nat)(x1:List Int)(p1:Int→Option Bool)(fv_p1:FuncId)(ca_p1:List AV)(cap_p1:bK ca_p1)(hp_p1: ∀ (y0:Int) r,p1 y0=some r→bH prog fv_p1 ((.v (.int .i64 y0))::ca_p1) (.v (.bool r)))(r)(h:kY fu x1 p1=some r):bH prog 78 [.arr x1.length (lm (ik .i64) x1),.fn fv_p1 [] ca_p1] (D8 r):=
  qg mixed (cp:=t78 fu x1 p1 fv_p1 ca_p1) (azL fu x1 p1 fv_p1 ca_p1 cap_p1 hp_p1) eY i78 (w78 _ fu x1 p1 fv_p1 ca_p1 cap_p1 (λy0 r h=>EX (λhfv=>zt (by intro t h;simp at h)) (jM (jK (a:=y0) (by intro a b h;first|(exact rfl)|(simp only[iY,IJ]at h;first|exact h|(simp_all [Prod.ext_iff]))) h))) (λa0 r h=>jM (jK (a:=a0) (by intro a b h;first|(exact rfl)|(simp only[iY,IJ]at h;first|exact h|(simp_all [Prod.ext_iff]))) h))) h
noncomputable abbrev akf(fu:Nat):Cm prog Int Bool:=⟨79,fun t=>[.v (.int .i64 t)],zO fu,fun r=> .v (.bool r),by
 rintro x1
 refine pT fu Aw.Jz Tryz.func79 [.tmp 2] [4] [] [] (λcp H=> ?_)
 unfold zO
 have z0:=Da (aJ Aw.Jz.eq_1)
 exact Wk,Zi⟩
noncomputable abbrev aki(fu:Nat):Cm prog Int Bool:=⟨80,fun t=>[.v (.int .i64 t)],zQ fu,fun r=> .v (.bool r),by
 rintro x1
 refine pT fu Aw.JA Tryz.func80 [.tmp 2] [4] [] [] (λcp H=> ?_)
 unfold zQ
 have z0:=Da (aJ Aw.JA.eq_1)
 exact Wk,Zi⟩
def slices_Index_int.m1:LJ 1 4 Unit Int:=⟨λr s e=>[(0,er e 0),(1,er e 1),(7,er e 7),(8,.v (.int .i64 s))],λr s h=>[]⟩
open slices_Index_int in
noncomputable abbrev ajk(fu:Nat):Cm prog ((List Int)×Int) Int:=⟨174,fun t=>[.arr t.1.length (lm (ik .i64) t.1),.v (.int .i64 t.2)],fun t=>slices_Index_int fu t.1 t.2,fun r=> .v (.int .i64 r),by
 rintro⟨x1,x2⟩
 refine pT fu Aw.Iw Tryz.func174 [.tmp 4] [3] [] [] (λcp H=> ?_)
 unfold slices_Index_int
 have z0:=Da (aJ Aw.Iw.eq_1)
 exact Wk,Zi⟩
noncomputable abbrev Hy(fu:Nat):Cm prog ((List Int)×Int) Bool:=⟨81,fun t=>[.arr t.1.length (lm (ik .i64) t.1),.v (.int .i64 t.2)],fun t=>slices_Contains_int fu t.1 t.2,fun r=> .v (.bool r),by
 rintro⟨x1,x2⟩
 refine pT fu Aw.JB Tryz.func81 [.tmp 4] [4] [(ajk fu).ct] [174] (λcp H=> ?_)
 obtain⟨H1, -⟩:=H
 unfold slices_Contains_int
 have z0:=Da (aJ Aw.JB.eq_1)
 exact Wk,Zi⟩
def wR:=Da (aJ Aw.yP.eq_1)
theorem i35:aN prog 35 yP=some ⟨az Tryz.f35,[.tmp 2,.tmp 3],[3,34]⟩:=fA Tryz.func35
def e35:(Int×Int)->AV:=λr=> .tuple [.v (.int .i64 r.1),.v (.int .i64 r.2)]
set_option maxHeartbeats 20000000 in
theorem w35(cp:aC)(fu:Nat)(x1:List Int)(H78_0: ∀ (a0:List Int) r,kY fu a0 (fun y0=>zO fu y0)=some r→cp 78 [.arr a0.length (lm (ik .i64) a0),.fn 79 [] []]=some (.v (.bool r)))(H78_1: ∀ (a0:List Int) r,kY fu a0 (fun y0=>zQ fu y0)=some r→cp 78 [.arr a0.length (lm (ik .i64) a0),.fn 80 [] []]=some (.v (.bool r)))(H81_0: ∀ (a0:List Int) (a1:Int) r,slices_Contains_int fu a0 a1=some r→cp 81 [.arr a0.length (lm (ik .i64) a0),.v (.int .i64 a1)]=some (.v (.bool r))):J (go prog oQ cp fH 0 [] yP fu (fin prog [.tmp 2,.tmp 3] [3,34]) (az Tryz.f35) (bW 0 [.arr x1.length (lm (ik .i64) x1)]) [] []) (eF fu x1) e35:=by
 unfold eF e35
 have da:=wR
 conv=>arg 1;simp (disch:=first|exact Zd|fail) only[az,Tryz.f35,ZZ,wR,simprocAttr]
 refine J.eq gG ?_
 refine J.bind λx2 h1=> ?_
 have e_h1:=H78_0 _ _ h1
 try simp only[NN,NT,LN,simprocAttr,DT]at e_h1
 refine Jc ?_
 refine J.ite (λh2=> ?_) (λh2=> ?_)
 ·have h2':x2=true:=h2
  refine J.some ?_
  exact Js
 ·have h2':x2=false:=Bool.eq_false_iff.2 h2
  refine Jc ?_
  refine J.eq gq ?_
  refine J.Ls (λ(t:Unit)=>([(0,.arr x1.length (lm (ik .i64) x1))],[])) (λt=>eF.k1 fu x1) ?_ (λhj1=> ?_)
  ·rintro⟨⟩
   show J _ (eF.k1 fu x1) _
   unfold eF.k1
   refine J.eq gG ?_
   refine J.bind λx3 h3=> ?_
   have e_h3:=H81_0 _ _ _ h3
   try simp only[NN,NT,LN,simprocAttr,DT]at e_h3
   refine Jc ?_
   refine J.ite (λh4=> ?_) (λh4=> ?_)
   ·have h4':x3=true:=h4
    refine J.some ?_
    exact Js
   ·have h4':x3=false:=Bool.eq_false_iff.2 h4
    refine Jc ?_
    refine J.eq gq ?_
    refine Jc ?_
    refine J.eq gG ?_
    refine Jc ?_
    unfold eF.W1
    refine J.loop (λ(s:Int×Int)=>([(4,.v (.int .i64 s.1)),(18,.arr x1.length (lm (ik .i64) x1)),(19,.v (.int .i64 (x1.length:Int))),(20,.v (.int .i64 s.2))],[])) (λnext s=>eF.L1 fu x1 (λx5 x6=>next (x5,x6)) s.1 s.2) (s0:=(1,0)) ?_ ?_ ?_
    ·exact Ze
    ·exact Zh
    rintro next k1 hn1 ⟨x5,x6⟩
    let nx1:Int->Int->Option (Int×Int):=(λx5 x6=>next (x5,x6))
    show J _ (eF.L1 fu x1 nx1 x5 x6) _
    unfold eF.L1
    refine Jc ?_
    refine J.eq gG ?_
    refine Jc ?_
    refine J.ite (λh5=> ?_) (λh5=> ?_)
    ·have h5':=decide_eq_true h5
     have h5'':decide ((x1.length:Int)<=x6)=false:=decide_eq_false ae
     refine Jc ?_
     refine J.eq gq ?_
     refine J.eq gG ?_
     refine J.at λx8 h6 h7 h8=> ?_
     conv=>arg 1;simp (disch:=first|exact Zd|fail) only[ZZ,wR,simprocAttr,e_h1,h2',e_h3,h4',h5'',h5',fD h8]
     refine J.eq gG ?_
     refine J.chk λh9=> ?_
     conv=>arg 1;simp (disch:=first|exact Zd|fail) only[ZZ,wR,simprocAttr,e_h1,h2',e_h3,h4',h5'',h5',fD h8]
     refine J.ite (λh10=> ?_) (λh10=> ?_)
     ·have h10':=decide_eq_true h10
      have h10'':decide (x8<=(wk .i64 (Int.tdiv 4096 x5)))=false:=decide_eq_false ae
      refine J.some ?_
      simp (maxSteps:=20000000) (disch:=first|exact Zd|fail) only[ZZ,wR,simprocAttr,e_h1,h2',e_h3,h4',h5'',h5',fD h8,h10'',h10',FN]
     ·have h10':=decide_eq_false h10
      have h10'':decide (x8<=(wk .i64 (Int.tdiv 4096 x5)))=true:=decide_eq_true ae
      conv=>arg 1;simp (disch:=first|exact Zd|fail) only[ZZ,wR,simprocAttr,e_h1,h2',e_h3,h4',h5'',h5',fD h8,h10'',h10']
      refine J.eq gq ?_
      conv=>arg 1;simp (disch:=first|exact Zd|fail) only[ZZ,wR,simprocAttr,e_h1,h2',e_h3,h4',h5'',h5',fD h8,h10'',h10']
      refine J.eq gq ?_
      conv=>arg 1;simp (disch:=first|exact Zd|fail) only[ZZ,wR,simprocAttr,e_h1,h2',e_h3,h4',h5'',h5',fD h8,h10'',h10']
      refine J.next (s:=(wk .i64 (x5*x8),wk .i64 (x6+1))) hn1 ?_ ?_
      ·exact Ze
      ·exact Zh
    ·have h5':=decide_eq_false h5
     have h5'':decide ((x1.length:Int)<=x6)=true:=decide_eq_true ae
     refine Jc ?_
     refine J.eq gq ?_
     refine J.some ?_
     exact Js
  ·refine J.hd dB ?_
   refine J.eq gG ?_
   refine Jc ?_
   refine J.ite (λh11=> ?_) (λh11=> ?_)
   ·have h11':=decide_eq_true h11
    have h11'':decide ((x1.length:Int)<=8)=false:=decide_eq_false ae
    refine Jc ?_
    refine J.eq gq ?_
    refine J.some ?_
    exact Js
   ·have h11':=decide_eq_false h11
    have h11'':decide ((x1.length:Int)<=8)=true:=decide_eq_true ae
    refine J.bind λx9 h12=> ?_
    have e_h12:=H78_1 _ _ h12
    try simp only[NN,NT,LN,simprocAttr,DT]at e_h12
    refine Jc ?_
    refine J.eq gq ?_
    refine Jc ?_
    refine J.ite (λh13=> ?_) (λh13=> ?_)
    ·have h13':x9=true:=h13
     refine J.some ?_
     exact Js
    ·have h13':x9=false:=Bool.eq_false_iff.2 h13
     refine Jc ?_
     refine J.S9 (t:=()) hj1 ?_ ?_
     ·exact Ze
     ·exact Zh
noncomputable def t35(fu:Nat):aC:=iI 78 (iU (λ(t:List Int)=>([.arr t.length (lm (ik .i64) t),.fn 79 [] []]:List AV)) (λt=>kY fu t (λy0=>zO fu y0)) D8) (iI 78 (iU (λ(t:List Int)=>([.arr t.length (lm (ik .i64) t),.fn 80 [] []]:List AV)) (λt=>kY fu t (λy0=>zQ fu y0)) D8) (iI 81 (iU (λ(t:(List Int)×Int)=>([.arr t.1.length (lm (ik .i64) t.1),.v (.int .i64 t.2)]:List AV)) (λt=>slices_Contains_int fu t.1 t.2) (λr=> .v (.bool r))) (nX)))
theorem azK(fu:Nat):aK prog (t35 fu):=jO (jO (jO (oU) (jL (λt b h=>(Hy fu).ok (t.1,t.2) b h))) (jL (λt b h=>EU fu t (λy0=>zQ fu y0) 80 [] bK.nil (λy0 r h=>(aki fu).ok y0 r h) b h))) (jL (λt b h=>EU fu t (λy0=>zO fu y0) 79 [] bK.nil (λy0 r h=>(akf fu).ok y0 r h) b h))
theorem avv(fu:Nat)(x1:List Int)(r)(h:eF fu x1=some r):bH prog 35 [.arr x1.length (lm (ik .i64) x1)] (e35 r):=
  qg mixed (cp:=t35 fu) (azK fu) eY i35 (w35 _ fu x1 (λa0 r h=>jM (jK (a:=a0) (by intro a b h;first|(exact rfl)|(simp only[iY,IJ]at h;first|exact h|(simp_all [Prod.ext_iff]))) h)) (λa0 r h=>MG (zt (by intro t h;simp at h)) (jM (jK (a:=a0) (by intro a b h;first|(exact rfl)|(simp only[iY,IJ]at h;first|exact h|(simp_all [Prod.ext_iff]))) h))) (λa0 a1 r h=>uz au (uz au (jM (jK (a:=(a0,a1)) (by intro a b h;first|(exact rfl)|(simp only[iY,IJ]at h;first|exact h|(simp_all [Prod.ext_iff]))) h))))) h
noncomputable abbrev pJ(fu:Nat):Cm prog (List Int) (Int×Int):=⟨35,λt=>[.arr t.length (lm (ik .i64) t)],λt=>eF fu t,λr=> .tuple [.v (.int .i64 r.1),.v (.int .i64 r.2)],λt b h=>avv fu t b h,Zi⟩
def jY.j1:LJ 1 24 Unit Int:=⟨λr t e=>[(1,er e 1),(3,er e 3),(5,.v (.int .i64 t))],λr t h=>[((0,1,0),hr h (0,1,0))]⟩
open jY in
noncomputable abbrev wJ(fu:Nat):Cm prog aj Int:=⟨17,fun t=>[.agg (bT t)],jY fu,fun r=> .v (.int .i64 r),by
 rintro x1
 refine pT fu Aw.Iu Tryz.func17 [.tmp 2] [34] [(XM fu).ct,(pJ fu).ct] [34,35] (λcp H=> ?_)
 obtain⟨H1,H2, -⟩:=H
 unfold jY
 have z0:=Da (aJ Aw.Iu.eq_1)
 exact Wk,Zi⟩
noncomputable abbrev akj(fu:Nat):Cm prog (List Int) (List Int):=⟨82,fun t=>[.arr t.length (lm (ik .i64) t)],Nz fu,fun r=> .fresh 1 r.length (lm (ik .i64) r),by
 rintro x1
 refine pT fu Aw.JC Tryz.func82 [.tmp 2] [22] [] [] (λcp H=> ?_)
 unfold Nz
 have z0:=Da (aJ Aw.JC.eq_1)
 exact Wk,Zi⟩
noncomputable abbrev akk(fu:Nat):Cm prog (List Int) (List Int):=⟨83,fun t=>[.arr t.length (lm (ik .u32) t)],ND fu,fun r=> .fresh 1 r.length (lm (ik .u32) r),by
 rintro x1
 refine pT fu Aw.JD Tryz.func83 [.tmp 2] [24] [] [] (λcp H=> ?_)
 unfold ND
 have z0:=Da (aJ Aw.JD.eq_1)
 exact Wk,Zi⟩
noncomputable abbrev akl(fu:Nat):Cm prog (List Int) (List Int):=⟨84,fun t=>[.arr t.length (lm (ik .i64) t)],NC fu,fun r=> .fresh 1 r.length (lm (ik .i64) r),by
 rintro x1
 refine pT fu Aw.JE Tryz.func84 [.tmp 2] [25] [] [] (λcp H=> ?_)
 unfold NC
 have z0:=Da (aJ Aw.JE.eq_1)
 exact Wk,Zi⟩
noncomputable abbrev akm(fu:Nat):Cm prog (List Bool) (List Bool):=⟨85,fun t=>[.arr t.length (lm (bk) t)],Ny fu,fun r=> .fresh 1 r.length (lm (bk) r),by
 rintro x1
 refine pT fu Aw.JF Tryz.func85 [.tmp 2] [26] [] [] (λcp H=> ?_)
 unfold Ny
 have z0:=Da (aJ Aw.JF.eq_1)
 exact Wk,Zi⟩
noncomputable abbrev XN(fu:Nat):Cm prog aj aj:=⟨36,fun t=>[.agg (bT t)],Dc fu,fun r=> .agg [.v (.int .i64 r.fType),.fresh 1 r.fDims.length (lm (ik .i64) r.fDims),.fresh 1 r.fF.length (lm (ik .u32) r.fF),.fresh 1 r.fI.length (lm (ik .i64) r.fI),.fresh 1 r.fB.length (lm (bk) r.fB)],by
 rintro x1
 refine pT fu Aw.Jd Tryz.func36 [.cell 2 28] [28] [(akj fu).ct,(akk fu).ct,(akl fu).ct,(akm fu).ct] [82,83,84,85] (λcp H=> ?_)
 obtain⟨H1,H2,H3,H4, -⟩:=H
 unfold Dc
 have z0:=Da (aJ Aw.Jd.eq_1)
 exact Wk,Zi⟩
def qV:TD:=zz [[2],[],[3],[],[],[],[0,5,6,7]]
def wS:=And.intro (show qV.getD 0 (0,[])=(0,[2])from rfl)<|And.intro (show qV.getD 1 (0,[])=(0,[])from rfl)<|And.intro (show qV.getD 2 (0,[])=(0,[3])from rfl)<|And.intro (show qV.getD 3 (0,[])=(0,[])from rfl)<|And.intro (show qV.getD 4 (0,[])=(0,[])from rfl)<|And.intro (show qV.getD 5 (0,[])=(0,[])from rfl)<|(show qV.getD 6 (0,[])=(0,[0,5,6,7])from rfl)
theorem i42:aN prog 42 qV=some ⟨az Tryz.f42,[.tmp 2],[22]⟩:=fA Tryz.func42
def e42:List Int->AV:=λr=> .fresh 1 r.length (lm (ik .i64) r)
theorem abl(fu:Nat)(x1:List Int)(r)(h:slices_Clone_int fu x1=some r):bH prog 42 [.arr x1.length (lm (ik .i64) x1)] (e42 r):=by
  unfold slices_Clone_int chk at h
  split at h
  · rename_i hs;injection h with h;subst h
    cases x1 with
    | nil=>
      refine bH.gB λa c=> ?_
      refine qg mixed (C:=oQ) (cp:=nX) (n:=0) oU eY i42 (s:=some []) (enc:=e42) ?_ rfl
      refine J.some ?_
      unfold e42
      cases a with
      | none=>
        conv=>lhs;simp (disch:=first|exact Zd|fail) only[az,Tryz.f42,ZZ,wS,simprocAttr,wz kH]
        rw[gG]
        simp (disch:=first|exact Zd|fail) only[ZZ,wS,simprocAttr,wz kH,FF,NN,NT]
      | some a=>
        conv=>lhs;simp (disch:=first|exact Zd|fail) only[az,Tryz.f42,ZZ,wS,simprocAttr,wz kH]
        rw[gG]
        conv=>lhs;simp (disch:=first|exact Zd|fail) only[ZZ,wS,simprocAttr,wz kH]
        rw[gq]
        simp (disch:=first|exact Zd|fail) only[ZZ,wS,simprocAttr,wz kH,FF,NN,NT]
    | cons y x1=>
      refine qg mixed (C:=oQ) (cp:=nX) (n:=0) oU eY i42 (s:=some (y::x1)) (enc:=e42) ?_ rfl
      refine J.some ?_
      have ha: ∀ xs,pq prog .eql 22 (.arr (y::x1).length xs) (.v (.slice none 0 0))=some (.v (.bool false)):=λxs=>aep (op:= .eql) kH (by simp)
      generalize y::x1=l at hs ha ⊢
      unfold e42
      conv=>lhs;simp (disch:=first|exact Zd|fail) only[az,Tryz.f42,ZZ,wS,simprocAttr,wz kH,ha]
      rw[gG]
      conv=>lhs;simp (disch:=first|exact Zd|fail) only[ZZ,wS,simprocAttr,wz kH,ha]
      rw[gq]
      simp (disch:=first|exact Zd|fail) only[ZZ,wS,simprocAttr,wz kH,FF,NN,NT,TF]
  · cases h
noncomputable abbrev sG(fu:Nat):Cm prog (List Int) (List Int):=⟨42,λt=>[.arr t.length (lm (ik .i64) t)],λt=>slices_Clone_int fu t,λr=> .fresh 1 r.length (lm (ik .i64) r),λt b h=>abl fu t b h,Zi⟩
def lX.m1:LJ 1 6 Unit ((List aP)×Int):=⟨λr s e=>[(3,.own (0,3,77) 0 s.1.length s.1.length),(7,er e 7),(8,er e 8),(9,.v (.int .i64 s.2))],λr s h=>[((0,3,77),.sl true true 8 s.1.length (fm dE s.1))]⟩
open lX in
noncomputable abbrev Hr(fu:Nat):Cm prog (List aj) (List aP):=⟨20,fun t=>[.arr t.length (fm bT t)],lX fu,fun r=> .arr r.length (fm dE r),by
 rintro x1
 refine uA fu Aw.IW Tryz.func20 [.tmp 2] [50] [(sG fu).ct,(XN fu).ct] [42,36] (λcp H=> ?_)
 obtain⟨H1,H2, -⟩:=H
 unfold lX
 have z0:=Da (aJ Aw.IW.eq_1)
 have z1:=SE
 exact Wk,Zi⟩
noncomputable abbrev uf(fu:Nat):Cm prog (Int×Int) (Int×Int):=⟨21,fun t=>[.v (.int .i64 t.1),.v (.int .i64 t.2)],fun t=>og fu t.1 t.2,fun r=> .tuple [.v (.int .i64 r.1),.v (.int .i64 r.2)],by
 rintro⟨x1,x2⟩
 refine pT fu Aw.I4 Tryz.func21 [.tmp 4,.tmp 5] [3,34] [] [] (λcp H=> ?_)
 unfold og
 have z0:=Da (aJ Aw.I4.eq_1)
 exact Wk,Zi⟩
def lV:=Da (aJ Aw.wP.eq_1)
noncomputable def GV:Code:=az Tryz.f108
theorem lY{C:bG}{cp:aC}{ci:bz}{lvl:Nat}{prot:List Id}{D:List (Nat×List Nat)}{n:Nat}{K:KK}{e:Env}{h:Heap}{fs:List Fr}:go prog C cp ci lvl prot D n K GV e h fs=go prog C cp ci lvl prot D n K (az Tryz.f108) e h fs:=rfl
theorem Lc:aN prog 108 wP=some ⟨GV,[],[]⟩:=fA Tryz.func108
end Go.Av
