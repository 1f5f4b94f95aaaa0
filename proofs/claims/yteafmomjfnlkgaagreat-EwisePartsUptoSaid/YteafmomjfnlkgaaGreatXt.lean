/- Sums and differences of two words with a carry: functions without a body, that the model answers for. Conditions: those that each names. -/
import Derived.Test.YteafmomjfnlkgaaGreatLt
import Derived.Laws.Externs
set_option linter.unusedVariables false
set_option linter.defProp false
namespace Go.Av
def vG(f:FuncId)(c:List AV->Option AV)(ci:bg):bg:=λlvl k as h=>if k=f then(c as).bind λr=>some (r,h)else ci lvl k as h
theorem ac4{P:Program}{ci:bg}{f:FuncId}{c:List AV→Option AV}(hci:dU P ci)(hc: ∀ as r,c as=some r→Kz P f as r):dU P (vG f c ci):=fun lvl k as h r h' hq=>by
  unfold vG at hq
  split at hq
  · rename_i hk;subst hk
    simp only[Option.bind_eq_some_iff,Option.some.injEq,Prod.mk.injEq]at hq
    obtain⟨r',h1,rfl,rfl⟩:=hq
    exact .inl (.inr ⟨rfl,hc _ _ h1⟩)
  · exact hci _ _ _ _ _ _ hq
section
variable {P:Program} {ci:bg} {f k:FuncId} {c:List AV->Option AV} {lvl:Nat} {as:List AV} {h:Heap} {x y z:Int}
theorem avD{nx:AV×Heap→Option AV}:(vG f c ci lvl f as h).bind nx=(c as).bind fun r=>nx (r,h):=by
  unfold vG
  rw[if_pos rfl]
  cases c as <;> rfl
theorem aIs(hne: ¬ k=f):vG f c ci lvl k as h=ci lvl k as h:=by
  unfold vG
  rw[if_neg hne]
def Ho:List AV→Option AV
  |[.v (.int .u64 x),.v (.int .u64 y),.v (.int .u64 z)]=>if 0<=x/\0<=y/\0<=z/\z<=1 then some (.tuple [.v (.int .u64 ((x+y+z)%18446744073709551616)),.v (.int .u64 ((x+y+z) / 18446744073709551616))])else none
  |_=>none
def IP:List AV→Option AV
  |[.v (.int .u64 x),.v (.int .u64 y),.v (.int .u64 z)]=>if 0<=x/\(0<=y/\y<18446744073709551616)/\0<=z/\z<=1 then some (.tuple [.v (.int .u64 ((x - y - z)%18446744073709551616)),.v (.int .u64 (if x<y+z then 1 else 0))])else none
  |_=>none
theorem aLB(h:0<=x/\0<=y/\0<=z/\z<=1):Ho [.v (.int .u64 x),.v (.int .u64 y),.v (.int .u64 z)]=some (.tuple [.v (.int .u64 ((x+y+z)%18446744073709551616)),.v (.int .u64 ((x+y+z) / 18446744073709551616))]):=if_pos h
theorem anQ(h:0<=x/\(0<=y/\y<18446744073709551616)/\0<=z/\z<=1):IP [.v (.int .u64 x),.v (.int .u64 y),.v (.int .u64 z)]=some (.tuple [.v (.int .u64 ((x - y - z)%18446744073709551616)),.v (.int .u64 (if x<y+z then 1 else 0))]):=if_pos h
def RQ:Array Value→Sem Value:=fun args=>do
  let (x,y,b) ← Extern.MathBitsCarry.three "Sub64" args
  pure (Extern.MathBitsCarry.pair ((x+Extern.MathBitsCarry.m64 - y - b)%Extern.MathBitsCarry.m64) (if x<y+b then 1 else 0))
theorem aFE{P:Program}(x y b:Nat)(hb:b≤1)(w:World):(RQ #[.int .u64 x,.int .u64 y,.int .u64 b]).run P w=
    .ok (.tuple #[.int .u64 (((x+18446744073709551616 - y - b)%18446744073709551616:Nat):Int),.int .u64 ((if x<y+b then 1 else 0:Nat):Int)]) w:=by
  have:b=0∨b=1:=by omega
  rcases this with rfl|rfl <;> rfl
theorem afx{w:World}{F:Nat→Prop}{h:Heap}{M:Id→Option Nat}{a b c:Value}{us:List Value}(hl:[AV.v a,AV.v b,AV.v c].length=us.length)(hx: ∀ (i:Nat) x u,[AV.v a,AV.v b,AV.v c][i]? =some x→us[i]? =some u→VR w.heap F h M x u):us=[a,b,c]:=by
  match us,hl with
  | [u0,u1,u2],_=>
    have h0:=(hx 0 _ u0 rfl rfl).dI
    have h1:=(hx 1 _ u1 rfl rfl).dI
    have h2:=(hx 2 _ u2 rfl rfl).dI
    rw[h0,h1,h2]
theorem ajp{w:World}{F:Nat→Prop}{h:Heap}{M:Id→Option Nat}{a b:Value}:VR w.heap F h M (.tuple [.v a,.v b]) (.tuple #[a,b]):=by
  refine .c (.tuple (us:=[a,b]) rfl λi x u hx hu=> ?_)
  match i with
  |0=>simp at hx hu;subst hx hu;exact .v
  |1=>simp at hx hu;subst hx hu;exact .v
  |i+2=>simp at hx
theorem aL9{fn:Func}(hf:P.funcs[f]? =some fn)(hname:(fn.name== "runtime.NumGoroutine")=false)(hb:fn.body.isNone=true)(hn:Extern.findNext fn=none)(he:Extern.find fn=some add64Entry): ∀ as r,Ho as=some r→Kz P f as r:=by
  intro as r hq
  unfold Ho at hq
  split at hq
  · rename_i x y z
    split at hq
    · rename_i hc
      injection hq with hq;subst hq
      intro w F h M us hk hl hx
      obtain rfl:=afx hl hx
      refine⟨_,?_,ajp⟩
      rw[run_callFunc_extern hf hname hb hn he,run_add64 x y z hc.1 hc.2.1 hc.2.2.1 hc.2.2.2]
      rfl
    · cases hq
  · cases hq
theorem aFO{fn:Func}(hf:P.funcs[f]? =some fn)(hname:(fn.name== "runtime.NumGoroutine")=false)(hb:fn.body.isNone=true)(hn:Extern.findNext fn=none)(he:Extern.find fn=some RQ): ∀ as r,IP as=some r→Kz P f as r:=by
  intro as r hq
  unfold IP at hq
  split at hq
  · rename_i x y z
    split at hq
    · rename_i hc
      injection hq with hq;subst hq
      intro w F h M us hk hl hx
      obtain rfl:=afx hl hx
      obtain⟨h0,⟨h1,h2⟩,h3,h4⟩:=hc
      obtain⟨X,rfl⟩:=Int.eq_ofNat_of_zero_le h0
      obtain⟨Y,rfl⟩:=Int.eq_ofNat_of_zero_le h1
      obtain⟨Z,rfl⟩:=Int.eq_ofNat_of_zero_le h3
      have e1:((X:Int) - Y - Z)%18446744073709551616=(((X+18446744073709551616 - Y - Z)%18446744073709551616:Nat):Int):=by omega
      have e2:(if(X:Int)<Y+Z then(1:Int)else 0)=((if X<Y+Z then 1 else 0:Nat):Int):=by
        by_cases hlt:X<Y+Z
        · rw[if_pos hlt,if_pos (by omega)];rfl
        · rw[if_neg hlt,if_neg (by omega)];rfl
      rw[e1,e2]
      refine⟨_,?_,ajp⟩
      rw[run_callFunc_extern hf hname hb hn he]
      show((RQ #[.int .u64 (X:Int),.int .u64 (Y:Int),.int .u64 (Z:Int)]).run P w).andThen _=_
      rw[aFE X Y Z (by omega)]
      rfl
    · cases hq
  · cases hq
def RX:=And.intro @avD<|And.intro @aIs<|And.intro @aLB @anQ
end
end Go.Av
