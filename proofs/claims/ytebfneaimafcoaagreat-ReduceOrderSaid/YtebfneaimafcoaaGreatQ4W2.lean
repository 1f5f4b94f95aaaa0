/- The walks of the plain functions, part 2. Made by a program of mine. Conditions: none. -/
import Derived.Test.YtebfneaimafcoaaGreatQ4W1
set_option linter.unusedVariables false
set_option linter.unusedSimpArgs false
set_option linter.defProp false
set_option maxRecDepth 20000
open Go Go.Proofs
namespace Go.Av
open Aw (d22 d23 d24 d38 d39 d40 d41 d80 d81 d82 d83 d84 d85 d86 d87 d88 d89 d148 d149 d150)
def d46:List (Nat×List Nat):=[(0,[2]),(0,[]),(0,[3]),(0,[]),(0,[]),(0,[]),(0,[0,5,6,7])]
def d46_at:=And.intro (show d46.getD 0 (0,[])=(0,[2])from rfl)<|And.intro (show d46.getD 1 (0,[])=(0,[])from rfl)<|And.intro (show d46.getD 2 (0,[])=(0,[3])from rfl)<|And.intro (show d46.getD 3 (0,[])=(0,[])from rfl)<|And.intro (show d46.getD 4 (0,[])=(0,[])from rfl)<|And.intro (show d46.getD 5 (0,[])=(0,[])from rfl)<|(show d46.getD 6 (0,[])=(0,[0,5,6,7])from rfl)
theorem i46:finfo Tryz.prog 46 d46=some ⟨bodyOf Tryz.f46,[.tmp 2],[27]⟩:=finfo_at Tryz.func46 rfl (by kernel_rfl) (by kernel_rfl)
def e46:List Int->AV:=λr=> .fresh 1 r.length (lm (ik .i64) r)
theorem ok46(fu:Nat)(x1:List Int)(r)(h:slices_Clone_int fu x1=some r):PureOK Tryz.prog 46 [.arr x1.length (lm (ik .i64) x1)] (e46 r):=by
  unfold slices_Clone_int chk at h
  split at h
  · rename_i hs;injection h with h;subst h
    cases x1 with
    | nil=>
      refine PureOK.arr0 λa c=> ?_
      refine pure_J mixed (C:=noC) (cp:=noP) (n:=0) noP_ok noI_ok i46 (s:=some []) (enc:=e46) ?_ rfl
      refine J.some ?_
      unfold e46
      cases a with
      | none=>
        conv=>lhs;simp (disch:=first|exact Zd|fail) only[bodyOf,Tryz.f46,ZZ,d46_at,simprocAttr,abin_sl tv27]
        rw[go_seq]
        simp (disch:=first|exact Zd|fail) only[ZZ,d46_at,simprocAttr,abin_sl tv27,FF,NN,NT]
      | some a=>
        conv=>lhs;simp (disch:=first|exact Zd|fail) only[bodyOf,Tryz.f46,ZZ,d46_at,simprocAttr,abin_sl tv27]
        rw[go_seq]
        conv=>lhs;simp (disch:=first|exact Zd|fail) only[ZZ,d46_at,simprocAttr,abin_sl tv27]
        rw[ret_seq]
        simp (disch:=first|exact Zd|fail) only[ZZ,d46_at,simprocAttr,abin_sl tv27,FF,NN,NT]
    | cons y x1=>
      refine pure_J mixed (C:=noC) (cp:=noP) (n:=0) noP_ok noI_ok i46 (s:=some (y::x1)) (enc:=e46) ?_ rfl
      refine J.some ?_
      have ha: ∀ xs,abin Tryz.prog .eql 27 (.arr (y::x1).length xs) (.v (.slice none 0 0))=some (.v (.bool false)):=λxs=>abin_an (op:= .eql) tv27 (by simp)
      generalize y::x1=l at hs ha ⊢
      unfold e46
      conv=>lhs;simp (disch:=first|exact Zd|fail) only[bodyOf,Tryz.f46,ZZ,d46_at,simprocAttr,abin_sl tv27,ha]
      rw[go_seq]
      conv=>lhs;simp (disch:=first|exact Zd|fail) only[ZZ,d46_at,simprocAttr,abin_sl tv27,ha]
      rw[ret_seq]
      simp (disch:=first|exact Zd|fail) only[ZZ,d46_at,simprocAttr,abin_sl tv27,FF,NN,NT,lm_length]
  · cases h
open Aw (d26)
def d26_at:=by have h:=tabL Aw.d26.eq_1;simp only[AllAt,Nat.zero_add,Nat.reduceAdd]at h;exact h
theorem i26:finfo Tryz.prog 26 d26=some ⟨bodyOf Tryz.f26,[.tmp 2],[54]⟩:=finfo_at Tryz.func26 rfl (by kernel_rfl) (by kernel_rfl)
def e26:(List T_Val)->AV:=λr=> .arr r.length (fm c_T_Val r)
structure K46 (fu:Nat) (cp:CallP):Prop where
 ap: ∀ {a0:List Int} {r},slices_Clone_int fu a0=some r->cp 46 [.arr a0.length (lm (ik .i64) a0)]=some (.fresh 1 r.length (lm (ik .i64) r))
noncomputable def C46(fu:Nat):Cm Tryz.prog (List Int) (List Int):=⟨46,λt=>[.arr t.length (lm (ik .i64) t)],λt=>slices_Clone_int fu t,e46,λt b h=>ok46 fu t b h,Zi⟩
theorem u46{fu:Nat}{cp:CallP}(H:Hit cp (C46 fu).ct):K46 fu cp:=⟨λ {a0 r} h=>(C46 fu).at H a0 r h⟩
def ewise_Vals.m1:LJ 1 6 Unit ((List T_Val)×Int):=⟨λr s e=>[(3,.own (0,3,77) 0 s.1.length s.1.length),(7,er e 7),(8,er e 8),(9,.v (.int .i64 s.2))],λr s h=>[((0,3,77),.sl true true 8 s.1.length (fm c_T_Val s.1))]⟩
set_option maxHeartbeats 20000000 in
open ewise_Vals in
theorem w26(cp:CallP)(fu:Nat)(x1:List T_Tensor)(H1:K46 fu cp)(H2:K40 fu cp):J (go Tryz.prog noC cp noI 0 [] d26 fu (finS Tryz.prog [.tmp 2] [54]) (bodyOf Tryz.f26) (initE 0 [.arr x1.length (fm c_T_Tensor x1)]) [] []) (ewise_Vals fu x1) e26:=by
 unfold ewise_Vals e26
 have da:=d26_at
 conv=>arg 1;simp only[bodyOf,Tryz.f26]
 have z0:=d26_at
 have z1:=SE
 exact Wk
theorem ok26(fu:Nat)(x1:List T_Tensor)(r)(h:ewise_Vals fu x1=some r):PureOK Tryz.prog 26 [.arr x1.length (fm c_T_Tensor x1)] (e26 r):=pureST mixed [(C46 fu).ct,(C40 fu).ct] (ids:=[46,40]) rfl (by decide) i26 (C:=noC) (ci:=λcp=>noI) (λcp ok=>noI_ok) (λcp H=>w26 cp fu x1 (u46 H.1) (u40 H.2.1)) h
def e90:(Int×Int×Int×Int)->AV:=λr=> .tuple [.v (.int .i64 r.1),.v (.int .i64 r.2.1),.v (.int .i64 r.2.2.1),.v (.int .i64 r.2.2.2)]
theorem ok90(fu:Nat)(x1:Int)(r)(h:ops_Arity fu x1=some r):PureOK Tryz.prog 90 [.v (.int .i64 x1)] (e90 r):=by
  unfold ops_Arity spl chk at h
  split at h
  · rename_i hx;injection h with h;subst h
    obtain rfl:=hx
    exact closed90_67
  split at h
  · rename_i hx;injection h with h;subst h
    obtain rfl:=hx
    exact closed90_68
  split at h
  · rename_i hx;injection h with h;subst h
    obtain rfl:=hx
    exact closed90_65
  split at h
  · rename_i hx;injection h with h;subst h
    obtain rfl:=hx
    exact closed90_69
  · cases h
open Aw (d107)
def d107_at:=by have h:=tabL Aw.d107.eq_1;simp only[AllAt,Nat.zero_add,Nat.reduceAdd]at h;exact h
theorem i107:finfo Tryz.prog 107 d107=some ⟨bodyOf Tryz.f107,[.cell 4 60],[60]⟩:=finfo_at Tryz.func107 rfl (by kernel_rfl) (by kernel_rfl)
def e107:T_Val->AV:=λr=> .agg [.v (.int .i64 r.fType),.arr r.fDims.length (lm (ik .i64) r.fDims),.v (.bool r.fConst),.v (.int .i64 r.fT.fType),.arr r.fT.fDims.length (lm (ik .i64) r.fT.fDims),.arr r.fT.fF.length (lm (ik .u32) r.fT.fF),.arr r.fT.fI.length (lm (ik .i64) r.fT.fI),.arr r.fT.fB.length (lm (bk) r.fT.fB)]
set_option maxHeartbeats 20000000 in
theorem w107(cp:CallP)(fu:Nat)(x1:T_infer_ask)(x2:Int):J (go Tryz.prog noC cp noI 0 [] d107 fu (finS Tryz.prog [.cell 4 60] [60]) (bodyOf Tryz.f107) (initE 0 [.agg (c_T_infer_ask x1),.v (.int .i64 x2)]) [] []) (infer_ask_val fu x1 x2) e107:=by
 unfold infer_ask_val e107
 have da:=d107_at
 conv=>arg 1;simp only[bodyOf,Tryz.f107]
 have z0:=d107_at
 have z1:=SE
 exact Wk
theorem ok107(fu:Nat)(x1:T_infer_ask)(x2:Int)(r)(h:infer_ask_val fu x1 x2=some r):PureOK Tryz.prog 107 [.agg (c_T_infer_ask x1),.v (.int .i64 x2)] (e107 r):=pureST mixed [] (ids:=[]) rfl (by decide) i107 (C:=noC) (ci:=λcp=>noI) (λcp ok=>noI_ok) (λcp H=>w107 cp fu x1 x2) h
open Aw (d91)
def d91_at:=by have h:=tabL Aw.d91.eq_1;simp only[AllAt,Nat.zero_add,Nat.reduceAdd]at h;exact h
theorem i91:finfo Tryz.prog 91 d91=some ⟨bodyOf Tryz.f91,[.tmp 4],[4]⟩:=finfo_at Tryz.func91 rfl (by kernel_rfl) (by kernel_rfl)
def e91:Bool->AV:=λr=> .v (.bool r)
structure K107 (fu:Nat) (cp:CallP):Prop where
 ap: ∀ {a0:T_infer_ask} {a1:Int} {r},infer_ask_val fu a0 a1=some r->cp 107 [.agg (c_T_infer_ask a0),.v (.int .i64 a1)]=some (.agg [.v (.int .i64 r.fType),.arr r.fDims.length (lm (ik .i64) r.fDims),.v (.bool r.fConst),.v (.int .i64 r.fT.fType),.arr r.fT.fDims.length (lm (ik .i64) r.fT.fDims),.arr r.fT.fF.length (lm (ik .u32) r.fT.fF),.arr r.fT.fI.length (lm (ik .i64) r.fT.fI),.arr r.fT.fB.length (lm (bk) r.fT.fB)])
noncomputable def C107(fu:Nat):Cm Tryz.prog (T_infer_ask×Int) T_Val:=⟨107,λt=>[.agg (c_T_infer_ask t.1),.v (.int .i64 t.2)],λt=>infer_ask_val fu t.1 t.2,e107,λt b h=>ok107 fu t.1 t.2 b h,Zi⟩
theorem u107{fu:Nat}{cp:CallP}(H:Hit cp (C107 fu).ct):K107 fu cp:=⟨λ {a0 a1 r} h=>(C107 fu).at H (a0,a1) r h⟩
set_option maxHeartbeats 20000000 in
theorem w91(cp:CallP)(fu:Nat)(x1:T_infer_ask)(x2:Int)(H1:K107 fu cp):J (go Tryz.prog noC cp noI 0 [] d91 fu (fin Tryz.prog [.tmp 4] [4]) (bodyOf Tryz.f91) (initE 0 [.agg (c_T_infer_ask x1),.v (.int .i64 x2)]) [] []) (infer_ask_has fu x1 x2) e91:=by
 unfold infer_ask_has e91
 have da:=d91_at
 conv=>arg 1;simp only[bodyOf,Tryz.f91]
 have z0:=d91_at
 exact Wk
theorem ok91(fu:Nat)(x1:T_infer_ask)(x2:Int)(r)(h:infer_ask_has fu x1 x2=some r):PureOK Tryz.prog 91 [.agg (c_T_infer_ask x1),.v (.int .i64 x2)] (e91 r):=pureT mixed [(C107 fu).ct] (ids:=[107]) rfl (by decide) i91 (C:=noC) (ci:=λcp=>noI) (λcp ok=>noI_ok) (λcp H=>w91 cp fu x1 x2 (u107 H.1)) h
open Aw (d42)
def d42_at:=by have h:=tabL Aw.d42.eq_1;simp only[AllAt,Nat.zero_add,Nat.reduceAdd]at h;exact h
theorem i42:finfo Tryz.prog 42 d42=some ⟨bodyOf Tryz.f42,[.tmp 2],[4]⟩:=finfo_at Tryz.func42 rfl (by kernel_rfl) (by kernel_rfl)
def e42:Bool->AV:=λr=> .v (.bool r)
structure K90 (fu:Nat) (cp:CallP):Prop where
 ap: ∀ {a0:Int} {r},ops_Arity fu a0=some r->cp 90 [.v (.int .i64 a0)]=some (.tuple [.v (.int .i64 r.1),.v (.int .i64 r.2.1),.v (.int .i64 r.2.2.1),.v (.int .i64 r.2.2.2)])
noncomputable def C90(fu:Nat):Cm Tryz.prog Int (Int×Int×Int×Int):=⟨90,λt=>[.v (.int .i64 t)],λt=>ops_Arity fu t,e90,λt b h=>ok90 fu t b h,Zi⟩
theorem u90{fu:Nat}{cp:CallP}(H:Hit cp (C90 fu).ct):K90 fu cp:=⟨λ {a0 r} h=>(C90 fu).at H a0 r h⟩
structure K91 (fu:Nat) (cp:CallP):Prop where
 ap: ∀ {a0:T_infer_ask} {a1:Int} {r},infer_ask_has fu a0 a1=some r->cp 91 [.agg (c_T_infer_ask a0),.v (.int .i64 a1)]=some (.v (.bool r))
noncomputable def C91(fu:Nat):Cm Tryz.prog (T_infer_ask×Int) Bool:=⟨91,λt=>[.agg (c_T_infer_ask t.1),.v (.int .i64 t.2)],λt=>infer_ask_has fu t.1 t.2,e91,λt b h=>ok91 fu t.1 t.2 b h,Zi⟩
theorem u91{fu:Nat}{cp:CallP}(H:Hit cp (C91 fu).ct):K91 fu cp:=⟨λ {a0 a1 r} h=>(C91 fu).at H (a0,a1) r h⟩
def infer_ask_complete.m1:LJ 1 10 Unit Int:=⟨λr s e=>[(1,er e 1),(49,er e 49),(50,.v (.int .i64 s))],λr s h=>[((0,1,0),hr h (0,1,0))]⟩
def infer_ask_complete.j1:LJ 1 8 Unit Unit:=⟨λr t e=>[(1,er e 1),(3,er e 3)],λr t h=>[((0,1,0),hr h (0,1,0))]⟩
def infer_ask_complete.m2:LJ 2 10 Unit Int:=⟨λr s e=>[(1,er e 1),(49,er e 49),(50,.v (.int .i64 s))],λr s h=>[((0,1,0),hr h (0,1,0))]⟩
def infer_ask_complete.j2:LJ 2 8 Unit Unit:=⟨λr t e=>[(1,er e 1),(3,er e 3)],λr t h=>[((0,1,0),hr h (0,1,0))]⟩
def infer_ask_complete.m3:LJ 3 10 Unit Int:=⟨λr s e=>[(1,er e 1),(49,er e 49),(50,.v (.int .i64 s))],λr s h=>[((0,1,0),hr h (0,1,0))]⟩
def infer_ask_complete.j3:LJ 3 8 Unit Unit:=⟨λr t e=>[(1,er e 1),(3,er e 3)],λr t h=>[((0,1,0),hr h (0,1,0))]⟩
def infer_ask_complete.m4:LJ 4 10 Unit Int:=⟨λr s e=>[(1,er e 1),(49,er e 49),(50,.v (.int .i64 s))],λr s h=>[((0,1,0),hr h (0,1,0))]⟩
def infer_ask_complete.j4:LJ 4 8 Unit Unit:=⟨λr t e=>[(1,er e 1),(3,er e 3)],λr t h=>[((0,1,0),hr h (0,1,0))]⟩
set_option maxHeartbeats 20000000 in
open infer_ask_complete in
theorem w42(cp:CallP)(fu:Nat)(x1:T_infer_ask)(H1:K90 fu cp)(H2:K91 fu cp):J (go Tryz.prog noC cp noI 0 [] d42 fu (fin Tryz.prog [.tmp 2] [4]) (bodyOf Tryz.f42) (initE 0 [.agg (c_T_infer_ask x1)]) [] []) (infer_ask_complete fu x1) e42:=by
 unfold infer_ask_complete e42
 have da:=d42_at
 conv=>arg 1;simp only[bodyOf,Tryz.f42]
 have z0:=d42_at
 exact Wk
theorem ok42(fu:Nat)(x1:T_infer_ask)(r)(h:infer_ask_complete fu x1=some r):PureOK Tryz.prog 42 [.agg (c_T_infer_ask x1)] (e42 r):=pureT mixed [(C90 fu).ct,(C91 fu).ct] (ids:=[90,91]) rfl (by decide) i42 (C:=noC) (ci:=λcp=>noI) (λcp ok=>noI_ok) (λcp H=>w42 cp fu x1 (u90 H.1) (u91 H.2.1)) h
open Aw (d152)
def d152_at:=by have h:=tabL Aw.d152.eq_1;simp only[AllAt,Nat.zero_add,Nat.reduceAdd]at h;exact h
theorem i152:finfo Tryz.prog 152 d152=some ⟨bodyOf Tryz.f152,[.tmp 2],[9]⟩:=finfo_at Tryz.func152 rfl (by kernel_rfl) (by kernel_rfl)
def e152:ByteArray->AV:=λr=> .v (.string r)
def infer_sorts.j1:LJ 1 42 Unit Unit:=⟨λr t e=>[(3,er e 3),(4,.v (.bool (decide ((67:Int)=67))))],λr t h=>[]⟩
def infer_sorts.j2:LJ 2 42 Unit Unit:=⟨λr t e=>[(3,er e 3),(4,.v (.bool (decide ((68:Int)=68))))],λr t h=>[]⟩
def infer_sorts.j7:LJ 7 210 Unit Unit:=⟨λr t e=>[(3,er e 3),(4,er e 4),(13,er e 13),(18,er e 18),(31,er e 31),(36,er e 36),(45,.v (.bool (decide ((65:Int)=51))))],λr t h=>[]⟩
def infer_sorts.j6:LJ 6 170 Unit Unit:=⟨λr t e=>[(3,er e 3),(4,er e 4),(13,er e 13),(18,er e 18),(31,er e 31),(36,.v (.bool (decide ((65:Int)=64))))],λr t h=>[]⟩
def infer_sorts.j5:LJ 5 114 Unit Unit:=⟨λr t e=>[(3,er e 3),(4,er e 4),(13,er e 13),(18,.v (.bool (decide ((65:Int)=43))))],λr t h=>[]⟩
def infer_sorts.j4:LJ 4 62 Unit Unit:=⟨λr t e=>[(3,er e 3),(4,er e 4),(13,.v (.bool (decide ((65:Int)=25))))],λr t h=>[]⟩
def infer_sorts.j3:LJ 3 42 Unit Unit:=⟨λr t e=>[(3,er e 3),(4,.v (.bool (decide ((65:Int)=71))))],λr t h=>[]⟩
def infer_sorts.j8:LJ 8 42 Unit Unit:=⟨λr t e=>[(3,er e 3),(4,.v (.bool (decide ((69:Int)=69))))],λr t h=>[]⟩
set_option maxHeartbeats 20000000 in
open infer_sorts in
theorem w152(cp:CallP)(fu:Nat)(x1:Int):J (go Tryz.prog noC cp noI 0 [] d152 fu (fin Tryz.prog [.tmp 2] [9]) (bodyOf Tryz.f152) (initE 0 [.v (.int .i64 x1)]) [] []) (infer_sorts fu x1) e152:=by
 unfold infer_sorts e152
 have da:=d152_at
 conv=>arg 1;simp only[bodyOf,Tryz.f152]
 have z0:=d152_at
 exact Wk
theorem ok152(fu:Nat)(x1:Int)(r)(h:infer_sorts fu x1=some r):PureOK Tryz.prog 152 [.v (.int .i64 x1)] (e152 r):=pureT mixed [] (ids:=[]) rfl (by decide) i152 (C:=noC) (ci:=λcp=>noI) (λcp ok=>noI_ok) (λcp H=>w152 cp fu x1) h
open Aw (d153)
def d153_at:=by have h:=tabL Aw.d153.eq_1;simp only[AllAt,Nat.zero_add,Nat.reduceAdd]at h;exact h
theorem i153:finfo Tryz.prog 153 d153=some ⟨bodyOf Tryz.f153,[.tmp 6],[4]⟩:=finfo_at Tryz.func153 rfl (by kernel_rfl) (by kernel_rfl)
def e153:Bool->AV:=λr=> .v (.bool r)
def infer_ask_fits.j1:LJ 1 0 Unit Bool:=⟨λr t e=>[(1,er e 1),(3,er e 3),(6,.v (.bool t)),(7,er e 7),(12,er e 12)],λr t h=>[((0,3,0),hr h (0,3,0))]⟩
def infer_ask_fits.j2:LJ 2 0 Unit Bool:=⟨λr t e=>[(1,er e 1),(3,er e 3),(6,.v (.bool t)),(7,er e 7),(12,er e 12)],λr t h=>[((0,3,0),hr h (0,3,0))]⟩
def infer_ask_fits.j3:LJ 3 0 Unit Bool:=⟨λr t e=>[(1,er e 1),(3,er e 3),(6,.v (.bool t)),(7,er e 7),(12,er e 12)],λr t h=>[((0,3,0),hr h (0,3,0))]⟩
def infer_ask_fits.j4:LJ 4 0 Unit Bool:=⟨λr t e=>[(1,er e 1),(3,er e 3),(6,.v (.bool t)),(7,er e 7),(12,er e 12)],λr t h=>[((0,3,0),hr h (0,3,0))]⟩
set_option maxHeartbeats 20000000 in
open infer_ask_fits in
theorem w153(cp:CallP)(fu:Nat)(x1:T_infer_ask)(x2:Int)(x3:Int)(H1:K107 fu cp)(H2:K80 fu cp):J (go Tryz.prog noC cp noI 0 [] d153 fu (fin Tryz.prog [.tmp 6] [4]) (bodyOf Tryz.f153) (initE 0 [.agg (c_T_infer_ask x1),.v (.int .i64 x2),.v (.int .u8 x3)]) [] []) (infer_ask_fits fu x1 x2 x3) e153:=by
 unfold infer_ask_fits e153
 have da:=d153_at
 conv=>arg 1;simp only[bodyOf,Tryz.f153]
 have z0:=d153_at
 exact Wk
theorem ok153(fu:Nat)(x1:T_infer_ask)(x2:Int)(x3:Int)(r)(h:infer_ask_fits fu x1 x2 x3=some r):PureOK Tryz.prog 153 [.agg (c_T_infer_ask x1),.v (.int .i64 x2),.v (.int .u8 x3)] (e153 r):=pureT mixed [(C107 fu).ct,(C80 fu).ct] (ids:=[107,80]) rfl (by decide) i153 (C:=noC) (ci:=λcp=>noI) (λcp ok=>noI_ok) (λcp H=>w153 cp fu x1 x2 x3 (u107 H.1) (u80 H.2.1)) h
open Aw (d92)
def d92_at:=by have h:=tabL Aw.d92.eq_1;simp only[AllAt,Nat.zero_add,Nat.reduceAdd]at h;exact h
theorem i92:finfo Tryz.prog 92 d92=some ⟨bodyOf Tryz.f92,[.tmp 2],[4]⟩:=finfo_at Tryz.func92 rfl (by kernel_rfl) (by kernel_rfl)
def e92:Bool->AV:=λr=> .v (.bool r)
structure K152 (fu:Nat) (cp:CallP):Prop where
 ap: ∀ {a0:Int} {r},infer_sorts fu a0=some r->cp 152 [.v (.int .i64 a0)]=some (.v (.string r))
noncomputable def C152(fu:Nat):Cm Tryz.prog Int ByteArray:=⟨152,λt=>[.v (.int .i64 t)],λt=>infer_sorts fu t,e152,λt b h=>ok152 fu t b h,Zi⟩
theorem u152{fu:Nat}{cp:CallP}(H:Hit cp (C152 fu).ct):K152 fu cp:=⟨λ {a0 r} h=>(C152 fu).at H a0 r h⟩
structure K153 (fu:Nat) (cp:CallP):Prop where
 ap: ∀ {a0:T_infer_ask} {a1:Int} {a2:Int} {r},infer_ask_fits fu a0 a1 a2=some r->cp 153 [.agg (c_T_infer_ask a0),.v (.int .i64 a1),.v (.int .u8 a2)]=some (.v (.bool r))
noncomputable def C153(fu:Nat):Cm Tryz.prog (T_infer_ask×Int×Int) Bool:=⟨153,λt=>[.agg (c_T_infer_ask t.1),.v (.int .i64 t.2.1),.v (.int .u8 t.2.2)],λt=>infer_ask_fits fu t.1 t.2.1 t.2.2,e153,λt b h=>ok153 fu t.1 t.2.1 t.2.2 b h,Zi⟩
theorem u153{fu:Nat}{cp:CallP}(H:Hit cp (C153 fu).ct):K153 fu cp:=⟨λ {a0 a1 a2 r} h=>(C153 fu).at H (a0,a1,a2) r h⟩
def infer_ask_typed.m1:LJ 1 6 Unit Int:=⟨λr s e=>[(1,er e 1),(3,er e 3),(10,er e 10),(11,.v (.int .i64 s))],λr s h=>[((0,1,0),hr h (0,1,0))]⟩
def infer_ask_typed.j1:LJ 1 16 Unit Unit:=⟨λr t e=>[(1,er e 1)],λr t h=>[((0,1,0),hr h (0,1,0))]⟩
def infer_ask_typed.m2:LJ 2 6 Unit Int:=⟨λr s e=>[(1,er e 1),(3,er e 3),(10,er e 10),(11,.v (.int .i64 s))],λr s h=>[((0,1,0),hr h (0,1,0))]⟩
def infer_ask_typed.j2:LJ 2 16 Unit Unit:=⟨λr t e=>[(1,er e 1)],λr t h=>[((0,1,0),hr h (0,1,0))]⟩
def infer_ask_typed.m3:LJ 3 6 Unit Int:=⟨λr s e=>[(1,er e 1),(3,er e 3),(10,er e 10),(11,.v (.int .i64 s))],λr s h=>[((0,1,0),hr h (0,1,0))]⟩
def infer_ask_typed.j3:LJ 3 16 Unit Unit:=⟨λr t e=>[(1,er e 1)],λr t h=>[((0,1,0),hr h (0,1,0))]⟩
def infer_ask_typed.m4:LJ 4 6 Unit Int:=⟨λr s e=>[(1,er e 1),(3,er e 3),(10,er e 10),(11,.v (.int .i64 s))],λr s h=>[((0,1,0),hr h (0,1,0))]⟩
def infer_ask_typed.j4:LJ 4 16 Unit Unit:=⟨λr t e=>[(1,er e 1)],λr t h=>[((0,1,0),hr h (0,1,0))]⟩
set_option maxHeartbeats 20000000 in
open infer_ask_typed in
theorem w92(cp:CallP)(fu:Nat)(x1:T_infer_ask)(H1:K152 fu cp)(H2:K91 fu cp)(H3:K107 fu cp)(H4:K80 fu cp)(H5:K153 fu cp):J (go Tryz.prog noC cp noI 0 [] d92 fu (fin Tryz.prog [.tmp 2] [4]) (bodyOf Tryz.f92) (initE 0 [.agg (c_T_infer_ask x1)]) [] []) (infer_ask_typed fu x1) e92:=by
 unfold infer_ask_typed e92
 have da:=d92_at
 conv=>arg 1;simp only[bodyOf,Tryz.f92]
 have z0:=d92_at
 exact Wk
theorem ok92(fu:Nat)(x1:T_infer_ask)(r)(h:infer_ask_typed fu x1=some r):PureOK Tryz.prog 92 [.agg (c_T_infer_ask x1)] (e92 r):=pureT mixed [(C152 fu).ct,(C91 fu).ct,(C107 fu).ct,(C80 fu).ct,(C153 fu).ct] (ids:=[152,91,107,80,153]) rfl (by decide) i92 (C:=noC) (ci:=λcp=>noI) (λcp ok=>noI_ok) (λcp H=>w92 cp fu x1 (u152 H.1) (u91 H.2.1) (u107 H.2.2.1) (u80 H.2.2.2.1) (u153 H.2.2.2.2.1)) h
open Aw (d95)
def d95_at:=by have h:=tabL Aw.d95.eq_1;simp only[AllAt,Nat.zero_add,Nat.reduceAdd]at h;exact h
theorem i95:finfo Tryz.prog 95 d95=some ⟨bodyOf Tryz.f95,[.tmp 4],[27]⟩:=finfo_at Tryz.func95 rfl (by kernel_rfl) (by kernel_rfl)
def e95:(List Int)->AV:=λr=> .arr r.length (lm (ik .i64) r)
set_option maxHeartbeats 20000000 in
theorem w95(cp:CallP)(fu:Nat)(x1:T_infer_ask)(x2:Int)(H1:K107 fu cp):J (go Tryz.prog noC cp noI 0 [] d95 fu (fin Tryz.prog [.tmp 4] [27]) (bodyOf Tryz.f95) (initE 0 [.agg (c_T_infer_ask x1),.v (.int .i64 x2)]) [] []) (infer_ask_dims fu x1 x2) e95:=by
 unfold infer_ask_dims e95
 have da:=d95_at
 conv=>arg 1;simp only[bodyOf,Tryz.f95]
 have z0:=d95_at
 exact Wk
theorem ok95(fu:Nat)(x1:T_infer_ask)(x2:Int)(r)(h:infer_ask_dims fu x1 x2=some r):PureOK Tryz.prog 95 [.agg (c_T_infer_ask x1),.v (.int .i64 x2)] (e95 r):=pureT mixed [(C107 fu).ct] (ids:=[107]) rfl (by decide) i95 (C:=noC) (ci:=λcp=>noI) (λcp ok=>noI_ok) (λcp H=>w95 cp fu x1 x2 (u107 H.1)) h
open Aw (d154)
def d154_at:=by have h:=tabL Aw.d154.eq_1;simp only[AllAt,Nat.zero_add,Nat.reduceAdd]at h;exact h
theorem i154:finfo Tryz.prog 154 d154=some ⟨bodyOf Tryz.f154,[.tmp 2],[3]⟩:=finfo_at Tryz.func154 rfl (by kernel_rfl) (by kernel_rfl)
def e154:Int->AV:=λr=> .v (.int .i64 r)
structure K95 (fu:Nat) (cp:CallP):Prop where
 ap: ∀ {a0:T_infer_ask} {a1:Int} {r},infer_ask_dims fu a0 a1=some r->cp 95 [.agg (c_T_infer_ask a0),.v (.int .i64 a1)]=some (.arr r.length (lm (ik .i64) r))
noncomputable def C95(fu:Nat):Cm Tryz.prog (T_infer_ask×Int) (List Int):=⟨95,λt=>[.agg (c_T_infer_ask t.1),.v (.int .i64 t.2)],λt=>infer_ask_dims fu t.1 t.2,e95,λt b h=>ok95 fu t.1 t.2 b h,Zi⟩
theorem u95{fu:Nat}{cp:CallP}(H:Hit cp (C95 fu).ct):K95 fu cp:=⟨λ {a0 a1 r} h=>(C95 fu).at H (a0,a1) r h⟩
set_option maxHeartbeats 20000000 in
theorem w154(cp:CallP)(fu:Nat)(x1:T_infer_ask)(H1:K95 fu cp):J (go Tryz.prog noC cp noI 0 [] d154 fu (fin Tryz.prog [.tmp 2] [3]) (bodyOf Tryz.f154) (initE 0 [.agg (c_T_infer_ask x1)]) [] []) (infer_ask_rank fu x1) e154:=by
 unfold infer_ask_rank e154
 have da:=d154_at
 conv=>arg 1;simp only[bodyOf,Tryz.f154]
 have z0:=d154_at
 exact Wk
theorem ok154(fu:Nat)(x1:T_infer_ask)(r)(h:infer_ask_rank fu x1=some r):PureOK Tryz.prog 154 [.agg (c_T_infer_ask x1)] (e154 r):=pureT mixed [(C95 fu).ct] (ids:=[95]) rfl (by decide) i154 (C:=noC) (ci:=λcp=>noI) (λcp ok=>noI_ok) (λcp H=>w154 cp fu x1 (u95 H.1)) h
open Aw (d60)
def d60_at:=by have h:=tabL Aw.d60.eq_1;simp only[AllAt,Nat.zero_add,Nat.reduceAdd]at h;exact h
theorem i60:finfo Tryz.prog 60 d60=some ⟨bodyOf Tryz.f60,[.tmp 4,.tmp 5],[3,32]⟩:=finfo_at Tryz.func60 rfl (by kernel_rfl) (by kernel_rfl)
def e60:(Int×Int)->AV:=λr=> .tuple [.v (.int .i64 r.1),.v (.int .i64 r.2)]
set_option maxHeartbeats 20000000 in
theorem w60(cp:CallP)(fu:Nat)(x1:Int)(x2:Int):J (go Tryz.prog noC cp noI 0 [] d60 fu (fin Tryz.prog [.tmp 4,.tmp 5] [3,32]) (bodyOf Tryz.f60) (initE 0 [.v (.int .i64 x1),.v (.int .i64 x2)]) [] []) (shape_Axis fu x1 x2) e60:=by
 unfold shape_Axis e60
 have da:=d60_at
 conv=>arg 1;simp only[bodyOf,Tryz.f60]
 have z0:=d60_at
 exact Wk
theorem ok60(fu:Nat)(x1:Int)(x2:Int)(r)(h:shape_Axis fu x1 x2=some r):PureOK Tryz.prog 60 [.v (.int .i64 x1),.v (.int .i64 x2)] (e60 r):=pureT mixed [] (ids:=[]) rfl (by decide) i60 (C:=noC) (ci:=λcp=>noI) (λcp ok=>noI_ok) (λcp H=>w60 cp fu x1 x2) h
open Aw (d155)
def d155_at:=by have h:=tabL Aw.d155.eq_1;simp only[AllAt,Nat.zero_add,Nat.reduceAdd]at h;exact h
theorem i155:finfo Tryz.prog 155 d155=some ⟨bodyOf Tryz.f155,[.tmp 4,.tmp 5],[29,32]⟩:=finfo_at Tryz.func155 rfl (by kernel_rfl) (by kernel_rfl)
def e155:((List Bool)×Int)->AV:=λr=> .tuple [.fresh 1 r.1.length (lm (bk) r.1),.v (.int .i64 r.2)]
structure K60 (fu:Nat) (cp:CallP):Prop where
 ap: ∀ {a0:Int} {a1:Int} {r},shape_Axis fu a0 a1=some r->cp 60 [.v (.int .i64 a0),.v (.int .i64 a1)]=some (.tuple [.v (.int .i64 r.1),.v (.int .i64 r.2)])
noncomputable def C60(fu:Nat):Cm Tryz.prog (Int×Int) (Int×Int):=⟨60,λt=>[.v (.int .i64 t.1),.v (.int .i64 t.2)],λt=>shape_Axis fu t.1 t.2,e60,λt b h=>ok60 fu t.1 t.2 b h,Zi⟩
theorem u60{fu:Nat}{cp:CallP}(H:Hit cp (C60 fu).ct):K60 fu cp:=⟨λ {a0 a1 r} h=>(C60 fu).at H (a0,a1) r h⟩
def shape_Axes.m1:LJ 1 12 Unit ((List Bool)×Bool×Int):=⟨λr s e=>[(1,er e 1),(6,.own (0,19,0) 0 s.1.length s.1.length),(7,.v (.bool s.2.1)),(20,er e 20),(21,er e 21),(22,.v (.int .i64 s.2.2))],λr s h=>[((0,19,0),.sl true true 1 s.1.length (lm (bk) s.1))]⟩
def shape_Axes.j2:LJ 2 28 Unit ((List Bool)×Bool):=⟨λr t e=>[(6,.own (0,19,0) 0 t.1.length t.1.length),(7,.v (.bool t.2))],λr t h=>[((0,19,0),.sl true true 1 t.1.length (lm (bk) t.1))]⟩
def shape_Axes.j1:LJ 1 6 Unit Unit:=⟨λr t e=>[(0,er e 0),(1,er e 1)],λr t h=>[]⟩
set_option maxHeartbeats 20000000 in
open shape_Axes in
theorem w155(cp:CallP)(fu:Nat)(x1:List Int)(x2:Int)(H1:K60 fu cp):J (go Tryz.prog noC cp noI 0 [] d155 fu (fin Tryz.prog [.tmp 4,.tmp 5] [29,32]) (bodyOf Tryz.f155) (initE 0 [.arr x1.length (lm (ik .i64) x1),.v (.int .i64 x2)]) [] []) (shape_Axes fu x1 x2) e155:=by
 unfold shape_Axes e155
 have da:=d155_at
 conv=>arg 1;simp only[bodyOf,Tryz.f155]
 have z0:=d155_at
 exact Wk
theorem ok155(fu:Nat)(x1:List Int)(x2:Int)(r)(h:shape_Axes fu x1 x2=some r):PureOK Tryz.prog 155 [.arr x1.length (lm (ik .i64) x1),.v (.int .i64 x2)] (e155 r):=pureT mixed [(C60 fu).ct] (ids:=[60]) rfl (by decide) i155 (C:=noC) (ci:=λcp=>noI) (λcp ok=>noI_ok) (λcp H=>w155 cp fu x1 x2 (u60 H.1)) h
open Aw (d93)
def d93_at:=by have h:=tabL Aw.d93.eq_1;simp only[AllAt,Nat.zero_add,Nat.reduceAdd]at h;exact h
theorem i93:finfo Tryz.prog 93 d93=some ⟨bodyOf Tryz.f93,[.tmp 2],[4]⟩:=finfo_at Tryz.func93 rfl (by kernel_rfl) (by kernel_rfl)
def e93:Bool->AV:=λr=> .v (.bool r)
structure K154 (fu:Nat) (cp:CallP):Prop where
 ap: ∀ {a0:T_infer_ask} {r},infer_ask_rank fu a0=some r->cp 154 [.agg (c_T_infer_ask a0)]=some (.v (.int .i64 r))
noncomputable def C154(fu:Nat):Cm Tryz.prog T_infer_ask Int:=⟨154,λt=>[.agg (c_T_infer_ask t)],λt=>infer_ask_rank fu t,e154,λt b h=>ok154 fu t b h,Zi⟩
theorem u154{fu:Nat}{cp:CallP}(H:Hit cp (C154 fu).ct):K154 fu cp:=⟨λ {a0 r} h=>(C154 fu).at H a0 r h⟩
structure K155 (fu:Nat) (cp:CallP):Prop where
 ap: ∀ {a0:List Int} {a1:Int} {r},shape_Axes fu a0 a1=some r->cp 155 [.arr a0.length (lm (ik .i64) a0),.v (.int .i64 a1)]=some (.tuple [.fresh 1 r.1.length (lm (bk) r.1),.v (.int .i64 r.2)])
noncomputable def C155(fu:Nat):Cm Tryz.prog ((List Int)×Int) ((List Bool)×Int):=⟨155,λt=>[.arr t.1.length (lm (ik .i64) t.1),.v (.int .i64 t.2)],λt=>shape_Axes fu t.1 t.2,e155,λt b h=>ok155 fu t.1 t.2 b h,Zi⟩
theorem u155{fu:Nat}{cp:CallP}(H:Hit cp (C155 fu).ct):K155 fu cp:=⟨λ {a0 a1 r} h=>(C155 fu).at H (a0,a1) r h⟩
def infer_ask_attributes.j2:LJ 2 136 Unit Unit:=⟨λr t e=>[(1,er e 1),(3,er e 3),(4,er e 4),(17,er e 17),(58,er e 58),(99,er e 99),(131,.v (.bool (decide ((67:Int)=67))))],λr t h=>[((0,1,0),hr h (0,1,0)),((0,3,0),hr h (0,3,0))]⟩
def infer_ask_attributes.j1:LJ 1 104 Unit Unit:=⟨λr t e=>[(1,er e 1),(3,er e 3),(4,er e 4),(17,er e 17),(58,er e 58),(99,.v (.bool (decide ((67:Int)=80))))],λr t h=>[((0,1,0),hr h (0,1,0)),((0,3,0),hr h (0,3,0))]⟩
def infer_ask_attributes.j4:LJ 4 136 Unit Unit:=⟨λr t e=>[(1,er e 1),(3,er e 3),(4,er e 4),(17,er e 17),(58,er e 58),(99,er e 99),(131,.v (.bool (decide ((68:Int)=68))))],λr t h=>[((0,1,0),hr h (0,1,0)),((0,3,0),hr h (0,3,0))]⟩
def infer_ask_attributes.j3:LJ 3 104 Unit Unit:=⟨λr t e=>[(1,er e 1),(3,er e 3),(4,er e 4),(17,er e 17),(58,er e 58),(99,.v (.bool (decide ((68:Int)=80))))],λr t h=>[((0,1,0),hr h (0,1,0)),((0,3,0),hr h (0,3,0))]⟩
def infer_ask_attributes.j6:LJ 6 136 Unit Unit:=⟨λr t e=>[(1,er e 1),(3,er e 3),(4,er e 4),(17,er e 17),(58,er e 58),(99,er e 99),(131,.v (.bool (decide ((65:Int)=69))))],λr t h=>[((0,1,0),hr h (0,1,0)),((0,3,0),hr h (0,3,0))]⟩
def infer_ask_attributes.j5:LJ 5 104 Unit Unit:=⟨λr t e=>[(1,er e 1),(3,er e 3),(4,er e 4),(17,er e 17),(58,er e 58),(99,.v (.bool (decide ((65:Int)=80))))],λr t h=>[((0,1,0),hr h (0,1,0)),((0,3,0),hr h (0,3,0))]⟩
def infer_ask_attributes.j8:LJ 8 136 Unit Unit:=⟨λr t e=>[(1,er e 1),(3,er e 3),(4,er e 4),(17,er e 17),(58,er e 58),(99,er e 99),(131,.v (.bool (decide ((69:Int)=69))))],λr t h=>[((0,1,0),hr h (0,1,0)),((0,3,0),hr h (0,3,0))]⟩
def infer_ask_attributes.j7:LJ 7 104 Unit Unit:=⟨λr t e=>[(1,er e 1),(3,er e 3),(4,er e 4),(17,er e 17),(58,er e 58),(99,.v (.bool (decide ((69:Int)=80))))],λr t h=>[((0,1,0),hr h (0,1,0)),((0,3,0),hr h (0,3,0))]⟩
set_option maxHeartbeats 20000000 in
open infer_ask_attributes in
theorem w93(cp:CallP)(fu:Nat)(x1:T_infer_ask)(H1:K154 fu cp)(H2:K155 fu cp):J (go Tryz.prog noC cp noI 0 [] d93 fu (fin Tryz.prog [.tmp 2] [4]) (bodyOf Tryz.f93) (initE 0 [.agg (c_T_infer_ask x1)]) [] []) (infer_ask_attributes fu x1) e93:=by
 unfold infer_ask_attributes e93
 have da:=d93_at
 conv=>arg 1;simp only[bodyOf,Tryz.f93]
 have z0:=d93_at
 exact Wk
theorem ok93(fu:Nat)(x1:T_infer_ask)(r)(h:infer_ask_attributes fu x1=some r):PureOK Tryz.prog 93 [.agg (c_T_infer_ask x1)] (e93 r):=pureT mixed [(C154 fu).ct,(C155 fu).ct] (ids:=[154,155]) rfl (by decide) i93 (C:=noC) (ci:=λcp=>noI) (λcp ok=>noI_ok) (λcp H=>w93 cp fu x1 (u154 H.1) (u155 H.2.1)) h
open Aw (d159)
def d159_at:=by have h:=tabL Aw.d159.eq_1;simp only[AllAt,Nat.zero_add,Nat.reduceAdd]at h;exact h
theorem i159:finfo Tryz.prog 159 d159=some ⟨bodyOf Tryz.f159,[.tmp 2],[54]⟩:=finfo_at Tryz.func159 rfl (by kernel_rfl) (by kernel_rfl)
def e159:(List T_Val)->AV:=λr=> .fresh 8 r.length (fm c_T_Val r)
def infer_ask_lists.j1:LJ 1 6 Unit Unit:=⟨λr t e=>[(1,er e 1),(3,er e 3),(4,er e 4),(8,er e 8),(13,.v (.bool (decide ((67:Int)=65))))],λr t h=>[((0,1,0),hr h (0,1,0))]⟩
def infer_ask_lists.j2:LJ 2 6 Unit Unit:=⟨λr t e=>[(1,er e 1),(3,er e 3),(4,er e 4),(8,er e 8),(13,.v (.bool (decide ((68:Int)=65))))],λr t h=>[((0,1,0),hr h (0,1,0))]⟩
def infer_ask_lists.m1:LJ 1 36 Unit ((List T_Val)×Int):=⟨λr s e=>[(1,er e 1),(4,er e 4),(5,.own (0,5,77) 0 s.1.length s.1.length),(6,.v (.int .i64 s.2))],λr s h=>[((0,1,0),hr h (0,1,0)),((0,5,77),.sl true true 8 s.1.length (fm c_T_Val s.1))]⟩
def infer_ask_lists.j3:LJ 3 32 Unit Unit:=⟨λr t e=>[(1,er e 1),(3,er e 3),(4,er e 4)],λr t h=>[((0,1,0),hr h (0,1,0))]⟩
def infer_ask_lists.j4:LJ 4 6 Unit Unit:=⟨λr t e=>[(1,er e 1),(3,er e 3),(4,er e 4),(8,er e 8),(13,.v (.bool (decide ((69:Int)=65))))],λr t h=>[((0,1,0),hr h (0,1,0))]⟩
set_option maxHeartbeats 20000000 in
open infer_ask_lists in
theorem w159(cp:CallP)(fu:Nat)(x1:T_infer_ask)(H1:K91 fu cp)(H2:K107 fu cp):J (go Tryz.prog noC cp noI 0 [] d159 fu (fin Tryz.prog [.tmp 2] [54]) (bodyOf Tryz.f159) (initE 0 [.agg (c_T_infer_ask x1)]) [] []) (infer_ask_lists fu x1) e159:=by
 unfold infer_ask_lists e159
 have da:=d159_at
 conv=>arg 1;simp only[bodyOf,Tryz.f159]
 have z0:=d159_at
 exact Wk
theorem ok159(fu:Nat)(x1:T_infer_ask)(r)(h:infer_ask_lists fu x1=some r):PureOK Tryz.prog 159 [.agg (c_T_infer_ask x1)] (e159 r):=pureT mixed [(C91 fu).ct,(C107 fu).ct] (ids:=[91,107]) rfl (by decide) i159 (C:=noC) (ci:=λcp=>noI) (λcp ok=>noI_ok) (λcp H=>w159 cp fu x1 (u91 H.1) (u107 H.2.1)) h
open Aw (d195)
def d195_at:=by have h:=tabL Aw.d195.eq_1;simp only[AllAt,Nat.zero_add,Nat.reduceAdd]at h;exact h
theorem i195:finfo Tryz.prog 195 d195=some ⟨bodyOf Tryz.f195,[.tmp 4],[3]⟩:=finfo_at Tryz.func195 rfl (by kernel_rfl) (by kernel_rfl)
def e195:Int->AV:=λr=> .v (.int .i64 r)
set_option maxHeartbeats 20000000 in
theorem w195(cp:CallP)(fu:Nat)(x1:List T_Val)(p1:T_Val→Option Bool)(fv_p1:FuncId)(ca_p1:List AV)(cap_p1:Capt ca_p1)(hp_p1: ∀ (y0:T_Val) r,p1 y0=some r→cp fv_p1 ((.agg (c_T_Val y0))::ca_p1)=some (.v (.bool r))):J (go Tryz.prog noC cp noI 0 [] d195 fu (fin Tryz.prog [.tmp 4] [3]) (bodyOf Tryz.f195) (initE 0 [.arr x1.length (fm c_T_Val x1),.fn fv_p1 [] ca_p1]) [] []) (slices_IndexFunc_api_Val_api_Val fu x1 p1) e195:=by
 unfold slices_IndexFunc_api_Val_api_Val e195
 have da:=d195_at
 have c4_p1:=λg=>(cap_p1.1 g).1;have c3_p1:=λg=>(cap_p1.1 g).2.1;have b4_p1:=λg=>(cap_p1.1 g).2.2.1;have b3_p1:=λg=>(cap_p1.1 g).2.2.2;have nm_p1:=cap_p1.2
 conv=>arg 1;simp (disch:=first|exact Zd|fail) only[bodyOf,Tryz.f195,ZZ,d195_at,simprocAttr,c4_p1,c3_p1,b4_p1,b3_p1,nm_p1]
 refine J.eq go_seq ?_
 conv=>arg 1;simp (disch:=first|exact Zd|fail) only[ZZ,d195_at,simprocAttr,c4_p1,c3_p1,b4_p1,b3_p1,nm_p1]
 unfold slices_IndexFunc_api_Val_api_Val.W1
 refine J.loop (λ(s:Int)=>([(0,.arr x1.length (fm c_T_Val x1)),(1,.fn fv_p1 [] ca_p1),(7,.v (.int .i64 (x1.length:Int))),(8,.v (.int .i64 s))],[])) (λnext s=>slices_IndexFunc_api_Val_api_Val.L1 fu p1 x1 next s) (s0:=0) ?_ ?_ ?_
 ·exact Ze
 ·exact Zh
 rintro nx1 k1 hn1 x4
 show J _ (slices_IndexFunc_api_Val_api_Val.L1 fu p1 x1 nx1 x4) _
 unfold slices_IndexFunc_api_Val_api_Val.L1
 conv=>arg 1;simp (disch:=first|exact Zd|fail) only[ZZ,d195_at,simprocAttr,c4_p1,c3_p1,b4_p1,b3_p1,nm_p1]
 refine J.eq go_seq ?_
 conv=>arg 1;simp (disch:=first|exact Zd|fail) only[ZZ,d195_at,simprocAttr,c4_p1,c3_p1,b4_p1,b3_p1,nm_p1]
 refine J.ite (λh1=> ?_) (λh1=> ?_)
 ·have h1':=decide_eq_true h1
  have h1'':decide ((x1.length:Int)<=x4)=false:=decide_eq_false (by omega)
  conv=>arg 1;simp (disch:=first|exact Zd|fail) only[ZZ,d195_at,simprocAttr,c4_p1,c3_p1,b4_p1,b3_p1,nm_p1,h1'',h1']
  refine J.eq ret_seq ?_
  refine J.eq go_seq ?_
  refine J.at λx7 h2 h3 h4=> ?_
  refine J.bind λx8 h5=> ?_
  have e_h5:=hp_p1 _ _ h5
  try simp only[NN,NT,LN,simprocAttr,DT]at e_h5
  conv=>arg 1;simp (disch:=first|exact Zd|fail) only[ZZ,d195_at,simprocAttr,c4_p1,c3_p1,b4_p1,b3_p1,nm_p1,h1'',h1',fm_cut c_T_Val_len h4,fm_fit c_T_Val_len h4,fm_at c_T_Val_len h4,fm_at0 c_T_Val_len h4,e_h5]
  refine J.ite (λh6=> ?_) (λh6=> ?_)
  ·have h6':x8=true:=h6
   refine J.some ?_
   simp (maxSteps:=20000000) (disch:=first|exact Zd|fail) only[ZZ,d195_at,simprocAttr,c4_p1,c3_p1,b4_p1,b3_p1,nm_p1,h1'',h1',fm_cut c_T_Val_len h4,fm_fit c_T_Val_len h4,fm_at c_T_Val_len h4,fm_at0 c_T_Val_len h4,e_h5,h6',FN]
  ·have h6':x8=false:=Bool.eq_false_iff.2 h6
   conv=>arg 1;simp (disch:=first|exact Zd|fail) only[ZZ,d195_at,simprocAttr,c4_p1,c3_p1,b4_p1,b3_p1,nm_p1,h1'',h1',fm_cut c_T_Val_len h4,fm_fit c_T_Val_len h4,fm_at c_T_Val_len h4,fm_at0 c_T_Val_len h4,e_h5,h6']
   refine J.eq ret_seq ?_
   conv=>arg 1;simp (disch:=first|exact Zd|fail) only[ZZ,d195_at,simprocAttr,c4_p1,c3_p1,b4_p1,b3_p1,nm_p1,h1'',h1',fm_cut c_T_Val_len h4,fm_fit c_T_Val_len h4,fm_at c_T_Val_len h4,fm_at0 c_T_Val_len h4,e_h5,h6']
   refine J.next (s:=wk .i64 (x4+1)) hn1 ?_ ?_
   ·exact Ze
   ·exact Zh
 ·have h1':=decide_eq_false h1
  have h1'':decide ((x1.length:Int)<=x4)=true:=decide_eq_true (by omega)
  conv=>arg 1;simp (disch:=first|exact Zd|fail) only[ZZ,d195_at,simprocAttr,c4_p1,c3_p1,b4_p1,b3_p1,nm_p1,h1'',h1']
  refine J.eq ret_seq ?_
  refine J.some ?_
  simp (maxSteps:=20000000) (disch:=first|exact Zd|fail) only[ZZ,d195_at,simprocAttr,c4_p1,c3_p1,b4_p1,b3_p1,nm_p1,h1'',h1',FN]
noncomputable def t195(fu:Nat)(x1:List T_Val)(p1:T_Val->Option Bool)(fv_p1:FuncId)(ca_p1:List AV):CallP:=orE fv_p1 (mkC (λ(t:T_Val)=>((.agg (c_T_Val t))::ca_p1:List AV)) (λt=>p1 t) (λr=> .v (.bool r))) (noP)
theorem t195_ok(fu:Nat)(x1:List T_Val)(p1:T_Val->Option Bool)(fv_p1:FuncId)(ca_p1:List AV)(cap_p1:Capt ca_p1)(hp_p1: ∀ (y0:T_Val) r,p1 y0=some r->PureOK Tryz.prog fv_p1 ((.agg (c_T_Val y0))::ca_p1) (.v (.bool r))):CpOK Tryz.prog (t195 fu x1 p1 fv_p1 ca_p1):=orE_ok (noP_ok) (mkC_ok (λt b h=>hp_p1 t b h))
theorem ok195(fu:Nat)(x1:List T_Val)(p1:T_Val→Option Bool)(fv_p1:FuncId)(ca_p1:List AV)(cap_p1:Capt ca_p1)(hp_p1: ∀ (y0:T_Val) r,p1 y0=some r→PureOK Tryz.prog fv_p1 ((.agg (c_T_Val y0))::ca_p1) (.v (.bool r)))(r)(h:slices_IndexFunc_api_Val_api_Val fu x1 p1=some r):PureOK Tryz.prog 195 [.arr x1.length (fm c_T_Val x1),.fn fv_p1 [] ca_p1] (e195 r):=
  pure_J mixed (cp:=t195 fu x1 p1 fv_p1 ca_p1) (t195_ok fu x1 p1 fv_p1 ca_p1 cap_p1 hp_p1) noI_ok i195 (w195 _ fu x1 p1 fv_p1 ca_p1 cap_p1 (λy0 r h=>orE_hit (mkC_at (a:=y0) (by intro a b h;first|(exact rfl)|(simp only[INJ,IJ]at h;first|exact h|(simp_all [Prod.ext_iff]))) h))) h
open Aw (d160)
def d160_at:=by have h:=tabL Aw.d160.eq_1;simp only[AllAt,Nat.zero_add,Nat.reduceAdd]at h;exact h
theorem i160:finfo Tryz.prog 160 d160=some ⟨bodyOf Tryz.f160,[.tmp 4],[4]⟩:=finfo_at Tryz.func160 rfl (by kernel_rfl) (by kernel_rfl)
def e160:Bool->AV:=λr=> .v (.bool r)
set_option maxHeartbeats 20000000 in
theorem w160(cp:CallP)(fu:Nat)(x1:List T_Val)(p1:T_Val→Option Bool)(fv_p1:FuncId)(ca_p1:List AV)(cap_p1:Capt ca_p1)(hp_p1: ∀ (y0:T_Val) r,p1 y0=some r→cp fv_p1 ((.agg (c_T_Val y0))::ca_p1)=some (.v (.bool r)))(H195_0: ∀ (a0:List T_Val) r,slices_IndexFunc_api_Val_api_Val fu a0 p1=some r→cp 195 [.arr a0.length (fm c_T_Val a0),.fn fv_p1 [] ca_p1]=some (.v (.int .i64 r))):J (go Tryz.prog noC cp noI 0 [] d160 fu (fin Tryz.prog [.tmp 4] [4]) (bodyOf Tryz.f160) (initE 0 [.arr x1.length (fm c_T_Val x1),.fn fv_p1 [] ca_p1]) [] []) (slices_ContainsFunc_api_Val_api_Val fu x1 p1) e160:=by
 unfold slices_ContainsFunc_api_Val_api_Val e160
 have da:=d160_at
 have c4_p1:=λg=>(cap_p1.1 g).1;have c3_p1:=λg=>(cap_p1.1 g).2.1;have b4_p1:=λg=>(cap_p1.1 g).2.2.1;have b3_p1:=λg=>(cap_p1.1 g).2.2.2;have nm_p1:=cap_p1.2
 refine J.bind λx2 h1=> ?_
 have e_h1:=H195_0 _ _ h1
 try simp only[NN,NT,LN,simprocAttr,DT]at e_h1
 refine J.some ?_
 simp (maxSteps:=20000000) (disch:=first|exact Zd|fail) only[bodyOf,Tryz.f160,ZZ,d160_at,simprocAttr,c4_p1,c3_p1,b4_p1,b3_p1,nm_p1,e_h1,FN]
noncomputable def t160(fu:Nat)(x1:List T_Val)(p1:T_Val->Option Bool)(fv_p1:FuncId)(ca_p1:List AV):CallP:=orE 195 (mkC (λ(t:List T_Val)=>([.arr t.length (fm c_T_Val t),.fn fv_p1 [] ca_p1]:List AV)) (λt=>slices_IndexFunc_api_Val_api_Val fu t p1) e195) (orE fv_p1 (mkC (λ(t:T_Val)=>((.agg (c_T_Val t))::ca_p1:List AV)) (λt=>p1 t) (λr=> .v (.bool r))) (noP))
theorem t160_ok(fu:Nat)(x1:List T_Val)(p1:T_Val->Option Bool)(fv_p1:FuncId)(ca_p1:List AV)(cap_p1:Capt ca_p1)(hp_p1: ∀ (y0:T_Val) r,p1 y0=some r->PureOK Tryz.prog fv_p1 ((.agg (c_T_Val y0))::ca_p1) (.v (.bool r))):CpOK Tryz.prog (t160 fu x1 p1 fv_p1 ca_p1):=orE_ok (orE_ok (noP_ok) (mkC_ok (λt b h=>hp_p1 t b h))) (mkC_ok (λt b h=>ok195 fu t p1 fv_p1 ca_p1 cap_p1 hp_p1 b h))
theorem ok160(fu:Nat)(x1:List T_Val)(p1:T_Val→Option Bool)(fv_p1:FuncId)(ca_p1:List AV)(cap_p1:Capt ca_p1)(hp_p1: ∀ (y0:T_Val) r,p1 y0=some r→PureOK Tryz.prog fv_p1 ((.agg (c_T_Val y0))::ca_p1) (.v (.bool r)))(r)(h:slices_ContainsFunc_api_Val_api_Val fu x1 p1=some r):PureOK Tryz.prog 160 [.arr x1.length (fm c_T_Val x1),.fn fv_p1 [] ca_p1] (e160 r):=
  pure_J mixed (cp:=t160 fu x1 p1 fv_p1 ca_p1) (t160_ok fu x1 p1 fv_p1 ca_p1 cap_p1 hp_p1) noI_ok i160 (w160 _ fu x1 p1 fv_p1 ca_p1 cap_p1 (λy0 r h=>orE_skip (λhfv=>mkC_none (by intro t h;simp at h)) (orE_hit (mkC_at (a:=y0) (by intro a b h;first|(exact rfl)|(simp only[INJ,IJ]at h;first|exact h|(simp_all [Prod.ext_iff]))) h))) (λa0 r h=>orE_hit (mkC_at (a:=a0) (by intro a b h;first|(exact rfl)|(simp only[INJ,IJ]at h;first|exact h|(simp_all [Prod.ext_iff]))) h))) h
open Aw (d168)
def d168_at:=by have h:=tabL Aw.d168.eq_1;simp only[AllAt,Nat.zero_add,Nat.reduceAdd]at h;exact h
theorem i168:finfo Tryz.prog 168 d168=some ⟨bodyOf Tryz.f168,[.tmp 4],[4]⟩:=finfo_at Tryz.func168 rfl (by kernel_rfl) (by kernel_rfl)
def e168:Bool->AV:=λr=> .v (.bool r)
def slices_Equal_int.m1:LJ 1 8 Unit Int:=⟨λr s e=>[(0,er e 0),(1,er e 1),(12,er e 12),(13,.v (.int .i64 s))],λr s h=>[]⟩
set_option maxHeartbeats 20000000 in
open slices_Equal_int in
theorem w168(cp:CallP)(fu:Nat)(x1:List Int)(x2:List Int):J (go Tryz.prog noC cp noI 0 [] d168 fu (fin Tryz.prog [.tmp 4] [4]) (bodyOf Tryz.f168) (initE 0 [.arr x1.length (lm (ik .i64) x1),.arr x2.length (lm (ik .i64) x2)]) [] []) (slices_Equal_int fu x1 x2) e168:=by
 unfold slices_Equal_int e168
 have da:=d168_at
 conv=>arg 1;simp only[bodyOf,Tryz.f168]
 have z0:=d168_at
 exact Wk
theorem ok168(fu:Nat)(x1:List Int)(x2:List Int)(r)(h:slices_Equal_int fu x1 x2=some r):PureOK Tryz.prog 168 [.arr x1.length (lm (ik .i64) x1),.arr x2.length (lm (ik .i64) x2)] (e168 r):=pureT mixed [] (ids:=[]) rfl (by decide) i168 (C:=noC) (ci:=λcp=>noI) (λcp ok=>noI_ok) (λcp H=>w168 cp fu x1 x2) h
open Aw (d162)
def d162_at:=by have h:=tabL Aw.d162.eq_1;simp only[AllAt,Nat.zero_add,Nat.reduceAdd]at h;exact h
theorem i162:finfo Tryz.prog 162 d162=some ⟨bodyOf Tryz.f162,[.tmp 2],[4]⟩:=finfo_at Tryz.func162 rfl (by kernel_rfl) (by kernel_rfl)
def e162:Bool->AV:=λr=> .v (.bool r)
structure K23 (fu:Nat) (cp:CallP):Prop where
 ap: ∀ {a0:T_Tensor} {r},tens_Check fu a0=some r->cp 23 [.agg (c_T_Tensor a0)]=some (.v (.int .i64 r))
noncomputable def C23(fu:Nat):Cm Tryz.prog T_Tensor Int:=⟨23,λt=>[.agg (c_T_Tensor t)],λt=>tens_Check fu t,e23,λt b h=>ok23 fu t b h,Zi⟩
theorem u23{fu:Nat}{cp:CallP}(H:Hit cp (C23 fu).ct):K23 fu cp:=⟨λ {a0 r} h=>(C23 fu).at H a0 r h⟩
structure K168 (fu:Nat) (cp:CallP):Prop where
 ap: ∀ {a0:List Int} {a1:List Int} {r},slices_Equal_int fu a0 a1=some r->cp 168 [.arr a0.length (lm (ik .i64) a0),.arr a1.length (lm (ik .i64) a1)]=some (.v (.bool r))
noncomputable def C168(fu:Nat):Cm Tryz.prog ((List Int)×(List Int)) Bool:=⟨168,λt=>[.arr t.1.length (lm (ik .i64) t.1),.arr t.2.length (lm (ik .i64) t.2)],λt=>slices_Equal_int fu t.1 t.2,e168,λt b h=>ok168 fu t.1 t.2 b h,Zi⟩
theorem u168{fu:Nat}{cp:CallP}(H:Hit cp (C168 fu).ct):K168 fu cp:=⟨λ {a0 a1 r} h=>(C168 fu).at H (a0,a1) r h⟩
set_option maxHeartbeats 20000000 in
theorem w162(cp:CallP)(fu:Nat)(x1:T_Val)(H1:K23 fu cp)(H2:K168 fu cp):J (go Tryz.prog noC cp noI 0 [] d162 fu (fin Tryz.prog [.tmp 2] [4]) (bodyOf Tryz.f162) (initE 0 [.agg (c_T_Val x1)]) [] []) (infer_held fu x1) e162:=by
 unfold infer_held e162
 have da:=d162_at
 conv=>arg 1;simp only[bodyOf,Tryz.f162]
 have z0:=d162_at
 exact Wk
theorem ok162(fu:Nat)(x1:T_Val)(r)(h:infer_held fu x1=some r):PureOK Tryz.prog 162 [.agg (c_T_Val x1)] (e162 r):=pureT mixed [(C23 fu).ct,(C168 fu).ct] (ids:=[23,168]) rfl (by decide) i162 (C:=noC) (ci:=λcp=>noI) (λcp ok=>noI_ok) (λcp H=>w162 cp fu x1 (u23 H.1) (u168 H.2.1)) h
open Aw (d161)
def d161_at:=by have h:=tabL Aw.d161.eq_1;simp only[AllAt,Nat.zero_add,Nat.reduceAdd]at h;exact h
theorem i161:finfo Tryz.prog 161 d161=some ⟨bodyOf Tryz.f161,[.tmp 2],[4]⟩:=finfo_at Tryz.func161 rfl (by kernel_rfl) (by kernel_rfl)
def e161:Bool->AV:=λr=> .v (.bool r)
structure K162 (fu:Nat) (cp:CallP):Prop where
 ap: ∀ {a0:T_Val} {r},infer_held fu a0=some r->cp 162 [.agg (c_T_Val a0)]=some (.v (.bool r))
noncomputable def C162(fu:Nat):Cm Tryz.prog T_Val Bool:=⟨162,λt=>[.agg (c_T_Val t)],λt=>infer_held fu t,e162,λt b h=>ok162 fu t b h,Zi⟩
theorem u162{fu:Nat}{cp:CallP}(H:Hit cp (C162 fu).ct):K162 fu cp:=⟨λ {a0 r} h=>(C162 fu).at H a0 r h⟩
set_option maxHeartbeats 20000000 in
theorem w161(cp:CallP)(fu:Nat)(x1:T_Val)(H1:K162 fu cp):J (go Tryz.prog noC cp noI 0 [] d161 fu (fin Tryz.prog [.tmp 2] [4]) (bodyOf Tryz.f161) (initE 0 [.agg (c_T_Val x1)]) [] []) (infer_ask_told_1 fu x1) e161:=by
 unfold infer_ask_told_1 e161
 have da:=d161_at
 conv=>arg 1;simp only[bodyOf,Tryz.f161]
 have z0:=d161_at
 exact Wk
theorem ok161(fu:Nat)(x1:T_Val)(r)(h:infer_ask_told_1 fu x1=some r):PureOK Tryz.prog 161 [.agg (c_T_Val x1)] (e161 r):=pureT mixed [(C162 fu).ct] (ids:=[162]) rfl (by decide) i161 (C:=noC) (ci:=λcp=>noI) (λcp ok=>noI_ok) (λcp H=>w161 cp fu x1 (u162 H.1)) h
open Aw (d163)
def d163_at:=by have h:=tabL Aw.d163.eq_1;simp only[AllAt,Nat.zero_add,Nat.reduceAdd]at h;exact h
theorem i163:finfo Tryz.prog 163 d163=some ⟨bodyOf Tryz.f163,[.tmp 2],[4]⟩:=finfo_at Tryz.func163 rfl (by kernel_rfl) (by kernel_rfl)
def e163:Bool->AV:=λr=> .v (.bool r)
set_option maxHeartbeats 20000000 in
theorem w163(cp:CallP)(fu:Nat)(x1:T_Val):J (go Tryz.prog noC cp noI 0 [] d163 fu (fin Tryz.prog [.tmp 2] [4]) (bodyOf Tryz.f163) (initE 0 [.agg (c_T_Val x1)]) [] []) (infer_ask_told_2 fu x1) e163:=by
 unfold infer_ask_told_2 e163
 have da:=d163_at
 conv=>arg 1;simp only[bodyOf,Tryz.f163]
 have z0:=d163_at
 exact Wk
theorem ok163(fu:Nat)(x1:T_Val)(r)(h:infer_ask_told_2 fu x1=some r):PureOK Tryz.prog 163 [.agg (c_T_Val x1)] (e163 r):=pureT mixed [] (ids:=[]) rfl (by decide) i163 (C:=noC) (ci:=λcp=>noI) (λcp ok=>noI_ok) (λcp H=>w163 cp fu x1) h
open Aw (d196)
def d196_at:=by have h:=tabL Aw.d196.eq_1;simp only[AllAt,Nat.zero_add,Nat.reduceAdd]at h;exact h
theorem i196:finfo Tryz.prog 196 d196=some ⟨bodyOf Tryz.f196,[.tmp 4],[3]⟩:=finfo_at Tryz.func196 rfl (by kernel_rfl) (by kernel_rfl)
def e196:Int->AV:=λr=> .v (.int .i64 r)
set_option maxHeartbeats 20000000 in
theorem w196(cp:CallP)(fu:Nat)(x1:List Int)(p1:Int→Option Bool)(fv_p1:FuncId)(ca_p1:List AV)(cap_p1:Capt ca_p1)(hp_p1: ∀ (y0:Int) r,p1 y0=some r→cp fv_p1 ((.v (.int .i64 y0))::ca_p1)=some (.v (.bool r))):J (go Tryz.prog noC cp noI 0 [] d196 fu (fin Tryz.prog [.tmp 4] [3]) (bodyOf Tryz.f196) (initE 0 [.arr x1.length (lm (ik .i64) x1),.fn fv_p1 [] ca_p1]) [] []) (slices_IndexFunc_int64 fu x1 p1) e196:=by
 unfold slices_IndexFunc_int64 e196
 have da:=d196_at
 have c4_p1:=λg=>(cap_p1.1 g).1;have c3_p1:=λg=>(cap_p1.1 g).2.1;have b4_p1:=λg=>(cap_p1.1 g).2.2.1;have b3_p1:=λg=>(cap_p1.1 g).2.2.2;have nm_p1:=cap_p1.2
 conv=>arg 1;simp (disch:=first|exact Zd|fail) only[bodyOf,Tryz.f196,ZZ,d196_at,simprocAttr,c4_p1,c3_p1,b4_p1,b3_p1,nm_p1]
 refine J.eq go_seq ?_
 conv=>arg 1;simp (disch:=first|exact Zd|fail) only[ZZ,d196_at,simprocAttr,c4_p1,c3_p1,b4_p1,b3_p1,nm_p1]
 unfold slices_IndexFunc_int64.W1
 refine J.loop (λ(s:Int)=>([(0,.arr x1.length (lm (ik .i64) x1)),(1,.fn fv_p1 [] ca_p1),(7,.v (.int .i64 (x1.length:Int))),(8,.v (.int .i64 s))],[])) (λnext s=>slices_IndexFunc_int64.L1 fu p1 x1 next s) (s0:=0) ?_ ?_ ?_
 ·exact Ze
 ·exact Zh
 rintro nx1 k1 hn1 x4
 show J _ (slices_IndexFunc_int64.L1 fu p1 x1 nx1 x4) _
 unfold slices_IndexFunc_int64.L1
 conv=>arg 1;simp (disch:=first|exact Zd|fail) only[ZZ,d196_at,simprocAttr,c4_p1,c3_p1,b4_p1,b3_p1,nm_p1]
 refine J.eq go_seq ?_
 conv=>arg 1;simp (disch:=first|exact Zd|fail) only[ZZ,d196_at,simprocAttr,c4_p1,c3_p1,b4_p1,b3_p1,nm_p1]
 refine J.ite (λh1=> ?_) (λh1=> ?_)
 ·have h1':=decide_eq_true h1
  have h1'':decide ((x1.length:Int)<=x4)=false:=decide_eq_false (by omega)
  conv=>arg 1;simp (disch:=first|exact Zd|fail) only[ZZ,d196_at,simprocAttr,c4_p1,c3_p1,b4_p1,b3_p1,nm_p1,h1'',h1']
  refine J.eq ret_seq ?_
  refine J.eq go_seq ?_
  refine J.at λx7 h2 h3 h4=> ?_
  refine J.bind λx8 h5=> ?_
  have e_h5:=hp_p1 _ _ h5
  try simp only[NN,NT,LN,simprocAttr,DT]at e_h5
  conv=>arg 1;simp (disch:=first|exact Zd|fail) only[ZZ,d196_at,simprocAttr,c4_p1,c3_p1,b4_p1,b3_p1,nm_p1,h1'',h1',lm_ik h4,e_h5]
  refine J.ite (λh6=> ?_) (λh6=> ?_)
  ·have h6':x8=true:=h6
   refine J.some ?_
   simp (maxSteps:=20000000) (disch:=first|exact Zd|fail) only[ZZ,d196_at,simprocAttr,c4_p1,c3_p1,b4_p1,b3_p1,nm_p1,h1'',h1',lm_ik h4,e_h5,h6',FN]
  ·have h6':x8=false:=Bool.eq_false_iff.2 h6
   conv=>arg 1;simp (disch:=first|exact Zd|fail) only[ZZ,d196_at,simprocAttr,c4_p1,c3_p1,b4_p1,b3_p1,nm_p1,h1'',h1',lm_ik h4,e_h5,h6']
   refine J.eq ret_seq ?_
   conv=>arg 1;simp (disch:=first|exact Zd|fail) only[ZZ,d196_at,simprocAttr,c4_p1,c3_p1,b4_p1,b3_p1,nm_p1,h1'',h1',lm_ik h4,e_h5,h6']
   refine J.next (s:=wk .i64 (x4+1)) hn1 ?_ ?_
   ·exact Ze
   ·exact Zh
 ·have h1':=decide_eq_false h1
  have h1'':decide ((x1.length:Int)<=x4)=true:=decide_eq_true (by omega)
  conv=>arg 1;simp (disch:=first|exact Zd|fail) only[ZZ,d196_at,simprocAttr,c4_p1,c3_p1,b4_p1,b3_p1,nm_p1,h1'',h1']
  refine J.eq ret_seq ?_
  refine J.some ?_
  simp (maxSteps:=20000000) (disch:=first|exact Zd|fail) only[ZZ,d196_at,simprocAttr,c4_p1,c3_p1,b4_p1,b3_p1,nm_p1,h1'',h1',FN]
noncomputable def t196(fu:Nat)(x1:List Int)(p1:Int->Option Bool)(fv_p1:FuncId)(ca_p1:List AV):CallP:=orE fv_p1 (mkC (λ(t:Int)=>((.v (.int .i64 t))::ca_p1:List AV)) (λt=>p1 t) (λr=> .v (.bool r))) (noP)
theorem t196_ok(fu:Nat)(x1:List Int)(p1:Int->Option Bool)(fv_p1:FuncId)(ca_p1:List AV)(cap_p1:Capt ca_p1)(hp_p1: ∀ (y0:Int) r,p1 y0=some r->PureOK Tryz.prog fv_p1 ((.v (.int .i64 y0))::ca_p1) (.v (.bool r))):CpOK Tryz.prog (t196 fu x1 p1 fv_p1 ca_p1):=orE_ok (noP_ok) (mkC_ok (λt b h=>hp_p1 t b h))
theorem ok196(fu:Nat)(x1:List Int)(p1:Int→Option Bool)(fv_p1:FuncId)(ca_p1:List AV)(cap_p1:Capt ca_p1)(hp_p1: ∀ (y0:Int) r,p1 y0=some r→PureOK Tryz.prog fv_p1 ((.v (.int .i64 y0))::ca_p1) (.v (.bool r)))(r)(h:slices_IndexFunc_int64 fu x1 p1=some r):PureOK Tryz.prog 196 [.arr x1.length (lm (ik .i64) x1),.fn fv_p1 [] ca_p1] (e196 r):=
  pure_J mixed (cp:=t196 fu x1 p1 fv_p1 ca_p1) (t196_ok fu x1 p1 fv_p1 ca_p1 cap_p1 hp_p1) noI_ok i196 (w196 _ fu x1 p1 fv_p1 ca_p1 cap_p1 (λy0 r h=>orE_hit (mkC_at (a:=y0) (by intro a b h;first|(exact rfl)|(simp only[INJ,IJ]at h;first|exact h|(simp_all [Prod.ext_iff]))) h))) h
open Aw (d165)
def d165_at:=by have h:=tabL Aw.d165.eq_1;simp only[AllAt,Nat.zero_add,Nat.reduceAdd]at h;exact h
theorem i165:finfo Tryz.prog 165 d165=some ⟨bodyOf Tryz.f165,[.tmp 4],[4]⟩:=finfo_at Tryz.func165 rfl (by kernel_rfl) (by kernel_rfl)
def e165:Bool->AV:=λr=> .v (.bool r)
set_option maxHeartbeats 20000000 in
theorem w165(cp:CallP)(fu:Nat)(x1:List Int)(p1:Int→Option Bool)(fv_p1:FuncId)(ca_p1:List AV)(cap_p1:Capt ca_p1)(hp_p1: ∀ (y0:Int) r,p1 y0=some r→cp fv_p1 ((.v (.int .i64 y0))::ca_p1)=some (.v (.bool r)))(H196_0: ∀ (a0:List Int) r,slices_IndexFunc_int64 fu a0 p1=some r→cp 196 [.arr a0.length (lm (ik .i64) a0),.fn fv_p1 [] ca_p1]=some (.v (.int .i64 r))):J (go Tryz.prog noC cp noI 0 [] d165 fu (fin Tryz.prog [.tmp 4] [4]) (bodyOf Tryz.f165) (initE 0 [.arr x1.length (lm (ik .i64) x1),.fn fv_p1 [] ca_p1]) [] []) (slices_ContainsFunc_int64 fu x1 p1) e165:=by
 unfold slices_ContainsFunc_int64 e165
 have da:=d165_at
 have c4_p1:=λg=>(cap_p1.1 g).1;have c3_p1:=λg=>(cap_p1.1 g).2.1;have b4_p1:=λg=>(cap_p1.1 g).2.2.1;have b3_p1:=λg=>(cap_p1.1 g).2.2.2;have nm_p1:=cap_p1.2
 refine J.bind λx2 h1=> ?_
 have e_h1:=H196_0 _ _ h1
 try simp only[NN,NT,LN,simprocAttr,DT]at e_h1
 refine J.some ?_
 simp (maxSteps:=20000000) (disch:=first|exact Zd|fail) only[bodyOf,Tryz.f165,ZZ,d165_at,simprocAttr,c4_p1,c3_p1,b4_p1,b3_p1,nm_p1,e_h1,FN]
noncomputable def t165(fu:Nat)(x1:List Int)(p1:Int->Option Bool)(fv_p1:FuncId)(ca_p1:List AV):CallP:=orE 196 (mkC (λ(t:List Int)=>([.arr t.length (lm (ik .i64) t),.fn fv_p1 [] ca_p1]:List AV)) (λt=>slices_IndexFunc_int64 fu t p1) e196) (orE fv_p1 (mkC (λ(t:Int)=>((.v (.int .i64 t))::ca_p1:List AV)) (λt=>p1 t) (λr=> .v (.bool r))) (noP))
theorem t165_ok(fu:Nat)(x1:List Int)(p1:Int->Option Bool)(fv_p1:FuncId)(ca_p1:List AV)(cap_p1:Capt ca_p1)(hp_p1: ∀ (y0:Int) r,p1 y0=some r->PureOK Tryz.prog fv_p1 ((.v (.int .i64 y0))::ca_p1) (.v (.bool r))):CpOK Tryz.prog (t165 fu x1 p1 fv_p1 ca_p1):=orE_ok (orE_ok (noP_ok) (mkC_ok (λt b h=>hp_p1 t b h))) (mkC_ok (λt b h=>ok196 fu t p1 fv_p1 ca_p1 cap_p1 hp_p1 b h))
theorem ok165(fu:Nat)(x1:List Int)(p1:Int→Option Bool)(fv_p1:FuncId)(ca_p1:List AV)(cap_p1:Capt ca_p1)(hp_p1: ∀ (y0:Int) r,p1 y0=some r→PureOK Tryz.prog fv_p1 ((.v (.int .i64 y0))::ca_p1) (.v (.bool r)))(r)(h:slices_ContainsFunc_int64 fu x1 p1=some r):PureOK Tryz.prog 165 [.arr x1.length (lm (ik .i64) x1),.fn fv_p1 [] ca_p1] (e165 r):=
  pure_J mixed (cp:=t165 fu x1 p1 fv_p1 ca_p1) (t165_ok fu x1 p1 fv_p1 ca_p1 cap_p1 hp_p1) noI_ok i165 (w165 _ fu x1 p1 fv_p1 ca_p1 cap_p1 (λy0 r h=>orE_skip (λhfv=>mkC_none (by intro t h;simp at h)) (orE_hit (mkC_at (a:=y0) (by intro a b h;first|(exact rfl)|(simp only[INJ,IJ]at h;first|exact h|(simp_all [Prod.ext_iff]))) h))) (λa0 r h=>orE_hit (mkC_at (a:=a0) (by intro a b h;first|(exact rfl)|(simp only[INJ,IJ]at h;first|exact h|(simp_all [Prod.ext_iff]))) h))) h
open Aw (d166)
def d166_at:=by have h:=tabL Aw.d166.eq_1;simp only[AllAt,Nat.zero_add,Nat.reduceAdd]at h;exact h
theorem i166:finfo Tryz.prog 166 d166=some ⟨bodyOf Tryz.f166,[.tmp 2],[4]⟩:=finfo_at Tryz.func166 rfl (by kernel_rfl) (by kernel_rfl)
def e166:Bool->AV:=λr=> .v (.bool r)
set_option maxHeartbeats 20000000 in
theorem w166(cp:CallP)(fu:Nat)(x1:Int):J (go Tryz.prog noC cp noI 0 [] d166 fu (fin Tryz.prog [.tmp 2] [4]) (bodyOf Tryz.f166) (initE 0 [.v (.int .i64 x1)]) [] []) (infer_ask_told_3_1 fu x1) e166:=by
 unfold infer_ask_told_3_1 e166
 have da:=d166_at
 conv=>arg 1;simp only[bodyOf,Tryz.f166]
 have z0:=d166_at
 exact Wk
theorem ok166(fu:Nat)(x1:Int)(r)(h:infer_ask_told_3_1 fu x1=some r):PureOK Tryz.prog 166 [.v (.int .i64 x1)] (e166 r):=pureT mixed [] (ids:=[]) rfl (by decide) i166 (C:=noC) (ci:=λcp=>noI) (λcp ok=>noI_ok) (λcp H=>w166 cp fu x1) h
open Aw (d164)
def d164_at:=by have h:=tabL Aw.d164.eq_1;simp only[AllAt,Nat.zero_add,Nat.reduceAdd]at h;exact h
theorem i164:finfo Tryz.prog 164 d164=some ⟨bodyOf Tryz.f164,[.tmp 2],[4]⟩:=finfo_at Tryz.func164 rfl (by kernel_rfl) (by kernel_rfl)
def e164:Bool->AV:=λr=> .v (.bool r)
structure K165 (fu:Nat) (cp:CallP):Prop where
 ap: ∀ {a0:List Int} {r},slices_ContainsFunc_int64 fu a0 (λy0=>infer_ask_told_3_1 fu y0)=some r->cp 165 [.arr a0.length (lm (ik .i64) a0),.fn 166 [] []]=some (.v (.bool r))
noncomputable def C165(fu:Nat):Cm Tryz.prog (List Int) Bool:=⟨165,λt=>[.arr t.length (lm (ik .i64) t),.fn 166 [] []],λt=>slices_ContainsFunc_int64 fu t (λy0=>infer_ask_told_3_1 fu y0),e165,λt b h=>ok165 fu t (λy0=>infer_ask_told_3_1 fu y0) 166 [] Capt.nil (λy0 r h=>ok166 fu y0 r h) b h,Zi⟩
theorem u165{fu:Nat}{cp:CallP}(H:Hit cp (C165 fu).ct):K165 fu cp:=⟨λ {a0 r} h=>(C165 fu).at H a0 r h⟩
set_option maxHeartbeats 20000000 in
theorem w164(cp:CallP)(fu:Nat)(x1:T_Val)(H1:K165 fu cp):J (go Tryz.prog noC cp noI 0 [] d164 fu (fin Tryz.prog [.tmp 2] [4]) (bodyOf Tryz.f164) (initE 0 [.agg (c_T_Val x1)]) [] []) (infer_ask_told_3 fu x1) e164:=by
 unfold infer_ask_told_3 e164
 have da:=d164_at
 conv=>arg 1;simp only[bodyOf,Tryz.f164]
 have z0:=d164_at
 exact Wk
theorem ok164(fu:Nat)(x1:T_Val)(r)(h:infer_ask_told_3 fu x1=some r):PureOK Tryz.prog 164 [.agg (c_T_Val x1)] (e164 r):=pureT mixed [(C165 fu).ct] (ids:=[165]) rfl (by decide) i164 (C:=noC) (ci:=λcp=>noI) (λcp ok=>noI_ok) (λcp H=>w164 cp fu x1 (u165 H.1)) h
open Aw (d94)
def d94_at:=by have h:=tabL Aw.d94.eq_1;simp only[AllAt,Nat.zero_add,Nat.reduceAdd]at h;exact h
theorem i94:finfo Tryz.prog 94 d94=some ⟨bodyOf Tryz.f94,[.tmp 2],[32]⟩:=finfo_at Tryz.func94 rfl (by kernel_rfl) (by kernel_rfl)
def e94:Int->AV:=λr=> .v (.int .i64 r)
set_option maxHeartbeats 20000000 in
theorem w94(cp:CallP)(fu:Nat)(x1:T_infer_ask)(H159_0: ∀ (a0:T_infer_ask) r,infer_ask_lists fu a0=some r→cp 159 [.agg (c_T_infer_ask a0)]=some (.fresh 8 r.length (fm c_T_Val r)))(H160_0: ∀ (a0:List T_Val) r,slices_ContainsFunc_api_Val_api_Val fu a0 (fun y0=>infer_ask_told_1 fu y0)=some r→cp 160 [.arr a0.length (fm c_T_Val a0),.fn 161 [] []]=some (.v (.bool r)))(H160_1: ∀ (a0:List T_Val) r,slices_ContainsFunc_api_Val_api_Val fu a0 (fun y0=>infer_ask_told_2 fu y0)=some r→cp 160 [.arr a0.length (fm c_T_Val a0),.fn 163 [] []]=some (.v (.bool r)))(H160_2: ∀ (a0:List T_Val) r,slices_ContainsFunc_api_Val_api_Val fu a0 (fun y0=>infer_ask_told_3 fu y0)=some r→cp 160 [.arr a0.length (fm c_T_Val a0),.fn 164 [] []]=some (.v (.bool r))):J (go Tryz.prog noC cp noI 0 [] d94 fu (fin Tryz.prog [.tmp 2] [32]) (bodyOf Tryz.f94) (initE 0 [.agg (c_T_infer_ask x1)]) [] []) (infer_ask_told fu x1) e94:=by
 unfold infer_ask_told e94
 have da:=d94_at
 refine J.spl (λh1=> ?_) (λh1=> ?_)
 ·refine J.bind fun x2 h2=> ?_
  have e_h2:=H159_0 _ _ h2
  try simp only[NN,NT,LN,simprocAttr,DT]at e_h2
  conv=>arg 1;simp (disch:=first|exact Zd|fail) only[bodyOf,Tryz.f94,ZZ,d94_at,simprocAttr,h1,e_h2]
  refine J.eq go_seq ?_
  refine J.bind λx3 h3=> ?_
  have e_h3:=H160_0 _ _ h3
  try simp only[NN,NT,LN,simprocAttr,DT]at e_h3
  refine Jc ?_
  refine J.ite (λh4=> ?_) (λh4=> ?_)
  ·have h4':x3=true:=h4
   refine J.some ?_
   exact Js
  ·have h4':x3=false:=Bool.eq_false_iff.2 h4
   refine J.bind λx4 h5=> ?_
   have e_h5:=H160_1 _ _ h5
   try simp only[NN,NT,LN,simprocAttr,DT]at e_h5
   refine Jc ?_
   refine J.ite (λh6=> ?_) (λh6=> ?_)
   ·have h6':x4=true:=h6
    refine J.some ?_
    exact Js
   ·have h6':x4=false:=Bool.eq_false_iff.2 h6
    refine Jc ?_
    refine J.eq go_seq ?_
    refine J.bind λx5 h7=> ?_
    have e_h7:=H160_2 _ _ h7
    try simp only[NN,NT,LN,simprocAttr,DT]at e_h7
    refine Jc ?_
    refine J.eq ret_seq ?_
    refine Jc ?_
    refine J.ite (λh8=> ?_) (λh8=> ?_)
    ·have h8':x5=true:=h8
     refine J.some ?_
     exact Js
    ·have h8':x5=false:=Bool.eq_false_iff.2 h8
     refine Jc ?_
     refine J.eq ret_seq ?_
     refine J.some ?_
     exact Js
 ·refine J.spl (fun h9=> ?_) (fun h9=> ?_)
  ·refine J.bind fun x6 h10=> ?_
   have e_h10:=H159_0 _ _ h10
   try simp only[NN,NT,LN,simprocAttr,DT]at e_h10
   conv=>arg 1;simp (disch:=first|exact Zd|fail) only[bodyOf,Tryz.f94,ZZ,d94_at,simprocAttr,h9,e_h10]
   refine J.eq go_seq ?_
   refine J.bind λx7 h11=> ?_
   have e_h11:=H160_0 _ _ h11
   try simp only[NN,NT,LN,simprocAttr,DT]at e_h11
   refine Jc ?_
   refine J.ite (λh12=> ?_) (λh12=> ?_)
   ·have h12':x7=true:=h12
    refine J.some ?_
    exact Js
   ·have h12':x7=false:=Bool.eq_false_iff.2 h12
    refine J.bind λx8 h13=> ?_
    have e_h13:=H160_1 _ _ h13
    try simp only[NN,NT,LN,simprocAttr,DT]at e_h13
    refine Jc ?_
    refine J.ite (λh14=> ?_) (λh14=> ?_)
    ·have h14':x8=true:=h14
     refine J.some ?_
     exact Js
    ·have h14':x8=false:=Bool.eq_false_iff.2 h14
     refine Jc ?_
     refine J.eq go_seq ?_
     refine J.bind λx9 h15=> ?_
     have e_h15:=H160_2 _ _ h15
     try simp only[NN,NT,LN,simprocAttr,DT]at e_h15
     refine Jc ?_
     refine J.eq ret_seq ?_
     refine Jc ?_
     refine J.ite (λh16=> ?_) (λh16=> ?_)
     ·have h16':x9=true:=h16
      refine J.some ?_
      exact Js
     ·have h16':x9=false:=Bool.eq_false_iff.2 h16
      refine Jc ?_
      refine J.eq ret_seq ?_
      refine J.some ?_
      exact Js
  ·refine J.spl (fun h17=> ?_) (fun h17=> ?_)
   ·refine J.bind fun x10 h18=> ?_
    have e_h18:=H159_0 _ _ h18
    try simp only[NN,NT,LN,simprocAttr,DT]at e_h18
    conv=>arg 1;simp (disch:=first|exact Zd|fail) only[bodyOf,Tryz.f94,ZZ,d94_at,simprocAttr,h17,e_h18]
    refine J.eq go_seq ?_
    refine J.bind λx11 h19=> ?_
    have e_h19:=H160_0 _ _ h19
    try simp only[NN,NT,LN,simprocAttr,DT]at e_h19
    refine Jc ?_
    refine J.ite (λh20=> ?_) (λh20=> ?_)
    ·have h20':x11=true:=h20
     refine J.some ?_
     exact Js
    ·have h20':x11=false:=Bool.eq_false_iff.2 h20
     refine J.bind λx12 h21=> ?_
     have e_h21:=H160_1 _ _ h21
     try simp only[NN,NT,LN,simprocAttr,DT]at e_h21
     refine Jc ?_
     refine J.ite (λh22=> ?_) (λh22=> ?_)
     ·have h22':x12=true:=h22
      refine J.some ?_
      exact Js
     ·have h22':x12=false:=Bool.eq_false_iff.2 h22
      refine Jc ?_
      refine J.eq go_seq ?_
      refine J.bind λx13 h23=> ?_
      have e_h23:=H160_2 _ _ h23
      try simp only[NN,NT,LN,simprocAttr,DT]at e_h23
      refine Jc ?_
      refine J.eq ret_seq ?_
      refine Jc ?_
      refine J.ite (λh24=> ?_) (λh24=> ?_)
      ·have h24':x13=true:=h24
       refine J.some ?_
       exact Js
      ·have h24':x13=false:=Bool.eq_false_iff.2 h24
       refine Jc ?_
       refine J.eq ret_seq ?_
       refine J.some ?_
       exact Js
   ·refine J.chk fun h25=> ?_
    refine J.bind λx14 h26=> ?_
    have e_h26:=H159_0 _ _ h26
    try simp only[NN,NT,LN,simprocAttr,DT]at e_h26
    conv=>arg 1;simp (disch:=first|exact Zd|fail) only[bodyOf,Tryz.f94,ZZ,d94_at,simprocAttr,h25,e_h26]
    refine J.eq go_seq ?_
    refine J.bind λx15 h27=> ?_
    have e_h27:=H160_0 _ _ h27
    try simp only[NN,NT,LN,simprocAttr,DT]at e_h27
    refine Jc ?_
    refine J.ite (λh28=> ?_) (λh28=> ?_)
    ·have h28':x15=true:=h28
     refine J.some ?_
     exact Js
    ·have h28':x15=false:=Bool.eq_false_iff.2 h28
     refine J.bind λx16 h29=> ?_
     have e_h29:=H160_1 _ _ h29
     try simp only[NN,NT,LN,simprocAttr,DT]at e_h29
     refine Jc ?_
     refine J.ite (λh30=> ?_) (λh30=> ?_)
     ·have h30':x16=true:=h30
      refine J.some ?_
      exact Js
     ·have h30':x16=false:=Bool.eq_false_iff.2 h30
      refine Jc ?_
      refine J.eq go_seq ?_
      refine J.bind λx17 h31=> ?_
      have e_h31:=H160_2 _ _ h31
      try simp only[NN,NT,LN,simprocAttr,DT]at e_h31
      refine Jc ?_
      refine J.eq ret_seq ?_
      refine Jc ?_
      refine J.ite (λh32=> ?_) (λh32=> ?_)
      ·have h32':x17=true:=h32
       refine J.some ?_
       exact Js
      ·have h32':x17=false:=Bool.eq_false_iff.2 h32
       refine Jc ?_
       refine J.eq ret_seq ?_
       refine J.some ?_
       exact Js
noncomputable def t94(fu:Nat):CallP:=orE 159 (mkC (λ(t:T_infer_ask)=>([.agg (c_T_infer_ask t)]:List AV)) (λt=>infer_ask_lists fu t) e159) (orE 160 (mkC (λ(t:List T_Val)=>([.arr t.length (fm c_T_Val t),.fn 161 [] []]:List AV)) (λt=>slices_ContainsFunc_api_Val_api_Val fu t (λy0=>infer_ask_told_1 fu y0)) e160) (orE 160 (mkC (λ(t:List T_Val)=>([.arr t.length (fm c_T_Val t),.fn 163 [] []]:List AV)) (λt=>slices_ContainsFunc_api_Val_api_Val fu t (λy0=>infer_ask_told_2 fu y0)) e160) (orE 160 (mkC (λ(t:List T_Val)=>([.arr t.length (fm c_T_Val t),.fn 164 [] []]:List AV)) (λt=>slices_ContainsFunc_api_Val_api_Val fu t (λy0=>infer_ask_told_3 fu y0)) e160) (noP))))
theorem t94_ok(fu:Nat):CpOK Tryz.prog (t94 fu):=orE_ok (orE_ok (orE_ok (orE_ok (noP_ok) (mkC_ok (λt b h=>ok160 fu t (λy0=>infer_ask_told_3 fu y0) 164 [] Capt.nil (λy0 r h=>ok164 fu y0 r h) b h))) (mkC_ok (λt b h=>ok160 fu t (λy0=>infer_ask_told_2 fu y0) 163 [] Capt.nil (λy0 r h=>ok163 fu y0 r h) b h))) (mkC_ok (λt b h=>ok160 fu t (λy0=>infer_ask_told_1 fu y0) 161 [] Capt.nil (λy0 r h=>ok161 fu y0 r h) b h))) (mkC_ok (λt b h=>ok159 fu t b h))
theorem ok94(fu:Nat)(x1:T_infer_ask)(r)(h:infer_ask_told fu x1=some r):PureOK Tryz.prog 94 [.agg (c_T_infer_ask x1)] (e94 r):=
  pure_J mixed (cp:=t94 fu) (t94_ok fu) noI_ok i94 (w94 _ fu x1 (λa0 r h=>orE_hit (mkC_at (a:=a0) (by intro a b h;first|(exact rfl)|(simp only[INJ,IJ]at h;first|exact h|(simp_all [Prod.ext_iff]))) h)) (λa0 r h=>orE_miss (by decide) (orE_hit (mkC_at (a:=a0) (by intro a b h;first|(exact rfl)|(simp only[INJ,IJ]at h;first|exact h|(simp_all [Prod.ext_iff]))) h))) (λa0 r h=>orE_miss (by decide) (orE_next (mkC_none (by intro t h;simp at h)) (orE_hit (mkC_at (a:=a0) (by intro a b h;first|(exact rfl)|(simp only[INJ,IJ]at h;first|exact h|(simp_all [Prod.ext_iff]))) h)))) (λa0 r h=>orE_miss (by decide) (orE_next (mkC_none (by intro t h;simp at h)) (orE_next (mkC_none (by intro t h;simp at h)) (orE_hit (mkC_at (a:=a0) (by intro a b h;first|(exact rfl)|(simp only[INJ,IJ]at h;first|exact h|(simp_all [Prod.ext_iff]))) h)))))) h
open Aw (d43)
def d43_at:=by have h:=tabL Aw.d43.eq_1;simp only[AllAt,Nat.zero_add,Nat.reduceAdd]at h;exact h
theorem i43:finfo Tryz.prog 43 d43=some ⟨bodyOf Tryz.f43,[.tmp 2],[32]⟩:=finfo_at Tryz.func43 rfl (by kernel_rfl) (by kernel_rfl)
def e43:Int->AV:=λr=> .v (.int .i64 r)
structure K92 (fu:Nat) (cp:CallP):Prop where
 ap: ∀ {a0:T_infer_ask} {r},infer_ask_typed fu a0=some r->cp 92 [.agg (c_T_infer_ask a0)]=some (.v (.bool r))
noncomputable def C92(fu:Nat):Cm Tryz.prog T_infer_ask Bool:=⟨92,λt=>[.agg (c_T_infer_ask t)],λt=>infer_ask_typed fu t,e92,λt b h=>ok92 fu t b h,Zi⟩
theorem u92{fu:Nat}{cp:CallP}(H:Hit cp (C92 fu).ct):K92 fu cp:=⟨λ {a0 r} h=>(C92 fu).at H a0 r h⟩
structure K93 (fu:Nat) (cp:CallP):Prop where
 ap: ∀ {a0:T_infer_ask} {r},infer_ask_attributes fu a0=some r->cp 93 [.agg (c_T_infer_ask a0)]=some (.v (.bool r))
noncomputable def C93(fu:Nat):Cm Tryz.prog T_infer_ask Bool:=⟨93,λt=>[.agg (c_T_infer_ask t)],λt=>infer_ask_attributes fu t,e93,λt b h=>ok93 fu t b h,Zi⟩
theorem u93{fu:Nat}{cp:CallP}(H:Hit cp (C93 fu).ct):K93 fu cp:=⟨λ {a0 r} h=>(C93 fu).at H a0 r h⟩
structure K94 (fu:Nat) (cp:CallP):Prop where
 ap: ∀ {a0:T_infer_ask} {r},infer_ask_told fu a0=some r->cp 94 [.agg (c_T_infer_ask a0)]=some (.v (.int .i64 r))
noncomputable def C94(fu:Nat):Cm Tryz.prog T_infer_ask Int:=⟨94,λt=>[.agg (c_T_infer_ask t)],λt=>infer_ask_told fu t,e94,λt b h=>ok94 fu t b h,Zi⟩
theorem u94{fu:Nat}{cp:CallP}(H:Hit cp (C94 fu).ct):K94 fu cp:=⟨λ {a0 r} h=>(C94 fu).at H a0 r h⟩
def infer_ask_wrong.m1:LJ 1 4 Unit Int:=⟨λr s e=>[(1,er e 1),(8,er e 8),(9,er e 9),(10,.v (.int .i64 s))],λr s h=>[((0,1,0),hr h (0,1,0))]⟩
def infer_ask_wrong.j1:LJ 1 5 Unit Unit:=⟨λr t e=>[(1,er e 1)],λr t h=>[((0,1,0),hr h (0,1,0))]⟩
def infer_ask_wrong.m2:LJ 2 4 Unit Int:=⟨λr s e=>[(1,er e 1),(8,er e 8),(9,er e 9),(10,.v (.int .i64 s))],λr s h=>[((0,1,0),hr h (0,1,0))]⟩
def infer_ask_wrong.j2:LJ 2 5 Unit Unit:=⟨λr t e=>[(1,er e 1)],λr t h=>[((0,1,0),hr h (0,1,0))]⟩
def infer_ask_wrong.m3:LJ 3 4 Unit Int:=⟨λr s e=>[(1,er e 1),(8,er e 8),(9,er e 9),(10,.v (.int .i64 s))],λr s h=>[((0,1,0),hr h (0,1,0))]⟩
def infer_ask_wrong.j3:LJ 3 5 Unit Unit:=⟨λr t e=>[(1,er e 1)],λr t h=>[((0,1,0),hr h (0,1,0))]⟩
def infer_ask_wrong.m4:LJ 4 4 Unit Int:=⟨λr s e=>[(1,er e 1),(8,er e 8),(9,er e 9),(10,.v (.int .i64 s))],λr s h=>[((0,1,0),hr h (0,1,0))]⟩
def infer_ask_wrong.j4:LJ 4 5 Unit Unit:=⟨λr t e=>[(1,er e 1)],λr t h=>[((0,1,0),hr h (0,1,0))]⟩
set_option maxHeartbeats 20000000 in
open infer_ask_wrong in
theorem w43(cp:CallP)(fu:Nat)(x1:T_infer_ask)(H1:K39 fu cp)(H2:K91 fu cp)(H3:K92 fu cp)(H4:K93 fu cp)(H5:K94 fu cp):J (go Tryz.prog noC cp noI 0 [] d43 fu (fin Tryz.prog [.tmp 2] [32]) (bodyOf Tryz.f43) (initE 0 [.agg (c_T_infer_ask x1)]) [] []) (infer_ask_wrong fu x1) e43:=by
 unfold infer_ask_wrong e43
 have da:=d43_at
 conv=>arg 1;simp only[bodyOf,Tryz.f43]
 have z0:=d43_at
 exact Wk
theorem ok43(fu:Nat)(x1:T_infer_ask)(r)(h:infer_ask_wrong fu x1=some r):PureOK Tryz.prog 43 [.agg (c_T_infer_ask x1)] (e43 r):=pureT mixed [(C39 fu).ct,(C91 fu).ct,(C92 fu).ct,(C93 fu).ct,(C94 fu).ct] (ids:=[39,91,92,93,94]) rfl (by decide) i43 (C:=noC) (ci:=λcp=>noI) (λcp ok=>noI_ok) (λcp H=>w43 cp fu x1 (u39 H.1) (u91 H.2.1) (u92 H.2.2.1) (u93 H.2.2.2.1) (u94 H.2.2.2.2.1)) h
open Aw (d197)
def d197_at:=by have h:=tabL Aw.d197.eq_1;simp only[AllAt,Nat.zero_add,Nat.reduceAdd]at h;exact h
theorem i197:finfo Tryz.prog 197 d197=some ⟨bodyOf Tryz.f197,[.tmp 4],[27]⟩:=finfo_at Tryz.func197 rfl (by kernel_rfl) (by kernel_rfl)
def e197:(List Int)->AV:=λr=> .fresh 1 r.length (lm (ik .i64) r)
def infer_ask_numbers.m1:LJ 1 10 Unit ((List Int)×Int):=⟨λr s e=>[(5,.own (0,5,77) 0 s.1.length s.1.length),(16,er e 16),(17,er e 17),(18,.v (.int .i64 s.2))],λr s h=>[((0,5,77),.sl true true 1 s.1.length (lm (ik .i64) s.1))]⟩
def infer_ask_numbers.m2:LJ 2 10 Unit ((List Int)×Int):=⟨λr s e=>[(5,.own (0,5,77) 0 s.1.length s.1.length),(16,er e 16),(17,er e 17),(18,.v (.int .i64 s.2))],λr s h=>[((0,5,77),.sl true true 1 s.1.length (lm (ik .i64) s.1))]⟩
def infer_ask_numbers.m3:LJ 3 10 Unit ((List Int)×Int):=⟨λr s e=>[(5,.own (0,5,77) 0 s.1.length s.1.length),(16,er e 16),(17,er e 17),(18,.v (.int .i64 s.2))],λr s h=>[((0,5,77),.sl true true 1 s.1.length (lm (ik .i64) s.1))]⟩
def infer_ask_numbers.m4:LJ 4 10 Unit ((List Int)×Int):=⟨λr s e=>[(5,.own (0,5,77) 0 s.1.length s.1.length),(16,er e 16),(17,er e 17),(18,.v (.int .i64 s.2))],λr s h=>[((0,5,77),.sl true true 1 s.1.length (lm (ik .i64) s.1))]⟩
set_option maxHeartbeats 20000000 in
open infer_ask_numbers in
theorem w197(cp:CallP)(fu:Nat)(x1:T_infer_ask)(x2:Int)(H1:K91 fu cp)(H2:K107 fu cp):J (go Tryz.prog noC cp noI 0 [] d197 fu (fin Tryz.prog [.tmp 4] [27]) (bodyOf Tryz.f197) (initE 0 [.agg (c_T_infer_ask x1),.v (.int .i64 x2)]) [] []) (infer_ask_numbers fu x1 x2) e197:=by
 unfold infer_ask_numbers e197
 have da:=d197_at
 conv=>arg 1;simp only[bodyOf,Tryz.f197]
 have z0:=d197_at
 exact Wk
theorem ok197(fu:Nat)(x1:T_infer_ask)(x2:Int)(r)(h:infer_ask_numbers fu x1 x2=some r):PureOK Tryz.prog 197 [.agg (c_T_infer_ask x1),.v (.int .i64 x2)] (e197 r):=pureT mixed [(C91 fu).ct,(C107 fu).ct] (ids:=[91,107]) rfl (by decide) i197 (C:=noC) (ci:=λcp=>noI) (λcp ok=>noI_ok) (λcp H=>w197 cp fu x1 x2 (u91 H.1) (u107 H.2.1)) h
def d181:List (Nat×List Nat):=[(0,[0,2,3]),(0,[12,13]),(0,[8,9,10]),(0,[49,50]),(0,[11]),(0,[]),(0,[14]),(0,[]),(0,[15]),(0,[]),(0,[16,17,18,19]),(0,[]),(0,[21]),(0,[]),(0,[22,23]),(0,[]),(0,[24,25]),(0,[]),(0,[1000004]),(0,[]),(0,[27,28,29,30,31,32,33]),(0,[]),(0,[1,4,34,35,36,37,38,39,40,41,42,43,44,45,46]),(0,[]),(0,[48]),(0,[]),(0,[]),(1,[]),(0,[52]),(0,[]),(0,[7,53,54,55]),(0,[]),(0,[56]),(0,[]),(0,[5,6,57,58])]
def d181_at:=by have h:=tabL d181.eq_1;simp only[AllAt,Nat.zero_add,Nat.reduceAdd]at h;exact h
theorem i181:finfo Tryz.prog 181 d181=some ⟨bodyOf Tryz.f181,[.tmp 2,.tmp 3],[29,32]⟩:=finfo_at Tryz.func181 rfl (by kernel_rfl) (by kernel_rfl)
def e181:((List Bool)×Int)->AV:=λr=> .tuple [.fresh 1 r.1.length (lm (bk) r.1),.v (.int .i64 r.2)]
structure K197 (fu:Nat) (cp:CallP):Prop where
 ap: ∀ {a0:T_infer_ask} {a1:Int} {r},infer_ask_numbers fu a0 a1=some r->cp 197 [.agg (c_T_infer_ask a0),.v (.int .i64 a1)]=some (.fresh 1 r.length (lm (ik .i64) r))
noncomputable def C197(fu:Nat):Cm Tryz.prog (T_infer_ask×Int) (List Int):=⟨197,λt=>[.agg (c_T_infer_ask t.1),.v (.int .i64 t.2)],λt=>infer_ask_numbers fu t.1 t.2,e197,λt b h=>ok197 fu t.1 t.2 b h,Zi⟩
theorem u197{fu:Nat}{cp:CallP}(H:Hit cp (C197 fu).ct):K197 fu cp:=⟨λ {a0 a1 r} h=>(C197 fu).at H (a0,a1) r h⟩
def infer_ask_over.m1:LJ 1 26 Unit ((List Bool)×Int):=⟨λr s e=>[(5,.own (0,31,0) 0 s.1.length s.1.length),(6,er e 6),(49,er e 49),(50,.v (.int .i64 s.2))],λr s h=>[((0,31,0),.sl true true 1 s.1.length (lm (bk) s.1))]⟩
def infer_ask_over.j1:LJ 1 20 Unit Unit:=⟨λr t e=>[(1,er e 1),(4,er e 4)],λr t h=>[((0,1,0),hr h (0,1,0))]⟩
def infer_ask_over.m2:LJ 2 26 Unit ((List Bool)×Int):=⟨λr s e=>[(5,.own (0,31,0) 0 s.1.length s.1.length),(6,er e 6),(49,er e 49),(50,.v (.int .i64 s.2))],λr s h=>[((0,31,0),.sl true true 1 s.1.length (lm (bk) s.1))]⟩
def infer_ask_over.j2:LJ 2 20 Unit Unit:=⟨λr t e=>[(1,er e 1),(4,er e 4)],λr t h=>[((0,1,0),hr h (0,1,0))]⟩
def infer_ask_over.m3:LJ 3 26 Unit ((List Bool)×Int):=⟨λr s e=>[(5,.own (0,31,0) 0 s.1.length s.1.length),(6,er e 6),(49,er e 49),(50,.v (.int .i64 s.2))],λr s h=>[((0,31,0),.sl true true 1 s.1.length (lm (bk) s.1))]⟩
def infer_ask_over.m4:LJ 4 26 Unit ((List Bool)×Int):=⟨λr s e=>[(5,.own (0,31,0) 0 s.1.length s.1.length),(6,er e 6),(49,er e 49),(50,.v (.int .i64 s.2))],λr s h=>[((0,31,0),.sl true true 1 s.1.length (lm (bk) s.1))]⟩
def infer_ask_over.m5:LJ 5 26 Unit ((List Bool)×Int):=⟨λr s e=>[(5,.own (0,31,0) 0 s.1.length s.1.length),(6,er e 6),(49,er e 49),(50,.v (.int .i64 s.2))],λr s h=>[((0,31,0),.sl true true 1 s.1.length (lm (bk) s.1))]⟩
def infer_ask_over.j3:LJ 3 20 Unit Unit:=⟨λr t e=>[(1,er e 1),(4,er e 4)],λr t h=>[((0,1,0),hr h (0,1,0))]⟩
set_option maxHeartbeats 20000000 in
open infer_ask_over in
theorem w181(cp:CallP)(fu:Nat)(x1:T_infer_ask)(H1:K154 fu cp)(H2:K155 fu cp)(H3:K197 fu cp)(H4:K91 fu cp):J (go Tryz.prog noC cp noI 0 [] d181 fu (fin Tryz.prog [.tmp 2,.tmp 3] [29,32]) (bodyOf Tryz.f181) (initE 0 [.agg (c_T_infer_ask x1)]) [] []) (infer_ask_over fu x1) e181:=by
 unfold infer_ask_over e181
 have da:=d181_at
 conv=>arg 1;simp only[bodyOf,Tryz.f181]
 have z0:=d181_at
 exact Wk
theorem ok181(fu:Nat)(x1:T_infer_ask)(r)(h:infer_ask_over fu x1=some r):PureOK Tryz.prog 181 [.agg (c_T_infer_ask x1)] (e181 r):=pureT mixed [(C154 fu).ct,(C155 fu).ct,(C197 fu).ct,(C91 fu).ct] (ids:=[154,155,197,91]) rfl (by decide) i181 (C:=noC) (ci:=λcp=>noI) (λcp ok=>noI_ok) (λcp H=>w181 cp fu x1 (u154 H.1) (u155 H.2.1) (u197 H.2.2.1) (u91 H.2.2.2.1)) h
def d98:List (Nat×List Nat):=[(0,[0,1]),(0,[]),(0,[])]
def d98_at:=by have h:=tabL d98.eq_1;simp only[AllAt,Nat.zero_add,Nat.reduceAdd]at h;exact h
theorem i98:finfo Tryz.prog 98 d98=some ⟨bodyOf Tryz.f98,[.tmp 0,.tmp 1],[68,32]⟩:=finfo_at Tryz.func98 rfl (by kernel_rfl) (by kernel_rfl)
def e98:((List (List Int))×Int)->AV:=λr=> .tuple [.arr r.1.length (lm (avl (ik .i64)) r.1),.v (.int .i64 r.2)]
set_option maxHeartbeats 20000000 in
theorem w98(cp:CallP)(fu:Nat):J (go Tryz.prog noC cp noI 0 [] d98 fu (finS Tryz.prog [.tmp 0,.tmp 1] [68,32]) (bodyOf Tryz.f98) (initE 0 []) [] []) (infer_misfit fu) e98:=by
 unfold infer_misfit e98
 have da:=d98_at
 conv=>arg 1;simp only[bodyOf,Tryz.f98]
 have z0:=d98_at
 have z1:=SE
 exact Wk
theorem ok98(fu:Nat)(r)(h:infer_misfit fu=some r):PureOK Tryz.prog 98 [] (e98 r):=pureST mixed [] (ids:=[]) rfl (by decide) i98 (C:=noC) (ci:=λcp=>noI) (λcp ok=>noI_ok) (λcp H=>w98 cp fu) h
open Aw (d106)
def d106_at:=by have h:=tabL Aw.d106.eq_1;simp only[AllAt,Nat.zero_add,Nat.reduceAdd]at h;exact h
theorem i106:finfo Tryz.prog 106 d106=some ⟨bodyOf Tryz.f106,[.tmp 2,.tmp 3],[68,32]⟩:=finfo_at Tryz.func106 rfl (by kernel_rfl) (by kernel_rfl)
def e106:((List (List Int))×Int)->AV:=λr=> .tuple [.arr r.1.length (lm (avl (ik .i64)) r.1),.v (.int .i64 r.2)]
set_option maxHeartbeats 20000000 in
theorem w106(cp:CallP)(fu:Nat)(x1:List Int):J (go Tryz.prog noC cp noI 0 [] d106 fu (finS Tryz.prog [.tmp 2,.tmp 3] [68,32]) (bodyOf Tryz.f106) (initE 0 [.arr x1.length (lm (ik .i64) x1)]) [] []) (infer_one fu x1) e106:=by
 unfold infer_one e106
 have da:=d106_at
 conv=>arg 1;simp only[bodyOf,Tryz.f106]
 have z0:=d106_at
 have z1:=SE
 exact Wk
theorem ok106(fu:Nat)(x1:List Int)(r)(h:infer_one fu x1=some r):PureOK Tryz.prog 106 [.arr x1.length (lm (ik .i64) x1)] (e106 r):=pureST mixed [] (ids:=[]) rfl (by decide) i106 (C:=noC) (ci:=λcp=>noI) (λcp ok=>noI_ok) (λcp H=>w106 cp fu x1) h
open Aw (d100)
def d100_at:=by have h:=tabL Aw.d100.eq_1;simp only[AllAt,Nat.zero_add,Nat.reduceAdd]at h;exact h
theorem i100:finfo Tryz.prog 100 d100=some ⟨bodyOf Tryz.f100,[.tmp 2,.tmp 3],[68,32]⟩:=finfo_at Tryz.func100 rfl (by kernel_rfl) (by kernel_rfl)
def e100:((List (List Int))×Int)->AV:=λr=> .tuple [.arr r.1.length (lm (avl (ik .i64)) r.1),.v (.int .i64 r.2)]
structure K181 (fu:Nat) (cp:CallP):Prop where
 ap: ∀ {a0:T_infer_ask} {r},infer_ask_over fu a0=some r->cp 181 [.agg (c_T_infer_ask a0)]=some (.tuple [.fresh 1 r.1.length (lm (bk) r.1),.v (.int .i64 r.2)])
noncomputable def C181(fu:Nat):Cm Tryz.prog T_infer_ask ((List Bool)×Int):=⟨181,λt=>[.agg (c_T_infer_ask t)],λt=>infer_ask_over fu t,e181,λt b h=>ok181 fu t b h,Zi⟩
theorem u181{fu:Nat}{cp:CallP}(H:Hit cp (C181 fu).ct):K181 fu cp:=⟨λ {a0 r} h=>(C181 fu).at H a0 r h⟩
structure K98 (fu:Nat) (cp:CallP):Prop where
 ap: ∀ {r},infer_misfit fu=some r->cp 98 []=some (.tuple [.arr r.1.length (lm (avl (ik .i64)) r.1),.v (.int .i64 r.2)])
noncomputable def C98(fu:Nat):Cm Tryz.prog Unit ((List (List Int))×Int):=⟨98,λt=>[],λt=>infer_misfit fu,e98,λt b h=>ok98 fu b h,Zi⟩
theorem u98{fu:Nat}{cp:CallP}(H:Hit cp (C98 fu).ct):K98 fu cp:=⟨λ {r} h=>(C98 fu).at H () r h⟩
structure K106 (fu:Nat) (cp:CallP):Prop where
 ap: ∀ {a0:List Int} {r},infer_one fu a0=some r->cp 106 [.arr a0.length (lm (ik .i64) a0)]=some (.tuple [.arr r.1.length (lm (avl (ik .i64)) r.1),.v (.int .i64 r.2)])
noncomputable def C106(fu:Nat):Cm Tryz.prog (List Int) ((List (List Int))×Int):=⟨106,λt=>[.arr t.length (lm (ik .i64) t)],λt=>infer_one fu t,e106,λt b h=>ok106 fu t b h,Zi⟩
theorem u106{fu:Nat}{cp:CallP}(H:Hit cp (C106 fu).ct):K106 fu cp:=⟨λ {a0 r} h=>(C106 fu).at H a0 r h⟩
def infer_ask_reduced.m1:LJ 1 12 Unit (Bool×(List Int)×Int):=⟨λr s e=>[(1,er e 1),(4,er e 4),(6,.own (0,6,77) 0 s.2.1.length s.2.1.length),(20,er e 20),(21,er e 21),(22,.v (.int .i64 s.2.2))],λr s h=>[((0,1,0),bs (hr h (0,1,0)) 4 (.v (.bool s.1))),((0,11,0),hr h (0,11,0)),((0,6,77),.sl true true 1 s.2.1.length (lm (ik .i64) s.2.1))]⟩
def infer_ask_reduced.j1:LJ 1 30 Unit (Bool×(List Int)):=⟨λr t e=>[(6,.own (0,6,77) 0 t.2.length t.2.length)],λr t h=>[((0,1,0),bs (hr h (0,1,0)) 4 (.v (.bool t.1))),((0,11,0),hr h (0,11,0)),((0,6,77),.sl true true 1 t.2.length (lm (ik .i64) t.2))]⟩
def infer_ask_reduced.m2:LJ 2 12 Unit (Bool×(List Int)×Int):=⟨λr s e=>[(1,er e 1),(4,er e 4),(6,.own (0,6,77) 0 s.2.1.length s.2.1.length),(20,er e 20),(21,er e 21),(22,.v (.int .i64 s.2.2))],λr s h=>[((0,1,0),bs (hr h (0,1,0)) 4 (.v (.bool s.1))),((0,11,0),hr h (0,11,0)),((0,6,77),.sl true true 1 s.2.1.length (lm (ik .i64) s.2.1))]⟩
def infer_ask_reduced.j2:LJ 2 30 Unit (Bool×(List Int)):=⟨λr t e=>[(6,.own (0,6,77) 0 t.2.length t.2.length)],λr t h=>[((0,1,0),bs (hr h (0,1,0)) 4 (.v (.bool t.1))),((0,11,0),hr h (0,11,0)),((0,6,77),.sl true true 1 t.2.length (lm (ik .i64) t.2))]⟩
def infer_ask_reduced.m3:LJ 3 12 Unit (Bool×(List Int)×Int):=⟨λr s e=>[(1,er e 1),(4,er e 4),(6,.own (0,6,77) 0 s.2.1.length s.2.1.length),(20,er e 20),(21,er e 21),(22,.v (.int .i64 s.2.2))],λr s h=>[((0,1,0),bs (hr h (0,1,0)) 4 (.v (.bool s.1))),((0,11,0),hr h (0,11,0)),((0,6,77),.sl true true 1 s.2.1.length (lm (ik .i64) s.2.1))]⟩
def infer_ask_reduced.j3:LJ 3 30 Unit (Bool×(List Int)):=⟨λr t e=>[(6,.own (0,6,77) 0 t.2.length t.2.length)],λr t h=>[((0,1,0),bs (hr h (0,1,0)) 4 (.v (.bool t.1))),((0,11,0),hr h (0,11,0)),((0,6,77),.sl true true 1 t.2.length (lm (ik .i64) t.2))]⟩
def infer_ask_reduced.m4:LJ 4 12 Unit (Bool×(List Int)×Int):=⟨λr s e=>[(1,er e 1),(4,er e 4),(6,.own (0,6,77) 0 s.2.1.length s.2.1.length),(20,er e 20),(21,er e 21),(22,.v (.int .i64 s.2.2))],λr s h=>[((0,1,0),bs (hr h (0,1,0)) 4 (.v (.bool s.1))),((0,11,0),hr h (0,11,0)),((0,6,77),.sl true true 1 s.2.1.length (lm (ik .i64) s.2.1))]⟩
def infer_ask_reduced.j4:LJ 4 30 Unit (Bool×(List Int)):=⟨λr t e=>[(6,.own (0,6,77) 0 t.2.length t.2.length)],λr t h=>[((0,1,0),bs (hr h (0,1,0)) 4 (.v (.bool t.1))),((0,11,0),hr h (0,11,0)),((0,6,77),.sl true true 1 t.2.length (lm (ik .i64) t.2))]⟩
set_option maxHeartbeats 20000000 in
open infer_ask_reduced in
theorem w100(cp:CallP)(fu:Nat)(x1:T_infer_ask)(H1:K181 fu cp)(H2:K95 fu cp)(H3:K98 fu cp)(H4:K106 fu cp):J (go Tryz.prog noC cp noI 0 [] d100 fu (fin Tryz.prog [.tmp 2,.tmp 3] [68,32]) (bodyOf Tryz.f100) (initE 0 [.agg (c_T_infer_ask x1)]) [] []) (infer_ask_reduced fu x1) e100:=by
 unfold infer_ask_reduced e100
 have da:=d100_at
 conv=>arg 1;simp only[bodyOf,Tryz.f100]
 have z0:=d100_at
 exact Wk
theorem ok100(fu:Nat)(x1:T_infer_ask)(r)(h:infer_ask_reduced fu x1=some r):PureOK Tryz.prog 100 [.agg (c_T_infer_ask x1)] (e100 r):=pureT mixed [(C181 fu).ct,(C95 fu).ct,(C98 fu).ct,(C106 fu).ct] (ids:=[181,95,98,106]) rfl (by decide) i100 (C:=noC) (ci:=λcp=>noI) (λcp ok=>noI_ok) (λcp H=>w100 cp fu x1 (u181 H.1) (u95 H.2.1) (u98 H.2.2.1) (u106 H.2.2.2.1)) h
open Aw (d44)
def d44_at:=by have h:=tabL Aw.d44.eq_1;simp only[AllAt,Nat.zero_add,Nat.reduceAdd]at h;exact h
theorem i44:finfo Tryz.prog 44 d44=some ⟨bodyOf Tryz.f44,[.tmp 2,.tmp 3],[68,32]⟩:=finfo_at Tryz.func44 rfl (by kernel_rfl) (by kernel_rfl)
def e44:((List (List Int))×Int)->AV:=λr=> .tuple [.arr r.1.length (lm (avl (ik .i64)) r.1),.v (.int .i64 r.2)]
structure K100 (fu:Nat) (cp:CallP):Prop where
 ap: ∀ {a0:T_infer_ask} {r},infer_ask_reduced fu a0=some r->cp 100 [.agg (c_T_infer_ask a0)]=some (.tuple [.arr r.1.length (lm (avl (ik .i64)) r.1),.v (.int .i64 r.2)])
noncomputable def C100(fu:Nat):Cm Tryz.prog T_infer_ask ((List (List Int))×Int):=⟨100,λt=>[.agg (c_T_infer_ask t)],λt=>infer_ask_reduced fu t,e100,λt b h=>ok100 fu t b h,Zi⟩
theorem u100{fu:Nat}{cp:CallP}(H:Hit cp (C100 fu).ct):K100 fu cp:=⟨λ {a0 r} h=>(C100 fu).at H a0 r h⟩
def infer_ask_shapes.j3:LJ 3 222 Unit Unit:=⟨λr t e=>[(1,er e 1),(4,er e 4),(9,er e 9),(10,er e 10),(54,er e 54),(78,.v (.bool (decide ((67:Int)=67))))],λr t h=>[((0,1,0),hr h (0,1,0))]⟩
def infer_ask_shapes.j2:LJ 2 190 Unit Unit:=⟨λr t e=>[(1,er e 1),(4,er e 4),(9,er e 9),(10,er e 10),(54,.v (.bool (decide ((67:Int)=64))))],λr t h=>[((0,1,0),hr h (0,1,0))]⟩
def infer_ask_shapes.j1:LJ 1 82 Unit Unit:=⟨λr t e=>[(1,er e 1),(4,er e 4),(9,er e 9),(10,.v (.bool (decide ((67:Int)=42))))],λr t h=>[((0,1,0),hr h (0,1,0))]⟩
def infer_ask_shapes.j6:LJ 6 222 Unit Unit:=⟨λr t e=>[(1,er e 1),(4,er e 4),(9,er e 9),(10,er e 10),(54,er e 54),(78,.v (.bool (decide ((68:Int)=68))))],λr t h=>[((0,1,0),hr h (0,1,0))]⟩
def infer_ask_shapes.j5:LJ 5 190 Unit Unit:=⟨λr t e=>[(1,er e 1),(4,er e 4),(9,er e 9),(10,er e 10),(54,.v (.bool (decide ((68:Int)=64))))],λr t h=>[((0,1,0),hr h (0,1,0))]⟩
def infer_ask_shapes.j4:LJ 4 82 Unit Unit:=⟨λr t e=>[(1,er e 1),(4,er e 4),(9,er e 9),(10,.v (.bool (decide ((68:Int)=42))))],λr t h=>[((0,1,0),hr h (0,1,0))]⟩
def infer_ask_shapes.j9:LJ 9 222 Unit Unit:=⟨λr t e=>[(1,er e 1),(4,er e 4),(9,er e 9),(10,er e 10),(54,er e 54),(78,.v (.bool (decide ((65:Int)=65))))],λr t h=>[((0,1,0),hr h (0,1,0))]⟩
def infer_ask_shapes.j8:LJ 8 190 Unit Unit:=⟨λr t e=>[(1,er e 1),(4,er e 4),(9,er e 9),(10,er e 10),(54,.v (.bool (decide ((65:Int)=64))))],λr t h=>[((0,1,0),hr h (0,1,0))]⟩
def infer_ask_shapes.j7:LJ 7 82 Unit Unit:=⟨λr t e=>[(1,er e 1),(4,er e 4),(9,er e 9),(10,.v (.bool (decide ((65:Int)=42))))],λr t h=>[((0,1,0),hr h (0,1,0))]⟩
def infer_ask_shapes.j12:LJ 12 222 Unit Unit:=⟨λr t e=>[(1,er e 1),(4,er e 4),(9,er e 9),(10,er e 10),(54,er e 54),(78,.v (.bool (decide ((69:Int)=69))))],λr t h=>[((0,1,0),hr h (0,1,0))]⟩
def infer_ask_shapes.j11:LJ 11 190 Unit Unit:=⟨λr t e=>[(1,er e 1),(4,er e 4),(9,er e 9),(10,er e 10),(54,.v (.bool (decide ((69:Int)=64))))],λr t h=>[((0,1,0),hr h (0,1,0))]⟩
def infer_ask_shapes.j10:LJ 10 82 Unit Unit:=⟨λr t e=>[(1,er e 1),(4,er e 4),(9,er e 9),(10,.v (.bool (decide ((69:Int)=42))))],λr t h=>[((0,1,0),hr h (0,1,0))]⟩
set_option maxHeartbeats 20000000 in
open infer_ask_shapes in
theorem w44(cp:CallP)(fu:Nat)(x1:T_infer_ask)(H1:K95 fu cp)(H2:K100 fu cp):J (go Tryz.prog noC cp noI 0 [] d44 fu (finS Tryz.prog [.tmp 2,.tmp 3] [68,32]) (bodyOf Tryz.f44) (initE 0 [.agg (c_T_infer_ask x1)]) [] []) (infer_ask_shapes fu x1) e44:=by
 unfold infer_ask_shapes e44
 have da:=d44_at
 conv=>arg 1;simp only[bodyOf,Tryz.f44]
 have z0:=d44_at
 have z1:=SE
 exact Wk
theorem ok44(fu:Nat)(x1:T_infer_ask)(r)(h:infer_ask_shapes fu x1=some r):PureOK Tryz.prog 44 [.agg (c_T_infer_ask x1)] (e44 r):=pureST mixed [(C95 fu).ct,(C100 fu).ct] (ids:=[95,100]) rfl (by decide) i44 (C:=noC) (ci:=λcp=>noI) (λcp ok=>noI_ok) (λcp H=>w44 cp fu x1 (u95 H.1) (u100 H.2.1)) h
open Aw (d45)
def d45_at:=by have h:=tabL Aw.d45.eq_1;simp only[AllAt,Nat.zero_add,Nat.reduceAdd]at h;exact h
theorem i45:finfo Tryz.prog 45 d45=some ⟨bodyOf Tryz.f45,[.tmp 2],[3]⟩:=finfo_at Tryz.func45 rfl (by kernel_rfl) (by kernel_rfl)
def e45:Int->AV:=λr=> .v (.int .i64 r)
def infer_ask_out.j3:LJ 3 74 Unit Unit:=⟨λr t e=>[(1,er e 1),(4,er e 4),(5,er e 5),(17,.v (.bool (decide ((67:Int)=71))))],λr t h=>[((0,1,0),hr h (0,1,0))]⟩
def infer_ask_out.j2:LJ 2 54 Unit Unit:=⟨λr t e=>[(1,er e 1),(4,er e 4),(5,.v (.bool (decide ((67:Int)=41))))],λr t h=>[((0,1,0),hr h (0,1,0))]⟩
def infer_ask_out.j1:LJ 1 50 Unit Unit:=⟨λr t e=>[(1,er e 1)],λr t h=>[((0,1,0),hr h (0,1,0))]⟩
def infer_ask_out.j6:LJ 6 74 Unit Unit:=⟨λr t e=>[(1,er e 1),(4,er e 4),(5,er e 5),(17,.v (.bool (decide ((68:Int)=71))))],λr t h=>[((0,1,0),hr h (0,1,0))]⟩
def infer_ask_out.j5:LJ 5 54 Unit Unit:=⟨λr t e=>[(1,er e 1),(4,er e 4),(5,.v (.bool (decide ((68:Int)=41))))],λr t h=>[((0,1,0),hr h (0,1,0))]⟩
def infer_ask_out.j4:LJ 4 50 Unit Unit:=⟨λr t e=>[(1,er e 1)],λr t h=>[((0,1,0),hr h (0,1,0))]⟩
def infer_ask_out.j9:LJ 9 74 Unit Unit:=⟨λr t e=>[(1,er e 1),(4,er e 4),(5,er e 5),(17,.v (.bool (decide ((65:Int)=71))))],λr t h=>[((0,1,0),hr h (0,1,0))]⟩
def infer_ask_out.j8:LJ 8 54 Unit Unit:=⟨λr t e=>[(1,er e 1),(4,er e 4),(5,.v (.bool (decide ((65:Int)=41))))],λr t h=>[((0,1,0),hr h (0,1,0))]⟩
def infer_ask_out.j7:LJ 7 50 Unit Unit:=⟨λr t e=>[(1,er e 1)],λr t h=>[((0,1,0),hr h (0,1,0))]⟩
def infer_ask_out.j12:LJ 12 74 Unit Unit:=⟨λr t e=>[(1,er e 1),(4,er e 4),(5,er e 5),(17,.v (.bool (decide ((69:Int)=71))))],λr t h=>[((0,1,0),hr h (0,1,0))]⟩
def infer_ask_out.j11:LJ 11 54 Unit Unit:=⟨λr t e=>[(1,er e 1),(4,er e 4),(5,.v (.bool (decide ((69:Int)=41))))],λr t h=>[((0,1,0),hr h (0,1,0))]⟩
def infer_ask_out.j10:LJ 10 50 Unit Unit:=⟨λr t e=>[(1,er e 1)],λr t h=>[((0,1,0),hr h (0,1,0))]⟩
set_option maxHeartbeats 20000000 in
open infer_ask_out in
theorem w45(cp:CallP)(fu:Nat)(x1:T_infer_ask)(H1:K107 fu cp):J (go Tryz.prog noC cp noI 0 [] d45 fu (fin Tryz.prog [.tmp 2] [3]) (bodyOf Tryz.f45) (initE 0 [.agg (c_T_infer_ask x1)]) [] []) (infer_ask_out fu x1) e45:=by
 unfold infer_ask_out e45
 have da:=d45_at
 conv=>arg 1;simp only[bodyOf,Tryz.f45]
 have z0:=d45_at
 exact Wk
theorem ok45(fu:Nat)(x1:T_infer_ask)(r)(h:infer_ask_out fu x1=some r):PureOK Tryz.prog 45 [.agg (c_T_infer_ask x1)] (e45 r):=pureT mixed [(C107 fu).ct] (ids:=[107]) rfl (by decide) i45 (C:=noC) (ci:=λcp=>noI) (λcp ok=>noI_ok) (λcp H=>w45 cp fu x1 (u107 H.1)) h
open Aw (d25)
def d25_at:=by have h:=tabL Aw.d25.eq_1;simp only[AllAt,Nat.zero_add,Nat.reduceAdd]at h;exact h
theorem i25:finfo Tryz.prog 25 d25=some ⟨bodyOf Tryz.f25,[.tmp 8,.tmp 9],[54,32]⟩:=finfo_at Tryz.func25 rfl (by kernel_rfl) (by kernel_rfl)
def e25:((List T_Val)×Int)->AV:=λr=> .tuple [.arr r.1.length (fm c_T_Val r.1),.v (.int .i64 r.2)]
structure K42 (fu:Nat) (cp:CallP):Prop where
 ap: ∀ {a0:T_infer_ask} {r},infer_ask_complete fu a0=some r->cp 42 [.agg (c_T_infer_ask a0)]=some (.v (.bool r))
noncomputable def C42(fu:Nat):Cm Tryz.prog T_infer_ask Bool:=⟨42,λt=>[.agg (c_T_infer_ask t)],λt=>infer_ask_complete fu t,e42,λt b h=>ok42 fu t b h,Zi⟩
theorem u42{fu:Nat}{cp:CallP}(H:Hit cp (C42 fu).ct):K42 fu cp:=⟨λ {a0 r} h=>(C42 fu).at H a0 r h⟩
structure K43 (fu:Nat) (cp:CallP):Prop where
 ap: ∀ {a0:T_infer_ask} {r},infer_ask_wrong fu a0=some r->cp 43 [.agg (c_T_infer_ask a0)]=some (.v (.int .i64 r))
noncomputable def C43(fu:Nat):Cm Tryz.prog T_infer_ask Int:=⟨43,λt=>[.agg (c_T_infer_ask t)],λt=>infer_ask_wrong fu t,e43,λt b h=>ok43 fu t b h,Zi⟩
theorem u43{fu:Nat}{cp:CallP}(H:Hit cp (C43 fu).ct):K43 fu cp:=⟨λ {a0 r} h=>(C43 fu).at H a0 r h⟩
structure K44 (fu:Nat) (cp:CallP):Prop where
 ap: ∀ {a0:T_infer_ask} {r},infer_ask_shapes fu a0=some r->cp 44 [.agg (c_T_infer_ask a0)]=some (.tuple [.arr r.1.length (lm (avl (ik .i64)) r.1),.v (.int .i64 r.2)])
noncomputable def C44(fu:Nat):Cm Tryz.prog T_infer_ask ((List (List Int))×Int):=⟨44,λt=>[.agg (c_T_infer_ask t)],λt=>infer_ask_shapes fu t,e44,λt b h=>ok44 fu t b h,Zi⟩
theorem u44{fu:Nat}{cp:CallP}(H:Hit cp (C44 fu).ct):K44 fu cp:=⟨λ {a0 r} h=>(C44 fu).at H a0 r h⟩
structure K45 (fu:Nat) (cp:CallP):Prop where
 ap: ∀ {a0:T_infer_ask} {r},infer_ask_out fu a0=some r->cp 45 [.agg (c_T_infer_ask a0)]=some (.v (.int .i64 r))
noncomputable def C45(fu:Nat):Cm Tryz.prog T_infer_ask Int:=⟨45,λt=>[.agg (c_T_infer_ask t)],λt=>infer_ask_out fu t,e45,λt b h=>ok45 fu t b h,Zi⟩
theorem u45{fu:Nat}{cp:CallP}(H:Hit cp (C45 fu).ct):K45 fu cp:=⟨λ {a0 r} h=>(C45 fu).at H a0 r h⟩
def infer_Node.m1:LJ 1 24 Unit ((List T_Val)×Int):=⟨λr s e=>[(10,er e 10),(14,.own (0,14,77) 0 s.1.length s.1.length),(40,er e 40),(41,er e 41),(42,.v (.int .i64 s.2))],λr s h=>[((0,10,0),hr h (0,10,0)),((0,14,77),.sl true true 8 s.1.length (fm c_T_Val s.1))]⟩
def infer_Node.m2:LJ 2 24 Unit ((List T_Val)×Int):=⟨λr s e=>[(10,er e 10),(14,.own (0,14,77) 0 s.1.length s.1.length),(40,er e 40),(41,er e 41),(42,.v (.int .i64 s.2))],λr s h=>[((0,10,0),hr h (0,10,0)),((0,14,77),.sl true true 8 s.1.length (fm c_T_Val s.1))]⟩
def infer_Node.m3:LJ 3 24 Unit ((List T_Val)×Int):=⟨λr s e=>[(10,er e 10),(14,.own (0,14,77) 0 s.1.length s.1.length),(40,er e 40),(41,er e 41),(42,.v (.int .i64 s.2))],λr s h=>[((0,10,0),hr h (0,10,0)),((0,14,77),.sl true true 8 s.1.length (fm c_T_Val s.1))]⟩
def infer_Node.m4:LJ 4 24 Unit ((List T_Val)×Int):=⟨λr s e=>[(10,er e 10),(14,.own (0,14,77) 0 s.1.length s.1.length),(40,er e 40),(41,er e 41),(42,.v (.int .i64 s.2))],λr s h=>[((0,10,0),hr h (0,10,0)),((0,14,77),.sl true true 8 s.1.length (fm c_T_Val s.1))]⟩
set_option maxHeartbeats 20000000 in
open infer_Node in
theorem w25(cp:CallP)(fu:Nat)(x1:Int)(x2:T_Setting)(x3:List T_Val)(x4:Int)(H1:K42 fu cp)(H2:K43 fu cp)(H3:K44 fu cp)(H4:K39 fu cp)(H5:K45 fu cp)(H6:K46 fu cp):J (go Tryz.prog noC cp noI 0 [] d25 fu (finS Tryz.prog [.tmp 8,.tmp 9] [54,32]) (bodyOf Tryz.f25) (initE 0 [.v (.int .i64 x1),.agg (c_T_Setting x2),.arr x3.length (fm c_T_Val x3),.v (.int .i64 x4)]) [] []) (infer_Node fu x1 x2 x3 x4) e25:=by
 unfold infer_Node e25
 have da:=d25_at
 conv=>arg 1;simp only[bodyOf,Tryz.f25]
 have z0:=d25_at
 have z1:=SE
 exact Wk
theorem ok25(fu:Nat)(x1:Int)(x2:T_Setting)(x3:List T_Val)(x4:Int)(r)(h:infer_Node fu x1 x2 x3 x4=some r):PureOK Tryz.prog 25 [.v (.int .i64 x1),.agg (c_T_Setting x2),.arr x3.length (fm c_T_Val x3),.v (.int .i64 x4)] (e25 r):=pureST mixed [(C42 fu).ct,(C43 fu).ct,(C44 fu).ct,(C39 fu).ct,(C45 fu).ct,(C46 fu).ct] (ids:=[42,43,44,39,45,46]) rfl (by decide) i25 (C:=noC) (ci:=λcp=>noI) (λcp ok=>noI_ok) (λcp H=>w25 cp fu x1 x2 x3 x4 (u42 H.1) (u43 H.2.1) (u44 H.2.2.1) (u39 H.2.2.2.1) (u45 H.2.2.2.2.1) (u46 H.2.2.2.2.2.1)) h
open Aw (d27)
def d27_at:=by have h:=tabL Aw.d27.eq_1;simp only[AllAt,Nat.zero_add,Nat.reduceAdd]at h;exact h
theorem i27:finfo Tryz.prog 27 d27=some ⟨bodyOf Tryz.f27,[.cell 4 31,.tmp 5],[31,32]⟩:=finfo_at Tryz.func27 rfl (by kernel_rfl) (by kernel_rfl)
def e27:(T_Tensor×Int)->AV:=λr=> .tuple [.agg [.v (.int .i64 r.1.fType),.fresh 1 r.1.fDims.length (lm (ik .i64) r.1.fDims),.fresh 1 r.1.fF.length (lm (ik .u32) r.1.fF),.fresh 1 r.1.fI.length (lm (ik .i64) r.1.fI),.fresh 1 r.1.fB.length (lm (bk) r.1.fB)],.v (.int .i64 r.2)]
set_option maxHeartbeats 20000000 in
theorem w27(cp:CallP)(fu:Nat)(x1:Int)(x2:List Int)(H1:K38 fu cp)(H2:K39 fu cp)(H3:K46 fu cp):J (go Tryz.prog noC cp noI 0 [] d27 fu (fin Tryz.prog [.cell 4 31,.tmp 5] [31,32]) (bodyOf Tryz.f27) (initE 0 [.v (.int .i64 x1),.arr x2.length (lm (ik .i64) x2)]) [] []) (tens_New fu x1 x2) e27:=by
 unfold tens_New e27
 have da:=d27_at
 conv=>arg 1;simp only[bodyOf,Tryz.f27]
 have z0:=d27_at
 exact Wk
theorem ok27(fu:Nat)(x1:Int)(x2:List Int)(r)(h:tens_New fu x1 x2=some r):PureOK Tryz.prog 27 [.v (.int .i64 x1),.arr x2.length (lm (ik .i64) x2)] (e27 r):=pureT mixed [(C38 fu).ct,(C39 fu).ct,(C46 fu).ct] (ids:=[38,39,46]) rfl (by decide) i27 (C:=noC) (ci:=λcp=>noI) (λcp ok=>noI_ok) (λcp H=>w27 cp fu x1 x2 (u38 H.1) (u39 H.2.1) (u46 H.2.2.1)) h
open Aw (d62)
def d62_at:=by have h:=tabL Aw.d62.eq_1;simp only[AllAt,Nat.zero_add,Nat.reduceAdd]at h;exact h
theorem i62:finfo Tryz.prog 62 d62=some ⟨bodyOf Tryz.f62,[.tmp 4],[4]⟩:=finfo_at Tryz.func62 rfl (by kernel_rfl) (by kernel_rfl)
def e62:Bool->AV:=λr=> .v (.bool r)
set_option maxHeartbeats 20000000 in
theorem w62(cp:CallP)(fu:Nat)(x1:T_reduce_work)(x2:Int):J (go Tryz.prog noC cp noI 0 [] d62 fu (fin Tryz.prog [.tmp 4] [4]) (bodyOf Tryz.f62) (initE 0 [.ref (c_T_reduce_work x1) 0,.v (.int .i64 x2)]) [] []) (reduce_work_has fu x1 x2) e62:=by
 unfold reduce_work_has e62
 have da:=d62_at
 conv=>arg 1;simp only[bodyOf,Tryz.f62]
 have z0:=d62_at
 exact Wk
theorem ok62(fu:Nat)(x1:T_reduce_work)(x2:Int)(r)(h:reduce_work_has fu x1 x2=some r):PureOK Tryz.prog 62 [.ref (c_T_reduce_work x1) 0,.v (.int .i64 x2)] (e62 r):=pureT mixed [] (ids:=[]) rfl (by decide) i62 (C:=noC) (ci:=λcp=>noI) (λcp ok=>noI_ok) (λcp H=>w62 cp fu x1 x2) h
open Aw (d184)
def d184_at:=by have h:=tabL Aw.d184.eq_1;simp only[AllAt,Nat.zero_add,Nat.reduceAdd]at h;exact h
theorem i184:finfo Tryz.prog 184 d184=some ⟨bodyOf Tryz.f184,[.tmp 2,.tmp 3],[27,32]⟩:=finfo_at Tryz.func184 rfl (by kernel_rfl) (by kernel_rfl)
def e184:((List Int)×Int)->AV:=λr=> .tuple [.fresh 1 r.1.length (lm (ik .i64) r.1),.v (.int .i64 r.2)]
def tens_Ints.m1:LJ 1 20 Unit ((List Int)×Int):=⟨λr s e=>[(5,.own (0,5,77) 0 s.1.length s.1.length),(24,er e 24),(25,er e 25),(26,.v (.int .i64 s.2))],λr s h=>[((0,5,77),.sl true true 1 s.1.length (lm (ik .i64) s.1))]⟩
set_option maxHeartbeats 20000000 in
open tens_Ints in
theorem w184(cp:CallP)(fu:Nat)(x1:T_Tensor)(H1:K23 fu cp):J (go Tryz.prog noC cp noI 0 [] d184 fu (fin Tryz.prog [.tmp 2,.tmp 3] [27,32]) (bodyOf Tryz.f184) (initE 0 [.agg (c_T_Tensor x1)]) [] []) (tens_Ints fu x1) e184:=by
 unfold tens_Ints e184
 have da:=d184_at
 conv=>arg 1;simp only[bodyOf,Tryz.f184]
 have z0:=d184_at
 exact Wk
theorem ok184(fu:Nat)(x1:T_Tensor)(r)(h:tens_Ints fu x1=some r):PureOK Tryz.prog 184 [.agg (c_T_Tensor x1)] (e184 r):=pureT mixed [(C23 fu).ct] (ids:=[23]) rfl (by decide) i184 (C:=noC) (ci:=λcp=>noI) (λcp ok=>noI_ok) (λcp H=>w184 cp fu x1 (u23 H.1)) h
def d108:List (Nat×List Nat):=[(0,[2]),(0,[23,24]),(13,[9,10,11,12,13,14,15,16,17,18,19]),(0,[5]),(0,[20,21,22]),(0,[]),(0,[25]),(0,[84,85]),(0,[26]),(0,[]),(0,[27]),(0,[]),(0,[28,29,30,31,32,33]),(0,[]),(0,[35]),(0,[]),(0,[1000003]),(0,[]),(0,[36]),(0,[]),(0,[38,39,40,41,42,43,44,45,46,47]),(0,[]),(0,[49]),(0,[]),(0,[]),(0,[]),(0,[]),(0,[]),(0,[50,51]),(0,[]),(0,[53,54]),(0,[]),(0,[55,56,57,58]),(0,[]),(0,[4,7,59,60,61,62,63,64]),(0,[]),(0,[0,3,65,66,67,68,69,70,71,72,73,74,75,76,77,78,79,80,81]),(0,[]),(0,[83]),(0,[]),(0,[]),(0,[]),(0,[87]),(0,[]),(0,[8,88,89,90]),(0,[]),(0,[91]),(0,[]),(0,[6,92]),(1,[])]
def d108_at:=by have h:=tabL d108.eq_1;simp only[AllAt,Nat.zero_add,Nat.reduceAdd]at h;exact h
theorem i108:finfo Tryz.prog 108 d108=some ⟨bodyOf Tryz.f108,[.tmp 2],[29]⟩:=finfo_at Tryz.func108 rfl (by kernel_rfl) (by kernel_rfl)
def e108:(List Bool)->AV:=λr=> .fresh 1 r.length (lm (bk) r)
structure K62 (fu:Nat) (cp:CallP):Prop where
 ap: ∀ {a0:T_reduce_work} {a1:Int} {r},reduce_work_has fu a0 a1=some r->cp 62 [.ref (c_T_reduce_work a0) 0,.v (.int .i64 a1)]=some (.v (.bool r))
noncomputable def C62(fu:Nat):Cm Tryz.prog (T_reduce_work×Int) Bool:=⟨62,λt=>[.ref (c_T_reduce_work t.1) 0,.v (.int .i64 t.2)],λt=>reduce_work_has fu t.1 t.2,e62,λt b h=>ok62 fu t.1 t.2 b h,Zi⟩
theorem u62{fu:Nat}{cp:CallP}(H:Hit cp (C62 fu).ct):K62 fu cp:=⟨λ {a0 a1 r} h=>(C62 fu).at H (a0,a1) r h⟩
structure K184 (fu:Nat) (cp:CallP):Prop where
 ap: ∀ {a0:T_Tensor} {r},tens_Ints fu a0=some r->cp 184 [.agg (c_T_Tensor a0)]=some (.tuple [.fresh 1 r.1.length (lm (ik .i64) r.1),.v (.int .i64 r.2)])
noncomputable def C184(fu:Nat):Cm Tryz.prog T_Tensor ((List Int)×Int):=⟨184,λt=>[.agg (c_T_Tensor t)],λt=>tens_Ints fu t,e184,λt b h=>ok184 fu t b h,Zi⟩
theorem u184{fu:Nat}{cp:CallP}(H:Hit cp (C184 fu).ct):K184 fu cp:=⟨λ {a0 r} h=>(C184 fu).at H a0 r h⟩
def reduce_work_over.m1:LJ 1 40 Unit ((List Bool)×Int):=⟨λr s e=>[(6,.own (0,62,0) 0 s.1.length s.1.length),(84,er e 84),(85,.v (.int .i64 s.2))],λr s h=>[((0,62,0),.sl true true 1 s.1.length (lm (bk) s.1))]⟩
def reduce_work_over.j1:LJ 1 34 Unit Unit:=⟨λr t e=>[(0,er e 0),(3,er e 3),(4,er e 4)],λr t h=>[]⟩
def reduce_work_over.m2:LJ 2 40 Unit ((List Bool)×Int):=⟨λr s e=>[(6,.own (0,62,0) 0 s.1.length s.1.length),(84,er e 84),(85,.v (.int .i64 s.2))],λr s h=>[((0,62,0),.sl true true 1 s.1.length (lm (bk) s.1))]⟩
def reduce_work_over.j2:LJ 2 34 Unit Unit:=⟨λr t e=>[(0,er e 0),(3,er e 3),(4,er e 4)],λr t h=>[]⟩
def reduce_work_over.m3:LJ 3 40 Unit ((List Bool)×Int):=⟨λr s e=>[(6,.own (0,62,0) 0 s.1.length s.1.length),(84,er e 84),(85,.v (.int .i64 s.2))],λr s h=>[((0,62,0),.sl true true 1 s.1.length (lm (bk) s.1))]⟩
def reduce_work_over.m4:LJ 4 40 Unit ((List Bool)×Int):=⟨λr s e=>[(6,.own (0,62,0) 0 s.1.length s.1.length),(84,er e 84),(85,.v (.int .i64 s.2))],λr s h=>[((0,62,0),.sl true true 1 s.1.length (lm (bk) s.1))]⟩
def reduce_work_over.m5:LJ 5 40 Unit ((List Bool)×Int):=⟨λr s e=>[(6,.own (0,62,0) 0 s.1.length s.1.length),(84,er e 84),(85,.v (.int .i64 s.2))],λr s h=>[((0,62,0),.sl true true 1 s.1.length (lm (bk) s.1))]⟩
def reduce_work_over.j3:LJ 3 34 Unit Unit:=⟨λr t e=>[(0,er e 0),(3,er e 3),(4,er e 4)],λr t h=>[]⟩
set_option maxHeartbeats 20000000 in
open reduce_work_over in
theorem w108(cp:CallP)(fu:Nat)(x1:T_reduce_work)(H1:K155 fu cp)(H2:K62 fu cp)(H3:K184 fu cp):J (go Tryz.prog noC cp noI 0 [] d108 fu (fin Tryz.prog [.tmp 2] [29]) (bodyOf Tryz.f108) (initE 0 [.ref (c_T_reduce_work x1) 0]) [] []) (reduce_work_over fu x1) e108:=by
 unfold reduce_work_over e108
 have da:=d108_at
 conv=>arg 1;simp only[bodyOf,Tryz.f108]
 have z0:=d108_at
 exact Wk
theorem ok108(fu:Nat)(x1:T_reduce_work)(r)(h:reduce_work_over fu x1=some r):PureOK Tryz.prog 108 [.ref (c_T_reduce_work x1) 0] (e108 r):=pureT mixed [(C155 fu).ct,(C62 fu).ct,(C184 fu).ct] (ids:=[155,62,184]) rfl (by decide) i108 (C:=noC) (ci:=λcp=>noI) (λcp ok=>noI_ok) (λcp H=>w108 cp fu x1 (u155 H.1) (u62 H.2.1) (u184 H.2.2.1)) h
open Aw (d120)
def d120_at:=by have h:=tabL Aw.d120.eq_1;simp only[AllAt,Nat.zero_add,Nat.reduceAdd]at h;exact h
theorem i120:finfo Tryz.prog 120 d120=some ⟨bodyOf Tryz.f120,[.tmp 2],[27]⟩:=finfo_at Tryz.func120 rfl (by kernel_rfl) (by kernel_rfl)
def e120:(List Int)->AV:=λr=> .fresh 1 r.length (lm (ik .i64) r)
def shape_strides.m1:LJ 1 8 Unit ((List Int)×Int×Int):=⟨λr s e=>[(0,er e 0),(3,.own (0,8,0) 0 s.1.length s.1.length),(4,.v (.int .i64 s.2.1)),(5,.v (.int .i64 s.2.2))],λr s h=>[((0,8,0),.sl true true 1 s.1.length (lm (ik .i64) s.1))]⟩
set_option maxHeartbeats 20000000 in
open shape_strides in
theorem w120(cp:CallP)(fu:Nat)(x1:List Int):J (go Tryz.prog noC cp noI 0 [] d120 fu (fin Tryz.prog [.tmp 2] [27]) (bodyOf Tryz.f120) (initE 0 [.arr x1.length (lm (ik .i64) x1)]) [] []) (shape_strides fu x1) e120:=by
 unfold shape_strides e120
 have da:=d120_at
 conv=>arg 1;simp only[bodyOf,Tryz.f120]
 have z0:=d120_at
 exact Wk
theorem ok120(fu:Nat)(x1:List Int)(r)(h:shape_strides fu x1=some r):PureOK Tryz.prog 120 [.arr x1.length (lm (ik .i64) x1)] (e120 r):=pureT mixed [] (ids:=[]) rfl (by decide) i120 (C:=noC) (ci:=λcp=>noI) (λcp ok=>noI_ok) (λcp H=>w120 cp fu x1) h
open Aw (d54)
def d54_at:=by have h:=tabL Aw.d54.eq_1;simp only[AllAt,Nat.zero_add,Nat.reduceAdd]at h;exact h
theorem i54:finfo Tryz.prog 54 d54=some ⟨bodyOf Tryz.f54,[.tmp 2,.tmp 3],[27,32]⟩:=finfo_at Tryz.func54 rfl (by kernel_rfl) (by kernel_rfl)
def e54:((List Int)×Int)->AV:=λr=> .tuple [.fresh 1 r.1.length (lm (ik .i64) r.1),.v (.int .i64 r.2)]
structure K120 (fu:Nat) (cp:CallP):Prop where
 ap: ∀ {a0:List Int} {r},shape_strides fu a0=some r->cp 120 [.arr a0.length (lm (ik .i64) a0)]=some (.fresh 1 r.length (lm (ik .i64) r))
noncomputable def C120(fu:Nat):Cm Tryz.prog (List Int) (List Int):=⟨120,λt=>[.arr t.length (lm (ik .i64) t)],λt=>shape_strides fu t,e120,λt b h=>ok120 fu t b h,Zi⟩
theorem u120{fu:Nat}{cp:CallP}(H:Hit cp (C120 fu).ct):K120 fu cp:=⟨λ {a0 r} h=>(C120 fu).at H a0 r h⟩
set_option maxHeartbeats 20000000 in
theorem w54(cp:CallP)(fu:Nat)(x1:List Int)(H1:K39 fu cp)(H2:K120 fu cp):J (go Tryz.prog noC cp noI 0 [] d54 fu (fin Tryz.prog [.tmp 2,.tmp 3] [27,32]) (bodyOf Tryz.f54) (initE 0 [.arr x1.length (lm (ik .i64) x1)]) [] []) (shape_Strides fu x1) e54:=by
 unfold shape_Strides e54
 have da:=d54_at
 conv=>arg 1;simp only[bodyOf,Tryz.f54]
 have z0:=d54_at
 exact Wk
theorem ok54(fu:Nat)(x1:List Int)(r)(h:shape_Strides fu x1=some r):PureOK Tryz.prog 54 [.arr x1.length (lm (ik .i64) x1)] (e54 r):=pureT mixed [(C39 fu).ct,(C120 fu).ct] (ids:=[39,120]) rfl (by decide) i54 (C:=noC) (ci:=λcp=>noI) (λcp ok=>noI_ok) (λcp H=>w54 cp fu x1 (u39 H.1) (u120 H.2.1)) h
def d109:List (Nat×List Nat):=[(0,[4]),(0,[1,13,14,15]),(0,[12,1000000005]),(0,[]),(0,[0]),(0,[6,7,20,21,22]),(0,[]),(0,[]),(0,[17,18,19]),(0,[10,26,27]),(0,[1000008]),(0,[]),(0,[]),(0,[]),(0,[]),(0,[]),(0,[24,25]),(0,[]),(0,[]),(0,[]),(0,[]),(0,[]),(0,[29]),(0,[]),(0,[11,30,31,32,33,34,35,36,37,38,39,40]),(0,[]),(0,[41]),(0,[]),(0,[42]),(0,[]),(0,[8,43,1000000005]),(0,[]),(0,[44]),(0,[]),(0,[5,45])]
def d109_at:=by have h:=tabL d109.eq_1;simp only[AllAt,Nat.zero_add,Nat.reduceAdd]at h;exact h
theorem i109:finfo Tryz.prog 109 d109=some ⟨bodyOf Tryz.f109,[.tmp 4],[27]⟩:=finfo_at Tryz.func109 rfl (by kernel_rfl) (by kernel_rfl)
def e109:(List Int)->AV:=λr=> .arr r.length (lm (ik .i64) r)
def reduce_places.m3:LJ 3 20 Unit ((List Int)×Int):=⟨λr s e=>[(1,er e 1),(5,er e 5),(6,er e 6),(7,er e 7),(8,.own (0,8,77) 0 s.1.length s.1.length),(10,er e 10),(13,er e 13),(14,er e 14),(15,er e 15),(20,er e 20),(21,er e 21),(22,er e 22),(26,er e 26),(27,.v (.int .i64 s.2))],λr s h=>[((0,8,77),.sl true true 1 s.1.length (lm (ik .i64) s.1))]⟩
def reduce_places.m2:LJ 2 14 Unit ((List Int)×Int):=⟨λr s e=>[(1,er e 1),(5,er e 5),(6,er e 6),(7,er e 7),(8,.own (0,8,77) 0 s.1.length s.1.length),(13,er e 13),(14,er e 14),(15,er e 15),(20,er e 20),(21,er e 21),(22,.v (.int .i64 s.2))],λr s h=>[((0,8,77),.sl true true 1 s.1.length (lm (ik .i64) s.1))]⟩
def reduce_places.m1:LJ 1 6 Unit ((List Int)×Int):=⟨λr s e=>[(1,er e 1),(5,.arr s.1.length (lm (ik .i64) s.1)),(13,er e 13),(14,er e 14),(15,.v (.int .i64 s.2))],λr s h=>[]⟩
set_option maxHeartbeats 20000000 in
open reduce_places in
theorem w109(cp:CallP)(fu:Nat)(x1:List Int)(x2:List Int):J (go Tryz.prog noC cp noI 0 [] d109 fu (fin Tryz.prog [.tmp 4] [27]) (bodyOf Tryz.f109) (initE 0 [.arr x1.length (lm (ik .i64) x1),.arr x2.length (lm (ik .i64) x2)]) [] []) (reduce_places fu x1 x2) e109:=by
 unfold reduce_places e109
 have da:=d109_at
 conv=>arg 1;simp only[bodyOf,Tryz.f109]
 have z0:=d109_at
 exact Wk
theorem ok109(fu:Nat)(x1:List Int)(x2:List Int)(r)(h:reduce_places fu x1 x2=some r):PureOK Tryz.prog 109 [.arr x1.length (lm (ik .i64) x1),.arr x2.length (lm (ik .i64) x2)] (e109 r):=pureT mixed [] (ids:=[]) rfl (by decide) i109 (C:=noC) (ci:=λcp=>noI) (λcp ok=>noI_ok) (λcp H=>w109 cp fu x1 x2) h
def d49:List (Nat×List Nat):=[(0,[4]),(0,[0,8,9,10]),(0,[1000005]),(0,[]),(0,[1]),(0,[]),(0,[]),(0,[]),(0,[12,13]),(0,[]),(0,[7,14,15,16,17,18,19,20]),(0,[]),(0,[21]),(0,[]),(0,[5,22])]
def d49_at:=by have h:=tabL d49.eq_1;simp only[AllAt,Nat.zero_add,Nat.reduceAdd]at h;exact h
theorem i49:finfo Tryz.prog 49 d49=some ⟨bodyOf Tryz.f49,[.tmp 4],[22]⟩:=finfo_at Tryz.func49 rfl (by kernel_rfl) (by kernel_rfl)
def e49:(List Int)->AV:=λr=> .fresh 1 r.length (lm (ik .u32) r)
def reduce_at_uint32.m1:LJ 1 6 Unit ((List Int)×Int):=⟨λr s e=>[(0,er e 0),(5,.own (0,5,77) 0 s.1.length s.1.length),(8,er e 8),(9,er e 9),(10,.v (.int .i64 s.2))],λr s h=>[((0,5,77),.sl true true 1 s.1.length (lm (ik .u32) s.1))]⟩
set_option maxHeartbeats 20000000 in
open reduce_at_uint32 in
theorem w49(cp:CallP)(fu:Nat)(x1:List Int)(x2:List Int):J (go Tryz.prog noC cp noI 0 [] d49 fu (fin Tryz.prog [.tmp 4] [22]) (bodyOf Tryz.f49) (initE 0 [.arr x1.length (lm (ik .u32) x1),.arr x2.length (lm (ik .i64) x2)]) [] []) (reduce_at_uint32 fu x1 x2) e49:=by
 unfold reduce_at_uint32 e49
 have da:=d49_at
 conv=>arg 1;simp only[bodyOf,Tryz.f49]
 have z0:=d49_at
 exact Wk
theorem ok49(fu:Nat)(x1:List Int)(x2:List Int)(r)(h:reduce_at_uint32 fu x1 x2=some r):PureOK Tryz.prog 49 [.arr x1.length (lm (ik .u32) x1),.arr x2.length (lm (ik .i64) x2)] (e49 r):=pureT mixed [] (ids:=[]) rfl (by decide) i49 (C:=noC) (ci:=λcp=>noI) (λcp ok=>noI_ok) (λcp H=>w49 cp fu x1 x2) h
open Aw (d17)
def d17_at:=by have h:=tabL Aw.d17.eq_1;simp only[AllAt,Nat.zero_add,Nat.reduceAdd]at h;exact h
theorem i17:finfo Tryz.prog 17 d17=some ⟨bodyOf Tryz.f17,[.tmp 6],[24]⟩:=finfo_at Tryz.func17 rfl (by kernel_rfl) (by kernel_rfl)
def e17:Int->AV:=λr=> .v (.int .u32 r)
set_option maxHeartbeats 20000000 in
theorem w17(cp:CallP)(fu:Nat)(x1:List Int)(x2:Int)(p2:Int→Int→Option Int)(fv_p2:FuncId)(ca_p2:List AV)(cap_p2:Capt ca_p2)(hp_p2: ∀ (y0:Int) (y1:Int) r,p2 y0 y1=some r→cp fv_p2 ((.v (.int .u32 y0))::(.v (.int .u32 y1))::ca_p2)=some (.v (.int .u32 r))):J (go Tryz.prog noC cp noI 0 [] d17 fu (fin Tryz.prog [.tmp 6] [24]) (bodyOf Tryz.f17) (initE 0 [.arr x1.length (lm (ik .u32) x1),.v (.int .u32 x2),.fn fv_p2 [] ca_p2]) [] []) (reduce_fold_uint32 fu x1 x2 p2) e17:=by
 unfold reduce_fold_uint32 e17
 have da:=d17_at
 have c4_p2:=λg=>(cap_p2.1 g).1;have c3_p2:=λg=>(cap_p2.1 g).2.1;have b4_p2:=λg=>(cap_p2.1 g).2.2.1;have b3_p2:=λg=>(cap_p2.1 g).2.2.2;have nm_p2:=cap_p2.2
 conv=>arg 1;simp (disch:=first|exact Zd|fail) only[bodyOf,Tryz.f17,ZZ,d17_at,simprocAttr,c4_p2,c3_p2,b4_p2,b3_p2,nm_p2]
 refine J.eq go_seq ?_
 conv=>arg 1;simp (disch:=first|exact Zd|fail) only[ZZ,d17_at,simprocAttr,c4_p2,c3_p2,b4_p2,b3_p2,nm_p2]
 unfold reduce_fold_uint32.W1
 refine J.loop (λ(s:Int×Int)=>([(1,.v (.int .u32 s.1)),(2,.fn fv_p2 [] ca_p2),(9,.arr x1.length (lm (ik .u32) x1)),(10,.v (.int .i64 (x1.length:Int))),(11,.v (.int .i64 s.2))],[])) (λnext s=>reduce_fold_uint32.L1 fu p2 x1 (λx5 x6=>next (x5,x6)) s.1 s.2) (s0:=(x2,0)) ?_ ?_ ?_
 ·exact Ze
 ·exact Zh
 rintro next k1 hn1 ⟨x5,x6⟩
 let nx1:Int->Int->Option Int:=(λx5 x6=>next (x5,x6))
 show J _ (reduce_fold_uint32.L1 fu p2 x1 nx1 x5 x6) _
 unfold reduce_fold_uint32.L1
 conv=>arg 1;simp (disch:=first|exact Zd|fail) only[ZZ,d17_at,simprocAttr,c4_p2,c3_p2,b4_p2,b3_p2,nm_p2]
 refine J.eq go_seq ?_
 conv=>arg 1;simp (disch:=first|exact Zd|fail) only[ZZ,d17_at,simprocAttr,c4_p2,c3_p2,b4_p2,b3_p2,nm_p2]
 refine J.ite (λh1=> ?_) (λh1=> ?_)
 ·have h1':=decide_eq_true h1
  have h1'':decide ((x1.length:Int)<=x6)=false:=decide_eq_false (by omega)
  conv=>arg 1;simp (disch:=first|exact Zd|fail) only[ZZ,d17_at,simprocAttr,c4_p2,c3_p2,b4_p2,b3_p2,nm_p2,h1'',h1']
  refine J.eq ret_seq ?_
  refine J.eq go_seq ?_
  refine J.at λx9 h2 h3 h4=> ?_
  refine J.bind λx10 h5=> ?_
  have e_h5:=hp_p2 _ _ _ h5
  try simp only[NN,NT,LN,simprocAttr,DT]at e_h5
  conv=>arg 1;simp (disch:=first|exact Zd|fail) only[ZZ,d17_at,simprocAttr,c4_p2,c3_p2,b4_p2,b3_p2,nm_p2,h1'',h1',lm_ik h4,e_h5]
  refine J.eq ret_seq ?_
  conv=>arg 1;simp (disch:=first|exact Zd|fail) only[ZZ,d17_at,simprocAttr,c4_p2,c3_p2,b4_p2,b3_p2,nm_p2,h1'',h1',lm_ik h4,e_h5]
  refine J.next (s:=(x10,wk .i64 (x6+1))) hn1 ?_ ?_
  ·exact Ze
  ·exact Zh
 ·have h1':=decide_eq_false h1
  have h1'':decide ((x1.length:Int)<=x6)=true:=decide_eq_true (by omega)
  conv=>arg 1;simp (disch:=first|exact Zd|fail) only[ZZ,d17_at,simprocAttr,c4_p2,c3_p2,b4_p2,b3_p2,nm_p2,h1'',h1']
  refine J.eq ret_seq ?_
  refine J.some ?_
  simp (maxSteps:=20000000) (disch:=first|exact Zd|fail) only[ZZ,d17_at,simprocAttr,c4_p2,c3_p2,b4_p2,b3_p2,nm_p2,h1'',h1',FN]
noncomputable def t17(fu:Nat)(x1:List Int)(x2:Int)(p2:Int->Int->Option Int)(fv_p2:FuncId)(ca_p2:List AV):CallP:=orE fv_p2 (mkC (λ(t:Int×Int)=>((.v (.int .u32 t.1))::(.v (.int .u32 t.2))::ca_p2:List AV)) (λt=>p2 t.1 t.2) (λr=> .v (.int .u32 r))) (noP)
theorem t17_ok(fu:Nat)(x1:List Int)(x2:Int)(p2:Int->Int->Option Int)(fv_p2:FuncId)(ca_p2:List AV)(nc_p2:memN [] fv_p2=false)(cap_p2:Capt ca_p2)(hp_p2: ∀ (y0:Int) (y1:Int) r,p2 y0 y1=some r->PureOK Tryz.prog fv_p2 ((.v (.int .u32 y0))::(.v (.int .u32 y1))::ca_p2) (.v (.int .u32 r))):CpOK Tryz.prog (t17 fu x1 x2 p2 fv_p2 ca_p2):=orE_ok (noP_ok) (mkC_ok (λt b h=>hp_p2 t.1 t.2 b h))
theorem ok17(fu:Nat)(x1:List Int)(x2:Int)(p2:Int→Int→Option Int)(fv_p2:FuncId)(ca_p2:List AV)(nc_p2:memN [] fv_p2=false)(cap_p2:Capt ca_p2)(hp_p2: ∀ (y0:Int) (y1:Int) r,p2 y0 y1=some r→PureOK Tryz.prog fv_p2 ((.v (.int .u32 y0))::(.v (.int .u32 y1))::ca_p2) (.v (.int .u32 r)))(r)(h:reduce_fold_uint32 fu x1 x2 p2=some r):PureOK Tryz.prog 17 [.arr x1.length (lm (ik .u32) x1),.v (.int .u32 x2),.fn fv_p2 [] ca_p2] (e17 r):=
  pure_J mixed (cp:=t17 fu x1 x2 p2 fv_p2 ca_p2) (t17_ok fu x1 x2 p2 fv_p2 ca_p2 nc_p2 cap_p2 hp_p2) noI_ok i17 (w17 _ fu x1 x2 p2 fv_p2 ca_p2 cap_p2 (λy0 y1 r h=>orE_hit (mkC_at (a:=(y0,y1)) (by intro a b h;first|(exact rfl)|(simp only[INJ,IJ]at h;first|exact h|(simp_all [Prod.ext_iff]))) h))) h
end Go.Av
