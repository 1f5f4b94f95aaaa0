/- Each operation that turns no row does in the model what it does in the interpreter. Conditions: none. -/
import Derived.Test.YteafmomjfnlkgaaGreatSd4
set_option linter.unusedVariables false
namespace Go.Av
theorem addr_add(b o k:Nat):(⟨b,o,none⟩:Addr).add k=⟨b,o+k,none⟩:=by
  unfold Addr.add;split <;> simp_all
theorem cell_of{w:World}{b o:Nat}{cur:Array Value}{e:TypeId}{fz:Nat×Nat}(hb:w.heap[b]? =some (.cells cur e fz)):w.cell? ⟨b,o,none⟩=cur[o]? :=by
  simp[World.cell?,hb]
section
variable {P:Program} {w:World}
def GG:TypeDesc→Bool
  | .struct _=>true
  | .array _ _=>true
  |_=>false
theorem QB{t:TypeId}{d:TypeDesc}(h:P.underlying t=some d):(isAgg t).run P w= .ok (GG d) w:=by
  simp only[isAgg,Sem.run_bind,run_underlying h,Result.andThen_ok]
  cases d <;> rfl
theorem xK{t:TypeId}{tv:TV}(h:aP P t=some tv): ∃ d,P.underlying t=some d:=by
  unfold aP at h
  cases hu:P.underlying t with
  |none=>rw[hu]at h;cases h
  |some d=>exact⟨d,rfl⟩
theorem mi{t e:TypeId}{sz by_:Nat}(h:aP P t=some (.slice e sz by_)):P.underlying t=some (.slice e)∧ ∃ i,P.info? e=some i∧i.size=sz∧i.bytes=by_:=by
  obtain⟨d,hd⟩:=xK h
  unfold aP at h
  rw[hd]at h
  cases d <;> first|(simp at h;done)|skip
  rename_i e'
  simp only[Option.map_eq_some_iff]at h
  obtain⟨i,hi,h⟩:=h
  injection h with h1 h2 h3
  subst h1
  exact⟨hd,i,hi,h2,h3⟩
theorem yh{t e:TypeId}{n sz:Nat}(h:aP P t=some (.array n e sz)):P.underlying t=some (.array n e)∧ ∃ i,P.info? e=some i∧i.size=sz:=by
  obtain⟨d,hd⟩:=xK h
  unfold aP at h
  rw[hd]at h
  cases d <;> first|(simp at h;done)|skip
  rename_i n' e'
  simp only[Option.map_eq_some_iff]at h
  obtain⟨i,hi,h⟩:=h
  injection h with h1 h2 h3
  subst h1;subst h2
  exact⟨hd,i,hi,h3⟩
theorem YD{t:TypeId}(h:aP P t=some .struct): ∃ fs,P.underlying t=some (.struct fs)∧ ∀ f ∈ fs,∃ i,P.info? f.type=some i:=by
  obtain⟨d,hd⟩:=xK h
  unfold aP at h
  rw[hd]at h
  cases d <;> first|(simp at h;done)|skip
  rename_i fs
  dsimp only at h
  split at h
  · rename_i hc
    exact⟨fs,hd,λf hf=>Option.isSome_iff_exists.1 (Array.all_eq_true_iff_forall_mem.1 hc f hf)⟩
  · cases h
theorem Jh{t:TypeId}(h:aP P t=some .str):P.underlying t=some .string:=by
  obtain⟨d,hd⟩:=xK h
  unfold aP at h
  rw[hd]at h
  cases d <;> first|(simp at h;done)|skip
  exact hd
theorem G7{t:TypeId}{k:IntKind}(h:aP P t=some (.int k)):P.underlying t=some (.int k):=by
  obtain⟨d,hd⟩:=xK h
  unfold aP at h
  rw[hd]at h
  cases d <;> first|(simp at h;done)|skip
  simp at h
  subst h
  exact hd
theorem Uc{t:TypeId}(h:aP P t=some .bool):P.underlying t=some .bool:=by
  obtain⟨d,hd⟩:=xK h
  unfold aP at h
  rw[hd]at h
  cases d <;> first|(simp at h;done)|skip
  exact hd
def IX(cur:Array Value)(o:Nat)(R:AV->Value->Prop)(xs:List AV):Prop:= ∀ (i:Nat) x,xs[i]? =some x-> ∃ u,cur[o+i]? =some u/\R x u
theorem IX.piece{cur:Array Value}{o:Nat}{R:AV→Value→Prop}{xs:List AV}(h:IX cur o R xs)(k m:Nat)(hm:k+m≤xs.length):
    ∃ us:List Value,us.length=m/\(∀ j u,us[j]? =some u->cur[o+k+j]? =some u)/\((xs.drop k).take m).length=us.length/\ ∀ (i:Nat) x u,((xs.drop k).take m)[i]? =some x->us[i]? =some u->R x u:=by
  refine⟨(List.range m).map λj=>cur.getD (o+k+j) undef,by simp,λj u hu=> ?_,by simp;omega,λi x u hx hu=> ?_⟩
  · rw[List.getElem?_map,Option.map_eq_some_iff]at hu
    obtain⟨j',h1,h2⟩:=hu
    rw[List.getElem?_eq_some_iff]at h1
    obtain⟨h3,h4⟩:=h1
    simp at h3 h4
    subst h4
    obtain⟨u',q1,_⟩:=h (k+j) _ (List.getElem?_eq_getElem (by omega))
    rw[← Nat.add_assoc]at q1
    rw[Array.getD_eq_getD_getElem?,q1]at h2
    simp at h2
    rw[q1,h2]
  · rw[List.getElem?_map,Option.map_eq_some_iff]at hu
    obtain⟨j',h1,h2⟩:=hu
    rw[List.getElem?_eq_some_iff]at h1
    obtain⟨h3,h4⟩:=h1
    simp at h3 h4
    subst h4
    rw[List.getElem?_take,if_pos h3,List.getElem?_drop]at hx
    obtain⟨u',q1,q2⟩:=h (k+i) x hx
    rw[← Nat.add_assoc]at q1
    rw[Array.getD_eq_getD_getElem?,q1]at h2
    simp at h2
    exact h2 ▸ q2
def vM(R:AV→Value→Prop)(y:AV)(u:Value):Prop:=
  R y u∨ ∃ ys us,y= .agg ys/\u= .agg ⟨us⟩/\ys.length=us.length/\ ∀ (i:Nat) x u,ys[i]? =some x->us[i]? =some u->R x u
theorem JM{b o off:Nat}{cur:Array Value}{e:TypeId}{fz:Nat×Nat}(hb:w.heap[b]? =some (.cells cur e fz)){xs:List AV}{R:AV→Value→Prop}(hx:IX cur o R xs)
    {t:TypeId} {y:AV} (hp:part P xs t off=some y): ∃ u,(loadVar t ⟨b,o+off,none⟩).run P w= .ok u w/\vM R y u:=by
  unfold part at hp
  rw[Option.bind_eq_some_iff]at hp
  obtain⟨tv,htv,hp⟩:=hp
  obtain⟨d,hd⟩:=xK htv
  obtain⟨inf,hinf⟩:=info_of_underlying hd
  have agg: ∀ (hag:GG d=true),off+bi P t≤xs.length→y= .agg ((xs.drop off).take (bi P t))→
      ∃ u,(loadVar t ⟨b,o+off,none⟩).run P w= .ok u w/\vM R y u:=λhag hle hy=>by
    obtain⟨us,h1,h2,h3,h4⟩:=hx.piece off (bi P t) hle
    refine⟨.agg ⟨us⟩,?_,.inr ⟨_,us,hy,rfl,h3,h4⟩⟩
    have hl:=run_loadCells_list (P:=P) w ⟨b,o+off,none⟩ us λj v hv=>by rw[addr_add,cell_of hb];exact h2 j v hv
    rw[h1]at hl
    simp only[loadVar,Sem.run_bind,QB hd,hag,Result.andThen_ok,if_true,run_sizeOf w hinf]
    have:P.cellsOf t=bi P t:=rfl
    rw[this,hl]
    rfl
  have single: ∀ (hag:GG d=false),xs[off]? =some y→ ∃ u,(loadVar t ⟨b,o+off,none⟩).run P w= .ok u w∧vM R y u:=fun hag hy=>by
    obtain⟨u,h1,h2⟩:=hx off y hy
    refine⟨u,?_,.inl h2⟩
    simp only[loadVar,Sem.run_bind,QB hd,hag,Result.andThen_ok,Bool.false_eq_true,if_false]
    simp only[load,Sem.run,cell_of hb,h1]
  have hd':=htv
  cases tv with
  | struct=>
    obtain⟨fs,hu,_⟩:=YD htv
    rw[hd]at hu;injection hu with hu;subst hu
    dsimp only at hp
    split at hp
    · exact agg rfl (by assumption) (by injection hp with hp;exact hp.symm)
    · cases hp
  | array n el sz=>
    obtain⟨hu,_⟩:=yh htv
    rw[hd]at hu;injection hu with hu;subst hu
    dsimp only at hp
    split at hp
    · exact agg rfl (by assumption) (by injection hp with hp;exact hp.symm)
    · cases hp
  |slice e sz by_=>obtain⟨hu,_⟩:=mi htv;rw[hd]at hu;injection hu with hu;subst hu;exact single rfl hp
  |str=>have hu:=Jh htv;rw[hd]at hu;injection hu with hu;subst hu;exact single rfl hp
  |int k=>have hu:=G7 htv;rw[hd]at hu;injection hu with hu;subst hu;exact single rfl hp
  |bool=>have hu:=Uc htv;rw[hd]at hu;injection hu with hu;subst hu;exact single rfl hp
  | other=>
    refine single ?_ hp
    unfold aP at htv
    rw[hd]at htv
    cases d <;> first|rfl|(simp at htv)
def ve(P:Program)(w:World)(F:Nat→Prop)(h:Heap)(M:Id→Option Nat)(s:Sem Value)(t:AV):Prop:=
  ∃ u w' bs,s.run P w= .ok u w'/\w.grownBy w' none/\TR w'.heap (VC w'.heap F) (VR w'.heap F h M) t u bs/\bs.Nodup/\ ∀ b ∈ bs,w.heap.size<=b/\b<w'.heap.size
theorem GI(w:World):w.grownBy w none:=⟨rfl,rfl,rfl,Nat.le_refl _,λ_ _ _=>rfl⟩
theorem aa3(w:World)(o:Obj):w.grownBy (w.alloc o) none:=World.grownBy_alloc w o none
variable {F:Nat->Prop} {h:Heap} {M:Id->Option Nat}
theorem ve.same{s:Sem Value}{t:AV}{u:Value}(hr:s.run P w= .ok u w)(hv:VR w.heap F h M t u):ve P w F h M s t:=
  ⟨u,w,[],hr,GI w,.base hv,List.nodup_nil,λ_ h=>by cases h⟩
theorem VR.grown{w w':World}(hk:aK w.heap F h M)(hg:w.grownBy w' none){x:AV}{u:Value}(hv:VR w.heap F h M x u):VR w'.heap F h M x u:=by
  refine hv.keep (λ_ h=>h) (λb hb=>hg.block b (hk.fb b hb) (by simp)) λid x hx=>⟨x,hx,Held.refl rfl λb hb=> ?_⟩
  have hr:=hk.row id x hx
  refine yZ (hg.block b ?_ (by simp))
  cases x with
  | sl cl rw sz e cells=>
    rcases hr.2 with⟨_,h0⟩|⟨b',cur,t,h1,h2,_⟩
    · rw[hb]at h0;cases h0
    · rw[hb]at h1;injection h1 with h1;subst h1;exact(Array.getElem?_eq_some_iff.1 h2).1
  | bx rw cells=>
    obtain⟨b',cur,t,h1,h2,_⟩:=hr
    rw[hb]at h1;injection h1 with h1;subst h1;exact(Array.getElem?_eq_some_iff.1 h2).1
theorem VC.grown{w w':World}(hk:aK w.heap F h M)(hg:w.grownBy w' none){x:AV}{u:Value}(hv:VC w.heap F x u):VC w'.heap F x u:=
  hv.keep (λ_ h=>h) λb hb=>hg.block b (hk.fb b hb) (by simp)
theorem axu{H:Array Obj}(x:Value):VC H F (lift x) x:=by
  unfold lift
  split
  · rename_i cs
    refine .agg (by simp) λi x u hx hu=> ?_
    rw[List.getElem?_map,hu]at hx
    simp at hx
    subst hx
    exact .v
  · exact .fn rfl (λi x u h=>by simp at h) rfl (λi x u h=>by simp at h)
  · exact .v
def dW(H:Array Obj)(F:Nat->Prop)(h:Heap)(M:Id->Option Nat)(e:Nat->Option AV)(a:Act):Prop:= ∀ k x,e k=some x->VR H F h M x (a.tmps.getD k undef)
theorem eH{H:Array Obj}{e:Nat→Option AV}{a:Act}(he:dW H F h M e a){x:Operand}{y:AV}(ho:az e x=some y):VR H F h M y (a.eval x):=by
  cases x with
  |tmp t=>exact he t y ho
  |const v=>simp only[az,Option.some.injEq]at ho;subst ho;exact .c (axu v)
  |global g=>cases ho
  |func f=>simp only[az,Option.some.injEq]at ho;subst ho;exact .fn rfl (λi x u h=>by simp at h) rfl (λi x u h=>by simp at h)
theorem QH{α β:Type}{f:α→Option β}: ∀ {l:List α} {ys:List β},aV f l=some ys→l.length=ys.length∧ ∀ (i:Nat) y,ys[i]? =some y→ ∃ x,l[i]? =some x∧f x=some y
  |[],ys,h=>by simp only[aV,Option.some.injEq]at h;subst h;exact⟨rfl,λi y h=>by simp at h⟩
  | a::l,ys,h=>by
    simp only[aV,Option.bind_eq_some_iff,Option.some.injEq]at h
    obtain⟨b,h1,bs,h2,rfl⟩:=h
    obtain⟨hl,hx⟩:=QH h2
    refine⟨by simp[hl],λi y hy=> ?_⟩
    cases i with
    |zero=>simp at hy;subst hy;exact⟨a,rfl,h1⟩
    |succ i=>simp at hy;simpa using hx i y hy
theorem Bj{H:Array Obj}{e:Nat→Option AV}{a:Act}(he:dW H F h M e a){xs:List Operand}{ys:List AV}(ho:aV (az e) xs=some ys):
    ys.length=(xs.map a.eval).length/\ ∀ (i:Nat) y u,ys[i]? =some y->(xs.map a.eval)[i]? =some u->VR H F h M y u:=by
  obtain⟨h1,h2⟩:=QH ho
  refine⟨by simp[h1],λi y u hy hu=> ?_⟩
  obtain⟨x,hx1,hx2⟩:=h2 i y hy
  rw[List.getElem?_map,hx1]at hu
  simp at hu
  subst hu
  exact eH he hx2
theorem aK.along(hk:aK w.heap F h M){id:Id}{blk:ax}(hg:h.get id=some blk){b:Nat}(hb:M id=some b): ∃ cur e,w.heap[b]? =some (.cells cur e (0,0))∧IX cur 0 (VR w.heap F h M) blk.cells:=by
  have hr:=hk.row id blk hg
  cases blk with
  | sl cl rw sz e cells=>
    rcases hr.2 with⟨_,h0⟩|⟨b',cur,t,h1,h2,_,_,h3⟩
    · rw[hb]at h0;cases h0
    · rw[hb]at h1;injection h1 with h1;subst h1
      refine⟨cur,t,h2,λi x hx=> ?_⟩
      obtain⟨u,a1,a2,a3⟩:=h3 i x hx
      refine⟨u,by simpa using a1,?_⟩
      cases cl with
      |true=>exact .c (a2 rfl)
      |false=>exact a3 rfl
  | bx rw cells=>
    obtain⟨b',cur,t,h1,h2,_,_,_,h3⟩:=hr
    rw[hb]at h1;injection h1 with h1;subst h1
    refine⟨cur,t,h2,λi x hx=> ?_⟩
    obtain⟨u,a1,a2⟩:=h3 i x hx
    exact⟨u,by simpa using a1,a2⟩
theorem vM.vr{H:Array Obj}{y:AV}{u:Value}(h1:vM (VR H F h M) y u):VR H F h M y u:=by
  rcases h1 with h1|⟨ys,us,rfl,rfl,h2,h3⟩
  · exact h1
  · exact .agg h2 h3
theorem vM.vc{H:Array Obj}{y:AV}{u:Value}(h1:vM (VC H F) y u):VC H F y u:=by
  rcases h1 with h1|⟨ys,us,rfl,rfl,h2,h3⟩
  · exact h1
  · exact .agg h2 h3
theorem VC.mJ{H:Array Obj}{xs:List AV}{off:Nat}{u:Value}(hv:VC H F (.aF xs off) u):
    ∃ b o cur e fz,u= .pointer (some ⟨b,o+off,none⟩)/\F b/\H[b]? =some (.cells cur e fz)/\IX cur o (VC H F) xs/\ ∃ us:List Value,xs.length=us.length/\Row H b o us/\ ∀ (i:Nat) x u,xs[i]? =some x->us[i]? =some u->VC H F x u:=by
  cases hv with
  | @aF _ _ b o us hF hr hl hx=>
    obtain⟨cur,e,fz,h1,h2⟩:=hr
    refine⟨b,o,cur,e,fz,rfl,hF,h1,λi x hxi=> ?_,us,hl,⟨cur,e,fz,h1,h2⟩,hx⟩
    obtain⟨u,a1,a2⟩:=nM hl hx hxi
    exact⟨u,h2 i u a1,a2⟩
theorem auE(hk:aK w.heap F h M){x y:AV}{u:Value}{t:TypeId}(hv:VR w.heap F h M x u)(e:o6 P h.get t x=some y): ∃ v,(Instr.loadAt t u).run P w= .ok v w∧VR w.heap F h M y v:=by
  unfold o6 at e
  split at e
  · rename_i id off ext
    simp only[Option.bind_eq_some_iff]at e
    obtain⟨blk,hg,e⟩:=e
    split at e
    · rename_i hext
      obtain⟨blk',hg',_,ho⟩:=hv.zZ
      rw[hg]at hg';injection hg' with hg';subst hg'
      obtain⟨b,hM,rfl⟩:=ho hext
      obtain⟨cur,et,h1,h2⟩:=hk.along hg hM
      obtain⟨v,h3,h4⟩:=JM (P:=P) (o:=0) h1 h2 e
      exact⟨v,by simpa[Instr.loadAt,Instr.sureAddr]using h3,h4.vr⟩
    · cases e
  · rename_i xs off
    obtain⟨b,o,cur,et,fz,rfl,_,h1,h2,_⟩:=hv.mJ.mJ
    obtain⟨v,h3,h4⟩:=JM (P:=P) h1 h2 e
    exact⟨v,by simpa[Instr.loadAt,Instr.sureAddr]using h3,.c h4.vc⟩
  · cases e
theorem VC.aaX{H:Array Obj}{xs:List AV}{off:Nat}{u:Value}(hv:VC H F (.aF xs off) u)(k:Nat): ∃ a,u= .pointer (some a)∧VC H F (.aF xs (off+k)) (.pointer (some (a.add k))):=by
  cases hv with
  | @aF _ _ b o us hF hr hl hx=>
    refine⟨_,rfl,?_⟩
    rw[addr_add,Nat.add_assoc]
    exact .aF hF hr hl hx
theorem aat(hk:aK w.heap F h M){id:Id}{off ext:Nat}{u:Value}(hv:VR w.heap F h M (.ptr id off ext) u){blk:ax}(hg:h.get id=some blk)(he:blk.ext=ext)(k:Nat):
    ∃ a,u= .pointer (some a)/\VR w.heap F h M (.ptr id (off+k) ext) (.pointer (some (a.add k))):=by
  obtain⟨blk',hg',hle,ho⟩:=hv.zZ
  rw[hg]at hg';injection hg' with hg';subst hg'
  obtain⟨b,hM,rfl⟩:=ho he
  exact⟨_,rfl,.ptr hg hle λ_=>⟨b,hM,by rw[addr_add]⟩⟩
theorem Rh{g:Id→Option ax}{id:Id}{ext:Nat}(hl:live g id ext=true): ∃ b,g id=some b∧b.ext=ext:=by
  unfold live at hl
  split at hl
  · rename_i b hb;exact⟨b,hb,by simpa using hl⟩
  · cases hl
theorem Ws{s:TypeId}{i o:Nat}{t:TypeId}(hf:dh P s i=some (o,t)): ∃ fs f,P.underlying s=some (.struct fs)∧fs[i]? =some f∧f.offset=o∧f.type=t:=by
  unfold dh at hf
  split at hf
  · rename_i fs hu
    rw[Option.map_eq_some_iff]at hf
    obtain⟨f,h1,h2⟩:=hf
    simp only[Prod.mk.injEq]at h2
    exact⟨fs,f,hu,h1,h2.1,h2.2⟩
  · cases hf
theorem ad3{t:TypeId}(h0:bi P t≠0): ∃ i,P.info? t=some i:=by
  unfold bi Program.cellsOf at h0
  cases hi:P.info? t with
  |none=>rw[hi]at h0;simp at h0
  |some i=>exact⟨i,rfl⟩
theorem ayr(hk:aK w.heap F h M){x y:AV}{u:Value}{s:TypeId}{i:Nat}(hv:VR w.heap F h M x u)(e:ng P s h.get x i=some y):
    ∃ v,(Instr.fieldAt s u i).run P w= .ok v w/\VR w.heap F h M y v:=by
  unfold ng at e
  simp only[Option.bind_eq_some_iff,Prod.exists]at e
  obtain⟨o,t,hf,e⟩:=e
  obtain⟨fs,f,hu,hfs,rfl,rfl⟩:=Ws hf
  split at e
  · cases e
  · rename_i h0
    obtain⟨inf,hinf⟩:=ad3 h0
    have h0':P.cellsOf f.type≠0:=h0
    have run: ∀ a:Addr,(Instr.fieldAt s (.pointer (some a)) i).run P w= .ok (.pointer (some (a.add f.offset))) w:=fun a=>by
      simp[Instr.fieldAt,run_underlying hu,hfs,Instr.sureAddr,fieldPlace,run_sizeOf w hinf,h0']
    split at e
    · split at e
      · rename_i id off ext hl
        obtain⟨b,hg,hb⟩:=Rh hl
        obtain⟨a,rfl,h1⟩:=aat hk hv hg hb f.offset
        injection e with e;subst e
        exact⟨_,run a,h1⟩
      · cases e
    · obtain⟨a,rfl,h1⟩:=hv.mJ.aaX f.offset
      injection e with e;subst e
      exact⟨_,run a,.c h1⟩
    · cases e
theorem ajv{t e:TypeId}{inf:TypeInfo}(hu:P.underlying t=some (.slice e))(hi:P.info? e=some inf)(a:Addr)(n c:Nat)(k:IntKind)(i:Int)(h0:0≤i)(h1:i<n):
    (Instr.indexAt t (.slice (some a) n c) (.int k i)).run P w= .ok (.pointer (some (a.add (i.toNat*inf.size)))) w:=by
  simp[Instr.indexAt,asIntOf,run_underlying hu,h0,h1,sizeOf,typeInfo,hi]
theorem adi{t e:TypeId}{inf:TypeInfo}{len:Nat}(hu:P.underlying t=some (.array len e))(hi:P.info? e=some inf)(a:Addr)(k:IntKind)(i:Int)(h0:0≤i)(h1:i<len):
    (Instr.indexAt t (.pointer (some a)) (.int k i)).run P w= .ok (.pointer (some (a.add (i.toNat*inf.size)))) w:=by
  simp[Instr.indexAt,Instr.sureAddr,asIntOf,run_underlying hu,h0,h1,sizeOf,typeInfo,hi]
theorem an2(hk:aK w.heap F h M){x y:AV}{u:Value}{t:TypeId}{k:IntKind}{i:Int}(hv:VR w.heap F h M x u)(e:oH P t h.get x i=some y):
    ∃ v,(Instr.indexAt t u (.int k i)).run P w= .ok v w/\VR w.heap F h M y v:=by
  unfold oH at e
  simp only[Option.bind_eq_some_iff]at e
  obtain⟨tv,htv,e⟩:=e
  split at e
  · rename_i et sz by_ n xs
    obtain⟨hu,inf,hi,rfl,rfl⟩:=mi htv
    split at e
    · rename_i hc
      injection e with e;subst e
      have hvc:=hv.pg
      cases hvc with
      |ed=>obtain⟨h1,h2⟩:=hc;omega
      | @arr _ _ b o c us hcap hF hr hl hx=>
        refine⟨_,ajv hu hi _ _ _ _ _ hc.1 hc.2,?_⟩
        rw[addr_add]
        exact .c (.aF hF hr hl hx)
    · cases e
  · rename_i et sz by_ id off n ext
    obtain⟨hu,inf,hi,rfl,rfl⟩:=mi htv
    simp only[Option.bind_eq_some_iff]at e
    obtain⟨blk,hg,e⟩:=e
    split at e
    · split at e
      · rename_i hc
        obtain⟨rfl,rfl,hc1,hc2⟩:=hc
        injection e with e;subst e
        obtain⟨a,c,cl,rw',sz',e',cells',rfl,hg',hn,hle,ho⟩:=hv.mQ
        rw[hg]at hg'
        injection hg' with hg'
        injection hg' with _ _ h1 h2 h3
        subst h1;subst h2;subst h3
        rcases(ho rfl).2 with⟨rfl,_⟩|⟨b,S,h1,rfl,_⟩
        · omega
        · refine⟨_,ajv hu hi _ _ _ _ _ hc1 hc2,?_⟩
          rw[addr_add]
          exact .ptr hg (Nat.le_refl _) λ_=>⟨b,h1,rfl⟩
      · cases e
    · cases e
  · rename_i n et sz id off ext
    obtain⟨hu,inf,hi,rfl⟩:=yh htv
    split at e
    · rename_i hc
      injection e with e;subst e
      obtain⟨b,hg,hb⟩:=Rh hc.1
      obtain⟨a,rfl,h1⟩:=aat hk hv hg hb (i.toNat*inf.size)
      exact⟨_,adi hu hi a k i hc.2.1 hc.2.2,h1⟩
    · cases e
  · rename_i n et sz xs off
    obtain⟨hu,inf,hi,rfl⟩:=yh htv
    split at e
    · rename_i hc
      injection e with e;subst e
      obtain⟨a,rfl,h1⟩:=hv.mJ.aaX (i.toNat*inf.size)
      exact⟨_,adi hu hi a k i hc.1 hc.2,.c h1⟩
    · cases e
  · cases e
theorem Dc{t:TypeId}{off:Nat}{xs:List AV}{us:List Value}{y:AV}{R:AV→Value→Prop}(hl:xs.length=us.length)(hx: ∀ (i:Nat) x u,xs[i]? =some x→us[i]? =some u→R x u)
    (hp:part P xs t off=some y): ∃ u,(Go.part t ⟨us⟩ off).run P w= .ok u w/\vM R y u:=by
  unfold part at hp
  rw[Option.bind_eq_some_iff]at hp
  obtain⟨tv,htv,hp⟩:=hp
  obtain⟨d,hd⟩:=xK htv
  obtain⟨inf,hinf⟩:=info_of_underlying hd
  have agg: ∀ (hag:GG d=true),off+bi P t≤xs.length→y= .agg ((xs.drop off).take (bi P t))→ ∃ u,(Go.part t ⟨us⟩ off).run P w= .ok u w∧vM R y u:=fun hag hle hy=>by
    have:P.cellsOf t=bi P t:=rfl
    refine⟨.agg ⟨(us.drop off).take (bi P t)⟩,?_,.inr ⟨_,_,hy,rfl,by simp;omega,λi x u h1 h2=> ?_⟩⟩
    · simp only[Go.part,Sem.run_bind,QB hd,hag,Result.andThen_ok,if_true,run_sizeOf w hinf,this,Sem.run_pure]
      congr 3
      simp[Nat.add_sub_cancel_left]
    · rw[List.getElem?_take]at h1 h2
      by_cases hi:i<bi P t
      · rw[if_pos hi,List.getElem?_drop]at h1 h2
        exact hx _ _ _ h1 h2
      · rw[if_neg hi]at h1;cases h1
  have single: ∀ (hag:GG d=false),xs[off]? =some y→ ∃ u,(Go.part t ⟨us⟩ off).run P w= .ok u w∧vM R y u:=fun hag hy=>by
    obtain⟨u,h1,h2⟩:=nM hl hx hy
    refine⟨u,?_,.inl h2⟩
    simp only[Go.part,Sem.run_bind,QB hd,hag,Result.andThen_ok,Bool.false_eq_true,if_false]
    simp[h1]
  cases tv with
  | struct=>
    obtain⟨fs,hu,_⟩:=YD htv
    rw[hd]at hu;injection hu with hu;subst hu
    dsimp only at hp
    split at hp
    · exact agg rfl (by assumption) (by injection hp with hp;exact hp.symm)
    · cases hp
  | array n el sz=>
    obtain⟨hu,_⟩:=yh htv
    rw[hd]at hu;injection hu with hu;subst hu
    dsimp only at hp
    split at hp
    · exact agg rfl (by assumption) (by injection hp with hp;exact hp.symm)
    · cases hp
  |slice e sz by_=>obtain⟨hu,_⟩:=mi htv;rw[hd]at hu;injection hu with hu;subst hu;exact single rfl hp
  |str=>have hu:=Jh htv;rw[hd]at hu;injection hu with hu;subst hu;exact single rfl hp
  |int k=>have hu:=G7 htv;rw[hd]at hu;injection hu with hu;subst hu;exact single rfl hp
  |bool=>have hu:=Uc htv;rw[hd]at hu;injection hu with hu;subst hu;exact single rfl hp
  | other=>
    refine single ?_ hp
    unfold aP at htv
    rw[hd]at htv
    cases d <;> first|rfl|(simp at htv)
theorem run_equal_bool{t:TypeId}(hu:P.underlying t=some .bool)(a b:Bool):(Op.equal t (.bool a) (.bool b)).run P w= .ok (a==b) w:=by
  have hd: ∀ d,(Op.equalIn (d+1) t (.bool a) (.bool b)).run P w= .ok (a==b) w:=λd=>by simp[Op.equalIn,run_underlying hu]
  exact hd 9999
theorem aIh{t e:TypeId}(hu:P.underlying t=some (.slice e))(a:Option Addr)(m c m' c':Nat):(Op.equal t (.slice a m c) (.slice none m' c')).run P w= .ok a.isNone w:=by
  have hd: ∀ d,(Op.equalIn (d+1) t (.slice a m c) (.slice none m' c')).run P w= .ok a.isNone w:=λd=>by cases a <;> simp[Op.equalIn,run_underlying hu]
  exact hd 9999
theorem agG{op:BinOp}{r:AV}{t e:TypeId}{p q:Operand}(hu:P.underlying t=some (.slice e))(a:Option Addr)(m c m' c':Nat)(he:zN op a.isNone=some r):
    ∃ z,(do eqGuard op t p q (.slice a m c) (.slice none m' c');binOp op t (.slice a m c) (.slice none m' c'):Sem Value).run P w= .ok z w/\r= .v z:=by
  have heq:=aIh (w:=w) hu a m c m' c'
  have hgd: ∀ op,(eqGuard op t p q (.slice a m c) (.slice none m' c')).run P w= .ok () w:=λop=>by cases op <;> simp[eqGuard]
  simp only[Sem.run_bind,hgd,Result.andThen_ok]
  cases op <;> simp only[zN,Option.some.injEq]at he <;> first|(cases he;done)|skip
  all_goals
    subst he
    refine⟨_,?_,rfl⟩
    simp only[binOp,Sem.run_bind,heq,Result.andThen_ok,Sem.run_pure]
theorem afe{k:Nat→Option Bool×PUnit→Sem (ForInStep (Option Bool×PUnit))}(g:Nat→Option Bool): ∀ (l:List Nat) (r:Bool),(∀ i ∈ l,∀ b,g i=some b→ ∀ s,(k i s).run P w= .ok (if b=true then .yield (none,⟨⟩)else .done (some false,⟨⟩)) w)→DR g l=some r→
    (forIn l ((none,⟨⟩):Option Bool×PUnit) k:Sem (Option Bool×PUnit)).run P w= .ok (if r=true then(none,⟨⟩)else(some false,⟨⟩)) w
  |[],r,h,hr=>by simp only[DR,Option.some.injEq]at hr;subst hr;simp
  | i ::l,r,h,hr=>by
    simp only[DR,Option.bind_eq_some_iff]at hr
    obtain⟨b,hb,hr⟩:=hr
    have h1:=h i (by simp) b hb
    cases b with
    | true=>
      rw[if_pos rfl]at hr
      have ih:=afe (k:=k) g l r (λj hj=>h j (by simp[hj])) hr
      simp only[List.forIn_cons,Sem.run_bind,h1,Result.andThen_ok,if_true]
      exact ih
    | false=>
      rw[if_neg (by decide)]at hr
      injection hr with hr
      subst hr
      simp only[List.forIn_cons,Sem.run_bind,h1,Result.andThen_ok]
      simp
theorem arW{t e:TypeId}{n:Nat}{xs ys:Array Value}{sz:Nat}{inf:TypeInfo}{d:Nat}{g:Nat→Option Bool}{r:Bool}(hu:P.underlying t=some (.array n e))(hi:P.info? e=some inf)(hs:inf.size=sz)
    (hg: ∀ i,i<n-> ∀ b,g i=some b-> ∃ a c,(Go.part e xs (i*sz)).run P w= .ok a w/\(Go.part e ys (i*sz)).run P w= .ok c w/\(Op.equalIn d e a c).run P w= .ok b w) (hr:DR g (List.range n)=some r):
    (Op.equalIn (d+1) t (.agg xs) (.agg ys)).run P w= .ok r w:=by
  unfold Op.equalIn
  simp only[Sem.run_bind,run_underlying hu,Result.andThen_ok,sizeOf,typeInfo]
  simp[hi,hs]
  rw[List.range_eq_range']at hr
  rw[afe g _ r (λi hmem b hb s=> ?_) hr]
  · cases r <;> simp
  · obtain⟨a,c,h1,h2,h3⟩:=hg i (by simpa using hmem) b hb
    simp only[Sem.run_bind,h1,h2,h3,Result.andThen_ok]
    cases b <;> simp
theorem akC{k:Field→Option Bool×PUnit→Sem (ForInStep (Option Bool×PUnit))}(g:Field→Option Bool): ∀ (l:List Field) (r:Bool),(∀ i ∈ l,∀ b,g i=some b→ ∀ s,(k i s).run P w= .ok (if b=true then .yield (none,⟨⟩)else .done (some false,⟨⟩)) w)→Ep g l=some r→
    (forIn l ((none,⟨⟩):Option Bool×PUnit) k:Sem (Option Bool×PUnit)).run P w= .ok (if r=true then(none,⟨⟩)else(some false,⟨⟩)) w
  |[],r,h,hr=>by simp only[Ep,Option.some.injEq]at hr;subst hr;simp
  | i ::l,r,h,hr=>by
    simp only[Ep,Option.bind_eq_some_iff,Option.some.injEq]at hr
    obtain⟨b,hb,c,hc,hr⟩:=hr
    have h1:=h i (by simp) b hb
    cases b with
    | true=>
      have ih:=akC (k:=k) g l c (λj hj=>h j (by simp[hj])) hc
      simp only[List.forIn_cons,Sem.run_bind,h1,Result.andThen_ok,if_true]
      simp only[Bool.true_and]at hr
      subst hr
      exact ih
    | false=>
      simp only[Bool.false_and]at hr
      subst hr
      simp only[List.forIn_cons,Sem.run_bind,h1,Result.andThen_ok]
      simp
theorem aFD{t:TypeId}{fs:Array Field}{xs ys:Array Value}{d:Nat}{g:Field→Option Bool}{r:Bool}(hu:P.underlying t=some (.struct fs))(hs:P.stoodInHeld t=false)(hn:fs.toList.all (fun f=>f.name != "_")=true)
    (hg: ∀ f ∈ fs.toList,∀ b,g f=some b-> ∃ a c,(Go.part f.type xs f.offset).run P w= .ok a w/\(Go.part f.type ys f.offset).run P w= .ok c w/\(Op.equalIn d f.type a c).run P w= .ok b w) (hr:Ep g fs.toList=some r):
    (Op.equalIn (d+1) t (.agg xs) (.agg ys)).run P w= .ok r w:=by
  unfold Op.equalIn
  simp only[Sem.run_bind,run_underlying hu,Result.andThen_ok]
  simp[hs]
  rw[← Array.forIn_toList,akC g _ r (λf hmem b hb s=> ?_) hr]
  · cases r <;> simp
  · obtain⟨a,c,h1,h2,h3⟩:=hg f hmem b hb
    have hne: ¬ f.name= "_" :=by simpa using List.all_eq_true.1 hn f hmem
    simp only[hne,if_false,Sem.run_bind,h1,h2,h3,Result.andThen_ok]
    cases b <;> simp
theorem axl: ∀ (d D:Nat),d≤D→ ∀ {t:TypeId} {x y:AV} {u v:Value} {b:Bool},VR w.heap F h M x u→VR w.heap F h M y v→DK P d t x y=some b→(Op.equalIn D t u v).run P w= .ok b w:=by
  intro d
  induction d with
  |zero=>intro D hD t x y u v b hx hy e;simp[DK]at e
  | succ d ih=>
    intro D hD t x y u v b hx hy e
    obtain⟨D,rfl⟩: ∃ D',D=D'+1:=⟨D - 1,by omega⟩
    simp only[DK,Option.bind_eq_some_iff]at e
    obtain⟨tv,htv,e⟩:=e
    split at e
    · rename_i k k1 a k2 b'
      have hu:=G7 htv
      obtain rfl:=hx.dI
      obtain rfl:=hy.dI
      split at e
      · rename_i hk
        injection e with e
        subst e
        unfold Op.equalIn
        simp[run_underlying hu,hk]
      · cases e
    · rename_i n el sz xs ys
      obtain⟨hu,inf,hi,hs⟩:=yh htv
      obtain⟨us,rfl,hl,hx⟩:=hx.mX
      obtain⟨vs,rfl,hl2,hy⟩:=hy.mX
      refine arW hu hi hs (λi hin b hb=> ?_) e
      simp only[Option.bind_eq_some_iff]at hb
      obtain⟨a,ha,c,hc,hb⟩:=hb
      obtain⟨a',h1,h2⟩:=Dc (P:=P) (w:=w) hl hx ha
      obtain⟨c',h3,h4⟩:=Dc (P:=P) (w:=w) hl2 hy hc
      exact⟨a',c',h1,h3,ih D (by omega) h2.vr h4.vr hb⟩
    · rename_i xs ys
      split at e
      · rename_i fs hu
        split at e
        · rename_i hc
          obtain⟨us,rfl,hl,hx⟩:=hx.mX
          obtain⟨vs,rfl,hl2,hy⟩:=hy.mX
          refine aFD hu hc.1 hc.2 (λf hf b hb=> ?_) e
          simp only[Option.bind_eq_some_iff]at hb
          obtain⟨a,ha,c,hc,hb⟩:=hb
          obtain⟨a',h1,h2⟩:=Dc (P:=P) (w:=w) hl hx ha
          obtain⟨c',h3,h4⟩:=Dc (P:=P) (w:=w) hl2 hy hc
          exact⟨a',c',h1,h3,ih D (by omega) h2.vr h4.vr hb⟩
        · cases e
      · cases e
    · cases e
theorem aDt {op:BinOp}{x y r:AV}{u v:Value}{t:TypeId}{p q:Operand}(hx:VR w.heap F h M x u)(hy:VR w.heap F h M y v)(e:nU P op t x y=some r):
    ∃ z,(do eqGuard op t p q u v;binOp op t u v:Sem Value).run P w= .ok z w/\r= .v z:=by
  unfold nU at e
  split at e
  · rename_i k a k' b
    unfold eX at e
    obtain rfl:=hx.dI
    obtain rfl:=hy.dI
    have hgd: ∀ op,(eqGuard op t p q (.int k a) (.int k' b)).run P w= .ok () w:=λop=>by cases op <;> simp[eqGuard]
    split at e
    · rename_i hsh
      simp only[Option.bind_eq_some_iff,Option.some.injEq]at e
      obtain⟨r',e1,rfl⟩:=e
      refine⟨_,?_,rfl⟩
      simp only[Sem.run_bind,hgd,Result.andThen_ok]
      cases op <;> simp[BinOp.kH]at hsh <;> simp only[Np]at e1 <;> split at e1 <;> first|(cases e1;done)|skip
      all_goals
        rename_i hb
        injection e1 with e1
        subst e1
        simp[binOp,Op.shift,hb]
    · rename_i hsh
      split at e
      · rename_i hkk
        subst hkk
        split at e
        · rename_i hcmp
          simp only[Option.bind_eq_some_iff,Option.some.injEq]at e
          obtain⟨r',e1,rfl⟩:=e
          refine⟨_,?_,rfl⟩
          simp only[Sem.run_bind,hgd,Result.andThen_ok]
          cases op <;> simp[BinOp.l7]at hcmp <;> simp only[yS,Option.some.injEq]at e1 <;> subst e1 <;> simp[binOp,Op.intCmp]
        · rename_i hcmp
          simp only[Option.bind_eq_some_iff,Option.some.injEq]at e
          obtain⟨r',e1,rfl⟩:=e
          refine⟨_,?_,rfl⟩
          simp only[Sem.run_bind,hgd,Result.andThen_ok]
          cases op <;> simp[BinOp.l7,BinOp.kH]at hcmp hsh <;> simp only[rY,yC,Option.some.injEq]at e1
          all_goals first
            |(subst e1;simp[binOp,Op.intArith,Op.intBits];done)
            | (split at e1
               · cases e1
               · rename_i hb
                 injection e1 with e1
                 subst e1
                 simp[binOp,Op.intDiv,hb])
      · cases e
  · rename_i a b
    obtain rfl:=hx.dI
    obtain rfl:=hy.dI
    simp only[Option.bind_eq_some_iff]at e
    obtain⟨tv,htv,e⟩:=e
    split at e
    · have hu:=Uc htv
      have heq:(Op.equal t (.bool a) (.bool b)).run P w= .ok (a==b) w:=run_equal_bool hu a b
      have hgd: ∀ op,(eqGuard op t p q (.bool a) (.bool b)).run P w= .ok () w:=λop=>by cases op <;> simp[eqGuard]
      simp only[Sem.run_bind,hgd,Result.andThen_ok]
      cases op <;> simp only[Eg,Option.some.injEq]at e <;> first|(cases e;done)|skip
      all_goals
        subst e
        refine⟨_,?_,rfl⟩
        simp only[binOp,Sem.run_bind,heq,Result.andThen_ok,Sem.run_pure]
    · cases e
  · rename_i a m c m' c'
    obtain rfl:=hx.dI
    obtain rfl:=hy.dI
    simp only[Option.bind_eq_some_iff]at e
    obtain⟨tv,htv,e⟩:=e
    split at e
    · obtain⟨hu,_⟩:=mi htv
      exact agG hu a m c m' c' e
    · cases e
  · rename_i m xs m' c'
    obtain rfl:=hy.dI
    split at e
    · cases e
    rename_i hm
    simp only[Option.bind_eq_some_iff]at e
    obtain⟨tv,htv,e⟩:=e
    split at e
    · obtain⟨hu,_⟩:=mi htv
      have hv:=hx.pg
      cases hv with
      |ed=>exact absurd rfl hm
      | @arr _ _ b o c us hc hF hr hl hx=>exact agG hu (some ⟨b,o,none⟩) m c m' c' e
    · cases e
  · rename_i xs ys
    split at e
    · split at e
      · rename_i hgt
        simp only[Option.bind_eq_some_iff,Option.some.injEq]at e
        obtain⟨b,hb,rfl⟩:=e
        have he:=axl (w:=w) 4 Op.maxDepth (by decide) hx hy hb
        obtain⟨us,rfl,_,_⟩:=hx.mX
        obtain⟨vs,rfl,_,_⟩:=hy.mX
        refine⟨_,?_,rfl⟩
        have hgd:(eqGuard .eql t p q (.agg ⟨us⟩) (.agg ⟨vs⟩)).run P w= .ok () w:=by simp[eqGuard,hgt]
        have heq:(Op.equal t (.agg ⟨us⟩) (.agg ⟨vs⟩)).run P w= .ok b w:=he
        simp only[Sem.run_bind,hgd,Result.andThen_ok,binOp,heq,Sem.run_pure]
      · cases e
    · cases e
  · cases e
theorem aJd{op:UnOp}{x r:AV}{u:Value}(hx:VR w.heap F h M x u)(e:AQ op x=some r): ∃ z,(Op.unary op u).run P w= .ok z w∧r= .v z:=by
  unfold AQ at e
  split at e
  · obtain rfl:=hx.dI;injection e with e;exact⟨_,by simp[Op.unary],e.symm⟩
  · obtain rfl:=hx.dI;injection e with e;exact⟨_,by simp[Op.unary,Op.intArith],e.symm⟩
  · obtain rfl:=hx.dI
    simp only[yC,Option.bind_some,Option.some.injEq]at e
    exact⟨_,by simp[Op.unary,Op.intBits],e.symm⟩
  · cases e
theorem Iy{H:Array Obj}{x:AV}{n:Int}{u:Value}(hx:VR H F h M x u)(e:lT x=some n): ∃ k,u= .int k n:=by
  unfold lT at e
  split at e
  · obtain rfl:=hx.dI;injection e with e;subst e;exact⟨_,rfl⟩
  · cases e
theorem aHk{x y:AV}{u:Value}{t:TypeId}{k:IntKind}{i:Int}(hv:VR w.heap F h M x u)(e:yg P t x i=some y):
    ∃ v,(Instr.index t u (.int k i)).run P w= .ok v w/\VR w.heap F h M y v:=by
  unfold yg at e
  simp only[Option.bind_eq_some_iff]at e
  obtain⟨tv,htv,e⟩:=e
  split at e
  · rename_i n et sz xs
    obtain⟨hu,inf,hi,rfl⟩:=yh htv
    split at e
    · rename_i hc
      obtain⟨us,rfl,hl,hx⟩:=hv.mX
      obtain⟨v,h1,h2⟩:=Dc (P:=P) (w:=w) hl hx e
      refine⟨v,?_,h2.vr⟩
      simpa[Instr.index,asIntOf,run_underlying hu,hc,sizeOf,typeInfo,hi]using h1
    · cases e
  · rename_i s
    have hu:=Jh htv
    obtain rfl:=hv.dI
    split at e
    · rename_i hc
      simp only[Option.bind_eq_some_iff,Option.some.injEq]at e
      obtain⟨b,hb,rfl⟩:=e
      refine⟨_,?_,.c .v⟩
      simp[Instr.index,asIntOf,run_underlying hu,hc,hb]
    · cases e
  · cases e
end
end Go.Av
