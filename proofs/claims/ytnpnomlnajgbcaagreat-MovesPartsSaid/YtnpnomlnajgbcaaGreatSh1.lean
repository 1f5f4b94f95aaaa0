/- Code: what the interpreter makes of it the model makes of it. Conditions: none. -/
import Derived.Test.YtnpnomlnajgbcaaGreatSg6
import Derived.LoopN
import Derived.Scope
set_option linter.unusedVariables false
namespace Go.Av
def codeOk (N : Nat) (D : List (Nat × List Nat)) : Code → Bool
  | .skip => true
  | .label _ => true
  | .exit _ => true
  | .ret => true
  | .region id ⟨ops⟩ draw => ops.all (dstOk N) && (!draw || drawAny (D.getD (2 * id) (0, [])).1 ops.toArray)
  | .seq a b => codeOk N D a && codeOk N D b
  | .cond _ a b => codeOk N D a && codeOk N D b
  | .block _ c => codeOk N D c
  | .loop c => codeOk N D c
  | .scope c => codeOk N D c
  | _ => false
def Ex.toExit : Ex → Exit
  | .normal => .normal
  | .exit id => .exit id
  | .ret => .ret
section
variable {P : Program} {C : Cfg} {cp : CallP} {ci : CallI} {lvl N : Nat} {prot : List Id} {D : List (Nat × List Nat)}
theorem St.drop {w : World} {F : Nat → Prop} {h : Heap} {M : Id → Option Nat} {e : Env} {a : Act} (st : St N w F h M e a) (ds : List Nat) : St N w F h M (e.drop ds) a := by
  have hget : ∀ (e : Env) k x, (e.drop ds).get k = some x → e.get k = some x := fun e => by
    induction e with
    | nil => intro k x h; simp [Env.drop, Env.get] at h
    | cons p e ih =>
      obtain ⟨j, y⟩ := p
      intro k x h
      unfold Env.drop at h
      split at h
      · rename_i hj
        have := ih k x h
        simp only [Env.get]
        by_cases e1 : j = k
        · subst e1
          exfalso
          -- what is struck does not come back
          have hnot : ∀ (e : Env), (e.drop ds).get j = none := fun e => by
            induction e with
            | nil => simp [Env.drop, Env.get]
            | cons p e ih2 =>
              obtain ⟨j2, y2⟩ := p
              unfold Env.drop
              split
              · exact ih2
              · rename_i hj2
                simp only [Env.get]
                rw [if_neg (fun he : j2 = j => hj2 (by rw [he]; exact hj))]
                exact ih2
          rw [hnot] at h; cases h
        · rw [if_neg e1]; exact this
      · simp only [Env.get] at h ⊢
        split at h
        · rename_i e1; rw [if_pos e1]; exact h
        · rename_i e1; rw [if_neg e1]; exact ih k x h
  exact ⟨st.ok, fun k x hx => st.env k x (hget e k x hx), st.size, st.defers⟩
theorem EnvR.set {w : World} {F : Nat → Prop} {h : Heap} {M : Id → Option Nat} {e : Env} {a : Act} (he : EnvR w.heap F h M e.get a) {k : Nat} {y : AV} (hy : VR w.heap F h M y (a.tmps.getD k undef)) : EnvR w.heap F h M (e.set k y).get a := fun j x hj => by
  by_cases e1 : j = k
  · subst e1
    rw [envGet_set_same] at hj; injection hj with hj; subst hj
    exact hy
  · rw [envGet_set_ne e k j y e1] at hj
    exact he j x hj
theorem env_drop_get (ds : List Nat) : ∀ (e : Env) (k : Nat), memN ds k = false → (e.drop ds).get k = e.get k
  | [], k, _ => rfl
  | (j, y) :: e, k, hk => by
    unfold Env.drop
    split
    · rename_i hj
      rw [env_drop_get ds e k hk]
      simp only [Env.get]
      rw [if_neg (fun he : j = k => by subst he; rw [hk] at hj; cases hj)]
    · simp only [Env.get, env_drop_get ds e k hk]
theorem shrink_ok {w : World} {a : Act} {F : Nat → Prop} {h : Heap} {M : Id → Option Nat} {e e' : Env} {h' : Heap} {k : Nat} (st : St N w F h M e a) (hq : shrink prot k e h = some (e', h')) :
    St N w F h' M e' a ∧ Evo (fun id => memI prot id = true) w F h M w F h' M := by
  unfold shrink at hq
  simp only [Option.bind_eq_some_iff] at hq
  obtain ⟨x, hx, hq⟩ := hq
  unfold shrinkV at hq
  split at hq
  · rename_i id n ext
    simp only [Option.bind_eq_some_iff] at hq
    obtain ⟨blk, hg, hq⟩ := hq
    unfold shrinkB at hq
    split at hq
    · rename_i sz e2 cells
      split at hq
      · rename_i hc
        obtain ⟨rfl, hn, hp, he, hh⟩ := hc
        injection hq with hq
        simp only [Prod.mk.injEq] at hq
        obtain ⟨rfl, rfl⟩ := hq
        have hk := st.ok
        have hget : ∀ j, j ≠ id → (h.set id (.sl true true sz n (cells.take (n * sz)))).get j = h.get j := fun j hj => get_set_ne h id j _ hj
        have hv : ∀ y u, names id 4 y = false → VR w.heap F h M y u → VR w.heap F (h.set id (.sl true true sz n (cells.take (n * sz)))) M y u := fun y u hy v =>
          v.dropped 4 fun j hj => hget j fun e => by subst e; rw [hy] at hj; cases hj
        have hnh : ∀ j b, h.get j = some b → namedB id b = false := fun j b hb => by
          cases hnb : namedB id b with
          | false => rfl
          | true => rw [namedH_of hb hnb] at hh; cases hh
        have hrow := hk.row id _ hg
        have hok : HOK w.heap F (h.set id (.sl true true sz n (cells.take (n * sz)))) M := by
          refine ⟨fun j x hj => ?_, fun j j' x x' b g1 g2 => ?_, hk.fb⟩
          · by_cases e1 : j = id
            · subst e1
              rw [get_set_same] at hj
              injection hj with hj
              subst hj
              obtain ⟨hl, hr⟩ := hrow
              refine ⟨?_, ?_⟩
              · rw [List.length_take, hl]; exact Nat.min_eq_left (Nat.mul_le_mul_right _ hn)
              · rcases hr with ⟨h1, h2⟩ | ⟨b, cur, t, h1, h2, h3, h4, h5⟩
                · exact .inl ⟨by omega, h2⟩
                · refine .inr ⟨b, cur, t, h1, h2, h3, h4, fun i y hy => ?_⟩
                  have hy' : cells[i]? = some y := by
                    rw [List.getElem?_take] at hy
                    split at hy
                    · exact hy
                    · cases hy
                  obtain ⟨u, a1, a2, a3⟩ := h5 i y hy'
                  exact ⟨u, a1, a2, fun hcl => by cases hcl⟩
            · rw [hget j e1] at hj
              have hr := hk.row j x hj
              have hnb := hnh j x hj
              cases x with
              | sl cl rw_ sz2 ext2 cells2 =>
                obtain ⟨hl, hr⟩ := hr
                refine ⟨hl, hr.imp_right fun ⟨b, cur, t, h1, h2, h3, h4, h5⟩ => ⟨b, cur, t, h1, h2, h3, h4, fun i y hy => ?_⟩⟩
                obtain ⟨u, a1, a2, a3⟩ := h5 i y hy
                refine ⟨u, a1, a2, fun hcl => hv y u ?_ (a3 hcl)⟩
                subst hcl
                simp only [namedB, List.any_eq_false] at hnb
                simpa using hnb y (List.mem_of_getElem? hy)
              | bx rw_ cells2 =>
                obtain ⟨b, cur, t, h1, h2, hl, h3, h4, h5⟩ := hr
                refine ⟨b, cur, t, h1, h2, hl, h3, h4, fun i y hy => ?_⟩
                obtain ⟨u, a1, a2⟩ := h5 i y hy
                refine ⟨u, a1, hv y u ?_ a2⟩
                simp only [namedB, List.any_eq_false] at hnb
                simpa using hnb y (List.mem_of_getElem? hy)
          · have old : ∀ j x, (h.set id (.sl true true sz n (cells.take (n * sz)))).get j = some x → ∃ y, h.get j = some y := fun j x hj => by
              by_cases e1 : j = id
              · subst e1; exact ⟨_, hg⟩
              · rw [hget j e1] at hj; exact ⟨x, hj⟩
            obtain ⟨y, hy⟩ := old j x g1
            obtain ⟨y', hy'⟩ := old j' x' g2
            exact hk.inj j j' y y' b hy hy'
        refine ⟨⟨hok, fun j x hj => ?_, st.size, st.defers⟩, rfl, rfl, rfl, Nat.le_refl _, fun _ _ _ => rfl, fun _ h => h, fun _ h _ => .inl h, fun j y hy hr => .inl ?_, fun j x hj hpj => ⟨x, ?_, Held.refl rfl fun _ _ => rfl⟩⟩
        · by_cases e1 : j = k
          · subst e1
            rw [envGet_set_same] at hj
            injection hj with hj
            subst hj
            obtain ⟨a0, c, cl, rw_, sz2, e3, cells2, hu, hg2, hnc, hle, ho⟩ := (st.env _ _ hx).own_inv
            rw [hg] at hg2
            injection hg2 with hg2
            injection hg2 with q1 q2 q3 q4 q5
            subst q1 q2 q3 q4 q5
            rw [hu]
            refine .own (get_set_same _ _ _) hnc (Nat.le_refl _) fun _ => ?_
            obtain ⟨o1, o2⟩ := ho rfl
            refine ⟨?_, o2⟩
            exact Nat.le_trans (Nat.mul_le_mul_right _ hnc) (Nat.le_add_left _ _)
          · rw [envGet_set_ne e k j _ e1] at hj
            refine hv x _ ?_ (st.env j x hj)
            cases hnm : names id 4 x with
            | false => rfl
            | true =>
              have hd : (e.drop [k]).get j = some x := by
                rw [env_drop_get [k] e j (by simp [memN, Ne.symm e1])]; exact hj
              rw [namedE_of hd hnm] at he; cases he
        · by_cases e1 : j = id
          · subst e1
            exact ⟨_, hg, rfl, rfl⟩
          · rw [hget j e1] at hy; exact ⟨y, hy, hr, rfl⟩
        · have : j ≠ id := fun e1 => by subst e1; rw [hp] at hpj; cases hpj
          rw [hget j this]; exact hj
      · cases hq
    · cases hq
  · injection hq with hq
    simp only [Prod.mk.injEq] at hq
    obtain ⟨rfl, rfl⟩ := hq
    exact ⟨st, .refl⟩
  · cases hq
theorem import_nil {H : Array Obj} {F : Nat → Prop} {h h' : Heap} {M : Id → Option Nat} {k : Id} {sz : Nat} {cl : Bool} (hk : HOK H F h M) (e : h.new k (.sl cl true sz 0 []) = some h') :
    ∃ M', Imp H F [] h M h' M' ∧ VR H F h' M' (.own k 0 0 0) (.slice none 0 0) := by
  have hg : h'.get k = some (.sl cl true sz 0 []) := by obtain ⟨_, rfl⟩ := new_some e; exact get_set_same _ _ _
  refine ⟨updM M k none, imp_new hk e rfl (fun b hb => by cases hb) ⟨by simp, .inl ⟨rfl, updM_same⟩⟩, ?_⟩
  exact .own hg (Nat.le_refl _) (Nat.le_refl _) fun _ => ⟨by simp, .inl ⟨rfl, rfl⟩⟩
theorem openB_ok {w : World} {a : Act} {F : Nat → Prop} {h : Heap} {M : Id → Option Nat} {e : Env} {h' : Heap} {k sz c lvl : Nat} (st : St N w F h M e a) (hq : openB lvl k sz c e h = some h') :
    ∃ M', St N w F h' M' e a ∧ Evo All w F h M w F h' M' := by
  unfold openB at hq
  simp only [Option.bind_eq_some_iff] at hq
  obtain ⟨x, hx, hq⟩ := hq
  unfold openBV at hq
  split at hq
  · rename_i id
    simp only [Option.bind_eq_some_iff] at hq
    obtain ⟨blk, hg, hq⟩ := hq
    unfold openBB at hq
    split at hq
    · rename_i cells
      simp only [Option.bind_eq_some_iff] at hq
      obtain ⟨z, hz, hq⟩ := hq
      unfold openBC at hq
      split at hq
      · by_cases hsz : sz = 0
        · rw [if_pos hsz] at hq
          simp only [Option.some.injEq] at hq
          subst hq
          obtain ⟨b1, cur1, t1, n1, n2, hlen1, n3, n4, n5⟩ := st.ok.row id _ hg
          obtain ⟨u1, d1, d2⟩ := n5 c _ hz
          obtain rfl := d2.v_inv
          have hu := @upd_ok w w F _ M st.ok id _ (.bx true (cells.set c (.arr 0 []))) hg rfl rfl (M id) rfl rfl rfl (Nat.le_refl _) (fun c _ _ => rfl) (.inl rfl)
          rw [updM_self] at hu
          have hheld : Held w.heap w.heap M M id (.bx true cells) (.bx true (cells.set c (.arr 0 []))) := ⟨fun _ _ _ _ _ h => (by cases h), Nat.le_refl _, fun _ => ⟨rfl, fun _ _ => rfl⟩⟩
          obtain ⟨k2, ev2⟩ := hu hheld (fun hh hF => ⟨b1, cur1, t1, n1, n2, by rw [List.length_set]; exact hlen1, n3, n4, fun i y hy => by
            rw [List.getElem?_set] at hy
            split at hy
            · rename_i hci
              subst hci
              split at hy
              · injection hy with hy
                subst hy
                exact ⟨_, d1, .c .arr0⟩
              · cases hy
            · obtain ⟨u2, g1, g2⟩ := n5 i y hy
              exact ⟨u2, g1, g2.keep (fun _ h => h) (fun _ _ => rfl) hh⟩⟩)
          exact ⟨M, ⟨k2, fun j x hj => Evo.vr st.ok ev2 (st.env j x hj), st.size, st.defers⟩, ev2⟩
        rw [if_neg hsz] at hq
        obtain ⟨ocl, osz, hB⟩ : ∃ ocl osz, (if 500 < sz then Blk.sl false true (sz - 500) 0 [] else .sl true true sz 0 []) = .sl ocl true osz 0 [] := by split <;> exact ⟨_, _, rfl⟩
        rw [hB] at hq
        simp only [Option.bind_eq_some_iff, Option.some.injEq] at hq
        obtain ⟨h1, hn, rfl⟩ := hq
        obtain ⟨b, cur, t, m1, m2, hlen, m3, m4, m5⟩ := st.ok.row id _ hg
        obtain ⟨M1, im, hvr⟩ := import_nil (F := F) (H := w.heap) (M := M) st.ok hn
        have ev : Evo All w F h M w F h1 M1 := im.evo (Nat.le_refl _) (fun b hb => by cases hb) .refl st.ok
        obtain ⟨hnone, rfl⟩ := new_some hn
        have hne : id ≠ (lvl, k, 78 + c) := fun e1 => by subst e1; rw [hg] at hnone; cases hnone
        have hg1 : (h.set (lvl, k, 78 + c) (.sl ocl true osz 0 [])).get id = some (.bx true cells) := by rw [get_set_ne _ _ _ _ hne]; exact hg
        have hrow1 := im.ok.row id _ hg1
        obtain ⟨b1, cur1, t1, n1, n2, hlen1, n3, n4, n5⟩ := hrow1
        obtain ⟨u1, d1, d2⟩ := n5 c _ hz
        obtain rfl := d2.v_inv
        have hu := @upd_ok w w F _ M1 im.ok id _ (.bx true (cells.set c (.own (lvl, k, 78 + c) 0 0 0))) hg1 rfl rfl (M1 id) rfl rfl rfl (Nat.le_refl _) (fun c _ _ => rfl) (.inl rfl)
        rw [updM_self] at hu
        have hheld : Held w.heap w.heap M1 M1 id (.bx true cells) (.bx true (cells.set c (.own (lvl, k, 78 + c) 0 0 0))) := ⟨fun _ _ _ _ _ h => (by cases h), Nat.le_refl _, fun _ => ⟨rfl, fun _ _ => rfl⟩⟩
        obtain ⟨k2, ev2⟩ := hu hheld (fun hh hF => ⟨b1, cur1, t1, n1, n2, by rw [List.length_set]; exact hlen1, n3, n4, fun i y hy => by
          rw [List.getElem?_set] at hy
          split at hy
          · rename_i hci
            subst hci
            split at hy
            · injection hy with hy
              subst hy
              exact ⟨_, d1, hvr.keep (fun _ h => h) (fun _ _ => rfl) hh⟩
            · cases hy
          · obtain ⟨u2, g1, g2⟩ := n5 i y hy
            exact ⟨u2, g1, g2.keep (fun _ h => h) (fun _ _ => rfl) hh⟩⟩)
        refine ⟨M1, ⟨k2, fun j x hj => ?_, st.size, st.defers⟩, ev.trans im.ok ev2⟩
        exact Evo.vr im.ok ev2 ((st.env j x hj).ext im.ext)
      · rename_i j off n ext
        simp only [Option.bind_eq_some_iff] at hq
        obtain ⟨bj, hj, hq⟩ := hq
        unfold sealBC at hq
        split at hq
        · rename_i sz' e' cs
          split at hq
          · rename_i hee
            simp only [Option.some.injEq] at hq
            subst hq
            obtain ⟨b1, cur1, t1, n1, n2, hlen1, n3, n4, n5⟩ := st.ok.row id _ hg
            obtain ⟨u1, d1, d2⟩ := n5 c _ hz
            have hfr : ∀ b, M j = some b → F b := fun b hb => by
              obtain ⟨_, hr⟩ := st.ok.row j _ hj
              rcases hr with ⟨_, h0⟩ | ⟨b', cur, t, q1, q2, q3, q4, q5⟩
              · rw [h0] at hb; cases hb
              · rw [q1] at hb; injection hb with hb; subst hb; exact q4 rfl
            have hvc := exportV_own st.ok d2 hj hee (G := F) (fun _ h => h) hfr
            have hu := @upd_ok w w F _ M st.ok id _ (.bx true (cells.set c (.arr n (cut cs off n sz' e')))) hg rfl rfl (M id) rfl rfl rfl (Nat.le_refl _) (fun c _ _ => rfl) (.inl rfl)
            rw [updM_self] at hu
            have hheld : Held w.heap w.heap M M id (.bx true cells) (.bx true (cells.set c (.arr n (cut cs off n sz' e')))) := ⟨fun _ _ _ _ _ h => (by cases h), Nat.le_refl _, fun _ => ⟨rfl, fun _ _ => rfl⟩⟩
            obtain ⟨k2, ev2⟩ := hu hheld (fun hh hF => ⟨b1, cur1, t1, n1, n2, by rw [List.length_set]; exact hlen1, n3, n4, fun i y hy => by
              rw [List.getElem?_set] at hy
              split at hy
              · rename_i hci
                subst hci
                split at hy
                · injection hy with hy
                  subst hy
                  exact ⟨_, d1, .c hvc⟩
                · cases hy
              · obtain ⟨u2, g1, g2⟩ := n5 i y hy
                exact ⟨u2, g1, g2.keep (fun _ h => h) (fun _ _ => rfl) hh⟩⟩)
            exact ⟨M, ⟨k2, fun j x hj => Evo.vr st.ok ev2 (st.env j x hj), st.size, st.defers⟩, ev2⟩
          · cases hq
        · cases hq
      · cases hq
    · cases hq
  · cases hq
theorem post_ok {lvl : Nat} {prot : List Id} {w : World} {a : Act} : ∀ (ks : List Nat) {F : Nat → Prop} {h : Heap} {M : Id → Option Nat} {e : Env} {e' : Env} {h' : Heap}, St N w F h M e a → post lvl prot ks e h = some (e', h') →
    ∃ F' M', St N w F' h' M' e' a ∧ Evo (fun id => memI prot id = true) w F h M w F' h' M'
  | [], F, h, M, e, e', h', st, hq => by
    simp only [post, Option.some.injEq, Prod.mk.injEq] at hq
    obtain ⟨rfl, rfl⟩ := hq
    exact ⟨F, M, st, .refl⟩
  | k :: ks, F, h, M, e, e', h', st, hq => by
    unfold post at hq
    split at hq
    · exact post_ok ks st hq
    · split at hq
      · split at hq
        · rename_i hg
          simp only [Option.bind_eq_some_iff] at hq
          obtain ⟨h1, hn, hq⟩ := hq
          have hv := (st.env _ _ hg).v_inv
          obtain ⟨M1, im, hvr⟩ := import_fresh (F := F) (H := w.heap) (M := M) (u := a.tmps.getD (k % 1000000) undef) (bs := []) (by rw [hv]; exact .nil) st.ok (fun b hb => by cases hb) (fun b hb => by cases hb) hn
          have ev : Evo All w F h M w F h1 M1 := im.evo (Nat.le_refl _) (fun b hb => by cases hb) .refl st.ok
          have st1 : St N w F h1 M1 (e.set (k % 1000000) (.own (lvl, k % 1000000, 77) 0 0 0)) a := ⟨im.ok, EnvR.set (fun j x hj => (st.env j x hj).ext im.ext) hvr, st.size, st.defers⟩
          obtain ⟨F2, M2, s2, ev2⟩ := post_ok ks st1 hq
          exact ⟨F2, M2, s2, (ev.weaken fun _ _ => trivial).trans im.ok ev2⟩
        · exact post_ok ks st hq
        · cases hq
      · split at hq
        · simp only [Option.bind_eq_some_iff] at hq
          obtain ⟨r, hr, hq⟩ := hq
          obtain ⟨M1, st1, ev1⟩ := openB_ok st hr
          obtain ⟨F2, M2, s2, ev2⟩ := post_ok ks st1 hq
          exact ⟨F2, M2, s2, (ev1.weaken fun _ _ => trivial).trans st1.ok ev2⟩
        split at hq
        · simp only [Option.bind_eq_some_iff] at hq
          obtain ⟨r, hr, hq⟩ := hq
          obtain ⟨st1, ev1⟩ := shrink_ok st hr
          obtain ⟨F2, M2, s2, ev2⟩ := post_ok ks st1 hq
          exact ⟨F2, M2, s2, ev1.trans st1.ok ev2⟩
        split at hq
        · obtain ⟨k1, ev1, hvr⟩ := sweep_ok st.ok prot e
          have st1 : St N w F (sweep prot e h) M e a := ⟨k1, fun k y hy => hvr y _ (fun id hid => namedE_of hy hid) (st.env k y hy), st.size, st.defers⟩
          obtain ⟨F2, M2, s2, ev2⟩ := post_ok ks st1 hq
          exact ⟨F2, M2, s2, ev1.trans k1 ev2⟩
        simp only [Option.bind_eq_some_iff] at hq
        obtain ⟨x, hx, y, hy, hq⟩ := hq
        obtain ⟨k1, fz⟩ := freezeAll_ok (borrowed h.get 4 x) st.ok
        have ev1 := fz.evo (is := borrowed h.get 4 x) st.ok
        have hc := exportV_ok st.ok 4 x _ y (st.env _ _ hx) hy
        have st1 : St N w _ (freezeAll h (borrowed h.get 4 x)) M (e.set (k % 1000000) y) a := ⟨k1, EnvR.set (fun j x hj => ev1.vr st.ok (st.env j x hj)) (.c hc), st.size, st.defers⟩
        obtain ⟨F2, M2, s2, ev2⟩ := post_ok ks st1 hq
        exact ⟨F2, M2, s2, (ev1.weaken fun _ _ => trivial).trans k1 ev2⟩
theorem St.dropO {w : World} {F : Nat → Prop} {h : Heap} {M : Id → Option Nat} {e : Env} {a : Act} {o : Operand} (st : St N w F h M e a) : St N w F h M (dropO D o e) a := by
  cases o <;> try exact st
  rename_i t
  show St N w F h M (if (D.getD (2 * t + 1) (0, [])).1 = 0 then e.drop [t] else e) a
  by_cases hd : (D.getD (2 * t + 1) (0, [])).1 = 0
  · rw [if_pos hd]; exact st.drop _
  · rw [if_neg hd]; exact st
def Kp (prot : List Id) (id : Id) : Prop := memI prot id = true
def ExecOK (P : Program) (N : Nat) (prot : List Id) (c : Code) (f : Env → Heap → Option (Ex × Env × Heap)) : Prop :=
  ∀ {w : World} {F : Nat → Prop} {h : Heap} {M : Id → Option Nat} {e : Env} {a : Act} {x : Ex} {e' : Env} {h' : Heap} {Q : Exit → Act → World → Prop}, St N w F h M e a → f e h = some (x, e', h') →
    (∀ a' w' F' M', St N w' F' h' M' e' a' → Evo (Kp prot) w F h M w' F' h' M' → Q x.toExit a' w') → c.wp P Q a w
theorem sweepX_ok {w w2 : World} {F F2 : Nat → Prop} {h h1 h' : Heap} {M M2 : Id → Option Nat} {e1 e' : Env} {a2 : Act} {x1 x : Ex} {Q : Exit → Act → World → Prop} (hq : sweepX prot (x1, e1, h1) = some (x, e', h'))
    (s2 : St N w2 F2 h1 M2 e1 a2) (ev2 : Evo (Kp prot) w F h M w2 F2 h1 M2)
    (hn : ∀ a' w' F' M', St N w' F' h' M' e' a' → Evo (Kp prot) w F h M w' F' h' M' → Q x.toExit a' w') : Q x1.toExit a2 w2 := by
  cases x1 with
  | normal =>
    simp only [sweepX, Option.some.injEq, Prod.mk.injEq] at hq
    obtain ⟨rfl, rfl, rfl⟩ := hq
    obtain ⟨k1, ev1, hvr⟩ := sweep_ok s2.ok prot e1
    exact hn a2 w2 F2 M2 ⟨k1, fun k y hy => hvr y _ (fun id hid => namedE_of hy hid) (s2.env k y hy), s2.size, s2.defers⟩ (ev2.trans s2.ok ev1)
  | exit j =>
    simp only [sweepX, Option.some.injEq, Prod.mk.injEq] at hq
    obtain ⟨rfl, rfl, rfl⟩ := hq
    exact hn a2 w2 F2 M2 s2 ev2
  | ret =>
    simp only [sweepX, Option.some.injEq, Prod.mk.injEq] at hq
    obtain ⟨rfl, rfl, rfl⟩ := hq
    exact hn a2 w2 F2 M2 s2 ev2
theorem aloop_rounds {c : Code} {body : Env → Heap → Option (Ex × Env × Heap)} (hb : ExecOK P N prot c body) : ∀ n {w : World} {F : Nat → Prop} {h : Heap} {M : Id → Option Nat} {e : Env} {a : Act} {x : Ex} {e' : Env} {h' : Heap} {Q : Exit → Act → World → Prop}, St N w F h M e a → aloop prot body n e h = some (x, e', h') →
    (∀ a' w' F' M', St N w' F' h' M' e' a' → Evo (Kp prot) w F h M w' F' h' M' → Q x.toExit a' w') → Code.rounds P c Q n a w := by
  intro n
  induction n with
  | zero => intro w F h M e a x e' h' Q st hq _; simp [aloop] at hq
  | succ n ih =>
    intro w F h M e a x e' h' Q st hq hn
    simp only [aloop, Option.bind_eq_some_iff, Prod.exists] at hq
    obtain ⟨x1, e1, h1, hbody, hq⟩ := hq
    obtain ⟨k1, ev1, hvr⟩ := sweep_ok st.ok prot e
    have st1 : St N w F (sweep prot e h) M e a := ⟨k1, fun k y hy => hvr y _ (fun id hid => namedE_of hy hid) (st.env k y hy), st.size, st.defers⟩
    have ev1' : Evo (Kp prot) w F h M w F (sweep prot e h) M := ev1
    refine hb st1 hbody fun a2 w2 F2 M2 s2 ev2 => ?_
    cases x1 with
    | normal => exact ih s2 hq fun a3 w3 F3 M3 s3 ev3 => hn a3 w3 F3 M3 s3 ((ev1'.trans k1 ev2).trans s2.ok ev3)
    | exit id =>
      simp only [Option.some.injEq, Prod.mk.injEq] at hq
      obtain ⟨rfl, rfl, rfl⟩ := hq
      exact hn a2 w2 F2 M2 s2 (ev1'.trans k1 ev2)
    | ret =>
      simp only [Option.some.injEq, Prod.mk.injEq] at hq
      obtain ⟨rfl, rfl, rfl⟩ := hq
      exact hn a2 w2 F2 M2 s2 (ev1'.trans k1 ev2)
theorem aloop_ok {c : Code} {body : Env → Heap → Option (Ex × Env × Heap)} (hb : ExecOK P N prot c body) (n : Nat) : ExecOK P N prot (.loop c) (aloop prot body n) :=
  fun st hq hn => wp_loop_rounds n (aloop_rounds hb n st hq hn)
theorem exec_ok (hm : P.follows .mixedOrders = true) (hcp : CpOK P cp) (hci : CiOK P ci) (n : Nat) : ∀ c, codeOk N D c = true → ExecOK P N prot c (exec P C cp ci lvl prot D n c)
  | .skip, _ => fun st hq hn => by
    simp only [exec, Option.some.injEq, Prod.mk.injEq] at hq
    obtain ⟨rfl, rfl, rfl⟩ := hq
    exact wp_skip (hn _ _ _ _ st .refl)
  | .label l, _ => fun st hq hn => by
    simp only [exec, Option.some.injEq, Prod.mk.injEq] at hq
    obtain ⟨rfl, rfl, rfl⟩ := hq
    exact wp_label (hn _ _ _ _ st .refl)
  | .exit id, _ => fun st hq hn => by
    simp only [exec, Option.some.injEq, Prod.mk.injEq] at hq
    obtain ⟨rfl, rfl, rfl⟩ := hq
    exact wp_exit (hn _ _ _ _ st .refl)
  | .ret, _ => fun st hq hn => by
    simp only [exec, Option.some.injEq, Prod.mk.injEq] at hq
    obtain ⟨rfl, rfl, rfl⟩ := hq
    exact wp_ret (hn _ _ _ _ st .refl)
  | .region id ⟨ops⟩ false, hc => fun st hq hn => by
    simp only [exec, Option.bind_eq_some_iff, Prod.exists, Option.some.injEq, Prod.mk.injEq] at hq
    obtain ⟨e1, h1, hops, e2, h2, hp, rfl, rfl, rfl⟩ := hq
    simp only [codeOk, Bool.and_eq_true] at hc
    exact wp_region_list (aops_ok hcp hci ops st hc.1 hops fun a' w' F' M' s' ev => by
      obtain ⟨F2, M2, s2, ev2⟩ := post_ok _ (s'.drop _) hp
      exact hn a' w' F2 M2 s2 ((ev.weaken fun _ _ => trivial).trans s'.ok ev2))
  | .region id ⟨ops⟩ true, hc => fun st hq hn => by
    simp only [exec, Option.bind_eq_some_iff, Prod.exists, Option.some.injEq, Prod.mk.injEq] at hq
    obtain ⟨e1, h1, hops, e2, h2, hp, rfl, rfl, rfl⟩ := hq
    simp only [codeOk, Bool.and_eq_true, Bool.not_true, Bool.false_or] at hc
    exact drawW_ok hm hcp hci st hc.2 hc.1 hops fun a' w' F' M' s' ev => by
      obtain ⟨F2, M2, s2, ev2⟩ := post_ok _ (s'.drop _) hp
      exact hn a' w' F2 M2 s2 ((ev.weaken fun _ _ => trivial).trans s'.ok ev2)
  | .seq x y, hc => fun st hq hn => by
    simp only [codeOk, Bool.and_eq_true] at hc
    simp only [exec, Option.bind_eq_some_iff, Prod.exists] at hq
    obtain ⟨x1, e1, h1, hx, hq⟩ := hq
    refine wp_seq (exec_ok hm hcp hci n x hc.1 st hx fun a2 w2 F2 M2 s2 ev2 => ?_)
    cases x1 with
    | normal => exact exec_ok hm hcp hci n y hc.2 s2 hq fun a3 w3 F3 M3 s3 ev3 => hn a3 w3 F3 M3 s3 (ev2.trans s2.ok ev3)
    | exit id =>
      simp only [Option.some.injEq, Prod.mk.injEq] at hq
      obtain ⟨rfl, rfl, rfl⟩ := hq
      exact hn a2 w2 F2 M2 s2 ev2
    | ret =>
      simp only [Option.some.injEq, Prod.mk.injEq] at hq
      obtain ⟨rfl, rfl, rfl⟩ := hq
      exact hn a2 w2 F2 M2 s2 ev2
  | .cond c x y, hc => fun st hq hn => by
    simp only [codeOk, Bool.and_eq_true] at hc
    simp only [exec, Option.bind_eq_some_iff] at hq
    obtain ⟨v, hv, hq⟩ := hq
    have hvr := opnd_ok st.env hv
    split at hq
    · have hb := hvr.v_inv
      split at hq
      · rename_i ht
        subst ht
        simp only [Option.bind_eq_some_iff, Prod.exists] at hq
        obtain ⟨x1, e1, h1, hx, hq⟩ := hq
        exact wp_cond_true hb (exec_ok hm hcp hci n x hc.1 st.dropO hx fun a2 w2 F2 M2 s2 ev2 => sweepX_ok hq s2 ev2 hn)
      · rename_i ht
        rw [Bool.eq_false_iff.mpr ht] at hb
        simp only [Option.bind_eq_some_iff, Prod.exists] at hq
        obtain ⟨x1, e1, h1, hx, hq⟩ := hq
        exact wp_cond_false hb (exec_ok hm hcp hci n y hc.2 st.dropO hx fun a2 w2 F2 M2 s2 ev2 => sweepX_ok hq s2 ev2 hn)
    · cases hq
  | .block id c, hc => fun st hq hn => by
    simp only [codeOk] at hc
    simp only [exec, Option.bind_eq_some_iff, Prod.exists] at hq
    obtain ⟨x1, e1, h1, hx, hq⟩ := hq
    refine wp_block (exec_ok hm hcp hci n c hc st hx fun a2 w2 F2 M2 s2 ev2 => ?_)
    cases x1 with
    | normal =>
      simp only [Option.bind_eq_some_iff, Prod.exists, Option.some.injEq, Prod.mk.injEq] at hq
      obtain ⟨e3, h3, hp, rfl, rfl, rfl⟩ := hq
      obtain ⟨F3, M3, s3, ev3⟩ := post_ok _ (s2.drop _) hp
      exact hn a2 w2 F3 M3 s3 (ev2.trans s2.ok ev3)
    | exit j =>
      simp only at hq
      simp only [Ex.toExit, Exit.inBlock]
      split at hq
      · rename_i hj
        simp only [Option.bind_eq_some_iff, Prod.exists, Option.some.injEq, Prod.mk.injEq] at hq
        obtain ⟨e3, h3, hp, rfl, rfl, rfl⟩ := hq
        obtain ⟨F3, M3, s3, ev3⟩ := post_ok _ (s2.drop _) hp
        rw [if_pos hj]
        exact hn a2 w2 F3 M3 s3 (ev2.trans s2.ok ev3)
      · rename_i hj
        simp only [Option.some.injEq, Prod.mk.injEq] at hq
        obtain ⟨rfl, rfl, rfl⟩ := hq
        rw [if_neg hj]
        exact hn a2 w2 F2 M2 s2 ev2
    | ret =>
      simp only [Option.some.injEq, Prod.mk.injEq] at hq
      obtain ⟨rfl, rfl, rfl⟩ := hq
      exact hn a2 w2 F2 M2 s2 ev2
  | .loop c, hc => fun st hq hn => by
    simp only [codeOk] at hc
    exact aloop_ok (exec_ok hm hcp hci n c hc) n st hq hn
  | .scope c, hc => fun st hq hn => by
    simp only [codeOk] at hc
    refine wp_scope_straight (exec_ok hm hcp hci n c hc st hq fun a2 w2 F2 M2 s2 ev2 => ?_)
    have := hn a2 w2 F2 M2 s2 ev2
    rename_i xx _ _ _
    cases xx <;> exact this
  | .rangeFunc _ _ _ _, hc => by cases hc
  | .goto _, hc => by cases hc
  | .refuse _, hc => by cases hc
end
end Go.Av
