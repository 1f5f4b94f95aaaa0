/- A region whose order is open, whole. Conditions: none. -/
import Derived.Test.YteafmomjfnlkgaaGreatSg4
set_option linter.unusedVariables false
namespace Go.Av
def cntU : Nat → Array Bool → Nat
  | 0, _ => 0
  | k + 1, l => cntU k l + (if l.getD k true = true then 0 else 1)
theorem cntU_set_ge {i : Nat} : ∀ {k : Nat} {l : Array Bool}, k ≤ i → cntU k (l.setIfInBounds i true) = cntU k l
  | 0, _, _ => rfl
  | k + 1, l, h => by
    have ih := cntU_set_ge (k := k) (l := l) (i := i) (by omega)
    simp only [cntU, ih]
    rw [getD_set_ne true (by omega)]
theorem cntU_set {i : Nat} : ∀ {k : Nat} {l : Array Bool}, i < k → i < l.size → l.getD i true = false → cntU k (l.setIfInBounds i true) + 1 = cntU k l
  | 0, _, h, _, _ => by omega
  | k + 1, l, h, hl, hu => by
    simp only [cntU]
    by_cases hk : i = k
    · subst hk
      rw [cntU_set_ge (Nat.le_refl _)]
      have : (l.setIfInBounds i true).getD i true = true := by simp [hl]
      rw [this, hu]
      simp
    · have ih := cntU_set (k := k) (l := l) (i := i) (by omega) hl hu
      rw [getD_set_ne true hk]
      omega
theorem cntU_zero : ∀ {k : Nat} {l : Array Bool}, cntU k l = 0 → ∀ i, i < k → l.getD i true = true
  | 0, _, _, i, h => by omega
  | k + 1, l, h0, i, h => by
    simp only [cntU] at h0
    by_cases hk : i = k
    · subst hk
      by_cases hl : l.getD i true = true
      · exact hl
      · rw [if_neg hl] at h0; omega
    · exact cntU_zero (k := k) (by omega) i (by omega)
theorem cntU_pos : ∀ {k : Nat} {l : Array Bool}, 0 < cntU k l → ∃ i, i < k ∧ l.getD i true = false ∧ ∀ j, j < i → l.getD j true = true
  | 0, _, h => by simp [cntU] at h
  | k + 1, l, h => by
    by_cases h0 : 0 < cntU k l
    · obtain ⟨i, h1, h2⟩ := cntU_pos h0
      exact ⟨i, by omega, h2⟩
    · have hz : cntU k l = 0 := by omega
      simp only [cntU, hz] at h
      refine ⟨k, by omega, ?_, cntU_zero hz⟩
      by_cases hl : l.getD k true = true
      · rw [if_pos hl] at h; omega
      · simpa using hl
theorem replicate_un {m k : Nat} (h : k < m) : (Array.replicate m false).getD k true = false := by
  rw [Array.getD_eq_getD_getElem?, Array.getElem?_replicate, if_pos h]; rfl
theorem cntU_start : ∀ (k m : Nat), k ≤ m → cntU k (Array.replicate m false) = k
  | 0, _, _ => rfl
  | k + 1, m, h => by
    simp only [cntU, cntU_start k m (by omega)]
    have : (Array.replicate m false).getD k true = false := replicate_un (by omega)
    rw [this]
    simp
theorem HOK.same {H : Array Obj} {F : Nat → Prop} {h h' : Heap} {M : Id → Option Nat} (hk : HOK H F h M) (hh : ∀ id, h'.get id = h.get id) : HOK H F h' M := by
  have hx : Ext h M h' M := fun id x e => ⟨(hh id).trans e, rfl⟩
  exact ⟨fun id x hg => (hk.row id x ((hh id).symm.trans hg)).ext hx ((hh id).symm.trans hg), fun id id' x y b g1 g2 => hk.inj id id' x y b ((hh id).symm.trans g1) ((hh id').symm.trans g2), hk.fb⟩
theorem Evo.same {K : Id → Prop} {w w' : World} {F F' : Nat → Prop} {h h' h2 : Heap} {M M' : Id → Option Nat} (ev : Evo K w F h M w' F' h' M') (hh : ∀ id, h2.get id = h'.get id) : Evo K w F h M w' F' h2 M' :=
  { ev with orig := fun id y hy => ev.orig id y ((hh id).symm.trans hy), held := fun id x hx hK => let ⟨y, h1, h2⟩ := ev.held id x hx hK; ⟨y, (hh id).trans h1, h2⟩ }
section
variable {P : Program} {C : Cfg} {cp : CallP} {ci : CallI} {lvl n : Nat} {N : SlotN} {all : List Oper} {es : Nat → Env} {hs : Nat → Heap}
theorem mid_any (c : Canon P C cp lvl n all es hs) (hcp : CpOK P cp) {w0 : World} {F0 : Nat → Prop} {h0 : Heap} {M0 : Id → Option Nat} {Q : Exit → Act → World → Prop} (hdst : all.all (dstOk N) = true)
    (hfin : ∀ a w F M, St N w F (hs n) M (es n) a → Evo All w0 F0 h0 M0 w F (hs n) M → wpAny P .any all.toArray Q (all.length - n) (listedN n all.toArray.size) a w)
    (hout : ∀ (m : Nat) (listed : Array Bool) (a : Act) (w : World), HeadInv .any all.toArray n listed → cntU n listed = m + 1 → Mid w0 F0 h0 M0 N lvl n all es hs (fun j => listed.getD j false = true) a w → ∀ i ∈ Region.ready .any all.toArray listed, n ≤ i →
      wpOp P all.toArray Q i (wpAny P .any all.toArray Q (m + (all.length - n)) (listed.setIfInBounds i true)) a w) :
    ∀ (m : Nat) (listed : Array Bool) (a : Act) (w : World), HeadInv .any all.toArray n listed → cntU n listed = m → Mid w0 F0 h0 M0 N lvl n all es hs (fun j => listed.getD j false = true) a w →
      wpAny P .any all.toArray Q (m + (all.length - n)) listed a w := by
  have hle : n ≤ all.length := by simpa using c.ok.le
  intro m
  induction m with
  | zero =>
    intro listed a w inv hcnt mid
    -- the head is done
    have hl : ∀ i, i < n → listed.getD i true = true := cntU_zero hcnt
    have hlf : ∀ i, i < n → listed.getD i false = true := fun i hi => by
      have := hl i hi
      have hs' : i < listed.size := by rw [inv.size]; simp; omega
      simp [hs'] at this ⊢; exact this
    have heq : listed = listedN n all.toArray.size := by
      apply Array.ext
      · simp [listedN, inv.size]
      · intro i h1 h2
        by_cases hi : i < n
        · have := hl i hi
          simp [h1] at this
          simp [listedN, this, hi]
        · have := inv.tail i (by omega) (by rw [← inv.size]; exact h1)
          simp [h1] at this
          simp [listedN, this, hi]
    obtain ⟨F, M, hS, hk, he, ev, hget⟩ := mid.st
    have hget' : ∀ id, (hs n).get id = hS.get id := fun id => by
      rw [c.heap n (Nat.le_refl _), hget]
      unfold heapOf
      by_cases hex : id.1 = lvl ∧ ∃ j, j < n ∧ j < n ∧ (all.toArray[j]?).bind (·.dst) = some id.2.1
      · obtain ⟨e1, j, h1, h2, h3⟩ := hex
        rw [if_pos ⟨e1, j, h1, h2, h3⟩, if_pos ⟨e1, j, h1, hlf j h1, h3⟩]
      · rw [if_neg hex, if_neg]
        rintro ⟨e1, j, h1, h2, h3⟩
        exact hex ⟨e1, j, h1, h1, h3⟩
    have st : St N w F (hs n) M (es n) a := by
      refine ⟨hk.same hget', fun k x hx => (he k x ?_).ext fun id y e => ⟨(hget' id).trans e, rfl⟩, mid.size, mid.defers⟩
      rw [c.env n (Nat.le_refl _)] at hx
      rw [← hx]
      unfold envOf
      by_cases hex : ∃ j, j < n ∧ j < n ∧ (all.toArray[j]?).bind (·.dst) = some k
      · obtain ⟨j, h1, h2, h3⟩ := hex
        rw [if_pos ⟨j, h1, hlf j h1, h3⟩, if_pos ⟨j, h1, h2, h3⟩]
      · rw [if_neg, if_neg hex]
        rintro ⟨j, h1, h2, h3⟩
        exact hex ⟨j, h1, h1, h3⟩
    rw [heq]
    have hw := hfin a w F M st (ev.same hget')
    simpa using hw
  | succ m ih =>
    intro listed a w inv hcnt mid
    obtain ⟨i0, hi0, hu0, hleast⟩ := cntU_pos (k := n) (l := listed) (by omega)
    rw [show m + 1 + (all.length - n) = (m + (all.length - n)) + 1 by omega]
    have hsz : listed.size = all.length := by rw [inv.size]; simp
    refine ⟨fun hr => ?_, fun i hi => ?_⟩
    · exfalso
      have : i0 ∈ Region.ready .any all.toArray listed := by
        rw [mem_ready]
        obtain ⟨o, d, ho1, ho, _⟩ := c.at_ hi0
        refine ⟨hu0, o, ho, fun e he hb => ?_⟩
        have hlt := c.ok.back i0 o hi0 ho e he hb
        have := hleast e.on hlt
        have hlt2 : e.on < listed.size := by omega
        simp [hlt2] at this ⊢; exact this
      rw [hr] at this; cases this
    · by_cases hout' : n ≤ i
      · exact hout m listed a w inv hcnt mid i hi hout'
      have hin : i < n := by omega
      obtain ⟨hui, o, ho, hpre⟩ := mem_ready.1 hi
      have ho1 : all[i]? = some o := by simpa using ho
      have hnL : ¬ listed.getD i false = true := fun hh => by
        have : i < listed.size := by omega
        simp [this] at hui hh
        rw [hui] at hh; cases hh
      have hdo : dstOk N o = true := List.all_eq_true.1 hdst o (List.mem_of_getElem? ho1)
      have inv' := inv.set hi hin
      have hcnt' : cntU n (listed.setIfInBounds i true) = m := by
        have := cntU_set (k := n) (l := listed) hin (by omega) hui
        omega
      have hnext := mid.next c hcp (Q := Q) (fun j oj hj hLj e he hb => inv.closed j oj hj hLj e he hb) hin hnL ho hpre hdo (K := wpAny P .any all.toArray Q (m + (all.length - n)) (listed.setIfInBounds i true))
        (fun a' w' mid' => ih _ a' w' inv' hcnt' (by
          have hL : (fun j => j = i ∨ listed.getD j false = true) = fun j => (listed.setIfInBounds i true).getD j false = true := funext fun j => propext ⟨fun h => by
            rcases h with rfl | h
            · have : j < listed.size := by omega
              simp [this]
            · exact getD_set_true h, fun h => by
            by_cases hji : i = j
            · exact .inl hji.symm
            · rw [getD_set_ne false hji] at h; exact .inr h⟩
          rw [← hL]; exact mid'))
      unfold wpOp
      rw [ho]
      simp only
      split
      · rename_i hw
        rw [if_pos hw] at hnext
        exact .inl hnext
      · rename_i hw
        rw [if_neg hw] at hnext
        exact hnext
theorem draw_head (hm : P.follows .mixedOrders = true) (hcp : CpOK P cp) {w : World} {F : Nat → Prop} {h : Heap} {M : Id → Option Nat} {e : Env} {a : Act} (st : St N w F h M e a) {id : Nat}
    (hdk : DrawOk n all.toArray) (hdst : all.all (dstOk N) = true) (he0 : es 0 = e) (hh0 : hs 0 = h) (hst : ∀ i, i < n → ∃ o, all[i]? = some o ∧ QStep P C cp lvl all o (es i) (hs i) (es (i + 1)) (hs (i + 1))) {Q : Exit → Act → World → Prop} {r : Option Nat} (hLQ : ¬ LetsOut Q)
    (hn : ∀ a' w' F' M', St N w' F' (hs n) M' (es n) a' → Evo All w F h M w' F' (hs n) M' → wpAny P .any all.toArray Q (all.length - n) (listedN n all.toArray.size) a' w') : RegW P r id all.toArray Q a w := by
  subst he0
  subst hh0
  have hle : n ≤ all.length := by simpa using hdk.base.le
  have c : Canon P C cp lvl n all es hs := ⟨hdk.base, hst⟩
  refine region_any_in hm hLQ hdst ?_
  have hno : ∀ j, ¬ (Array.replicate all.toArray.size false).getD j false = true := fun j hh => by
    rw [getD_replicate_false] at hh; cases hh
  have := mid_any (P := P) (Q := Q) c hcp (w0 := w) (F0 := F) (h0 := hs 0) (M0 := M) hdst hn (fun m listed a w inv hcnt _ i hi hin => by
      obtain ⟨i0, hi0, hu0, _⟩ := cntU_pos (k := n) (l := listed) (by omega)
      exact absurd hi (hdk.waits listed inv i0 hi0 hu0 i hin))
    n (Array.replicate all.toArray.size false) a { w with drawn := w.drawn + 1 }
    ⟨by simp, fun j oj hj hl => absurd hl (hno j), fun t h1 h2 => replicate_un h2⟩ (cntU_start n _ (by simpa using hle))
    ⟨⟨F, M, hs 0, st.ok, fun k x hx => st.env k x (by
        rw [← hx]; unfold envOf; rw [if_neg]; rintro ⟨j, _, h2, _⟩; exact hno j h2), ⟨rfl, rfl, rfl, Nat.le_refl _, fun _ _ _ => rfl, fun _ h => h, fun _ h _ => .inl h, fun id y hy hr => .inl ⟨y, hy, hr, rfl⟩, fun id x hx _ => ⟨x, hx, Held.refl rfl fun _ _ => rfl⟩⟩,
      fun id => by unfold heapOf; rw [if_neg]; rintro ⟨_, j, _, h2, _⟩; exact hno j h2⟩, st.size, st.defers⟩
  rw [show n + (all.length - n) = all.toArray.size by simp; omega] at this
  exact this
theorem draw_ok (hm : P.follows .mixedOrders = true) (hcp : CpOK P cp) (hci : CiOK P ci) {w : World} {F : Nat → Prop} {h : Heap} {M : Id → Option Nat} {e : Env} {a : Act} (st : St N w F h M e a) {e' : Env} {h' : Heap} {id : Nat}
    (hd : drawOk n all.toArray = true) (hdst : all.all (dstOk N) = true) (hq : aopsQ P C cp ci lvl all n all e h = some (e', h')) {Q : Exit → Act → World → Prop} {r : Option Nat} (hLQ : ¬ LetsOut Q)
    (hn : ∀ a' w' F' M', St N w' F' h' M' e' a' → Evo All w F h M w' F' h' M' → Q .normal a' w') : RegW P r id all.toArray Q a w := by
  obtain ⟨hdk, hseq⟩ := drawOk_spec hd
  have hle : n ≤ all.length := by simpa using hdk.base.le
  obtain ⟨es, hs, h1, h2, hst, htail⟩ := aopsQ_seq n all e h e' h' hle hq
  refine draw_head hm hcp st hdk hdst h1 h2 hst hLQ fun a' w' F' M' st' ev' => ?_
  have hw := wpAny_of_seq (P := P) (md := .any) (Q' := Q) (all.drop n) n (listedN n all.toArray.size) a' w' (fun j => by rw [List.getElem?_drop]; simp) (by rw [List.length_drop]; simpa using hseq)
    (aops_ok hcp hci (all.drop n) st' (List.all_eq_true.2 fun o ho => List.all_eq_true.1 hdst o (List.mem_of_mem_drop ho)) htail fun a2 w2 F2 M2 s2 ev2 => hn a2 w2 F2 M2 s2 (ev'.trans st'.ok ev2))
  rw [List.length_drop] at hw
  exact hw
theorem wpAny_two {md : Region.Mode} {ops : Array Oper} {listed : Array Bool} {i j : Nat} {oi oj : Oper} {Q : Exit → Act → World → Prop} {a : Act} {w : World} (hi : ops[i]? = some oi) (hj : ops[j]? = some oj) (h0 : Region.ready md ops listed = [i, j])
    (h1 : Region.ready md ops (listed.setIfInBounds i true) = [j]) (h2 : Region.ready md ops (listed.setIfInBounds j true) = [i])
    (h3 : Region.ready md ops ((listed.setIfInBounds i true).setIfInBounds j true) = []) (h4 : Region.ready md ops ((listed.setIfInBounds j true).setIfInBounds i true) = [])
    (hw : wpList P ops Q [oi, oj] a w) (hv : wpList P ops Q [oj, oi] a w) : wpAny P md ops Q 2 listed a w := by
  have one : ∀ {x y : Nat} {ox oy : Oper}, ops[x]? = some ox → ops[y]? = some oy → Region.ready md ops (listed.setIfInBounds x true) = [y] → Region.ready md ops ((listed.setIfInBounds x true).setIfInBounds y true) = [] →
      wpList P ops Q [ox, oy] a w → wpOp P ops Q x (wpAny P md ops Q 1 (listed.setIfInBounds x true)) a w := fun {x y ox oy} hx hy r1 r2 hl => by
    have hw : wpOp P ops Q x (wpList P ops Q [oy]) a w := by unfold wpOp; simp only [hx]; exact hl
    refine wpOp_mono (fun a' w' h' => ?_) hw
    refine ⟨fun h => (by rw [r1] at h; cases h), fun z hz => ?_⟩
    rw [r1] at hz
    have : z = y := by simpa using hz
    subst this
    have hw2 : wpOp P ops Q z (wpList P ops Q []) a' w' := by unfold wpOp; simp only [hy]; exact h'
    exact wpOp_mono (fun a2 w2 h2 => ⟨r2, h2⟩) hw2
  refine ⟨fun h => (by rw [h0] at h; cases h), fun z hz => ?_⟩
  rw [h0] at hz
  have hz : z = i ∨ z = j := by simpa using hz
  rcases hz with rfl | rfl
  · exact one hi hj h1 h3 hw
  · exact one hj hi h2 h4 hv
theorem sameV_eq : ∀ {a b : Value}, sameV a b = true → a = b := by
  intro a b h
  unfold sameV at h
  split at h <;> simp_all
theorem sameL_eq {f : AV → AV → Bool} (hf : ∀ a b, f a b = true → a = b) : ∀ {xs ys : List AV}, sameL f xs ys = true → xs = ys
  | [], [], _ => rfl
  | x :: xs, y :: ys, h => by
    simp only [sameL, Bool.and_eq_true] at h
    rw [hf _ _ h.1, sameL_eq hf h.2]
  | [], _ :: _, h => by simp [sameL] at h
  | _ :: _, [], h => by simp [sameL] at h
theorem sameA_eq : ∀ (d : Nat) (a b : AV), sameA d a b = true → a = b := by
  intro d
  induction d with
  | zero => intro a b h; unfold sameA at h; simp at h
  | succ d ih =>
    intro a b h
    unfold sameA at h
    split at h
    · rename_i e; injection e with e; subst e; rw [sameV_eq h]
    · rename_i e; injection e with e; subst e; simp only [Bool.and_eq_true, decide_eq_true_eq] at h; rw [h.1, sameL_eq ih h.2]
    · simp only [Bool.and_eq_true, decide_eq_true_eq] at h; rw [h.1.1.1, h.1.1.2, h.1.2, h.2]
    · simp only [Bool.and_eq_true, decide_eq_true_eq] at h; rw [h.1.1, h.1.2, h.2]
    · rename_i e; injection e with e; subst e; simp only [Bool.and_eq_true, decide_eq_true_eq] at h; rw [h.1, sameL_eq ih h.2]
    · rename_i e; injection e with e; subst e; simp only [Bool.and_eq_true, decide_eq_true_eq] at h; rw [h.1.1, sameL_eq ih h.1.2, sameL_eq ih h.2]
    · rename_i e; injection e with e; subst e; rw [sameL_eq ih h]
    · rename_i e; injection e with e; subst e; rw [sameL_eq ih h]
    · cases h
theorem sameB_eq : ∀ {a b : Blk}, sameB a b = true → a = b := by
  intro a b h
  unfold sameB at h
  split at h
  · simp only [Bool.and_eq_true, decide_eq_true_eq, beq_iff_eq] at h
    rw [h.1.1.1.1, h.1.1.1.2, h.1.1.2, h.1.2, sameL_eq (sameA_eq 8) h.2]
  · simp only [Bool.and_eq_true, beq_iff_eq] at h
    rw [h.1, sameL_eq (sameA_eq 8) h.2]
  · cases h
theorem sameE_eq : ∀ {a b : Env}, sameE a b = true → a = b
  | [], [], _ => rfl
  | (i, x) :: e, (j, y) :: e', h => by
    simp only [sameE, Bool.and_eq_true, decide_eq_true_eq] at h
    rw [h.1.1, sameA_eq 8 _ _ h.1.2, sameE_eq h.2]
  | [], _ :: _, h => by simp [sameE] at h
  | _ :: _, [], h => by simp [sameE] at h
theorem sameH_eq : ∀ {a b : Heap}, sameH a b = true → a = b
  | [], [], _ => rfl
  | (i, x) :: e, (j, y) :: e', h => by
    simp only [sameH, Bool.and_eq_true, decide_eq_true_eq] at h
    rw [h.1.1, sameB_eq h.1.2, sameH_eq h.2]
  | [], _ :: _, h => by simp [sameH] at h
  | _ :: _, [], h => by simp [sameH] at h
theorem sameEH_eq {r r' : Env × Heap} (h : sameEH r r' = true) : r = r' := by
  simp only [sameEH, Bool.and_eq_true] at h
  exact Prod.ext (sameE_eq h.1) (sameH_eq h.2)
theorem draw2_ok (hm : P.follows .mixedOrders = true) (hcp : CpOK P cp) (hci : CiOK P ci) {w : World} {F : Nat → Prop} {h : Heap} {M : Id → Option Nat} {e : Env} {a : Act} (st : St N w F h M e a) {e1 e' : Env} {h1 h' : Heap} {id : Nat}
    (hd : drawOk2 n all.toArray = true) (hdst : all.all (dstOk N) = true) (hq : aopsQ P C cp ci lvl all n (all.take n) e h = some (e1, h1)) (hq1 : aops P C cp ci lvl all (all.drop n) e1 h1 = some (e', h'))
    (hq2 : aops P C cp ci lvl all (all.drop n).reverse e1 h1 = some (e', h')) {Q : Exit → Act → World → Prop} {r : Option Nat} (hLQ : ¬ LetsOut Q)
    (hn : ∀ a' w' F' M', St N w' F' h' M' e' a' → Evo All w F h M w' F' h' M' → Q .normal a' w') : RegW P r id all.toArray Q a w := by
  obtain ⟨hdk, hsz, r0, r1, r2, r3, r4⟩ := drawOk2_spec hd
  have hle : n + 2 = all.length := by simpa using hsz
  obtain ⟨es, hs, g1, g2, hst, htail⟩ := aopsQ_seq n (all.take n) e h e1 h1 (by rw [List.length_take]; omega) hq
  rw [List.drop_eq_nil_of_le (by rw [List.length_take]; omega)] at htail
  simp only [aops, Option.some.injEq, Prod.mk.injEq] at htail
  obtain ⟨rfl, rfl⟩ := htail
  refine draw_head (C := C) (lvl := lvl) hm hcp st hdk hdst g1 g2 (fun i hi => ?_) hLQ fun a' w' F' M' st' ev' => ?_
  · obtain ⟨o, ho, hs⟩ := hst i hi
    refine ⟨o, ?_, hs⟩
    rw [List.getElem?_take, if_pos hi] at ho
    exact ho
  · have hdn : all.drop n = [all[n], all[n + 1]] := by
      rw [List.drop_eq_getElem_cons (by omega), List.drop_eq_getElem_cons (by omega), List.drop_eq_nil_of_le (by omega)]
    have hd1 : all[n]? = some all[n] := List.getElem?_eq_getElem (by omega)
    have hd2 : all[n + 1]? = some all[n + 1] := List.getElem?_eq_getElem (by omega)
    have hdo : ∀ o ∈ all.drop n, dstOk N o = true := fun o ho => List.all_eq_true.1 hdst o (List.mem_of_mem_drop ho)
    have w1 := aops_ok hcp hci (all := all) (Q := Q) (all.drop n) st' (List.all_eq_true.2 hdo) hq1 fun a2 w2 F2 M2 s2 ev2 => hn a2 w2 F2 M2 s2 (ev'.trans st'.ok ev2)
    have w2 := aops_ok hcp hci (all := all) (Q := Q) (all.drop n).reverse st' (List.all_eq_true.2 fun o ho => hdo o (List.mem_reverse.1 ho)) hq2 fun a2 w2 F2 M2 s2 ev2 => hn a2 w2 F2 M2 s2 (ev'.trans st'.ok ev2)
    rw [hdn] at w1 w2
    rw [show all.length - n = 2 by omega]
    exact wpAny_two (by simp) (by simp) r0 r1 r2 r3 r4 w1 w2
end
end Go.Av
