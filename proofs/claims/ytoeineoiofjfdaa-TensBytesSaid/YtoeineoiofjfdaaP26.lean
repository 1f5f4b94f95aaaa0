/- Layer 5: the reference's tensor of bytes; TensBytes: true. Conditions: those that each names. -/
import Derived.Test.YtoeineoiofjfdaaP25
set_option linter.unusedVariables false
namespace Go.Av
/-- a number of bytes, from the last on -/
theorem refNum {fu : Nat} {nx : List Int → List Int → List Bool → Int → Option (T_Tensor × Int)} {k c : Int} {b F I : List Int} {Bs : List Bool} {w i : Nat} (hc : c = w) (hw8 : w ≤ 8) (hb : Byts b) (h : i * w + w ≤ b.length) (hbl : b.length ≤ 140737488355328) (hfu : 8 < fu) :
    ref05_FromBytes_W2 fu nx k b c F I Bs (i : Int) 0 (wk .i64 (c - 1)) = ref05_FromBytes_k1 fu nx k F I Bs (i : Int) (leN (grp w b i)) := by
  subst hc
  have hg := grp_length h
  have hgb := grp_byts (w := w) hb (i := i)
  unfold ref05_FromBytes_W2
  rw [wk_eq (by omega) (by omega)]
  refine cloop_ind (fun _ => ref05_FromBytes_k1 fu nx k F I Bs (i : Int) (leN (grp w b i))) (fun (s : Int × Int) => -1 ≤ s.2 ∧ s.2 < w ∧ s.1 = leN ((grp w b i).drop (s.2 + 1).toNat)) (fun s => (s.2 + 1).toNat) ?_ fu _ ?_ ?_
  · rintro ⟨x, j⟩ ⟨h0, h1, h2⟩ next hn
    simp only at h0 h1 h2 hn ⊢
    unfold ref05_FromBytes_L2
    by_cases hj : 0 ≤ j
    · obtain ⟨m, rfl⟩ := Int.eq_ofNat_of_zero_le hj
      rw [if_pos hj]
      have e : (i : Int) * (w : Int) = ((i * w : Nat) : Int) := by rw [Int.natCast_mul]
      have hidx : wk .i64 (wk .i64 ((i : Int) * (w : Int)) + (m : Int)) = ((i * w + m : Nat) : Int) := by
        rw [e, wk_eq (x := ((i * w : Nat) : Int)) (by omega) (by omega), wk_eq (by omega) (by omega)]; omega
      have hm : m < (grp w b i).length := by omega
      have hget : b[i * w + m]'(by omega) = (grp w b i)[m] := by simp [grp]
      rw [hidx, at?_get (by omega : i * w + m < b.length), ob_some, hget]
      have hbm := hgb _ (List.getElem_mem hm)
      have e2 : ((m : Int) + 1).toNat = m + 1 := by omega
      rw [e2] at h2
      have hd : leN ((grp w b i).drop m) = (grp w b i)[m] + 256 * x := by rw [List.drop_eq_getElem_cons hm, leN, ← h2]
      obtain ⟨r1, r2⟩ := leN_range (l := (grp w b i).drop m) fun y hy => hgb y (List.mem_of_mem_drop hy)
      have hle : (256 : Int) ^ ((grp w b i).drop m).length ≤ 256 ^ 8 := pow_mono (by simp; omega)
      have h8 : (256 : Int) ^ 8 = 18446744073709551616 := by decide
      obtain ⟨x1, x2⟩ := leN_range (l := (grp w b i).drop (m + 1)) fun y hy => hgb y (List.mem_of_mem_drop hy)
      rw [← h2] at x1
      have hval : wk .u64 (wk .u64 (x * 256) + wk .u64 ((grp w b i)[m])) = leN ((grp w b i).drop m) := by
        rw [wk_u64, wk_u64, wk_u64, hd]
        rw [hd] at r1 r2
        omega
      rw [hval, wk_eq (by omega) (by omega)]
      refine hn _ ⟨by simp only []; omega, by simp only []; omega, ?_⟩ ?_
      · simp only []
        congr 2
        omega
      · simp only []
        omega
    · rw [if_neg hj]
      have e1 : (j + 1).toNat = 0 := by omega
      rw [e1, List.drop_zero] at h2
      rw [h2]
  · refine ⟨by simp only []; omega, by simp only []; omega, ?_⟩
    simp only []
    rw [List.drop_of_length_le (by rw [hg]; omega)]
    rfl
  · simp only []
    omega
theorem refFromBytes_spec {fu : Nat} {k : Int} {d b : List Int} (hd : Short d) (hfd : d.length < fu) (hb : Byts b) (hbl : b.length ≤ 140737488355328) (hfu : 4096 < fu) : ref05_FromBytes fu k d b = some (fromV k d b) := by
  unfold ref05_FromBytes fromV
  rw [refNew_spec hd hfd, ob_some]
  by_cases hn : (newV k d).2 = 0
  · obtain ⟨hk, hg, e⟩ := newV_ok hn
    rw [if_pos hn, if_pos hn, refSize_spec hd hfd, ob_some, refWidth_eq, ob_some]
    have hpn := prod_nonneg hg.2.1
    have hp4 := hg.2.2
    simp only [sizeV, if_pos hg]
    obtain ⟨n, hnp⟩ := Int.eq_ofNat_of_zero_le hpn
    rcases hk with e1 | e1 | e1
    · subst e1
      simp only [if_true] at e
      simp only [e, widthV, if_true, hnp, Int.toNat_natCast]
      rw [wk_eq (by omega) (by omega)]
      by_cases hl : (b.length : Int) = (n : Int) * 4
      · rw [if_pos hl, if_pos hl]
        unfold ref05_FromBytes_W1
        have hr : List.replicate n (0 : Int) = List.replicate (idx n).length 0 := by rw [idx_length]
        rw [hr]
        refine (pick_loop (at_ := idx n) (fun (m : List Int) (i : Nat) => (m, ([] : List Int), ([] : List Bool), (i : Int))) (fun _ => false) (fun a => if 0 ≤ a then wk .u32 (leN (grp 4 b a.toNat)) else 0) 0 (e := none) (c := fun m => some (⟨1, d, m, [], []⟩, 0)) ?_ ?_ (fun a h => if_neg h) (by rw [idx_length]; omega)).trans ?_
        · intro next i m hi hm
          rw [idx_get, if_neg (by simp), if_pos (show (0 : Int) ≤ (i : Int) by omega), if_pos (show (0 : Int) ≤ (i : Int) by omega)]
          rw [idx_length] at hi hm
          unfold ref05_FromBytes_L1
          simp only []
          rw [if_pos (by omega), refNum (w := 4) (c := 4) (i := i) rfl (by omega) hb (by omega) hbl (by omega)]
          unfold ref05_FromBytes_k1
          rw [if_pos rfl, chk_pos (by omega), wk_succ (by omega)]
          rfl
        · intro next m hm
          unfold ref05_FromBytes_L1
          simp only [idx_length]
          rw [if_neg (by omega)]
        · have hm : (idx n).map (fun a => if 0 ≤ a then wk .u32 (leN (grp 4 b a.toNat)) else 0) = (idx n).map (fun a => wk .u32 (leN (grp 4 b a.toNat))) := by
            refine List.map_congr_left fun a ha => ?_
            obtain ⟨i, _, rfl⟩ := List.mem_map.1 ha
            rw [if_pos (by omega)]
          rw [hm, if_neg (by simp)]
      · rw [if_neg hl, if_neg hl]; rfl
    · subst e1
      simp only [show ¬ (7 : Int) = 1 by decide, if_false, if_true] at e
      simp only [e, widthV, show ¬ (7 : Int) = 1 by decide, if_false, if_true, hnp, Int.toNat_natCast]
      rw [wk_eq (by omega) (by omega)]
      by_cases hl : (b.length : Int) = (n : Int) * 8
      · rw [if_pos hl, if_pos hl]
        unfold ref05_FromBytes_W1
        have hr : List.replicate n (0 : Int) = List.replicate (idx n).length 0 := by rw [idx_length]
        rw [hr]
        refine (pick_loop (at_ := idx n) (fun (m : List Int) (i : Nat) => (([] : List Int), m, ([] : List Bool), (i : Int))) (fun _ => false) (fun a => if 0 ≤ a then wk .i64 (leN (grp 8 b a.toNat)) else 0) 0 (e := none) (c := fun m => some (⟨7, d, [], m, []⟩, 0)) ?_ ?_ (fun a h => if_neg h) (by rw [idx_length]; omega)).trans ?_
        · intro next i m hi hm
          rw [idx_get, if_neg (by simp), if_pos (show (0 : Int) ≤ (i : Int) by omega), if_pos (show (0 : Int) ≤ (i : Int) by omega)]
          rw [idx_length] at hi hm
          unfold ref05_FromBytes_L1
          simp only []
          rw [if_pos (by omega), refNum (w := 8) (c := 8) (i := i) rfl (by omega) hb (by omega) hbl (by omega)]
          unfold ref05_FromBytes_k1
          rw [if_neg (by decide), if_pos rfl, chk_pos (by omega), wk_succ (by omega)]
          rfl
        · intro next m hm
          unfold ref05_FromBytes_L1
          simp only [idx_length]
          rw [if_neg (by omega)]
        · have hm : (idx n).map (fun a => if 0 ≤ a then wk .i64 (leN (grp 8 b a.toNat)) else 0) = (idx n).map (fun a => wk .i64 (leN (grp 8 b a.toNat))) := by
            refine List.map_congr_left fun a ha => ?_
            obtain ⟨i, _, rfl⟩ := List.mem_map.1 ha
            rw [if_pos (by omega)]
          rw [hm, if_neg (by simp)]
      · rw [if_neg hl, if_neg hl]; rfl
    · subst e1
      simp only [show ¬ (9 : Int) = 1 by decide, show ¬ (9 : Int) = 7 by decide, if_false] at e
      simp only [e, widthV, show ¬ (9 : Int) = 1 by decide, show ¬ (9 : Int) = 7 by decide, if_false, if_true, hnp, Int.toNat_natCast]
      rw [wk_eq (by omega) (by omega)]
      by_cases hl : (b.length : Int) = (n : Int) * 1
      · rw [if_pos hl, if_pos hl]
        unfold ref05_FromBytes_W1
        have hr : List.replicate n false = List.replicate (idx n).length false := by rw [idx_length]
        rw [hr]
        refine (pick_loop (at_ := idx n) (fun (m : List Bool) (i : Nat) => (([] : List Int), ([] : List Int), m, (i : Int))) (fun a => decide (1 < leN (grp 1 b a.toNat))) (fun a => if 0 ≤ a then decide (leN (grp 1 b a.toNat) = 1) else false) false (e := some (noT, 1)) (c := fun m => some (⟨9, d, [], [], m⟩, 0)) ?_ ?_ (fun a h => if_neg h) (by rw [idx_length]; omega)).trans ?_
        · intro next i m hi hm
          rw [idx_get, if_pos (show (0 : Int) ≤ (i : Int) by omega), if_pos (show (0 : Int) ≤ (i : Int) by omega)]
          rw [idx_length] at hi hm
          unfold ref05_FromBytes_L1
          simp only []
          rw [if_pos (by omega), refNum (w := 1) (c := 1) (i := i) rfl (by omega) hb (by omega) hbl (by omega)]
          unfold ref05_FromBytes_k1
          rw [if_neg (by decide), if_neg (by decide), Int.toNat_natCast]
          by_cases h1 : 1 < leN (grp 1 b i)
          · rw [if_pos h1, if_pos (by simpa using h1)]; rfl
          · rw [if_neg h1, if_neg (by simpa using h1), chk_pos (by omega), wk_succ (by omega)]
        · intro next m hm
          unfold ref05_FromBytes_L1
          simp only [idx_length]
          rw [if_neg (by omega)]
        · have hm : (idx n).map (fun a => if 0 ≤ a then decide (leN (grp 1 b a.toNat) = 1) else false) = (idx n).map (fun a => decide (leN (grp 1 b a.toNat) = 1)) := by
            refine List.map_congr_left fun a ha => ?_
            obtain ⟨i, _, rfl⟩ := List.mem_map.1 ha
            rw [if_pos (by omega)]
          rw [hm]
          split <;> rfl
      · rw [if_neg hl, if_neg hl]; rfl
  · rw [if_neg hn, if_neg hn]; rfl
theorem fromV_small (k : Int) (d b : List Int) : (fromV k d b).1.fDims.length ≤ 8 ∧ (fromV k d b).1.fF.length ≤ 4096 ∧ (fromV k d b).1.fI.length ≤ 4096 ∧ (fromV k d b).1.fB.length ≤ 4096 := by
  unfold fromV
  split
  · rename_i hn
    obtain ⟨hk, hg, e⟩ := newV_ok hn
    have h2 := hg.2.2
    have h3 := hg.1
    split
    · split
      · simp [idx_length]; omega
      · split
        · simp [idx_length]; omega
        · split
          · simp [noT]
          · simp [idx_length]; omega
    · simp [noT]
  · simp [noT]
theorem bytesV_len {t : T_Tensor} : (bytesV t).1.length ≤ 65536 := by
  unfold bytesV
  split
  · rename_i hc
    have := valid_lens hc
    simp only [bytesL, List.length_append, flatMap_len bF_len, flatMap_len bI_len, flatMap_len bB_len]
    omega
  · simp
theorem law_9 (a0 : T_Tensor) (a1 : Int) (a2 : List Int) (a3 : List Int) (w0 : Q_42 a0) (w1 : (Lit.int .i64 a1).wf = true) (w2 : a2.length * 8 ≤ 140737488351232 ∧ ∀ z0 ∈ a2, ((Lit.int .i64 z0).wf = true)) (w3 : a3.length * 1 ≤ 140737488351232 ∧ ∀ z0 ∈ a3, ((Lit.int .u8 z0).wf = true)) : ∃ fu, law05_TensBytes fu a0 a1 a2 a3 = some true := by
  refine ⟨a0.fDims.length + a0.fF.length + a0.fI.length + a0.fB.length + a2.length + a3.length + 70000, ?_⟩
  generalize hfu : a0.fDims.length + a0.fF.length + a0.fI.length + a0.fB.length + a2.length + a3.length + 70000 = fu
  have hs := small_of w0
  have hf : Fuel fu a0 := ⟨by omega, by omega, by omega, by omega⟩
  have sd : Short a2 := by have := w2.1; unfold Short; omega
  have hb : Byts a3 := fun x hx => by
    have := w3.2 x hx
    simp [Lit.wf, IntKind.min, IntKind.max, IntKind.signed, IntKind.bits] at this
    omega
  have hbl := w3.1
  obtain ⟨n1, n2, n3, n4⟩ := fromV_small a1 a2 a3
  have hlen := @bytesV_len a0
  unfold law05_TensBytes
  rw [Bytes_spec hs hf (by omega), ob_some, refBytes_spec hs hf (by omega), ob_some, FromBytes_spec sd (by omega) hb (by omega) (by omega), ob_some, refFromBytes_spec sd (by omega) hb (by omega) (by omega), ob_some, if_pos rfl, if_pos rfl, if_pos rfl,
    refSame_spec ⟨by omega, by omega, by omega, by omega⟩ ⟨by omega, by omega, by omega, by omega⟩, ob_some, sameB_self, if_pos rfl]
  unfold law05_TensBytes_k1 law05_TensBytes_W1
  rw [same_loop (L := fun next s => law05_TensBytes_L1 fu (bytesV a0) (bytesV a0) next s) (a := (bytesV a0).1) (b := (bytesV a0).1) rfl (by omega) (by omega) (c := some true) (fun nx i => rfl), if_pos rfl]
end Go.Av
