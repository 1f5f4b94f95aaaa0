/- Layer 5: a tensor of bytes; TensBytes: true. Conditions: those that each names. -/
import Derived.Test.YtoeineoiofjfdaaP24
set_option linter.unusedVariables false
namespace Go.Av
def grp (w : Nat) (b : List Int) (i : Nat) : List Int := (b.drop (i * w)).take w
def idx (n : Nat) : List Int := List.map (fun i : Nat => (i : Int)) (List.range n)
theorem idx_length (n : Nat) : (idx n).length = n := by simp [idx]
theorem idx_get {n k : Nat} (hk : k < (idx n).length) : (idx n)[k] = (k : Int) := by simp [idx]
def widthV (k : Int) : Int := if k = 1 then 4 else if k = 7 then 8 else if k = 9 then 1 else 0
def fromV (k : Int) (d b : List Int) : T_Tensor × Int :=
  if (newV k d).2 = 0 then (if (b.length : Int) = prod d * widthV k then
    (if k = 1 then (⟨1, d, (idx (prod d).toNat).map (fun a => wk .u32 (leN (grp 4 b a.toNat))), [], []⟩, 0)
     else if k = 7 then (⟨7, d, [], (idx (prod d).toNat).map (fun a => wk .i64 (leN (grp 8 b a.toNat))), []⟩, 0)
     else if (idx (prod d).toNat).any (fun a => decide (1 < leN (grp 1 b a.toNat))) = true then (noT, 1) else (⟨9, d, [], [], (idx (prod d).toNat).map (fun a => decide (leN (grp 1 b a.toNat) = 1))⟩, 0)) else (noT, 3)) else (noT, (newV k d).2)
theorem grp_byts {w : Nat} {b : List Int} (h : Byts b) {i : Nat} : Byts (grp w b i) := fun x hx => h x (List.mem_of_mem_drop (List.mem_of_mem_take hx))
theorem grp_length {w i : Nat} {b : List Int} (h : i * w + w ≤ b.length) : (grp w b i).length = w := by simp [grp]; omega
theorem sub_grp {w k : Nat} {c : Int} (hc : c = w) {b : List Int} (h : k * w + w ≤ b.length) (hb : b.length ≤ 140737488355328) :
    (0 ≤ wk .i64 ((k : Int) * c) ∧ 0 ≤ wk .i64 (wk .i64 ((k : Int) * c) + c) ∧ wk .i64 (wk .i64 ((k : Int) * c) + c) ≤ (b.length : Int) ∧ wk .i64 ((k : Int) * c) ≤ wk .i64 (wk .i64 ((k : Int) * c) + c)) ∧
    subN b (wk .i64 ((k : Int) * c)).toNat (wk .i64 (wk .i64 ((k : Int) * c) + c)).toNat = grp w b k := by
  subst hc
  have e : (k : Int) * (w : Int) = ((k * w : Nat) : Int) := by rw [Int.natCast_mul]
  rw [e, wk_eq (x := ((k * w : Nat) : Int)) (by omega) (by omega), wk_eq (by omega) (by omega)]
  refine ⟨by omega, ?_⟩
  unfold subN grp
  rw [Int.toNat_natCast, show (((k * w : Nat) : Int) + (w : Int)).toNat = k * w + w by omega]
  congr 1
  omega
theorem Width_eq {fu : Nat} {k : Int} : tens_Width fu k = some (widthV k) := by
  unfold tens_Width widthV
  split
  · rfl
  · split
    · rfl
    · split <;> rfl
theorem refWidth_eq {fu : Nat} {k : Int} : ref05_Width fu k = some (widthV k) := by
  unfold ref05_Width widthV
  split
  · rfl
  · split
    · rfl
    · split <;> rfl
theorem FromBytes_spec {fu : Nat} {k : Int} {d b : List Int} (hd : Short d) (hfd : d.length < fu) (hb : Byts b) (hbl : b.length ≤ 140737488355328) (hfu : 4096 < fu) : tens_FromBytes fu k d b = some (fromV k d b) := by
  unfold tens_FromBytes fromV
  rw [New_spec hd hfd, ob_some]
  by_cases hn : (newV k d).2 = 0
  · obtain ⟨hk, hg, e⟩ := newV_ok hn
    rw [if_pos hn, if_pos hn, Width_eq, ob_some]
    have hpn := prod_nonneg hg.2.1
    have hp4 := hg.2.2
    obtain ⟨n, hnp⟩ := Int.eq_ofNat_of_zero_le hpn
    rcases hk with e1 | e1 | e1
    · subst e1
      simp only [if_true] at e
      simp only [e, widthV, if_true, List.length_replicate, List.length_nil, hnp, Int.toNat_natCast]
      rw [sumW (a := n) (by omega) (by omega) (by omega), wk_eq (by omega) (by omega)]
      by_cases hl : (b.length : Int) = (n : Int) * 4
      · rw [if_pos (by omega), if_pos hl]
        unfold tens_FromBytes_W1
        have hr : List.replicate n (0 : Int) = List.replicate (idx n).length 0 := by rw [idx_length]
        rw [hr]
        refine (pick_loop (at_ := idx n) (fun (m : List Int) (i : Nat) => (m, ([] : List Int), ([] : List Bool), (i : Int))) (fun _ => false) (fun a => if 0 ≤ a then wk .u32 (leN (grp 4 b a.toNat)) else 0) 0 (e := none) (c := fun m => some (⟨1, d, m, [], []⟩, 0)) ?_ ?_ (fun a h => if_neg h) (by rw [idx_length]; omega)).trans ?_
        · intro next i m hi hm
          rw [idx_get, if_neg (by simp), if_pos (show (0 : Int) ≤ (i : Int) by omega), if_pos (show (0 : Int) ≤ (i : Int) by omega)]
          rw [idx_length] at hi hm
          unfold tens_FromBytes_L1
          simp only [List.length_replicate, List.length_nil, idx_length]
          obtain ⟨q1, q2⟩ := sub_grp (w := 4) (c := 4) (k := i) (b := b) rfl (by omega) hbl
          rw [sumW (a := n) (by omega) (by omega) (by omega), if_pos (by omega), chk_pos q1, q2, number_spec (grp_byts hb) (by rw [grp_length (by omega)]; omega) (by omega), ob_some, if_pos trivial, chk_pos (by omega), wk_succ (by omega)]
          rfl
        · intro next m hm
          unfold tens_FromBytes_L1
          simp only [List.length_replicate, List.length_nil, idx_length]
          rw [sumW (a := n) (by omega) (by omega) (by omega), if_neg (by omega)]
        · have hm : (idx n).map (fun a => if 0 ≤ a then wk .u32 (leN (grp 4 b a.toNat)) else 0) = (idx n).map (fun a => wk .u32 (leN (grp 4 b a.toNat))) := by
            refine List.map_congr_left fun a ha => ?_
            obtain ⟨i, _, rfl⟩ := List.mem_map.1 ha
            rw [if_pos (by omega)]
          rw [hm, if_neg (by simp)]
      · rw [if_neg (by omega), if_neg hl]; rfl
    · subst e1
      simp only [show ¬ (7 : Int) = 1 by decide, if_false, if_true] at e
      simp only [e, widthV, show ¬ (7 : Int) = 1 by decide, if_false, if_true, List.length_replicate, List.length_nil, hnp, Int.toNat_natCast]
      rw [sumW (b := n) (by omega) (by omega) (by omega), wk_eq (by omega) (by omega)]
      by_cases hl : (b.length : Int) = (n : Int) * 8
      · rw [if_pos (by omega), if_pos hl]
        unfold tens_FromBytes_W1
        have hr : List.replicate n (0 : Int) = List.replicate (idx n).length 0 := by rw [idx_length]
        rw [hr]
        refine (pick_loop (at_ := idx n) (fun (m : List Int) (i : Nat) => (([] : List Int), m, ([] : List Bool), (i : Int))) (fun _ => false) (fun a => if 0 ≤ a then wk .i64 (leN (grp 8 b a.toNat)) else 0) 0 (e := none) (c := fun m => some (⟨7, d, [], m, []⟩, 0)) ?_ ?_ (fun a h => if_neg h) (by rw [idx_length]; omega)).trans ?_
        · intro next i m hi hm
          rw [idx_get, if_neg (by simp), if_pos (show (0 : Int) ≤ (i : Int) by omega), if_pos (show (0 : Int) ≤ (i : Int) by omega)]
          rw [idx_length] at hi hm
          unfold tens_FromBytes_L1
          simp only [List.length_replicate, List.length_nil, idx_length]
          obtain ⟨q1, q2⟩ := sub_grp (w := 8) (c := 8) (k := i) (b := b) rfl (by omega) hbl
          rw [sumW (b := n) (by omega) (by omega) (by omega), if_pos (by omega), chk_pos q1, q2, number_spec (grp_byts hb) (by rw [grp_length (by omega)]; omega) (by omega), ob_some, if_neg (by decide), if_pos trivial, chk_pos (by omega), wk_succ (by omega)]
          rfl
        · intro next m hm
          unfold tens_FromBytes_L1
          simp only [List.length_replicate, List.length_nil, idx_length]
          rw [sumW (b := n) (by omega) (by omega) (by omega), if_neg (by omega)]
        · have hm : (idx n).map (fun a => if 0 ≤ a then wk .i64 (leN (grp 8 b a.toNat)) else 0) = (idx n).map (fun a => wk .i64 (leN (grp 8 b a.toNat))) := by
            refine List.map_congr_left fun a ha => ?_
            obtain ⟨i, _, rfl⟩ := List.mem_map.1 ha
            rw [if_pos (by omega)]
          rw [hm, if_neg (by simp)]
      · rw [if_neg (by omega), if_neg hl]; rfl
    · subst e1
      simp only [show ¬ (9 : Int) = 1 by decide, show ¬ (9 : Int) = 7 by decide, if_false] at e
      simp only [e, widthV, show ¬ (9 : Int) = 1 by decide, show ¬ (9 : Int) = 7 by decide, if_false, if_true, List.length_replicate, List.length_nil, hnp, Int.toNat_natCast]
      rw [sumW (c := n) (by omega) (by omega) (by omega), wk_eq (by omega) (by omega)]
      by_cases hl : (b.length : Int) = (n : Int) * 1
      · rw [if_pos (by omega), if_pos hl]
        unfold tens_FromBytes_W1
        have hr : List.replicate n false = List.replicate (idx n).length false := by rw [idx_length]
        rw [hr]
        refine (pick_loop (at_ := idx n) (fun (m : List Bool) (i : Nat) => (([] : List Int), ([] : List Int), m, (i : Int))) (fun a => decide (1 < leN (grp 1 b a.toNat))) (fun a => if 0 ≤ a then decide (leN (grp 1 b a.toNat) = 1) else false) false (e := some (noT, 1)) (c := fun m => some (⟨9, d, [], [], m⟩, 0)) ?_ ?_ (fun a h => if_neg h) (by rw [idx_length]; omega)).trans ?_
        · intro next i m hi hm
          rw [idx_get, if_pos (show (0 : Int) ≤ (i : Int) by omega), if_pos (show (0 : Int) ≤ (i : Int) by omega)]
          rw [idx_length] at hi hm
          unfold tens_FromBytes_L1
          simp only [List.length_replicate, List.length_nil, idx_length]
          obtain ⟨q1, q2⟩ := sub_grp (w := 1) (c := 1) (k := i) (b := b) rfl (by omega) hbl
          rw [sumW (c := n) (by omega) (by omega) (by omega), if_pos (by omega), chk_pos q1, q2, number_spec (grp_byts hb) (by rw [grp_length (by omega)]; omega) (by omega), ob_some, if_neg (by decide), if_neg (by decide), Int.toNat_natCast]
          by_cases h1 : 1 < leN (grp 1 b i)
          · rw [if_pos h1, if_pos (by simpa using h1)]; rfl
          · rw [if_neg h1, if_neg (by simpa using h1), chk_pos (by omega), wk_succ (by omega)]
        · intro next m hm
          unfold tens_FromBytes_L1
          simp only [List.length_replicate, List.length_nil, idx_length]
          rw [sumW (c := n) (by omega) (by omega) (by omega), if_neg (by omega)]
        · have hm : (idx n).map (fun a => if 0 ≤ a then decide (leN (grp 1 b a.toNat) = 1) else false) = (idx n).map (fun a => decide (leN (grp 1 b a.toNat) = 1)) := by
            refine List.map_congr_left fun a ha => ?_
            obtain ⟨i, _, rfl⟩ := List.mem_map.1 ha
            rw [if_pos (by omega)]
          rw [hm]
          split <;> rfl
      · rw [if_neg (by omega), if_neg hl]; rfl
  · rw [if_neg hn, if_neg hn]; rfl
end Go.Av
