/- Plain functions, as the program has them; data of structs. Made by a program of mine. Conditions: none. -/
import Derived.Test.YtebfneaimafcoaaGreatAu
set_option linter.unusedVariables false
namespace Go.Av
structure T_soft_number where
  fneg : Bool
  fnan : Bool
  finf : Bool
  fexp : Int
  fsig : Int
def c_T_soft_number (x : T_soft_number) : List AV := [.v (.bool x.fneg), .v (.bool x.fnan), .v (.bool x.finf), .v (.int .i64 x.fexp), .v (.int .u64 x.fsig)]
theorem c_T_soft_number_len : ∀ x, (c_T_soft_number x).length = 5 := fun _ => rfl
theorem c_T_soft_number_one : ∀ x, (c_T_soft_number x).all AV.one = true := fun _ => rfl
def reduce_fold_uint32.L1 (fu : Nat) (p2 : Int → Int → Option Int) (x1 : List Int) (nx1 : Int → Int → Option Int) (x5 : Int) (x6 : Int) : Option Int :=
  if x6 < (x1.length : Int) then ((at? x1 x6).bind fun x9 => (p2 x5 x9).bind fun x10 => nx1 x10 (wk .i64 (x6 + 1))) else some x5
def reduce_fold_uint32.W1 (fu : Nat) (p2 : Int → Int → Option Int) (x1 : List Int) (x5 : Int) (x6 : Int) : Option Int :=
  cloop (fun next s => reduce_fold_uint32.L1 fu p2 x1 (fun x5 x6 => next (x5, x6)) s.1 s.2) fu (x5, x6)
def reduce_fold_uint32 (fu : Nat) (x1 : List Int) (x2 : Int) (p2 : Int → Int → Option Int) : Option Int :=
  reduce_fold_uint32.W1 fu p2 x1 x2 0
def soft_open (fu : Nat) (x1 : Int) : Option T_soft_number :=
  if (wk .i64 (band .u32 (shrk .u32 x1 23) 255)) = 255 then (some (T_soft_number.mk (decide ((shrk .u32 x1 31) = 1)) (!(decide ((wk .u64 (band .u32 x1 8388607)) = 0))) (decide ((wk .u64 (band .u32 x1 8388607)) = 0)) 0 0)) else if (wk .i64 (band .u32 (shrk .u32 x1 23) 255)) = 0 then (some (T_soft_number.mk (decide ((shrk .u32 x1 31) = 1)) false false (-149) (wk .u64 (band .u32 x1 8388607)))) else some (T_soft_number.mk (decide ((shrk .u32 x1 31) = 1)) false false (wk .i64 ((wk .i64 (band .u32 (shrk .u32 x1 23) 255)) - 150)) (bor .u64 (wk .u64 (band .u32 x1 8388607)) 8388608))
def soft_sign (fu : Nat) (x1 : Bool) : Option Int :=
  if x1 = true then (some 2147483648) else some 0
def soft_nought (fu : Nat) (x1 : Int) : Option Int :=
  chk (x1 = 0) <| (soft_sign fu (decide ((0 : Int) = 2))).bind fun x2 => some x2
def math_bits_Len64.k2 (fu : Nat) (x4 : Int) (x5 : Int) : Option Int :=
  if 256 ≤ x4 then ((sat? (⟨((([0, 1, 2, 2, 3, 3, 3, 3, 4, 4, 4, 4, 4, 4, 4, 4, 5, 5, 5, 5, 5, 5, 5, 5, 5, 5, 5, 5, 5, 5, 5, 5, 6, 6, 6, 6, 6, 6, 6, 6, 6, 6, 6, 6, 6, 6, 6, 6, 6, 6, 6, 6, 6, 6, 6, 6, 6, 6, 6, 6, 6, 6, 6, 6]).append ([7, 7, 7, 7, 7, 7, 7, 7, 7, 7, 7, 7, 7, 7, 7, 7, 7, 7, 7, 7, 7, 7, 7, 7, 7, 7, 7, 7, 7, 7, 7, 7, 7, 7, 7, 7, 7, 7, 7, 7, 7, 7, 7, 7, 7, 7, 7, 7, 7, 7, 7, 7, 7, 7, 7, 7, 7, 7, 7, 7, 7, 7, 7, 7])).append (([8, 8, 8, 8, 8, 8, 8, 8, 8, 8, 8, 8, 8, 8, 8, 8, 8, 8, 8, 8, 8, 8, 8, 8, 8, 8, 8, 8, 8, 8, 8, 8, 8, 8, 8, 8, 8, 8, 8, 8, 8, 8, 8, 8, 8, 8, 8, 8, 8, 8, 8, 8, 8, 8, 8, 8, 8, 8, 8, 8, 8, 8, 8, 8]).append ([8, 8, 8, 8, 8, 8, 8, 8, 8, 8, 8, 8, 8, 8, 8, 8, 8, 8, 8, 8, 8, 8, 8, 8, 8, 8, 8, 8, 8, 8, 8, 8, 8, 8, 8, 8, 8, 8, 8, 8, 8, 8, 8, 8, 8, 8, 8, 8, 8, 8, 8, 8, 8, 8, 8, 8, 8, 8, 8, 8, 8, 8, 8, 8]))).toArray⟩ : ByteArray) (wk .u8 (shrk .u64 x4 8))).bind fun x6 => some (wk .i64 ((wk .i64 (x5 + 8)) + (wk .i64 x6)))) else (sat? (⟨((([0, 1, 2, 2, 3, 3, 3, 3, 4, 4, 4, 4, 4, 4, 4, 4, 5, 5, 5, 5, 5, 5, 5, 5, 5, 5, 5, 5, 5, 5, 5, 5, 6, 6, 6, 6, 6, 6, 6, 6, 6, 6, 6, 6, 6, 6, 6, 6, 6, 6, 6, 6, 6, 6, 6, 6, 6, 6, 6, 6, 6, 6, 6, 6]).append ([7, 7, 7, 7, 7, 7, 7, 7, 7, 7, 7, 7, 7, 7, 7, 7, 7, 7, 7, 7, 7, 7, 7, 7, 7, 7, 7, 7, 7, 7, 7, 7, 7, 7, 7, 7, 7, 7, 7, 7, 7, 7, 7, 7, 7, 7, 7, 7, 7, 7, 7, 7, 7, 7, 7, 7, 7, 7, 7, 7, 7, 7, 7, 7])).append (([8, 8, 8, 8, 8, 8, 8, 8, 8, 8, 8, 8, 8, 8, 8, 8, 8, 8, 8, 8, 8, 8, 8, 8, 8, 8, 8, 8, 8, 8, 8, 8, 8, 8, 8, 8, 8, 8, 8, 8, 8, 8, 8, 8, 8, 8, 8, 8, 8, 8, 8, 8, 8, 8, 8, 8, 8, 8, 8, 8, 8, 8, 8, 8]).append ([8, 8, 8, 8, 8, 8, 8, 8, 8, 8, 8, 8, 8, 8, 8, 8, 8, 8, 8, 8, 8, 8, 8, 8, 8, 8, 8, 8, 8, 8, 8, 8, 8, 8, 8, 8, 8, 8, 8, 8, 8, 8, 8, 8, 8, 8, 8, 8, 8, 8, 8, 8, 8, 8, 8, 8, 8, 8, 8, 8, 8, 8, 8, 8]))).toArray⟩ : ByteArray) (wk .u8 x4)).bind fun x7 => some (wk .i64 (x5 + (wk .i64 x7)))
def math_bits_Len64.k1 (fu : Nat) (x2 : Int) (x3 : Int) : Option Int :=
  jn 2 () (fun (t : Int × Int) => math_bits_Len64.k2 fu t.1 t.2) <| if 65536 ≤ x2 then (math_bits_Len64.k2 fu (shrk .u64 x2 16) (wk .i64 (x3 + 16))) else math_bits_Len64.k2 fu x2 x3
def math_bits_Len64 (fu : Nat) (x1 : Int) : Option Int :=
  jn 1 () (fun (t : Int × Int) => math_bits_Len64.k1 fu t.1 t.2) <| if 4294967296 ≤ x1 then (math_bits_Len64.k1 fu (shrk .u64 x1 32) 32) else math_bits_Len64.k1 fu x1 0
def soft_outwards (fu : Nat) (x1 : Int) (x2 : Bool) : Option Bool :=
  chk (x1 = 0) <| some false
def soft_tiny (fu : Nat) (x1 : Int) (x2 : Bool) : Option Int :=
  chk (x1 = 0) <| (soft_outwards fu 0 x2).bind fun x3 => if x3 = true then ((soft_sign fu x2).bind fun x4 => some (bor .u32 x4 1)) else (soft_sign fu x2).bind fun x5 => some x5
def soft_huge.k1 (fu : Nat) (x2 : Bool) : Option Int :=
  (soft_sign fu x2).bind fun x3 => some (bor .u32 x3 2139095040)
def soft_huge (fu : Nat) (x1 : Int) (x2 : Bool) : Option Int :=
  chk (x1 = 0) <| jn 1 () (fun (t : Unit) => soft_huge.k1 fu x2) <| soft_huge.k1 fu x2
def soft_Round.k3 (fu : Nat) (x2 : Bool) (x3 : Int) (x6 : Int) (x11 : Int) : Option Int :=
  if x11 = 0 then ((soft_sign fu x2).bind fun x12 => some x12) else if 104 < (wk .i64 (x3 + (imax (wk .i64 (x6 - 24)) (wk .i64 ((-149) - x3))))) then ((soft_huge fu 0 x2).bind fun x13 => some x13) else if 2139095040 ≤ (wk .u64 ((shlk .u64 (wk .u64 (wk .i64 ((wk .i64 (x3 + (imax (wk .i64 (x6 - 24)) (wk .i64 ((-149) - x3))))) + 149))) 23) + x11)) then ((soft_huge fu 0 x2).bind fun x14 => some x14) else (soft_sign fu x2).bind fun x15 => some (bor .u32 x15 (wk .u32 (wk .u64 ((shlk .u64 (wk .u64 (wk .i64 ((wk .i64 (x3 + (imax (wk .i64 (x6 - 24)) (wk .i64 ((-149) - x3))))) + 149))) 23) + x11))))
def soft_Round.k2 (fu : Nat) (x2 : Bool) (x3 : Int) (x6 : Int) (x7 : Int) (x8 : Bool) (x9 : Bool) (x10 : Bool) : Option Int :=
  jn 3 () (fun (t : Int) => soft_Round.k3 fu x2 x3 x6 t) <| if x8 = true then (soft_Round.k3 fu x2 x3 x6 (wk .u64 (x7 + 1))) else if x9 = true then (if (band .u64 x7 1) = 1 then (soft_Round.k3 fu x2 x3 x6 (wk .u64 (x7 + 1))) else soft_Round.k3 fu x2 x3 x6 x7) else soft_Round.k3 fu x2 x3 x6 x7
def soft_Round.k4 (fu : Nat) (x2 : Bool) (x3 : Int) (x4 : Int) (x5 : Bool) (x6 : Int) (x16 : Bool) : Option Int :=
  if (band .u64 x4 (wk .u64 ((shlk .u64 1 (imax (wk .i64 (x6 - 24)) (wk .i64 ((-149) - x3)))) - 1))) = (shlk .u64 1 (wk .i64 ((imax (wk .i64 (x6 - 24)) (wk .i64 ((-149) - x3))) - 1))) then (if (band .u64 x4 (wk .u64 ((shlk .u64 1 (imax (wk .i64 (x6 - 24)) (wk .i64 ((-149) - x3)))) - 1))) = 0 then (soft_Round.k2 fu x2 x3 x6 (shrk .u64 x4 (imax (wk .i64 (x6 - 24)) (wk .i64 ((-149) - x3)))) x16 (!x5) x5) else soft_Round.k2 fu x2 x3 x6 (shrk .u64 x4 (imax (wk .i64 (x6 - 24)) (wk .i64 ((-149) - x3)))) x16 (!x5) true) else if (band .u64 x4 (wk .u64 ((shlk .u64 1 (imax (wk .i64 (x6 - 24)) (wk .i64 ((-149) - x3)))) - 1))) = 0 then (soft_Round.k2 fu x2 x3 x6 (shrk .u64 x4 (imax (wk .i64 (x6 - 24)) (wk .i64 ((-149) - x3)))) x16 false x5) else soft_Round.k2 fu x2 x3 x6 (shrk .u64 x4 (imax (wk .i64 (x6 - 24)) (wk .i64 ((-149) - x3)))) x16 false true
def soft_Round.k1 (fu : Nat) (x2 : Bool) (x3 : Int) (x4 : Int) (x5 : Bool) (x6 : Int) : Option Int :=
  jn 2 () (fun (t : Int × Bool × Bool × Bool) => soft_Round.k2 fu x2 x3 x6 t.1 t.2.1 t.2.2.1 t.2.2.2) <| if (imax (wk .i64 (x6 - 24)) (wk .i64 ((-149) - x3))) ≤ 0 then (chk (0 ≤ (wk .i64 (0 - (imax (wk .i64 (x6 - 24)) (wk .i64 ((-149) - x3)))))) <| soft_Round.k2 fu x2 x3 x6 (shlk .u64 x4 (wk .i64 (0 - (imax (wk .i64 (x6 - 24)) (wk .i64 ((-149) - x3)))))) false false x5) else if x6 < (imax (wk .i64 (x6 - 24)) (wk .i64 ((-149) - x3))) then (soft_Round.k2 fu x2 x3 x6 0 false false true) else chk (0 ≤ (imax (wk .i64 (x6 - 24)) (wk .i64 ((-149) - x3)))) <| chk (0 ≤ (wk .i64 ((imax (wk .i64 (x6 - 24)) (wk .i64 ((-149) - x3))) - 1))) <| jn 4 () (fun (t : Bool) => soft_Round.k4 fu x2 x3 x4 x5 x6 t) <| if (shlk .u64 1 (wk .i64 ((imax (wk .i64 (x6 - 24)) (wk .i64 ((-149) - x3))) - 1))) < (band .u64 x4 (wk .u64 ((shlk .u64 1 (imax (wk .i64 (x6 - 24)) (wk .i64 ((-149) - x3)))) - 1))) then (soft_Round.k4 fu x2 x3 x4 x5 x6 true) else if (band .u64 x4 (wk .u64 ((shlk .u64 1 (imax (wk .i64 (x6 - 24)) (wk .i64 ((-149) - x3)))) - 1))) = (shlk .u64 1 (wk .i64 ((imax (wk .i64 (x6 - 24)) (wk .i64 ((-149) - x3))) - 1))) then (soft_Round.k4 fu x2 x3 x4 x5 x6 x5) else soft_Round.k4 fu x2 x3 x4 x5 x6 false
def soft_Round (fu : Nat) (x1 : Int) (x2 : Bool) (x3 : Int) (x4 : Int) (x5 : Bool) : Option Int :=
  chk (x1 = 0) <| (math_bits_Len64 fu x4).bind fun x6 => jn 1 () (fun (t : Unit) => soft_Round.k1 fu x2 x3 x4 x5 x6) <| if x6 = 0 then (if x5 = true then ((soft_tiny fu 0 x2).bind fun x17 => some x17) else (soft_sign fu x2).bind fun x18 => some x18) else if x3 < (-300) then ((soft_tiny fu 0 x2).bind fun x19 => some x19) else if 200 < x3 then ((soft_huge fu 0 x2).bind fun x20 => some x20) else soft_Round.k1 fu x2 x3 x4 x5 x6
def soft_AddBy.k3 (fu : Nat) (x6 : Bool) (x9 : Bool) (x12 : Int) (x13 : Int) (x14 : Int) (x15 : Bool) : Option Int :=
  if (x6 == x9) = true then ((soft_Round fu 0 x6 x12 (wk .u64 (x13 + x14)) x15).bind fun x16 => some x16) else if x15 = true then ((soft_Round fu 0 x6 x12 (wk .u64 ((wk .u64 (x13 - x14)) - 1)) true).bind fun x17 => some x17) else if x13 = x14 then ((soft_nought fu 0).bind fun x18 => some x18) else if x14 < x13 then ((soft_Round fu 0 x6 x12 (wk .u64 (x13 - x14)) false).bind fun x19 => some x19) else (soft_Round fu 0 x9 x12 (wk .u64 (x14 - x13)) false).bind fun x20 => some x20
def soft_AddBy.k2 (fu : Nat) (x6 : Bool) (x7 : Int) (x8 : Int) (x9 : Bool) (x10 : Int) (x11 : Int) : Option Int :=
  jn 3 () (fun (t : Int × Int × Int × Bool) => soft_AddBy.k3 fu x6 x9 t.1 t.2.1 t.2.2.1 t.2.2.2) <| if (wk .i64 (x7 - x10)) ≤ 38 then (chk (0 ≤ (wk .i64 (x7 - x10))) <| soft_AddBy.k3 fu x6 x9 x10 (shlk .u64 x8 (wk .i64 (x7 - x10))) x11 false) else chk (0 ≤ (wk .i64 ((wk .i64 (x7 - x10)) - 38))) <| soft_AddBy.k3 fu x6 x9 (wk .i64 (x7 - 38)) (shlk .u64 x8 38) (shrk .u64 x11 (wk .i64 ((wk .i64 (x7 - x10)) - 38))) (!(decide ((shlk .u64 (shrk .u64 x11 (wk .i64 ((wk .i64 (x7 - x10)) - 38))) (wk .i64 ((wk .i64 (x7 - x10)) - 38))) = x11)))
def soft_AddBy.k1 (fu : Nat) (x4 : T_soft_number) (x5 : T_soft_number) : Option Int :=
  jn 2 () (fun (t : Bool × Int × Int × Bool × Int × Int) => soft_AddBy.k2 fu t.1 t.2.1 t.2.2.1 t.2.2.2.1 t.2.2.2.2.1 t.2.2.2.2.2) <| if x4.fexp < x5.fexp then (soft_AddBy.k2 fu x5.fneg x5.fexp x5.fsig x4.fneg x4.fexp x4.fsig) else soft_AddBy.k2 fu x4.fneg x4.fexp x4.fsig x5.fneg x5.fexp x5.fsig
def soft_AddBy (fu : Nat) (x1 : Int) (x2 : Int) (x3 : Int) : Option Int :=
  chk (x1 = 0) <| (soft_open fu x2).bind fun x4 => (soft_open fu x3).bind fun x5 => jn 1 () (fun (t : Unit) => soft_AddBy.k1 fu x4 x5) <| if x4.fnan = true then (some 2143289344) else if x5.fnan = true then (some 2143289344) else if x4.finf = true then (if x5.finf = true then (if (x4.fneg == x5.fneg) = true then (some x2) else some 2143289344) else some x2) else if x5.finf = true then (some x3) else if x4.fsig = 0 then (if x5.fsig = 0 then (if x2 = x3 then (some x2) else (soft_nought fu 0).bind fun x21 => some x21) else soft_AddBy.k1 fu x4 x5) else soft_AddBy.k1 fu x4 x5
def soft_Add (fu : Nat) (x1 : Int) (x2 : Int) : Option Int :=
  (soft_AddBy fu 0 x1 x2).bind fun x3 => some x3
def reduce_Sum (fu : Nat) (x1 : List Int) : Option Int :=
  (reduce_fold_uint32 fu x1 0 (fun y0 y1 => soft_Add fu y0 y1)).bind fun x2 => some x2
def ref01_Abs (fu : Nat) (x1 : Int) : Option Int :=
  some (Int.tmod x1 2147483648)
def ref01_IsNone (fu : Nat) (x1 : Int) : Option Bool :=
  (ref01_Abs fu x1).bind fun x2 => some (decide (2139095040 < x2))
def ref01_trim.L1 (fu : Nat) (x1 : List Int) (nx1 : Int → Option (List Int)) (x3 : Int) : Option (List Int) :=
  if 0 < x3 then ((at? x1 (wk .i64 (x3 - 1))).bind fun x5 => if x5 = 0 then (nx1 (wk .i64 (x3 - 1))) else chk (0 ≤ x3 ∧ x3 ≤ (x1.length : Int)) <| some (subN x1 0 x3.toNat)) else chk (0 ≤ x3 ∧ x3 ≤ (x1.length : Int)) <| some (subN x1 0 x3.toNat)
def ref01_trim.W1 (fu : Nat) (x1 : List Int) (x3 : Int) : Option (List Int) :=
  cloop (fun next s => ref01_trim.L1 fu x1 next s) fu x3
def ref01_trim (fu : Nat) (x1 : List Int) : Option (List Int) :=
  ref01_trim.W1 fu x1 (x1.length : Int)
def ref01_Of (fu : Nat) (x1 : Int) : Option (List Int) :=
  (ref01_trim fu ([wk .u32 (Int.tmod x1 4294967296), wk .u32 (wk .u64 (Int.tdiv x1 4294967296))])).bind fun x2 => some x2
def ref01_Twice.k2 (fu : Nat) (x4 : List Int) (x5 : Int) : Option (List Int) :=
  chk ((x4.length + 1 : Int) * 4 ≤ 140737488355328) <| (ref01_trim fu (x4 ++ ([wk .u32 x5]))).bind fun x6 => some x6
def ref01_Twice.L1 (fu : Nat) (x1 : List Int) (x2 : Int) (nx1 : (List Int) → Int → Int → Option (List Int)) (x8 : List Int) (x9 : Int) (x10 : Int) : Option (List Int) :=
  if x10 < (x1.length : Int) then ((at? x1 x10).bind fun x12 => chk (0 ≤ (Int.tmod x2 32)) <| chk ((x8.length + 1 : Int) * 4 ≤ 140737488355328) <| nx1 (x8 ++ ([wk .u32 (Int.tmod (wk .u64 ((shlk .u64 (wk .u64 x12) (Int.tmod x2 32)) + x9)) 4294967296)])) (wk .u64 (Int.tdiv (wk .u64 ((shlk .u64 (wk .u64 x12) (Int.tmod x2 32)) + x9)) 4294967296)) (wk .i64 (x10 + 1))) else ref01_Twice.k2 fu x8 x9
def ref01_Twice.W1 (fu : Nat) (x1 : List Int) (x2 : Int) (x8 : List Int) (x9 : Int) (x10 : Int) : Option (List Int) :=
  cloop (fun next s => ref01_Twice.L1 fu x1 x2 (fun x8 x9 x10 => next (x8, x9, x10)) s.1 s.2.1 s.2.2) fu (x8, x9, x10)
def ref01_Twice.k1 (fu : Nat) (x1 : List Int) (x2 : Int) (x3 : List Int) : Option (List Int) :=
  jn 2 () (fun (t : (List Int) × Int) => ref01_Twice.k2 fu t.1 t.2) <| ref01_Twice.W1 fu x1 x2 x3 0 0
def ref01_Twice.L2 (fu : Nat) (x1 : List Int) (x2 : Int) (nx2 : (List Int) → Int → Option (List Int)) (x13 : List Int) (x14 : Int) : Option (List Int) :=
  if x14 < (wk .i64 (Int.tdiv x2 32)) then (chk ((x13.length + 1 : Int) * 4 ≤ 140737488355328) <| nx2 (x13 ++ ([0])) (wk .i64 (x14 + 1))) else ref01_Twice.k1 fu x1 x2 x13
def ref01_Twice.W2 (fu : Nat) (x1 : List Int) (x2 : Int) (x13 : List Int) (x14 : Int) : Option (List Int) :=
  cloop (fun next s => ref01_Twice.L2 fu x1 x2 (fun x13 x14 => next (x13, x14)) s.1 s.2) fu (x13, x14)
def ref01_Twice (fu : Nat) (x1 : List Int) (x2 : Int) : Option (List Int) :=
  jn 1 () (fun (t : List Int) => ref01_Twice.k1 fu x1 x2 t) <| ref01_Twice.W2 fu x1 x2 ([] : List Int) 0
def ref01_Amount (fu : Nat) (x1 : Int) : Option (List Int) :=
  if (wk .i64 (wk .u32 (Int.tdiv x1 8388608))) = 0 then ((ref01_Of fu (wk .u64 (Int.tmod x1 8388608))).bind fun x2 => some x2) else (ref01_Of fu (wk .u64 (8388608 + (wk .u64 (Int.tmod x1 8388608))))).bind fun x3 => (ref01_Twice fu x3 (wk .i64 ((wk .i64 (wk .u32 (Int.tdiv x1 8388608))) - 1))).bind fun x4 => some x4
def ref01_Below (fu : Nat) (x1 : Int) : Option Bool :=
  some (decide (2147483648 ≤ x1))
def ref01_Plus.k1 (fu : Nat) (x3 : List Int) : Option (List Int) :=
  (ref01_trim fu x3).bind fun x4 => some x4
def ref01_Plus.k4 (fu : Nat) (nx1 : (List Int) → Int → Int → Option (List Int)) (x9 : List Int) (x11 : Int) (x17 : Int) : Option (List Int) :=
  chk ((x9.length + 1 : Int) * 4 ≤ 140737488355328) <| nx1 (x9 ++ ([wk .u32 (Int.tmod x17 4294967296)])) (wk .u64 (Int.tdiv x17 4294967296)) (wk .i64 (x11 + 1))
def ref01_Plus.k3 (fu : Nat) (nx1 : (List Int) → Int → Int → Option (List Int)) (x2 : List Int) (x9 : List Int) (x11 : Int) (x16 : Int) : Option (List Int) :=
  jn 4 () (fun (t : Int) => ref01_Plus.k4 fu nx1 x9 x11 t) <| if x11 < (x2.length : Int) then ((at? x2 x11).bind fun x18 => ref01_Plus.k4 fu nx1 x9 x11 (wk .u64 (x16 + (wk .u64 x18)))) else ref01_Plus.k4 fu nx1 x9 x11 x16
def ref01_Plus.k2 (fu : Nat) (nx1 : (List Int) → Int → Int → Option (List Int)) (x1 : List Int) (x2 : List Int) (x9 : List Int) (x10 : Int) (x11 : Int) : Option (List Int) :=
  jn 3 () (fun (t : Int) => ref01_Plus.k3 fu nx1 x2 x9 x11 t) <| if x11 < (x1.length : Int) then ((at? x1 x11).bind fun x19 => ref01_Plus.k3 fu nx1 x2 x9 x11 (wk .u64 (x10 + (wk .u64 x19)))) else ref01_Plus.k3 fu nx1 x2 x9 x11 x10
def ref01_Plus.L1 (fu : Nat) (x1 : List Int) (x2 : List Int) (nx1 : (List Int) → Int → Int → Option (List Int)) (x9 : List Int) (x10 : Int) (x11 : Int) : Option (List Int) :=
  jn 2 () (fun (t : Unit) => ref01_Plus.k2 fu nx1 x1 x2 x9 x10 x11) <| if x11 < (x1.length : Int) then (ref01_Plus.k2 fu nx1 x1 x2 x9 x10 x11) else if x11 < (x2.length : Int) then (ref01_Plus.k2 fu nx1 x1 x2 x9 x10 x11) else if 0 < x10 then (ref01_Plus.k2 fu nx1 x1 x2 x9 x10 x11) else ref01_Plus.k1 fu x9
def ref01_Plus.W1 (fu : Nat) (x1 : List Int) (x2 : List Int) (x9 : List Int) (x10 : Int) (x11 : Int) : Option (List Int) :=
  cloop (fun next s => ref01_Plus.L1 fu x1 x2 (fun x9 x10 x11 => next (x9, x10, x11)) s.1 s.2.1 s.2.2) fu (x9, x10, x11)
def ref01_Plus (fu : Nat) (x1 : List Int) (x2 : List Int) : Option (List Int) :=
  jn 1 () (fun (t : List Int) => ref01_Plus.k1 fu t) <| ref01_Plus.W1 fu x1 x2 ([] : List Int) 0 0
def ref01_Times.k1 (fu : Nat) (x3 : List Int) : Option (List Int) :=
  (ref01_trim fu x3).bind fun x4 => some x4
def ref01_Times.k2 (fu : Nat) (nx1 : (List Int) → Int → Option (List Int)) (x2 : List Int) (x20 : Int) (x35 : List Int) (x36 : Int) : Option (List Int) :=
  chk (0 ≤ wk .i64 (x20 + (x2.length : Int)) ∧ wk .i64 (x20 + (x2.length : Int)) < (x35.length : Int)) <| nx1 (x35.set (wk .i64 (x20 + (x2.length : Int))).toNat (wk .u32 x36)) (wk .i64 (x20 + 1))
def ref01_Times.L2 (fu : Nat) (nx1 : (List Int) → Int → Option (List Int)) (x1 : List Int) (x2 : List Int) (x20 : Int) (nx2 : (List Int) → Int → Int → Option (List Int)) (x40 : List Int) (x41 : Int) (x42 : Int) : Option (List Int) :=
  if x42 < (x2.length : Int) then ((at? x1 x20).bind fun x46 => (at? x2 x42).bind fun x47 => (at? x40 (wk .i64 (x20 + x42))).bind fun x48 => chk (0 ≤ wk .i64 (x20 + x42) ∧ wk .i64 (x20 + x42) < (x40.length : Int)) <| nx2 (x40.set (wk .i64 (x20 + x42)).toNat (wk .u32 (Int.tmod (wk .u64 ((wk .u64 ((wk .u64 ((wk .u64 x46) * (wk .u64 x47))) + (wk .u64 x48))) + x41)) 4294967296))) (wk .u64 (Int.tdiv (wk .u64 ((wk .u64 ((wk .u64 ((wk .u64 x46) * (wk .u64 x47))) + (wk .u64 x48))) + x41)) 4294967296)) (wk .i64 (x42 + 1))) else ref01_Times.k2 fu nx1 x2 x20 x40 x41
def ref01_Times.W2 (fu : Nat) (nx1 : (List Int) → Int → Option (List Int)) (x1 : List Int) (x2 : List Int) (x20 : Int) (x40 : List Int) (x41 : Int) (x42 : Int) : Option (List Int) :=
  cloop (fun next s => ref01_Times.L2 fu nx1 x1 x2 x20 (fun x40 x41 x42 => next (x40, x41, x42)) s.1 s.2.1 s.2.2) fu (x40, x41, x42)
def ref01_Times.L1 (fu : Nat) (x1 : List Int) (x2 : List Int) (nx1 : (List Int) → Int → Option (List Int)) (x19 : List Int) (x20 : Int) : Option (List Int) :=
  if x20 < (x1.length : Int) then (jn 2 () (fun (t : (List Int) × Int) => ref01_Times.k2 fu nx1 x2 x20 t.1 t.2) <| ref01_Times.W2 fu nx1 x1 x2 x20 x19 0 0) else ref01_Times.k1 fu x19
def ref01_Times.W1 (fu : Nat) (x1 : List Int) (x2 : List Int) (x19 : List Int) (x20 : Int) : Option (List Int) :=
  cloop (fun next s => ref01_Times.L1 fu x1 x2 (fun x19 x20 => next (x19, x20)) s.1 s.2) fu (x19, x20)
def ref01_Times (fu : Nat) (x1 : List Int) (x2 : List Int) : Option (List Int) :=
  chk (0 ≤ wk .i64 ((x1.length : Int) + (x2.length : Int)) ∧ (wk .i64 ((x1.length : Int) + (x2.length : Int))) * 4 ≤ 140737488355328) <| jn 1 () (fun (t : List Int) => ref01_Times.k1 fu t) <| ref01_Times.W1 fu x1 x2 (List.replicate (wk .i64 ((x1.length : Int) + (x2.length : Int))).toNat (0 : Int)) 0
def ref01_Compare.L1 (fu : Nat) (x1 : List Int) (x2 : List Int) (nx1 : Int → Option Int) (x5 : Int) : Option Int :=
  if 0 ≤ x5 then ((at? x1 x5).bind fun x8 => (at? x2 x5).bind fun x9 => if x8 < x9 then (some (-1)) else if x9 < x8 then (some 1) else nx1 (wk .i64 (x5 - 1))) else some 0
def ref01_Compare.W1 (fu : Nat) (x1 : List Int) (x2 : List Int) (x5 : Int) : Option Int :=
  cloop (fun next s => ref01_Compare.L1 fu x1 x2 next s) fu x5
def ref01_Compare (fu : Nat) (x1 : List Int) (x2 : List Int) : Option Int :=
  if (x1.length : Int) = (x2.length : Int) then (ref01_Compare.W1 fu x1 x2 (wk .i64 ((x1.length : Int) - 1))) else if (x1.length : Int) < (x2.length : Int) then (some (-1)) else some 1
def ref01_least.L1 (fu : Nat) (x1 : List Int) (x2 : List Int) (nx1 : Int → Int → Option Int) (x6 : Int) (x7 : Int) : Option Int :=
  if 1 < (wk .u32 (x7 - x6)) then ((ref01_Amount fu (wk .u32 (x6 + (wk .u32 (Int.tdiv (wk .u32 (x7 - x6)) 2))))).bind fun x11 => (ref01_Times fu x11 x2).bind fun x12 => (ref01_Compare fu x12 x1).bind fun x13 => if x13 ≤ 0 then (nx1 (wk .u32 (x6 + (wk .u32 (Int.tdiv (wk .u32 (x7 - x6)) 2)))) x7) else nx1 x6 (wk .u32 (x6 + (wk .u32 (Int.tdiv (wk .u32 (x7 - x6)) 2))))) else some x6
def ref01_least.W1 (fu : Nat) (x1 : List Int) (x2 : List Int) (x6 : Int) (x7 : Int) : Option Int :=
  cloop (fun next s => ref01_least.L1 fu x1 x2 (fun x6 x7 => next (x6, x7)) s.1 s.2) fu (x6, x7)
def ref01_least (fu : Nat) (x1 : List Int) (x2 : List Int) : Option Int :=
  ref01_least.W1 fu x1 x2 0 2139095041
def ref01_Rounded.k4 (fu : Nat) (x3 : List Int) (x4 : List Int) (x5 : Int) (x7 : Int) (x9 : Bool) (x11 : List Int) : Option Int :=
  if x9 = true then (some (wk .u32 ((wk .u32 (x7 + x5)) + 1))) else (ref01_Amount fu (wk .u32 (x5 + 1))).bind fun x14 => (ref01_Plus fu x11 x14).bind fun x15 => (ref01_Times fu x15 x4).bind fun x16 => (ref01_Twice fu x3 1).bind fun x17 => (ref01_Compare fu x16 x17).bind fun x18 => if x18 < 0 then (some (wk .u32 ((wk .u32 (x7 + x5)) + 1))) else if x18 = 0 then (if (Int.tmod x5 2) = 1 then (some (wk .u32 ((wk .u32 (x7 + x5)) + 1))) else some (wk .u32 (x7 + x5))) else some (wk .u32 (x7 + x5))
def ref01_Rounded.k3 (fu : Nat) (x3 : List Int) (x4 : List Int) (x5 : Int) (x7 : Int) (x9 : Bool) (x10 : Bool) : Option Int :=
  (ref01_Amount fu x5).bind fun x11 => (ref01_Times fu x11 x4).bind fun x12 => (ref01_Compare fu x12 x3).bind fun x13 => if x5 = 2139095040 then (if x10 = true then (some (wk .u32 (x7 + 2139095039))) else some (wk .u32 (x7 + 2139095040))) else jn 4 () (fun (t : Unit) => ref01_Rounded.k4 fu x3 x4 x5 x7 x9 x11) <| if x13 = 0 then (some (wk .u32 (x7 + x5))) else if x10 = true then (some (wk .u32 (x7 + x5))) else ref01_Rounded.k4 fu x3 x4 x5 x7 x9 x11
def ref01_Rounded.k2 (fu : Nat) (x1 : Int) (x3 : List Int) (x4 : List Int) (x5 : Int) (x7 : Int) (x8 : Bool) (x9 : Bool) : Option Int :=
  jn 3 () (fun (t : Bool) => ref01_Rounded.k3 fu x3 x4 x5 x7 x9 t) <| if x1 = 1 then (if x8 = true then (ref01_Rounded.k3 fu x3 x4 x5 x7 x9 true) else if x1 = 2 then (none) else ref01_Rounded.k3 fu x3 x4 x5 x7 x9 false) else if x1 = 2 then (ref01_Rounded.k3 fu x3 x4 x5 x7 x9 (!x8)) else ref01_Rounded.k3 fu x3 x4 x5 x7 x9 false
def ref01_Rounded.k1 (fu : Nat) (x1 : Int) (x3 : List Int) (x4 : List Int) (x5 : Int) (x6 : Bool) (x7 : Int) : Option Int :=
  jn 2 () (fun (t : Bool × Bool) => ref01_Rounded.k2 fu x1 x3 x4 x5 x7 t.1 t.2) <| if x1 = 1 then (if x6 = true then (if x1 = 2 then (none) else ref01_Rounded.k2 fu x1 x3 x4 x5 x7 true false) else ref01_Rounded.k2 fu x1 x3 x4 x5 x7 false true) else if x1 = 2 then (ref01_Rounded.k2 fu x1 x3 x4 x5 x7 x6 x6) else ref01_Rounded.k2 fu x1 x3 x4 x5 x7 x6 false
def ref01_Rounded (fu : Nat) (x1 : Int) (x2 : Bool) (x3 : List Int) (x4 : List Int) : Option Int :=
  (ref01_least fu x3 x4).bind fun x5 => jn 1 () (fun (t : Bool × Int) => ref01_Rounded.k1 fu x1 x3 x4 x5 t.1 t.2) <| if x2 = true then (ref01_Rounded.k1 fu x1 x3 x4 x5 true 2147483648) else ref01_Rounded.k1 fu x1 x3 x4 x5 false 0
def ref01_Minus.k1 (fu : Nat) (x3 : List Int) : Option (List Int) :=
  (ref01_trim fu x3).bind fun x4 => some x4
def ref01_Minus.k3 (fu : Nat) (nx1 : (List Int) → Int → Int → Option (List Int)) (x10 : List Int) (x12 : Int) (x18 : Int) (x20 : Int) (x21 : Int) : Option (List Int) :=
  chk ((x10.length + 1 : Int) * 4 ≤ 140737488355328) <| nx1 (x10 ++ ([wk .u32 (wk .u64 (x21 - x18))])) x20 (wk .i64 (x12 + 1))
def ref01_Minus.k2 (fu : Nat) (nx1 : (List Int) → Int → Int → Option (List Int)) (x1 : List Int) (x10 : List Int) (x12 : Int) (x18 : Int) : Option (List Int) :=
  (at? x1 x12).bind fun x19 => jn 3 () (fun (t : Int × Int) => ref01_Minus.k3 fu nx1 x10 x12 x18 t.1 t.2) <| if (wk .u64 x19) < x18 then (ref01_Minus.k3 fu nx1 x10 x12 x18 1 (wk .u64 ((wk .u64 x19) + 4294967296))) else ref01_Minus.k3 fu nx1 x10 x12 x18 0 (wk .u64 x19)
def ref01_Minus.L1 (fu : Nat) (x1 : List Int) (x2 : List Int) (nx1 : (List Int) → Int → Int → Option (List Int)) (x10 : List Int) (x11 : Int) (x12 : Int) : Option (List Int) :=
  if x12 < (x1.length : Int) then (jn 2 () (fun (t : Int) => ref01_Minus.k2 fu nx1 x1 x10 x12 t) <| if x12 < (x2.length : Int) then ((at? x2 x12).bind fun x22 => ref01_Minus.k2 fu nx1 x1 x10 x12 (wk .u64 (x11 + (wk .u64 x22)))) else ref01_Minus.k2 fu nx1 x1 x10 x12 x11) else ref01_Minus.k1 fu x10
def ref01_Minus.W1 (fu : Nat) (x1 : List Int) (x2 : List Int) (x10 : List Int) (x11 : Int) (x12 : Int) : Option (List Int) :=
  cloop (fun next s => ref01_Minus.L1 fu x1 x2 (fun x10 x11 x12 => next (x10, x11, x12)) s.1 s.2.1 s.2.2) fu (x10, x11, x12)
def ref01_Minus (fu : Nat) (x1 : List Int) (x2 : List Int) : Option (List Int) :=
  jn 1 () (fun (t : List Int) => ref01_Minus.k1 fu t) <| ref01_Minus.W1 fu x1 x2 ([] : List Int) 0 0
def ref01_AddBy.k3 (fu : Nat) (x1 : Int) (x5 : List Int) (x7 : List Int) (x8 : Bool) : Option Int :=
  (ref01_Plus fu x5 x7).bind fun x10 => (ref01_Of fu 1).bind fun x11 => (ref01_Rounded fu x1 x8 x10 x11).bind fun x12 => some x12
def ref01_AddBy.k2 (fu : Nat) (x1 : Int) (x2 : Int) (x3 : Int) : Option Int :=
  (ref01_Abs fu x2).bind fun x4 => (ref01_Amount fu x4).bind fun x5 => (ref01_Abs fu x3).bind fun x6 => (ref01_Amount fu x6).bind fun x7 => (ref01_Below fu x2).bind fun x8 => (ref01_Below fu x3).bind fun x9 => if (x8 == x9) = true then (jn 3 () (fun (t : Unit) => ref01_AddBy.k3 fu x1 x5 x7 x8) <| if (x5.length : Int) = 0 then (if (x7.length : Int) = 0 then (some x2) else ref01_AddBy.k3 fu x1 x5 x7 x8) else ref01_AddBy.k3 fu x1 x5 x7 x8) else (ref01_Compare fu x5 x7).bind fun x13 => if x13 = 1 then ((ref01_Minus fu x5 x7).bind fun x14 => (ref01_Of fu 1).bind fun x15 => (ref01_Rounded fu x1 x8 x14 x15).bind fun x16 => some x16) else if x13 = (-1) then ((ref01_Minus fu x7 x5).bind fun x17 => (ref01_Of fu 1).bind fun x18 => (ref01_Rounded fu x1 x9 x17 x18).bind fun x19 => some x19) else if x1 = 2 then (some 2147483648) else some 0
def ref01_AddBy.k4 (fu : Nat) (x2 : Int) : Option Int :=
  some x2
def ref01_AddBy.k5 (fu : Nat) (x3 : Int) : Option Int :=
  some x3
def ref01_AddBy.k1 (fu : Nat) (x1 : Int) (x2 : Int) (x3 : Int) : Option Int :=
  jn 2 () (fun (t : Unit) => ref01_AddBy.k2 fu x1 x2 x3) <| (ref01_Abs fu x2).bind fun x20 => if x20 = 2139095040 then (jn 4 () (fun (t : Unit) => ref01_AddBy.k4 fu x2) <| (ref01_Abs fu x3).bind fun x21 => if x20 = x21 then (if x2 = x3 then (ref01_AddBy.k4 fu x2) else some 2143289344) else ref01_AddBy.k4 fu x2) else (ref01_Abs fu x3).bind fun x22 => if x22 = 2139095040 then (jn 5 () (fun (t : Unit) => ref01_AddBy.k5 fu x3) <| if x20 = x22 then (none) else ref01_AddBy.k5 fu x3) else ref01_AddBy.k2 fu x1 x2 x3
def ref01_AddBy (fu : Nat) (x1 : Int) (x2 : Int) (x3 : Int) : Option Int :=
  jn 1 () (fun (t : Unit) => ref01_AddBy.k1 fu x1 x2 x3) <| (ref01_IsNone fu x2).bind fun x23 => if x23 = true then (some 2143289344) else (ref01_IsNone fu x3).bind fun x24 => if x24 = true then (some 2143289344) else ref01_AddBy.k1 fu x1 x2 x3
def ref01_Add (fu : Nat) (x1 : Int) (x2 : Int) : Option Int :=
  (ref01_AddBy fu 0 x1 x2).bind fun x3 => some x3
def ref13_Sum.L1 (fu : Nat) (x1 : List Int) (nx1 : Int → Int → Option Int) (x4 : Int) (x5 : Int) : Option Int :=
  if x5 < (x1.length : Int) then ((at? x1 x5).bind fun x8 => (ref01_Add fu x4 x8).bind fun x9 => nx1 x9 (wk .i64 (x5 + 1))) else some x4
def ref13_Sum.W1 (fu : Nat) (x1 : List Int) (x4 : Int) (x5 : Int) : Option Int :=
  cloop (fun next s => ref13_Sum.L1 fu x1 (fun x4 x5 => next (x4, x5)) s.1 s.2) fu (x4, x5)
def ref13_Sum (fu : Nat) (x1 : List Int) : Option Int :=
  ref13_Sum.W1 fu x1 0 0
def law13_ReduceSums (fu : Nat) (x1 : List Int) : Option Bool :=
  (reduce_Sum fu x1).bind fun x2 => (ref13_Sum fu x1).bind fun x3 => some (decide (x2 = x3))
end Go.Av
