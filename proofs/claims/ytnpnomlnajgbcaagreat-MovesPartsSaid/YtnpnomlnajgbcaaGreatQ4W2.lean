/- The walks of the plain functions, part 2. Made by a program of mine. Conditions: none. -/
import Derived.Test.YtnpnomlnajgbcaaGreatQ4W1
set_option linter.unusedVariables false
set_option linter.unusedSimpArgs false
set_option linter.defProp false
set_option maxRecDepth 20000
open Go Go.Proofs
namespace Go.Av
open Aw (d13 d17 d18 d19 d20 d21 d22 d31 d32 d33 d35 d36 d37 d38 d41 d57 d58 d59 d60 d61 d62 d63 d64 d65 d68 d69 d70 d71 d72 d76 d83 d84 d85 d98 d99 d100 d101 d102 d112 d113 d116 d117 d118 d123 d124 d125 d126 d127 d128 d129 d130 d132 d137 d147 d154 d155 d156 d157 d175)
open Aw (d49)
def d49_at := by have h := tabL Aw.d49.eq_1; simp only [AllAt, Nat.zero_add, Nat.reduceAdd] at h; exact h
theorem i49 : finfo Tryz.prog 49 d49 = some ⟨bodyOf Tryz.f49, [.cell 6 27, .tmp 7], [27, 30]⟩ := finfo_at Tryz.func49 rfl (by kernel_rfl) (by kernel_rfl)
def e49 : (T_Tensor × Int) → AV := fun r => .tuple [.agg [.v (.int .i64 r.1.fType), .fresh 1 r.1.fDims.length (lm (ik .i64) r.1.fDims), .fresh 1 r.1.fF.length (lm (ik .u32) r.1.fF), .fresh 1 r.1.fI.length (lm (ik .i64) r.1.fI), .fresh 1 r.1.fB.length (lm (bk) r.1.fB)], .v (.int .i64 r.2)]
set_option maxHeartbeats 20000000 in
theorem w49 (cp : CallP) (fu : Nat) (x1 : T_Tensor) (x2 : List Int) (x3 : List Int) (H18_0 : ∀ (a0 : T_Tensor) r, tens_Check fu a0 = some r → cp 18 [.agg (c_T_Tensor a0)] = some (.v (.int .i64 r))) (H98_0 : ∀ (a0 : Int) (a1 : List Int) r, tens_New fu a0 a1 = some r → cp 98 [.v (.int .i64 a0), .arr a1.length (lm (ik .i64) a1)] = some (.tuple [.agg [.v (.int .i64 r.1.fType), .fresh 1 r.1.fDims.length (lm (ik .i64) r.1.fDims), .fresh 1 r.1.fF.length (lm (ik .u32) r.1.fF), .fresh 1 r.1.fI.length (lm (ik .i64) r.1.fI), .fresh 1 r.1.fB.length (lm (bk) r.1.fB)], .v (.int .i64 r.2)])) (H58_0 : ∀ (a0 : List Int) (c1 : Int) r, slices_ContainsFunc_int fu a0 (fun y0 => tens_Pick_1 fu y0 c1) = some r → cp 58 [.arr a0.length (lm (ik .i64) a0), .fn 99 [] [.ref [.v (.int .i64 c1)] 0]] = some (.v (.bool r))) : J (go Tryz.prog (inlC [100, 101, 102]) cp (ciE Tryz.prog (inlC [100, 101, 102]) cp (ciE Tryz.prog (inlC [100, 101, 102]) cp (ciE Tryz.prog (inlC [100, 101, 102]) cp noI fu 102 d102 ⟨b102, [], []⟩ noI) fu 101 d101 ⟨b101, [], []⟩ (ciE Tryz.prog (inlC [100, 101, 102]) cp noI fu 102 d102 ⟨b102, [], []⟩ noI)) fu 100 d100 ⟨b100, [], []⟩ (ciE Tryz.prog (inlC [100, 101, 102]) cp (ciE Tryz.prog (inlC [100, 101, 102]) cp noI fu 102 d102 ⟨b102, [], []⟩ noI) fu 101 d101 ⟨b101, [], []⟩ (ciE Tryz.prog (inlC [100, 101, 102]) cp noI fu 102 d102 ⟨b102, [], []⟩ noI))) 0 [] d49 fu (fin Tryz.prog [.cell 6 27, .tmp 7] [27, 30]) (bodyOf Tryz.f49) (initE 0 [.agg (c_T_Tensor x1), .arr x2.length (lm (ik .i64) x2), .arr x3.length (lm (ik .i64) x3)]) [] []) (tens_Pick fu x1 x2 x3) e49 := by
 unfold tens_Pick e49
 have da := d49_at
 conv => arg 1; simp (disch := first | exact Zd | fail) only [bodyOf, Tryz.f49, ZZ, d49_at, simprocAttr, RI, RIk, initE]
 refine J.eq go_seq ?_
 refine J.bind fun x4 h1 => ?_
 have e_h1 := H18_0 _ _ h1
 try simp only [NN, NT, LN, simprocAttr, DT] at e_h1
 conv => arg 1; simp (disch := first | exact Zd | fail) only [ZZ, d49_at, simprocAttr, RI, RIk, initE, e_h1]
 refine J.ite (fun h2 => ?_) (fun h2 => ?_)
 ·have h2' := decide_eq_true h2
  conv => arg 1; simp (disch := first | exact Zd | fail) only [ZZ, d49_at, simprocAttr, RI, RIk, initE, e_h1, h2']
  refine J.eq ret_seq ?_
  refine J.bind fun x5 h3 => ?_
  have e_h3 := H98_0 _ _ _ h3
  try simp only [NN, NT, LN, simprocAttr, DT] at e_h3
  conv => arg 1; simp (disch := first | exact Zd | fail) only [ZZ, d49_at, simprocAttr, RI, RIk, initE, e_h1, h2', e_h3]
  refine J.eq go_seq ?_
  conv => arg 1; simp (disch := first | exact Zd | fail) only [ZZ, d49_at, simprocAttr, RI, RIk, initE, e_h1, h2', e_h3]
  refine J.ite (fun h4 => ?_) (fun h4 => ?_)
  ·have h4' := decide_eq_true h4
   conv => arg 1; simp (disch := first | exact Zd | fail) only [ZZ, d49_at, simprocAttr, RI, RIk, initE, e_h1, h2', e_h3, h4']
   refine J.eq ret_seq ?_
   conv => arg 1; simp (disch := first | exact Zd | fail) only [ZZ, d49_at, simprocAttr, RI, RIk, initE, e_h1, h2', e_h3, h4']
   refine J.eq go_seq ?_
   conv => arg 1; simp (disch := first | exact Zd | fail) only [ZZ, d49_at, simprocAttr, RI, RIk, initE, e_h1, h2', e_h3, h4']
   refine J.ite (fun h5 => ?_) (fun h5 => ?_)
   ·have h5' := decide_eq_true h5
    conv => arg 1; simp (disch := first | exact Zd | fail) only [ZZ, d49_at, simprocAttr, RI, RIk, initE, e_h1, h2', e_h3, h4', h5']
    refine J.eq ret_seq ?_
    refine J.eq go_seq ?_
    refine J.bind fun x6 h6 => ?_
    have e_h6 := H58_0 _ _ _ h6
    try simp only [NN, NT, LN, simprocAttr, DT] at e_h6
    conv => arg 1; simp (disch := first | exact Zd | fail) only [ZZ, d49_at, simprocAttr, RI, RIk, initE, e_h1, h2', e_h3, h4', h5', e_h6]
    refine J.ite (fun h7 => ?_) (fun h7 => ?_)
    ·have h7' : x6 = true := h7
     refine J.some ?_
     simp (maxSteps := 20000000) (disch := first | exact Zd | fail) only [ZZ, d49_at, simprocAttr, RI, RIk, initE, e_h1, h2', e_h3, h4', h5', e_h6, h7', FN]
    ·have h7' : x6 = false := Bool.eq_false_iff.2 h7
     conv => arg 1; simp (disch := first | exact Zd | fail) only [ZZ, d49_at, simprocAttr, RI, RIk, initE, e_h1, h2', e_h3, h4', h5', e_h6, h7']
     refine J.eq ret_seq ?_
     conv => arg 1; simp (disch := first | exact Zd | fail) only [ZZ, d49_at, simprocAttr, bodyOf, Tryz.f100, d100_at, RI, RIk, initE, e_h1, h2', e_h3, h4', h5', e_h6, h7']
     refine J.callK (fun (t : List Int) => (.tuple [], [((0, 3, 0), .bx true ([.v (.int .i64 x1.fType), .arr x1.fDims.length (lm (ik .i64) x1.fDims), .arr x1.fF.length (lm (ik .u32) x1.fF), .arr x1.fI.length (lm (ik .i64) x1.fI), .arr x1.fB.length (lm (bk) x1.fB)])), ((0, 6, 0), .bx true ([.v (.int .i64 0), .v (.slice none 0 0), .v (.slice none 0 0), .v (.slice none 0 0), .v (.slice none 0 0)])), ((0, 22, 0), .sl true true 1 x5.1.fDims.length (lm (ik .i64) x5.1.fDims)), ((0, 22, 1), .sl true true 1 x5.1.fF.length (lm (ik .u32) t)), ((0, 22, 2), .sl true true 1 x5.1.fI.length (lm (ik .i64) x5.1.fI)), ((0, 22, 3), .sl true true 1 x5.1.fB.length (lm (bk) x5.1.fB)), ((0, 9, 0), .bx true ([.v (.int .i64 x5.1.fType), .own (0, 22, 0) 0 x5.1.fDims.length x5.1.fDims.length, .own (0, 22, 1) 0 x5.1.fF.length x5.1.fF.length, .own (0, 22, 2) 0 x5.1.fI.length x5.1.fI.length, .own (0, 22, 3) 0 x5.1.fB.length x5.1.fB.length]))])) (fun t => tens_Pick.c1 fu x1 x3 x5 t) ?_ (fun hj1 => ?_)
     ·rintro x7
      show J _ (tens_Pick.c1 fu x1 x3 x5 x7) _
      unfold tens_Pick.c1
      refine J.chk fun h8 => ?_
      conv => arg 1; simp (disch := first | exact Zd | fail) only [ZZ, d49_at, simprocAttr, go_b100, bodyOf, Tryz.f100, d100_at, bodyOf, Tryz.f101, d101_at, RI, RIk, initE, e_h1, h2', e_h3, h4', h5', e_h6, h7', h8]
      refine J.callK (fun (t : List Int) => (.tuple [], [((0, 3, 0), .bx true ([.v (.int .i64 x1.fType), .arr x1.fDims.length (lm (ik .i64) x1.fDims), .arr x1.fF.length (lm (ik .u32) x1.fF), .arr x1.fI.length (lm (ik .i64) x1.fI), .arr x1.fB.length (lm (bk) x1.fB)])), ((0, 6, 0), .bx true ([.v (.int .i64 0), .v (.slice none 0 0), .v (.slice none 0 0), .v (.slice none 0 0), .v (.slice none 0 0)])), ((0, 22, 0), .sl true true 1 x5.1.fDims.length (lm (ik .i64) x5.1.fDims)), ((0, 22, 1), .sl true true 1 x7.length (lm (ik .u32) x7)), ((0, 22, 2), .sl true true 1 x5.1.fI.length (lm (ik .i64) t)), ((0, 22, 3), .sl true true 1 x5.1.fB.length (lm (bk) x5.1.fB)), ((0, 9, 0), .bx true ([.v (.int .i64 x5.1.fType), .own (0, 22, 0) 0 x5.1.fDims.length x5.1.fDims.length, .own (0, 22, 1) 0 x7.length x7.length, .own (0, 22, 2) 0 x5.1.fI.length x5.1.fI.length, .own (0, 22, 3) 0 x5.1.fB.length x5.1.fB.length]))])) (fun t => tens_Pick.c2 fu x1 x3 x5 x7 t) ?_ (fun hj2 => ?_)
      ·rintro x8
       show J _ (tens_Pick.c2 fu x1 x3 x5 x7 x8) _
       unfold tens_Pick.c2
       refine J.chk fun h9 => ?_
       conv => arg 1; simp (disch := first | exact Zd | fail) only [ZZ, d49_at, simprocAttr, go_b100, bodyOf, Tryz.f100, d100_at, go_b101, bodyOf, Tryz.f101, d101_at, bodyOf, Tryz.f102, d102_at, RI, RIk, initE, e_h1, h2', e_h3, h4', h5', e_h6, h7', h8, h9]
       refine J.callK (fun (t : List Bool) => (.tuple [], [((0, 3, 0), .bx true ([.v (.int .i64 x1.fType), .arr x1.fDims.length (lm (ik .i64) x1.fDims), .arr x1.fF.length (lm (ik .u32) x1.fF), .arr x1.fI.length (lm (ik .i64) x1.fI), .arr x1.fB.length (lm (bk) x1.fB)])), ((0, 6, 0), .bx true ([.v (.int .i64 0), .v (.slice none 0 0), .v (.slice none 0 0), .v (.slice none 0 0), .v (.slice none 0 0)])), ((0, 22, 0), .sl true true 1 x5.1.fDims.length (lm (ik .i64) x5.1.fDims)), ((0, 22, 1), .sl true true 1 x7.length (lm (ik .u32) x7)), ((0, 22, 2), .sl true true 1 x8.length (lm (ik .i64) x8)), ((0, 22, 3), .sl true true 1 x5.1.fB.length (lm (bk) t)), ((0, 9, 0), .bx true ([.v (.int .i64 x5.1.fType), .own (0, 22, 0) 0 x5.1.fDims.length x5.1.fDims.length, .own (0, 22, 1) 0 x7.length x7.length, .own (0, 22, 2) 0 x8.length x8.length, .own (0, 22, 3) 0 x5.1.fB.length x5.1.fB.length]))])) (fun t => tens_Pick.c3 fu x5 x7 x8 t) ?_ (fun hj3 => ?_)
       ·rintro x9
        show J _ (tens_Pick.c3 fu x5 x7 x8 x9) _
        unfold tens_Pick.c3
        refine J.chk fun h10 => ?_
        refine J.some ?_
        simp (maxSteps := 20000000) (disch := first | exact Zd | fail) only [ZZ, d49_at, simprocAttr, go_b100, bodyOf, Tryz.f100, d100_at, go_b101, bodyOf, Tryz.f101, d101_at, go_b102, bodyOf, Tryz.f102, d102_at, RI, RIk, initE, e_h1, h2', e_h3, h4', h5', e_h6, h7', h8, h9, h10, FN]
       ·refine J.hd jc_at ?_
        refine J.eq go_b102 ?_
        conv => arg 1; simp (disch := first | exact Zd | fail) only [ZZ, d49_at, simprocAttr, go_b100, bodyOf, Tryz.f100, d100_at, go_b101, bodyOf, Tryz.f101, d101_at, go_b102, bodyOf, Tryz.f102, d102_at, RI, initE, e_h1, h2', e_h3, h4', h5', e_h6, h7', h8, h9]
        refine J.eq go_seq ?_
        conv => arg 1; simp (disch := first | exact Zd | fail) only [ZZ, d49_at, simprocAttr, go_b100, bodyOf, Tryz.f100, d100_at, go_b101, bodyOf, Tryz.f101, d101_at, go_b102, bodyOf, Tryz.f102, d102_at, RI, initE, e_h1, h2', e_h3, h4', h5', e_h6, h7', h8, h9]
        refine J.ite (fun h11 => ?_) (fun h11 => ?_)
        ·have h11' := decide_eq_true h11
         conv => arg 1; simp (disch := first | exact Zd | fail) only [ZZ, d49_at, simprocAttr, go_b100, bodyOf, Tryz.f100, d100_at, go_b101, bodyOf, Tryz.f101, d101_at, go_b102, bodyOf, Tryz.f102, d102_at, RI, initE, e_h1, h2', e_h3, h4', h5', e_h6, h7', h8, h9, h11']
         refine J.kret (t := x5.1.fB) hj3 ?_
         simp (disch := first | exact Zd | fail) only [ZZ, d49_at, simprocAttr, go_b100, bodyOf, Tryz.f100, d100_at, go_b101, bodyOf, Tryz.f101, d101_at, go_b102, bodyOf, Tryz.f102, d102_at, RI, initE, e_h1, h2', e_h3, h4', h5', e_h6, h7', h8, h9, h11', kinV_at, kinVB_at, LN, NN, NT]
        ·have h11' := decide_eq_false h11
         conv => arg 1; simp (disch := first | exact Zd | fail) only [ZZ, d49_at, simprocAttr, go_b100, bodyOf, Tryz.f100, d100_at, go_b101, bodyOf, Tryz.f101, d101_at, go_b102, bodyOf, Tryz.f102, d102_at, RI, initE, e_h1, h2', e_h3, h4', h5', e_h6, h7', h8, h9, h11']
         refine J.eq ret_seq ?_
         conv => arg 1; simp (disch := first | exact Zd | fail) only [ZZ, d49_at, simprocAttr, go_b100, bodyOf, Tryz.f100, d100_at, go_b101, bodyOf, Tryz.f101, d101_at, go_b102, bodyOf, Tryz.f102, d102_at, RI, initE, e_h1, h2', e_h3, h4', h5', e_h6, h7', h8, h9, h11']
         unfold tens_Pick.W1
         refine J.loop (fun (s : (List Bool) × Int) => ([(0, .own (0, 22, 3) 0 x5.1.fB.length x5.1.fB.length), (1, .arr x1.fB.length (lm (bk) x1.fB)), (11, .arr x3.length (lm (ik .i64) x3)), (12, .v (.int .i64 (x3.length : Int))), (13, .v (.int .i64 s.2))], [((0, 3, 0), .bx true ([.v (.int .i64 x1.fType), .arr x1.fDims.length (lm (ik .i64) x1.fDims), .arr x1.fF.length (lm (ik .u32) x1.fF), .arr x1.fI.length (lm (ik .i64) x1.fI), .arr x1.fB.length (lm (bk) x1.fB)])), ((0, 6, 0), .bx true ([.v (.int .i64 0), .v (.slice none 0 0), .v (.slice none 0 0), .v (.slice none 0 0), .v (.slice none 0 0)])), ((0, 22, 0), .sl true true 1 x5.1.fDims.length (lm (ik .i64) x5.1.fDims)), ((0, 22, 1), .sl true true 1 x7.length (lm (ik .u32) x7)), ((0, 22, 2), .sl true true 1 x8.length (lm (ik .i64) x8)), ((0, 22, 3), .sl true true 1 x5.1.fB.length (lm (bk) s.1)), ((0, 9, 0), .bx true ([.v (.int .i64 x5.1.fType), .own (0, 22, 0) 0 x5.1.fDims.length x5.1.fDims.length, .own (0, 22, 1) 0 x7.length x7.length, .own (0, 22, 2) 0 x8.length x8.length, .own (0, 22, 3) 0 x5.1.fB.length x5.1.fB.length]))])) (fun next s => tens_Pick.L1 fu x1 x3 x5 x7 x8 (fun x12 x13 => next (x12, x13)) s.1 s.2) (s0 := (x5.1.fB, 0)) ?_ ?_ ?_
         ·exact Ze
         ·exact Zh
         rintro next k1 hn1 ⟨x12, x13⟩
         let nx1 : (List Bool) → Int → Option (T_Tensor × Int) := (fun x12 x13 => next (x12, x13))
         show J _ (tens_Pick.L1 fu x1 x3 x5 x7 x8 nx1 x12 x13) _
         unfold tens_Pick.L1
         conv => arg 1; simp (disch := first | exact Zd | fail) only [ZZ, d49_at, simprocAttr, go_b100, bodyOf, Tryz.f100, d100_at, go_b101, bodyOf, Tryz.f101, d101_at, go_b102, bodyOf, Tryz.f102, d102_at, RI, initE, e_h1, h2', e_h3, h4', h5', e_h6, h7', h8, h9, h11']
         refine J.eq go_seq ?_
         conv => arg 1; simp (disch := first | exact Zd | fail) only [ZZ, d49_at, simprocAttr, go_b100, bodyOf, Tryz.f100, d100_at, go_b101, bodyOf, Tryz.f101, d101_at, go_b102, bodyOf, Tryz.f102, d102_at, RI, initE, e_h1, h2', e_h3, h4', h5', e_h6, h7', h8, h9, h11']
         refine J.ite (fun h12 => ?_) (fun h12 => ?_)
         ·have h12' := decide_eq_true h12
          have h12'' : decide ((x3.length : Int) ≤ x13) = false := decide_eq_false (by omega)
          conv => arg 1; simp (disch := first | exact Zd | fail) only [ZZ, d49_at, simprocAttr, go_b100, bodyOf, Tryz.f100, d100_at, go_b101, bodyOf, Tryz.f101, d101_at, go_b102, bodyOf, Tryz.f102, d102_at, RI, initE, e_h1, h2', e_h3, h4', h5', e_h6, h7', h8, h9, h11', h12'', h12']
          refine J.eq ret_seq ?_
          refine J.eq go_seq ?_
          refine J.at fun x16 h13 h14 h15 => ?_
          conv => arg 1; simp (disch := first | exact Zd | fail) only [ZZ, d49_at, simprocAttr, go_b100, bodyOf, Tryz.f100, d100_at, go_b101, bodyOf, Tryz.f101, d101_at, go_b102, bodyOf, Tryz.f102, d102_at, RI, initE, e_h1, h2', e_h3, h4', h5', e_h6, h7', h8, h9, h11', h12'', h12', lm_ik h15]
          refine J.ite (fun h16 => ?_) (fun h16 => ?_)
          ·have h16' := decide_eq_true h16
           have h16'' : decide (x16 < 0) = false := decide_eq_false (by omega)
           refine J.at fun x17 h17 h18 h19 => ?_
           refine J.chk fun h20 => ?_
           refine J.chk fun h21 => ?_
           conv => arg 1; simp (disch := first | exact Zd | fail) only [ZZ, d49_at, simprocAttr, go_b100, bodyOf, Tryz.f100, d100_at, go_b101, bodyOf, Tryz.f101, d101_at, go_b102, bodyOf, Tryz.f102, d102_at, RI, initE, e_h1, h2', e_h3, h4', h5', e_h6, h7', h8, h9, h11', h12'', h12', lm_ik h15, h16'', h16', lm_bk h19]
           refine J.eq ret_seq ?_
           conv => arg 1; simp (disch := first | exact Zd | fail) only [ZZ, d49_at, simprocAttr, go_b100, bodyOf, Tryz.f100, d100_at, go_b101, bodyOf, Tryz.f101, d101_at, go_b102, bodyOf, Tryz.f102, d102_at, RI, initE, e_h1, h2', e_h3, h4', h5', e_h6, h7', h8, h9, h11', h12'', h12', lm_ik h15, h16'', h16', lm_bk h19]
           refine J.next (s := (x12.set x13.toNat x17, wk .i64 (x13 + 1))) hn1 ?_ ?_
           ·exact Ze
           ·exact Zh
          ·have h16' := decide_eq_false h16
           have h16'' : decide (x16 < 0) = true := decide_eq_true (by omega)
           conv => arg 1; simp (disch := first | exact Zd | fail) only [ZZ, d49_at, simprocAttr, go_b100, bodyOf, Tryz.f100, d100_at, go_b101, bodyOf, Tryz.f101, d101_at, go_b102, bodyOf, Tryz.f102, d102_at, RI, initE, e_h1, h2', e_h3, h4', h5', e_h6, h7', h8, h9, h11', h12'', h12', lm_ik h15, h16'', h16']
           refine J.eq ret_seq ?_
           conv => arg 1; simp (disch := first | exact Zd | fail) only [ZZ, d49_at, simprocAttr, go_b100, bodyOf, Tryz.f100, d100_at, go_b101, bodyOf, Tryz.f101, d101_at, go_b102, bodyOf, Tryz.f102, d102_at, RI, initE, e_h1, h2', e_h3, h4', h5', e_h6, h7', h8, h9, h11', h12'', h12', lm_ik h15, h16'', h16']
           refine J.next (s := (x12, wk .i64 (x13 + 1))) hn1 ?_ ?_
           ·exact Ze
           ·exact Zh
         ·have h12' := decide_eq_false h12
          have h12'' : decide ((x3.length : Int) ≤ x13) = true := decide_eq_true (by omega)
          conv => arg 1; simp (disch := first | exact Zd | fail) only [ZZ, d49_at, simprocAttr, go_b100, bodyOf, Tryz.f100, d100_at, go_b101, bodyOf, Tryz.f101, d101_at, go_b102, bodyOf, Tryz.f102, d102_at, RI, initE, e_h1, h2', e_h3, h4', h5', e_h6, h7', h8, h9, h11', h12'', h12']
          refine J.knormal (t := x12) hj3 ?_
          simp (disch := first | exact Zd | fail) only [ZZ, d49_at, simprocAttr, go_b100, bodyOf, Tryz.f100, d100_at, go_b101, bodyOf, Tryz.f101, d101_at, go_b102, bodyOf, Tryz.f102, d102_at, RI, initE, e_h1, h2', e_h3, h4', h5', e_h6, h7', h8, h9, h11', h12'', h12', kinV_at, kinVB_at, LN, NN, NT]
      ·refine J.hd jc_at ?_
       refine J.eq go_b101 ?_
       conv => arg 1; simp (disch := first | exact Zd | fail) only [ZZ, d49_at, simprocAttr, go_b100, bodyOf, Tryz.f100, d100_at, go_b101, bodyOf, Tryz.f101, d101_at, go_b102, bodyOf, Tryz.f102, d102_at, RI, initE, e_h1, h2', e_h3, h4', h5', e_h6, h7', h8]
       refine J.eq go_seq ?_
       conv => arg 1; simp (disch := first | exact Zd | fail) only [ZZ, d49_at, simprocAttr, go_b100, bodyOf, Tryz.f100, d100_at, go_b101, bodyOf, Tryz.f101, d101_at, go_b102, bodyOf, Tryz.f102, d102_at, RI, initE, e_h1, h2', e_h3, h4', h5', e_h6, h7', h8]
       refine J.ite (fun h22 => ?_) (fun h22 => ?_)
       ·have h22' := decide_eq_true h22
        conv => arg 1; simp (disch := first | exact Zd | fail) only [ZZ, d49_at, simprocAttr, go_b100, bodyOf, Tryz.f100, d100_at, go_b101, bodyOf, Tryz.f101, d101_at, go_b102, bodyOf, Tryz.f102, d102_at, RI, initE, e_h1, h2', e_h3, h4', h5', e_h6, h7', h8, h22']
        refine J.kret (t := x5.1.fI) hj2 ?_
        simp (disch := first | exact Zd | fail) only [ZZ, d49_at, simprocAttr, go_b100, bodyOf, Tryz.f100, d100_at, go_b101, bodyOf, Tryz.f101, d101_at, go_b102, bodyOf, Tryz.f102, d102_at, RI, initE, e_h1, h2', e_h3, h4', h5', e_h6, h7', h8, h22', kinV_at, kinVB_at, LN, NN, NT]
       ·have h22' := decide_eq_false h22
        conv => arg 1; simp (disch := first | exact Zd | fail) only [ZZ, d49_at, simprocAttr, go_b100, bodyOf, Tryz.f100, d100_at, go_b101, bodyOf, Tryz.f101, d101_at, go_b102, bodyOf, Tryz.f102, d102_at, RI, initE, e_h1, h2', e_h3, h4', h5', e_h6, h7', h8, h22']
        refine J.eq ret_seq ?_
        conv => arg 1; simp (disch := first | exact Zd | fail) only [ZZ, d49_at, simprocAttr, go_b100, bodyOf, Tryz.f100, d100_at, go_b101, bodyOf, Tryz.f101, d101_at, go_b102, bodyOf, Tryz.f102, d102_at, RI, initE, e_h1, h2', e_h3, h4', h5', e_h6, h7', h8, h22']
        unfold tens_Pick.W2
        refine J.loop (fun (s : (List Int) × Int) => ([(0, .own (0, 22, 2) 0 x5.1.fI.length x5.1.fI.length), (1, .arr x1.fI.length (lm (ik .i64) x1.fI)), (11, .arr x3.length (lm (ik .i64) x3)), (12, .v (.int .i64 (x3.length : Int))), (13, .v (.int .i64 s.2))], [((0, 3, 0), .bx true ([.v (.int .i64 x1.fType), .arr x1.fDims.length (lm (ik .i64) x1.fDims), .arr x1.fF.length (lm (ik .u32) x1.fF), .arr x1.fI.length (lm (ik .i64) x1.fI), .arr x1.fB.length (lm (bk) x1.fB)])), ((0, 6, 0), .bx true ([.v (.int .i64 0), .v (.slice none 0 0), .v (.slice none 0 0), .v (.slice none 0 0), .v (.slice none 0 0)])), ((0, 22, 0), .sl true true 1 x5.1.fDims.length (lm (ik .i64) x5.1.fDims)), ((0, 22, 1), .sl true true 1 x7.length (lm (ik .u32) x7)), ((0, 22, 2), .sl true true 1 x5.1.fI.length (lm (ik .i64) s.1)), ((0, 22, 3), .sl true true 1 x5.1.fB.length (lm (bk) x5.1.fB)), ((0, 9, 0), .bx true ([.v (.int .i64 x5.1.fType), .own (0, 22, 0) 0 x5.1.fDims.length x5.1.fDims.length, .own (0, 22, 1) 0 x7.length x7.length, .own (0, 22, 2) 0 x5.1.fI.length x5.1.fI.length, .own (0, 22, 3) 0 x5.1.fB.length x5.1.fB.length]))])) (fun next s => tens_Pick.L2 fu x1 x3 x5 x7 (fun x20 x21 => next (x20, x21)) s.1 s.2) (s0 := (x5.1.fI, 0)) ?_ ?_ ?_
        ·exact Ze
        ·exact Zh
        rintro next k2 hn2 ⟨x20, x21⟩
        let nx2 : (List Int) → Int → Option (T_Tensor × Int) := (fun x20 x21 => next (x20, x21))
        show J _ (tens_Pick.L2 fu x1 x3 x5 x7 nx2 x20 x21) _
        unfold tens_Pick.L2
        conv => arg 1; simp (disch := first | exact Zd | fail) only [ZZ, d49_at, simprocAttr, go_b100, bodyOf, Tryz.f100, d100_at, go_b101, bodyOf, Tryz.f101, d101_at, go_b102, bodyOf, Tryz.f102, d102_at, RI, initE, e_h1, h2', e_h3, h4', h5', e_h6, h7', h8, h22']
        refine J.eq go_seq ?_
        conv => arg 1; simp (disch := first | exact Zd | fail) only [ZZ, d49_at, simprocAttr, go_b100, bodyOf, Tryz.f100, d100_at, go_b101, bodyOf, Tryz.f101, d101_at, go_b102, bodyOf, Tryz.f102, d102_at, RI, initE, e_h1, h2', e_h3, h4', h5', e_h6, h7', h8, h22']
        refine J.ite (fun h23 => ?_) (fun h23 => ?_)
        ·have h23' := decide_eq_true h23
         have h23'' : decide ((x3.length : Int) ≤ x21) = false := decide_eq_false (by omega)
         conv => arg 1; simp (disch := first | exact Zd | fail) only [ZZ, d49_at, simprocAttr, go_b100, bodyOf, Tryz.f100, d100_at, go_b101, bodyOf, Tryz.f101, d101_at, go_b102, bodyOf, Tryz.f102, d102_at, RI, initE, e_h1, h2', e_h3, h4', h5', e_h6, h7', h8, h22', h23'', h23']
         refine J.eq ret_seq ?_
         refine J.eq go_seq ?_
         refine J.at fun x24 h24 h25 h26 => ?_
         conv => arg 1; simp (disch := first | exact Zd | fail) only [ZZ, d49_at, simprocAttr, go_b100, bodyOf, Tryz.f100, d100_at, go_b101, bodyOf, Tryz.f101, d101_at, go_b102, bodyOf, Tryz.f102, d102_at, RI, initE, e_h1, h2', e_h3, h4', h5', e_h6, h7', h8, h22', h23'', h23', lm_ik h26]
         refine J.ite (fun h27 => ?_) (fun h27 => ?_)
         ·have h27' := decide_eq_true h27
          have h27'' : decide (x24 < 0) = false := decide_eq_false (by omega)
          refine J.at fun x25 h28 h29 h30 => ?_
          refine J.chk fun h31 => ?_
          refine J.chk fun h32 => ?_
          conv => arg 1; simp (disch := first | exact Zd | fail) only [ZZ, d49_at, simprocAttr, go_b100, bodyOf, Tryz.f100, d100_at, go_b101, bodyOf, Tryz.f101, d101_at, go_b102, bodyOf, Tryz.f102, d102_at, RI, initE, e_h1, h2', e_h3, h4', h5', e_h6, h7', h8, h22', h23'', h23', lm_ik h26, h27'', h27', lm_ik h30]
          refine J.eq ret_seq ?_
          conv => arg 1; simp (disch := first | exact Zd | fail) only [ZZ, d49_at, simprocAttr, go_b100, bodyOf, Tryz.f100, d100_at, go_b101, bodyOf, Tryz.f101, d101_at, go_b102, bodyOf, Tryz.f102, d102_at, RI, initE, e_h1, h2', e_h3, h4', h5', e_h6, h7', h8, h22', h23'', h23', lm_ik h26, h27'', h27', lm_ik h30]
          refine J.next (s := (x20.set x21.toNat x25, wk .i64 (x21 + 1))) hn2 ?_ ?_
          ·exact Ze
          ·exact Zh
         ·have h27' := decide_eq_false h27
          have h27'' : decide (x24 < 0) = true := decide_eq_true (by omega)
          conv => arg 1; simp (disch := first | exact Zd | fail) only [ZZ, d49_at, simprocAttr, go_b100, bodyOf, Tryz.f100, d100_at, go_b101, bodyOf, Tryz.f101, d101_at, go_b102, bodyOf, Tryz.f102, d102_at, RI, initE, e_h1, h2', e_h3, h4', h5', e_h6, h7', h8, h22', h23'', h23', lm_ik h26, h27'', h27']
          refine J.eq ret_seq ?_
          conv => arg 1; simp (disch := first | exact Zd | fail) only [ZZ, d49_at, simprocAttr, go_b100, bodyOf, Tryz.f100, d100_at, go_b101, bodyOf, Tryz.f101, d101_at, go_b102, bodyOf, Tryz.f102, d102_at, RI, initE, e_h1, h2', e_h3, h4', h5', e_h6, h7', h8, h22', h23'', h23', lm_ik h26, h27'', h27']
          refine J.next (s := (x20, wk .i64 (x21 + 1))) hn2 ?_ ?_
          ·exact Ze
          ·exact Zh
        ·have h23' := decide_eq_false h23
         have h23'' : decide ((x3.length : Int) ≤ x21) = true := decide_eq_true (by omega)
         conv => arg 1; simp (disch := first | exact Zd | fail) only [ZZ, d49_at, simprocAttr, go_b100, bodyOf, Tryz.f100, d100_at, go_b101, bodyOf, Tryz.f101, d101_at, go_b102, bodyOf, Tryz.f102, d102_at, RI, initE, e_h1, h2', e_h3, h4', h5', e_h6, h7', h8, h22', h23'', h23']
         refine J.knormal (t := x20) hj2 ?_
         simp (disch := first | exact Zd | fail) only [ZZ, d49_at, simprocAttr, go_b100, bodyOf, Tryz.f100, d100_at, go_b101, bodyOf, Tryz.f101, d101_at, go_b102, bodyOf, Tryz.f102, d102_at, RI, initE, e_h1, h2', e_h3, h4', h5', e_h6, h7', h8, h22', h23'', h23', kinV_at, kinVB_at, LN, NN, NT]
     ·refine J.hd jc_at ?_
      refine J.eq go_b100 ?_
      conv => arg 1; simp (disch := first | exact Zd | fail) only [ZZ, d49_at, simprocAttr, go_b100, bodyOf, Tryz.f100, d100_at, go_b101, bodyOf, Tryz.f101, d101_at, go_b102, bodyOf, Tryz.f102, d102_at, RI, initE, e_h1, h2', e_h3, h4', h5', e_h6, h7']
      refine J.eq go_seq ?_
      conv => arg 1; simp (disch := first | exact Zd | fail) only [ZZ, d49_at, simprocAttr, go_b100, bodyOf, Tryz.f100, d100_at, go_b101, bodyOf, Tryz.f101, d101_at, go_b102, bodyOf, Tryz.f102, d102_at, RI, initE, e_h1, h2', e_h3, h4', h5', e_h6, h7']
      refine J.ite (fun h33 => ?_) (fun h33 => ?_)
      ·have h33' := decide_eq_true h33
       conv => arg 1; simp (disch := first | exact Zd | fail) only [ZZ, d49_at, simprocAttr, go_b100, bodyOf, Tryz.f100, d100_at, go_b101, bodyOf, Tryz.f101, d101_at, go_b102, bodyOf, Tryz.f102, d102_at, RI, initE, e_h1, h2', e_h3, h4', h5', e_h6, h7', h33']
       refine J.kret (t := x5.1.fF) hj1 ?_
       simp (disch := first | exact Zd | fail) only [ZZ, d49_at, simprocAttr, go_b100, bodyOf, Tryz.f100, d100_at, go_b101, bodyOf, Tryz.f101, d101_at, go_b102, bodyOf, Tryz.f102, d102_at, RI, initE, e_h1, h2', e_h3, h4', h5', e_h6, h7', h33', kinV_at, kinVB_at, LN, NN, NT]
      ·have h33' := decide_eq_false h33
       conv => arg 1; simp (disch := first | exact Zd | fail) only [ZZ, d49_at, simprocAttr, go_b100, bodyOf, Tryz.f100, d100_at, go_b101, bodyOf, Tryz.f101, d101_at, go_b102, bodyOf, Tryz.f102, d102_at, RI, initE, e_h1, h2', e_h3, h4', h5', e_h6, h7', h33']
       refine J.eq ret_seq ?_
       conv => arg 1; simp (disch := first | exact Zd | fail) only [ZZ, d49_at, simprocAttr, go_b100, bodyOf, Tryz.f100, d100_at, go_b101, bodyOf, Tryz.f101, d101_at, go_b102, bodyOf, Tryz.f102, d102_at, RI, initE, e_h1, h2', e_h3, h4', h5', e_h6, h7', h33']
       unfold tens_Pick.W3
       refine J.loop (fun (s : (List Int) × Int) => ([(0, .own (0, 22, 1) 0 x5.1.fF.length x5.1.fF.length), (1, .arr x1.fF.length (lm (ik .u32) x1.fF)), (11, .arr x3.length (lm (ik .i64) x3)), (12, .v (.int .i64 (x3.length : Int))), (13, .v (.int .i64 s.2))], [((0, 3, 0), .bx true ([.v (.int .i64 x1.fType), .arr x1.fDims.length (lm (ik .i64) x1.fDims), .arr x1.fF.length (lm (ik .u32) x1.fF), .arr x1.fI.length (lm (ik .i64) x1.fI), .arr x1.fB.length (lm (bk) x1.fB)])), ((0, 6, 0), .bx true ([.v (.int .i64 0), .v (.slice none 0 0), .v (.slice none 0 0), .v (.slice none 0 0), .v (.slice none 0 0)])), ((0, 22, 0), .sl true true 1 x5.1.fDims.length (lm (ik .i64) x5.1.fDims)), ((0, 22, 1), .sl true true 1 x5.1.fF.length (lm (ik .u32) s.1)), ((0, 22, 2), .sl true true 1 x5.1.fI.length (lm (ik .i64) x5.1.fI)), ((0, 22, 3), .sl true true 1 x5.1.fB.length (lm (bk) x5.1.fB)), ((0, 9, 0), .bx true ([.v (.int .i64 x5.1.fType), .own (0, 22, 0) 0 x5.1.fDims.length x5.1.fDims.length, .own (0, 22, 1) 0 x5.1.fF.length x5.1.fF.length, .own (0, 22, 2) 0 x5.1.fI.length x5.1.fI.length, .own (0, 22, 3) 0 x5.1.fB.length x5.1.fB.length]))])) (fun next s => tens_Pick.L3 fu x1 x3 x5 (fun x28 x29 => next (x28, x29)) s.1 s.2) (s0 := (x5.1.fF, 0)) ?_ ?_ ?_
       ·exact Ze
       ·exact Zh
       rintro next k3 hn3 ⟨x28, x29⟩
       let nx3 : (List Int) → Int → Option (T_Tensor × Int) := (fun x28 x29 => next (x28, x29))
       show J _ (tens_Pick.L3 fu x1 x3 x5 nx3 x28 x29) _
       unfold tens_Pick.L3
       conv => arg 1; simp (disch := first | exact Zd | fail) only [ZZ, d49_at, simprocAttr, go_b100, bodyOf, Tryz.f100, d100_at, go_b101, bodyOf, Tryz.f101, d101_at, go_b102, bodyOf, Tryz.f102, d102_at, RI, initE, e_h1, h2', e_h3, h4', h5', e_h6, h7', h33']
       refine J.eq go_seq ?_
       conv => arg 1; simp (disch := first | exact Zd | fail) only [ZZ, d49_at, simprocAttr, go_b100, bodyOf, Tryz.f100, d100_at, go_b101, bodyOf, Tryz.f101, d101_at, go_b102, bodyOf, Tryz.f102, d102_at, RI, initE, e_h1, h2', e_h3, h4', h5', e_h6, h7', h33']
       refine J.ite (fun h34 => ?_) (fun h34 => ?_)
       ·have h34' := decide_eq_true h34
        have h34'' : decide ((x3.length : Int) ≤ x29) = false := decide_eq_false (by omega)
        conv => arg 1; simp (disch := first | exact Zd | fail) only [ZZ, d49_at, simprocAttr, go_b100, bodyOf, Tryz.f100, d100_at, go_b101, bodyOf, Tryz.f101, d101_at, go_b102, bodyOf, Tryz.f102, d102_at, RI, initE, e_h1, h2', e_h3, h4', h5', e_h6, h7', h33', h34'', h34']
        refine J.eq ret_seq ?_
        refine J.eq go_seq ?_
        refine J.at fun x32 h35 h36 h37 => ?_
        conv => arg 1; simp (disch := first | exact Zd | fail) only [ZZ, d49_at, simprocAttr, go_b100, bodyOf, Tryz.f100, d100_at, go_b101, bodyOf, Tryz.f101, d101_at, go_b102, bodyOf, Tryz.f102, d102_at, RI, initE, e_h1, h2', e_h3, h4', h5', e_h6, h7', h33', h34'', h34', lm_ik h37]
        refine J.ite (fun h38 => ?_) (fun h38 => ?_)
        ·have h38' := decide_eq_true h38
         have h38'' : decide (x32 < 0) = false := decide_eq_false (by omega)
         refine J.at fun x33 h39 h40 h41 => ?_
         refine J.chk fun h42 => ?_
         refine J.chk fun h43 => ?_
         conv => arg 1; simp (disch := first | exact Zd | fail) only [ZZ, d49_at, simprocAttr, go_b100, bodyOf, Tryz.f100, d100_at, go_b101, bodyOf, Tryz.f101, d101_at, go_b102, bodyOf, Tryz.f102, d102_at, RI, initE, e_h1, h2', e_h3, h4', h5', e_h6, h7', h33', h34'', h34', lm_ik h37, h38'', h38', lm_ik h41]
         refine J.eq ret_seq ?_
         conv => arg 1; simp (disch := first | exact Zd | fail) only [ZZ, d49_at, simprocAttr, go_b100, bodyOf, Tryz.f100, d100_at, go_b101, bodyOf, Tryz.f101, d101_at, go_b102, bodyOf, Tryz.f102, d102_at, RI, initE, e_h1, h2', e_h3, h4', h5', e_h6, h7', h33', h34'', h34', lm_ik h37, h38'', h38', lm_ik h41]
         refine J.next (s := (x28.set x29.toNat x33, wk .i64 (x29 + 1))) hn3 ?_ ?_
         ·exact Ze
         ·exact Zh
        ·have h38' := decide_eq_false h38
         have h38'' : decide (x32 < 0) = true := decide_eq_true (by omega)
         conv => arg 1; simp (disch := first | exact Zd | fail) only [ZZ, d49_at, simprocAttr, go_b100, bodyOf, Tryz.f100, d100_at, go_b101, bodyOf, Tryz.f101, d101_at, go_b102, bodyOf, Tryz.f102, d102_at, RI, initE, e_h1, h2', e_h3, h4', h5', e_h6, h7', h33', h34'', h34', lm_ik h37, h38'', h38']
         refine J.eq ret_seq ?_
         conv => arg 1; simp (disch := first | exact Zd | fail) only [ZZ, d49_at, simprocAttr, go_b100, bodyOf, Tryz.f100, d100_at, go_b101, bodyOf, Tryz.f101, d101_at, go_b102, bodyOf, Tryz.f102, d102_at, RI, initE, e_h1, h2', e_h3, h4', h5', e_h6, h7', h33', h34'', h34', lm_ik h37, h38'', h38']
         refine J.next (s := (x28, wk .i64 (x29 + 1))) hn3 ?_ ?_
         ·exact Ze
         ·exact Zh
       ·have h34' := decide_eq_false h34
        have h34'' : decide ((x3.length : Int) ≤ x29) = true := decide_eq_true (by omega)
        conv => arg 1; simp (disch := first | exact Zd | fail) only [ZZ, d49_at, simprocAttr, go_b100, bodyOf, Tryz.f100, d100_at, go_b101, bodyOf, Tryz.f101, d101_at, go_b102, bodyOf, Tryz.f102, d102_at, RI, initE, e_h1, h2', e_h3, h4', h5', e_h6, h7', h33', h34'', h34']
        refine J.knormal (t := x28) hj1 ?_
        simp (disch := first | exact Zd | fail) only [ZZ, d49_at, simprocAttr, go_b100, bodyOf, Tryz.f100, d100_at, go_b101, bodyOf, Tryz.f101, d101_at, go_b102, bodyOf, Tryz.f102, d102_at, RI, initE, e_h1, h2', e_h3, h4', h5', e_h6, h7', h33', h34'', h34', kinV_at, kinVB_at, LN, NN, NT]
   ·have h5' := decide_eq_false h5
    refine J.some ?_
    simp (maxSteps := 20000000) (disch := first | exact Zd | fail) only [ZZ, d49_at, simprocAttr, go_b100, bodyOf, Tryz.f100, d100_at, go_b101, bodyOf, Tryz.f101, d101_at, go_b102, bodyOf, Tryz.f102, d102_at, RI, RIk, initE, e_h1, h2', e_h3, h4', h5', FN]
  ·have h4' := decide_eq_false h4
   refine J.some ?_
   simp (maxSteps := 20000000) (disch := first | exact Zd | fail) only [ZZ, d49_at, simprocAttr, go_b100, bodyOf, Tryz.f100, d100_at, go_b101, bodyOf, Tryz.f101, d101_at, go_b102, bodyOf, Tryz.f102, d102_at, RI, RIk, initE, e_h1, h2', e_h3, h4', FN]
 ·have h2' := decide_eq_false h2
  refine J.some ?_
  simp (maxSteps := 20000000) (disch := first | exact Zd | fail) only [ZZ, d49_at, simprocAttr, go_b100, bodyOf, Tryz.f100, d100_at, go_b101, bodyOf, Tryz.f101, d101_at, go_b102, bodyOf, Tryz.f102, d102_at, RI, RIk, initE, e_h1, h2', FN]
noncomputable def t49 (fu : Nat) : CallP := orE 18 (mkC (fun (t : T_Tensor) => ([.agg (c_T_Tensor t)] : List AV)) (fun t => tens_Check fu t) e18) (orE 98 (mkC (fun (t : Int × (List Int)) => ([.v (.int .i64 t.1), .arr t.2.length (lm (ik .i64) t.2)] : List AV)) (fun t => tens_New fu t.1 t.2) e98) (orE 58 (mkC (fun (t : (List Int) × Int) => ([.arr t.1.length (lm (ik .i64) t.1), .fn 99 [] [.ref [.v (.int .i64 t.2)] 0]] : List AV)) (fun t => slices_ContainsFunc_int fu t.1 (fun y0 => tens_Pick_1 fu y0 t.2)) e58) (noP)))
theorem t49_ok (fu : Nat) : CpOK Tryz.prog (t49 fu ) := orE_ok (orE_ok (orE_ok (noP_ok) (mkC_ok (fun t b h => ok58 fu t.1 (fun y0 => tens_Pick_1 fu y0 t.2) 99 [.ref [.v (.int .i64 t.2)] 0] (Capt.ref Capt.nil) (fun y0 r h => ok99 fu y0 t.2 r h) b h))) (mkC_ok (fun t b h => ok98 fu t.1 t.2  b h))) (mkC_ok (fun t b h => ok18 fu t  b h))
theorem ok49 (fu : Nat) (x1 : T_Tensor) (x2 : List Int) (x3 : List Int) (r) (h : tens_Pick fu x1 x2 x3 = some r) : PureOK Tryz.prog 49 [.agg (c_T_Tensor x1), .arr x2.length (lm (ik .i64) x2), .arr x3.length (lm (ik .i64) x3)] (e49 r) :=
  pure_J mixed (cp := t49 fu ) (t49_ok fu  ) (ciE_ok mixed (t49_ok fu  ) (ciE_ok mixed (t49_ok fu  ) (ciE_ok mixed (t49_ok fu  ) noI_ok i102 noI_ok) i101 (ciE_ok mixed (t49_ok fu  ) noI_ok i102 noI_ok)) i100 (ciE_ok mixed (t49_ok fu  ) (ciE_ok mixed (t49_ok fu  ) noI_ok i102 noI_ok) i101 (ciE_ok mixed (t49_ok fu  ) noI_ok i102 noI_ok))) i49 (w49 _ fu x1 x2 x3  (fun a0 r h => orE_hit (mkC_at (a := a0) (by intro a b h; first | (exact rfl) | (simp only [INJ, IJ] at h; first | exact h | (simp_all [Prod.ext_iff]) )) h)) (fun a0 a1 r h => orE_miss (by decide) (orE_hit (mkC_at (a := (a0, a1)) (by intro a b h; first | (exact rfl) | (simp only [INJ, IJ] at h; first | exact h | (simp_all [Prod.ext_iff]) )) h))) (fun a0 c1 r h => orE_miss (by decide) (orE_miss (by decide) (orE_hit (mkC_at (a := (a0, c1)) (by intro a b h; first | (exact rfl) | (simp only [INJ, IJ] at h; first | exact h | (simp_all [Prod.ext_iff]) )) h))))) h
open Aw (d86)
def d86_at := by have h := tabL Aw.d86.eq_1; simp only [AllAt, Nat.zero_add, Nat.reduceAdd] at h; exact h
noncomputable def b86 : Code := bodyOf Tryz.f86
theorem go_b86 {C : Cfg} {cp : CallP} {ci : CallI} {lvl : Nat} {prot : List Id} {D : List (Nat × List Nat)} {n : Nat} {K : KK} {e : Env} {h : Heap} {fs : List Fr} : go Tryz.prog C cp ci lvl prot D n K b86 e h fs = go Tryz.prog C cp ci lvl prot D n K (bodyOf Tryz.f86) e h fs := rfl
theorem i86 : finfo Tryz.prog 86 d86 = some ⟨b86, [], []⟩ := finfo_at Tryz.func86 rfl (by kernel_rfl) (by kernel_rfl)
open Aw (d87)
def d87_at := by have h := tabL Aw.d87.eq_1; simp only [AllAt, Nat.zero_add, Nat.reduceAdd] at h; exact h
noncomputable def b87 : Code := bodyOf Tryz.f87
theorem go_b87 {C : Cfg} {cp : CallP} {ci : CallI} {lvl : Nat} {prot : List Id} {D : List (Nat × List Nat)} {n : Nat} {K : KK} {e : Env} {h : Heap} {fs : List Fr} : go Tryz.prog C cp ci lvl prot D n K b87 e h fs = go Tryz.prog C cp ci lvl prot D n K (bodyOf Tryz.f87) e h fs := rfl
theorem i87 : finfo Tryz.prog 87 d87 = some ⟨b87, [], []⟩ := finfo_at Tryz.func87 rfl (by kernel_rfl) (by kernel_rfl)
open Aw (d42)
def d42_at := by have h := tabL Aw.d42.eq_1; simp only [AllAt, Nat.zero_add, Nat.reduceAdd] at h; exact h
theorem i42 : finfo Tryz.prog 42 d42 = some ⟨bodyOf Tryz.f42, [.cell 6 27], [27]⟩ := finfo_at Tryz.func42 rfl (by kernel_rfl) (by kernel_rfl)
def e42 : T_Tensor → AV := fun r => .agg [.v (.int .i64 r.fType), .fresh 1 r.fDims.length (lm (ik .i64) r.fDims), .fresh 1 r.fF.length (lm (ik .u32) r.fF), .fresh 1 r.fI.length (lm (ik .i64) r.fI), .fresh 1 r.fB.length (lm (bk) r.fB)]
set_option maxHeartbeats 20000000 in
theorem w42 (cp : CallP) (fu : Nat) (x1 : T_Tensor) (x2 : List Int) (p2 : (List Int) → Option Int) (fv_p2 : FuncId) (ca_p2 : List AV) (ni_p2 : (inlC [86, 87]).inl fv_p2 = false) (cap_p2 : Capt ca_p2) (hp_p2 : ∀ (y0 : List Int) r, p2 y0 = some r → cp fv_p2 ((.arr y0.length (lm (ik .i64) y0)) :: ca_p2) = some (.v (.int .i64 r))) (H61_0 : ∀ (a0 : List Int) (a1 : Int) r, slices_Contains_int fu a0 a1 = some r → cp 61 [.arr a0.length (lm (ik .i64) a0), .v (.int .i64 a1)] = some (.v (.bool r))) (H49_0 : ∀ (a0 : T_Tensor) (a1 : List Int) (a2 : List Int) r, tens_Pick fu a0 a1 a2 = some r → cp 49 [.agg (c_T_Tensor a0), .arr a1.length (lm (ik .i64) a1), .arr a2.length (lm (ik .i64) a2)] = some (.tuple [.agg [.v (.int .i64 r.1.fType), .fresh 1 r.1.fDims.length (lm (ik .i64) r.1.fDims), .fresh 1 r.1.fF.length (lm (ik .u32) r.1.fF), .fresh 1 r.1.fI.length (lm (ik .i64) r.1.fI), .fresh 1 r.1.fB.length (lm (bk) r.1.fB)], .v (.int .i64 r.2)])) : J (go Tryz.prog (inlC [86, 87]) cp (ciE Tryz.prog (inlC [86, 87]) cp (ciE Tryz.prog (inlC [86, 87]) cp noI fu 87 d87 ⟨b87, [], []⟩ noI) fu 86 d86 ⟨b86, [], []⟩ (ciE Tryz.prog (inlC [86, 87]) cp noI fu 87 d87 ⟨b87, [], []⟩ noI)) 0 [] d42 fu (fin Tryz.prog [.cell 6 27] [27]) (bodyOf Tryz.f42) (initE 0 [.agg (c_T_Tensor x1), .arr x2.length (lm (ik .i64) x2), .fn fv_p2 [] ca_p2]) [] []) (moves_picked fu x1 x2 p2) e42 := by
 unfold moves_picked e42
 have da := d42_at
 have c4_p2 := fun g => (cap_p2.1 g).1; have c3_p2 := fun g => (cap_p2.1 g).2.1; have b4_p2 := fun g => (cap_p2.1 g).2.2.1; have b3_p2 := fun g => (cap_p2.1 g).2.2.2; have nm_p2 := cap_p2.2
 conv => arg 1; simp (disch := first | exact Zd | fail) only [bodyOf, Tryz.f42, ZZ, d42_at, simprocAttr, go_b86, bodyOf, Tryz.f86, d86_at, RI, RIk, initE, c4_p2, c3_p2, b4_p2, b3_p2, nm_p2]
 refine J.eq go_seq ?_
 refine J.bind fun x3 h1 => ?_
 have e_h1 := H61_0 _ _ _ h1
 try simp only [NN, NT, LN, simprocAttr, DT] at e_h1
 conv => arg 1; simp (disch := first | exact Zd | fail) only [ZZ, d42_at, simprocAttr, go_b86, bodyOf, Tryz.f86, d86_at, RI, RIk, initE, c4_p2, c3_p2, b4_p2, b3_p2, nm_p2, e_h1]
 refine J.ite (fun h2 => ?_) (fun h2 => ?_)
 ·have h2' : x3 = true := h2
  refine J.bind fun x4 h3 => ?_
  have e_h3 := H49_0 _ _ _ _ h3
  try simp only [NN, NT, LN, simprocAttr, DT] at e_h3
  refine J.some ?_
  simp (maxSteps := 20000000) (disch := first | exact Zd | fail) only [ZZ, d42_at, simprocAttr, go_b86, bodyOf, Tryz.f86, d86_at, RI, RIk, initE, c4_p2, c3_p2, b4_p2, b3_p2, nm_p2, e_h1, h2', e_h3, FN]
 ·have h2' : x3 = false := Bool.eq_false_iff.2 h2
  conv => arg 1; simp (disch := first | exact Zd | fail) only [ZZ, d42_at, simprocAttr, go_b86, bodyOf, Tryz.f86, d86_at, RI, RIk, initE, c4_p2, c3_p2, b4_p2, b3_p2, nm_p2, e_h1, h2']
  refine J.eq ret_seq ?_
  refine J.chk fun h4 => ?_
  conv => arg 1; simp (disch := first | exact Zd | fail) only [ZZ, d42_at, simprocAttr, go_b86, bodyOf, Tryz.f86, d86_at, RI, RIk, initE, c4_p2, c3_p2, b4_p2, b3_p2, nm_p2, e_h1, h2']
  refine J.eq go_seq ?_
  conv => arg 1; simp (disch := first | exact Zd | fail) only [ZZ, d42_at, simprocAttr, go_b86, bodyOf, Tryz.f86, d86_at, RI, RIk, initE, c4_p2, c3_p2, b4_p2, b3_p2, nm_p2, e_h1, h2']
  refine J.eq ret_seq ?_
  conv => arg 1; simp (disch := first | exact Zd | fail) only [ZZ, d42_at, simprocAttr, go_b86, bodyOf, Tryz.f86, d86_at, RI, RIk, initE, c4_p2, c3_p2, b4_p2, b3_p2, nm_p2, e_h1, h2']
  unfold moves_picked.W1
  refine J.loop (fun (s : (List Int) × (List Int)) => ([(0, .arr x2.length (lm (ik .i64) x2)), (1, .fn 87 [] [.ptr (0, 7, 0) 0 0, .ptr (0, 5, 0) 0 0]), (4, .own (1, 10, 0) 0 s.2.length s.2.length)], [((0, 3, 0), .bx true ([.v (.int .i64 x1.fType), .arr x1.fDims.length (lm (ik .i64) x1.fDims), .arr x1.fF.length (lm (ik .u32) x1.fF), .arr x1.fI.length (lm (ik .i64) x1.fI), .arr x1.fB.length (lm (bk) x1.fB)])), ((0, 5, 0), .bx true ([.fn fv_p2 [] ca_p2])), ((0, 6, 0), .bx true ([.v (.int .i64 0), .v (.slice none 0 0), .v (.slice none 0 0), .v (.slice none 0 0), .v (.slice none 0 0)])), ((0, 7, 0), .bx true ([.own (0, 7, 78) 0 s.1.length s.1.length])), ((0, 7, 78), .sl true true 1 s.1.length (lm (ik .i64) s.1)), ((1, 10, 0), .sl true true 1 s.2.length (lm (ik .i64) s.2))])) (fun next s => moves_picked.L1 fu p2 x1 x2 (fun x17 x18 => next (x17, x18)) s.1 s.2) (s0 := (([] : List Int), List.replicate (x2.length : Int).toNat (0 : Int))) ?_ ?_ ?_
  ·exact Ze
  ·exact Zh
  rintro next k1 hn1 ⟨x17, x18⟩
  let nx1 : (List Int) → (List Int) → Option T_Tensor := (fun x17 x18 => next (x17, x18))
  show J _ (moves_picked.L1 fu p2 x1 x2 nx1 x17 x18) _
  unfold moves_picked.L1
  refine J.bind fun x31 h5 => ?_
  have e_h5 := hp_p2 _ _ h5
  try simp only [NN, NT, LN, simprocAttr, DT] at e_h5
  refine J.chk fun h6 => ?_
  conv => arg 1; simp (disch := first | exact Zd | fail) only [ZZ, d42_at, simprocAttr, go_b86, bodyOf, Tryz.f86, d86_at, go_b87, bodyOf, Tryz.f87, d87_at, RI, RIk, initE, c4_p2, c3_p2, b4_p2, b3_p2, nm_p2, e_h1, h2', e_h5]
  refine J.eq go_seq ?_
  conv => arg 1; simp (disch := first | exact Zd | fail) only [ZZ, d42_at, simprocAttr, go_b86, bodyOf, Tryz.f86, d86_at, go_b87, bodyOf, Tryz.f87, d87_at, RI, RIk, initE, c4_p2, c3_p2, b4_p2, b3_p2, nm_p2, e_h1, h2', e_h5]
  unfold moves_picked.W2
  refine J.loop (fun (s : (List Int) × Int) => ([(0, .arr x2.length (lm (ik .i64) x2)), (1, .fn 87 [] [.ptr (0, 7, 0) 0 0, .ptr (0, 5, 0) 0 0]), (4, .own (1, 10, 0) 0 s.1.length s.1.length), (5, .v (.int .i64 s.2))], [((0, 3, 0), .bx true ([.v (.int .i64 x1.fType), .arr x1.fDims.length (lm (ik .i64) x1.fDims), .arr x1.fF.length (lm (ik .u32) x1.fF), .arr x1.fI.length (lm (ik .i64) x1.fI), .arr x1.fB.length (lm (bk) x1.fB)])), ((0, 5, 0), .bx true ([.fn fv_p2 [] ca_p2])), ((0, 6, 0), .bx true ([.v (.int .i64 0), .v (.slice none 0 0), .v (.slice none 0 0), .v (.slice none 0 0), .v (.slice none 0 0)])), ((0, 7, 0), .bx true ([.own (0, 7, 78) 0 (x17.length + 1) (x17.length + 1)])), ((0, 7, 78), .sl true true 1 (x17.length + 1) (lm (ik .i64) (x17 ++ ([x31])))), ((1, 10, 0), .sl true true 1 s.1.length (lm (ik .i64) s.1))])) (fun next s => moves_picked.L2 fu nx1 x1 x2 x17 x31 (fun x35 x36 => next (x35, x36)) s.1 s.2) (s0 := (x18, wk .i64 ((x2.length : Int) - 1))) ?_ ?_ ?_
  ·exact Ze
  ·exact Zh
  rintro next k2 hn2 ⟨x35, x36⟩
  let nx2 : (List Int) → Int → Option T_Tensor := (fun x35 x36 => next (x35, x36))
  show J _ (moves_picked.L2 fu nx1 x1 x2 x17 x31 nx2 x35 x36) _
  unfold moves_picked.L2
  refine J.eq go_seq ?_
  conv => arg 1; simp (disch := first | exact Zd | fail) only [ZZ, d42_at, simprocAttr, go_b86, bodyOf, Tryz.f86, d86_at, go_b87, bodyOf, Tryz.f87, d87_at, RI, RIk, initE, c4_p2, c3_p2, b4_p2, b3_p2, nm_p2, e_h1, h2', e_h5]
  refine J.ite (fun h7 => ?_) (fun h7 => ?_)
  ·have h7' := decide_eq_true h7
   have h7'' : decide (x36 < 0) = false := decide_eq_false (by omega)
   conv => arg 1; simp (disch := first | exact Zd | fail) only [ZZ, d42_at, simprocAttr, go_b86, bodyOf, Tryz.f86, d86_at, go_b87, bodyOf, Tryz.f87, d87_at, RI, RIk, initE, c4_p2, c3_p2, b4_p2, b3_p2, nm_p2, e_h1, h2', e_h5, h7'', h7']
   refine J.eq ret_seq ?_
   refine J.eq go_seq ?_
   refine J.at fun x40 h8 h9 h10 => ?_
   refine J.chk fun h11 => ?_
   conv => arg 1; simp (disch := first | exact Zd | fail) only [ZZ, d42_at, simprocAttr, go_b86, bodyOf, Tryz.f86, d86_at, go_b87, bodyOf, Tryz.f87, d87_at, RI, RIk, initE, c4_p2, c3_p2, b4_p2, b3_p2, nm_p2, e_h1, h2', e_h5, h7'', h7', lm_ik h10]
   refine J.eq go_seq ?_
   refine J.at fun x41 h12 h13 h14 => ?_
   refine J.at fun x42 h15 h16 h17 => ?_
   conv => arg 1; simp (disch := first | exact Zd | fail) only [ZZ, d42_at, simprocAttr, go_b86, bodyOf, Tryz.f86, d86_at, go_b87, bodyOf, Tryz.f87, d87_at, RI, RIk, initE, c4_p2, c3_p2, b4_p2, b3_p2, nm_p2, e_h1, h2', e_h5, h7'', h7', lm_ik h10, lm_ik h14, lm_ik h17]
   refine J.ite (fun h18 => ?_) (fun h18 => ?_)
   ·have h18' := decide_eq_true h18
    have h18'' : decide (x42 ≤ x41) = false := decide_eq_false (by omega)
    conv => arg 1; simp (disch := first | exact Zd | fail) only [ZZ, d42_at, simprocAttr, go_b86, bodyOf, Tryz.f86, d86_at, go_b87, bodyOf, Tryz.f87, d87_at, RI, RIk, initE, c4_p2, c3_p2, b4_p2, b3_p2, nm_p2, e_h1, h2', e_h5, h7'', h7', lm_ik h10, lm_ik h14, lm_ik h17, h18'', h18']
    refine J.next (s := (x17 ++ ([x31]), x35.set x36.toNat (wk .i64 (x40 + 1)))) hn1 ?_ ?_
    ·exact Ze
    ·exact Zh
   ·have h18' := decide_eq_false h18
    have h18'' : decide (x42 ≤ x41) = true := decide_eq_true (by omega)
    conv => arg 1; simp (disch := first | exact Zd | fail) only [ZZ, d42_at, simprocAttr, go_b86, bodyOf, Tryz.f86, d86_at, go_b87, bodyOf, Tryz.f87, d87_at, RI, RIk, initE, c4_p2, c3_p2, b4_p2, b3_p2, nm_p2, e_h1, h2', e_h5, h7'', h7', lm_ik h10, lm_ik h14, lm_ik h17, h18'', h18']
    refine J.eq ret_seq ?_
    refine J.chk fun h19 => ?_
    conv => arg 1; simp (disch := first | exact Zd | fail) only [ZZ, d42_at, simprocAttr, go_b86, bodyOf, Tryz.f86, d86_at, go_b87, bodyOf, Tryz.f87, d87_at, RI, RIk, initE, c4_p2, c3_p2, b4_p2, b3_p2, nm_p2, e_h1, h2', e_h5, h7'', h7', lm_ik h10, lm_ik h14, lm_ik h17, h18'', h18']
    refine J.eq ret_seq ?_
    conv => arg 1; simp (disch := first | exact Zd | fail) only [ZZ, d42_at, simprocAttr, go_b86, bodyOf, Tryz.f86, d86_at, go_b87, bodyOf, Tryz.f87, d87_at, RI, RIk, initE, c4_p2, c3_p2, b4_p2, b3_p2, nm_p2, e_h1, h2', e_h5, h7'', h7', lm_ik h10, lm_ik h14, lm_ik h17, h18'', h18']
    refine J.next (s := ((x35.set x36.toNat (wk .i64 (x40 + 1))).set x36.toNat 0, wk .i64 (x36 - 1))) hn2 ?_ ?_
    ·exact Ze
    ·exact Zh
  ·have h7' := decide_eq_false h7
   have h7'' : decide (x36 < 0) = true := decide_eq_true (by omega)
   conv => arg 1; simp (disch := first | exact Zd | fail) only [ZZ, d42_at, simprocAttr, go_b86, bodyOf, Tryz.f86, d86_at, go_b87, bodyOf, Tryz.f87, d87_at, RI, RIk, initE, c4_p2, c3_p2, b4_p2, b3_p2, nm_p2, e_h1, h2', e_h5, h7'', h7']
   refine J.eq ret_seq ?_
   refine J.bind fun x43 h20 => ?_
   have e_h20 := H49_0 _ _ _ _ h20
   try simp only [NN, NT, LN, simprocAttr, DT] at e_h20
   refine J.some ?_
   simp (maxSteps := 20000000) (disch := first | exact Zd | fail) only [ZZ, d42_at, simprocAttr, go_b86, bodyOf, Tryz.f86, d86_at, go_b87, bodyOf, Tryz.f87, d87_at, RI, RIk, initE, c4_p2, c3_p2, b4_p2, b3_p2, nm_p2, e_h1, h2', e_h5, h7'', h7', e_h20, FN]
noncomputable def t42 (fu : Nat) (x1 : T_Tensor) (x2 : List Int) (p2 : (List Int) → Option Int) (fv_p2 : FuncId) (ca_p2 : List AV) : CallP := orE 61 (mkC (fun (t : (List Int) × Int) => ([.arr t.1.length (lm (ik .i64) t.1), .v (.int .i64 t.2)] : List AV)) (fun t => slices_Contains_int fu t.1 t.2) e61) (orE 49 (mkC (fun (t : T_Tensor × (List Int) × (List Int)) => ([.agg (c_T_Tensor t.1), .arr t.2.1.length (lm (ik .i64) t.2.1), .arr t.2.2.length (lm (ik .i64) t.2.2)] : List AV)) (fun t => tens_Pick fu t.1 t.2.1 t.2.2) e49) (orE fv_p2 (mkC (fun (t : List Int) => ((.arr t.length (lm (ik .i64) t)) :: ca_p2 : List AV)) (fun t => p2 t) (fun r => .v (.int .i64 r))) (noP)))
theorem t42_ok (fu : Nat) (x1 : T_Tensor) (x2 : List Int) (p2 : (List Int) → Option Int) (fv_p2 : FuncId) (ca_p2 : List AV) (nc_p2 : memN [49, 61] fv_p2 = false) (ni_p2 : (inlC [86, 87]).inl fv_p2 = false) (cap_p2 : Capt ca_p2) (hp_p2 : ∀ (y0 : List Int) r, p2 y0 = some r → PureOK Tryz.prog fv_p2 ((.arr y0.length (lm (ik .i64) y0)) :: ca_p2) (.v (.int .i64 r))) : CpOK Tryz.prog (t42 fu x1 x2 p2 fv_p2 ca_p2) := orE_ok (orE_ok (orE_ok (noP_ok) (mkC_ok (fun t b h => hp_p2 t b h))) (mkC_ok (fun t b h => ok49 fu t.1 t.2.1 t.2.2  b h))) (mkC_ok (fun t b h => ok61 fu t.1 t.2  b h))
theorem ok42 (fu : Nat) (x1 : T_Tensor) (x2 : List Int) (p2 : (List Int) → Option Int) (fv_p2 : FuncId) (ca_p2 : List AV) (nc_p2 : memN [49, 61] fv_p2 = false) (ni_p2 : (inlC [86, 87]).inl fv_p2 = false) (cap_p2 : Capt ca_p2) (hp_p2 : ∀ (y0 : List Int) r, p2 y0 = some r → PureOK Tryz.prog fv_p2 ((.arr y0.length (lm (ik .i64) y0)) :: ca_p2) (.v (.int .i64 r))) (r) (h : moves_picked fu x1 x2 p2 = some r) : PureOK Tryz.prog 42 [.agg (c_T_Tensor x1), .arr x2.length (lm (ik .i64) x2), .fn fv_p2 [] ca_p2] (e42 r) :=
  pure_J mixed (cp := t42 fu x1 x2 p2 fv_p2 ca_p2) (t42_ok fu x1 x2 p2 fv_p2 ca_p2 nc_p2 ni_p2 cap_p2 hp_p2) (ciE_ok mixed (t42_ok fu x1 x2 p2 fv_p2 ca_p2 nc_p2 ni_p2 cap_p2 hp_p2) (ciE_ok mixed (t42_ok fu x1 x2 p2 fv_p2 ca_p2 nc_p2 ni_p2 cap_p2 hp_p2) noI_ok i87 noI_ok) i86 (ciE_ok mixed (t42_ok fu x1 x2 p2 fv_p2 ca_p2 nc_p2 ni_p2 cap_p2 hp_p2) noI_ok i87 noI_ok)) i42 (w42 _ fu x1 x2 p2 fv_p2 ca_p2 ni_p2 cap_p2 (fun y0 r h => orE_skip (fun hfv => absurd nc_p2 (by first | (rw [hfv]; decide) | (rw [← hfv]; decide))) (orE_skip (fun hfv => absurd nc_p2 (by first | (rw [hfv]; decide) | (rw [← hfv]; decide))) (orE_hit (mkC_at (a := y0) (by intro a b h; first | (exact rfl) | (simp only [INJ, IJ] at h; first | exact h | (simp_all [Prod.ext_iff]) )) h)))) (fun a0 a1 r h => orE_hit (mkC_at (a := (a0, a1)) (by intro a b h; first | (exact rfl) | (simp only [INJ, IJ] at h; first | exact h | (simp_all [Prod.ext_iff]) )) h)) (fun a0 a1 a2 r h => orE_miss (by decide) (orE_hit (mkC_at (a := (a0, a1, a2)) (by intro a b h; first | (exact rfl) | (simp only [INJ, IJ] at h; first | exact h | (simp_all [Prod.ext_iff]) )) h)))) h
open Aw (d44)
def d44_at := by have h := tabL Aw.d44.eq_1; simp only [AllAt, Nat.zero_add, Nat.reduceAdd] at h; exact h
theorem i44 : finfo Tryz.prog 44 d44 = some ⟨bodyOf Tryz.f44, [.tmp 4], [3]⟩ := finfo_at Tryz.func44 rfl (by kernel_rfl) (by kernel_rfl)
def e44 : Int → AV := fun r => .v (.int .i64 r)
def moves_dot.m1 : LJ 1 6 Unit (Int × Int) := ⟨fun r s e => [(0, er e 0), (5, .v (.int .i64 s.1)), (8, er e 8), (9, er e 9), (10, .v (.int .i64 s.2))], fun r s h => []⟩
set_option maxHeartbeats 20000000 in
open moves_dot in
theorem w44 (cp : CallP) (fu : Nat) (x1 : List Int) (x2 : List Int)  : J (go Tryz.prog noC cp noI 0 [] d44 fu (fin Tryz.prog [.tmp 4] [3]) (bodyOf Tryz.f44) (initE 0 [.arr x1.length (lm (ik .i64) x1), .arr x2.length (lm (ik .i64) x2)]) [] []) (moves_dot fu x1 x2) e44 := by
 unfold moves_dot e44
 have da := d44_at
 conv => arg 1; simp only [bodyOf, Tryz.f44]
 have z0 := d44_at
 exact Wk
theorem ok44 (fu : Nat) (x1 : List Int) (x2 : List Int) (r) (h : moves_dot fu x1 x2 = some r) : PureOK Tryz.prog 44 [.arr x1.length (lm (ik .i64) x1), .arr x2.length (lm (ik .i64) x2)] (e44 r) := pureT mixed [] (ids := []) rfl (by decide) i44 (C := noC) (ci := fun cp => noI) (fun cp ok => noI_ok) (fun cp H => w44 cp fu x1 x2 ) h
def d43 : List (Nat × List Nat) := [(0, [4]), (0, []), (6, [0, 1, 2, 5, 6, 7, 8, 9])]
def d43_at := by have h := tabL d43.eq_1; simp only [AllAt, Nat.zero_add, Nat.reduceAdd] at h; exact h
theorem i43 : finfo Tryz.prog 43 d43 = some ⟨bodyOf Tryz.f43, [.tmp 4], [3]⟩ := finfo_at Tryz.func43 rfl (by kernel_rfl) (by kernel_rfl)
def e43 : Int → AV := fun r => .v (.int .i64 r)
structure K44 (fu : Nat) (cp : CallP) : Prop where
 ap : ∀ {a0 : List Int} {a1 : List Int} {r}, moves_dot fu a0 a1 = some r → cp 44 [.arr a0.length (lm (ik .i64) a0), .arr a1.length (lm (ik .i64) a1)] = some (.v (.int .i64 r))
noncomputable def C44 (fu : Nat) : Cm Tryz.prog ((List Int) × (List Int)) Int := ⟨44, fun t => [.arr t.1.length (lm (ik .i64) t.1), .arr t.2.length (lm (ik .i64) t.2)], fun t => moves_dot fu t.1 t.2, e44, fun t b h => ok44 fu t.1 t.2  b h, Zi⟩
theorem u44 {fu : Nat} {cp : CallP} (H : Hit cp (C44 fu).ct) : K44 fu cp := ⟨fun {a0 a1 r} h => (C44 fu).at H (a0, a1) r h⟩
set_option maxHeartbeats 20000000 in
theorem w43 (cp : CallP) (fu : Nat) (x1 : List Int) (x2 : Int) (x3 : List Int) (H1 : K44 fu cp) : J (go Tryz.prog noC cp noI 0 [] d43 fu (fin Tryz.prog [.tmp 4] [3]) (bodyOf Tryz.f43) (initE 0 [.arr x1.length (lm (ik .i64) x1), .ref [.v (.int .i64 x2)] 0, .ref [.arr x3.length (lm (ik .i64) x3)] 0]) [] []) (moves_move_split_1 fu x1 x2 x3) e43 := by
 unfold moves_move_split_1 e43
 have da := d43_at
 conv => arg 1; simp only [bodyOf, Tryz.f43]
 have z0 := d43_at
 exact Wk
theorem ok43 (fu : Nat) (x1 : List Int) (x2 : Int) (x3 : List Int) (r) (h : moves_move_split_1 fu x1 x2 x3 = some r) : PureOK Tryz.prog 43 [.arr x1.length (lm (ik .i64) x1), .ref [.v (.int .i64 x2)] 0, .ref [.arr x3.length (lm (ik .i64) x3)] 0] (e43 r) := pureT mixed [(C44 fu).ct] (ids := [44]) rfl (by decide) i43 (C := noC) (ci := fun cp => noI) (fun cp ok => noI_ok) (fun cp H => w43 cp fu x1 x2 x3 (u44 H.1)) h
def d24 : List (Nat × List Nat) := [(0, [4]), (0, [0, 6, 7, 16, 17, 18]), (0, [5000005]), (0, []), (0, [10, 11, 12, 13, 14, 15]), (0, []), (0, []), (0, []), (0, [1]), (0, []), (0, []), (0, []), (0, [20, 21]), (0, []), (10, [22, 23, 24, 25, 26, 27, 28, 29, 30, 31, 32]), (0, []), (18, [9, 33, 34, 35, 36, 37, 38, 39, 40, 41, 42, 43, 44, 45, 46, 47, 48, 49, 50]), (0, []), (0, [51]), (0, []), (0, [5, 52])]
def d24_at := by have h := tabL d24.eq_1; simp only [AllAt, Nat.zero_add, Nat.reduceAdd] at h; exact h
theorem i24 : finfo Tryz.prog 24 d24 = some ⟨bodyOf Tryz.f24, [.tmp 4], [29]⟩ := finfo_at Tryz.func24 rfl (by kernel_rfl) (by kernel_rfl)
def e24 : (List T_Tensor) → AV := fun r => .arr r.length (fm c_T_Tensor r)
structure K41 (fu : Nat) (cp : CallP) : Prop where
 ap : ∀ {a0 : List Int} {r}, moves_strides fu a0 = some r → cp 41 [.arr a0.length (lm (ik .i64) a0)] = some (.fresh 1 r.length (lm (ik .i64) r))
noncomputable def C41 (fu : Nat) : Cm Tryz.prog (List Int) (List Int) := ⟨41, fun t => [.arr t.length (lm (ik .i64) t)], fun t => moves_strides fu t, e41, fun t b h => ok41 fu t  b h, Zi⟩
theorem u41 {fu : Nat} {cp : CallP} (H : Hit cp (C41 fu).ct) : K41 fu cp := ⟨fun {a0 r} h => (C41 fu).at H a0 r h⟩
structure K42 (fu : Nat) (cp : CallP) : Prop where
 ap : ∀ {a0 : T_Tensor} {a1 : List Int} {c2 : Int} {c3 : List Int} {r}, moves_picked fu a0 a1 (fun y0 => moves_move_split_1 fu y0 c2 c3) = some r → cp 42 [.agg (c_T_Tensor a0), .arr a1.length (lm (ik .i64) a1), .fn 43 [] [.ref [.v (.int .i64 c2)] 0, .ref [.arr c3.length (lm (ik .i64) c3)] 0]] = some (.agg [.v (.int .i64 r.fType), .fresh 1 r.fDims.length (lm (ik .i64) r.fDims), .fresh 1 r.fF.length (lm (ik .u32) r.fF), .fresh 1 r.fI.length (lm (ik .i64) r.fI), .fresh 1 r.fB.length (lm (bk) r.fB)])
noncomputable def C42 (fu : Nat) : Cm Tryz.prog (T_Tensor × (List Int) × Int × (List Int)) T_Tensor := ⟨42, fun t => [.agg (c_T_Tensor t.1), .arr t.2.1.length (lm (ik .i64) t.2.1), .fn 43 [] [.ref [.v (.int .i64 t.2.2.1)] 0, .ref [.arr t.2.2.2.length (lm (ik .i64) t.2.2.2)] 0]], fun t => moves_picked fu t.1 t.2.1 (fun y0 => moves_move_split_1 fu y0 t.2.2.1 t.2.2.2), e42, fun t b h => ok42 fu t.1 t.2.1 (fun y0 => moves_move_split_1 fu y0 t.2.2.1 t.2.2.2) 43 [.ref [.v (.int .i64 t.2.2.1)] 0, .ref [.arr t.2.2.2.length (lm (ik .i64) t.2.2.2)] 0] rfl rfl (Capt.ref (Capt.ref Capt.nil)) (fun y0 r h => ok43 fu y0 t.2.2.1 t.2.2.2 r h) b h, Zi⟩
theorem u42 {fu : Nat} {cp : CallP} (H : Hit cp (C42 fu).ct) : K42 fu cp := ⟨fun {a0 a1 c2 c3 r} h => (C42 fu).at H (a0, a1, c2, c3) r h⟩
def moves_move_split.m1 : LJ 1 10 Unit ((List T_Tensor) × Int × Int) := ⟨fun r s e => [(0, er e 0), (5, .own (0, 5, 77) 0 s.1.length s.1.length), (6, er e 6), (7, er e 7), (16, er e 16), (17, er e 17), (18, .v (.int .i64 s.2.2))], fun r s h => [((0, 5, 77), .sl true true 5 s.1.length (fm c_T_Tensor s.1)), ((0, 15, 0), hr h (0, 15, 0)), ((0, 6, 0), hr h (0, 6, 0)), ((0, 7, 0), bs (hr h (0, 7, 0)) 0 (.v (.int .i64 s.2.1)))]⟩
set_option maxHeartbeats 20000000 in
open moves_move_split in
theorem w24 (cp : CallP) (fu : Nat) (x1 : T_moves_move) (x2 : List T_Val) (H1 : K41 fu cp) (H2 : K42 fu cp) : J (go Tryz.prog noC cp noI 0 [] d24 fu (finS Tryz.prog [.tmp 4] [29]) (bodyOf Tryz.f24) (initE 0 [.ref (c_T_moves_move x1) 0, .arr x2.length (fm c_T_Val x2)]) [] []) (moves_move_split fu x1 x2) e24 := by
 unfold moves_move_split e24
 have da := d24_at
 conv => arg 1; simp only [bodyOf, Tryz.f24]
 have z0 := d24_at
 have z1 := SE
 exact Wk
theorem ok24 (fu : Nat) (x1 : T_moves_move) (x2 : List T_Val) (r) (h : moves_move_split fu x1 x2 = some r) : PureOK Tryz.prog 24 [.ref (c_T_moves_move x1) 0, .arr x2.length (fm c_T_Val x2)] (e24 r) := pureST mixed [(C41 fu).ct, (C42 fu).ct] (ids := [41, 42]) rfl (by decide) i24 (C := noC) (ci := fun cp => noI) (fun cp ok => noI_ok) (fun cp H => w24 cp fu x1 x2 (u41 H.1) (u42 H.2.1)) h
def d180 : List (Nat × List Nat) := [(0, [4]), (0, []), (0, [5]), (0, []), (0, [7]), (0, []), (0, [8, 9, 10, 11, 12, 13, 14]), (0, []), (0, [15]), (0, []), (0, [17, 18, 19, 20, 21, 22, 23, 24, 25]), (0, []), (0, [0, 1, 26, 1000004])]
def d180_at := by have h := tabL d180.eq_1; simp only [AllAt, Nat.zero_add, Nat.reduceAdd] at h; exact h
noncomputable def b180 : Code := bodyOf Tryz.f180
theorem go_b180 {C : Cfg} {cp : CallP} {ci : CallI} {lvl : Nat} {prot : List Id} {D : List (Nat × List Nat)} {n : Nat} {K : KK} {e : Env} {h : Heap} {fs : List Fr} : go Tryz.prog C cp ci lvl prot D n K b180 e h fs = go Tryz.prog C cp ci lvl prot D n K (bodyOf Tryz.f180) e h fs := rfl
theorem i180 : finfo Tryz.prog 180 d180 = some ⟨b180, [.tmp 4], [23]⟩ := finfo_at Tryz.func180 rfl (by kernel_rfl) (by kernel_rfl)
def d164 : List (Nat × List Nat) := [(0, [2]), (0, [9, 10, 11]), (0, []), (0, []), (0, []), (0, [25, 26, 27]), (0, []), (0, []), (0, [13, 14]), (0, []), (0, [5, 15, 16, 17, 18]), (0, []), (0, [19]), (0, []), (0, [21]), (0, []), (0, [22]), (0, []), (0, [3, 23, 24, 3000000006]), (0, []), (0, [0]), (0, []), (0, []), (0, []), (0, [29, 30]), (0, []), (0, [8, 31, 32, 33]), (0, []), (0, [34]), (0, []), (0, [6, 35])]
def d164_at := by have h := tabL d164.eq_1; simp only [AllAt, Nat.zero_add, Nat.reduceAdd] at h; exact h
theorem i164 : finfo Tryz.prog 164 d164 = some ⟨bodyOf Tryz.f164, [.tmp 2], [23]⟩ := finfo_at Tryz.func164 rfl (by kernel_rfl) (by kernel_rfl)
def e164 : (List Int) → AV := fun r => .arr r.length (lm (ik .u32) r)
def slices_Concat_uint32.m1 : LJ 1 22 Unit ((List Int) × Int) := ⟨fun r s e => [(6, .own (1, 22, 0) 0 s.1.length s.1.length), (25, er e 25), (26, er e 26), (27, .v (.int .i64 s.2))], fun r s h => [((1, 22, 0), .sl true true 1 s.1.length (lm (ik .u32) s.1))]⟩
def slices_Concat_uint32.m2 : LJ 2 22 Unit ((List Int) × Int) := ⟨fun r s e => [(6, .own (1, 4, 77) 0 s.1.length s.1.length), (25, er e 25), (26, er e 26), (27, .v (.int .i64 s.2))], fun r s h => [((1, 4, 77), .sl true true 1 s.1.length (lm (ik .u32) s.1))]⟩
def slices_Concat_uint32.j2 : LJ 2 6 Unit Unit := ⟨fun r t e => [(0, er e 0), (1, er e 1)], fun r t h => []⟩
def slices_Concat_uint32.m3 : LJ 3 6 Unit (Int × Int) := ⟨fun r s e => [(0, er e 0), (3, .v (.int .i64 s.1)), (9, er e 9), (10, er e 10), (11, .v (.int .i64 s.2))], fun r s h => []⟩
def slices_Concat_uint32.j1 : LJ 1 18 Unit Int := ⟨fun r t e => [(0, er e 0), (3, .v (.int .i64 t))], fun r t h => []⟩
set_option maxHeartbeats 20000000 in
open slices_Concat_uint32 in
theorem w164 (cp : CallP) (fu : Nat) (x1 : List (List Int))  : J (go Tryz.prog (inlC [180]) cp (ciE Tryz.prog (inlC [180]) cp noI fu 180 d180 ⟨b180, [.tmp 4], [23]⟩ noI) 0 [] d164 fu (finS Tryz.prog [.tmp 2] [23]) (bodyOf Tryz.f164) (initE 0 [.arr x1.length (lm (avl (ik .u32)) x1)]) [] []) (slices_Concat_uint32 fu x1) e164 := by
 unfold slices_Concat_uint32 e164
 have da := d164_at
 conv => arg 1; simp only [bodyOf, Tryz.f164]
 have z0 := d164_at
 have z1 := SE
 have z2 := d180_at
 have z3 := Tryz.f180.eq_1
 have z4 := @go_b180
 have z5 := RI
 have z6 := RIk
 have z7 := @bodyOf.eq_1
 exact Wk
theorem ok164 (fu : Nat) (x1 : List (List Int)) (r) (h : slices_Concat_uint32 fu x1 = some r) : PureOK Tryz.prog 164 [.arr x1.length (lm (avl (ik .u32)) x1)] (e164 r) := pureST mixed [] (ids := []) rfl (by decide) i164 (C := (inlC [180])) (ci := fun cp => (ciE Tryz.prog (inlC [180]) cp noI fu 180 d180 ⟨b180, [.tmp 4], [23]⟩ noI)) (fun cp ok => (ciE_ok mixed ok noI_ok i180 noI_ok)) (fun cp H => w164 cp fu x1 ) h
def d148 : List (Nat × List Nat) := [(0, [2]), (0, []), (0, [0, 3, 4])]
def d148_at := by have h := tabL d148.eq_1; simp only [AllAt, Nat.zero_add, Nat.reduceAdd] at h; exact h
theorem i148 : finfo Tryz.prog 148 d148 = some ⟨bodyOf Tryz.f148, [.tmp 2], [23]⟩ := finfo_at Tryz.func148 rfl (by kernel_rfl) (by kernel_rfl)
def e148 : (List Int) → AV := fun r => .arr r.length (lm (ik .u32) r)
structure K164 (fu : Nat) (cp : CallP) : Prop where
 ap : ∀ {a0 : List (List Int)} {r}, slices_Concat_uint32 fu a0 = some r → cp 164 [.arr a0.length (lm (avl (ik .u32)) a0)] = some (.arr r.length (lm (ik .u32) r))
noncomputable def C164 (fu : Nat) : Cm Tryz.prog (List (List Int)) (List Int) := ⟨164, fun t => [.arr t.length (lm (avl (ik .u32)) t)], fun t => slices_Concat_uint32 fu t, e164, fun t b h => ok164 fu t  b h, Zi⟩
theorem u164 {fu : Nat} {cp : CallP} (H : Hit cp (C164 fu).ct) : K164 fu cp := ⟨fun {a0 r} h => (C164 fu).at H a0 r h⟩
set_option maxHeartbeats 20000000 in
theorem w148 (cp : CallP) (fu : Nat) (x1 : List (List Int)) (H1 : K164 fu cp) : J (go Tryz.prog noC cp noI 0 [] d148 fu (fin Tryz.prog [.tmp 2] [23]) (bodyOf Tryz.f148) (initE 0 [.arr x1.length (lm (avl (ik .u32)) x1)]) [] []) (moves_joined_uint32 fu x1) e148 := by
 unfold moves_joined_uint32 e148
 have da := d148_at
 conv => arg 1; simp only [bodyOf, Tryz.f148]
 have z0 := d148_at
 exact Wk
theorem ok148 (fu : Nat) (x1 : List (List Int)) (r) (h : moves_joined_uint32 fu x1 = some r) : PureOK Tryz.prog 148 [.arr x1.length (lm (avl (ik .u32)) x1)] (e148 r) := pureT mixed [(C164 fu).ct] (ids := [164]) rfl (by decide) i148 (C := noC) (ci := fun cp => noI) (fun cp ok => noI_ok) (fun cp H => w148 cp fu x1 (u164 H.1)) h
def d181 : List (Nat × List Nat) := [(0, [4]), (0, []), (0, [5]), (0, []), (0, [7]), (0, []), (0, [8, 9, 10, 11, 12, 13, 14]), (0, []), (0, [15]), (0, []), (0, [17, 18, 19, 20, 21, 22, 23, 24, 25]), (0, []), (0, [0, 1, 26, 1000004])]
def d181_at := by have h := tabL d181.eq_1; simp only [AllAt, Nat.zero_add, Nat.reduceAdd] at h; exact h
noncomputable def b181 : Code := bodyOf Tryz.f181
theorem go_b181 {C : Cfg} {cp : CallP} {ci : CallI} {lvl : Nat} {prot : List Id} {D : List (Nat × List Nat)} {n : Nat} {K : KK} {e : Env} {h : Heap} {fs : List Fr} : go Tryz.prog C cp ci lvl prot D n K b181 e h fs = go Tryz.prog C cp ci lvl prot D n K (bodyOf Tryz.f181) e h fs := rfl
theorem i181 : finfo Tryz.prog 181 d181 = some ⟨b181, [.tmp 4], [24]⟩ := finfo_at Tryz.func181 rfl (by kernel_rfl) (by kernel_rfl)
def d165 : List (Nat × List Nat) := [(0, [2]), (0, [9, 10, 11]), (0, []), (0, []), (0, []), (0, [25, 26, 27]), (0, []), (0, []), (0, [13, 14]), (0, []), (0, [5, 15, 16, 17, 18]), (0, []), (0, [19]), (0, []), (0, [21]), (0, []), (0, [22]), (0, []), (0, [3, 23, 24, 3000000006]), (0, []), (0, [0]), (0, []), (0, []), (0, []), (0, [29, 30]), (0, []), (0, [8, 31, 32, 33]), (0, []), (0, [34]), (0, []), (0, [6, 35])]
def d165_at := by have h := tabL d165.eq_1; simp only [AllAt, Nat.zero_add, Nat.reduceAdd] at h; exact h
theorem i165 : finfo Tryz.prog 165 d165 = some ⟨bodyOf Tryz.f165, [.tmp 2], [24]⟩ := finfo_at Tryz.func165 rfl (by kernel_rfl) (by kernel_rfl)
def e165 : (List Int) → AV := fun r => .arr r.length (lm (ik .i64) r)
def slices_Concat_int64.m1 : LJ 1 22 Unit ((List Int) × Int) := ⟨fun r s e => [(6, .own (1, 22, 0) 0 s.1.length s.1.length), (25, er e 25), (26, er e 26), (27, .v (.int .i64 s.2))], fun r s h => [((1, 22, 0), .sl true true 1 s.1.length (lm (ik .i64) s.1))]⟩
def slices_Concat_int64.m2 : LJ 2 22 Unit ((List Int) × Int) := ⟨fun r s e => [(6, .own (1, 4, 77) 0 s.1.length s.1.length), (25, er e 25), (26, er e 26), (27, .v (.int .i64 s.2))], fun r s h => [((1, 4, 77), .sl true true 1 s.1.length (lm (ik .i64) s.1))]⟩
def slices_Concat_int64.j2 : LJ 2 6 Unit Unit := ⟨fun r t e => [(0, er e 0), (1, er e 1)], fun r t h => []⟩
def slices_Concat_int64.m3 : LJ 3 6 Unit (Int × Int) := ⟨fun r s e => [(0, er e 0), (3, .v (.int .i64 s.1)), (9, er e 9), (10, er e 10), (11, .v (.int .i64 s.2))], fun r s h => []⟩
def slices_Concat_int64.j1 : LJ 1 18 Unit Int := ⟨fun r t e => [(0, er e 0), (3, .v (.int .i64 t))], fun r t h => []⟩
set_option maxHeartbeats 20000000 in
open slices_Concat_int64 in
theorem w165 (cp : CallP) (fu : Nat) (x1 : List (List Int))  : J (go Tryz.prog (inlC [181]) cp (ciE Tryz.prog (inlC [181]) cp noI fu 181 d181 ⟨b181, [.tmp 4], [24]⟩ noI) 0 [] d165 fu (finS Tryz.prog [.tmp 2] [24]) (bodyOf Tryz.f165) (initE 0 [.arr x1.length (lm (avl (ik .i64)) x1)]) [] []) (slices_Concat_int64 fu x1) e165 := by
 unfold slices_Concat_int64 e165
 have da := d165_at
 conv => arg 1; simp only [bodyOf, Tryz.f165]
 have z0 := d165_at
 have z1 := SE
 have z2 := d181_at
 have z3 := Tryz.f181.eq_1
 have z4 := @go_b181
 have z5 := RI
 have z6 := RIk
 have z7 := @bodyOf.eq_1
 exact Wk
theorem ok165 (fu : Nat) (x1 : List (List Int)) (r) (h : slices_Concat_int64 fu x1 = some r) : PureOK Tryz.prog 165 [.arr x1.length (lm (avl (ik .i64)) x1)] (e165 r) := pureST mixed [] (ids := []) rfl (by decide) i165 (C := (inlC [181])) (ci := fun cp => (ciE Tryz.prog (inlC [181]) cp noI fu 181 d181 ⟨b181, [.tmp 4], [24]⟩ noI)) (fun cp ok => (ciE_ok mixed ok noI_ok i181 noI_ok)) (fun cp H => w165 cp fu x1 ) h
def d149 : List (Nat × List Nat) := [(0, [2]), (0, []), (0, [0, 3, 4])]
def d149_at := by have h := tabL d149.eq_1; simp only [AllAt, Nat.zero_add, Nat.reduceAdd] at h; exact h
theorem i149 : finfo Tryz.prog 149 d149 = some ⟨bodyOf Tryz.f149, [.tmp 2], [24]⟩ := finfo_at Tryz.func149 rfl (by kernel_rfl) (by kernel_rfl)
def e149 : (List Int) → AV := fun r => .arr r.length (lm (ik .i64) r)
structure K165 (fu : Nat) (cp : CallP) : Prop where
 ap : ∀ {a0 : List (List Int)} {r}, slices_Concat_int64 fu a0 = some r → cp 165 [.arr a0.length (lm (avl (ik .i64)) a0)] = some (.arr r.length (lm (ik .i64) r))
noncomputable def C165 (fu : Nat) : Cm Tryz.prog (List (List Int)) (List Int) := ⟨165, fun t => [.arr t.length (lm (avl (ik .i64)) t)], fun t => slices_Concat_int64 fu t, e165, fun t b h => ok165 fu t  b h, Zi⟩
theorem u165 {fu : Nat} {cp : CallP} (H : Hit cp (C165 fu).ct) : K165 fu cp := ⟨fun {a0 r} h => (C165 fu).at H a0 r h⟩
set_option maxHeartbeats 20000000 in
theorem w149 (cp : CallP) (fu : Nat) (x1 : List (List Int)) (H1 : K165 fu cp) : J (go Tryz.prog noC cp noI 0 [] d149 fu (fin Tryz.prog [.tmp 2] [24]) (bodyOf Tryz.f149) (initE 0 [.arr x1.length (lm (avl (ik .i64)) x1)]) [] []) (moves_joined_int64 fu x1) e149 := by
 unfold moves_joined_int64 e149
 have da := d149_at
 conv => arg 1; simp only [bodyOf, Tryz.f149]
 have z0 := d149_at
 exact Wk
theorem ok149 (fu : Nat) (x1 : List (List Int)) (r) (h : moves_joined_int64 fu x1 = some r) : PureOK Tryz.prog 149 [.arr x1.length (lm (avl (ik .i64)) x1)] (e149 r) := pureT mixed [(C165 fu).ct] (ids := [165]) rfl (by decide) i149 (C := noC) (ci := fun cp => noI) (fun cp ok => noI_ok) (fun cp H => w149 cp fu x1 (u165 H.1)) h
def d182 : List (Nat × List Nat) := [(0, [4]), (0, []), (0, [5]), (0, []), (0, [7]), (0, []), (0, [8, 9, 10, 11, 12, 13, 14]), (0, []), (0, [15]), (0, []), (0, [17, 18, 19, 20, 21, 22, 23, 24, 25]), (0, []), (0, [0, 1, 26, 1000004])]
def d182_at := by have h := tabL d182.eq_1; simp only [AllAt, Nat.zero_add, Nat.reduceAdd] at h; exact h
noncomputable def b182 : Code := bodyOf Tryz.f182
theorem go_b182 {C : Cfg} {cp : CallP} {ci : CallI} {lvl : Nat} {prot : List Id} {D : List (Nat × List Nat)} {n : Nat} {K : KK} {e : Env} {h : Heap} {fs : List Fr} : go Tryz.prog C cp ci lvl prot D n K b182 e h fs = go Tryz.prog C cp ci lvl prot D n K (bodyOf Tryz.f182) e h fs := rfl
theorem i182 : finfo Tryz.prog 182 d182 = some ⟨b182, [.tmp 4], [25]⟩ := finfo_at Tryz.func182 rfl (by kernel_rfl) (by kernel_rfl)
def d166 : List (Nat × List Nat) := [(0, [2]), (0, [9, 10, 11]), (0, []), (0, []), (0, []), (0, [25, 26, 27]), (0, []), (0, []), (0, [13, 14]), (0, []), (0, [5, 15, 16, 17, 18]), (0, []), (0, [19]), (0, []), (0, [21]), (0, []), (0, [22]), (0, []), (0, [3, 23, 24, 3000000006]), (0, []), (0, [0]), (0, []), (0, []), (0, []), (0, [29, 30]), (0, []), (0, [8, 31, 32, 33]), (0, []), (0, [34]), (0, []), (0, [6, 35])]
def d166_at := by have h := tabL d166.eq_1; simp only [AllAt, Nat.zero_add, Nat.reduceAdd] at h; exact h
theorem i166 : finfo Tryz.prog 166 d166 = some ⟨bodyOf Tryz.f166, [.tmp 2], [25]⟩ := finfo_at Tryz.func166 rfl (by kernel_rfl) (by kernel_rfl)
def e166 : (List Bool) → AV := fun r => .arr r.length (lm (bk) r)
set_option maxHeartbeats 20000000 in
theorem w166 (cp : CallP) (fu : Nat) (x1 : List (List Bool)) : J (go Tryz.prog (inlC [182]) cp (ciE Tryz.prog (inlC [182]) cp noI fu 182 d182 ⟨b182, [.tmp 4], [25]⟩ noI) 0 [] d166 fu (finS Tryz.prog [.tmp 2] [25]) (bodyOf Tryz.f166) (initE 0 [.arr x1.length (lm (avl (bk)) x1)]) [] []) (slices_Concat_bool fu x1) e166 := by
 unfold slices_Concat_bool e166
 have da := d166_at
 conv => arg 1; simp (disch := first | exact Zd | fail) only [bodyOf, Tryz.f166, ZZ, d166_at, simprocAttr, RI, RIk, initE, SE]
 refine J.joinS (fun (t : Int) => ([(0, .arr x1.length (lm (avl (bk)) x1)), (3, .v (.int .i64 t))], [])) (fun t => slices_Concat_bool.k1 fu x1 t) ?_ (fun hj1 => ?_)
 ·rintro x2
  show J _ (slices_Concat_bool.k1 fu x1 x2) _
  unfold slices_Concat_bool.k1
  conv => arg 1; simp (disch := first | exact Zd | fail) only [ZZ, d166_at, simprocAttr, go_b182, bodyOf, Tryz.f182, d182_at, RI, RIk, initE, SE]
  refine J.joinS (fun (t : Unit) => ([(0, .v (.slice none 0 0)), (1, .v (.int .i64 x2))], [])) (fun t => slices_Concat_bool.k2 fu x1 x2) ?_ (fun hj2 => ?_)
  ·rintro ⟨⟩
   show J _ (slices_Concat_bool.k2 fu x1 x2) _
   unfold slices_Concat_bool.k2
   refine J.eq go_seq ?_
   conv => arg 1; simp (disch := first | exact Zd | fail) only [ZZ, d166_at, simprocAttr, go_b182, bodyOf, Tryz.f182, d182_at, RI, RIk, initE, SE]
   refine J.ite (fun h1 => ?_) (fun h1 => ?_)
   ·have h1' := decide_eq_true h1
    have h1'' : decide ((wk .i64 (x2 - (wk .i64 0))) ≤ 0) = false := decide_eq_false (by omega)
    refine J.chk fun h2 => ?_
    refine J.chk fun h3 => ?_
    conv => arg 1; simp (disch := first | exact Zd | fail) only [ZZ, d166_at, simprocAttr, go_b182, bodyOf, Tryz.f182, d182_at, RI, RIk, initE, SE, h1'', h1']
    refine J.eq ret_seq ?_
    conv => arg 1; simp (disch := first | exact Zd | fail) only [ZZ, d166_at, simprocAttr, go_b182, bodyOf, Tryz.f182, d182_at, RI, RIk, initE, SE, h1'', h1']
    refine J.eq go_seq ?_
    conv => arg 1; simp (disch := first | exact Zd | fail) only [ZZ, d166_at, simprocAttr, go_b182, bodyOf, Tryz.f182, d182_at, RI, RIk, initE, SE, h1'', h1']
    unfold slices_Concat_bool.W1
    refine J.loop (fun (s : (List Bool) × Int) => ([(6, .own (1, 22, 0) 0 s.1.length s.1.length), (25, .arr x1.length (lm (avl (bk)) x1)), (26, .v (.int .i64 (x1.length : Int))), (27, .v (.int .i64 s.2))], [((1, 22, 0), .sl true true 1 s.1.length (lm (bk) s.1))])) (fun next s => slices_Concat_bool.L1 fu x1 (fun x4 x5 => next (x4, x5)) s.1 s.2) (s0 := (([] : List Bool), 0)) ?_ ?_ ?_
    ·exact Ze
    ·exact Zh
    rintro next k1 hn1 ⟨x4, x5⟩
    let nx1 : (List Bool) → Int → Option (List Bool) := (fun x4 x5 => next (x4, x5))
    show J _ (slices_Concat_bool.L1 fu x1 nx1 x4 x5) _
    unfold slices_Concat_bool.L1
    conv => arg 1; simp (disch := first | exact Zd | fail) only [ZZ, d166_at, simprocAttr, go_b182, bodyOf, Tryz.f182, d182_at, RI, RIk, initE, SE, h1'', h1']
    refine J.eq go_seq ?_
    conv => arg 1; simp (disch := first | exact Zd | fail) only [ZZ, d166_at, simprocAttr, go_b182, bodyOf, Tryz.f182, d182_at, RI, RIk, initE, SE, h1'', h1']
    refine J.ite (fun h4 => ?_) (fun h4 => ?_)
    ·have h4' := decide_eq_true h4
     have h4'' : decide ((x1.length : Int) ≤ x5) = false := decide_eq_false (by omega)
     conv => arg 1; simp (disch := first | exact Zd | fail) only [ZZ, d166_at, simprocAttr, go_b182, bodyOf, Tryz.f182, d182_at, RI, RIk, initE, SE, h1'', h1', h4'', h4']
     refine J.eq ret_seq ?_
     refine J.eq go_seq ?_
     refine J.at fun x7 h5 h6 h7 => ?_
     refine J.chk fun h8 => ?_
     conv => arg 1; simp (disch := first | exact Zd | fail) only [ZZ, d166_at, simprocAttr, go_b182, bodyOf, Tryz.f182, d182_at, RI, RIk, initE, SE, h1'', h1', h4'', h4', lm_avl h7]
     refine J.eq ret_seq ?_
     conv => arg 1; simp (disch := first | exact Zd | fail) only [ZZ, d166_at, simprocAttr, go_b182, bodyOf, Tryz.f182, d182_at, RI, RIk, initE, SE, h1'', h1', h4'', h4', lm_avl h7]
     refine J.next (s := (x4 ++ x7, wk .i64 (x5 + 1))) hn1 ?_ ?_
     ·exact Ze
     ·exact Zh
    ·have h4' := decide_eq_false h4
     have h4'' : decide ((x1.length : Int) ≤ x5) = true := decide_eq_true (by omega)
     conv => arg 1; simp (disch := first | exact Zd | fail) only [ZZ, d166_at, simprocAttr, go_b182, bodyOf, Tryz.f182, d182_at, RI, RIk, initE, SE, h1'', h1', h4'', h4']
     refine J.eq ret_seq ?_
     refine J.some ?_
     simp (maxSteps := 20000000) (disch := first | exact Zd | fail) only [ZZ, d166_at, simprocAttr, go_b182, bodyOf, Tryz.f182, d182_at, RI, RIk, initE, SE, h1'', h1', h4'', h4', FN]
   ·have h1' := decide_eq_false h1
    have h1'' : decide ((wk .i64 (x2 - (wk .i64 0))) ≤ 0) = true := decide_eq_true (by omega)
    conv => arg 1; simp (disch := first | exact Zd | fail) only [ZZ, d166_at, simprocAttr, go_b182, bodyOf, Tryz.f182, d182_at, RI, RIk, initE, SE, h1'', h1']
    refine J.eq ret_seq ?_
    conv => arg 1; simp (disch := first | exact Zd | fail) only [ZZ, d166_at, simprocAttr, go_b182, bodyOf, Tryz.f182, d182_at, RI, RIk, initE, SE, h1'', h1']
    refine J.eq go_seq ?_
    conv => arg 1; simp (disch := first | exact Zd | fail) only [ZZ, d166_at, simprocAttr, go_b182, bodyOf, Tryz.f182, d182_at, RI, RIk, initE, SE, h1'', h1']
    unfold slices_Concat_bool.W2
    refine J.loop (fun (s : (List Bool) × Int) => ([(6, .own (1, 4, 77) 0 s.1.length s.1.length), (25, .arr x1.length (lm (avl (bk)) x1)), (26, .v (.int .i64 (x1.length : Int))), (27, .v (.int .i64 s.2))], [((1, 4, 77), .sl true true 1 s.1.length (lm (bk) s.1))])) (fun next s => slices_Concat_bool.L2 fu x1 (fun x9 x10 => next (x9, x10)) s.1 s.2) (s0 := (([] : List Bool), 0)) ?_ ?_ ?_
    ·exact Ze
    ·exact Zh
    rintro next k2 hn2 ⟨x9, x10⟩
    let nx2 : (List Bool) → Int → Option (List Bool) := (fun x9 x10 => next (x9, x10))
    show J _ (slices_Concat_bool.L2 fu x1 nx2 x9 x10) _
    unfold slices_Concat_bool.L2
    conv => arg 1; simp (disch := first | exact Zd | fail) only [ZZ, d166_at, simprocAttr, go_b182, bodyOf, Tryz.f182, d182_at, RI, RIk, initE, SE, h1'', h1']
    refine J.eq go_seq ?_
    conv => arg 1; simp (disch := first | exact Zd | fail) only [ZZ, d166_at, simprocAttr, go_b182, bodyOf, Tryz.f182, d182_at, RI, RIk, initE, SE, h1'', h1']
    refine J.ite (fun h9 => ?_) (fun h9 => ?_)
    ·have h9' := decide_eq_true h9
     have h9'' : decide ((x1.length : Int) ≤ x10) = false := decide_eq_false (by omega)
     conv => arg 1; simp (disch := first | exact Zd | fail) only [ZZ, d166_at, simprocAttr, go_b182, bodyOf, Tryz.f182, d182_at, RI, RIk, initE, SE, h1'', h1', h9'', h9']
     refine J.eq ret_seq ?_
     refine J.eq go_seq ?_
     refine J.at fun x12 h10 h11 h12 => ?_
     refine J.chk fun h13 => ?_
     conv => arg 1; simp (disch := first | exact Zd | fail) only [ZZ, d166_at, simprocAttr, go_b182, bodyOf, Tryz.f182, d182_at, RI, RIk, initE, SE, h1'', h1', h9'', h9', lm_avl h12]
     refine J.eq ret_seq ?_
     conv => arg 1; simp (disch := first | exact Zd | fail) only [ZZ, d166_at, simprocAttr, go_b182, bodyOf, Tryz.f182, d182_at, RI, RIk, initE, SE, h1'', h1', h9'', h9', lm_avl h12]
     refine J.next (s := (x9 ++ x12, wk .i64 (x10 + 1))) hn2 ?_ ?_
     ·exact Ze
     ·exact Zh
    ·have h9' := decide_eq_false h9
     have h9'' : decide ((x1.length : Int) ≤ x10) = true := decide_eq_true (by omega)
     conv => arg 1; simp (disch := first | exact Zd | fail) only [ZZ, d166_at, simprocAttr, go_b182, bodyOf, Tryz.f182, d182_at, RI, RIk, initE, SE, h1'', h1', h9'', h9']
     refine J.eq ret_seq ?_
     refine J.some ?_
     simp (maxSteps := 20000000) (disch := first | exact Zd | fail) only [ZZ, d166_at, simprocAttr, go_b182, bodyOf, Tryz.f182, d182_at, RI, RIk, initE, SE, h1'', h1', h9'', h9', FN]
  ·refine J.hd jn_at ?_
   conv => arg 1; simp (disch := first | exact Zd | fail) only [ZZ, d166_at, simprocAttr, go_b182, bodyOf, Tryz.f182, d182_at, RI, RIk, initE, SE]
   refine J.ite (fun h14 => ?_) (fun h14 => ?_)
   ·have h14' := decide_eq_true h14
    have h14'' : decide (0 ≤ x2) = false := decide_eq_false (by omega)
    exact J.none
   ·have h14' := decide_eq_false h14
    have h14'' : decide (0 ≤ x2) = true := decide_eq_true (by omega)
    conv => arg 1; simp (disch := first | exact Zd | fail) only [ZZ, d166_at, simprocAttr, go_b182, bodyOf, Tryz.f182, d182_at, RI, RIk, initE, SE, h14'', h14']
    refine J.jmp (t := ()) hj2 ?_ ?_
    ·exact Ze
    ·exact Zh
 ·refine J.hd jn_at ?_
  conv => arg 1; simp (disch := first | exact Zd | fail) only [ZZ, d166_at, simprocAttr, go_b182, bodyOf, Tryz.f182, d182_at, RI, RIk, initE, SE]
  unfold slices_Concat_bool.W3
  refine J.loop (fun (s : Int × Int) => ([(0, .arr x1.length (lm (avl (bk)) x1)), (3, .v (.int .i64 s.1)), (9, .arr x1.length (lm (avl (bk)) x1)), (10, .v (.int .i64 (x1.length : Int))), (11, .v (.int .i64 s.2))], [])) (fun next s => slices_Concat_bool.L3 fu x1 (fun x14 x15 => next (x14, x15)) s.1 s.2) (s0 := (0, 0)) ?_ ?_ ?_
  ·exact Ze
  ·exact Zh
  rintro next k3 hn3 ⟨x14, x15⟩
  let nx3 : Int → Int → Option (List Bool) := (fun x14 x15 => next (x14, x15))
  show J _ (slices_Concat_bool.L3 fu x1 nx3 x14 x15) _
  unfold slices_Concat_bool.L3
  conv => arg 1; simp (disch := first | exact Zd | fail) only [ZZ, d166_at, simprocAttr, go_b182, bodyOf, Tryz.f182, d182_at, RI, RIk, initE, SE]
  refine J.eq go_seq ?_
  conv => arg 1; simp (disch := first | exact Zd | fail) only [ZZ, d166_at, simprocAttr, go_b182, bodyOf, Tryz.f182, d182_at, RI, RIk, initE, SE]
  refine J.ite (fun h15 => ?_) (fun h15 => ?_)
  ·have h15' := decide_eq_true h15
   have h15'' : decide ((x1.length : Int) ≤ x15) = false := decide_eq_false (by omega)
   conv => arg 1; simp (disch := first | exact Zd | fail) only [ZZ, d166_at, simprocAttr, go_b182, bodyOf, Tryz.f182, d182_at, RI, RIk, initE, SE, h15'', h15']
   refine J.eq ret_seq ?_
   refine J.eq go_seq ?_
   refine J.at fun x17 h16 h17 h18 => ?_
   conv => arg 1; simp (disch := first | exact Zd | fail) only [ZZ, d166_at, simprocAttr, go_b182, bodyOf, Tryz.f182, d182_at, RI, RIk, initE, SE, h15'', h15', lm_avl h18]
   refine J.ite (fun h19 => ?_) (fun h19 => ?_)
   ·have h19' := decide_eq_true h19
    have h19'' : decide (0 ≤ (wk .i64 (x14 + (x17.length : Int)))) = false := decide_eq_false (by omega)
    exact J.none
   ·have h19' := decide_eq_false h19
    have h19'' : decide (0 ≤ (wk .i64 (x14 + (x17.length : Int)))) = true := decide_eq_true (by omega)
    conv => arg 1; simp (disch := first | exact Zd | fail) only [ZZ, d166_at, simprocAttr, go_b182, bodyOf, Tryz.f182, d182_at, RI, RIk, initE, SE, h15'', h15', lm_avl h18, h19'', h19']
    refine J.eq ret_seq ?_
    conv => arg 1; simp (disch := first | exact Zd | fail) only [ZZ, d166_at, simprocAttr, go_b182, bodyOf, Tryz.f182, d182_at, RI, RIk, initE, SE, h15'', h15', lm_avl h18, h19'', h19']
    refine J.next (s := (wk .i64 (x14 + (x17.length : Int)), wk .i64 (x15 + 1))) hn3 ?_ ?_
    ·exact Ze
    ·exact Zh
  ·have h15' := decide_eq_false h15
   have h15'' : decide ((x1.length : Int) ≤ x15) = true := decide_eq_true (by omega)
   conv => arg 1; simp (disch := first | exact Zd | fail) only [ZZ, d166_at, simprocAttr, go_b182, bodyOf, Tryz.f182, d182_at, RI, RIk, initE, SE, h15'', h15']
   refine J.jmp (t := x14) hj1 ?_ ?_
   ·exact Ze
   ·exact Zh
noncomputable def t166 (fu : Nat) : CallP := noP
theorem t166_ok (fu : Nat) : CpOK Tryz.prog (t166 fu ) := noP_ok
theorem ok166 (fu : Nat) (x1 : List (List Bool)) (r) (h : slices_Concat_bool fu x1 = some r) : PureOK Tryz.prog 166 [.arr x1.length (lm (avl (bk)) x1)] (e166 r) :=
  pureS_J mixed (cp := t166 fu ) (t166_ok fu  ) (ciE_ok mixed (t166_ok fu  ) noI_ok i182 noI_ok) i166 (w166 _ fu x1  ) h
def d150 : List (Nat × List Nat) := [(0, [2]), (0, []), (0, [0, 3, 4])]
def d150_at := by have h := tabL d150.eq_1; simp only [AllAt, Nat.zero_add, Nat.reduceAdd] at h; exact h
theorem i150 : finfo Tryz.prog 150 d150 = some ⟨bodyOf Tryz.f150, [.tmp 2], [25]⟩ := finfo_at Tryz.func150 rfl (by kernel_rfl) (by kernel_rfl)
def e150 : (List Bool) → AV := fun r => .arr r.length (lm (bk) r)
structure K166 (fu : Nat) (cp : CallP) : Prop where
 ap : ∀ {a0 : List (List Bool)} {r}, slices_Concat_bool fu a0 = some r → cp 166 [.arr a0.length (lm (avl (bk)) a0)] = some (.arr r.length (lm (bk) r))
noncomputable def C166 (fu : Nat) : Cm Tryz.prog (List (List Bool)) (List Bool) := ⟨166, fun t => [.arr t.length (lm (avl (bk)) t)], fun t => slices_Concat_bool fu t, e166, fun t b h => ok166 fu t  b h, Zi⟩
theorem u166 {fu : Nat} {cp : CallP} (H : Hit cp (C166 fu).ct) : K166 fu cp := ⟨fun {a0 r} h => (C166 fu).at H a0 r h⟩
set_option maxHeartbeats 20000000 in
theorem w150 (cp : CallP) (fu : Nat) (x1 : List (List Bool)) (H1 : K166 fu cp) : J (go Tryz.prog noC cp noI 0 [] d150 fu (fin Tryz.prog [.tmp 2] [25]) (bodyOf Tryz.f150) (initE 0 [.arr x1.length (lm (avl (bk)) x1)]) [] []) (moves_joined_bool fu x1) e150 := by
 unfold moves_joined_bool e150
 have da := d150_at
 conv => arg 1; simp only [bodyOf, Tryz.f150]
 have z0 := d150_at
 exact Wk
theorem ok150 (fu : Nat) (x1 : List (List Bool)) (r) (h : moves_joined_bool fu x1 = some r) : PureOK Tryz.prog 150 [.arr x1.length (lm (avl (bk)) x1)] (e150 r) := pureT mixed [(C166 fu).ct] (ids := [166]) rfl (by decide) i150 (C := noC) (ci := fun cp => noI) (fun cp ok => noI_ok) (fun cp H => w150 cp fu x1 (u166 H.1)) h
def d90 : List (Nat × List Nat) := [(0, []), (0, [11, 12, 13]), (0, [6, 7, 8, 9, 10, 6000000003, 7000000003, 8000000003]), (0, []), (0, [0]), (0, []), (0, []), (0, []), (0, [15, 16]), (0, []), (19, [5, 17, 18, 19, 20, 21, 22, 23, 24, 25, 26, 27, 28, 29, 30, 31, 32, 33, 34, 35, 36, 37]), (0, []), (0, [38]), (0, []), (0, [39, 40, 41, 42, 43, 44, 45, 46, 47, 48, 49, 50, 51]), (0, []), (0, [3, 52])]
def d90_at := by have h := tabL d90.eq_1; simp only [AllAt, Nat.zero_add, Nat.reduceAdd] at h; exact h
theorem i90 : finfo Tryz.prog 90 d90 = some ⟨bodyOf Tryz.f90, [.cell 2 27], [27]⟩ := finfo_at Tryz.func90 rfl (by kernel_rfl) (by kernel_rfl)
def e90 : T_Tensor → AV := fun r => .agg [.v (.int .i64 r.fType), .fresh 1 r.fDims.length (lm (ik .i64) r.fDims), .arr r.fF.length (lm (ik .u32) r.fF), .arr r.fI.length (lm (ik .i64) r.fI), .arr r.fB.length (lm (bk) r.fB)]
set_option maxHeartbeats 20000000 in
theorem w90 (cp : CallP) (fu : Nat) (x1 : List T_Tensor) (H148_0 : ∀ (a0 : List (List Int)) r, moves_joined_uint32 fu a0 = some r → cp 148 [.arr a0.length (lm (avl (ik .u32)) a0)] = some (.arr r.length (lm (ik .u32) r))) (H149_0 : ∀ (a0 : List (List Int)) r, moves_joined_int64 fu a0 = some r → cp 149 [.arr a0.length (lm (avl (ik .i64)) a0)] = some (.arr r.length (lm (ik .i64) r))) (H150_0 : ∀ (a0 : List (List Bool)) r, moves_joined_bool fu a0 = some r → cp 150 [.arr a0.length (lm (avl (bk)) a0)] = some (.arr r.length (lm (bk) r))) : J (go Tryz.prog noCs cp noI 0 [] d90 fu (fin Tryz.prog [.cell 2 27] [27]) (bodyOf Tryz.f90) (initE 0 [.arr x1.length (fm c_T_Tensor x1)]) [] []) (moves_row fu x1) e90 := by
 unfold moves_row e90
 have da := d90_at
 refine J.at fun x2 h1 h2 h3 => ?_
 replace h3 : x1[0]? = some x2 := h3
 have h3k := fm_cut c_T_Tensor_len h3
 have h3f := fm_fit c_T_Tensor_len h3
 have h3a0 := fm_at (j := 0) c_T_Tensor_len h3 (by decide)
 have h3a1 := fm_at (j := 1) c_T_Tensor_len h3 (by decide)
 have h3a2 := fm_at (j := 2) c_T_Tensor_len h3 (by decide)
 have h3a3 := fm_at (j := 3) c_T_Tensor_len h3 (by decide)
 have h3a4 := fm_at (j := 4) c_T_Tensor_len h3 (by decide)
 simp only [simprocAttr, Nat.zero_mul, Nat.zero_add, Nat.add_zero, List.drop_zero] at h3k h3f h3a0 h3a1 h3a2 h3a3 h3a4
 conv => arg 1; simp (disch := first | exact Zd | fail) only [bodyOf, Tryz.f90, ZZ, d90_at, simprocAttr, aop_callC, aq_callC, h3k, h3f, h3a0, h3a1, h3a2, h3a3, h3a4]
 refine J.joinS (fun (t : (List Int) × (List Int) × (List Bool)) => ([(2, .ptr (0, 2, 0) 0 0), (3, .ptr (0, 3, 0) 0 0)], [((0, 2, 0), .bx true ([.v (.int .i64 0), .v (.slice none 0 0), .v (.slice none 0 0), .v (.slice none 0 0), .v (.slice none 0 0)])), ((0, 3, 0), .bx true ([.v (.int .i64 x2.fType), .v (.slice none 0 0), .arr t.1.length (lm (ik .u32) t.1), .arr t.2.1.length (lm (ik .i64) t.2.1), .arr t.2.2.length (lm (bk) t.2.2)]))])) (fun t => moves_row.k1 fu x2 t.1 t.2.1 t.2.2) ?_ (fun hj1 => ?_)
 ·rintro ⟨x3, x4, x5⟩
  show J _ (moves_row.k1 fu x2 x3 x4 x5) _
  unfold moves_row.k1
  refine J.some ?_
  simp (maxSteps := 20000000) (disch := first | exact Zd | fail) only [ZZ, d90_at, simprocAttr, aop_callC, aq_callC, h3k, h3f, h3a0, h3a1, h3a2, h3a3, h3a4, FN]
 ·refine J.hd jn_at ?_
  conv => arg 1; simp (disch := first | exact Zd | fail) only [ZZ, d90_at, simprocAttr, aop_callC, aq_callC, h3k, h3f, h3a0, h3a1, h3a2, h3a3, h3a4]
  unfold moves_row.W1
  refine J.loop (fun (s : (List Int) × (List Int) × (List Bool) × Int) => ([(2, .ptr (0, 2, 0) 0 0), (3, .ptr (0, 3, 0) 0 0), (11, .arr x1.length (fm c_T_Tensor x1)), (12, .v (.int .i64 (x1.length : Int))), (13, .v (.int .i64 s.2.2.2))], [((0, 2, 0), .bx true ([.v (.int .i64 0), .v (.slice none 0 0), .v (.slice none 0 0), .v (.slice none 0 0), .v (.slice none 0 0)])), ((0, 3, 0), .bx true ([.v (.int .i64 x2.fType), .v (.slice none 0 0), .arr s.1.length (lm (ik .u32) s.1), .arr s.2.1.length (lm (ik .i64) s.2.1), .arr s.2.2.1.length (lm (bk) s.2.2.1)]))])) (fun next s => moves_row.L1 fu x1 x2 (fun x9 x10 x11 x12 => next (x9, x10, x11, x12)) s.1 s.2.1 s.2.2.1 s.2.2.2) (s0 := ([], [], [], 0)) ?_ ?_ ?_
  ·exact Ze
  ·exact Zh
  rintro next k1 hn1 ⟨x9, x10, x11, x12⟩
  let nx1 : (List Int) → (List Int) → (List Bool) → Int → Option T_Tensor := (fun x9 x10 x11 x12 => next (x9, x10, x11, x12))
  show J _ (moves_row.L1 fu x1 x2 nx1 x9 x10 x11 x12) _
  unfold moves_row.L1
  conv => arg 1; simp (disch := first | exact Zd | fail) only [ZZ, d90_at, simprocAttr, aop_callC, aq_callC, h3k, h3f, h3a0, h3a1, h3a2, h3a3, h3a4]
  refine J.eq go_seq ?_
  conv => arg 1; simp (disch := first | exact Zd | fail) only [ZZ, d90_at, simprocAttr, aop_callC, aq_callC, h3k, h3f, h3a0, h3a1, h3a2, h3a3, h3a4]
  refine J.ite (fun h4 => ?_) (fun h4 => ?_)
  ·have h4' := decide_eq_true h4
   have h4'' : decide ((x1.length : Int) ≤ x12) = false := decide_eq_false (by omega)
   conv => arg 1; simp (disch := first | exact Zd | fail) only [ZZ, d90_at, simprocAttr, aop_callC, aq_callC, h3k, h3f, h3a0, h3a1, h3a2, h3a3, h3a4, h4'', h4']
   refine J.eq ret_seq ?_
   refine J.eq go_seq ?_
   refine J.at fun x17 h5 h6 h7 => ?_
   refine J.bind fun x18 h8 => ?_
   have e_h8 := H148_0 _ _ h8
   try simp only [NN, NT, LN, simprocAttr, DT] at e_h8
   refine J.bind fun x19 h9 => ?_
   have e_h9 := H149_0 _ _ h9
   try simp only [NN, NT, LN, simprocAttr, DT] at e_h9
   refine J.bind fun x20 h10 => ?_
   have e_h10 := H150_0 _ _ h10
   try simp only [NN, NT, LN, simprocAttr, DT] at e_h10
   conv => arg 1; simp (disch := first | exact Zd | fail) only [ZZ, d90_at, simprocAttr, aop_callC, aq_callC, h3k, h3f, h3a0, h3a1, h3a2, h3a3, h3a4, h4'', h4', fm_cut c_T_Tensor_len h7, fm_fit c_T_Tensor_len h7, fm_at c_T_Tensor_len h7, fm_at0 c_T_Tensor_len h7, e_h8, e_h9, e_h10]
   refine J.eq ret_seq ?_
   conv => arg 1; simp (disch := first | exact Zd | fail) only [ZZ, d90_at, simprocAttr, aop_callC, aq_callC, h3k, h3f, h3a0, h3a1, h3a2, h3a3, h3a4, h4'', h4', fm_cut c_T_Tensor_len h7, fm_fit c_T_Tensor_len h7, fm_at c_T_Tensor_len h7, fm_at0 c_T_Tensor_len h7, e_h8, e_h9, e_h10]
   refine J.next (s := (x18, x19, x20, wk .i64 (x12 + 1))) hn1 ?_ ?_
   ·exact Ze
   ·exact Zh
  ·have h4' := decide_eq_false h4
   have h4'' : decide ((x1.length : Int) ≤ x12) = true := decide_eq_true (by omega)
   conv => arg 1; simp (disch := first | exact Zd | fail) only [ZZ, d90_at, simprocAttr, aop_callC, aq_callC, h3k, h3f, h3a0, h3a1, h3a2, h3a3, h3a4, h4'', h4']
   refine J.jmp (t := (x9, x10, x11)) hj1 ?_ ?_
   ·exact Ze
   ·exact Zh
noncomputable def t90 (fu : Nat) : CallP := orE 148 (mkC (fun (t : List (List Int)) => ([.arr t.length (lm (avl (ik .u32)) t)] : List AV)) (fun t => moves_joined_uint32 fu t) e148) (orE 149 (mkC (fun (t : List (List Int)) => ([.arr t.length (lm (avl (ik .i64)) t)] : List AV)) (fun t => moves_joined_int64 fu t) e149) (orE 150 (mkC (fun (t : List (List Bool)) => ([.arr t.length (lm (avl (bk)) t)] : List AV)) (fun t => moves_joined_bool fu t) e150) (noP)))
theorem t90_ok (fu : Nat) : CpOK Tryz.prog (t90 fu ) := orE_ok (orE_ok (orE_ok (noP_ok) (mkC_ok (fun t b h => ok150 fu t  b h))) (mkC_ok (fun t b h => ok149 fu t  b h))) (mkC_ok (fun t b h => ok148 fu t  b h))
theorem ok90 (fu : Nat) (x1 : List T_Tensor) (r) (h : moves_row fu x1 = some r) : PureOK Tryz.prog 90 [.arr x1.length (fm c_T_Tensor x1)] (e90 r) :=
  pure_J mixed (cp := t90 fu ) (t90_ok fu  ) noI_ok i90 (w90 _ fu x1  (fun a0 r h => orE_hit (mkC_at (a := a0) (by intro a b h; first | (exact rfl) | (simp only [INJ, IJ] at h; first | exact h | (simp_all [Prod.ext_iff]) )) h)) (fun a0 r h => orE_miss (by decide) (orE_hit (mkC_at (a := a0) (by intro a b h; first | (exact rfl) | (simp only [INJ, IJ] at h; first | exact h | (simp_all [Prod.ext_iff]) )) h))) (fun a0 r h => orE_miss (by decide) (orE_miss (by decide) (orE_hit (mkC_at (a := a0) (by intro a b h; first | (exact rfl) | (simp only [INJ, IJ] at h; first | exact h | (simp_all [Prod.ext_iff]) )) h))))) h
def d91 : List (Nat × List Nat) := [(0, [5]), (0, []), (0, [8, 9, 10]), (0, []), (29, [11, 12, 13, 14, 15, 16, 17, 18, 19, 20, 21, 22, 23, 24, 25, 26, 27, 28, 29, 30, 31, 32, 33, 34, 35, 36, 37, 38]), (0, []), (0, [40, 41]), (0, []), (0, [42, 43, 44, 45, 46, 47, 48, 49, 50]), (0, []), (22, [0, 1, 2, 3, 6, 7, 51, 52, 53, 54, 55, 56, 57, 58, 59, 60, 61, 62, 63, 64, 65, 66, 67, 68, 69, 70, 71])]
def d91_at := by have h := tabL d91.eq_1; simp only [AllAt, Nat.zero_add, Nat.reduceAdd] at h; exact h
theorem i91 : finfo Tryz.prog 91 d91 = some ⟨bodyOf Tryz.f91, [.tmp 5], [3]⟩ := finfo_at Tryz.func91 rfl (by kernel_rfl) (by kernel_rfl)
def e91 : Int → AV := fun r => .v (.int .i64 r)
def moves_move_concat_1.m1 : LJ 1 4 Unit Int := ⟨fun r s e => [(0, er e 0), (1, er e 1), (2, er e 2), (3, er e 3), (6, .v (.int .i64 s))], fun r s h => []⟩
def moves_move_concat_1.j1 : LJ 1 8 Unit Int := ⟨fun r t e => [(0, er e 0), (1, er e 1), (2, er e 2), (3, er e 3), (6, .v (.int .i64 t))], fun r t h => []⟩
set_option maxHeartbeats 20000000 in
open moves_move_concat_1 in
theorem w91 (cp : CallP) (fu : Nat) (x1 : List Int) (x2 : List Int) (x3 : T_moves_move) (x4 : List Int) (H1 : K41 fu cp) (H2 : K44 fu cp) : J (go Tryz.prog noC cp noI 0 [] d91 fu (fin Tryz.prog [.tmp 5] [3]) (bodyOf Tryz.f91) (initE 0 [.arr x1.length (lm (ik .i64) x1), .ref [.arr x2.length (lm (ik .i64) x2)] 0, .ref [.ref (c_T_moves_move x3) 0] 0, .ref [.arr x4.length (lm (ik .i64) x4)] 0]) [] []) (moves_move_concat_1 fu x1 x2 x3 x4) e91 := by
 unfold moves_move_concat_1 e91
 have da := d91_at
 conv => arg 1; simp only [bodyOf, Tryz.f91]
 have z0 := d91_at
 exact Wk
theorem ok91 (fu : Nat) (x1 : List Int) (x2 : List Int) (x3 : T_moves_move) (x4 : List Int) (r) (h : moves_move_concat_1 fu x1 x2 x3 x4 = some r) : PureOK Tryz.prog 91 [.arr x1.length (lm (ik .i64) x1), .ref [.arr x2.length (lm (ik .i64) x2)] 0, .ref [.ref (c_T_moves_move x3) 0] 0, .ref [.arr x4.length (lm (ik .i64) x4)] 0] (e91 r) := pureT mixed [(C41 fu).ct, (C44 fu).ct] (ids := [41, 44]) rfl (by decide) i91 (C := noC) (ci := fun cp => noI) (fun cp ok => noI_ok) (fun cp H => w91 cp fu x1 x2 x3 x4 (u41 H.1) (u44 H.2.1)) h
def d46 : List (Nat × List Nat) := [(0, [0]), (0, [7, 8, 16, 17, 18]), (0, [4001000005, 4001000006]), (0, []), (0, []), (0, []), (0, [13, 14, 15]), (0, []), (0, []), (0, []), (0, [20, 21]), (0, []), (3533694129556768659166605231997298347975395219554738336781267027512689904, [22, 23, 24, 25, 26, 27, 28, 29]), (0, []), (0, [12, 30, 31, 32, 33, 34, 35]), (0, []), (15, [10, 11, 36, 37, 38, 39, 40, 41, 42, 43, 44, 45, 46, 47, 48]), (0, []), (0, [49]), (0, []), (0, [1, 2, 5, 6, 50, 51, 52, 53, 54, 55, 56, 57])]
def d46_at := by have h := tabL d46.eq_1; simp only [AllAt, Nat.zero_add, Nat.reduceAdd] at h; exact h
theorem i46 : finfo Tryz.prog 46 d46 = some ⟨bodyOf Tryz.f46, [.cell 4 27], [27]⟩ := finfo_at Tryz.func46 rfl (by kernel_rfl) (by kernel_rfl)
def e46 : T_Tensor → AV := fun r => .agg [.v (.int .i64 r.fType), .fresh 1 r.fDims.length (lm (ik .i64) r.fDims), .fresh 1 r.fF.length (lm (ik .u32) r.fF), .fresh 1 r.fI.length (lm (ik .i64) r.fI), .fresh 1 r.fB.length (lm (bk) r.fB)]
set_option maxHeartbeats 20000000 in
theorem w46 (cp : CallP) (fu : Nat) (x1 : T_moves_move) (x2 : List Int) (H32_0 : ∀ (a0 : List Int) r, shape_Size fu a0 = some r → cp 32 [.arr a0.length (lm (ik .i64) a0)] = some (.tuple [.v (.int .i64 r.1), .v (.int .i64 r.2)])) (H90_0 : ∀ (a0 : List T_Tensor) r, moves_row fu a0 = some r → cp 90 [.arr a0.length (fm c_T_Tensor a0)] = some (.agg [.v (.int .i64 r.fType), .fresh 1 r.fDims.length (lm (ik .i64) r.fDims), .arr r.fF.length (lm (ik .u32) r.fF), .arr r.fI.length (lm (ik .i64) r.fI), .arr r.fB.length (lm (bk) r.fB)])) (H42_0 : ∀ (a0 : T_Tensor) (a1 : List Int) (c2 : List Int) (c3 : T_moves_move) (c4 : List Int) r, moves_picked fu a0 a1 (fun y0 => moves_move_concat_1 fu y0 c2 c3 c4) = some r → cp 42 [.agg (c_T_Tensor a0), .arr a1.length (lm (ik .i64) a1), .fn 91 [] [.ref [.arr c2.length (lm (ik .i64) c2)] 0, .ref [.ref (c_T_moves_move c3) 0] 0, .ref [.arr c4.length (lm (ik .i64) c4)] 0]] = some (.agg [.v (.int .i64 r.fType), .fresh 1 r.fDims.length (lm (ik .i64) r.fDims), .fresh 1 r.fF.length (lm (ik .u32) r.fF), .fresh 1 r.fI.length (lm (ik .i64) r.fI), .fresh 1 r.fB.length (lm (bk) r.fB)])) : J (go Tryz.prog noC cp noI 0 [] d46 fu (fin Tryz.prog [.cell 4 27] [27]) (bodyOf Tryz.f46) (initE 0 [.ref (c_T_moves_move x1) 0, .arr x2.length (lm (ik .i64) x2)]) [] []) (moves_move_concat fu x1 x2) e46 := by
 unfold moves_move_concat e46
 have da := d46_at
 refine J.chk fun h1 => ?_
 conv => arg 1; simp (disch := first | exact Zd | fail) only [bodyOf, Tryz.f46, ZZ, d46_at, simprocAttr, RL, h1]
 refine J.joinS (fun (t : (List Int) × (List Int)) => ([(1, .arr x2.length (lm (ik .i64) x2)), (2, .ptr (0, 2, 0) 0 0), (4, .ptr (0, 4, 0) 0 0), (5, .ptr (0, 5, 0) 0 0), (6, .ptr (0, 6, 0) 0 0)], [((0, 2, 0), .bx true ([.ref [.v (.int .i64 47), .v (.int .i64 x1.fs.fAxis), .arr x1.fs.fAxes.length (lm (ik .i64) x1.fs.fAxes), .v (.bool x1.fs.fHasAxes), .v (.bool x1.fs.fKeep), .v (.bool x1.fs.fNoop), .v (.bool x1.fs.fLast), .v (.bool x1.fs.fZero), .arr x1.fs.fPerm.length (lm (ik .i64) x1.fs.fPerm), .v (.bool x1.fs.fHasPerm), .v (.int .u32 x1.fs.fAlpha), .v (.int .u32 x1.fs.fBeta), .v (.int .u32 x1.fs.fEpsilon), .v (.bool x1.fs.fLow), .v (.bool x1.fs.fHigh), .v (.bool x1.fs.fFmod), .v (.int .i64 x1.fs.fTo), .v (.int .i64 x1.fs.fMode), .v (.bool x1.fs.fTransA), .v (.bool x1.fs.fTransB), .v (.int .i64 x1.fs.fGroup), .arr x1.fs.fKernel.length (lm (ik .i64) x1.fs.fKernel), .arr x1.fs.fStrides.length (lm (ik .i64) x1.fs.fStrides), .arr x1.fs.fPads.length (lm (ik .i64) x1.fs.fPads), .arr x1.fs.fDilations.length (lm (ik .i64) x1.fs.fDilations), .v (.int .i64 x1.fs.fAuto), .v (.bool x1.fs.fCeil), .v (.bool x1.fs.fCount), .v (.int .i64 x1.fs.fBlock), .v (.int .i64 x1.fs.fStart), .v (.int .i64 x1.fs.fEnd), .v (.bool x1.fs.fHasEnd), .v (.int .i64 x1.fs.fValue.fType), .arr x1.fs.fValue.fDims.length (lm (ik .i64) x1.fs.fValue.fDims), .arr x1.fs.fValue.fF.length (lm (ik .u32) x1.fs.fValue.fF), .arr x1.fs.fValue.fI.length (lm (ik .i64) x1.fs.fValue.fI), .arr x1.fs.fValue.fB.length (lm (bk) x1.fs.fValue.fB), .arr x1.fin.length (fm c_T_Tensor x1.fin), .v (.int .i64 x1.fx.fType), .arr x1.fx.fDims.length (lm (ik .i64) x1.fx.fDims), .arr x1.fx.fF.length (lm (ik .u32) x1.fx.fF), .arr x1.fx.fI.length (lm (ik .i64) x1.fx.fI), .arr x1.fx.fB.length (lm (bk) x1.fx.fB), .v (.int .i64 x1.faxis)] 0])), ((0, 4, 0), .bx true ([.v (.int .i64 0), .v (.slice none 0 0), .v (.slice none 0 0), .v (.slice none 0 0), .v (.slice none 0 0)])), ((0, 5, 0), .bx true ([.own (0, 5, 78) 0 t.1.length t.1.length])), ((0, 6, 0), .bx true ([.own (0, 6, 78) 0 t.2.length t.2.length])), ((0, 5, 78), .sl true true 1 t.1.length (lm (ik .i64) t.1)), ((0, 6, 78), .sl true true 1 t.2.length (lm (ik .i64) t.2))])) (fun t => moves_move_concat.k1 fu x1 x2 t.1 t.2) ?_ (fun hj1 => ?_)
 ·rintro ⟨x3, x4⟩
  show J _ (moves_move_concat.k1 fu x1 x2 x3 x4) _
  unfold moves_move_concat.k1
  refine J.bind fun x5 h2 => ?_
  have e_h2 := H90_0 _ _ h2
  try simp only [NN, NT, LN, simprocAttr, DT] at e_h2
  refine J.bind fun x6 h3 => ?_
  have e_h3 := H42_0 _ _ _ _ _ _ h3
  try simp only [NN, NT, LN, simprocAttr, DT] at e_h3
  refine J.some ?_
  simp (maxSteps := 20000000) (disch := first | exact Zd | fail) only [ZZ, d46_at, simprocAttr, RL, h1, e_h2, e_h3, FN]
 ·refine J.hd jn_at ?_
  conv => arg 1; simp (disch := first | exact Zd | fail) only [ZZ, d46_at, simprocAttr, RL, h1]
  unfold moves_move_concat.W1
  refine J.loop (fun (s : (List Int) × (List Int) × Int × Int × Int) => ([(1, .arr x2.length (lm (ik .i64) x2)), (2, .ptr (0, 2, 0) 0 0), (4, .ptr (0, 4, 0) 0 0), (5, .ptr (0, 5, 0) 0 0), (6, .ptr (0, 6, 0) 0 0), (7, .v (.int .i64 s.2.2.1)), (8, .v (.int .i64 s.2.2.2.1)), (16, .arr x1.fin.length (fm c_T_Tensor x1.fin)), (17, .v (.int .i64 (x1.fin.length : Int))), (18, .v (.int .i64 s.2.2.2.2))], [((0, 2, 0), .bx true ([.ref [.v (.int .i64 47), .v (.int .i64 x1.fs.fAxis), .arr x1.fs.fAxes.length (lm (ik .i64) x1.fs.fAxes), .v (.bool x1.fs.fHasAxes), .v (.bool x1.fs.fKeep), .v (.bool x1.fs.fNoop), .v (.bool x1.fs.fLast), .v (.bool x1.fs.fZero), .arr x1.fs.fPerm.length (lm (ik .i64) x1.fs.fPerm), .v (.bool x1.fs.fHasPerm), .v (.int .u32 x1.fs.fAlpha), .v (.int .u32 x1.fs.fBeta), .v (.int .u32 x1.fs.fEpsilon), .v (.bool x1.fs.fLow), .v (.bool x1.fs.fHigh), .v (.bool x1.fs.fFmod), .v (.int .i64 x1.fs.fTo), .v (.int .i64 x1.fs.fMode), .v (.bool x1.fs.fTransA), .v (.bool x1.fs.fTransB), .v (.int .i64 x1.fs.fGroup), .arr x1.fs.fKernel.length (lm (ik .i64) x1.fs.fKernel), .arr x1.fs.fStrides.length (lm (ik .i64) x1.fs.fStrides), .arr x1.fs.fPads.length (lm (ik .i64) x1.fs.fPads), .arr x1.fs.fDilations.length (lm (ik .i64) x1.fs.fDilations), .v (.int .i64 x1.fs.fAuto), .v (.bool x1.fs.fCeil), .v (.bool x1.fs.fCount), .v (.int .i64 x1.fs.fBlock), .v (.int .i64 x1.fs.fStart), .v (.int .i64 x1.fs.fEnd), .v (.bool x1.fs.fHasEnd), .v (.int .i64 x1.fs.fValue.fType), .arr x1.fs.fValue.fDims.length (lm (ik .i64) x1.fs.fValue.fDims), .arr x1.fs.fValue.fF.length (lm (ik .u32) x1.fs.fValue.fF), .arr x1.fs.fValue.fI.length (lm (ik .i64) x1.fs.fValue.fI), .arr x1.fs.fValue.fB.length (lm (bk) x1.fs.fValue.fB), .arr x1.fin.length (fm c_T_Tensor x1.fin), .v (.int .i64 x1.fx.fType), .arr x1.fx.fDims.length (lm (ik .i64) x1.fx.fDims), .arr x1.fx.fF.length (lm (ik .u32) x1.fx.fF), .arr x1.fx.fI.length (lm (ik .i64) x1.fx.fI), .arr x1.fx.fB.length (lm (bk) x1.fx.fB), .v (.int .i64 x1.faxis)] 0])), ((0, 4, 0), .bx true ([.v (.int .i64 0), .v (.slice none 0 0), .v (.slice none 0 0), .v (.slice none 0 0), .v (.slice none 0 0)])), ((0, 5, 0), .bx true ([.own (0, 5, 78) 0 s.1.length s.1.length])), ((0, 6, 0), .bx true ([.own (0, 6, 78) 0 s.2.1.length s.2.1.length])), ((0, 5, 78), .sl true true 1 s.1.length (lm (ik .i64) s.1)), ((0, 6, 78), .sl true true 1 s.2.1.length (lm (ik .i64) s.2.1))])) (fun next s => moves_move_concat.L1 fu x1 x2 (fun x10 x11 x12 x13 x14 => next (x10, x11, x12, x13, x14)) s.1 s.2.1 s.2.2.1 s.2.2.2.1 s.2.2.2.2) (s0 := (([] : List Int), ([] : List Int), 0, 0, 0)) ?_ ?_ ?_
  ·exact Ze
  ·exact Zh
  rintro next k1 hn1 ⟨x10, x11, x12, x13, x14⟩
  let nx1 : (List Int) → (List Int) → Int → Int → Int → Option T_Tensor := (fun x10 x11 x12 x13 x14 => next (x10, x11, x12, x13, x14))
  show J _ (moves_move_concat.L1 fu x1 x2 nx1 x10 x11 x12 x13 x14) _
  unfold moves_move_concat.L1
  conv => arg 1; simp (disch := first | exact Zd | fail) only [ZZ, d46_at, simprocAttr, RL, h1]
  refine J.eq go_seq ?_
  conv => arg 1; simp (disch := first | exact Zd | fail) only [ZZ, d46_at, simprocAttr, RL, h1]
  refine J.ite (fun h4 => ?_) (fun h4 => ?_)
  ·have h4' := decide_eq_true h4
   have h4'' : decide ((x1.fin.length : Int) ≤ x14) = false := decide_eq_false (by omega)
   conv => arg 1; simp (disch := first | exact Zd | fail) only [ZZ, d46_at, simprocAttr, RL, h1, h4'', h4']
   refine J.eq ret_seq ?_
   refine J.eq go_seq ?_
   refine J.at fun x18 h5 h6 h7 => ?_
   refine J.chk fun h8 => ?_
   refine J.chk fun h9 => ?_
   refine J.bind fun x19 h10 => ?_
   have e_h10 := H32_0 _ _ h10
   try simp only [NN, NT, LN, simprocAttr, DT] at e_h10
   refine J.at fun x20 h11 h12 h13 => ?_
   conv => arg 1; simp (disch := first | exact Zd | fail) only [ZZ, d46_at, simprocAttr, RL, h1, h4'', h4', fm_cut c_T_Tensor_len h7, fm_fit c_T_Tensor_len h7, fm_at c_T_Tensor_len h7, fm_at0 c_T_Tensor_len h7, e_h10, lm_ik h13]
   refine J.eq ret_seq ?_
   conv => arg 1; simp (disch := first | exact Zd | fail) only [ZZ, d46_at, simprocAttr, RL, h1, h4'', h4', fm_cut c_T_Tensor_len h7, fm_fit c_T_Tensor_len h7, fm_at c_T_Tensor_len h7, fm_at0 c_T_Tensor_len h7, e_h10, lm_ik h13]
   refine J.next (s := (x10 ++ ([x12]), x11 ++ ([x13]), wk .i64 (x12 + x19.1), wk .i64 (x13 + x20), wk .i64 (x14 + 1))) hn1 ?_ ?_
   ·exact Ze
   ·exact Zh
  ·have h4' := decide_eq_false h4
   have h4'' : decide ((x1.fin.length : Int) ≤ x14) = true := decide_eq_true (by omega)
   conv => arg 1; simp (disch := first | exact Zd | fail) only [ZZ, d46_at, simprocAttr, RL, h1, h4'', h4']
   refine J.jmp (t := (x10, x11)) hj1 ?_ ?_
   ·exact Ze
   ·exact Zh
noncomputable def t46 (fu : Nat) : CallP := orE 32 (mkC (fun (t : List Int) => ([.arr t.length (lm (ik .i64) t)] : List AV)) (fun t => shape_Size fu t) e32) (orE 90 (mkC (fun (t : List T_Tensor) => ([.arr t.length (fm c_T_Tensor t)] : List AV)) (fun t => moves_row fu t) e90) (orE 42 (mkC (fun (t : T_Tensor × (List Int) × (List Int) × T_moves_move × (List Int)) => ([.agg (c_T_Tensor t.1), .arr t.2.1.length (lm (ik .i64) t.2.1), .fn 91 [] [.ref [.arr t.2.2.1.length (lm (ik .i64) t.2.2.1)] 0, .ref [.ref (c_T_moves_move t.2.2.2.1) 0] 0, .ref [.arr t.2.2.2.2.length (lm (ik .i64) t.2.2.2.2)] 0]] : List AV)) (fun t => moves_picked fu t.1 t.2.1 (fun y0 => moves_move_concat_1 fu y0 t.2.2.1 t.2.2.2.1 t.2.2.2.2)) e42) (noP)))
theorem t46_ok (fu : Nat) : CpOK Tryz.prog (t46 fu ) := orE_ok (orE_ok (orE_ok (noP_ok) (mkC_ok (fun t b h => ok42 fu t.1 t.2.1 (fun y0 => moves_move_concat_1 fu y0 t.2.2.1 t.2.2.2.1 t.2.2.2.2) 91 [.ref [.arr t.2.2.1.length (lm (ik .i64) t.2.2.1)] 0, .ref [.ref (c_T_moves_move t.2.2.2.1) 0] 0, .ref [.arr t.2.2.2.2.length (lm (ik .i64) t.2.2.2.2)] 0] rfl rfl (Capt.ref (Capt.ref (Capt.ref Capt.nil))) (fun y0 r h => ok91 fu y0 t.2.2.1 t.2.2.2.1 t.2.2.2.2 r h) b h))) (mkC_ok (fun t b h => ok90 fu t  b h))) (mkC_ok (fun t b h => ok32 fu t  b h))
theorem ok46 (fu : Nat) (x1 : T_moves_move) (x2 : List Int) (r) (h : moves_move_concat fu x1 x2 = some r) : PureOK Tryz.prog 46 [.ref (c_T_moves_move x1) 0, .arr x2.length (lm (ik .i64) x2)] (e46 r) :=
  pure_J mixed (cp := t46 fu ) (t46_ok fu  ) noI_ok i46 (w46 _ fu x1 x2  (fun a0 r h => orE_hit (mkC_at (a := a0) (by intro a b h; first | (exact rfl) | (simp only [INJ, IJ] at h; first | exact h | (simp_all [Prod.ext_iff]) )) h)) (fun a0 r h => orE_miss (by decide) (orE_hit (mkC_at (a := a0) (by intro a b h; first | (exact rfl) | (simp only [INJ, IJ] at h; first | exact h | (simp_all [Prod.ext_iff]) )) h))) (fun a0 a1 c2 c3 c4 r h => orE_miss (by decide) (orE_miss (by decide) (orE_hit (mkC_at (a := (a0, a1, c2, c3, c4)) (by intro a b h; first | (exact rfl) | (simp only [INJ, IJ] at h; first | exact h | (simp_all [Prod.ext_iff]) )) h))))) h
open Aw (d25)
def d25_at := by have h := tabL Aw.d25.eq_1; simp only [AllAt, Nat.zero_add, Nat.reduceAdd] at h; exact h
theorem i25 : finfo Tryz.prog 25 d25 = some ⟨bodyOf Tryz.f25, [.cell 6 27], [27]⟩ := finfo_at Tryz.func25 rfl (by kernel_rfl) (by kernel_rfl)
def e25 : T_Tensor → AV := fun r => .agg [.v (.int .i64 r.fType), .arr r.fDims.length (lm (ik .i64) r.fDims), .arr r.fF.length (lm (ik .u32) r.fF), .arr r.fI.length (lm (ik .i64) r.fI), .arr r.fB.length (lm (bk) r.fB)]
structure K46 (fu : Nat) (cp : CallP) : Prop where
 ap : ∀ {a0 : T_moves_move} {a1 : List Int} {r}, moves_move_concat fu a0 a1 = some r → cp 46 [.ref (c_T_moves_move a0) 0, .arr a1.length (lm (ik .i64) a1)] = some (.agg [.v (.int .i64 r.fType), .fresh 1 r.fDims.length (lm (ik .i64) r.fDims), .fresh 1 r.fF.length (lm (ik .u32) r.fF), .fresh 1 r.fI.length (lm (ik .i64) r.fI), .fresh 1 r.fB.length (lm (bk) r.fB)])
noncomputable def C46 (fu : Nat) : Cm Tryz.prog (T_moves_move × (List Int)) T_Tensor := ⟨46, fun t => [.ref (c_T_moves_move t.1) 0, .arr t.2.length (lm (ik .i64) t.2)], fun t => moves_move_concat fu t.1 t.2, e46, fun t b h => ok46 fu t.1 t.2  b h, Zi⟩
theorem u46 {fu : Nat} {cp : CallP} (H : Hit cp (C46 fu).ct) : K46 fu cp := ⟨fun {a0 a1 r} h => (C46 fu).at H (a0, a1) r h⟩
set_option maxHeartbeats 20000000 in
theorem w25 (cp : CallP) (fu : Nat) (x1 : T_moves_move) (x2 : List Int) (x3 : List Int) (H1 : K46 fu cp) : J (go Tryz.prog noC cp noI 0 [] d25 fu (finS Tryz.prog [.cell 6 27] [27]) (bodyOf Tryz.f25) (initE 0 [.ref (c_T_moves_move x1) 0, .arr x2.length (lm (ik .i64) x2), .arr x3.length (lm (ik .i64) x3)]) [] []) (moves_move_one fu x1 x2 x3) e25 := by
 unfold moves_move_one e25
 have da := d25_at
 conv => arg 1; simp only [bodyOf, Tryz.f25]
 have z0 := d25_at
 have z1 := SE
 have z2 := RL
 exact Wk
theorem ok25 (fu : Nat) (x1 : T_moves_move) (x2 : List Int) (x3 : List Int) (r) (h : moves_move_one fu x1 x2 x3 = some r) : PureOK Tryz.prog 25 [.ref (c_T_moves_move x1) 0, .arr x2.length (lm (ik .i64) x2), .arr x3.length (lm (ik .i64) x3)] (e25 r) := pureST mixed [(C46 fu).ct] (ids := [46]) rfl (by decide) i25 (C := noC) (ci := fun cp => noI) (fun cp ok => noI_ok) (fun cp H => w25 cp fu x1 x2 x3 (u46 H.1)) h
def d10 : List (Nat × List Nat) := [(0, [1, 8, 9]), (0, [25, 26, 27]), (0, [18, 19]), (0, []), (0, []), (0, []), (0, [21, 22, 23, 24, 41005000010]), (0, []), (0, []), (0, []), (0, []), (0, []), (0, [29, 30]), (0, []), (0, [31, 32]), (0, []), (0, [34, 35]), (0, []), (0, [36]), (0, []), (0, [38]), (0, []), (1008, [12, 13, 39, 40, 41, 42, 43, 44, 45, 46, 47, 48, 49]), (0, []), (0, [50]), (0, []), (11, [2, 3, 51, 52, 53, 54, 55, 56, 57, 58, 59]), (0, []), (0, [60]), (0, []), (0, [62]), (0, []), (0, [15, 63, 64, 65, 66, 67, 68, 69, 70, 71]), (0, []), (23384026197294446691298571404717660483291694666880, [5, 72, 73, 74, 75, 76, 77, 78, 79, 80, 81, 82, 83, 84, 85, 86]), (0, []), (0, []), (0, []), (0, [87, 88, 89, 90, 91, 92, 93, 94, 95]), (0, []), (0, [17]), (0, []), (0, [97, 98, 99, 100, 101]), (0, []), (0, [17, 102]), (0, []), (0, []), (0, []), (0, [0, 104]), (0, []), (0, [106, 107, 108]), (0, []), (0, [10, 14, 16, 109, 110, 111, 112, 113, 114, 115, 116])]
def d10_at := by have h := tabL d10.eq_1; simp only [AllAt, Nat.zero_add, Nat.reduceAdd] at h; exact h
theorem i10 : finfo Tryz.prog 10 d10 = some ⟨bodyOf Tryz.f10, [.tmp 8, .tmp 9], [29, 30]⟩ := finfo_at Tryz.func10 rfl (by kernel_rfl) (by kernel_rfl)
def e10 : ((List T_Tensor) × Int) → AV := fun r => .tuple [.arr r.1.length (fm c_T_Tensor r.1), .v (.int .i64 r.2)]
structure K17 (fu : Nat) (cp : CallP) : Prop where
 ap : ∀ {a0 : Int} {r}, moves_Has fu a0 = some r → cp 17 [.v (.int .i64 a0)] = some (.v (.bool r))
noncomputable def C17 (fu : Nat) : Cm Tryz.prog Int Bool := ⟨17, fun t => [.v (.int .i64 t)], fun t => moves_Has fu t, e17, fun t b h => ok17 fu t  b h, Zi⟩
theorem u17 {fu : Nat} {cp : CallP} (H : Hit cp (C17 fu).ct) : K17 fu cp := ⟨fun {a0 r} h => (C17 fu).at H a0 r h⟩
structure K19 (fu : Nat) (cp : CallP) : Prop where
 ap : ∀ {a0 : T_Tensor} {r}, tens_Canon fu a0 = some r → cp 19 [.agg (c_T_Tensor a0)] = some (.agg [.v (.int .i64 r.fType), .fresh 1 r.fDims.length (lm (ik .i64) r.fDims), .fresh 1 r.fF.length (lm (ik .u32) r.fF), .fresh 1 r.fI.length (lm (ik .i64) r.fI), .fresh 1 r.fB.length (lm (bk) r.fB)])
noncomputable def C19 (fu : Nat) : Cm Tryz.prog T_Tensor T_Tensor := ⟨19, fun t => [.agg (c_T_Tensor t)], fun t => tens_Canon fu t, e19, fun t b h => ok19 fu t  b h, Zi⟩
theorem u19 {fu : Nat} {cp : CallP} (H : Hit cp (C19 fu).ct) : K19 fu cp := ⟨fun {a0 r} h => (C19 fu).at H a0 r h⟩
structure K21 (fu : Nat) (cp : CallP) : Prop where
 ap : ∀ {a0 : List T_Tensor} {r}, ewise_Vals fu a0 = some r → cp 21 [.arr a0.length (fm c_T_Tensor a0)] = some (.arr r.length (fm c_T_Val r))
noncomputable def C21 (fu : Nat) : Cm Tryz.prog (List T_Tensor) (List T_Val) := ⟨21, fun t => [.arr t.length (fm c_T_Tensor t)], fun t => ewise_Vals fu t, e21, fun t b h => ok21 fu t  b h, Zi⟩
theorem u21 {fu : Nat} {cp : CallP} (H : Hit cp (C21 fu).ct) : K21 fu cp := ⟨fun {a0 r} h => (C21 fu).at H a0 r h⟩
structure K20 (fu : Nat) (cp : CallP) : Prop where
 ap : ∀ {a0 : Int} {a1 : T_Setting} {a2 : List T_Val} {a3 : Int} {r}, infer_Node fu a0 a1 a2 a3 = some r → cp 20 [.v (.int .i64 a0), .agg (c_T_Setting a1), .arr a2.length (fm c_T_Val a2), .v (.int .i64 a3)] = some (.tuple [.arr r.1.length (fm c_T_Val r.1), .v (.int .i64 r.2)])
noncomputable def C20 (fu : Nat) : Cm Tryz.prog (Int × T_Setting × (List T_Val) × Int) ((List T_Val) × Int) := ⟨20, fun t => [.v (.int .i64 t.1), .agg (c_T_Setting t.2.1), .arr t.2.2.1.length (fm c_T_Val t.2.2.1), .v (.int .i64 t.2.2.2)], fun t => infer_Node fu t.1 t.2.1 t.2.2.1 t.2.2.2, e20, fun t b h => ok20 fu t.1 t.2.1 t.2.2.1 t.2.2.2  b h, Zi⟩
theorem u20 {fu : Nat} {cp : CallP} (H : Hit cp (C20 fu).ct) : K20 fu cp := ⟨fun {a0 a1 a2 a3 r} h => (C20 fu).at H (a0, a1, a2, a3) r h⟩
structure K24 (fu : Nat) (cp : CallP) : Prop where
 ap : ∀ {a0 : T_moves_move} {a1 : List T_Val} {r}, moves_move_split fu a0 a1 = some r → cp 24 [.ref (c_T_moves_move a0) 0, .arr a1.length (fm c_T_Val a1)] = some (.arr r.length (fm c_T_Tensor r))
noncomputable def C24 (fu : Nat) : Cm Tryz.prog (T_moves_move × (List T_Val)) (List T_Tensor) := ⟨24, fun t => [.ref (c_T_moves_move t.1) 0, .arr t.2.length (fm c_T_Val t.2)], fun t => moves_move_split fu t.1 t.2, e24, fun t b h => ok24 fu t.1 t.2  b h, Zi⟩
theorem u24 {fu : Nat} {cp : CallP} (H : Hit cp (C24 fu).ct) : K24 fu cp := ⟨fun {a0 a1 r} h => (C24 fu).at H (a0, a1) r h⟩
structure K25 (fu : Nat) (cp : CallP) : Prop where
 ap : ∀ {a0 : T_moves_move} {a1 : List Int} {a2 : List Int} {r}, moves_move_one fu a0 a1 a2 = some r → cp 25 [.ref (c_T_moves_move a0) 0, .arr a1.length (lm (ik .i64) a1), .arr a2.length (lm (ik .i64) a2)] = some (.agg [.v (.int .i64 r.fType), .arr r.fDims.length (lm (ik .i64) r.fDims), .arr r.fF.length (lm (ik .u32) r.fF), .arr r.fI.length (lm (ik .i64) r.fI), .arr r.fB.length (lm (bk) r.fB)])
noncomputable def C25 (fu : Nat) : Cm Tryz.prog (T_moves_move × (List Int) × (List Int)) T_Tensor := ⟨25, fun t => [.ref (c_T_moves_move t.1) 0, .arr t.2.1.length (lm (ik .i64) t.2.1), .arr t.2.2.length (lm (ik .i64) t.2.2)], fun t => moves_move_one fu t.1 t.2.1 t.2.2, e25, fun t b h => ok25 fu t.1 t.2.1 t.2.2  b h, Zi⟩
theorem u25 {fu : Nat} {cp : CallP} (H : Hit cp (C25 fu).ct) : K25 fu cp := ⟨fun {a0 a1 a2 r} h => (C25 fu).at H (a0, a1, a2) r h⟩
def moves_Do.j2 : LJ 2 48 Unit Unit := ⟨fun r t e => [(0, er e 0), (10, er e 10), (14, er e 14), (16, er e 16)], fun r t h => [((0, 24, 0), hr h (0, 24, 0)), ((0, 10, 115), hr h (0, 10, 115))]⟩
def moves_Do.m1 : LJ 1 10 Unit ((List T_Tensor) × Int) := ⟨fun r s e => [(0, er e 0), (2, er e 2), (3, er e 3), (5, er e 5), (10, er e 10), (25, er e 25), (26, er e 26), (27, .v (.int .i64 s.2))], fun r s h => [((0, 5, 0), hr h (0, 5, 0)), ((0, 24, 0), bs (hr h (0, 24, 0)) 37 (.own (0, 10, 115) 0 s.1.length s.1.length)), ((0, 10, 115), .sl true true 5 s.1.length (fm c_T_Tensor s.1))]⟩
def moves_Do.j1 : LJ 1 26 Unit (List T_Tensor) := ⟨fun r t e => [(0, er e 0), (2, er e 2), (3, er e 3), (5, er e 5), (10, er e 10)], fun r t h => [((0, 5, 0), hr h (0, 5, 0)), ((0, 24, 0), bs (hr h (0, 24, 0)) 37 (.own (0, 10, 115) 0 t.length t.length)), ((0, 10, 115), .sl true true 5 t.length (fm c_T_Tensor t))]⟩
def moves_Do.j4 : LJ 4 48 Unit Unit := ⟨fun r t e => [(0, er e 0), (10, er e 10), (14, er e 14), (16, er e 16)], fun r t h => [((0, 24, 0), hr h (0, 24, 0)), ((0, 10, 115), hr h (0, 10, 115))]⟩
def moves_Do.m2 : LJ 2 10 Unit ((List T_Tensor) × Int) := ⟨fun r s e => [(0, er e 0), (2, er e 2), (3, er e 3), (5, er e 5), (10, er e 10), (25, er e 25), (26, er e 26), (27, .v (.int .i64 s.2))], fun r s h => [((0, 5, 0), hr h (0, 5, 0)), ((0, 24, 0), bs (hr h (0, 24, 0)) 37 (.own (0, 10, 115) 0 s.1.length s.1.length)), ((0, 10, 115), .sl true true 5 s.1.length (fm c_T_Tensor s.1))]⟩
def moves_Do.j3 : LJ 3 26 Unit (List T_Tensor) := ⟨fun r t e => [(0, er e 0), (2, er e 2), (3, er e 3), (5, er e 5), (10, er e 10)], fun r t h => [((0, 5, 0), hr h (0, 5, 0)), ((0, 24, 0), bs (hr h (0, 24, 0)) 37 (.own (0, 10, 115) 0 t.length t.length)), ((0, 10, 115), .sl true true 5 t.length (fm c_T_Tensor t))]⟩
set_option maxHeartbeats 400000000 in
open moves_Do in
theorem w10 (cp : CallP) (fu : Nat) (x1 : Int) (x2 : T_Setting) (x3 : List T_Tensor) (x4 : Int) (H1 : K17 fu cp) (H2 : K18 fu cp) (H3 : K19 fu cp) (H4 : K21 fu cp) (H5 : K20 fu cp) (H6 : K22 fu cp) (H7 : K24 fu cp) (H8 : K25 fu cp) : J (go Tryz.prog noC cp noI 0 [] d10 fu (finS Tryz.prog [.tmp 8, .tmp 9] [29, 30]) (bodyOf Tryz.f10) (initE 0 [.v (.int .i64 x1), .agg (c_T_Setting x2), .arr x3.length (fm c_T_Tensor x3), .v (.int .i64 x4)]) [] []) (moves_Do fu x1 x2 x3 x4) e10 := by
 unfold moves_Do e10
 have da := d10_at
 conv => arg 1; simp only [bodyOf, Tryz.f10]
 have z0 := d10_at
 have z1 := SE
 have z2 := RL
 exact Wk
theorem ok10 (fu : Nat) (x1 : Int) (x2 : T_Setting) (x3 : List T_Tensor) (x4 : Int) (r) (h : moves_Do fu x1 x2 x3 x4 = some r) : PureOK Tryz.prog 10 [.v (.int .i64 x1), .agg (c_T_Setting x2), .arr x3.length (fm c_T_Tensor x3), .v (.int .i64 x4)] (e10 r) := pureST mixed [(C17 fu).ct, (C18 fu).ct, (C19 fu).ct, (C21 fu).ct, (C20 fu).ct, (C22 fu).ct, (C24 fu).ct, (C25 fu).ct] (ids := [17, 18, 19, 21, 20, 22, 24, 25]) rfl (by decide) i10 (C := noC) (ci := fun cp => noI) (fun cp ok => noI_ok) (fun cp H => w10 cp fu x1 x2 x3 x4 (u17 H.1) (u18 H.2.1) (u19 H.2.2.1) (u21 H.2.2.2.1) (u20 H.2.2.2.2.1) (u22 H.2.2.2.2.2.1) (u24 H.2.2.2.2.2.2.1) (u25 H.2.2.2.2.2.2.2.1)) h
def d27 : List (Nat × List Nat) := [(0, [0]), (0, []), (0, [4, 5, 6]), (0, []), (0, [7, 8, 9, 10, 11, 12]), (0, []), (0, [13, 14, 15, 16, 17, 18]), (0, []), (0, [19, 20, 21, 22, 23, 24]), (0, []), (0, [1, 25, 26, 27, 28, 29, 30]), (0, []), (0, [3, 31])]
def d27_at := by have h := tabL d27.eq_1; simp only [AllAt, Nat.zero_add, Nat.reduceAdd] at h; exact h
theorem i27 : finfo Tryz.prog 27 d27 = some ⟨bodyOf Tryz.f27, [.cell 2 27], [27]⟩ := finfo_at Tryz.func27 rfl (by kernel_rfl) (by kernel_rfl)
def e27 : T_Tensor → AV := fun r => .agg [.v (.int .i64 r.fType), .fresh 1 r.fDims.length (lm (ik .i64) r.fDims), .fresh 1 r.fF.length (lm (ik .u32) r.fF), .fresh 1 r.fI.length (lm (ik .i64) r.fI), .fresh 1 r.fB.length (lm (bk) r.fB)]
set_option maxHeartbeats 20000000 in
theorem w27 (cp : CallP) (fu : Nat) (x1 : T_Tensor)  : J (go Tryz.prog noC cp noI 0 [] d27 fu (fin Tryz.prog [.cell 2 27] [27]) (bodyOf Tryz.f27) (initE 0 [.agg (c_T_Tensor x1)]) [] []) (ref05_Copy fu x1) e27 := by
 unfold ref05_Copy e27
 have da := d27_at
 conv => arg 1; simp only [bodyOf, Tryz.f27]
 have z0 := d27_at
 exact Wk
theorem ok27 (fu : Nat) (x1 : T_Tensor) (r) (h : ref05_Copy fu x1 = some r) : PureOK Tryz.prog 27 [.agg (c_T_Tensor x1)] (e27 r) := pureT mixed [] (ids := []) rfl (by decide) i27 (C := noC) (ci := fun cp => noI) (fun cp ok => noI_ok) (fun cp H => w27 cp fu x1 ) h
def d111 : List (Nat × List Nat) := [(0, [2]), (0, []), (0, [0, 3, 4])]
def d111_at := by have h := tabL d111.eq_1; simp only [AllAt, Nat.zero_add, Nat.reduceAdd] at h; exact h
theorem i111 : finfo Tryz.prog 111 d111 = some ⟨bodyOf Tryz.f111, [.tmp 2], [33]⟩ := finfo_at Tryz.func111 rfl (by kernel_rfl) (by kernel_rfl)
def e111 : Int → AV := fun r => .v (.int .u32 r)
set_option maxHeartbeats 20000000 in
theorem w111 (cp : CallP) (fu : Nat) (x1 : Int)  : J (go Tryz.prog noC cp noI 0 [] d111 fu (fin Tryz.prog [.tmp 2] [33]) (bodyOf Tryz.f111) (initE 0 [.v (.int .u32 x1)]) [] []) (ref01_Abs fu x1) e111 := by
 unfold ref01_Abs e111
 have da := d111_at
 conv => arg 1; simp only [bodyOf, Tryz.f111]
 have z0 := d111_at
 exact Wk
theorem ok111 (fu : Nat) (x1 : Int) (r) (h : ref01_Abs fu x1 = some r) : PureOK Tryz.prog 111 [.v (.int .u32 x1)] (e111 r) := pureT mixed [] (ids := []) rfl (by decide) i111 (C := noC) (ci := fun cp => noI) (fun cp ok => noI_ok) (fun cp H => w111 cp fu x1 ) h
def d56 : List (Nat × List Nat) := [(0, [2]), (0, []), (0, [0, 3, 4, 5])]
def d56_at := by have h := tabL d56.eq_1; simp only [AllAt, Nat.zero_add, Nat.reduceAdd] at h; exact h
theorem i56 : finfo Tryz.prog 56 d56 = some ⟨bodyOf Tryz.f56, [.tmp 2], [4]⟩ := finfo_at Tryz.func56 rfl (by kernel_rfl) (by kernel_rfl)
def e56 : Bool → AV := fun r => .v (.bool r)
structure K111 (fu : Nat) (cp : CallP) : Prop where
 ap : ∀ {a0 : Int} {r}, ref01_Abs fu a0 = some r → cp 111 [.v (.int .u32 a0)] = some (.v (.int .u32 r))
noncomputable def C111 (fu : Nat) : Cm Tryz.prog Int Int := ⟨111, fun t => [.v (.int .u32 t)], fun t => ref01_Abs fu t, e111, fun t b h => ok111 fu t  b h, Zi⟩
theorem u111 {fu : Nat} {cp : CallP} (H : Hit cp (C111 fu).ct) : K111 fu cp := ⟨fun {a0 r} h => (C111 fu).at H a0 r h⟩
set_option maxHeartbeats 20000000 in
theorem w56 (cp : CallP) (fu : Nat) (x1 : Int) (H1 : K111 fu cp) : J (go Tryz.prog noC cp noI 0 [] d56 fu (fin Tryz.prog [.tmp 2] [4]) (bodyOf Tryz.f56) (initE 0 [.v (.int .u32 x1)]) [] []) (ref01_IsNone fu x1) e56 := by
 unfold ref01_IsNone e56
 have da := d56_at
 conv => arg 1; simp only [bodyOf, Tryz.f56]
 have z0 := d56_at
 exact Wk
theorem ok56 (fu : Nat) (x1 : Int) (r) (h : ref01_IsNone fu x1 = some r) : PureOK Tryz.prog 56 [.v (.int .u32 x1)] (e56 r) := pureT mixed [(C111 fu).ct] (ids := [111]) rfl (by decide) i56 (C := noC) (ci := fun cp => noI) (fun cp ok => noI_ok) (fun cp H => w56 cp fu x1 (u111 H.1)) h
def d28 : List (Nat × List Nat) := [(0, [2]), (0, []), (0, [3]), (0, []), (0, []), (0, []), (0, [0, 5])]
def d28_at := by have h := tabL d28.eq_1; simp only [AllAt, Nat.zero_add, Nat.reduceAdd] at h; exact h
theorem i28 : finfo Tryz.prog 28 d28 = some ⟨bodyOf Tryz.f28, [.tmp 2], [33]⟩ := finfo_at Tryz.func28 rfl (by kernel_rfl) (by kernel_rfl)
def e28 : Int → AV := fun r => .v (.int .u32 r)
structure K56 (fu : Nat) (cp : CallP) : Prop where
 ap : ∀ {a0 : Int} {r}, ref01_IsNone fu a0 = some r → cp 56 [.v (.int .u32 a0)] = some (.v (.bool r))
noncomputable def C56 (fu : Nat) : Cm Tryz.prog Int Bool := ⟨56, fun t => [.v (.int .u32 t)], fun t => ref01_IsNone fu t, e56, fun t b h => ok56 fu t  b h, Zi⟩
theorem u56 {fu : Nat} {cp : CallP} (H : Hit cp (C56 fu).ct) : K56 fu cp := ⟨fun {a0 r} h => (C56 fu).at H a0 r h⟩
set_option maxHeartbeats 20000000 in
theorem w28 (cp : CallP) (fu : Nat) (x1 : Int) (H1 : K56 fu cp) : J (go Tryz.prog noC cp noI 0 [] d28 fu (fin Tryz.prog [.tmp 2] [33]) (bodyOf Tryz.f28) (initE 0 [.v (.int .u32 x1)]) [] []) (ref01_Canon fu x1) e28 := by
 unfold ref01_Canon e28
 have da := d28_at
 conv => arg 1; simp only [bodyOf, Tryz.f28]
 have z0 := d28_at
 exact Wk
theorem ok28 (fu : Nat) (x1 : Int) (r) (h : ref01_Canon fu x1 = some r) : PureOK Tryz.prog 28 [.v (.int .u32 x1)] (e28 r) := pureT mixed [(C56 fu).ct] (ids := [56]) rfl (by decide) i28 (C := noC) (ci := fun cp => noI) (fun cp ok => noI_ok) (fun cp H => w28 cp fu x1 (u56 H.1)) h
def d12 : List (Nat × List Nat) := [(0, [0]), (0, [4]), (0, [1, 5, 6]), (0, []), (0, []), (0, []), (0, [7, 8, 9, 10]), (0, []), (0, [12, 13]), (0, []), (10, [14, 15, 16, 17, 18, 19, 20, 21, 22, 23]), (0, []), (0, [3, 24])]
def d12_at := by have h := tabL d12.eq_1; simp only [AllAt, Nat.zero_add, Nat.reduceAdd] at h; exact h
theorem i12 : finfo Tryz.prog 12 d12 = some ⟨bodyOf Tryz.f12, [.cell 2 27], [27]⟩ := finfo_at Tryz.func12 rfl (by kernel_rfl) (by kernel_rfl)
def e12 : T_Tensor → AV := fun r => .agg [.v (.int .i64 r.fType), .fresh 1 r.fDims.length (lm (ik .i64) r.fDims), .fresh 1 r.fF.length (lm (ik .u32) r.fF), .fresh 1 r.fI.length (lm (ik .i64) r.fI), .fresh 1 r.fB.length (lm (bk) r.fB)]
structure K27 (fu : Nat) (cp : CallP) : Prop where
 ap : ∀ {a0 : T_Tensor} {r}, ref05_Copy fu a0 = some r → cp 27 [.agg (c_T_Tensor a0)] = some (.agg [.v (.int .i64 r.fType), .fresh 1 r.fDims.length (lm (ik .i64) r.fDims), .fresh 1 r.fF.length (lm (ik .u32) r.fF), .fresh 1 r.fI.length (lm (ik .i64) r.fI), .fresh 1 r.fB.length (lm (bk) r.fB)])
noncomputable def C27 (fu : Nat) : Cm Tryz.prog T_Tensor T_Tensor := ⟨27, fun t => [.agg (c_T_Tensor t)], fun t => ref05_Copy fu t, e27, fun t b h => ok27 fu t  b h, Zi⟩
theorem u27 {fu : Nat} {cp : CallP} (H : Hit cp (C27 fu).ct) : K27 fu cp := ⟨fun {a0 r} h => (C27 fu).at H a0 r h⟩
structure K28 (fu : Nat) (cp : CallP) : Prop where
 ap : ∀ {a0 : Int} {r}, ref01_Canon fu a0 = some r → cp 28 [.v (.int .u32 a0)] = some (.v (.int .u32 r))
noncomputable def C28 (fu : Nat) : Cm Tryz.prog Int Int := ⟨28, fun t => [.v (.int .u32 t)], fun t => ref01_Canon fu t, e28, fun t b h => ok28 fu t  b h, Zi⟩
theorem u28 {fu : Nat} {cp : CallP} (H : Hit cp (C28 fu).ct) : K28 fu cp := ⟨fun {a0 r} h => (C28 fu).at H a0 r h⟩
def ref05_Canon.m1 : LJ 1 6 Unit ((List Int) × Int) := ⟨fun r s e => [(2, er e 2), (3, er e 3), (4, .v (.int .i64 s.2))], fun r s h => [((0, 2, 0), hr h (0, 2, 0)), ((0, 6, 0), hr h (0, 6, 0)), ((0, 6, 1), .sl true true 1 s.1.length (lm (ik .u32) s.1)), ((0, 6, 2), hr h (0, 6, 2)), ((0, 6, 3), hr h (0, 6, 3)), ((0, 3, 0), bs (hr h (0, 3, 0)) 2 (.own (0, 6, 1) 0 s.1.length s.1.length))]⟩
set_option maxHeartbeats 20000000 in
open ref05_Canon in
theorem w12 (cp : CallP) (fu : Nat) (x1 : T_Tensor) (H1 : K27 fu cp) (H2 : K28 fu cp) : J (go Tryz.prog noC cp noI 0 [] d12 fu (fin Tryz.prog [.cell 2 27] [27]) (bodyOf Tryz.f12) (initE 0 [.agg (c_T_Tensor x1)]) [] []) (ref05_Canon fu x1) e12 := by
 unfold ref05_Canon e12
 have da := d12_at
 conv => arg 1; simp only [bodyOf, Tryz.f12]
 have z0 := d12_at
 exact Wk
theorem ok12 (fu : Nat) (x1 : T_Tensor) (r) (h : ref05_Canon fu x1 = some r) : PureOK Tryz.prog 12 [.agg (c_T_Tensor x1)] (e12 r) := pureT mixed [(C27 fu).ct, (C28 fu).ct] (ids := [27, 28]) rfl (by decide) i12 (C := noC) (ci := fun cp => noI) (fun cp ok => noI_ok) (fun cp H => w12 cp fu x1 (u27 H.1) (u28 H.2.1)) h
def d26 : List (Nat × List Nat) := [(0, [4]), (0, [0, 1, 5]), (0, [6, 7, 8, 9]), (0, []), (0, []), (0, []), (0, []), (0, []), (0, [11, 12, 13]), (0, []), (0, [15, 16]), (0, []), (9, [17, 18, 19, 20, 21, 22, 23, 24]), (0, []), (0, []), (0, []), (0, [])]
def d26_at := by have h := tabL d26.eq_1; simp only [AllAt, Nat.zero_add, Nat.reduceAdd] at h; exact h
theorem i26 : finfo Tryz.prog 26 d26 = some ⟨bodyOf Tryz.f26, [.tmp 4], [4]⟩ := finfo_at Tryz.func26 rfl (by kernel_rfl) (by kernel_rfl)
def e26 : Bool → AV := fun r => .v (.bool r)
def ref04_SameInts.m1 : LJ 1 8 Unit Int := ⟨fun r s e => [(0, er e 0), (1, er e 1), (5, .v (.int .i64 s))], fun r s h => []⟩
set_option maxHeartbeats 20000000 in
open ref04_SameInts in
theorem w26 (cp : CallP) (fu : Nat) (x1 : List Int) (x2 : List Int)  : J (go Tryz.prog noC cp noI 0 [] d26 fu (fin Tryz.prog [.tmp 4] [4]) (bodyOf Tryz.f26) (initE 0 [.arr x1.length (lm (ik .i64) x1), .arr x2.length (lm (ik .i64) x2)]) [] []) (ref04_SameInts fu x1 x2) e26 := by
 unfold ref04_SameInts e26
 have da := d26_at
 conv => arg 1; simp only [bodyOf, Tryz.f26]
 have z0 := d26_at
 exact Wk
theorem ok26 (fu : Nat) (x1 : List Int) (x2 : List Int) (r) (h : ref04_SameInts fu x1 x2 = some r) : PureOK Tryz.prog 26 [.arr x1.length (lm (ik .i64) x1), .arr x2.length (lm (ik .i64) x2)] (e26 r) := pureT mixed [] (ids := []) rfl (by decide) i26 (C := noC) (ci := fun cp => noI) (fun cp ok => noI_ok) (fun cp H => w26 cp fu x1 x2 ) h
def d11 : List (Nat × List Nat) := [(0, [0, 1, 4]), (0, [5]), (0, [8, 9, 10, 11, 12, 13, 14, 15, 16, 17, 18, 19, 20, 21, 22, 23, 24, 25, 26, 27, 28, 29, 30, 31, 32, 33, 34, 35, 36, 37, 38, 39, 40, 41, 42, 43, 44, 45, 46]), (0, []), (0, []), (0, [6]), (0, []), (0, []), (0, [48, 49, 50, 51]), (0, [2, 3, 7]), (0, [53, 54]), (0, []), (11, [55, 56, 57, 58, 59, 60, 61, 62, 63, 64]), (0, []), (0, []), (0, []), (0, []), (0, []), (0, [66, 67, 68, 69]), (0, []), (0, [71, 72]), (0, []), (11, [73, 74, 75, 76, 77, 78, 79, 80, 81, 82]), (0, []), (0, []), (0, []), (0, []), (0, []), (0, [84, 85, 86, 87]), (0, []), (0, [89, 90]), (0, []), (11, [91, 92, 93, 94, 95, 96, 97, 98, 99, 100]), (0, []), (0, []), (0, []), (0, [])]
def d11_at := by have h := tabL d11.eq_1; simp only [AllAt, Nat.zero_add, Nat.reduceAdd] at h; exact h
theorem i11 : finfo Tryz.prog 11 d11 = some ⟨bodyOf Tryz.f11, [.tmp 4], [4]⟩ := finfo_at Tryz.func11 rfl (by kernel_rfl) (by kernel_rfl)
def e11 : Bool → AV := fun r => .v (.bool r)
structure K26 (fu : Nat) (cp : CallP) : Prop where
 ap : ∀ {a0 : List Int} {a1 : List Int} {r}, ref04_SameInts fu a0 a1 = some r → cp 26 [.arr a0.length (lm (ik .i64) a0), .arr a1.length (lm (ik .i64) a1)] = some (.v (.bool r))
noncomputable def C26 (fu : Nat) : Cm Tryz.prog ((List Int) × (List Int)) Bool := ⟨26, fun t => [.arr t.1.length (lm (ik .i64) t.1), .arr t.2.length (lm (ik .i64) t.2)], fun t => ref04_SameInts fu t.1 t.2, e26, fun t b h => ok26 fu t.1 t.2  b h, Zi⟩
theorem u26 {fu : Nat} {cp : CallP} (H : Hit cp (C26 fu).ct) : K26 fu cp := ⟨fun {a0 a1 r} h => (C26 fu).at H (a0, a1) r h⟩
def ref05_Same.m1 : LJ 1 28 Unit Int := ⟨fun r s e => [(2, er e 2), (3, er e 3), (7, .v (.int .i64 s))], fun r s h => [((0, 2, 0), hr h (0, 2, 0)), ((0, 3, 0), hr h (0, 3, 0))]⟩
def ref05_Same.m2 : LJ 2 18 Unit Int := ⟨fun r s e => [(2, er e 2), (3, er e 3), (6, .v (.int .i64 s))], fun r s h => [((0, 2, 0), hr h (0, 2, 0)), ((0, 3, 0), hr h (0, 3, 0))]⟩
def ref05_Same.j3 : LJ 3 26 Unit Unit := ⟨fun r t e => [(2, er e 2), (3, er e 3)], fun r t h => [((0, 2, 0), hr h (0, 2, 0)), ((0, 3, 0), hr h (0, 3, 0))]⟩
def ref05_Same.m3 : LJ 3 8 Unit Int := ⟨fun r s e => [(2, er e 2), (3, er e 3), (5, .v (.int .i64 s))], fun r s h => [((0, 2, 0), hr h (0, 2, 0)), ((0, 3, 0), hr h (0, 3, 0))]⟩
def ref05_Same.j2 : LJ 2 16 Unit Unit := ⟨fun r t e => [(2, er e 2), (3, er e 3)], fun r t h => [((0, 2, 0), hr h (0, 2, 0)), ((0, 3, 0), hr h (0, 3, 0))]⟩
def ref05_Same.j1 : LJ 1 6 Unit Unit := ⟨fun r t e => [(2, er e 2), (3, er e 3)], fun r t h => [((0, 2, 0), hr h (0, 2, 0)), ((0, 3, 0), hr h (0, 3, 0))]⟩
set_option maxHeartbeats 20000000 in
open ref05_Same in
theorem w11 (cp : CallP) (fu : Nat) (x1 : T_Tensor) (x2 : T_Tensor) (H1 : K26 fu cp) : J (go Tryz.prog noC cp noI 0 [] d11 fu (fin Tryz.prog [.tmp 4] [4]) (bodyOf Tryz.f11) (initE 0 [.agg (c_T_Tensor x1), .agg (c_T_Tensor x2)]) [] []) (ref05_Same fu x1 x2) e11 := by
 unfold ref05_Same e11
 have da := d11_at
 conv => arg 1; simp only [bodyOf, Tryz.f11]
 have z0 := d11_at
 exact Wk
theorem ok11 (fu : Nat) (x1 : T_Tensor) (x2 : T_Tensor) (r) (h : ref05_Same fu x1 x2 = some r) : PureOK Tryz.prog 11 [.agg (c_T_Tensor x1), .agg (c_T_Tensor x2)] (e11 r) := pureT mixed [(C26 fu).ct] (ids := [26]) rfl (by decide) i11 (C := noC) (ci := fun cp => noI) (fun cp ok => noI_ok) (fun cp H => w11 cp fu x1 x2 (u26 H.1)) h
def d4 : List (Nat × List Nat) := [(0, [0, 6]), (0, []), (0, [13]), (0, []), (0, [1, 14, 15]), (0, []), (13, [16, 17, 18, 19, 20, 21, 22, 23, 24, 25, 26]), (0, []), (0, [10, 27]), (0, []), (0, [29, 30, 31, 32, 33, 34]), (0, []), (0, [8, 35, 36, 37, 38, 39, 40]), (0, []), (26, [2, 3, 7, 9, 11, 12, 41, 42, 43, 44, 45, 46, 47, 48, 49, 50, 51, 52, 53, 54, 55, 56, 57, 58, 59, 60, 61, 62, 63, 64, 65])]
def d4_at := by have h := tabL d4.eq_1; simp only [AllAt, Nat.zero_add, Nat.reduceAdd] at h; exact h
theorem i4 : finfo Tryz.prog 4 d4 = some ⟨bodyOf Tryz.f4, [.tmp 6], [4]⟩ := finfo_at Tryz.func4 rfl (by kernel_rfl) (by kernel_rfl)
def e4 : Bool → AV := fun r => .v (.bool r)
noncomputable def C9 : Cm Tryz.prog Unit Bool := ⟨9, fun _ => [], fun _ => some true, fun b => .v (.bool b), fun _ b h => by injection h with h; subst h; exact awake9, fun _ _ _ => rfl⟩
structure K13 (fu : Nat) (cp : CallP) : Prop where
 ap : ∀ {a0 : List Int} {r}, law12_list fu a0 = some r → cp 13 [.arr a0.length (lm (ik .i64) a0)] = some (.agg [.v (.int .i64 r.fType), .arr r.fDims.length (lm (ik .i64) r.fDims), .arr r.fF.length (lm (ik .u32) r.fF), .arr r.fI.length (lm (ik .i64) r.fI), .arr r.fB.length (lm (bk) r.fB)])
noncomputable def C13 (fu : Nat) : Cm Tryz.prog (List Int) T_Tensor := ⟨13, fun t => [.arr t.length (lm (ik .i64) t)], fun t => law12_list fu t, e13, fun t b h => ok13 fu t  b h, Zi⟩
theorem u13 {fu : Nat} {cp : CallP} (H : Hit cp (C13 fu).ct) : K13 fu cp := ⟨fun {a0 r} h => (C13 fu).at H a0 r h⟩
structure K10 (fu : Nat) (cp : CallP) : Prop where
 ap : ∀ {a0 : Int} {a1 : T_Setting} {a2 : List T_Tensor} {a3 : Int} {r}, moves_Do fu a0 a1 a2 a3 = some r → cp 10 [.v (.int .i64 a0), .agg (c_T_Setting a1), .arr a2.length (fm c_T_Tensor a2), .v (.int .i64 a3)] = some (.tuple [.arr r.1.length (fm c_T_Tensor r.1), .v (.int .i64 r.2)])
noncomputable def C10 (fu : Nat) : Cm Tryz.prog (Int × T_Setting × (List T_Tensor) × Int) ((List T_Tensor) × Int) := ⟨10, fun t => [.v (.int .i64 t.1), .agg (c_T_Setting t.2.1), .arr t.2.2.1.length (fm c_T_Tensor t.2.2.1), .v (.int .i64 t.2.2.2)], fun t => moves_Do fu t.1 t.2.1 t.2.2.1 t.2.2.2, e10, fun t b h => ok10 fu t.1 t.2.1 t.2.2.1 t.2.2.2  b h, Zi⟩
theorem u10 {fu : Nat} {cp : CallP} (H : Hit cp (C10 fu).ct) : K10 fu cp := ⟨fun {a0 a1 a2 a3 r} h => (C10 fu).at H (a0, a1, a2, a3) r h⟩
structure K12 (fu : Nat) (cp : CallP) : Prop where
 ap : ∀ {a0 : T_Tensor} {r}, ref05_Canon fu a0 = some r → cp 12 [.agg (c_T_Tensor a0)] = some (.agg [.v (.int .i64 r.fType), .fresh 1 r.fDims.length (lm (ik .i64) r.fDims), .fresh 1 r.fF.length (lm (ik .u32) r.fF), .fresh 1 r.fI.length (lm (ik .i64) r.fI), .fresh 1 r.fB.length (lm (bk) r.fB)])
noncomputable def C12 (fu : Nat) : Cm Tryz.prog T_Tensor T_Tensor := ⟨12, fun t => [.agg (c_T_Tensor t)], fun t => ref05_Canon fu t, e12, fun t b h => ok12 fu t  b h, Zi⟩
theorem u12 {fu : Nat} {cp : CallP} (H : Hit cp (C12 fu).ct) : K12 fu cp := ⟨fun {a0 r} h => (C12 fu).at H a0 r h⟩
structure K11 (fu : Nat) (cp : CallP) : Prop where
 ap : ∀ {a0 : T_Tensor} {a1 : T_Tensor} {r}, ref05_Same fu a0 a1 = some r → cp 11 [.agg (c_T_Tensor a0), .agg (c_T_Tensor a1)] = some (.v (.bool r))
noncomputable def C11 (fu : Nat) : Cm Tryz.prog (T_Tensor × T_Tensor) Bool := ⟨11, fun t => [.agg (c_T_Tensor t.1), .agg (c_T_Tensor t.2)], fun t => ref05_Same fu t.1 t.2, e11, fun t b h => ok11 fu t.1 t.2  b h, Zi⟩
theorem u11 {fu : Nat} {cp : CallP} (H : Hit cp (C11 fu).ct) : K11 fu cp := ⟨fun {a0 a1 r} h => (C11 fu).at H (a0, a1) r h⟩
def law12_MovesParts.j1 : LJ 1 0 ((List T_Tensor) × Int) Unit := ⟨fun r t e => [(2, er e 2), (3, er e 3), (6, .v (.bool (decide ((r.1.length : Int) = 0)))), (7, er e 7), (8, er e 8), (9, er e 9)], fun r t h => [((0, 3, 0), hr h (0, 3, 0)), ((0, 8, 0), hr h (0, 8, 0))]⟩
set_option maxHeartbeats 20000000 in
open law12_MovesParts in
theorem w4 (cp : CallP) (fu : Nat) (x1 : T_Tensor) (x2 : Int) (x3 : List Int) (H1 : cp 9 [] = some (.v (.bool true))) (H2 : K13 fu cp) (H3 : K10 fu cp) (H4 : K12 fu cp) (H5 : K11 fu cp) : J (go Tryz.prog noCs cp noI 0 [] d4 fu (fin Tryz.prog [.tmp 6] [4]) (bodyOf Tryz.f4) (initE 0 [.agg (c_T_Tensor x1), .v (.int .i64 x2), .arr x3.length (lm (ik .i64) x3)]) [] []) (law12_MovesParts fu x1 x2 x3) e4 := by
 unfold law12_MovesParts e4
 have da := d4_at
 conv => arg 1; simp only [bodyOf, Tryz.f4]
 have z0 := d4_at
 have z1 := @aop_callC
 have z2 := @aq_callC
 exact Wk
theorem ok4 (fu : Nat) (x1 : T_Tensor) (x2 : Int) (x3 : List Int) (r) (h : law12_MovesParts fu x1 x2 x3 = some r) : PureOK Tryz.prog 4 [.agg (c_T_Tensor x1), .v (.int .i64 x2), .arr x3.length (lm (ik .i64) x3)] (e4 r) := pureT mixed [C9.ct, (C13 fu).ct, (C10 fu).ct, (C12 fu).ct, (C11 fu).ct] (ids := [9, 13, 10, 12, 11]) rfl (by decide) i4 (C := noCs) (ci := fun cp => noI) (fun cp ok => noI_ok) (fun cp H => w4 cp fu x1 x2 x3 (C9.at H.1 () true rfl) (u13 H.2.1) (u10 H.2.2.1) (u12 H.2.2.2.1) (u11 H.2.2.2.2.1)) h
end Go.Av
