/- The walks of the plain functions, part 2. Made by a program of mine. Conditions: none. -/
import Derived.Test.YtnpnomlnajgbcaaGreatQ6W1
set_option linter.unusedVariables false
set_option linter.unusedSimpArgs false
set_option linter.defProp false
set_option maxRecDepth 20000
open Go Go.Proofs
namespace Go.Av
open Aw (d13 d17 d18 d19 d20 d21 d22 d31 d32 d33 d35 d36 d37 d38 d41 d57 d58 d59 d60 d61 d62 d63 d64 d65 d68 d69 d70 d71 d72 d76 d83 d84 d85 d98 d99 d100 d101 d102 d112 d113 d116 d117 d118 d119 d123 d124 d125 d126 d127 d128 d129 d130 d132 d136 d140 d147 d154 d155 d156 d157 d158 d175)
open Aw (d49)
def d49_at := by have h := tabL Aw.d49.eq_1; simp only [AllAt, Nat.zero_add, Nat.reduceAdd] at h; exact h
theorem i49 : finfo Tryz.prog 49 d49 = some ⟨bodyOf Tryz.f49, [.cell 6 27, .tmp 7], [27, 30]⟩ := finfo_at Tryz.func49 rfl (by kernel_rfl) (by kernel_rfl)
def e49 : (T_Tensor × Int) → AV := fun r => .tuple [.agg [.v (.int .i64 r.1.fType), .fresh 1 r.1.fDims.length (lm (ik .i64) r.1.fDims), .fresh 1 r.1.fF.length (lm (ik .u32) r.1.fF), .fresh 1 r.1.fI.length (lm (ik .i64) r.1.fI), .fresh 1 r.1.fB.length (lm (bk) r.1.fB)], .v (.int .i64 r.2)]
set_option maxHeartbeats 20000000 in
theorem w49 (cp : CallP) (fu : Nat) (x1 : T_Tensor) (x2 : List Int) (x3 : List Int) (H18_0 : ∀ (a0 : T_Tensor) r, tens_Check fu a0 = some r → cp 18 [.agg (c_T_Tensor a0)] = some (.v (.int .i64 r))) (H98_0 : ∀ (a0 : Int) (a1 : List Int) r, tens_New fu a0 a1 = some r → cp 98 [.v (.int .i64 a0), .arr a1.length (lm (ik .i64) a1)] = some (.tuple [.agg [.v (.int .i64 r.1.fType), .fresh 1 r.1.fDims.length (lm (ik .i64) r.1.fDims), .fresh 1 r.1.fF.length (lm (ik .u32) r.1.fF), .fresh 1 r.1.fI.length (lm (ik .i64) r.1.fI), .fresh 1 r.1.fB.length (lm (bk) r.1.fB)], .v (.int .i64 r.2)])) (H58_0 : ∀ (a0 : List Int) (c1 : Int) r, slices_ContainsFunc_int fu a0 (fun y0 => tens_Pick_1 fu y0 c1) = some r → cp 58 [.arr a0.length (lm (ik .i64) a0), .fn 99 [] [.ref [.v (.int .i64 c1)] 0]] = some (.v (.bool r))) : J (go Tryz.prog (inlC [100, 101, 102]) cp (ciE Tryz.prog (inlC [100, 101, 102]) cp (ciE Tryz.prog (inlC [100, 101, 102]) cp (ciE Tryz.prog (inlC [100, 101, 102]) cp noI fu 102 d102 ⟨b102, [], []⟩ noI) fu 101 d101 ⟨b101, [], []⟩ (ciE Tryz.prog (inlC [100, 101, 102]) cp noI fu 102 d102 ⟨b102, [], []⟩ noI)) fu 100 d100 ⟨b100, [], []⟩ (ciE Tryz.prog (inlC [100, 101, 102]) cp (ciE Tryz.prog (inlC [100, 101, 102]) cp noI fu 102 d102 ⟨b102, [], []⟩ noI) fu 101 d101 ⟨b101, [], []⟩ (ciE Tryz.prog (inlC [100, 101, 102]) cp noI fu 102 d102 ⟨b102, [], []⟩ noI))) 0 [] d49 fu (fin Tryz.prog [.cell 6 27, .tmp 7] [27, 30]) (bodyOf Tryz.f49) (initE 0 [.agg (c_T_Tensor x1), .arr x2.length (lm (ik .i64) x2), .arr x3.length (lm (ik .i64) x3)]) [] []) (tens_Pick fu x1 x2 x3) e49 := by
 unfold tens_Pick e49
 have da := d49_at
 conv => arg 1; simp (disch := first | exact Zd | fail) only [bodyOf, Tryz.f49, ZZ, d49_at, simprocAttr, RI, RIk, initE]
 refine J.eq go_seq ?_
 refine J.bind fun x4 h1 => ?_
 have e_h1 := H18_0 _ _ h1
 try simp only [NN, NT, LN, simprocAttr, DT] at e_h1
 conv => arg 1; simp (disch := first | exact Zd | fail) only [ZZ, d49_at, simprocAttr, RI, RIk, initE, e_h1]
 refine J.ite (fun h2 => ?_) (fun h2 => ?_)
 ·have h2' := decide_eq_true h2
  conv => arg 1; simp (disch := first | exact Zd | fail) only [ZZ, d49_at, simprocAttr, RI, RIk, initE, e_h1, h2']
  refine J.eq ret_seq ?_
  refine J.bind fun x5 h3 => ?_
  have e_h3 := H98_0 _ _ _ h3
  try simp only [NN, NT, LN, simprocAttr, DT] at e_h3
  conv => arg 1; simp (disch := first | exact Zd | fail) only [ZZ, d49_at, simprocAttr, RI, RIk, initE, e_h1, h2', e_h3]
  refine J.eq go_seq ?_
  conv => arg 1; simp (disch := first | exact Zd | fail) only [ZZ, d49_at, simprocAttr, RI, RIk, initE, e_h1, h2', e_h3]
  refine J.ite (fun h4 => ?_) (fun h4 => ?_)
  ·have h4' := decide_eq_true h4
   conv => arg 1; simp (disch := first | exact Zd | fail) only [ZZ, d49_at, simprocAttr, RI, RIk, initE, e_h1, h2', e_h3, h4']
   refine J.eq ret_seq ?_
   conv => arg 1; simp (disch := first | exact Zd | fail) only [ZZ, d49_at, simprocAttr, RI, RIk, initE, e_h1, h2', e_h3, h4']
   refine J.eq go_seq ?_
   conv => arg 1; simp (disch := first | exact Zd | fail) only [ZZ, d49_at, simprocAttr, RI, RIk, initE, e_h1, h2', e_h3, h4']
   refine J.ite (fun h5 => ?_) (fun h5 => ?_)
   ·have h5' := decide_eq_true h5
    conv => arg 1; simp (disch := first | exact Zd | fail) only [ZZ, d49_at, simprocAttr, RI, RIk, initE, e_h1, h2', e_h3, h4', h5']
    refine J.eq ret_seq ?_
    refine J.eq go_seq ?_
    refine J.bind fun x6 h6 => ?_
    have e_h6 := H58_0 _ _ _ h6
    try simp only [NN, NT, LN, simprocAttr, DT] at e_h6
    conv => arg 1; simp (disch := first | exact Zd | fail) only [ZZ, d49_at, simprocAttr, RI, RIk, initE, e_h1, h2', e_h3, h4', h5', e_h6]
    refine J.ite (fun h7 => ?_) (fun h7 => ?_)
    ·have h7' : x6 = true := h7
     refine J.some ?_
     simp (maxSteps := 20000000) (disch := first | exact Zd | fail) only [ZZ, d49_at, simprocAttr, RI, RIk, initE, e_h1, h2', e_h3, h4', h5', e_h6, h7', FN]
    ·have h7' : x6 = false := Bool.eq_false_iff.2 h7
     conv => arg 1; simp (disch := first | exact Zd | fail) only [ZZ, d49_at, simprocAttr, RI, RIk, initE, e_h1, h2', e_h3, h4', h5', e_h6, h7']
     refine J.eq ret_seq ?_
     conv => arg 1; simp (disch := first | exact Zd | fail) only [ZZ, d49_at, simprocAttr, bodyOf, Tryz.f100, d100_at, RI, RIk, initE, e_h1, h2', e_h3, h4', h5', e_h6, h7']
     refine J.callK (fun (t : List Int) => (.tuple [], [((0, 3, 0), .bx true ([.v (.int .i64 x1.fType), .arr x1.fDims.length (lm (ik .i64) x1.fDims), .arr x1.fF.length (lm (ik .u32) x1.fF), .arr x1.fI.length (lm (ik .i64) x1.fI), .arr x1.fB.length (lm (bk) x1.fB)])), ((0, 6, 0), .bx true ([.v (.int .i64 0), .v (.slice none 0 0), .v (.slice none 0 0), .v (.slice none 0 0), .v (.slice none 0 0)])), ((0, 22, 0), .sl true true 1 x5.1.fDims.length (lm (ik .i64) x5.1.fDims)), ((0, 22, 1), .sl true true 1 x5.1.fF.length (lm (ik .u32) t)), ((0, 22, 2), .sl true true 1 x5.1.fI.length (lm (ik .i64) x5.1.fI)), ((0, 22, 3), .sl true true 1 x5.1.fB.length (lm (bk) x5.1.fB)), ((0, 9, 0), .bx true ([.v (.int .i64 x5.1.fType), .own (0, 22, 0) 0 x5.1.fDims.length x5.1.fDims.length, .own (0, 22, 1) 0 x5.1.fF.length x5.1.fF.length, .own (0, 22, 2) 0 x5.1.fI.length x5.1.fI.length, .own (0, 22, 3) 0 x5.1.fB.length x5.1.fB.length]))])) (fun t => tens_Pick.c1 fu x1 x3 x5 t) ?_ (fun hj1 => ?_)
     ·rintro x7
      show J _ (tens_Pick.c1 fu x1 x3 x5 x7) _
      unfold tens_Pick.c1
      refine J.chk fun h8 => ?_
      conv => arg 1; simp (disch := first | exact Zd | fail) only [ZZ, d49_at, simprocAttr, go_b100, bodyOf, Tryz.f100, d100_at, bodyOf, Tryz.f101, d101_at, RI, RIk, initE, e_h1, h2', e_h3, h4', h5', e_h6, h7', h8]
      refine J.callK (fun (t : List Int) => (.tuple [], [((0, 3, 0), .bx true ([.v (.int .i64 x1.fType), .arr x1.fDims.length (lm (ik .i64) x1.fDims), .arr x1.fF.length (lm (ik .u32) x1.fF), .arr x1.fI.length (lm (ik .i64) x1.fI), .arr x1.fB.length (lm (bk) x1.fB)])), ((0, 6, 0), .bx true ([.v (.int .i64 0), .v (.slice none 0 0), .v (.slice none 0 0), .v (.slice none 0 0), .v (.slice none 0 0)])), ((0, 22, 0), .sl true true 1 x5.1.fDims.length (lm (ik .i64) x5.1.fDims)), ((0, 22, 1), .sl true true 1 x7.length (lm (ik .u32) x7)), ((0, 22, 2), .sl true true 1 x5.1.fI.length (lm (ik .i64) t)), ((0, 22, 3), .sl true true 1 x5.1.fB.length (lm (bk) x5.1.fB)), ((0, 9, 0), .bx true ([.v (.int .i64 x5.1.fType), .own (0, 22, 0) 0 x5.1.fDims.length x5.1.fDims.length, .own (0, 22, 1) 0 x7.length x7.length, .own (0, 22, 2) 0 x5.1.fI.length x5.1.fI.length, .own (0, 22, 3) 0 x5.1.fB.length x5.1.fB.length]))])) (fun t => tens_Pick.c2 fu x1 x3 x5 x7 t) ?_ (fun hj2 => ?_)
      ·rintro x8
       show J _ (tens_Pick.c2 fu x1 x3 x5 x7 x8) _
       unfold tens_Pick.c2
       refine J.chk fun h9 => ?_
       conv => arg 1; simp (disch := first | exact Zd | fail) only [ZZ, d49_at, simprocAttr, go_b100, bodyOf, Tryz.f100, d100_at, go_b101, bodyOf, Tryz.f101, d101_at, bodyOf, Tryz.f102, d102_at, RI, RIk, initE, e_h1, h2', e_h3, h4', h5', e_h6, h7', h8, h9]
       refine J.callK (fun (t : List Bool) => (.tuple [], [((0, 3, 0), .bx true ([.v (.int .i64 x1.fType), .arr x1.fDims.length (lm (ik .i64) x1.fDims), .arr x1.fF.length (lm (ik .u32) x1.fF), .arr x1.fI.length (lm (ik .i64) x1.fI), .arr x1.fB.length (lm (bk) x1.fB)])), ((0, 6, 0), .bx true ([.v (.int .i64 0), .v (.slice none 0 0), .v (.slice none 0 0), .v (.slice none 0 0), .v (.slice none 0 0)])), ((0, 22, 0), .sl true true 1 x5.1.fDims.length (lm (ik .i64) x5.1.fDims)), ((0, 22, 1), .sl true true 1 x7.length (lm (ik .u32) x7)), ((0, 22, 2), .sl true true 1 x8.length (lm (ik .i64) x8)), ((0, 22, 3), .sl true true 1 x5.1.fB.length (lm (bk) t)), ((0, 9, 0), .bx true ([.v (.int .i64 x5.1.fType), .own (0, 22, 0) 0 x5.1.fDims.length x5.1.fDims.length, .own (0, 22, 1) 0 x7.length x7.length, .own (0, 22, 2) 0 x8.length x8.length, .own (0, 22, 3) 0 x5.1.fB.length x5.1.fB.length]))])) (fun t => tens_Pick.c3 fu x5 x7 x8 t) ?_ (fun hj3 => ?_)
       ·rintro x9
        show J _ (tens_Pick.c3 fu x5 x7 x8 x9) _
        unfold tens_Pick.c3
        refine J.chk fun h10 => ?_
        refine J.some ?_
        simp (maxSteps := 20000000) (disch := first | exact Zd | fail) only [ZZ, d49_at, simprocAttr, go_b100, bodyOf, Tryz.f100, d100_at, go_b101, bodyOf, Tryz.f101, d101_at, go_b102, bodyOf, Tryz.f102, d102_at, RI, RIk, initE, e_h1, h2', e_h3, h4', h5', e_h6, h7', h8, h9, h10, FN]
       ·refine J.hd jc_at ?_
        refine J.eq go_b102 ?_
        conv => arg 1; simp (disch := first | exact Zd | fail) only [ZZ, d49_at, simprocAttr, go_b100, bodyOf, Tryz.f100, d100_at, go_b101, bodyOf, Tryz.f101, d101_at, go_b102, bodyOf, Tryz.f102, d102_at, RI, initE, e_h1, h2', e_h3, h4', h5', e_h6, h7', h8, h9]
        refine J.eq go_seq ?_
        conv => arg 1; simp (disch := first | exact Zd | fail) only [ZZ, d49_at, simprocAttr, go_b100, bodyOf, Tryz.f100, d100_at, go_b101, bodyOf, Tryz.f101, d101_at, go_b102, bodyOf, Tryz.f102, d102_at, RI, initE, e_h1, h2', e_h3, h4', h5', e_h6, h7', h8, h9]
        refine J.ite (fun h11 => ?_) (fun h11 => ?_)
        ·have h11' := decide_eq_true h11
         conv => arg 1; simp (disch := first | exact Zd | fail) only [ZZ, d49_at, simprocAttr, go_b100, bodyOf, Tryz.f100, d100_at, go_b101, bodyOf, Tryz.f101, d101_at, go_b102, bodyOf, Tryz.f102, d102_at, RI, initE, e_h1, h2', e_h3, h4', h5', e_h6, h7', h8, h9, h11']
         refine J.kret (t := x5.1.fB) hj3 ?_
         simp (disch := first | exact Zd | fail) only [ZZ, d49_at, simprocAttr, go_b100, bodyOf, Tryz.f100, d100_at, go_b101, bodyOf, Tryz.f101, d101_at, go_b102, bodyOf, Tryz.f102, d102_at, RI, initE, e_h1, h2', e_h3, h4', h5', e_h6, h7', h8, h9, h11', kinV_at, kinVB_at, LN, NN, NT]
        ·have h11' := decide_eq_false h11
         conv => arg 1; simp (disch := first | exact Zd | fail) only [ZZ, d49_at, simprocAttr, go_b100, bodyOf, Tryz.f100, d100_at, go_b101, bodyOf, Tryz.f101, d101_at, go_b102, bodyOf, Tryz.f102, d102_at, RI, initE, e_h1, h2', e_h3, h4', h5', e_h6, h7', h8, h9, h11']
         refine J.eq ret_seq ?_
         conv => arg 1; simp (disch := first | exact Zd | fail) only [ZZ, d49_at, simprocAttr, go_b100, bodyOf, Tryz.f100, d100_at, go_b101, bodyOf, Tryz.f101, d101_at, go_b102, bodyOf, Tryz.f102, d102_at, RI, initE, e_h1, h2', e_h3, h4', h5', e_h6, h7', h8, h9, h11']
         unfold tens_Pick.W1
         refine J.loop (fun (s : (List Bool) × Int) => ([(0, .own (0, 22, 3) 0 x5.1.fB.length x5.1.fB.length), (1, .arr x1.fB.length (lm (bk) x1.fB)), (11, .arr x3.length (lm (ik .i64) x3)), (12, .v (.int .i64 (x3.length : Int))), (13, .v (.int .i64 s.2))], [((0, 3, 0), .bx true ([.v (.int .i64 x1.fType), .arr x1.fDims.length (lm (ik .i64) x1.fDims), .arr x1.fF.length (lm (ik .u32) x1.fF), .arr x1.fI.length (lm (ik .i64) x1.fI), .arr x1.fB.length (lm (bk) x1.fB)])), ((0, 6, 0), .bx true ([.v (.int .i64 0), .v (.slice none 0 0), .v (.slice none 0 0), .v (.slice none 0 0), .v (.slice none 0 0)])), ((0, 22, 0), .sl true true 1 x5.1.fDims.length (lm (ik .i64) x5.1.fDims)), ((0, 22, 1), .sl true true 1 x7.length (lm (ik .u32) x7)), ((0, 22, 2), .sl true true 1 x8.length (lm (ik .i64) x8)), ((0, 22, 3), .sl true true 1 x5.1.fB.length (lm (bk) s.1)), ((0, 9, 0), .bx true ([.v (.int .i64 x5.1.fType), .own (0, 22, 0) 0 x5.1.fDims.length x5.1.fDims.length, .own (0, 22, 1) 0 x7.length x7.length, .own (0, 22, 2) 0 x8.length x8.length, .own (0, 22, 3) 0 x5.1.fB.length x5.1.fB.length]))])) (fun next s => tens_Pick.L1 fu x1 x3 x5 x7 x8 (fun x12 x13 => next (x12, x13)) s.1 s.2) (s0 := (x5.1.fB, 0)) ?_ ?_ ?_
         ·exact Ze
         ·exact Zh
         rintro next k1 hn1 ⟨x12, x13⟩
         let nx1 : (List Bool) → Int → Option (T_Tensor × Int) := (fun x12 x13 => next (x12, x13))
         show J _ (tens_Pick.L1 fu x1 x3 x5 x7 x8 nx1 x12 x13) _
         unfold tens_Pick.L1
         conv => arg 1; simp (disch := first | exact Zd | fail) only [ZZ, d49_at, simprocAttr, go_b100, bodyOf, Tryz.f100, d100_at, go_b101, bodyOf, Tryz.f101, d101_at, go_b102, bodyOf, Tryz.f102, d102_at, RI, initE, e_h1, h2', e_h3, h4', h5', e_h6, h7', h8, h9, h11']
         refine J.eq go_seq ?_
         conv => arg 1; simp (disch := first | exact Zd | fail) only [ZZ, d49_at, simprocAttr, go_b100, bodyOf, Tryz.f100, d100_at, go_b101, bodyOf, Tryz.f101, d101_at, go_b102, bodyOf, Tryz.f102, d102_at, RI, initE, e_h1, h2', e_h3, h4', h5', e_h6, h7', h8, h9, h11']
         refine J.ite (fun h12 => ?_) (fun h12 => ?_)
         ·have h12' := decide_eq_true h12
          have h12'' : decide ((x3.length : Int) ≤ x13) = false := decide_eq_false (by omega)
          conv => arg 1; simp (disch := first | exact Zd | fail) only [ZZ, d49_at, simprocAttr, go_b100, bodyOf, Tryz.f100, d100_at, go_b101, bodyOf, Tryz.f101, d101_at, go_b102, bodyOf, Tryz.f102, d102_at, RI, initE, e_h1, h2', e_h3, h4', h5', e_h6, h7', h8, h9, h11', h12'', h12']
          refine J.eq ret_seq ?_
          refine J.eq go_seq ?_
          refine J.at fun x16 h13 h14 h15 => ?_
          conv => arg 1; simp (disch := first | exact Zd | fail) only [ZZ, d49_at, simprocAttr, go_b100, bodyOf, Tryz.f100, d100_at, go_b101, bodyOf, Tryz.f101, d101_at, go_b102, bodyOf, Tryz.f102, d102_at, RI, initE, e_h1, h2', e_h3, h4', h5', e_h6, h7', h8, h9, h11', h12'', h12', lm_ik h15]
          refine J.ite (fun h16 => ?_) (fun h16 => ?_)
          ·have h16' := decide_eq_true h16
           have h16'' : decide (x16 < 0) = false := decide_eq_false (by omega)
           refine J.at fun x17 h17 h18 h19 => ?_
           refine J.chk fun h20 => ?_
           refine J.chk fun h21 => ?_
           conv => arg 1; simp (disch := first | exact Zd | fail) only [ZZ, d49_at, simprocAttr, go_b100, bodyOf, Tryz.f100, d100_at, go_b101, bodyOf, Tryz.f101, d101_at, go_b102, bodyOf, Tryz.f102, d102_at, RI, initE, e_h1, h2', e_h3, h4', h5', e_h6, h7', h8, h9, h11', h12'', h12', lm_ik h15, h16'', h16', lm_bk h19]
           refine J.eq ret_seq ?_
           conv => arg 1; simp (disch := first | exact Zd | fail) only [ZZ, d49_at, simprocAttr, go_b100, bodyOf, Tryz.f100, d100_at, go_b101, bodyOf, Tryz.f101, d101_at, go_b102, bodyOf, Tryz.f102, d102_at, RI, initE, e_h1, h2', e_h3, h4', h5', e_h6, h7', h8, h9, h11', h12'', h12', lm_ik h15, h16'', h16', lm_bk h19]
           refine J.next (s := (x12.set x13.toNat x17, wk .i64 (x13 + 1))) hn1 ?_ ?_
           ·exact Ze
           ·exact Zh
          ·have h16' := decide_eq_false h16
           have h16'' : decide (x16 < 0) = true := decide_eq_true (by omega)
           conv => arg 1; simp (disch := first | exact Zd | fail) only [ZZ, d49_at, simprocAttr, go_b100, bodyOf, Tryz.f100, d100_at, go_b101, bodyOf, Tryz.f101, d101_at, go_b102, bodyOf, Tryz.f102, d102_at, RI, initE, e_h1, h2', e_h3, h4', h5', e_h6, h7', h8, h9, h11', h12'', h12', lm_ik h15, h16'', h16']
           refine J.eq ret_seq ?_
           conv => arg 1; simp (disch := first | exact Zd | fail) only [ZZ, d49_at, simprocAttr, go_b100, bodyOf, Tryz.f100, d100_at, go_b101, bodyOf, Tryz.f101, d101_at, go_b102, bodyOf, Tryz.f102, d102_at, RI, initE, e_h1, h2', e_h3, h4', h5', e_h6, h7', h8, h9, h11', h12'', h12', lm_ik h15, h16'', h16']
           refine J.next (s := (x12, wk .i64 (x13 + 1))) hn1 ?_ ?_
           ·exact Ze
           ·exact Zh
         ·have h12' := decide_eq_false h12
          have h12'' : decide ((x3.length : Int) ≤ x13) = true := decide_eq_true (by omega)
          conv => arg 1; simp (disch := first | exact Zd | fail) only [ZZ, d49_at, simprocAttr, go_b100, bodyOf, Tryz.f100, d100_at, go_b101, bodyOf, Tryz.f101, d101_at, go_b102, bodyOf, Tryz.f102, d102_at, RI, initE, e_h1, h2', e_h3, h4', h5', e_h6, h7', h8, h9, h11', h12'', h12']
          refine J.knormal (t := x12) hj3 ?_
          simp (disch := first | exact Zd | fail) only [ZZ, d49_at, simprocAttr, go_b100, bodyOf, Tryz.f100, d100_at, go_b101, bodyOf, Tryz.f101, d101_at, go_b102, bodyOf, Tryz.f102, d102_at, RI, initE, e_h1, h2', e_h3, h4', h5', e_h6, h7', h8, h9, h11', h12'', h12', kinV_at, kinVB_at, LN, NN, NT]
      ·refine J.hd jc_at ?_
       refine J.eq go_b101 ?_
       conv => arg 1; simp (disch := first | exact Zd | fail) only [ZZ, d49_at, simprocAttr, go_b100, bodyOf, Tryz.f100, d100_at, go_b101, bodyOf, Tryz.f101, d101_at, go_b102, bodyOf, Tryz.f102, d102_at, RI, initE, e_h1, h2', e_h3, h4', h5', e_h6, h7', h8]
       refine J.eq go_seq ?_
       conv => arg 1; simp (disch := first | exact Zd | fail) only [ZZ, d49_at, simprocAttr, go_b100, bodyOf, Tryz.f100, d100_at, go_b101, bodyOf, Tryz.f101, d101_at, go_b102, bodyOf, Tryz.f102, d102_at, RI, initE, e_h1, h2', e_h3, h4', h5', e_h6, h7', h8]
       refine J.ite (fun h22 => ?_) (fun h22 => ?_)
       ·have h22' := decide_eq_true h22
        conv => arg 1; simp (disch := first | exact Zd | fail) only [ZZ, d49_at, simprocAttr, go_b100, bodyOf, Tryz.f100, d100_at, go_b101, bodyOf, Tryz.f101, d101_at, go_b102, bodyOf, Tryz.f102, d102_at, RI, initE, e_h1, h2', e_h3, h4', h5', e_h6, h7', h8, h22']
        refine J.kret (t := x5.1.fI) hj2 ?_
        simp (disch := first | exact Zd | fail) only [ZZ, d49_at, simprocAttr, go_b100, bodyOf, Tryz.f100, d100_at, go_b101, bodyOf, Tryz.f101, d101_at, go_b102, bodyOf, Tryz.f102, d102_at, RI, initE, e_h1, h2', e_h3, h4', h5', e_h6, h7', h8, h22', kinV_at, kinVB_at, LN, NN, NT]
       ·have h22' := decide_eq_false h22
        conv => arg 1; simp (disch := first | exact Zd | fail) only [ZZ, d49_at, simprocAttr, go_b100, bodyOf, Tryz.f100, d100_at, go_b101, bodyOf, Tryz.f101, d101_at, go_b102, bodyOf, Tryz.f102, d102_at, RI, initE, e_h1, h2', e_h3, h4', h5', e_h6, h7', h8, h22']
        refine J.eq ret_seq ?_
        conv => arg 1; simp (disch := first | exact Zd | fail) only [ZZ, d49_at, simprocAttr, go_b100, bodyOf, Tryz.f100, d100_at, go_b101, bodyOf, Tryz.f101, d101_at, go_b102, bodyOf, Tryz.f102, d102_at, RI, initE, e_h1, h2', e_h3, h4', h5', e_h6, h7', h8, h22']
        unfold tens_Pick.W2
        refine J.loop (fun (s : (List Int) × Int) => ([(0, .own (0, 22, 2) 0 x5.1.fI.length x5.1.fI.length), (1, .arr x1.fI.length (lm (ik .i64) x1.fI)), (11, .arr x3.length (lm (ik .i64) x3)), (12, .v (.int .i64 (x3.length : Int))), (13, .v (.int .i64 s.2))], [((0, 3, 0), .bx true ([.v (.int .i64 x1.fType), .arr x1.fDims.length (lm (ik .i64) x1.fDims), .arr x1.fF.length (lm (ik .u32) x1.fF), .arr x1.fI.length (lm (ik .i64) x1.fI), .arr x1.fB.length (lm (bk) x1.fB)])), ((0, 6, 0), .bx true ([.v (.int .i64 0), .v (.slice none 0 0), .v (.slice none 0 0), .v (.slice none 0 0), .v (.slice none 0 0)])), ((0, 22, 0), .sl true true 1 x5.1.fDims.length (lm (ik .i64) x5.1.fDims)), ((0, 22, 1), .sl true true 1 x7.length (lm (ik .u32) x7)), ((0, 22, 2), .sl true true 1 x5.1.fI.length (lm (ik .i64) s.1)), ((0, 22, 3), .sl true true 1 x5.1.fB.length (lm (bk) x5.1.fB)), ((0, 9, 0), .bx true ([.v (.int .i64 x5.1.fType), .own (0, 22, 0) 0 x5.1.fDims.length x5.1.fDims.length, .own (0, 22, 1) 0 x7.length x7.length, .own (0, 22, 2) 0 x5.1.fI.length x5.1.fI.length, .own (0, 22, 3) 0 x5.1.fB.length x5.1.fB.length]))])) (fun next s => tens_Pick.L2 fu x1 x3 x5 x7 (fun x20 x21 => next (x20, x21)) s.1 s.2) (s0 := (x5.1.fI, 0)) ?_ ?_ ?_
        ·exact Ze
        ·exact Zh
        rintro next k2 hn2 ⟨x20, x21⟩
        let nx2 : (List Int) → Int → Option (T_Tensor × Int) := (fun x20 x21 => next (x20, x21))
        show J _ (tens_Pick.L2 fu x1 x3 x5 x7 nx2 x20 x21) _
        unfold tens_Pick.L2
        conv => arg 1; simp (disch := first | exact Zd | fail) only [ZZ, d49_at, simprocAttr, go_b100, bodyOf, Tryz.f100, d100_at, go_b101, bodyOf, Tryz.f101, d101_at, go_b102, bodyOf, Tryz.f102, d102_at, RI, initE, e_h1, h2', e_h3, h4', h5', e_h6, h7', h8, h22']
        refine J.eq go_seq ?_
        conv => arg 1; simp (disch := first | exact Zd | fail) only [ZZ, d49_at, simprocAttr, go_b100, bodyOf, Tryz.f100, d100_at, go_b101, bodyOf, Tryz.f101, d101_at, go_b102, bodyOf, Tryz.f102, d102_at, RI, initE, e_h1, h2', e_h3, h4', h5', e_h6, h7', h8, h22']
        refine J.ite (fun h23 => ?_) (fun h23 => ?_)
        ·have h23' := decide_eq_true h23
         have h23'' : decide ((x3.length : Int) ≤ x21) = false := decide_eq_false (by omega)
         conv => arg 1; simp (disch := first | exact Zd | fail) only [ZZ, d49_at, simprocAttr, go_b100, bodyOf, Tryz.f100, d100_at, go_b101, bodyOf, Tryz.f101, d101_at, go_b102, bodyOf, Tryz.f102, d102_at, RI, initE, e_h1, h2', e_h3, h4', h5', e_h6, h7', h8, h22', h23'', h23']
         refine J.eq ret_seq ?_
         refine J.eq go_seq ?_
         refine J.at fun x24 h24 h25 h26 => ?_
         conv => arg 1; simp (disch := first | exact Zd | fail) only [ZZ, d49_at, simprocAttr, go_b100, bodyOf, Tryz.f100, d100_at, go_b101, bodyOf, Tryz.f101, d101_at, go_b102, bodyOf, Tryz.f102, d102_at, RI, initE, e_h1, h2', e_h3, h4', h5', e_h6, h7', h8, h22', h23'', h23', lm_ik h26]
         refine J.ite (fun h27 => ?_) (fun h27 => ?_)
         ·have h27' := decide_eq_true h27
          have h27'' : decide (x24 < 0) = false := decide_eq_false (by omega)
          refine J.at fun x25 h28 h29 h30 => ?_
          refine J.chk fun h31 => ?_
          refine J.chk fun h32 => ?_
          conv => arg 1; simp (disch := first | exact Zd | fail) only [ZZ, d49_at, simprocAttr, go_b100, bodyOf, Tryz.f100, d100_at, go_b101, bodyOf, Tryz.f101, d101_at, go_b102, bodyOf, Tryz.f102, d102_at, RI, initE, e_h1, h2', e_h3, h4', h5', e_h6, h7', h8, h22', h23'', h23', lm_ik h26, h27'', h27', lm_ik h30]
          refine J.eq ret_seq ?_
          conv => arg 1; simp (disch := first | exact Zd | fail) only [ZZ, d49_at, simprocAttr, go_b100, bodyOf, Tryz.f100, d100_at, go_b101, bodyOf, Tryz.f101, d101_at, go_b102, bodyOf, Tryz.f102, d102_at, RI, initE, e_h1, h2', e_h3, h4', h5', e_h6, h7', h8, h22', h23'', h23', lm_ik h26, h27'', h27', lm_ik h30]
          refine J.next (s := (x20.set x21.toNat x25, wk .i64 (x21 + 1))) hn2 ?_ ?_
          ·exact Ze
          ·exact Zh
         ·have h27' := decide_eq_false h27
          have h27'' : decide (x24 < 0) = true := decide_eq_true (by omega)
          conv => arg 1; simp (disch := first | exact Zd | fail) only [ZZ, d49_at, simprocAttr, go_b100, bodyOf, Tryz.f100, d100_at, go_b101, bodyOf, Tryz.f101, d101_at, go_b102, bodyOf, Tryz.f102, d102_at, RI, initE, e_h1, h2', e_h3, h4', h5', e_h6, h7', h8, h22', h23'', h23', lm_ik h26, h27'', h27']
          refine J.eq ret_seq ?_
          conv => arg 1; simp (disch := first | exact Zd | fail) only [ZZ, d49_at, simprocAttr, go_b100, bodyOf, Tryz.f100, d100_at, go_b101, bodyOf, Tryz.f101, d101_at, go_b102, bodyOf, Tryz.f102, d102_at, RI, initE, e_h1, h2', e_h3, h4', h5', e_h6, h7', h8, h22', h23'', h23', lm_ik h26, h27'', h27']
          refine J.next (s := (x20, wk .i64 (x21 + 1))) hn2 ?_ ?_
          ·exact Ze
          ·exact Zh
        ·have h23' := decide_eq_false h23
         have h23'' : decide ((x3.length : Int) ≤ x21) = true := decide_eq_true (by omega)
         conv => arg 1; simp (disch := first | exact Zd | fail) only [ZZ, d49_at, simprocAttr, go_b100, bodyOf, Tryz.f100, d100_at, go_b101, bodyOf, Tryz.f101, d101_at, go_b102, bodyOf, Tryz.f102, d102_at, RI, initE, e_h1, h2', e_h3, h4', h5', e_h6, h7', h8, h22', h23'', h23']
         refine J.knormal (t := x20) hj2 ?_
         simp (disch := first | exact Zd | fail) only [ZZ, d49_at, simprocAttr, go_b100, bodyOf, Tryz.f100, d100_at, go_b101, bodyOf, Tryz.f101, d101_at, go_b102, bodyOf, Tryz.f102, d102_at, RI, initE, e_h1, h2', e_h3, h4', h5', e_h6, h7', h8, h22', h23'', h23', kinV_at, kinVB_at, LN, NN, NT]
     ·refine J.hd jc_at ?_
      refine J.eq go_b100 ?_
      conv => arg 1; simp (disch := first | exact Zd | fail) only [ZZ, d49_at, simprocAttr, go_b100, bodyOf, Tryz.f100, d100_at, go_b101, bodyOf, Tryz.f101, d101_at, go_b102, bodyOf, Tryz.f102, d102_at, RI, initE, e_h1, h2', e_h3, h4', h5', e_h6, h7']
      refine J.eq go_seq ?_
      conv => arg 1; simp (disch := first | exact Zd | fail) only [ZZ, d49_at, simprocAttr, go_b100, bodyOf, Tryz.f100, d100_at, go_b101, bodyOf, Tryz.f101, d101_at, go_b102, bodyOf, Tryz.f102, d102_at, RI, initE, e_h1, h2', e_h3, h4', h5', e_h6, h7']
      refine J.ite (fun h33 => ?_) (fun h33 => ?_)
      ·have h33' := decide_eq_true h33
       conv => arg 1; simp (disch := first | exact Zd | fail) only [ZZ, d49_at, simprocAttr, go_b100, bodyOf, Tryz.f100, d100_at, go_b101, bodyOf, Tryz.f101, d101_at, go_b102, bodyOf, Tryz.f102, d102_at, RI, initE, e_h1, h2', e_h3, h4', h5', e_h6, h7', h33']
       refine J.kret (t := x5.1.fF) hj1 ?_
       simp (disch := first | exact Zd | fail) only [ZZ, d49_at, simprocAttr, go_b100, bodyOf, Tryz.f100, d100_at, go_b101, bodyOf, Tryz.f101, d101_at, go_b102, bodyOf, Tryz.f102, d102_at, RI, initE, e_h1, h2', e_h3, h4', h5', e_h6, h7', h33', kinV_at, kinVB_at, LN, NN, NT]
      ·have h33' := decide_eq_false h33
       conv => arg 1; simp (disch := first | exact Zd | fail) only [ZZ, d49_at, simprocAttr, go_b100, bodyOf, Tryz.f100, d100_at, go_b101, bodyOf, Tryz.f101, d101_at, go_b102, bodyOf, Tryz.f102, d102_at, RI, initE, e_h1, h2', e_h3, h4', h5', e_h6, h7', h33']
       refine J.eq ret_seq ?_
       conv => arg 1; simp (disch := first | exact Zd | fail) only [ZZ, d49_at, simprocAttr, go_b100, bodyOf, Tryz.f100, d100_at, go_b101, bodyOf, Tryz.f101, d101_at, go_b102, bodyOf, Tryz.f102, d102_at, RI, initE, e_h1, h2', e_h3, h4', h5', e_h6, h7', h33']
       unfold tens_Pick.W3
       refine J.loop (fun (s : (List Int) × Int) => ([(0, .own (0, 22, 1) 0 x5.1.fF.length x5.1.fF.length), (1, .arr x1.fF.length (lm (ik .u32) x1.fF)), (11, .arr x3.length (lm (ik .i64) x3)), (12, .v (.int .i64 (x3.length : Int))), (13, .v (.int .i64 s.2))], [((0, 3, 0), .bx true ([.v (.int .i64 x1.fType), .arr x1.fDims.length (lm (ik .i64) x1.fDims), .arr x1.fF.length (lm (ik .u32) x1.fF), .arr x1.fI.length (lm (ik .i64) x1.fI), .arr x1.fB.length (lm (bk) x1.fB)])), ((0, 6, 0), .bx true ([.v (.int .i64 0), .v (.slice none 0 0), .v (.slice none 0 0), .v (.slice none 0 0), .v (.slice none 0 0)])), ((0, 22, 0), .sl true true 1 x5.1.fDims.length (lm (ik .i64) x5.1.fDims)), ((0, 22, 1), .sl true true 1 x5.1.fF.length (lm (ik .u32) s.1)), ((0, 22, 2), .sl true true 1 x5.1.fI.length (lm (ik .i64) x5.1.fI)), ((0, 22, 3), .sl true true 1 x5.1.fB.length (lm (bk) x5.1.fB)), ((0, 9, 0), .bx true ([.v (.int .i64 x5.1.fType), .own (0, 22, 0) 0 x5.1.fDims.length x5.1.fDims.length, .own (0, 22, 1) 0 x5.1.fF.length x5.1.fF.length, .own (0, 22, 2) 0 x5.1.fI.length x5.1.fI.length, .own (0, 22, 3) 0 x5.1.fB.length x5.1.fB.length]))])) (fun next s => tens_Pick.L3 fu x1 x3 x5 (fun x28 x29 => next (x28, x29)) s.1 s.2) (s0 := (x5.1.fF, 0)) ?_ ?_ ?_
       ·exact Ze
       ·exact Zh
       rintro next k3 hn3 ⟨x28, x29⟩
       let nx3 : (List Int) → Int → Option (T_Tensor × Int) := (fun x28 x29 => next (x28, x29))
       show J _ (tens_Pick.L3 fu x1 x3 x5 nx3 x28 x29) _
       unfold tens_Pick.L3
       conv => arg 1; simp (disch := first | exact Zd | fail) only [ZZ, d49_at, simprocAttr, go_b100, bodyOf, Tryz.f100, d100_at, go_b101, bodyOf, Tryz.f101, d101_at, go_b102, bodyOf, Tryz.f102, d102_at, RI, initE, e_h1, h2', e_h3, h4', h5', e_h6, h7', h33']
       refine J.eq go_seq ?_
       conv => arg 1; simp (disch := first | exact Zd | fail) only [ZZ, d49_at, simprocAttr, go_b100, bodyOf, Tryz.f100, d100_at, go_b101, bodyOf, Tryz.f101, d101_at, go_b102, bodyOf, Tryz.f102, d102_at, RI, initE, e_h1, h2', e_h3, h4', h5', e_h6, h7', h33']
       refine J.ite (fun h34 => ?_) (fun h34 => ?_)
       ·have h34' := decide_eq_true h34
        have h34'' : decide ((x3.length : Int) ≤ x29) = false := decide_eq_false (by omega)
        conv => arg 1; simp (disch := first | exact Zd | fail) only [ZZ, d49_at, simprocAttr, go_b100, bodyOf, Tryz.f100, d100_at, go_b101, bodyOf, Tryz.f101, d101_at, go_b102, bodyOf, Tryz.f102, d102_at, RI, initE, e_h1, h2', e_h3, h4', h5', e_h6, h7', h33', h34'', h34']
        refine J.eq ret_seq ?_
        refine J.eq go_seq ?_
        refine J.at fun x32 h35 h36 h37 => ?_
        conv => arg 1; simp (disch := first | exact Zd | fail) only [ZZ, d49_at, simprocAttr, go_b100, bodyOf, Tryz.f100, d100_at, go_b101, bodyOf, Tryz.f101, d101_at, go_b102, bodyOf, Tryz.f102, d102_at, RI, initE, e_h1, h2', e_h3, h4', h5', e_h6, h7', h33', h34'', h34', lm_ik h37]
        refine J.ite (fun h38 => ?_) (fun h38 => ?_)
        ·have h38' := decide_eq_true h38
         have h38'' : decide (x32 < 0) = false := decide_eq_false (by omega)
         refine J.at fun x33 h39 h40 h41 => ?_
         refine J.chk fun h42 => ?_
         refine J.chk fun h43 => ?_
         conv => arg 1; simp (disch := first | exact Zd | fail) only [ZZ, d49_at, simprocAttr, go_b100, bodyOf, Tryz.f100, d100_at, go_b101, bodyOf, Tryz.f101, d101_at, go_b102, bodyOf, Tryz.f102, d102_at, RI, initE, e_h1, h2', e_h3, h4', h5', e_h6, h7', h33', h34'', h34', lm_ik h37, h38'', h38', lm_ik h41]
         refine J.eq ret_seq ?_
         conv => arg 1; simp (disch := first | exact Zd | fail) only [ZZ, d49_at, simprocAttr, go_b100, bodyOf, Tryz.f100, d100_at, go_b101, bodyOf, Tryz.f101, d101_at, go_b102, bodyOf, Tryz.f102, d102_at, RI, initE, e_h1, h2', e_h3, h4', h5', e_h6, h7', h33', h34'', h34', lm_ik h37, h38'', h38', lm_ik h41]
         refine J.next (s := (x28.set x29.toNat x33, wk .i64 (x29 + 1))) hn3 ?_ ?_
         ·exact Ze
         ·exact Zh
        ·have h38' := decide_eq_false h38
         have h38'' : decide (x32 < 0) = true := decide_eq_true (by omega)
         conv => arg 1; simp (disch := first | exact Zd | fail) only [ZZ, d49_at, simprocAttr, go_b100, bodyOf, Tryz.f100, d100_at, go_b101, bodyOf, Tryz.f101, d101_at, go_b102, bodyOf, Tryz.f102, d102_at, RI, initE, e_h1, h2', e_h3, h4', h5', e_h6, h7', h33', h34'', h34', lm_ik h37, h38'', h38']
         refine J.eq ret_seq ?_
         conv => arg 1; simp (disch := first | exact Zd | fail) only [ZZ, d49_at, simprocAttr, go_b100, bodyOf, Tryz.f100, d100_at, go_b101, bodyOf, Tryz.f101, d101_at, go_b102, bodyOf, Tryz.f102, d102_at, RI, initE, e_h1, h2', e_h3, h4', h5', e_h6, h7', h33', h34'', h34', lm_ik h37, h38'', h38']
         refine J.next (s := (x28, wk .i64 (x29 + 1))) hn3 ?_ ?_
         ·exact Ze
         ·exact Zh
       ·have h34' := decide_eq_false h34
        have h34'' : decide ((x3.length : Int) ≤ x29) = true := decide_eq_true (by omega)
        conv => arg 1; simp (disch := first | exact Zd | fail) only [ZZ, d49_at, simprocAttr, go_b100, bodyOf, Tryz.f100, d100_at, go_b101, bodyOf, Tryz.f101, d101_at, go_b102, bodyOf, Tryz.f102, d102_at, RI, initE, e_h1, h2', e_h3, h4', h5', e_h6, h7', h33', h34'', h34']
        refine J.knormal (t := x28) hj1 ?_
        simp (disch := first | exact Zd | fail) only [ZZ, d49_at, simprocAttr, go_b100, bodyOf, Tryz.f100, d100_at, go_b101, bodyOf, Tryz.f101, d101_at, go_b102, bodyOf, Tryz.f102, d102_at, RI, initE, e_h1, h2', e_h3, h4', h5', e_h6, h7', h33', h34'', h34', kinV_at, kinVB_at, LN, NN, NT]
   ·have h5' := decide_eq_false h5
    refine J.some ?_
    simp (maxSteps := 20000000) (disch := first | exact Zd | fail) only [ZZ, d49_at, simprocAttr, go_b100, bodyOf, Tryz.f100, d100_at, go_b101, bodyOf, Tryz.f101, d101_at, go_b102, bodyOf, Tryz.f102, d102_at, RI, RIk, initE, e_h1, h2', e_h3, h4', h5', FN]
  ·have h4' := decide_eq_false h4
   refine J.some ?_
   simp (maxSteps := 20000000) (disch := first | exact Zd | fail) only [ZZ, d49_at, simprocAttr, go_b100, bodyOf, Tryz.f100, d100_at, go_b101, bodyOf, Tryz.f101, d101_at, go_b102, bodyOf, Tryz.f102, d102_at, RI, RIk, initE, e_h1, h2', e_h3, h4', FN]
 ·have h2' := decide_eq_false h2
  refine J.some ?_
  simp (maxSteps := 20000000) (disch := first | exact Zd | fail) only [ZZ, d49_at, simprocAttr, go_b100, bodyOf, Tryz.f100, d100_at, go_b101, bodyOf, Tryz.f101, d101_at, go_b102, bodyOf, Tryz.f102, d102_at, RI, RIk, initE, e_h1, h2', FN]
noncomputable def t49 (fu : Nat) : CallP := orE 18 (mkC (fun (t : T_Tensor) => ([.agg (c_T_Tensor t)] : List AV)) (fun t => tens_Check fu t) e18) (orE 98 (mkC (fun (t : Int × (List Int)) => ([.v (.int .i64 t.1), .arr t.2.length (lm (ik .i64) t.2)] : List AV)) (fun t => tens_New fu t.1 t.2) e98) (orE 58 (mkC (fun (t : (List Int) × Int) => ([.arr t.1.length (lm (ik .i64) t.1), .fn 99 [] [.ref [.v (.int .i64 t.2)] 0]] : List AV)) (fun t => slices_ContainsFunc_int fu t.1 (fun y0 => tens_Pick_1 fu y0 t.2)) e58) (noP)))
theorem t49_ok (fu : Nat) : CpOK Tryz.prog (t49 fu ) := orE_ok (orE_ok (orE_ok (noP_ok) (mkC_ok (fun t b h => ok58 fu t.1 (fun y0 => tens_Pick_1 fu y0 t.2) 99 [.ref [.v (.int .i64 t.2)] 0] (Capt.ref Capt.nil) (fun y0 r h => ok99 fu y0 t.2 r h) b h))) (mkC_ok (fun t b h => ok98 fu t.1 t.2  b h))) (mkC_ok (fun t b h => ok18 fu t  b h))
theorem ok49 (fu : Nat) (x1 : T_Tensor) (x2 : List Int) (x3 : List Int) (r) (h : tens_Pick fu x1 x2 x3 = some r) : PureOK Tryz.prog 49 [.agg (c_T_Tensor x1), .arr x2.length (lm (ik .i64) x2), .arr x3.length (lm (ik .i64) x3)] (e49 r) :=
  pure_J mixed (cp := t49 fu ) (t49_ok fu  ) (ciE_ok mixed (t49_ok fu  ) (ciE_ok mixed (t49_ok fu  ) (ciE_ok mixed (t49_ok fu  ) noI_ok i102 noI_ok) i101 (ciE_ok mixed (t49_ok fu  ) noI_ok i102 noI_ok)) i100 (ciE_ok mixed (t49_ok fu  ) (ciE_ok mixed (t49_ok fu  ) noI_ok i102 noI_ok) i101 (ciE_ok mixed (t49_ok fu  ) noI_ok i102 noI_ok))) i49 (w49 _ fu x1 x2 x3  (fun a0 r h => orE_hit (mkC_at (a := a0) (by intro a b h; first | (exact rfl) | (simp only [INJ, IJ] at h; first | exact h | (simp_all [Prod.ext_iff]) )) h)) (fun a0 a1 r h => orE_miss (by decide) (orE_hit (mkC_at (a := (a0, a1)) (by intro a b h; first | (exact rfl) | (simp only [INJ, IJ] at h; first | exact h | (simp_all [Prod.ext_iff]) )) h))) (fun a0 c1 r h => orE_miss (by decide) (orE_miss (by decide) (orE_hit (mkC_at (a := (a0, c1)) (by intro a b h; first | (exact rfl) | (simp only [INJ, IJ] at h; first | exact h | (simp_all [Prod.ext_iff]) )) h))))) h
open Aw (d86)
def d86_at := by have h := tabL Aw.d86.eq_1; simp only [AllAt, Nat.zero_add, Nat.reduceAdd] at h; exact h
noncomputable def b86 : Code := bodyOf Tryz.f86
theorem go_b86 {C : Cfg} {cp : CallP} {ci : CallI} {lvl : Nat} {prot : List Id} {D : List (Nat × List Nat)} {n : Nat} {K : KK} {e : Env} {h : Heap} {fs : List Fr} : go Tryz.prog C cp ci lvl prot D n K b86 e h fs = go Tryz.prog C cp ci lvl prot D n K (bodyOf Tryz.f86) e h fs := rfl
theorem i86 : finfo Tryz.prog 86 d86 = some ⟨b86, [], []⟩ := finfo_at Tryz.func86 rfl (by kernel_rfl) (by kernel_rfl)
open Aw (d87)
def d87_at := by have h := tabL Aw.d87.eq_1; simp only [AllAt, Nat.zero_add, Nat.reduceAdd] at h; exact h
noncomputable def b87 : Code := bodyOf Tryz.f87
theorem go_b87 {C : Cfg} {cp : CallP} {ci : CallI} {lvl : Nat} {prot : List Id} {D : List (Nat × List Nat)} {n : Nat} {K : KK} {e : Env} {h : Heap} {fs : List Fr} : go Tryz.prog C cp ci lvl prot D n K b87 e h fs = go Tryz.prog C cp ci lvl prot D n K (bodyOf Tryz.f87) e h fs := rfl
theorem i87 : finfo Tryz.prog 87 d87 = some ⟨b87, [], []⟩ := finfo_at Tryz.func87 rfl (by kernel_rfl) (by kernel_rfl)
open Aw (d42)
def d42_at := by have h := tabL Aw.d42.eq_1; simp only [AllAt, Nat.zero_add, Nat.reduceAdd] at h; exact h
theorem i42 : finfo Tryz.prog 42 d42 = some ⟨bodyOf Tryz.f42, [.cell 6 27], [27]⟩ := finfo_at Tryz.func42 rfl (by kernel_rfl) (by kernel_rfl)
def e42 : T_Tensor → AV := fun r => .agg [.v (.int .i64 r.fType), .fresh 1 r.fDims.length (lm (ik .i64) r.fDims), .fresh 1 r.fF.length (lm (ik .u32) r.fF), .fresh 1 r.fI.length (lm (ik .i64) r.fI), .fresh 1 r.fB.length (lm (bk) r.fB)]
set_option maxHeartbeats 20000000 in
theorem w42 (cp : CallP) (fu : Nat) (x1 : T_Tensor) (x2 : List Int) (p2 : (List Int) → Option Int) (fv_p2 : FuncId) (ca_p2 : List AV) (ni_p2 : (inlC [86, 87]).inl fv_p2 = false) (cap_p2 : Capt ca_p2) (hp_p2 : ∀ (y0 : List Int) r, p2 y0 = some r → cp fv_p2 ((.arr y0.length (lm (ik .i64) y0)) :: ca_p2) = some (.v (.int .i64 r))) (H61_0 : ∀ (a0 : List Int) (a1 : Int) r, slices_Contains_int fu a0 a1 = some r → cp 61 [.arr a0.length (lm (ik .i64) a0), .v (.int .i64 a1)] = some (.v (.bool r))) (H49_0 : ∀ (a0 : T_Tensor) (a1 : List Int) (a2 : List Int) r, tens_Pick fu a0 a1 a2 = some r → cp 49 [.agg (c_T_Tensor a0), .arr a1.length (lm (ik .i64) a1), .arr a2.length (lm (ik .i64) a2)] = some (.tuple [.agg [.v (.int .i64 r.1.fType), .fresh 1 r.1.fDims.length (lm (ik .i64) r.1.fDims), .fresh 1 r.1.fF.length (lm (ik .u32) r.1.fF), .fresh 1 r.1.fI.length (lm (ik .i64) r.1.fI), .fresh 1 r.1.fB.length (lm (bk) r.1.fB)], .v (.int .i64 r.2)])) : J (go Tryz.prog (inlC [86, 87]) cp (ciE Tryz.prog (inlC [86, 87]) cp (ciE Tryz.prog (inlC [86, 87]) cp noI fu 87 d87 ⟨b87, [], []⟩ noI) fu 86 d86 ⟨b86, [], []⟩ (ciE Tryz.prog (inlC [86, 87]) cp noI fu 87 d87 ⟨b87, [], []⟩ noI)) 0 [] d42 fu (fin Tryz.prog [.cell 6 27] [27]) (bodyOf Tryz.f42) (initE 0 [.agg (c_T_Tensor x1), .arr x2.length (lm (ik .i64) x2), .fn fv_p2 [] ca_p2]) [] []) (moves_picked fu x1 x2 p2) e42 := by
 unfold moves_picked e42
 have da := d42_at
 have c4_p2 := fun g => (cap_p2.1 g).1; have c3_p2 := fun g => (cap_p2.1 g).2.1; have b4_p2 := fun g => (cap_p2.1 g).2.2.1; have b3_p2 := fun g => (cap_p2.1 g).2.2.2; have nm_p2 := cap_p2.2
 conv => arg 1; simp (disch := first | exact Zd | fail) only [bodyOf, Tryz.f42, ZZ, d42_at, simprocAttr, go_b86, bodyOf, Tryz.f86, d86_at, RI, RIk, initE, c4_p2, c3_p2, b4_p2, b3_p2, nm_p2]
 refine J.eq go_seq ?_
 refine J.bind fun x3 h1 => ?_
 have e_h1 := H61_0 _ _ _ h1
 try simp only [NN, NT, LN, simprocAttr, DT] at e_h1
 conv => arg 1; simp (disch := first | exact Zd | fail) only [ZZ, d42_at, simprocAttr, go_b86, bodyOf, Tryz.f86, d86_at, RI, RIk, initE, c4_p2, c3_p2, b4_p2, b3_p2, nm_p2, e_h1]
 refine J.ite (fun h2 => ?_) (fun h2 => ?_)
 ·have h2' : x3 = true := h2
  refine J.bind fun x4 h3 => ?_
  have e_h3 := H49_0 _ _ _ _ h3
  try simp only [NN, NT, LN, simprocAttr, DT] at e_h3
  refine J.some ?_
  simp (maxSteps := 20000000) (disch := first | exact Zd | fail) only [ZZ, d42_at, simprocAttr, go_b86, bodyOf, Tryz.f86, d86_at, RI, RIk, initE, c4_p2, c3_p2, b4_p2, b3_p2, nm_p2, e_h1, h2', e_h3, FN]
 ·have h2' : x3 = false := Bool.eq_false_iff.2 h2
  conv => arg 1; simp (disch := first | exact Zd | fail) only [ZZ, d42_at, simprocAttr, go_b86, bodyOf, Tryz.f86, d86_at, RI, RIk, initE, c4_p2, c3_p2, b4_p2, b3_p2, nm_p2, e_h1, h2']
  refine J.eq ret_seq ?_
  refine J.chk fun h4 => ?_
  conv => arg 1; simp (disch := first | exact Zd | fail) only [ZZ, d42_at, simprocAttr, go_b86, bodyOf, Tryz.f86, d86_at, RI, RIk, initE, c4_p2, c3_p2, b4_p2, b3_p2, nm_p2, e_h1, h2']
  refine J.eq go_seq ?_
  conv => arg 1; simp (disch := first | exact Zd | fail) only [ZZ, d42_at, simprocAttr, go_b86, bodyOf, Tryz.f86, d86_at, RI, RIk, initE, c4_p2, c3_p2, b4_p2, b3_p2, nm_p2, e_h1, h2']
  refine J.eq ret_seq ?_
  conv => arg 1; simp (disch := first | exact Zd | fail) only [ZZ, d42_at, simprocAttr, go_b86, bodyOf, Tryz.f86, d86_at, RI, RIk, initE, c4_p2, c3_p2, b4_p2, b3_p2, nm_p2, e_h1, h2']
  unfold moves_picked.W1
  refine J.loop (fun (s : (List Int) × (List Int)) => ([(0, .arr x2.length (lm (ik .i64) x2)), (1, .fn 87 [] [.ptr (0, 7, 0) 0 0, .ptr (0, 5, 0) 0 0]), (4, .own (1, 10, 0) 0 s.2.length s.2.length)], [((0, 3, 0), .bx true ([.v (.int .i64 x1.fType), .arr x1.fDims.length (lm (ik .i64) x1.fDims), .arr x1.fF.length (lm (ik .u32) x1.fF), .arr x1.fI.length (lm (ik .i64) x1.fI), .arr x1.fB.length (lm (bk) x1.fB)])), ((0, 5, 0), .bx true ([.fn fv_p2 [] ca_p2])), ((0, 6, 0), .bx true ([.v (.int .i64 0), .v (.slice none 0 0), .v (.slice none 0 0), .v (.slice none 0 0), .v (.slice none 0 0)])), ((0, 7, 0), .bx true ([.own (0, 7, 78) 0 s.1.length s.1.length])), ((0, 7, 78), .sl true true 1 s.1.length (lm (ik .i64) s.1)), ((1, 10, 0), .sl true true 1 s.2.length (lm (ik .i64) s.2))])) (fun next s => moves_picked.L1 fu p2 x1 x2 (fun x17 x18 => next (x17, x18)) s.1 s.2) (s0 := (([] : List Int), List.replicate (x2.length : Int).toNat (0 : Int))) ?_ ?_ ?_
  ·exact Ze
  ·exact Zh
  rintro next k1 hn1 ⟨x17, x18⟩
  let nx1 : (List Int) → (List Int) → Option T_Tensor := (fun x17 x18 => next (x17, x18))
  show J _ (moves_picked.L1 fu p2 x1 x2 nx1 x17 x18) _
  unfold moves_picked.L1
  refine J.bind fun x31 h5 => ?_
  have e_h5 := hp_p2 _ _ h5
  try simp only [NN, NT, LN, simprocAttr, DT] at e_h5
  refine J.chk fun h6 => ?_
  conv => arg 1; simp (disch := first | exact Zd | fail) only [ZZ, d42_at, simprocAttr, go_b86, bodyOf, Tryz.f86, d86_at, go_b87, bodyOf, Tryz.f87, d87_at, RI, RIk, initE, c4_p2, c3_p2, b4_p2, b3_p2, nm_p2, e_h1, h2', e_h5]
  refine J.eq go_seq ?_
  conv => arg 1; simp (disch := first | exact Zd | fail) only [ZZ, d42_at, simprocAttr, go_b86, bodyOf, Tryz.f86, d86_at, go_b87, bodyOf, Tryz.f87, d87_at, RI, RIk, initE, c4_p2, c3_p2, b4_p2, b3_p2, nm_p2, e_h1, h2', e_h5]
  unfold moves_picked.W2
  refine J.loop (fun (s : (List Int) × Int) => ([(0, .arr x2.length (lm (ik .i64) x2)), (1, .fn 87 [] [.ptr (0, 7, 0) 0 0, .ptr (0, 5, 0) 0 0]), (4, .own (1, 10, 0) 0 s.1.length s.1.length), (5, .v (.int .i64 s.2))], [((0, 3, 0), .bx true ([.v (.int .i64 x1.fType), .arr x1.fDims.length (lm (ik .i64) x1.fDims), .arr x1.fF.length (lm (ik .u32) x1.fF), .arr x1.fI.length (lm (ik .i64) x1.fI), .arr x1.fB.length (lm (bk) x1.fB)])), ((0, 5, 0), .bx true ([.fn fv_p2 [] ca_p2])), ((0, 6, 0), .bx true ([.v (.int .i64 0), .v (.slice none 0 0), .v (.slice none 0 0), .v (.slice none 0 0), .v (.slice none 0 0)])), ((0, 7, 0), .bx true ([.own (0, 7, 78) 0 (x17.length + 1) (x17.length + 1)])), ((0, 7, 78), .sl true true 1 (x17.length + 1) (lm (ik .i64) (x17 ++ ([x31])))), ((1, 10, 0), .sl true true 1 s.1.length (lm (ik .i64) s.1))])) (fun next s => moves_picked.L2 fu nx1 x1 x2 x17 x31 (fun x35 x36 => next (x35, x36)) s.1 s.2) (s0 := (x18, wk .i64 ((x2.length : Int) - 1))) ?_ ?_ ?_
  ·exact Ze
  ·exact Zh
  rintro next k2 hn2 ⟨x35, x36⟩
  let nx2 : (List Int) → Int → Option T_Tensor := (fun x35 x36 => next (x35, x36))
  show J _ (moves_picked.L2 fu nx1 x1 x2 x17 x31 nx2 x35 x36) _
  unfold moves_picked.L2
  refine J.eq go_seq ?_
  conv => arg 1; simp (disch := first | exact Zd | fail) only [ZZ, d42_at, simprocAttr, go_b86, bodyOf, Tryz.f86, d86_at, go_b87, bodyOf, Tryz.f87, d87_at, RI, RIk, initE, c4_p2, c3_p2, b4_p2, b3_p2, nm_p2, e_h1, h2', e_h5]
  refine J.ite (fun h7 => ?_) (fun h7 => ?_)
  ·have h7' := decide_eq_true h7
   have h7'' : decide (x36 < 0) = false := decide_eq_false (by omega)
   conv => arg 1; simp (disch := first | exact Zd | fail) only [ZZ, d42_at, simprocAttr, go_b86, bodyOf, Tryz.f86, d86_at, go_b87, bodyOf, Tryz.f87, d87_at, RI, RIk, initE, c4_p2, c3_p2, b4_p2, b3_p2, nm_p2, e_h1, h2', e_h5, h7'', h7']
   refine J.eq ret_seq ?_
   refine J.eq go_seq ?_
   refine J.at fun x40 h8 h9 h10 => ?_
   refine J.chk fun h11 => ?_
   conv => arg 1; simp (disch := first | exact Zd | fail) only [ZZ, d42_at, simprocAttr, go_b86, bodyOf, Tryz.f86, d86_at, go_b87, bodyOf, Tryz.f87, d87_at, RI, RIk, initE, c4_p2, c3_p2, b4_p2, b3_p2, nm_p2, e_h1, h2', e_h5, h7'', h7', lm_ik h10]
   refine J.eq go_seq ?_
   refine J.at fun x41 h12 h13 h14 => ?_
   refine J.at fun x42 h15 h16 h17 => ?_
   conv => arg 1; simp (disch := first | exact Zd | fail) only [ZZ, d42_at, simprocAttr, go_b86, bodyOf, Tryz.f86, d86_at, go_b87, bodyOf, Tryz.f87, d87_at, RI, RIk, initE, c4_p2, c3_p2, b4_p2, b3_p2, nm_p2, e_h1, h2', e_h5, h7'', h7', lm_ik h10, lm_ik h14, lm_ik h17]
   refine J.ite (fun h18 => ?_) (fun h18 => ?_)
   ·have h18' := decide_eq_true h18
    have h18'' : decide (x42 ≤ x41) = false := decide_eq_false (by omega)
    conv => arg 1; simp (disch := first | exact Zd | fail) only [ZZ, d42_at, simprocAttr, go_b86, bodyOf, Tryz.f86, d86_at, go_b87, bodyOf, Tryz.f87, d87_at, RI, RIk, initE, c4_p2, c3_p2, b4_p2, b3_p2, nm_p2, e_h1, h2', e_h5, h7'', h7', lm_ik h10, lm_ik h14, lm_ik h17, h18'', h18']
    refine J.next (s := (x17 ++ ([x31]), x35.set x36.toNat (wk .i64 (x40 + 1)))) hn1 ?_ ?_
    ·exact Ze
    ·exact Zh
   ·have h18' := decide_eq_false h18
    have h18'' : decide (x42 ≤ x41) = true := decide_eq_true (by omega)
    conv => arg 1; simp (disch := first | exact Zd | fail) only [ZZ, d42_at, simprocAttr, go_b86, bodyOf, Tryz.f86, d86_at, go_b87, bodyOf, Tryz.f87, d87_at, RI, RIk, initE, c4_p2, c3_p2, b4_p2, b3_p2, nm_p2, e_h1, h2', e_h5, h7'', h7', lm_ik h10, lm_ik h14, lm_ik h17, h18'', h18']
    refine J.eq ret_seq ?_
    refine J.chk fun h19 => ?_
    conv => arg 1; simp (disch := first | exact Zd | fail) only [ZZ, d42_at, simprocAttr, go_b86, bodyOf, Tryz.f86, d86_at, go_b87, bodyOf, Tryz.f87, d87_at, RI, RIk, initE, c4_p2, c3_p2, b4_p2, b3_p2, nm_p2, e_h1, h2', e_h5, h7'', h7', lm_ik h10, lm_ik h14, lm_ik h17, h18'', h18']
    refine J.eq ret_seq ?_
    conv => arg 1; simp (disch := first | exact Zd | fail) only [ZZ, d42_at, simprocAttr, go_b86, bodyOf, Tryz.f86, d86_at, go_b87, bodyOf, Tryz.f87, d87_at, RI, RIk, initE, c4_p2, c3_p2, b4_p2, b3_p2, nm_p2, e_h1, h2', e_h5, h7'', h7', lm_ik h10, lm_ik h14, lm_ik h17, h18'', h18']
    refine J.next (s := ((x35.set x36.toNat (wk .i64 (x40 + 1))).set x36.toNat 0, wk .i64 (x36 - 1))) hn2 ?_ ?_
    ·exact Ze
    ·exact Zh
  ·have h7' := decide_eq_false h7
   have h7'' : decide (x36 < 0) = true := decide_eq_true (by omega)
   conv => arg 1; simp (disch := first | exact Zd | fail) only [ZZ, d42_at, simprocAttr, go_b86, bodyOf, Tryz.f86, d86_at, go_b87, bodyOf, Tryz.f87, d87_at, RI, RIk, initE, c4_p2, c3_p2, b4_p2, b3_p2, nm_p2, e_h1, h2', e_h5, h7'', h7']
   refine J.eq ret_seq ?_
   refine J.bind fun x43 h20 => ?_
   have e_h20 := H49_0 _ _ _ _ h20
   try simp only [NN, NT, LN, simprocAttr, DT] at e_h20
   refine J.some ?_
   simp (maxSteps := 20000000) (disch := first | exact Zd | fail) only [ZZ, d42_at, simprocAttr, go_b86, bodyOf, Tryz.f86, d86_at, go_b87, bodyOf, Tryz.f87, d87_at, RI, RIk, initE, c4_p2, c3_p2, b4_p2, b3_p2, nm_p2, e_h1, h2', e_h5, h7'', h7', e_h20, FN]
noncomputable def t42 (fu : Nat) (x1 : T_Tensor) (x2 : List Int) (p2 : (List Int) → Option Int) (fv_p2 : FuncId) (ca_p2 : List AV) : CallP := orE 61 (mkC (fun (t : (List Int) × Int) => ([.arr t.1.length (lm (ik .i64) t.1), .v (.int .i64 t.2)] : List AV)) (fun t => slices_Contains_int fu t.1 t.2) e61) (orE 49 (mkC (fun (t : T_Tensor × (List Int) × (List Int)) => ([.agg (c_T_Tensor t.1), .arr t.2.1.length (lm (ik .i64) t.2.1), .arr t.2.2.length (lm (ik .i64) t.2.2)] : List AV)) (fun t => tens_Pick fu t.1 t.2.1 t.2.2) e49) (orE fv_p2 (mkC (fun (t : List Int) => ((.arr t.length (lm (ik .i64) t)) :: ca_p2 : List AV)) (fun t => p2 t) (fun r => .v (.int .i64 r))) (noP)))
theorem t42_ok (fu : Nat) (x1 : T_Tensor) (x2 : List Int) (p2 : (List Int) → Option Int) (fv_p2 : FuncId) (ca_p2 : List AV) (nc_p2 : memN [49, 61] fv_p2 = false) (ni_p2 : (inlC [86, 87]).inl fv_p2 = false) (cap_p2 : Capt ca_p2) (hp_p2 : ∀ (y0 : List Int) r, p2 y0 = some r → PureOK Tryz.prog fv_p2 ((.arr y0.length (lm (ik .i64) y0)) :: ca_p2) (.v (.int .i64 r))) : CpOK Tryz.prog (t42 fu x1 x2 p2 fv_p2 ca_p2) := orE_ok (orE_ok (orE_ok (noP_ok) (mkC_ok (fun t b h => hp_p2 t b h))) (mkC_ok (fun t b h => ok49 fu t.1 t.2.1 t.2.2  b h))) (mkC_ok (fun t b h => ok61 fu t.1 t.2  b h))
theorem ok42 (fu : Nat) (x1 : T_Tensor) (x2 : List Int) (p2 : (List Int) → Option Int) (fv_p2 : FuncId) (ca_p2 : List AV) (nc_p2 : memN [49, 61] fv_p2 = false) (ni_p2 : (inlC [86, 87]).inl fv_p2 = false) (cap_p2 : Capt ca_p2) (hp_p2 : ∀ (y0 : List Int) r, p2 y0 = some r → PureOK Tryz.prog fv_p2 ((.arr y0.length (lm (ik .i64) y0)) :: ca_p2) (.v (.int .i64 r))) (r) (h : moves_picked fu x1 x2 p2 = some r) : PureOK Tryz.prog 42 [.agg (c_T_Tensor x1), .arr x2.length (lm (ik .i64) x2), .fn fv_p2 [] ca_p2] (e42 r) :=
  pure_J mixed (cp := t42 fu x1 x2 p2 fv_p2 ca_p2) (t42_ok fu x1 x2 p2 fv_p2 ca_p2 nc_p2 ni_p2 cap_p2 hp_p2) (ciE_ok mixed (t42_ok fu x1 x2 p2 fv_p2 ca_p2 nc_p2 ni_p2 cap_p2 hp_p2) (ciE_ok mixed (t42_ok fu x1 x2 p2 fv_p2 ca_p2 nc_p2 ni_p2 cap_p2 hp_p2) noI_ok i87 noI_ok) i86 (ciE_ok mixed (t42_ok fu x1 x2 p2 fv_p2 ca_p2 nc_p2 ni_p2 cap_p2 hp_p2) noI_ok i87 noI_ok)) i42 (w42 _ fu x1 x2 p2 fv_p2 ca_p2 ni_p2 cap_p2 (fun y0 r h => orE_skip (fun hfv => absurd nc_p2 (by first | (rw [hfv]; decide) | (rw [← hfv]; decide))) (orE_skip (fun hfv => absurd nc_p2 (by first | (rw [hfv]; decide) | (rw [← hfv]; decide))) (orE_hit (mkC_at (a := y0) (by intro a b h; first | (exact rfl) | (simp only [INJ, IJ] at h; first | exact h | (simp_all [Prod.ext_iff]) )) h)))) (fun a0 a1 r h => orE_hit (mkC_at (a := (a0, a1)) (by intro a b h; first | (exact rfl) | (simp only [INJ, IJ] at h; first | exact h | (simp_all [Prod.ext_iff]) )) h)) (fun a0 a1 a2 r h => orE_miss (by decide) (orE_hit (mkC_at (a := (a0, a1, a2)) (by intro a b h; first | (exact rfl) | (simp only [INJ, IJ] at h; first | exact h | (simp_all [Prod.ext_iff]) )) h)))) h
open Aw (d107)
def d107_at := by have h := tabL Aw.d107.eq_1; simp only [AllAt, Nat.zero_add, Nat.reduceAdd] at h; exact h
theorem i107 : finfo Tryz.prog 107 d107 = some ⟨bodyOf Tryz.f107, [.tmp 6], [3]⟩ := finfo_at Tryz.func107 rfl (by kernel_rfl) (by kernel_rfl)
def e107 : Int → AV := fun r => .v (.int .i64 r)
set_option maxHeartbeats 20000000 in
theorem w107 (cp : CallP) (fu : Nat) (x1 : T_moves_move) (x2 : Int) (x3 : Int)  : J (go Tryz.prog noC cp noI 0 [] d107 fu (fin Tryz.prog [.tmp 6] [3]) (bodyOf Tryz.f107) (initE 0 [.ref (c_T_moves_move x1) 0, .v (.int .i64 x2), .v (.int .i64 x3)]) [] []) (moves_move_within fu x1 x2 x3) e107 := by
 unfold moves_move_within e107
 have da := d107_at
 conv => arg 1; simp only [bodyOf, Tryz.f107]
 have z0 := d107_at
 exact Wk
theorem ok107 (fu : Nat) (x1 : T_moves_move) (x2 : Int) (x3 : Int) (r) (h : moves_move_within fu x1 x2 x3 = some r) : PureOK Tryz.prog 107 [.ref (c_T_moves_move x1) 0, .v (.int .i64 x2), .v (.int .i64 x3)] (e107 r) := pureT mixed [] (ids := []) rfl (by decide) i107 (C := noC) (ci := fun cp => noI) (fun cp ok => noI_ok) (fun cp H => w107 cp fu x1 x2 x3 ) h
open Aw (d106)
def d106_at := by have h := tabL Aw.d106.eq_1; simp only [AllAt, Nat.zero_add, Nat.reduceAdd] at h; exact h
theorem i106 : finfo Tryz.prog 106 d106 = some ⟨bodyOf Tryz.f106, [.tmp 5], [3]⟩ := finfo_at Tryz.func106 rfl (by kernel_rfl) (by kernel_rfl)
def e106 : Int → AV := fun r => .v (.int .i64 r)
structure K107 (fu : Nat) (cp : CallP) : Prop where
 ap : ∀ {a0 : T_moves_move} {a1 : Int} {a2 : Int} {r}, moves_move_within fu a0 a1 a2 = some r → cp 107 [.ref (c_T_moves_move a0) 0, .v (.int .i64 a1), .v (.int .i64 a2)] = some (.v (.int .i64 r))
noncomputable def C107 (fu : Nat) : Cm Tryz.prog (T_moves_move × Int × Int) Int := ⟨107, fun t => [.ref (c_T_moves_move t.1) 0, .v (.int .i64 t.2.1), .v (.int .i64 t.2.2)], fun t => moves_move_within fu t.1 t.2.1 t.2.2, e107, fun t b h => ok107 fu t.1 t.2.1 t.2.2  b h, Zi⟩
theorem u107 {fu : Nat} {cp : CallP} (H : Hit cp (C107 fu).ct) : K107 fu cp := ⟨fun {a0 a1 a2 r} h => (C107 fu).at H (a0, a1, a2) r h⟩
def moves_move_pad_1.m1 : LJ 1 6 Unit (Int × Int) := ⟨fun r s e => [(0, er e 0), (1, er e 1), (2, er e 2), (3, er e 3), (6, .v (.int .i64 s.1)), (14, er e 14), (15, er e 15), (16, .v (.int .i64 s.2))], fun r s h => []⟩
set_option maxHeartbeats 20000000 in
open moves_move_pad_1 in
theorem w106 (cp : CallP) (fu : Nat) (x1 : List Int) (x2 : T_moves_move) (x3 : Int) (x4 : List Int) (H1 : K107 fu cp) : J (go Tryz.prog noC cp noI 0 [] d106 fu (fin Tryz.prog [.tmp 5] [3]) (bodyOf Tryz.f106) (initE 0 [.arr x1.length (lm (ik .i64) x1), .ref [.ref (c_T_moves_move x2) 0] 0, .ref [.v (.int .i64 x3)] 0, .ref [.arr x4.length (lm (ik .i64) x4)] 0]) [] []) (moves_move_pad_1 fu x1 x2 x3 x4) e106 := by
 unfold moves_move_pad_1 e106
 have da := d106_at
 conv => arg 1; simp only [bodyOf, Tryz.f106]
 have z0 := d106_at
 exact Wk
theorem ok106 (fu : Nat) (x1 : List Int) (x2 : T_moves_move) (x3 : Int) (x4 : List Int) (r) (h : moves_move_pad_1 fu x1 x2 x3 x4 = some r) : PureOK Tryz.prog 106 [.arr x1.length (lm (ik .i64) x1), .ref [.ref (c_T_moves_move x2) 0] 0, .ref [.v (.int .i64 x3)] 0, .ref [.arr x4.length (lm (ik .i64) x4)] 0] (e106 r) := pureT mixed [(C107 fu).ct] (ids := [107]) rfl (by decide) i106 (C := noC) (ci := fun cp => noI) (fun cp ok => noI_ok) (fun cp H => w106 cp fu x1 x2 x3 x4 (u107 H.1)) h
open Aw (d52)
def d52_at := by have h := tabL Aw.d52.eq_1; simp only [AllAt, Nat.zero_add, Nat.reduceAdd] at h; exact h
theorem i52 : finfo Tryz.prog 52 d52 = some ⟨bodyOf Tryz.f52, [.cell 4 27], [27]⟩ := finfo_at Tryz.func52 rfl (by kernel_rfl) (by kernel_rfl)
def e52 : T_Tensor → AV := fun r => .agg [.v (.int .i64 r.fType), .fresh 1 r.fDims.length (lm (ik .i64) r.fDims), .fresh 1 r.fF.length (lm (ik .u32) r.fF), .fresh 1 r.fI.length (lm (ik .i64) r.fI), .fresh 1 r.fB.length (lm (bk) r.fB)]
structure K41 (fu : Nat) (cp : CallP) : Prop where
 ap : ∀ {a0 : List Int} {r}, moves_strides fu a0 = some r → cp 41 [.arr a0.length (lm (ik .i64) a0)] = some (.fresh 1 r.length (lm (ik .i64) r))
noncomputable def C41 (fu : Nat) : Cm Tryz.prog (List Int) (List Int) := ⟨41, fun t => [.arr t.length (lm (ik .i64) t)], fun t => moves_strides fu t, e41, fun t b h => ok41 fu t  b h, Zi⟩
theorem u41 {fu : Nat} {cp : CallP} (H : Hit cp (C41 fu).ct) : K41 fu cp := ⟨fun {a0 r} h => (C41 fu).at H a0 r h⟩
structure K42 (fu : Nat) (cp : CallP) : Prop where
 ap : ∀ {a0 : T_Tensor} {a1 : List Int} {c2 : T_moves_move} {c3 : Int} {c4 : List Int} {r}, moves_picked fu a0 a1 (fun y0 => moves_move_pad_1 fu y0 c2 c3 c4) = some r → cp 42 [.agg (c_T_Tensor a0), .arr a1.length (lm (ik .i64) a1), .fn 106 [] [.ref [.ref (c_T_moves_move c2) 0] 0, .ref [.v (.int .i64 c3)] 0, .ref [.arr c4.length (lm (ik .i64) c4)] 0]] = some (.agg [.v (.int .i64 r.fType), .fresh 1 r.fDims.length (lm (ik .i64) r.fDims), .fresh 1 r.fF.length (lm (ik .u32) r.fF), .fresh 1 r.fI.length (lm (ik .i64) r.fI), .fresh 1 r.fB.length (lm (bk) r.fB)])
noncomputable def C42 (fu : Nat) : Cm Tryz.prog (T_Tensor × (List Int) × T_moves_move × Int × (List Int)) T_Tensor := ⟨42, fun t => [.agg (c_T_Tensor t.1), .arr t.2.1.length (lm (ik .i64) t.2.1), .fn 106 [] [.ref [.ref (c_T_moves_move t.2.2.1) 0] 0, .ref [.v (.int .i64 t.2.2.2.1)] 0, .ref [.arr t.2.2.2.2.length (lm (ik .i64) t.2.2.2.2)] 0]], fun t => moves_picked fu t.1 t.2.1 (fun y0 => moves_move_pad_1 fu y0 t.2.2.1 t.2.2.2.1 t.2.2.2.2), e42, fun t b h => ok42 fu t.1 t.2.1 (fun y0 => moves_move_pad_1 fu y0 t.2.2.1 t.2.2.2.1 t.2.2.2.2) 106 [.ref [.ref (c_T_moves_move t.2.2.1) 0] 0, .ref [.v (.int .i64 t.2.2.2.1)] 0, .ref [.arr t.2.2.2.2.length (lm (ik .i64) t.2.2.2.2)] 0] rfl rfl (Capt.ref (Capt.ref (Capt.ref Capt.nil))) (fun y0 r h => ok106 fu y0 t.2.2.1 t.2.2.2.1 t.2.2.2.2 r h) b h, Zi⟩
theorem u42 {fu : Nat} {cp : CallP} (H : Hit cp (C42 fu).ct) : K42 fu cp := ⟨fun {a0 a1 c2 c3 c4 r} h => (C42 fu).at H (a0, a1, c2, c3, c4) r h⟩
def moves_move_pad.j1 : LJ 1 10 Unit Unit := ⟨fun r t e => [(1, er e 1), (2, er e 2), (4, er e 4), (5, er e 5), (6, er e 6)], fun r t h => [((0, 2, 0), hr h (0, 2, 0)), ((0, 4, 0), hr h (0, 4, 0)), ((0, 5, 0), hr h (0, 5, 0)), ((0, 6, 0), hr h (0, 6, 0))]⟩
set_option maxHeartbeats 20000000 in
open moves_move_pad in
theorem w52 (cp : CallP) (fu : Nat) (x1 : T_moves_move) (x2 : List Int) (H1 : K32 fu cp) (H2 : K41 fu cp) (H3 : K42 fu cp) : J (go Tryz.prog noC cp noI 0 [] d52 fu (fin Tryz.prog [.cell 4 27] [27]) (bodyOf Tryz.f52) (initE 0 [.ref (c_T_moves_move x1) 0, .arr x2.length (lm (ik .i64) x2)]) [] []) (moves_move_pad fu x1 x2) e52 := by
 unfold moves_move_pad e52
 have da := d52_at
 conv => arg 1; simp only [bodyOf, Tryz.f52]
 have z0 := d52_at
 exact Wk
theorem ok52 (fu : Nat) (x1 : T_moves_move) (x2 : List Int) (r) (h : moves_move_pad fu x1 x2 = some r) : PureOK Tryz.prog 52 [.ref (c_T_moves_move x1) 0, .arr x2.length (lm (ik .i64) x2)] (e52 r) := pureT mixed [(C32 fu).ct, (C41 fu).ct, (C42 fu).ct] (ids := [32, 41, 42]) rfl (by decide) i52 (C := noC) (ci := fun cp => noI) (fun cp ok => noI_ok) (fun cp H => w52 cp fu x1 x2 (u32 H.1) (u41 H.2.1) (u42 H.2.2.1)) h
def d93 : List (Nat × List Nat) := [(0, [2]), (0, []), (0, [0, 3])]
def d93_at := by have h := tabL d93.eq_1; simp only [AllAt, Nat.zero_add, Nat.reduceAdd] at h; exact h
theorem i93 : finfo Tryz.prog 93 d93 = some ⟨bodyOf Tryz.f93, [.tmp 2], [3]⟩ := finfo_at Tryz.func93 rfl (by kernel_rfl) (by kernel_rfl)
def e93 : Int → AV := fun r => .v (.int .i64 r)
set_option maxHeartbeats 20000000 in
theorem w93 (cp : CallP) (fu : Nat) (x1 : Int)  : J (go Tryz.prog noC cp noI 0 [] d93 fu (fin Tryz.prog [.tmp 2] [3]) (bodyOf Tryz.f93) (initE 0 [.v (.int .i64 x1)]) [] []) (moves_move_slice_1 fu x1) e93 := by
 unfold moves_move_slice_1 e93
 have da := d93_at
 conv => arg 1; simp only [bodyOf, Tryz.f93]
 have z0 := d93_at
 exact Wk
theorem ok93 (fu : Nat) (x1 : Int) (r) (h : moves_move_slice_1 fu x1 = some r) : PureOK Tryz.prog 93 [.v (.int .i64 x1)] (e93 r) := pureT mixed [] (ids := []) rfl (by decide) i93 (C := noC) (ci := fun cp => noI) (fun cp ok => noI_ok) (fun cp H => w93 cp fu x1 ) h
def d94 : List (Nat × List Nat) := [(0, [0, 2]), (0, []), (0, [])]
def d94_at := by have h := tabL d94.eq_1; simp only [AllAt, Nat.zero_add, Nat.reduceAdd] at h; exact h
theorem i94 : finfo Tryz.prog 94 d94 = some ⟨bodyOf Tryz.f94, [.tmp 2], [3]⟩ := finfo_at Tryz.func94 rfl (by kernel_rfl) (by kernel_rfl)
def e94 : Int → AV := fun r => .v (.int .i64 r)
set_option maxHeartbeats 20000000 in
theorem w94 (cp : CallP) (fu : Nat) (x1 : Int)  : J (go Tryz.prog noC cp noI 0 [] d94 fu (fin Tryz.prog [.tmp 2] [3]) (bodyOf Tryz.f94) (initE 0 [.v (.int .i64 x1)]) [] []) (moves_move_slice_2 fu x1) e94 := by
 unfold moves_move_slice_2 e94
 have da := d94_at
 conv => arg 1; simp only [bodyOf, Tryz.f94]
 have z0 := d94_at
 exact Wk
theorem ok94 (fu : Nat) (x1 : Int) (r) (h : moves_move_slice_2 fu x1 = some r) : PureOK Tryz.prog 94 [.v (.int .i64 x1)] (e94 r) := pureT mixed [] (ids := []) rfl (by decide) i94 (C := noC) (ci := fun cp => noI) (fun cp ok => noI_ok) (fun cp H => w94 cp fu x1 ) h
open Aw (d95)
def d95_at := by have h := tabL Aw.d95.eq_1; simp only [AllAt, Nat.zero_add, Nat.reduceAdd] at h; exact h
theorem i95 : finfo Tryz.prog 95 d95 = some ⟨bodyOf Tryz.f95, [.tmp 6], [3]⟩ := finfo_at Tryz.func95 rfl (by kernel_rfl) (by kernel_rfl)
def e95 : Int → AV := fun r => .v (.int .i64 r)
def moves_begins.j1 : LJ 1 6 Unit Int := ⟨fun r t e => [(0, er e 0), (1, .v (.int .i64 t)), (2, er e 2)], fun r t h => []⟩
set_option maxHeartbeats 20000000 in
open moves_begins in
theorem w95 (cp : CallP) (fu : Nat) (x1 : Int) (x2 : Int) (x3 : Int)  : J (go Tryz.prog noC cp noI 0 [] d95 fu (fin Tryz.prog [.tmp 6] [3]) (bodyOf Tryz.f95) (initE 0 [.v (.int .i64 x1), .v (.int .i64 x2), .v (.int .i64 x3)]) [] []) (moves_begins fu x1 x2 x3) e95 := by
 unfold moves_begins e95
 have da := d95_at
 conv => arg 1; simp only [bodyOf, Tryz.f95]
 have z0 := d95_at
 exact Wk
theorem ok95 (fu : Nat) (x1 : Int) (x2 : Int) (x3 : Int) (r) (h : moves_begins fu x1 x2 x3 = some r) : PureOK Tryz.prog 95 [.v (.int .i64 x1), .v (.int .i64 x2), .v (.int .i64 x3)] (e95 r) := pureT mixed [] (ids := []) rfl (by decide) i95 (C := noC) (ci := fun cp => noI) (fun cp ok => noI_ok) (fun cp H => w95 cp fu x1 x2 x3 ) h
open Aw (d44)
def d44_at := by have h := tabL Aw.d44.eq_1; simp only [AllAt, Nat.zero_add, Nat.reduceAdd] at h; exact h
theorem i44 : finfo Tryz.prog 44 d44 = some ⟨bodyOf Tryz.f44, [.tmp 4], [3]⟩ := finfo_at Tryz.func44 rfl (by kernel_rfl) (by kernel_rfl)
def e44 : Int → AV := fun r => .v (.int .i64 r)
def moves_dot.m1 : LJ 1 6 Unit (Int × Int) := ⟨fun r s e => [(0, er e 0), (5, .v (.int .i64 s.1)), (8, er e 8), (9, er e 9), (10, .v (.int .i64 s.2))], fun r s h => []⟩
set_option maxHeartbeats 20000000 in
open moves_dot in
theorem w44 (cp : CallP) (fu : Nat) (x1 : List Int) (x2 : List Int)  : J (go Tryz.prog noC cp noI 0 [] d44 fu (fin Tryz.prog [.tmp 4] [3]) (bodyOf Tryz.f44) (initE 0 [.arr x1.length (lm (ik .i64) x1), .arr x2.length (lm (ik .i64) x2)]) [] []) (moves_dot fu x1 x2) e44 := by
 unfold moves_dot e44
 have da := d44_at
 conv => arg 1; simp only [bodyOf, Tryz.f44]
 have z0 := d44_at
 exact Wk
theorem ok44 (fu : Nat) (x1 : List Int) (x2 : List Int) (r) (h : moves_dot fu x1 x2 = some r) : PureOK Tryz.prog 44 [.arr x1.length (lm (ik .i64) x1), .arr x2.length (lm (ik .i64) x2)] (e44 r) := pureT mixed [] (ids := []) rfl (by decide) i44 (C := noC) (ci := fun cp => noI) (fun cp ok => noI_ok) (fun cp H => w44 cp fu x1 x2 ) h
open Aw (d96)
def d96_at := by have h := tabL Aw.d96.eq_1; simp only [AllAt, Nat.zero_add, Nat.reduceAdd] at h; exact h
theorem i96 : finfo Tryz.prog 96 d96 = some ⟨bodyOf Tryz.f96, [.tmp 4], [3]⟩ := finfo_at Tryz.func96 rfl (by kernel_rfl) (by kernel_rfl)
def e96 : Int → AV := fun r => .v (.int .i64 r)
structure K44 (fu : Nat) (cp : CallP) : Prop where
 ap : ∀ {a0 : List Int} {a1 : List Int} {r}, moves_dot fu a0 a1 = some r → cp 44 [.arr a0.length (lm (ik .i64) a0), .arr a1.length (lm (ik .i64) a1)] = some (.v (.int .i64 r))
noncomputable def C44 (fu : Nat) : Cm Tryz.prog ((List Int) × (List Int)) Int := ⟨44, fun t => [.arr t.1.length (lm (ik .i64) t.1), .arr t.2.length (lm (ik .i64) t.2)], fun t => moves_dot fu t.1 t.2, e44, fun t b h => ok44 fu t.1 t.2  b h, Zi⟩
theorem u44 {fu : Nat} {cp : CallP} (H : Hit cp (C44 fu).ct) : K44 fu cp := ⟨fun {a0 a1 r} h => (C44 fu).at H (a0, a1) r h⟩
set_option maxHeartbeats 20000000 in
theorem w96 (cp : CallP) (fu : Nat) (x1 : List Int) (x2 : Int) (x3 : List Int) (H1 : K44 fu cp) : J (go Tryz.prog noC cp noI 0 [] d96 fu (fin Tryz.prog [.tmp 4] [3]) (bodyOf Tryz.f96) (initE 0 [.arr x1.length (lm (ik .i64) x1), .ref [.v (.int .i64 x2)] 0, .ref [.arr x3.length (lm (ik .i64) x3)] 0]) [] []) (moves_move_slice_3 fu x1 x2 x3) e96 := by
 unfold moves_move_slice_3 e96
 have da := d96_at
 conv => arg 1; simp only [bodyOf, Tryz.f96]
 have z0 := d96_at
 exact Wk
theorem ok96 (fu : Nat) (x1 : List Int) (x2 : Int) (x3 : List Int) (r) (h : moves_move_slice_3 fu x1 x2 x3 = some r) : PureOK Tryz.prog 96 [.arr x1.length (lm (ik .i64) x1), .ref [.v (.int .i64 x2)] 0, .ref [.arr x3.length (lm (ik .i64) x3)] 0] (e96 r) := pureT mixed [(C44 fu).ct] (ids := [44]) rfl (by decide) i96 (C := noC) (ci := fun cp => noI) (fun cp ok => noI_ok) (fun cp H => w96 cp fu x1 x2 x3 (u44 H.1)) h
open Aw (d92)
def d92_at := by have h := tabL Aw.d92.eq_1; simp only [AllAt, Nat.zero_add, Nat.reduceAdd] at h; exact h
noncomputable def b92 : Code := bodyOf Tryz.f92
theorem go_b92 {C : Cfg} {cp : CallP} {ci : CallI} {lvl : Nat} {prot : List Id} {D : List (Nat × List Nat)} {n : Nat} {K : KK} {e : Env} {h : Heap} {fs : List Fr} : go Tryz.prog C cp ci lvl prot D n K b92 e h fs = go Tryz.prog C cp ci lvl prot D n K (bodyOf Tryz.f92) e h fs := rfl
theorem i92 : finfo Tryz.prog 92 d92 = some ⟨b92, [.tmp 6], [22]⟩ := finfo_at Tryz.func92 rfl (by kernel_rfl) (by kernel_rfl)
open Aw (d47)
def d47_at := by have h := tabL Aw.d47.eq_1; simp only [AllAt, Nat.zero_add, Nat.reduceAdd] at h; exact h
theorem i47 : finfo Tryz.prog 47 d47 = some ⟨bodyOf Tryz.f47, [.cell 4 27], [27]⟩ := finfo_at Tryz.func47 rfl (by kernel_rfl) (by kernel_rfl)
def e47 : T_Tensor → AV := fun r => .agg [.v (.int .i64 r.fType), .fresh 1 r.fDims.length (lm (ik .i64) r.fDims), .fresh 1 r.fF.length (lm (ik .u32) r.fF), .fresh 1 r.fI.length (lm (ik .i64) r.fI), .fresh 1 r.fB.length (lm (bk) r.fB)]
set_option maxHeartbeats 20000000 in
theorem w47 (cp : CallP) (fu : Nat) (x1 : T_moves_move) (x2 : List Int) (H93_0 : ∀ (a0 : Int) r, moves_move_slice_1 fu a0 = some r → cp 93 [.v (.int .i64 a0)] = some (.v (.int .i64 r))) (H94_0 : ∀ (a0 : Int) r, moves_move_slice_2 fu a0 = some r → cp 94 [.v (.int .i64 a0)] = some (.v (.int .i64 r))) (H41_0 : ∀ (a0 : List Int) r, moves_strides fu a0 = some r → cp 41 [.arr a0.length (lm (ik .i64) a0)] = some (.fresh 1 r.length (lm (ik .i64) r))) (H39_0 : ∀ (a0 : List Int) r, slices_Clone_int fu a0 = some r → cp 39 [.arr a0.length (lm (ik .i64) a0)] = some (.fresh 1 r.length (lm (ik .i64) r))) (H22_0 : ∀ (a0 : Int) (a1 : Int) r, shape_Axis fu a0 a1 = some r → cp 22 [.v (.int .i64 a0), .v (.int .i64 a1)] = some (.tuple [.v (.int .i64 r.1), .v (.int .i64 r.2)])) (H95_0 : ∀ (a0 : Int) (a1 : Int) (a2 : Int) r, moves_begins fu a0 a1 a2 = some r → cp 95 [.v (.int .i64 a0), .v (.int .i64 a1), .v (.int .i64 a2)] = some (.v (.int .i64 r))) (H42_0 : ∀ (a0 : T_Tensor) (a1 : List Int) (c2 : Int) (c3 : List Int) r, moves_picked fu a0 a1 (fun y0 => moves_move_slice_3 fu y0 c2 c3) = some r → cp 42 [.agg (c_T_Tensor a0), .arr a1.length (lm (ik .i64) a1), .fn 96 [] [.ref [.v (.int .i64 c2)] 0, .ref [.arr c3.length (lm (ik .i64) c3)] 0]] = some (.agg [.v (.int .i64 r.fType), .fresh 1 r.fDims.length (lm (ik .i64) r.fDims), .fresh 1 r.fF.length (lm (ik .u32) r.fF), .fresh 1 r.fI.length (lm (ik .i64) r.fI), .fresh 1 r.fB.length (lm (bk) r.fB)])) : J (go Tryz.prog (inlC [92]) cp (ciE Tryz.prog (inlC [92]) cp noI fu 92 d92 ⟨b92, [.tmp 6], [22]⟩ noI) 0 [] d47 fu (fin Tryz.prog [.cell 4 27] [27]) (bodyOf Tryz.f47) (initE 0 [.ref (c_T_moves_move x1) 0, .arr x2.length (lm (ik .i64) x2)]) [] []) (moves_move_slice fu x1 x2) e47 := by
 unfold moves_move_slice e47
 have da := d47_at
 refine J.chk fun h1 => ?_
 conv => arg 1; simp (disch := first | exact Zd | fail) only [bodyOf, Tryz.f47, ZZ, d47_at, simprocAttr, bodyOf, Tryz.f92, d92_at, RI, RIk, initE, h1]
 refine J.callK (fun (t : List Int) => (.own (1, 7, 77) 0 t.length t.length, [((0, 4, 0), .bx true ([.v (.int .i64 0), .v (.slice none 0 0), .v (.slice none 0 0), .v (.slice none 0 0), .v (.slice none 0 0)])), ((1, 7, 77), .sl true true 1 t.length (lm (ik .i64) t))])) (fun t => moves_move_slice.c1 fu x1 x2 t) ?_ (fun hj1 => ?_)
 ·rintro x3
  show J _ (moves_move_slice.c1 fu x1 x2 x3) _
  unfold moves_move_slice.c1
  conv => arg 1; simp (disch := first | exact Zd | fail) only [ZZ, d47_at, simprocAttr, bodyOf, Tryz.f92, d92_at, RI, RIk, initE, h1]
  refine J.callK (fun (t : List Int) => (.own (2, 7, 77) 0 t.length t.length, [((0, 4, 0), .bx true ([.v (.int .i64 0), .v (.slice none 0 0), .v (.slice none 0 0), .v (.slice none 0 0), .v (.slice none 0 0)])), ((1, 7, 77), .sl true true 1 x3.length (lm (ik .i64) x3)), ((2, 7, 77), .sl true true 1 t.length (lm (ik .i64) t))])) (fun t => moves_move_slice.c2 fu x1 x2 x3 t) ?_ (fun hj2 => ?_)
  ·rintro x4
   show J _ (moves_move_slice.c2 fu x1 x2 x3 x4) _
   unfold moves_move_slice.c2
   conv => arg 1; simp (disch := first | exact Zd | fail) only [ZZ, d47_at, simprocAttr, bodyOf, Tryz.f92, d92_at, RI, RIk, initE, h1]
   refine J.callK (fun (t : List Int) => (.own (3, 7, 77) 0 t.length t.length, [((0, 4, 0), .bx true ([.v (.int .i64 0), .v (.slice none 0 0), .v (.slice none 0 0), .v (.slice none 0 0), .v (.slice none 0 0)])), ((1, 7, 77), .sl true true 1 x3.length (lm (ik .i64) x3)), ((2, 7, 77), .sl true true 1 x4.length (lm (ik .i64) x4)), ((3, 7, 77), .sl true true 1 t.length (lm (ik .i64) t))])) (fun t => moves_move_slice.c3 fu x1 x2 x3 x4 t) ?_ (fun hj3 => ?_)
   ·rintro x5
    show J _ (moves_move_slice.c3 fu x1 x2 x3 x4 x5) _
    unfold moves_move_slice.c3
    refine J.bind fun x6 h2 => ?_
    have e_h2 := H41_0 _ _ h2
    try simp only [NN, NT, LN, simprocAttr, DT] at e_h2
    refine J.bind fun x7 h3 => ?_
    have e_h3 := H39_0 _ _ h3
    try simp only [NN, NT, LN, simprocAttr, DT] at e_h3
    conv => arg 1; simp (disch := first | exact Zd | fail) only [ZZ, d47_at, simprocAttr, go_b92, bodyOf, Tryz.f92, d92_at, RI, RIk, initE, h1, e_h2, e_h3]
    refine J.joinS (fun (t : (List Int) × Int) => ([(0, .ref [.v (.int .i64 49), .v (.int .i64 x1.fs.fAxis), .arr x1.fs.fAxes.length (lm (ik .i64) x1.fs.fAxes), .v (.bool x1.fs.fHasAxes), .v (.bool x1.fs.fKeep), .v (.bool x1.fs.fNoop), .v (.bool x1.fs.fLast), .v (.bool x1.fs.fZero), .arr x1.fs.fPerm.length (lm (ik .i64) x1.fs.fPerm), .v (.bool x1.fs.fHasPerm), .v (.int .u32 x1.fs.fAlpha), .v (.int .u32 x1.fs.fBeta), .v (.int .u32 x1.fs.fEpsilon), .v (.bool x1.fs.fLow), .v (.bool x1.fs.fHigh), .v (.bool x1.fs.fFmod), .v (.int .i64 x1.fs.fTo), .v (.int .i64 x1.fs.fMode), .v (.bool x1.fs.fTransA), .v (.bool x1.fs.fTransB), .v (.int .i64 x1.fs.fGroup), .arr x1.fs.fKernel.length (lm (ik .i64) x1.fs.fKernel), .arr x1.fs.fStrides.length (lm (ik .i64) x1.fs.fStrides), .arr x1.fs.fPads.length (lm (ik .i64) x1.fs.fPads), .arr x1.fs.fDilations.length (lm (ik .i64) x1.fs.fDilations), .v (.int .i64 x1.fs.fAuto), .v (.bool x1.fs.fCeil), .v (.bool x1.fs.fCount), .v (.int .i64 x1.fs.fBlock), .v (.int .i64 x1.fs.fStart), .v (.int .i64 x1.fs.fEnd), .v (.bool x1.fs.fHasEnd), .v (.int .i64 x1.fs.fValue.fType), .arr x1.fs.fValue.fDims.length (lm (ik .i64) x1.fs.fValue.fDims), .arr x1.fs.fValue.fF.length (lm (ik .u32) x1.fs.fValue.fF), .arr x1.fs.fValue.fI.length (lm (ik .i64) x1.fs.fValue.fI), .arr x1.fs.fValue.fB.length (lm (bk) x1.fs.fValue.fB), .arr x1.fin.length (fm c_T_Tensor x1.fin), .v (.int .i64 x1.fx.fType), .arr x1.fx.fDims.length (lm (ik .i64) x1.fx.fDims), .arr x1.fx.fF.length (lm (ik .u32) x1.fx.fF), .arr x1.fx.fI.length (lm (ik .i64) x1.fx.fI), .arr x1.fx.fB.length (lm (bk) x1.fx.fB), .v (.int .i64 x1.faxis)] 0), (1, .arr x2.length (lm (ik .i64) x2)), (4, .ptr (0, 4, 0) 0 0), (9, .ptr (0, 9, 0) 0 0), (10, .ptr (0, 10, 0) 0 0)], [((0, 4, 0), .bx true ([.v (.int .i64 0), .v (.slice none 0 0), .v (.slice none 0 0), .v (.slice none 0 0), .v (.slice none 0 0)])), ((1, 7, 77), .sl true true 1 x3.length (lm (ik .i64) x3)), ((2, 7, 77), .sl true true 1 x4.length (lm (ik .i64) x4)), ((3, 7, 77), .sl true true 1 x5.length (lm (ik .i64) x5)), ((0, 25, 0), .sl true true 1 x6.length (lm (ik .i64) x6)), ((0, 27, 0), .sl true true 1 t.1.length (lm (ik .i64) t.1)), ((0, 9, 0), .bx true ([.own (0, 27, 0) 0 t.1.length t.1.length])), ((0, 10, 0), .bx true ([.v (.int .i64 t.2)]))])) (fun t => moves_move_slice.k4 fu x1 x2 t.1 t.2) ?_ (fun hj4 => ?_)
    ·rintro ⟨x8, x9⟩
     show J _ (moves_move_slice.k4 fu x1 x2 x8 x9) _
     unfold moves_move_slice.k4
     refine J.bind fun x10 h4 => ?_
     have e_h4 := H42_0 _ _ _ _ _ h4
     try simp only [NN, NT, LN, simprocAttr, DT] at e_h4
     refine J.some ?_
     simp (maxSteps := 20000000) (disch := first | exact Zd | fail) only [ZZ, d47_at, simprocAttr, go_b92, bodyOf, Tryz.f92, d92_at, RI, RIk, initE, h1, e_h2, e_h3, e_h4, FN]
    ·refine J.hd jn_at ?_
     conv => arg 1; simp (disch := first | exact Zd | fail) only [ZZ, d47_at, simprocAttr, go_b92, bodyOf, Tryz.f92, d92_at, RI, RIk, initE, h1, e_h2, e_h3]
     unfold moves_move_slice.W1
     refine J.loop (fun (s : (List Int) × Int × Int) => ([(0, .ref [.v (.int .i64 49), .v (.int .i64 x1.fs.fAxis), .arr x1.fs.fAxes.length (lm (ik .i64) x1.fs.fAxes), .v (.bool x1.fs.fHasAxes), .v (.bool x1.fs.fKeep), .v (.bool x1.fs.fNoop), .v (.bool x1.fs.fLast), .v (.bool x1.fs.fZero), .arr x1.fs.fPerm.length (lm (ik .i64) x1.fs.fPerm), .v (.bool x1.fs.fHasPerm), .v (.int .u32 x1.fs.fAlpha), .v (.int .u32 x1.fs.fBeta), .v (.int .u32 x1.fs.fEpsilon), .v (.bool x1.fs.fLow), .v (.bool x1.fs.fHigh), .v (.bool x1.fs.fFmod), .v (.int .i64 x1.fs.fTo), .v (.int .i64 x1.fs.fMode), .v (.bool x1.fs.fTransA), .v (.bool x1.fs.fTransB), .v (.int .i64 x1.fs.fGroup), .arr x1.fs.fKernel.length (lm (ik .i64) x1.fs.fKernel), .arr x1.fs.fStrides.length (lm (ik .i64) x1.fs.fStrides), .arr x1.fs.fPads.length (lm (ik .i64) x1.fs.fPads), .arr x1.fs.fDilations.length (lm (ik .i64) x1.fs.fDilations), .v (.int .i64 x1.fs.fAuto), .v (.bool x1.fs.fCeil), .v (.bool x1.fs.fCount), .v (.int .i64 x1.fs.fBlock), .v (.int .i64 x1.fs.fStart), .v (.int .i64 x1.fs.fEnd), .v (.bool x1.fs.fHasEnd), .v (.int .i64 x1.fs.fValue.fType), .arr x1.fs.fValue.fDims.length (lm (ik .i64) x1.fs.fValue.fDims), .arr x1.fs.fValue.fF.length (lm (ik .u32) x1.fs.fValue.fF), .arr x1.fs.fValue.fI.length (lm (ik .i64) x1.fs.fValue.fI), .arr x1.fs.fValue.fB.length (lm (bk) x1.fs.fValue.fB), .arr x1.fin.length (fm c_T_Tensor x1.fin), .v (.int .i64 x1.fx.fType), .arr x1.fx.fDims.length (lm (ik .i64) x1.fx.fDims), .arr x1.fx.fF.length (lm (ik .u32) x1.fx.fF), .arr x1.fx.fI.length (lm (ik .i64) x1.fx.fI), .arr x1.fx.fB.length (lm (bk) x1.fx.fB), .v (.int .i64 x1.faxis)] 0), (1, .arr x2.length (lm (ik .i64) x2)), (4, .ptr (0, 4, 0) 0 0), (5, .own (1, 7, 77) 0 x3.length x3.length), (7, .own (3, 7, 77) 0 x5.length x5.length), (8, .own (0, 25, 0) 0 x6.length x6.length), (9, .ptr (0, 9, 0) 0 0), (10, .ptr (0, 10, 0) 0 0), (28, .own (2, 7, 77) 0 x4.length x4.length), (29, .v (.int .i64 (x4.length : Int))), (30, .v (.int .i64 s.2.2))], [((0, 4, 0), .bx true ([.v (.int .i64 0), .v (.slice none 0 0), .v (.slice none 0 0), .v (.slice none 0 0), .v (.slice none 0 0)])), ((1, 7, 77), .sl true true 1 x3.length (lm (ik .i64) x3)), ((2, 7, 77), .sl true true 1 x4.length (lm (ik .i64) x4)), ((3, 7, 77), .sl true true 1 x5.length (lm (ik .i64) x5)), ((0, 25, 0), .sl true true 1 x6.length (lm (ik .i64) x6)), ((0, 27, 0), .sl true true 1 s.1.length (lm (ik .i64) s.1)), ((0, 9, 0), .bx true ([.own (0, 27, 0) 0 s.1.length s.1.length])), ((0, 10, 0), .bx true ([.v (.int .i64 s.2.1)]))])) (fun next s => moves_move_slice.L1 fu x1 x2 x3 x4 x5 x6 (fun x18 x19 x20 => next (x18, x19, x20)) s.1 s.2.1 s.2.2) (s0 := (x7, 0, 0)) ?_ ?_ ?_
     ·exact Ze
     ·exact Zh
     rintro next k1 hn1 ⟨x18, x19, x20⟩
     let nx1 : (List Int) → Int → Int → Option T_Tensor := (fun x18 x19 x20 => next (x18, x19, x20))
     show J _ (moves_move_slice.L1 fu x1 x2 x3 x4 x5 x6 nx1 x18 x19 x20) _
     unfold moves_move_slice.L1
     conv => arg 1; simp (disch := first | exact Zd | fail) only [ZZ, d47_at, simprocAttr, go_b92, bodyOf, Tryz.f92, d92_at, RI, RIk, initE, h1, e_h2, e_h3]
     refine J.eq go_seq ?_
     conv => arg 1; simp (disch := first | exact Zd | fail) only [ZZ, d47_at, simprocAttr, go_b92, bodyOf, Tryz.f92, d92_at, RI, RIk, initE, h1, e_h2, e_h3]
     refine J.ite (fun h5 => ?_) (fun h5 => ?_)
     ·have h5' := decide_eq_true h5
      have h5'' : decide ((x4.length : Int) ≤ x20) = false := decide_eq_false (by omega)
      conv => arg 1; simp (disch := first | exact Zd | fail) only [ZZ, d47_at, simprocAttr, go_b92, bodyOf, Tryz.f92, d92_at, RI, RIk, initE, h1, e_h2, e_h3, h5'', h5']
      refine J.eq ret_seq ?_
      refine J.eq go_seq ?_
      refine J.at fun x28 h6 h7 h8 => ?_
      refine J.bind fun x29 h9 => ?_
      have e_h9 := H22_0 _ _ _ h9
      try simp only [NN, NT, LN, simprocAttr, DT] at e_h9
      refine J.at fun x30 h10 h11 h12 => ?_
      refine J.at fun x31 h13 h14 h15 => ?_
      refine J.at fun x32 h16 h17 h18 => ?_
      refine J.bind fun x33 h19 => ?_
      have e_h19 := H95_0 _ _ _ _ h19
      try simp only [NN, NT, LN, simprocAttr, DT] at e_h19
      refine J.at fun x34 h20 h21 h22 => ?_
      refine J.chk fun h23 => ?_
      conv => arg 1; simp (disch := first | exact Zd | fail) only [ZZ, d47_at, simprocAttr, go_b92, bodyOf, Tryz.f92, d92_at, RI, RIk, initE, h1, e_h2, e_h3, h5'', h5', lm_ik h8, e_h9, lm_ik h12, lm_ik h15, lm_ik h18, e_h19, lm_ik h22]
      refine J.eq ret_seq ?_
      conv => arg 1; simp (disch := first | exact Zd | fail) only [ZZ, d47_at, simprocAttr, go_b92, bodyOf, Tryz.f92, d92_at, RI, RIk, initE, h1, e_h2, e_h3, h5'', h5', lm_ik h8, e_h9, lm_ik h12, lm_ik h15, lm_ik h18, e_h19, lm_ik h22]
      refine J.next (s := (x18.set x29.1.toNat (wk .i64 (x34 * (imax (imin x30 4097) (-4097)))), wk .i64 (x19 + (wk .i64 (x33 * x34))), wk .i64 (x20 + 1))) hn1 ?_ ?_
      ·exact Ze
      ·exact Zh
     ·have h5' := decide_eq_false h5
      have h5'' : decide ((x4.length : Int) ≤ x20) = true := decide_eq_true (by omega)
      conv => arg 1; simp (disch := first | exact Zd | fail) only [ZZ, d47_at, simprocAttr, go_b92, bodyOf, Tryz.f92, d92_at, RI, RIk, initE, h1, e_h2, e_h3, h5'', h5']
      refine J.jmp (t := (x18, x19)) hj4 ?_ ?_
      ·exact Ze
      ·exact Zh
   ·refine J.hd jc_at ?_
    refine J.eq go_b92 ?_
    conv => arg 1; simp (disch := first | exact Zd | fail) only [ZZ, d47_at, simprocAttr, go_b92, bodyOf, Tryz.f92, d92_at, RI, initE, h1]
    refine J.joinS (fun (t : Unit) => ([(0, .ref [.v (.int .i64 49), .v (.int .i64 x1.fs.fAxis), .arr x1.fs.fAxes.length (lm (ik .i64) x1.fs.fAxes), .v (.bool x1.fs.fHasAxes), .v (.bool x1.fs.fKeep), .v (.bool x1.fs.fNoop), .v (.bool x1.fs.fLast), .v (.bool x1.fs.fZero), .arr x1.fs.fPerm.length (lm (ik .i64) x1.fs.fPerm), .v (.bool x1.fs.fHasPerm), .v (.int .u32 x1.fs.fAlpha), .v (.int .u32 x1.fs.fBeta), .v (.int .u32 x1.fs.fEpsilon), .v (.bool x1.fs.fLow), .v (.bool x1.fs.fHigh), .v (.bool x1.fs.fFmod), .v (.int .i64 x1.fs.fTo), .v (.int .i64 x1.fs.fMode), .v (.bool x1.fs.fTransA), .v (.bool x1.fs.fTransB), .v (.int .i64 x1.fs.fGroup), .arr x1.fs.fKernel.length (lm (ik .i64) x1.fs.fKernel), .arr x1.fs.fStrides.length (lm (ik .i64) x1.fs.fStrides), .arr x1.fs.fPads.length (lm (ik .i64) x1.fs.fPads), .arr x1.fs.fDilations.length (lm (ik .i64) x1.fs.fDilations), .v (.int .i64 x1.fs.fAuto), .v (.bool x1.fs.fCeil), .v (.bool x1.fs.fCount), .v (.int .i64 x1.fs.fBlock), .v (.int .i64 x1.fs.fStart), .v (.int .i64 x1.fs.fEnd), .v (.bool x1.fs.fHasEnd), .v (.int .i64 x1.fs.fValue.fType), .arr x1.fs.fValue.fDims.length (lm (ik .i64) x1.fs.fValue.fDims), .arr x1.fs.fValue.fF.length (lm (ik .u32) x1.fs.fValue.fF), .arr x1.fs.fValue.fI.length (lm (ik .i64) x1.fs.fValue.fI), .arr x1.fs.fValue.fB.length (lm (bk) x1.fs.fValue.fB), .arr x1.fin.length (fm c_T_Tensor x1.fin), .v (.int .i64 x1.fx.fType), .arr x1.fx.fDims.length (lm (ik .i64) x1.fx.fDims), .arr x1.fx.fF.length (lm (ik .u32) x1.fx.fF), .arr x1.fx.fI.length (lm (ik .i64) x1.fx.fI), .arr x1.fx.fB.length (lm (bk) x1.fx.fB), .v (.int .i64 x1.faxis)] 0), (1, .v (.int .i64 4)), (2, .fn 94 [] []), (7, .own (3, 7, 77) 0 0 0)], [((0, 4, 0), .bx true ([.v (.int .i64 0), .v (.slice none 0 0), .v (.slice none 0 0), .v (.slice none 0 0), .v (.slice none 0 0)])), ((1, 7, 77), .sl true true 1 x3.length (lm (ik .i64) x3)), ((2, 7, 77), .sl true true 1 x4.length (lm (ik .i64) x4)), ((3, 7, 77), .sl true true 1 0 (lm (ik .i64) ([] : List Int)))])) (fun t => moves_move_slice.k5 fu x1 x2 x3 x4) ?_ (fun hj5 => ?_)
    ·rintro ⟨⟩
     show J _ (moves_move_slice.k5 fu x1 x2 x3 x4) _
     unfold moves_move_slice.k5
     refine J.eq go_seq ?_
     refine J.at fun x35 h24 h25 h26 => ?_
     replace h26 : x1.fin[1]? = some x35 := h26
     have h26k := fm_cut c_T_Tensor_len h26
     have h26f := fm_fit c_T_Tensor_len h26
     have h26a0 := fm_at (j := 0) c_T_Tensor_len h26 (by decide)
     have h26a1 := fm_at (j := 1) c_T_Tensor_len h26 (by decide)
     have h26a2 := fm_at (j := 2) c_T_Tensor_len h26 (by decide)
     have h26a3 := fm_at (j := 3) c_T_Tensor_len h26 (by decide)
     have h26a4 := fm_at (j := 4) c_T_Tensor_len h26 (by decide)
     simp only [simprocAttr, Nat.zero_mul, Nat.zero_add, Nat.add_zero, List.drop_zero] at h26k h26f h26a0 h26a1 h26a2 h26a3 h26a4
     conv => arg 1; simp (disch := first | exact Zd | fail) only [ZZ, d47_at, simprocAttr, go_b92, bodyOf, Tryz.f92, d92_at, RI, initE, h1, h26k, h26f, h26a0, h26a1, h26a2, h26a3, h26a4]
     unfold moves_move_slice.W2
     refine J.loop (fun (s : (List Int) × Int) => ([(2, .fn 94 [] []), (7, .own (3, 7, 77) 0 s.1.length s.1.length), (55, .v (.int .i64 (x35.fI.length : Int))), (56, .v (.int .i64 s.2))], [((0, 4, 0), .bx true ([.v (.int .i64 0), .v (.slice none 0 0), .v (.slice none 0 0), .v (.slice none 0 0), .v (.slice none 0 0)])), ((1, 7, 77), .sl true true 1 x3.length (lm (ik .i64) x3)), ((2, 7, 77), .sl true true 1 x4.length (lm (ik .i64) x4)), ((3, 7, 77), .sl true true 1 s.1.length (lm (ik .i64) s.1))])) (fun next s => moves_move_slice.L2 fu x1 x2 x3 x4 x35 (fun x37 x38 => next (x37, x38)) s.1 s.2) (s0 := (([] : List Int), 0)) ?_ ?_ ?_
     ·exact Ze
     ·exact Zh
     rintro next k2 hn2 ⟨x37, x38⟩
     let nx2 : (List Int) → Int → Option T_Tensor := (fun x37 x38 => next (x37, x38))
     show J _ (moves_move_slice.L2 fu x1 x2 x3 x4 x35 nx2 x37 x38) _
     unfold moves_move_slice.L2
     conv => arg 1; simp (disch := first | exact Zd | fail) only [ZZ, d47_at, simprocAttr, go_b92, bodyOf, Tryz.f92, d92_at, RI, initE, h1, h26k, h26f, h26a0, h26a1, h26a2, h26a3, h26a4]
     refine J.eq go_seq ?_
     conv => arg 1; simp (disch := first | exact Zd | fail) only [ZZ, d47_at, simprocAttr, go_b92, bodyOf, Tryz.f92, d92_at, RI, initE, h1, h26k, h26f, h26a0, h26a1, h26a2, h26a3, h26a4]
     refine J.ite (fun h27 => ?_) (fun h27 => ?_)
     ·have h27' := decide_eq_true h27
      have h27'' : decide ((x35.fI.length : Int) ≤ x38) = false := decide_eq_false (by omega)
      conv => arg 1; simp (disch := first | exact Zd | fail) only [ZZ, d47_at, simprocAttr, go_b92, bodyOf, Tryz.f92, d92_at, RI, initE, h1, h26k, h26f, h26a0, h26a1, h26a2, h26a3, h26a4, h27'', h27']
      refine J.eq ret_seq ?_
      refine J.eq go_seq ?_
      refine J.bind fun x40 h28 => ?_
      have e_h28 := H94_0 _ _ h28
      try simp only [NN, NT, LN, simprocAttr, DT] at e_h28
      refine J.chk fun h29 => ?_
      conv => arg 1; simp (disch := first | exact Zd | fail) only [ZZ, d47_at, simprocAttr, go_b92, bodyOf, Tryz.f92, d92_at, RI, initE, h1, h26k, h26f, h26a0, h26a1, h26a2, h26a3, h26a4, h27'', h27', e_h28]
      refine J.eq ret_seq ?_
      conv => arg 1; simp (disch := first | exact Zd | fail) only [ZZ, d47_at, simprocAttr, go_b92, bodyOf, Tryz.f92, d92_at, RI, initE, h1, h26k, h26f, h26a0, h26a1, h26a2, h26a3, h26a4, h27'', h27', e_h28]
      refine J.next (s := (x37 ++ ([x40]), wk .i64 (x38 + 1))) hn2 ?_ ?_
      ·exact Ze
      ·exact Zh
     ·have h27' := decide_eq_false h27
      have h27'' : decide ((x35.fI.length : Int) ≤ x38) = true := decide_eq_true (by omega)
      conv => arg 1; simp (disch := first | exact Zd | fail) only [ZZ, d47_at, simprocAttr, go_b92, bodyOf, Tryz.f92, d92_at, RI, initE, h1, h26k, h26f, h26a0, h26a1, h26a2, h26a3, h26a4, h27'', h27']
      refine J.eq ret_seq ?_
      conv => arg 1; simp (disch := first | exact Zd | fail) only [ZZ, d47_at, simprocAttr, go_b92, bodyOf, Tryz.f92, d92_at, RI, initE, h1, h26k, h26f, h26a0, h26a1, h26a2, h26a3, h26a4, h27'', h27']
      refine J.kret (t := x37) hj3 ?_
      simp (disch := first | exact Zd | fail) only [ZZ, d47_at, simprocAttr, go_b92, bodyOf, Tryz.f92, d92_at, RI, initE, h1, h26k, h26f, h26a0, h26a1, h26a2, h26a3, h26a4, h27'', h27', kinV_at, kinVB_at, LN, NN, NT]
    ·refine J.hd jn_at ?_
     refine J.eq go_seq ?_
     conv => arg 1; simp (disch := first | exact Zd | fail) only [ZZ, d47_at, simprocAttr, go_b92, bodyOf, Tryz.f92, d92_at, RI, initE, h1]
     refine J.ite (fun h30 => ?_) (fun h30 => ?_)
     ·have h30' := decide_eq_true h30
      have h30'' : decide ((x1.fin.length : Int) ≤ 4) = false := decide_eq_false (by omega)
      refine J.at fun x41 h31 h32 h33 => ?_
      replace h33 : x1.fin[4]? = some x41 := h33
      have h33k := fm_cut c_T_Tensor_len h33
      have h33f := fm_fit c_T_Tensor_len h33
      have h33a0 := fm_at (j := 0) c_T_Tensor_len h33 (by decide)
      have h33a1 := fm_at (j := 1) c_T_Tensor_len h33 (by decide)
      have h33a2 := fm_at (j := 2) c_T_Tensor_len h33 (by decide)
      have h33a3 := fm_at (j := 3) c_T_Tensor_len h33 (by decide)
      have h33a4 := fm_at (j := 4) c_T_Tensor_len h33 (by decide)
      simp only [simprocAttr, Nat.zero_mul, Nat.zero_add, Nat.add_zero, List.drop_zero] at h33k h33f h33a0 h33a1 h33a2 h33a3 h33a4
      conv => arg 1; simp (disch := first | exact Zd | fail) only [ZZ, d47_at, simprocAttr, go_b92, bodyOf, Tryz.f92, d92_at, RI, initE, h1, h30'', h30', h33k, h33f, h33a0, h33a1, h33a2, h33a3, h33a4]
      refine J.eq ret_seq ?_
      conv => arg 1; simp (disch := first | exact Zd | fail) only [ZZ, d47_at, simprocAttr, go_b92, bodyOf, Tryz.f92, d92_at, RI, initE, h1, h30'', h30', h33k, h33f, h33a0, h33a1, h33a2, h33a3, h33a4]
      refine J.ite (fun h34 => ?_) (fun h34 => ?_)
      ·have h34' := decide_eq_true h34
       conv => arg 1; simp (disch := first | exact Zd | fail) only [ZZ, d47_at, simprocAttr, go_b92, bodyOf, Tryz.f92, d92_at, RI, initE, h1, h30'', h30', h33k, h33f, h33a0, h33a1, h33a2, h33a3, h33a4, h34']
       refine J.jmp (t := ()) hj5 ?_ ?_
       ·exact Ze
       ·exact Zh
      ·have h34' := decide_eq_false h34
       conv => arg 1; simp (disch := first | exact Zd | fail) only [ZZ, d47_at, simprocAttr, go_b92, bodyOf, Tryz.f92, d92_at, RI, initE, h1, h30'', h30', h33k, h33f, h33a0, h33a1, h33a2, h33a3, h33a4, h34']
       refine J.eq go_seq ?_
       conv => arg 1; simp (disch := first | exact Zd | fail) only [ZZ, d47_at, simprocAttr, go_b92, bodyOf, Tryz.f92, d92_at, RI, initE, h1, h30'', h30', h33k, h33f, h33a0, h33a1, h33a2, h33a3, h33a4, h34']
       unfold moves_move_slice.W3
       refine J.loop (fun (s : (List Int) × Int) => ([(0, .ref [.v (.int .i64 49), .v (.int .i64 x1.fs.fAxis), .arr x1.fs.fAxes.length (lm (ik .i64) x1.fs.fAxes), .v (.bool x1.fs.fHasAxes), .v (.bool x1.fs.fKeep), .v (.bool x1.fs.fNoop), .v (.bool x1.fs.fLast), .v (.bool x1.fs.fZero), .arr x1.fs.fPerm.length (lm (ik .i64) x1.fs.fPerm), .v (.bool x1.fs.fHasPerm), .v (.int .u32 x1.fs.fAlpha), .v (.int .u32 x1.fs.fBeta), .v (.int .u32 x1.fs.fEpsilon), .v (.bool x1.fs.fLow), .v (.bool x1.fs.fHigh), .v (.bool x1.fs.fFmod), .v (.int .i64 x1.fs.fTo), .v (.int .i64 x1.fs.fMode), .v (.bool x1.fs.fTransA), .v (.bool x1.fs.fTransB), .v (.int .i64 x1.fs.fGroup), .arr x1.fs.fKernel.length (lm (ik .i64) x1.fs.fKernel), .arr x1.fs.fStrides.length (lm (ik .i64) x1.fs.fStrides), .arr x1.fs.fPads.length (lm (ik .i64) x1.fs.fPads), .arr x1.fs.fDilations.length (lm (ik .i64) x1.fs.fDilations), .v (.int .i64 x1.fs.fAuto), .v (.bool x1.fs.fCeil), .v (.bool x1.fs.fCount), .v (.int .i64 x1.fs.fBlock), .v (.int .i64 x1.fs.fStart), .v (.int .i64 x1.fs.fEnd), .v (.bool x1.fs.fHasEnd), .v (.int .i64 x1.fs.fValue.fType), .arr x1.fs.fValue.fDims.length (lm (ik .i64) x1.fs.fValue.fDims), .arr x1.fs.fValue.fF.length (lm (ik .u32) x1.fs.fValue.fF), .arr x1.fs.fValue.fI.length (lm (ik .i64) x1.fs.fValue.fI), .arr x1.fs.fValue.fB.length (lm (bk) x1.fs.fValue.fB), .arr x1.fin.length (fm c_T_Tensor x1.fin), .v (.int .i64 x1.fx.fType), .arr x1.fx.fDims.length (lm (ik .i64) x1.fx.fDims), .arr x1.fx.fF.length (lm (ik .u32) x1.fx.fF), .arr x1.fx.fI.length (lm (ik .i64) x1.fx.fI), .arr x1.fx.fB.length (lm (bk) x1.fx.fB), .v (.int .i64 x1.faxis)] 0), (1, .v (.int .i64 4)), (2, .fn 94 [] []), (7, .own (3, 7, 77) 0 s.1.length s.1.length), (36, .arr x41.fI.length (lm (ik .i64) x41.fI)), (37, .v (.int .i64 (x41.fI.length : Int))), (38, .v (.int .i64 s.2))], [((0, 4, 0), .bx true ([.v (.int .i64 0), .v (.slice none 0 0), .v (.slice none 0 0), .v (.slice none 0 0), .v (.slice none 0 0)])), ((1, 7, 77), .sl true true 1 x3.length (lm (ik .i64) x3)), ((2, 7, 77), .sl true true 1 x4.length (lm (ik .i64) x4)), ((3, 7, 77), .sl true true 1 s.1.length (lm (ik .i64) s.1))])) (fun next s => moves_move_slice.L3 fu x1 x2 x3 x4 x41 (fun x43 x44 => next (x43, x44)) s.1 s.2) (s0 := (([] : List Int), 0)) ?_ ?_ ?_
       ·exact Ze
       ·exact Zh
       rintro next k3 hn3 ⟨x43, x44⟩
       let nx3 : (List Int) → Int → Option T_Tensor := (fun x43 x44 => next (x43, x44))
       show J _ (moves_move_slice.L3 fu x1 x2 x3 x4 x41 nx3 x43 x44) _
       unfold moves_move_slice.L3
       conv => arg 1; simp (disch := first | exact Zd | fail) only [ZZ, d47_at, simprocAttr, go_b92, bodyOf, Tryz.f92, d92_at, RI, initE, h1, h30'', h30', h33k, h33f, h33a0, h33a1, h33a2, h33a3, h33a4, h34']
       refine J.eq go_seq ?_
       conv => arg 1; simp (disch := first | exact Zd | fail) only [ZZ, d47_at, simprocAttr, go_b92, bodyOf, Tryz.f92, d92_at, RI, initE, h1, h30'', h30', h33k, h33f, h33a0, h33a1, h33a2, h33a3, h33a4, h34']
       refine J.ite (fun h35 => ?_) (fun h35 => ?_)
       ·have h35' := decide_eq_true h35
        have h35'' : decide ((x41.fI.length : Int) ≤ x44) = false := decide_eq_false (by omega)
        conv => arg 1; simp (disch := first | exact Zd | fail) only [ZZ, d47_at, simprocAttr, go_b92, bodyOf, Tryz.f92, d92_at, RI, initE, h1, h30'', h30', h33k, h33f, h33a0, h33a1, h33a2, h33a3, h33a4, h34', h35'', h35']
        refine J.eq ret_seq ?_
        refine J.eq go_seq ?_
        refine J.at fun x46 h36 h37 h38 => ?_
        refine J.chk fun h39 => ?_
        conv => arg 1; simp (disch := first | exact Zd | fail) only [ZZ, d47_at, simprocAttr, go_b92, bodyOf, Tryz.f92, d92_at, RI, initE, h1, h30'', h30', h33k, h33f, h33a0, h33a1, h33a2, h33a3, h33a4, h34', h35'', h35', lm_ik h38]
        refine J.eq ret_seq ?_
        conv => arg 1; simp (disch := first | exact Zd | fail) only [ZZ, d47_at, simprocAttr, go_b92, bodyOf, Tryz.f92, d92_at, RI, initE, h1, h30'', h30', h33k, h33f, h33a0, h33a1, h33a2, h33a3, h33a4, h34', h35'', h35', lm_ik h38]
        refine J.next (s := (x43 ++ ([x46]), wk .i64 (x44 + 1))) hn3 ?_ ?_
        ·exact Ze
        ·exact Zh
       ·have h35' := decide_eq_false h35
        have h35'' : decide ((x41.fI.length : Int) ≤ x44) = true := decide_eq_true (by omega)
        conv => arg 1; simp (disch := first | exact Zd | fail) only [ZZ, d47_at, simprocAttr, go_b92, bodyOf, Tryz.f92, d92_at, RI, initE, h1, h30'', h30', h33k, h33f, h33a0, h33a1, h33a2, h33a3, h33a4, h34', h35'', h35']
        refine J.eq ret_seq ?_
        conv => arg 1; simp (disch := first | exact Zd | fail) only [ZZ, d47_at, simprocAttr, go_b92, bodyOf, Tryz.f92, d92_at, RI, initE, h1, h30'', h30', h33k, h33f, h33a0, h33a1, h33a2, h33a3, h33a4, h34', h35'', h35']
        refine J.kret (t := x43) hj3 ?_
        simp (disch := first | exact Zd | fail) only [ZZ, d47_at, simprocAttr, go_b92, bodyOf, Tryz.f92, d92_at, RI, initE, h1, h30'', h30', h33k, h33f, h33a0, h33a1, h33a2, h33a3, h33a4, h34', h35'', h35', kinV_at, kinVB_at, LN, NN, NT]
     ·have h30' := decide_eq_false h30
      have h30'' : decide ((x1.fin.length : Int) ≤ 4) = true := decide_eq_true (by omega)
      conv => arg 1; simp (disch := first | exact Zd | fail) only [ZZ, d47_at, simprocAttr, go_b92, bodyOf, Tryz.f92, d92_at, RI, initE, h1, h30'', h30']
      refine J.eq ret_seq ?_
      conv => arg 1; simp (disch := first | exact Zd | fail) only [ZZ, d47_at, simprocAttr, go_b92, bodyOf, Tryz.f92, d92_at, RI, initE, h1, h30'', h30']
      refine J.jmp (t := ()) hj5 ?_ ?_
      ·exact Ze
      ·exact Zh
  ·refine J.hd jc_at ?_
   refine J.eq go_b92 ?_
   conv => arg 1; simp (disch := first | exact Zd | fail) only [ZZ, d47_at, simprocAttr, go_b92, bodyOf, Tryz.f92, d92_at, RI, initE, h1]
   refine J.joinS (fun (t : Unit) => ([(0, .ref [.v (.int .i64 49), .v (.int .i64 x1.fs.fAxis), .arr x1.fs.fAxes.length (lm (ik .i64) x1.fs.fAxes), .v (.bool x1.fs.fHasAxes), .v (.bool x1.fs.fKeep), .v (.bool x1.fs.fNoop), .v (.bool x1.fs.fLast), .v (.bool x1.fs.fZero), .arr x1.fs.fPerm.length (lm (ik .i64) x1.fs.fPerm), .v (.bool x1.fs.fHasPerm), .v (.int .u32 x1.fs.fAlpha), .v (.int .u32 x1.fs.fBeta), .v (.int .u32 x1.fs.fEpsilon), .v (.bool x1.fs.fLow), .v (.bool x1.fs.fHigh), .v (.bool x1.fs.fFmod), .v (.int .i64 x1.fs.fTo), .v (.int .i64 x1.fs.fMode), .v (.bool x1.fs.fTransA), .v (.bool x1.fs.fTransB), .v (.int .i64 x1.fs.fGroup), .arr x1.fs.fKernel.length (lm (ik .i64) x1.fs.fKernel), .arr x1.fs.fStrides.length (lm (ik .i64) x1.fs.fStrides), .arr x1.fs.fPads.length (lm (ik .i64) x1.fs.fPads), .arr x1.fs.fDilations.length (lm (ik .i64) x1.fs.fDilations), .v (.int .i64 x1.fs.fAuto), .v (.bool x1.fs.fCeil), .v (.bool x1.fs.fCount), .v (.int .i64 x1.fs.fBlock), .v (.int .i64 x1.fs.fStart), .v (.int .i64 x1.fs.fEnd), .v (.bool x1.fs.fHasEnd), .v (.int .i64 x1.fs.fValue.fType), .arr x1.fs.fValue.fDims.length (lm (ik .i64) x1.fs.fValue.fDims), .arr x1.fs.fValue.fF.length (lm (ik .u32) x1.fs.fValue.fF), .arr x1.fs.fValue.fI.length (lm (ik .i64) x1.fs.fValue.fI), .arr x1.fs.fValue.fB.length (lm (bk) x1.fs.fValue.fB), .arr x1.fin.length (fm c_T_Tensor x1.fin), .v (.int .i64 x1.fx.fType), .arr x1.fx.fDims.length (lm (ik .i64) x1.fx.fDims), .arr x1.fx.fF.length (lm (ik .u32) x1.fx.fF), .arr x1.fx.fI.length (lm (ik .i64) x1.fx.fI), .arr x1.fx.fB.length (lm (bk) x1.fx.fB), .v (.int .i64 x1.faxis)] 0), (1, .v (.int .i64 3)), (2, .fn 93 [] []), (7, .own (2, 7, 77) 0 0 0)], [((0, 4, 0), .bx true ([.v (.int .i64 0), .v (.slice none 0 0), .v (.slice none 0 0), .v (.slice none 0 0), .v (.slice none 0 0)])), ((1, 7, 77), .sl true true 1 x3.length (lm (ik .i64) x3)), ((2, 7, 77), .sl true true 1 0 (lm (ik .i64) ([] : List Int)))])) (fun t => moves_move_slice.k6 fu x1 x2 x3) ?_ (fun hj6 => ?_)
   ·rintro ⟨⟩
    show J _ (moves_move_slice.k6 fu x1 x2 x3) _
    unfold moves_move_slice.k6
    refine J.eq go_seq ?_
    refine J.at fun x47 h40 h41 h42 => ?_
    replace h42 : x1.fin[1]? = some x47 := h42
    have h42k := fm_cut c_T_Tensor_len h42
    have h42f := fm_fit c_T_Tensor_len h42
    have h42a0 := fm_at (j := 0) c_T_Tensor_len h42 (by decide)
    have h42a1 := fm_at (j := 1) c_T_Tensor_len h42 (by decide)
    have h42a2 := fm_at (j := 2) c_T_Tensor_len h42 (by decide)
    have h42a3 := fm_at (j := 3) c_T_Tensor_len h42 (by decide)
    have h42a4 := fm_at (j := 4) c_T_Tensor_len h42 (by decide)
    simp only [simprocAttr, Nat.zero_mul, Nat.zero_add, Nat.add_zero, List.drop_zero] at h42k h42f h42a0 h42a1 h42a2 h42a3 h42a4
    conv => arg 1; simp (disch := first | exact Zd | fail) only [ZZ, d47_at, simprocAttr, go_b92, bodyOf, Tryz.f92, d92_at, RI, initE, h1, h42k, h42f, h42a0, h42a1, h42a2, h42a3, h42a4]
    unfold moves_move_slice.W4
    refine J.loop (fun (s : (List Int) × Int) => ([(2, .fn 93 [] []), (7, .own (2, 7, 77) 0 s.1.length s.1.length), (55, .v (.int .i64 (x47.fI.length : Int))), (56, .v (.int .i64 s.2))], [((0, 4, 0), .bx true ([.v (.int .i64 0), .v (.slice none 0 0), .v (.slice none 0 0), .v (.slice none 0 0), .v (.slice none 0 0)])), ((1, 7, 77), .sl true true 1 x3.length (lm (ik .i64) x3)), ((2, 7, 77), .sl true true 1 s.1.length (lm (ik .i64) s.1))])) (fun next s => moves_move_slice.L4 fu x1 x2 x3 x47 (fun x49 x50 => next (x49, x50)) s.1 s.2) (s0 := (([] : List Int), 0)) ?_ ?_ ?_
    ·exact Ze
    ·exact Zh
    rintro next k4 hn4 ⟨x49, x50⟩
    let nx4 : (List Int) → Int → Option T_Tensor := (fun x49 x50 => next (x49, x50))
    show J _ (moves_move_slice.L4 fu x1 x2 x3 x47 nx4 x49 x50) _
    unfold moves_move_slice.L4
    conv => arg 1; simp (disch := first | exact Zd | fail) only [ZZ, d47_at, simprocAttr, go_b92, bodyOf, Tryz.f92, d92_at, RI, initE, h1, h42k, h42f, h42a0, h42a1, h42a2, h42a3, h42a4]
    refine J.eq go_seq ?_
    conv => arg 1; simp (disch := first | exact Zd | fail) only [ZZ, d47_at, simprocAttr, go_b92, bodyOf, Tryz.f92, d92_at, RI, initE, h1, h42k, h42f, h42a0, h42a1, h42a2, h42a3, h42a4]
    refine J.ite (fun h43 => ?_) (fun h43 => ?_)
    ·have h43' := decide_eq_true h43
     have h43'' : decide ((x47.fI.length : Int) ≤ x50) = false := decide_eq_false (by omega)
     conv => arg 1; simp (disch := first | exact Zd | fail) only [ZZ, d47_at, simprocAttr, go_b92, bodyOf, Tryz.f92, d92_at, RI, initE, h1, h42k, h42f, h42a0, h42a1, h42a2, h42a3, h42a4, h43'', h43']
     refine J.eq ret_seq ?_
     refine J.eq go_seq ?_
     refine J.bind fun x52 h44 => ?_
     have e_h44 := H93_0 _ _ h44
     try simp only [NN, NT, LN, simprocAttr, DT] at e_h44
     refine J.chk fun h45 => ?_
     conv => arg 1; simp (disch := first | exact Zd | fail) only [ZZ, d47_at, simprocAttr, go_b92, bodyOf, Tryz.f92, d92_at, RI, initE, h1, h42k, h42f, h42a0, h42a1, h42a2, h42a3, h42a4, h43'', h43', e_h44]
     refine J.eq ret_seq ?_
     conv => arg 1; simp (disch := first | exact Zd | fail) only [ZZ, d47_at, simprocAttr, go_b92, bodyOf, Tryz.f92, d92_at, RI, initE, h1, h42k, h42f, h42a0, h42a1, h42a2, h42a3, h42a4, h43'', h43', e_h44]
     refine J.next (s := (x49 ++ ([x52]), wk .i64 (x50 + 1))) hn4 ?_ ?_
     ·exact Ze
     ·exact Zh
    ·have h43' := decide_eq_false h43
     have h43'' : decide ((x47.fI.length : Int) ≤ x50) = true := decide_eq_true (by omega)
     conv => arg 1; simp (disch := first | exact Zd | fail) only [ZZ, d47_at, simprocAttr, go_b92, bodyOf, Tryz.f92, d92_at, RI, initE, h1, h42k, h42f, h42a0, h42a1, h42a2, h42a3, h42a4, h43'', h43']
     refine J.eq ret_seq ?_
     conv => arg 1; simp (disch := first | exact Zd | fail) only [ZZ, d47_at, simprocAttr, go_b92, bodyOf, Tryz.f92, d92_at, RI, initE, h1, h42k, h42f, h42a0, h42a1, h42a2, h42a3, h42a4, h43'', h43']
     refine J.kret (t := x49) hj2 ?_
     simp (disch := first | exact Zd | fail) only [ZZ, d47_at, simprocAttr, go_b92, bodyOf, Tryz.f92, d92_at, RI, initE, h1, h42k, h42f, h42a0, h42a1, h42a2, h42a3, h42a4, h43'', h43', kinV_at, kinVB_at, LN, NN, NT]
   ·refine J.hd jn_at ?_
    refine J.eq go_seq ?_
    conv => arg 1; simp (disch := first | exact Zd | fail) only [ZZ, d47_at, simprocAttr, go_b92, bodyOf, Tryz.f92, d92_at, RI, initE, h1]
    refine J.ite (fun h46 => ?_) (fun h46 => ?_)
    ·have h46' := decide_eq_true h46
     have h46'' : decide ((x1.fin.length : Int) ≤ 3) = false := decide_eq_false (by omega)
     refine J.at fun x53 h47 h48 h49 => ?_
     replace h49 : x1.fin[3]? = some x53 := h49
     have h49k := fm_cut c_T_Tensor_len h49
     have h49f := fm_fit c_T_Tensor_len h49
     have h49a0 := fm_at (j := 0) c_T_Tensor_len h49 (by decide)
     have h49a1 := fm_at (j := 1) c_T_Tensor_len h49 (by decide)
     have h49a2 := fm_at (j := 2) c_T_Tensor_len h49 (by decide)
     have h49a3 := fm_at (j := 3) c_T_Tensor_len h49 (by decide)
     have h49a4 := fm_at (j := 4) c_T_Tensor_len h49 (by decide)
     simp only [simprocAttr, Nat.zero_mul, Nat.zero_add, Nat.add_zero, List.drop_zero] at h49k h49f h49a0 h49a1 h49a2 h49a3 h49a4
     conv => arg 1; simp (disch := first | exact Zd | fail) only [ZZ, d47_at, simprocAttr, go_b92, bodyOf, Tryz.f92, d92_at, RI, initE, h1, h46'', h46', h49k, h49f, h49a0, h49a1, h49a2, h49a3, h49a4]
     refine J.eq ret_seq ?_
     conv => arg 1; simp (disch := first | exact Zd | fail) only [ZZ, d47_at, simprocAttr, go_b92, bodyOf, Tryz.f92, d92_at, RI, initE, h1, h46'', h46', h49k, h49f, h49a0, h49a1, h49a2, h49a3, h49a4]
     refine J.ite (fun h50 => ?_) (fun h50 => ?_)
     ·have h50' := decide_eq_true h50
      conv => arg 1; simp (disch := first | exact Zd | fail) only [ZZ, d47_at, simprocAttr, go_b92, bodyOf, Tryz.f92, d92_at, RI, initE, h1, h46'', h46', h49k, h49f, h49a0, h49a1, h49a2, h49a3, h49a4, h50']
      refine J.jmp (t := ()) hj6 ?_ ?_
      ·exact Ze
      ·exact Zh
     ·have h50' := decide_eq_false h50
      conv => arg 1; simp (disch := first | exact Zd | fail) only [ZZ, d47_at, simprocAttr, go_b92, bodyOf, Tryz.f92, d92_at, RI, initE, h1, h46'', h46', h49k, h49f, h49a0, h49a1, h49a2, h49a3, h49a4, h50']
      refine J.eq go_seq ?_
      conv => arg 1; simp (disch := first | exact Zd | fail) only [ZZ, d47_at, simprocAttr, go_b92, bodyOf, Tryz.f92, d92_at, RI, initE, h1, h46'', h46', h49k, h49f, h49a0, h49a1, h49a2, h49a3, h49a4, h50']
      unfold moves_move_slice.W5
      refine J.loop (fun (s : (List Int) × Int) => ([(0, .ref [.v (.int .i64 49), .v (.int .i64 x1.fs.fAxis), .arr x1.fs.fAxes.length (lm (ik .i64) x1.fs.fAxes), .v (.bool x1.fs.fHasAxes), .v (.bool x1.fs.fKeep), .v (.bool x1.fs.fNoop), .v (.bool x1.fs.fLast), .v (.bool x1.fs.fZero), .arr x1.fs.fPerm.length (lm (ik .i64) x1.fs.fPerm), .v (.bool x1.fs.fHasPerm), .v (.int .u32 x1.fs.fAlpha), .v (.int .u32 x1.fs.fBeta), .v (.int .u32 x1.fs.fEpsilon), .v (.bool x1.fs.fLow), .v (.bool x1.fs.fHigh), .v (.bool x1.fs.fFmod), .v (.int .i64 x1.fs.fTo), .v (.int .i64 x1.fs.fMode), .v (.bool x1.fs.fTransA), .v (.bool x1.fs.fTransB), .v (.int .i64 x1.fs.fGroup), .arr x1.fs.fKernel.length (lm (ik .i64) x1.fs.fKernel), .arr x1.fs.fStrides.length (lm (ik .i64) x1.fs.fStrides), .arr x1.fs.fPads.length (lm (ik .i64) x1.fs.fPads), .arr x1.fs.fDilations.length (lm (ik .i64) x1.fs.fDilations), .v (.int .i64 x1.fs.fAuto), .v (.bool x1.fs.fCeil), .v (.bool x1.fs.fCount), .v (.int .i64 x1.fs.fBlock), .v (.int .i64 x1.fs.fStart), .v (.int .i64 x1.fs.fEnd), .v (.bool x1.fs.fHasEnd), .v (.int .i64 x1.fs.fValue.fType), .arr x1.fs.fValue.fDims.length (lm (ik .i64) x1.fs.fValue.fDims), .arr x1.fs.fValue.fF.length (lm (ik .u32) x1.fs.fValue.fF), .arr x1.fs.fValue.fI.length (lm (ik .i64) x1.fs.fValue.fI), .arr x1.fs.fValue.fB.length (lm (bk) x1.fs.fValue.fB), .arr x1.fin.length (fm c_T_Tensor x1.fin), .v (.int .i64 x1.fx.fType), .arr x1.fx.fDims.length (lm (ik .i64) x1.fx.fDims), .arr x1.fx.fF.length (lm (ik .u32) x1.fx.fF), .arr x1.fx.fI.length (lm (ik .i64) x1.fx.fI), .arr x1.fx.fB.length (lm (bk) x1.fx.fB), .v (.int .i64 x1.faxis)] 0), (1, .v (.int .i64 3)), (2, .fn 93 [] []), (7, .own (2, 7, 77) 0 s.1.length s.1.length), (36, .arr x53.fI.length (lm (ik .i64) x53.fI)), (37, .v (.int .i64 (x53.fI.length : Int))), (38, .v (.int .i64 s.2))], [((0, 4, 0), .bx true ([.v (.int .i64 0), .v (.slice none 0 0), .v (.slice none 0 0), .v (.slice none 0 0), .v (.slice none 0 0)])), ((1, 7, 77), .sl true true 1 x3.length (lm (ik .i64) x3)), ((2, 7, 77), .sl true true 1 s.1.length (lm (ik .i64) s.1))])) (fun next s => moves_move_slice.L5 fu x1 x2 x3 x53 (fun x55 x56 => next (x55, x56)) s.1 s.2) (s0 := (([] : List Int), 0)) ?_ ?_ ?_
      ·exact Ze
      ·exact Zh
      rintro next k5 hn5 ⟨x55, x56⟩
      let nx5 : (List Int) → Int → Option T_Tensor := (fun x55 x56 => next (x55, x56))
      show J _ (moves_move_slice.L5 fu x1 x2 x3 x53 nx5 x55 x56) _
      unfold moves_move_slice.L5
      conv => arg 1; simp (disch := first | exact Zd | fail) only [ZZ, d47_at, simprocAttr, go_b92, bodyOf, Tryz.f92, d92_at, RI, initE, h1, h46'', h46', h49k, h49f, h49a0, h49a1, h49a2, h49a3, h49a4, h50']
      refine J.eq go_seq ?_
      conv => arg 1; simp (disch := first | exact Zd | fail) only [ZZ, d47_at, simprocAttr, go_b92, bodyOf, Tryz.f92, d92_at, RI, initE, h1, h46'', h46', h49k, h49f, h49a0, h49a1, h49a2, h49a3, h49a4, h50']
      refine J.ite (fun h51 => ?_) (fun h51 => ?_)
      ·have h51' := decide_eq_true h51
       have h51'' : decide ((x53.fI.length : Int) ≤ x56) = false := decide_eq_false (by omega)
       conv => arg 1; simp (disch := first | exact Zd | fail) only [ZZ, d47_at, simprocAttr, go_b92, bodyOf, Tryz.f92, d92_at, RI, initE, h1, h46'', h46', h49k, h49f, h49a0, h49a1, h49a2, h49a3, h49a4, h50', h51'', h51']
       refine J.eq ret_seq ?_
       refine J.eq go_seq ?_
       refine J.at fun x58 h52 h53 h54 => ?_
       refine J.chk fun h55 => ?_
       conv => arg 1; simp (disch := first | exact Zd | fail) only [ZZ, d47_at, simprocAttr, go_b92, bodyOf, Tryz.f92, d92_at, RI, initE, h1, h46'', h46', h49k, h49f, h49a0, h49a1, h49a2, h49a3, h49a4, h50', h51'', h51', lm_ik h54]
       refine J.eq ret_seq ?_
       conv => arg 1; simp (disch := first | exact Zd | fail) only [ZZ, d47_at, simprocAttr, go_b92, bodyOf, Tryz.f92, d92_at, RI, initE, h1, h46'', h46', h49k, h49f, h49a0, h49a1, h49a2, h49a3, h49a4, h50', h51'', h51', lm_ik h54]
       refine J.next (s := (x55 ++ ([x58]), wk .i64 (x56 + 1))) hn5 ?_ ?_
       ·exact Ze
       ·exact Zh
      ·have h51' := decide_eq_false h51
       have h51'' : decide ((x53.fI.length : Int) ≤ x56) = true := decide_eq_true (by omega)
       conv => arg 1; simp (disch := first | exact Zd | fail) only [ZZ, d47_at, simprocAttr, go_b92, bodyOf, Tryz.f92, d92_at, RI, initE, h1, h46'', h46', h49k, h49f, h49a0, h49a1, h49a2, h49a3, h49a4, h50', h51'', h51']
       refine J.eq ret_seq ?_
       conv => arg 1; simp (disch := first | exact Zd | fail) only [ZZ, d47_at, simprocAttr, go_b92, bodyOf, Tryz.f92, d92_at, RI, initE, h1, h46'', h46', h49k, h49f, h49a0, h49a1, h49a2, h49a3, h49a4, h50', h51'', h51']
       refine J.kret (t := x55) hj2 ?_
       simp (disch := first | exact Zd | fail) only [ZZ, d47_at, simprocAttr, go_b92, bodyOf, Tryz.f92, d92_at, RI, initE, h1, h46'', h46', h49k, h49f, h49a0, h49a1, h49a2, h49a3, h49a4, h50', h51'', h51', kinV_at, kinVB_at, LN, NN, NT]
    ·have h46' := decide_eq_false h46
     have h46'' : decide ((x1.fin.length : Int) ≤ 3) = true := decide_eq_true (by omega)
     conv => arg 1; simp (disch := first | exact Zd | fail) only [ZZ, d47_at, simprocAttr, go_b92, bodyOf, Tryz.f92, d92_at, RI, initE, h1, h46'', h46']
     refine J.eq ret_seq ?_
     conv => arg 1; simp (disch := first | exact Zd | fail) only [ZZ, d47_at, simprocAttr, go_b92, bodyOf, Tryz.f92, d92_at, RI, initE, h1, h46'', h46']
     refine J.jmp (t := ()) hj6 ?_ ?_
     ·exact Ze
     ·exact Zh
 ·refine J.hd jc_at ?_
  refine J.eq go_b92 ?_
  conv => arg 1; simp (disch := first | exact Zd | fail) only [ZZ, d47_at, simprocAttr, go_b92, bodyOf, Tryz.f92, d92_at, RI, initE, h1]
  refine J.joinS (fun (t : Unit) => ([(0, .ref [.v (.int .i64 49), .v (.int .i64 x1.fs.fAxis), .arr x1.fs.fAxes.length (lm (ik .i64) x1.fs.fAxes), .v (.bool x1.fs.fHasAxes), .v (.bool x1.fs.fKeep), .v (.bool x1.fs.fNoop), .v (.bool x1.fs.fLast), .v (.bool x1.fs.fZero), .arr x1.fs.fPerm.length (lm (ik .i64) x1.fs.fPerm), .v (.bool x1.fs.fHasPerm), .v (.int .u32 x1.fs.fAlpha), .v (.int .u32 x1.fs.fBeta), .v (.int .u32 x1.fs.fEpsilon), .v (.bool x1.fs.fLow), .v (.bool x1.fs.fHigh), .v (.bool x1.fs.fFmod), .v (.int .i64 x1.fs.fTo), .v (.int .i64 x1.fs.fMode), .v (.bool x1.fs.fTransA), .v (.bool x1.fs.fTransB), .v (.int .i64 x1.fs.fGroup), .arr x1.fs.fKernel.length (lm (ik .i64) x1.fs.fKernel), .arr x1.fs.fStrides.length (lm (ik .i64) x1.fs.fStrides), .arr x1.fs.fPads.length (lm (ik .i64) x1.fs.fPads), .arr x1.fs.fDilations.length (lm (ik .i64) x1.fs.fDilations), .v (.int .i64 x1.fs.fAuto), .v (.bool x1.fs.fCeil), .v (.bool x1.fs.fCount), .v (.int .i64 x1.fs.fBlock), .v (.int .i64 x1.fs.fStart), .v (.int .i64 x1.fs.fEnd), .v (.bool x1.fs.fHasEnd), .v (.int .i64 x1.fs.fValue.fType), .arr x1.fs.fValue.fDims.length (lm (ik .i64) x1.fs.fValue.fDims), .arr x1.fs.fValue.fF.length (lm (ik .u32) x1.fs.fValue.fF), .arr x1.fs.fValue.fI.length (lm (ik .i64) x1.fs.fValue.fI), .arr x1.fs.fValue.fB.length (lm (bk) x1.fs.fValue.fB), .arr x1.fin.length (fm c_T_Tensor x1.fin), .v (.int .i64 x1.fx.fType), .arr x1.fx.fDims.length (lm (ik .i64) x1.fx.fDims), .arr x1.fx.fF.length (lm (ik .u32) x1.fx.fF), .arr x1.fx.fI.length (lm (ik .i64) x1.fx.fI), .arr x1.fx.fB.length (lm (bk) x1.fx.fB), .v (.int .i64 x1.faxis)] 0), (1, .v (.int .i64 1)), (2, .v .nilFunc), (7, .own (1, 7, 77) 0 0 0)], [((0, 4, 0), .bx true ([.v (.int .i64 0), .v (.slice none 0 0), .v (.slice none 0 0), .v (.slice none 0 0), .v (.slice none 0 0)])), ((1, 7, 77), .sl true true 1 0 (lm (ik .i64) ([] : List Int)))])) (fun t => moves_move_slice.k7 fu x1 x2) ?_ (fun hj7 => ?_)
  ·rintro ⟨⟩
   show J _ (moves_move_slice.k7 fu x1 x2) _
   unfold moves_move_slice.k7
   refine J.eq go_seq ?_
   refine J.at fun x59 h56 h57 h58 => ?_
   replace h58 : x1.fin[1]? = some x59 := h58
   have h58k := fm_cut c_T_Tensor_len h58
   have h58f := fm_fit c_T_Tensor_len h58
   have h58a0 := fm_at (j := 0) c_T_Tensor_len h58 (by decide)
   have h58a1 := fm_at (j := 1) c_T_Tensor_len h58 (by decide)
   have h58a2 := fm_at (j := 2) c_T_Tensor_len h58 (by decide)
   have h58a3 := fm_at (j := 3) c_T_Tensor_len h58 (by decide)
   have h58a4 := fm_at (j := 4) c_T_Tensor_len h58 (by decide)
   simp only [simprocAttr, Nat.zero_mul, Nat.zero_add, Nat.add_zero, List.drop_zero] at h58k h58f h58a0 h58a1 h58a2 h58a3 h58a4
   conv => arg 1; simp (disch := first | exact Zd | fail) only [ZZ, d47_at, simprocAttr, go_b92, bodyOf, Tryz.f92, d92_at, RI, initE, h1, h58k, h58f, h58a0, h58a1, h58a2, h58a3, h58a4]
   unfold moves_move_slice.W6
   refine J.loop (fun (s : Unit) => ([(2, .v .nilFunc), (7, .own (1, 7, 77) 0 0 0), (55, .v (.int .i64 (x59.fI.length : Int))), (56, .v (.int .i64 0))], [((0, 4, 0), .bx true ([.v (.int .i64 0), .v (.slice none 0 0), .v (.slice none 0 0), .v (.slice none 0 0), .v (.slice none 0 0)])), ((1, 7, 77), .sl true true 1 0 (lm (ik .i64) ([] : List Int)))])) (fun next s => moves_move_slice.L6 fu x1 x2 x59 next) (s0 := ()) ?_ ?_ ?_
   ·exact Ze
   ·exact Zh
   rintro nx6 k6 hn6 ⟨⟩
   show J _ (moves_move_slice.L6 fu x1 x2 x59 nx6) _
   unfold moves_move_slice.L6
   conv => arg 1; simp (disch := first | exact Zd | fail) only [ZZ, d47_at, simprocAttr, go_b92, bodyOf, Tryz.f92, d92_at, RI, initE, h1, h58k, h58f, h58a0, h58a1, h58a2, h58a3, h58a4]
   refine J.eq go_seq ?_
   conv => arg 1; simp (disch := first | exact Zd | fail) only [ZZ, d47_at, simprocAttr, go_b92, bodyOf, Tryz.f92, d92_at, RI, initE, h1, h58k, h58f, h58a0, h58a1, h58a2, h58a3, h58a4]
   refine J.ite (fun h59 => ?_) (fun h59 => ?_)
   ·have h59' := decide_eq_true h59
    have h59'' : decide ((x59.fI.length : Int) ≤ 0) = false := decide_eq_false (by omega)
    conv => arg 1; simp (disch := first | exact Zd | fail) only [ZZ, d47_at, simprocAttr, go_b92, bodyOf, Tryz.f92, d92_at, RI, initE, h1, h58k, h58f, h58a0, h58a1, h58a2, h58a3, h58a4, h59'', h59']
    refine J.eq ret_seq ?_
    refine J.eq go_seq ?_
    exact J.none
   ·have h59' := decide_eq_false h59
    have h59'' : decide ((x59.fI.length : Int) ≤ 0) = true := decide_eq_true (by omega)
    conv => arg 1; simp (disch := first | exact Zd | fail) only [ZZ, d47_at, simprocAttr, go_b92, bodyOf, Tryz.f92, d92_at, RI, initE, h1, h58k, h58f, h58a0, h58a1, h58a2, h58a3, h58a4, h59'', h59']
    refine J.eq ret_seq ?_
    conv => arg 1; simp (disch := first | exact Zd | fail) only [ZZ, d47_at, simprocAttr, go_b92, bodyOf, Tryz.f92, d92_at, RI, initE, h1, h58k, h58f, h58a0, h58a1, h58a2, h58a3, h58a4, h59'', h59']
    refine J.kret (t := ([] : List Int)) hj1 ?_
    simp (disch := first | exact Zd | fail) only [ZZ, d47_at, simprocAttr, go_b92, bodyOf, Tryz.f92, d92_at, RI, initE, h1, h58k, h58f, h58a0, h58a1, h58a2, h58a3, h58a4, h59'', h59', kinV_at, kinVB_at, LN, NN, NT]
  ·refine J.hd jn_at ?_
   refine J.eq go_seq ?_
   conv => arg 1; simp (disch := first | exact Zd | fail) only [ZZ, d47_at, simprocAttr, go_b92, bodyOf, Tryz.f92, d92_at, RI, initE, h1]
   refine J.ite (fun h60 => ?_) (fun h60 => ?_)
   ·have h60' := decide_eq_true h60
    have h60'' : decide ((x1.fin.length : Int) ≤ 1) = false := decide_eq_false (by omega)
    refine J.at fun x60 h61 h62 h63 => ?_
    replace h63 : x1.fin[1]? = some x60 := h63
    have h63k := fm_cut c_T_Tensor_len h63
    have h63f := fm_fit c_T_Tensor_len h63
    have h63a0 := fm_at (j := 0) c_T_Tensor_len h63 (by decide)
    have h63a1 := fm_at (j := 1) c_T_Tensor_len h63 (by decide)
    have h63a2 := fm_at (j := 2) c_T_Tensor_len h63 (by decide)
    have h63a3 := fm_at (j := 3) c_T_Tensor_len h63 (by decide)
    have h63a4 := fm_at (j := 4) c_T_Tensor_len h63 (by decide)
    simp only [simprocAttr, Nat.zero_mul, Nat.zero_add, Nat.add_zero, List.drop_zero] at h63k h63f h63a0 h63a1 h63a2 h63a3 h63a4
    conv => arg 1; simp (disch := first | exact Zd | fail) only [ZZ, d47_at, simprocAttr, go_b92, bodyOf, Tryz.f92, d92_at, RI, initE, h1, h60'', h60', h63k, h63f, h63a0, h63a1, h63a2, h63a3, h63a4]
    refine J.eq ret_seq ?_
    conv => arg 1; simp (disch := first | exact Zd | fail) only [ZZ, d47_at, simprocAttr, go_b92, bodyOf, Tryz.f92, d92_at, RI, initE, h1, h60'', h60', h63k, h63f, h63a0, h63a1, h63a2, h63a3, h63a4]
    refine J.ite (fun h64 => ?_) (fun h64 => ?_)
    ·have h64' := decide_eq_true h64
     conv => arg 1; simp (disch := first | exact Zd | fail) only [ZZ, d47_at, simprocAttr, go_b92, bodyOf, Tryz.f92, d92_at, RI, initE, h1, h60'', h60', h63k, h63f, h63a0, h63a1, h63a2, h63a3, h63a4, h64']
     refine J.jmp (t := ()) hj7 ?_ ?_
     ·exact Ze
     ·exact Zh
    ·have h64' := decide_eq_false h64
     conv => arg 1; simp (disch := first | exact Zd | fail) only [ZZ, d47_at, simprocAttr, go_b92, bodyOf, Tryz.f92, d92_at, RI, initE, h1, h60'', h60', h63k, h63f, h63a0, h63a1, h63a2, h63a3, h63a4, h64']
     refine J.eq go_seq ?_
     conv => arg 1; simp (disch := first | exact Zd | fail) only [ZZ, d47_at, simprocAttr, go_b92, bodyOf, Tryz.f92, d92_at, RI, initE, h1, h60'', h60', h63k, h63f, h63a0, h63a1, h63a2, h63a3, h63a4, h64']
     unfold moves_move_slice.W7
     refine J.loop (fun (s : (List Int) × Int) => ([(0, .ref [.v (.int .i64 49), .v (.int .i64 x1.fs.fAxis), .arr x1.fs.fAxes.length (lm (ik .i64) x1.fs.fAxes), .v (.bool x1.fs.fHasAxes), .v (.bool x1.fs.fKeep), .v (.bool x1.fs.fNoop), .v (.bool x1.fs.fLast), .v (.bool x1.fs.fZero), .arr x1.fs.fPerm.length (lm (ik .i64) x1.fs.fPerm), .v (.bool x1.fs.fHasPerm), .v (.int .u32 x1.fs.fAlpha), .v (.int .u32 x1.fs.fBeta), .v (.int .u32 x1.fs.fEpsilon), .v (.bool x1.fs.fLow), .v (.bool x1.fs.fHigh), .v (.bool x1.fs.fFmod), .v (.int .i64 x1.fs.fTo), .v (.int .i64 x1.fs.fMode), .v (.bool x1.fs.fTransA), .v (.bool x1.fs.fTransB), .v (.int .i64 x1.fs.fGroup), .arr x1.fs.fKernel.length (lm (ik .i64) x1.fs.fKernel), .arr x1.fs.fStrides.length (lm (ik .i64) x1.fs.fStrides), .arr x1.fs.fPads.length (lm (ik .i64) x1.fs.fPads), .arr x1.fs.fDilations.length (lm (ik .i64) x1.fs.fDilations), .v (.int .i64 x1.fs.fAuto), .v (.bool x1.fs.fCeil), .v (.bool x1.fs.fCount), .v (.int .i64 x1.fs.fBlock), .v (.int .i64 x1.fs.fStart), .v (.int .i64 x1.fs.fEnd), .v (.bool x1.fs.fHasEnd), .v (.int .i64 x1.fs.fValue.fType), .arr x1.fs.fValue.fDims.length (lm (ik .i64) x1.fs.fValue.fDims), .arr x1.fs.fValue.fF.length (lm (ik .u32) x1.fs.fValue.fF), .arr x1.fs.fValue.fI.length (lm (ik .i64) x1.fs.fValue.fI), .arr x1.fs.fValue.fB.length (lm (bk) x1.fs.fValue.fB), .arr x1.fin.length (fm c_T_Tensor x1.fin), .v (.int .i64 x1.fx.fType), .arr x1.fx.fDims.length (lm (ik .i64) x1.fx.fDims), .arr x1.fx.fF.length (lm (ik .u32) x1.fx.fF), .arr x1.fx.fI.length (lm (ik .i64) x1.fx.fI), .arr x1.fx.fB.length (lm (bk) x1.fx.fB), .v (.int .i64 x1.faxis)] 0), (1, .v (.int .i64 1)), (2, .v .nilFunc), (7, .own (1, 7, 77) 0 s.1.length s.1.length), (36, .arr x60.fI.length (lm (ik .i64) x60.fI)), (37, .v (.int .i64 (x60.fI.length : Int))), (38, .v (.int .i64 s.2))], [((0, 4, 0), .bx true ([.v (.int .i64 0), .v (.slice none 0 0), .v (.slice none 0 0), .v (.slice none 0 0), .v (.slice none 0 0)])), ((1, 7, 77), .sl true true 1 s.1.length (lm (ik .i64) s.1))])) (fun next s => moves_move_slice.L7 fu x1 x2 x60 (fun x62 x63 => next (x62, x63)) s.1 s.2) (s0 := (([] : List Int), 0)) ?_ ?_ ?_
     ·exact Ze
     ·exact Zh
     rintro next k7 hn7 ⟨x62, x63⟩
     let nx7 : (List Int) → Int → Option T_Tensor := (fun x62 x63 => next (x62, x63))
     show J _ (moves_move_slice.L7 fu x1 x2 x60 nx7 x62 x63) _
     unfold moves_move_slice.L7
     conv => arg 1; simp (disch := first | exact Zd | fail) only [ZZ, d47_at, simprocAttr, go_b92, bodyOf, Tryz.f92, d92_at, RI, initE, h1, h60'', h60', h63k, h63f, h63a0, h63a1, h63a2, h63a3, h63a4, h64']
     refine J.eq go_seq ?_
     conv => arg 1; simp (disch := first | exact Zd | fail) only [ZZ, d47_at, simprocAttr, go_b92, bodyOf, Tryz.f92, d92_at, RI, initE, h1, h60'', h60', h63k, h63f, h63a0, h63a1, h63a2, h63a3, h63a4, h64']
     refine J.ite (fun h65 => ?_) (fun h65 => ?_)
     ·have h65' := decide_eq_true h65
      have h65'' : decide ((x60.fI.length : Int) ≤ x63) = false := decide_eq_false (by omega)
      conv => arg 1; simp (disch := first | exact Zd | fail) only [ZZ, d47_at, simprocAttr, go_b92, bodyOf, Tryz.f92, d92_at, RI, initE, h1, h60'', h60', h63k, h63f, h63a0, h63a1, h63a2, h63a3, h63a4, h64', h65'', h65']
      refine J.eq ret_seq ?_
      refine J.eq go_seq ?_
      refine J.at fun x65 h66 h67 h68 => ?_
      refine J.chk fun h69 => ?_
      conv => arg 1; simp (disch := first | exact Zd | fail) only [ZZ, d47_at, simprocAttr, go_b92, bodyOf, Tryz.f92, d92_at, RI, initE, h1, h60'', h60', h63k, h63f, h63a0, h63a1, h63a2, h63a3, h63a4, h64', h65'', h65', lm_ik h68]
      refine J.eq ret_seq ?_
      conv => arg 1; simp (disch := first | exact Zd | fail) only [ZZ, d47_at, simprocAttr, go_b92, bodyOf, Tryz.f92, d92_at, RI, initE, h1, h60'', h60', h63k, h63f, h63a0, h63a1, h63a2, h63a3, h63a4, h64', h65'', h65', lm_ik h68]
      refine J.next (s := (x62 ++ ([x65]), wk .i64 (x63 + 1))) hn7 ?_ ?_
      ·exact Ze
      ·exact Zh
     ·have h65' := decide_eq_false h65
      have h65'' : decide ((x60.fI.length : Int) ≤ x63) = true := decide_eq_true (by omega)
      conv => arg 1; simp (disch := first | exact Zd | fail) only [ZZ, d47_at, simprocAttr, go_b92, bodyOf, Tryz.f92, d92_at, RI, initE, h1, h60'', h60', h63k, h63f, h63a0, h63a1, h63a2, h63a3, h63a4, h64', h65'', h65']
      refine J.eq ret_seq ?_
      conv => arg 1; simp (disch := first | exact Zd | fail) only [ZZ, d47_at, simprocAttr, go_b92, bodyOf, Tryz.f92, d92_at, RI, initE, h1, h60'', h60', h63k, h63f, h63a0, h63a1, h63a2, h63a3, h63a4, h64', h65'', h65']
      refine J.kret (t := x62) hj1 ?_
      simp (disch := first | exact Zd | fail) only [ZZ, d47_at, simprocAttr, go_b92, bodyOf, Tryz.f92, d92_at, RI, initE, h1, h60'', h60', h63k, h63f, h63a0, h63a1, h63a2, h63a3, h63a4, h64', h65'', h65', kinV_at, kinVB_at, LN, NN, NT]
   ·have h60' := decide_eq_false h60
    have h60'' : decide ((x1.fin.length : Int) ≤ 1) = true := decide_eq_true (by omega)
    conv => arg 1; simp (disch := first | exact Zd | fail) only [ZZ, d47_at, simprocAttr, go_b92, bodyOf, Tryz.f92, d92_at, RI, initE, h1, h60'', h60']
    refine J.eq ret_seq ?_
    conv => arg 1; simp (disch := first | exact Zd | fail) only [ZZ, d47_at, simprocAttr, go_b92, bodyOf, Tryz.f92, d92_at, RI, initE, h1, h60'', h60']
    refine J.jmp (t := ()) hj7 ?_ ?_
    ·exact Ze
    ·exact Zh
noncomputable def t47 (fu : Nat) : CallP := orE 93 (mkC (fun (t : Int) => ([.v (.int .i64 t)] : List AV)) (fun t => moves_move_slice_1 fu t) e93) (orE 94 (mkC (fun (t : Int) => ([.v (.int .i64 t)] : List AV)) (fun t => moves_move_slice_2 fu t) e94) (orE 41 (mkC (fun (t : List Int) => ([.arr t.length (lm (ik .i64) t)] : List AV)) (fun t => moves_strides fu t) e41) (orE 39 (mkC (fun (t : List Int) => ([.arr t.length (lm (ik .i64) t)] : List AV)) (fun t => slices_Clone_int fu t) e39) (orE 22 (mkC (fun (t : Int × Int) => ([.v (.int .i64 t.1), .v (.int .i64 t.2)] : List AV)) (fun t => shape_Axis fu t.1 t.2) e22) (orE 95 (mkC (fun (t : Int × Int × Int) => ([.v (.int .i64 t.1), .v (.int .i64 t.2.1), .v (.int .i64 t.2.2)] : List AV)) (fun t => moves_begins fu t.1 t.2.1 t.2.2) e95) (orE 42 (mkC (fun (t : T_Tensor × (List Int) × Int × (List Int)) => ([.agg (c_T_Tensor t.1), .arr t.2.1.length (lm (ik .i64) t.2.1), .fn 96 [] [.ref [.v (.int .i64 t.2.2.1)] 0, .ref [.arr t.2.2.2.length (lm (ik .i64) t.2.2.2)] 0]] : List AV)) (fun t => moves_picked fu t.1 t.2.1 (fun y0 => moves_move_slice_3 fu y0 t.2.2.1 t.2.2.2)) e42) (noP)))))))
theorem t47_ok (fu : Nat) : CpOK Tryz.prog (t47 fu ) := orE_ok (orE_ok (orE_ok (orE_ok (orE_ok (orE_ok (orE_ok (noP_ok) (mkC_ok (fun t b h => ok42 fu t.1 t.2.1 (fun y0 => moves_move_slice_3 fu y0 t.2.2.1 t.2.2.2) 96 [.ref [.v (.int .i64 t.2.2.1)] 0, .ref [.arr t.2.2.2.length (lm (ik .i64) t.2.2.2)] 0] rfl rfl (Capt.ref (Capt.ref Capt.nil)) (fun y0 r h => ok96 fu y0 t.2.2.1 t.2.2.2 r h) b h))) (mkC_ok (fun t b h => ok95 fu t.1 t.2.1 t.2.2  b h))) (mkC_ok (fun t b h => ok22 fu t.1 t.2  b h))) (mkC_ok (fun t b h => ok39 fu t  b h))) (mkC_ok (fun t b h => ok41 fu t  b h))) (mkC_ok (fun t b h => ok94 fu t  b h))) (mkC_ok (fun t b h => ok93 fu t  b h))
theorem ok47 (fu : Nat) (x1 : T_moves_move) (x2 : List Int) (r) (h : moves_move_slice fu x1 x2 = some r) : PureOK Tryz.prog 47 [.ref (c_T_moves_move x1) 0, .arr x2.length (lm (ik .i64) x2)] (e47 r) :=
  pure_J mixed (cp := t47 fu ) (t47_ok fu  ) (ciE_ok mixed (t47_ok fu  ) noI_ok i92 noI_ok) i47 (w47 _ fu x1 x2  (fun a0 r h => orE_hit (mkC_at (a := a0) (by intro a b h; first | (exact rfl) | (simp only [INJ, IJ] at h; first | exact h | (simp_all [Prod.ext_iff]) )) h)) (fun a0 r h => orE_miss (by decide) (orE_hit (mkC_at (a := a0) (by intro a b h; first | (exact rfl) | (simp only [INJ, IJ] at h; first | exact h | (simp_all [Prod.ext_iff]) )) h))) (fun a0 r h => orE_miss (by decide) (orE_miss (by decide) (orE_hit (mkC_at (a := a0) (by intro a b h; first | (exact rfl) | (simp only [INJ, IJ] at h; first | exact h | (simp_all [Prod.ext_iff]) )) h)))) (fun a0 r h => orE_miss (by decide) (orE_miss (by decide) (orE_miss (by decide) (orE_hit (mkC_at (a := a0) (by intro a b h; first | (exact rfl) | (simp only [INJ, IJ] at h; first | exact h | (simp_all [Prod.ext_iff]) )) h))))) (fun a0 a1 r h => orE_miss (by decide) (orE_miss (by decide) (orE_miss (by decide) (orE_miss (by decide) (orE_hit (mkC_at (a := (a0, a1)) (by intro a b h; first | (exact rfl) | (simp only [INJ, IJ] at h; first | exact h | (simp_all [Prod.ext_iff]) )) h)))))) (fun a0 a1 a2 r h => orE_miss (by decide) (orE_miss (by decide) (orE_miss (by decide) (orE_miss (by decide) (orE_miss (by decide) (orE_hit (mkC_at (a := (a0, a1, a2)) (by intro a b h; first | (exact rfl) | (simp only [INJ, IJ] at h; first | exact h | (simp_all [Prod.ext_iff]) )) h))))))) (fun a0 a1 c2 c3 r h => orE_miss (by decide) (orE_miss (by decide) (orE_miss (by decide) (orE_miss (by decide) (orE_miss (by decide) (orE_miss (by decide) (orE_hit (mkC_at (a := (a0, a1, c2, c3)) (by intro a b h; first | (exact rfl) | (simp only [INJ, IJ] at h; first | exact h | (simp_all [Prod.ext_iff]) )) h))))))))) h
open Aw (d25)
def d25_at := by have h := tabL Aw.d25.eq_1; simp only [AllAt, Nat.zero_add, Nat.reduceAdd] at h; exact h
theorem i25 : finfo Tryz.prog 25 d25 = some ⟨bodyOf Tryz.f25, [.cell 6 27], [27]⟩ := finfo_at Tryz.func25 rfl (by kernel_rfl) (by kernel_rfl)
def e25 : T_Tensor → AV := fun r => .agg [.v (.int .i64 r.fType), .arr r.fDims.length (lm (ik .i64) r.fDims), .arr r.fF.length (lm (ik .u32) r.fF), .arr r.fI.length (lm (ik .i64) r.fI), .arr r.fB.length (lm (bk) r.fB)]
structure K52 (fu : Nat) (cp : CallP) : Prop where
 ap : ∀ {a0 : T_moves_move} {a1 : List Int} {r}, moves_move_pad fu a0 a1 = some r → cp 52 [.ref (c_T_moves_move a0) 0, .arr a1.length (lm (ik .i64) a1)] = some (.agg [.v (.int .i64 r.fType), .fresh 1 r.fDims.length (lm (ik .i64) r.fDims), .fresh 1 r.fF.length (lm (ik .u32) r.fF), .fresh 1 r.fI.length (lm (ik .i64) r.fI), .fresh 1 r.fB.length (lm (bk) r.fB)])
noncomputable def C52 (fu : Nat) : Cm Tryz.prog (T_moves_move × (List Int)) T_Tensor := ⟨52, fun t => [.ref (c_T_moves_move t.1) 0, .arr t.2.length (lm (ik .i64) t.2)], fun t => moves_move_pad fu t.1 t.2, e52, fun t b h => ok52 fu t.1 t.2  b h, Zi⟩
theorem u52 {fu : Nat} {cp : CallP} (H : Hit cp (C52 fu).ct) : K52 fu cp := ⟨fun {a0 a1 r} h => (C52 fu).at H (a0, a1) r h⟩
structure K47 (fu : Nat) (cp : CallP) : Prop where
 ap : ∀ {a0 : T_moves_move} {a1 : List Int} {r}, moves_move_slice fu a0 a1 = some r → cp 47 [.ref (c_T_moves_move a0) 0, .arr a1.length (lm (ik .i64) a1)] = some (.agg [.v (.int .i64 r.fType), .fresh 1 r.fDims.length (lm (ik .i64) r.fDims), .fresh 1 r.fF.length (lm (ik .u32) r.fF), .fresh 1 r.fI.length (lm (ik .i64) r.fI), .fresh 1 r.fB.length (lm (bk) r.fB)])
noncomputable def C47 (fu : Nat) : Cm Tryz.prog (T_moves_move × (List Int)) T_Tensor := ⟨47, fun t => [.ref (c_T_moves_move t.1) 0, .arr t.2.length (lm (ik .i64) t.2)], fun t => moves_move_slice fu t.1 t.2, e47, fun t b h => ok47 fu t.1 t.2  b h, Zi⟩
theorem u47 {fu : Nat} {cp : CallP} (H : Hit cp (C47 fu).ct) : K47 fu cp := ⟨fun {a0 a1 r} h => (C47 fu).at H (a0, a1) r h⟩
set_option maxHeartbeats 20000000 in
theorem w25 (cp : CallP) (fu : Nat) (x1 : T_moves_move) (x2 : List Int) (x3 : List Int) (H1 : K52 fu cp) (H2 : K47 fu cp) : J (go Tryz.prog noC cp noI 0 [] d25 fu (finS Tryz.prog [.cell 6 27] [27]) (bodyOf Tryz.f25) (initE 0 [.ref (c_T_moves_move x1) 0, .arr x2.length (lm (ik .i64) x2), .arr x3.length (lm (ik .i64) x3)]) [] []) (moves_move_one fu x1 x2 x3) e25 := by
 unfold moves_move_one e25
 have da := d25_at
 conv => arg 1; simp only [bodyOf, Tryz.f25]
 have z0 := d25_at
 have z1 := SE
 have z2 := RL
 exact Wk
theorem ok25 (fu : Nat) (x1 : T_moves_move) (x2 : List Int) (x3 : List Int) (r) (h : moves_move_one fu x1 x2 x3 = some r) : PureOK Tryz.prog 25 [.ref (c_T_moves_move x1) 0, .arr x2.length (lm (ik .i64) x2), .arr x3.length (lm (ik .i64) x3)] (e25 r) := pureST mixed [(C52 fu).ct, (C47 fu).ct] (ids := [52, 47]) rfl (by decide) i25 (C := noC) (ci := fun cp => noI) (fun cp ok => noI_ok) (fun cp H => w25 cp fu x1 x2 x3 (u52 H.1) (u47 H.2.1)) h
def d10 : List (Nat × List Nat) := [(0, [1, 8, 9]), (0, [25, 26, 27]), (0, [18, 19]), (0, []), (0, []), (0, []), (0, [21, 22, 23, 24, 41005000010]), (0, []), (0, []), (0, []), (0, []), (0, []), (0, [29, 30]), (0, []), (0, [31, 32]), (0, []), (0, [34, 35]), (0, []), (0, [36]), (0, []), (0, [38]), (0, []), (1008, [12, 13, 39, 40, 41, 42, 43, 44, 45, 46, 47, 48, 49]), (0, []), (0, [50]), (0, []), (11, [2, 3, 51, 52, 53, 54, 55, 56, 57, 58, 59]), (0, []), (0, [60]), (0, []), (0, [62]), (0, []), (0, [15, 63, 64, 65, 66, 67, 68, 69, 70, 71]), (0, []), (23384026197294446691298571404717660483291694666880, [5, 72, 73, 74, 75, 76, 77, 78, 79, 80, 81, 82, 83, 84, 85, 86]), (0, []), (0, []), (0, []), (0, [87, 88, 89, 90, 91, 92, 93, 94, 95]), (0, []), (0, [17]), (0, []), (0, [97, 98, 99, 100, 101]), (0, []), (0, [17, 102]), (0, []), (0, []), (0, []), (0, [0, 104]), (0, []), (0, [106, 107, 108]), (0, []), (0, [10, 14, 16, 109, 110, 111, 112, 113, 114, 115, 116])]
def d10_at := by have h := tabL d10.eq_1; simp only [AllAt, Nat.zero_add, Nat.reduceAdd] at h; exact h
theorem i10 : finfo Tryz.prog 10 d10 = some ⟨bodyOf Tryz.f10, [.tmp 8, .tmp 9], [29, 30]⟩ := finfo_at Tryz.func10 rfl (by kernel_rfl) (by kernel_rfl)
def e10 : ((List T_Tensor) × Int) → AV := fun r => .tuple [.arr r.1.length (fm c_T_Tensor r.1), .v (.int .i64 r.2)]
set_option maxHeartbeats 400000000 in
theorem w10 (cp : CallP) (fu : Nat) (x1 : Int) (x2 : T_Setting) (x3 : List T_Tensor) (x4 : Int) (H17_0 : ∀ (a0 : Int) r, moves_Has fu a0 = some r → cp 17 [.v (.int .i64 a0)] = some (.v (.bool r))) (H18_0 : ∀ (a0 : T_Tensor) r, tens_Check fu a0 = some r → cp 18 [.agg (c_T_Tensor a0)] = some (.v (.int .i64 r))) (H19_0 : ∀ (a0 : T_Tensor) r, tens_Canon fu a0 = some r → cp 19 [.agg (c_T_Tensor a0)] = some (.agg [.v (.int .i64 r.fType), .fresh 1 r.fDims.length (lm (ik .i64) r.fDims), .fresh 1 r.fF.length (lm (ik .u32) r.fF), .fresh 1 r.fI.length (lm (ik .i64) r.fI), .fresh 1 r.fB.length (lm (bk) r.fB)])) (H21_0 : ∀ (a0 : List T_Tensor) r, ewise_Vals fu a0 = some r → cp 21 [.arr a0.length (fm c_T_Tensor a0)] = some (.arr r.length (fm c_T_Val r))) (H20_0 : ∀ (a0 : Int) (a1 : T_Setting) (a2 : List T_Val) (a3 : Int) r, infer_Node fu a0 a1 a2 a3 = some r → cp 20 [.v (.int .i64 a0), .agg (c_T_Setting a1), .arr a2.length (fm c_T_Val a2), .v (.int .i64 a3)] = some (.tuple [.arr r.1.length (fm c_T_Val r.1), .v (.int .i64 r.2)])) (H22_0 : ∀ (a0 : Int) (a1 : Int) r, shape_Axis fu a0 a1 = some r → cp 22 [.v (.int .i64 a0), .v (.int .i64 a1)] = some (.tuple [.v (.int .i64 r.1), .v (.int .i64 r.2)])) (H25_0 : ∀ (a0 : T_moves_move) (a1 : List Int) (a2 : List Int) r, moves_move_one fu a0 a1 a2 = some r → cp 25 [.ref (c_T_moves_move a0) 0, .arr a1.length (lm (ik .i64) a1), .arr a2.length (lm (ik .i64) a2)] = some (.agg [.v (.int .i64 r.fType), .arr r.fDims.length (lm (ik .i64) r.fDims), .arr r.fF.length (lm (ik .u32) r.fF), .arr r.fI.length (lm (ik .i64) r.fI), .arr r.fB.length (lm (bk) r.fB)])) : J (go Tryz.prog noC cp noI 0 [] d10 fu (finS Tryz.prog [.tmp 8, .tmp 9] [29, 30]) (bodyOf Tryz.f10) (initE 0 [.v (.int .i64 x1), .agg (c_T_Setting x2), .arr x3.length (fm c_T_Tensor x3), .v (.int .i64 x4)]) [] []) (moves_Do fu x1 x2 x3 x4) e10 := by
 unfold moves_Do e10
 have da := d10_at
 refine J.spl (fun h1 => ?_) (fun h1 => ?_)
 ·conv => arg 1; simp (maxSteps := 4000000) (disch := first | exact Zd | fail) only [bodyOf, Tryz.f10, ZZ, d10_at, simprocAttr, RL, SE, h1]
  refine J.eq go_seq ?_
  refine J.bind fun x5 h2 => ?_
  have e_h2 := H17_0 _ _ h2
  try simp only [NN, NT, LN, simprocAttr, DT] at e_h2
  conv => arg 1; simp (maxSteps := 4000000) (disch := first | exact Zd | fail) only [ZZ, d10_at, simprocAttr, RL, SE, h1, e_h2]
  refine J.ite (fun h3 => ?_) (fun h3 => ?_)
  ·have h3' : x5 = true := h3
   conv => arg 1; simp (maxSteps := 4000000) (disch := first | exact Zd | fail) only [ZZ, d10_at, simprocAttr, RL, SE, h1, e_h2, h3']
   refine J.eq ret_seq ?_
   conv => arg 1; simp (maxSteps := 4000000) (disch := first | exact Zd | fail) only [ZZ, d10_at, simprocAttr, RL, SE, h1, e_h2, h3']
   refine J.joinS (fun (t : List T_Tensor) => ([(0, .v (.int .i64 53)), (2, .arr x3.length (fm c_T_Tensor x3)), (3, .v (.int .i64 x4)), (5, .ptr (0, 5, 0) 0 0), (10, .ptr (0, 24, 0) 0 0)], [((0, 5, 0), .bx true ([.v (.int .i64 x2.fAxis), .arr x2.fAxes.length (lm (ik .i64) x2.fAxes), .v (.bool x2.fHasAxes), .v (.bool x2.fKeep), .v (.bool x2.fNoop), .v (.bool x2.fLast), .v (.bool x2.fZero), .arr x2.fPerm.length (lm (ik .i64) x2.fPerm), .v (.bool x2.fHasPerm), .v (.int .u32 x2.fAlpha), .v (.int .u32 x2.fBeta), .v (.int .u32 x2.fEpsilon), .v (.bool x2.fLow), .v (.bool x2.fHigh), .v (.bool x2.fFmod), .v (.int .i64 x2.fTo), .v (.int .i64 x2.fMode), .v (.bool x2.fTransA), .v (.bool x2.fTransB), .v (.int .i64 x2.fGroup), .arr x2.fKernel.length (lm (ik .i64) x2.fKernel), .arr x2.fStrides.length (lm (ik .i64) x2.fStrides), .arr x2.fPads.length (lm (ik .i64) x2.fPads), .arr x2.fDilations.length (lm (ik .i64) x2.fDilations), .v (.int .i64 x2.fAuto), .v (.bool x2.fCeil), .v (.bool x2.fCount), .v (.int .i64 x2.fBlock), .v (.int .i64 x2.fStart), .v (.int .i64 x2.fEnd), .v (.bool x2.fHasEnd), .v (.int .i64 x2.fValue.fType), .arr x2.fValue.fDims.length (lm (ik .i64) x2.fValue.fDims), .arr x2.fValue.fF.length (lm (ik .u32) x2.fValue.fF), .arr x2.fValue.fI.length (lm (ik .i64) x2.fValue.fI), .arr x2.fValue.fB.length (lm (bk) x2.fValue.fB)])), ((0, 24, 0), .bx true ([.v (.int .i64 53), .v (.int .i64 x2.fAxis), .arr x2.fAxes.length (lm (ik .i64) x2.fAxes), .v (.bool x2.fHasAxes), .v (.bool x2.fKeep), .v (.bool x2.fNoop), .v (.bool x2.fLast), .v (.bool x2.fZero), .arr x2.fPerm.length (lm (ik .i64) x2.fPerm), .v (.bool x2.fHasPerm), .v (.int .u32 x2.fAlpha), .v (.int .u32 x2.fBeta), .v (.int .u32 x2.fEpsilon), .v (.bool x2.fLow), .v (.bool x2.fHigh), .v (.bool x2.fFmod), .v (.int .i64 x2.fTo), .v (.int .i64 x2.fMode), .v (.bool x2.fTransA), .v (.bool x2.fTransB), .v (.int .i64 x2.fGroup), .arr x2.fKernel.length (lm (ik .i64) x2.fKernel), .arr x2.fStrides.length (lm (ik .i64) x2.fStrides), .arr x2.fPads.length (lm (ik .i64) x2.fPads), .arr x2.fDilations.length (lm (ik .i64) x2.fDilations), .v (.int .i64 x2.fAuto), .v (.bool x2.fCeil), .v (.bool x2.fCount), .v (.int .i64 x2.fBlock), .v (.int .i64 x2.fStart), .v (.int .i64 x2.fEnd), .v (.bool x2.fHasEnd), .v (.int .i64 x2.fValue.fType), .arr x2.fValue.fDims.length (lm (ik .i64) x2.fValue.fDims), .arr x2.fValue.fF.length (lm (ik .u32) x2.fValue.fF), .arr x2.fValue.fI.length (lm (ik .i64) x2.fValue.fI), .arr x2.fValue.fB.length (lm (bk) x2.fValue.fB), .own (0, 10, 115) 0 t.length t.length, .v (.int .i64 0), .v (.slice none 0 0), .v (.slice none 0 0), .v (.slice none 0 0), .v (.slice none 0 0), .v (.int .i64 0)])), ((0, 10, 115), .sl true true 5 t.length (fm c_T_Tensor t))])) (fun t => moves_Do.k1 fu x2 x3 x4 t) ?_ (fun hj1 => ?_)
   ·rintro x6
    show J _ (moves_Do.k1 fu x2 x3 x4 x6) _
    unfold moves_Do.k1
    refine J.bind fun x7 h4 => ?_
    have e_h4 := H21_0 _ _ h4
    try simp only [NN, NT, LN, simprocAttr, DT] at e_h4
    refine J.bind fun x8 h5 => ?_
    have e_h5 := H20_0 _ _ _ _ _ h5
    try simp only [NN, NT, LN, simprocAttr, DT] at e_h5
    conv => arg 1; simp (maxSteps := 4000000) (disch := first | exact Zd | fail) only [ZZ, d10_at, simprocAttr, RL, SE, h1, e_h2, h3', e_h4, e_h5]
    refine J.eq go_seq ?_
    conv => arg 1; simp (maxSteps := 4000000) (disch := first | exact Zd | fail) only [ZZ, d10_at, simprocAttr, RL, SE, h1, e_h2, h3', e_h4, e_h5]
    refine J.ite (fun h6 => ?_) (fun h6 => ?_)
    ·have h6' := decide_eq_true h6
     conv => arg 1; simp (maxSteps := 4000000) (disch := first | exact Zd | fail) only [ZZ, d10_at, simprocAttr, RL, SE, h1, e_h2, h3', e_h4, e_h5, h6']
     refine J.eq ret_seq ?_
     refine J.at fun x9 h7 h8 h9 => ?_
     replace h9 : x6[0]? = some x9 := h9
     have h9k := fm_cut c_T_Tensor_len h9
     have h9f := fm_fit c_T_Tensor_len h9
     have h9a0 := fm_at (j := 0) c_T_Tensor_len h9 (by decide)
     have h9a1 := fm_at (j := 1) c_T_Tensor_len h9 (by decide)
     have h9a2 := fm_at (j := 2) c_T_Tensor_len h9 (by decide)
     have h9a3 := fm_at (j := 3) c_T_Tensor_len h9 (by decide)
     have h9a4 := fm_at (j := 4) c_T_Tensor_len h9 (by decide)
     simp only [simprocAttr, Nat.zero_mul, Nat.zero_add, Nat.add_zero, List.drop_zero] at h9k h9f h9a0 h9a1 h9a2 h9a3 h9a4
     refine J.bind fun x10 h10 => ?_
     have e_h10 := H22_0 _ _ _ h10
     try simp only [NN, NT, LN, simprocAttr, DT] at e_h10
     conv => arg 1; simp (maxSteps := 4000000) (disch := first | exact Zd | fail) only [ZZ, d10_at, simprocAttr, RL, SE, h1, e_h2, h3', e_h4, e_h5, h6', h9k, h9f, h9a0, h9a1, h9a2, h9a3, h9a4, e_h10]
     refine J.joinS (fun (t : Unit) => ([(0, .v (.int .i64 53)), (10, .ptr (0, 24, 0) 0 0), (14, .arr x8.1.length (fm c_T_Val x8.1)), (16, .v (.slice none 0 0))], [((0, 24, 0), .bx true ([.v (.int .i64 53), .v (.int .i64 x2.fAxis), .arr x2.fAxes.length (lm (ik .i64) x2.fAxes), .v (.bool x2.fHasAxes), .v (.bool x2.fKeep), .v (.bool x2.fNoop), .v (.bool x2.fLast), .v (.bool x2.fZero), .arr x2.fPerm.length (lm (ik .i64) x2.fPerm), .v (.bool x2.fHasPerm), .v (.int .u32 x2.fAlpha), .v (.int .u32 x2.fBeta), .v (.int .u32 x2.fEpsilon), .v (.bool x2.fLow), .v (.bool x2.fHigh), .v (.bool x2.fFmod), .v (.int .i64 x2.fTo), .v (.int .i64 x2.fMode), .v (.bool x2.fTransA), .v (.bool x2.fTransB), .v (.int .i64 x2.fGroup), .arr x2.fKernel.length (lm (ik .i64) x2.fKernel), .arr x2.fStrides.length (lm (ik .i64) x2.fStrides), .arr x2.fPads.length (lm (ik .i64) x2.fPads), .arr x2.fDilations.length (lm (ik .i64) x2.fDilations), .v (.int .i64 x2.fAuto), .v (.bool x2.fCeil), .v (.bool x2.fCount), .v (.int .i64 x2.fBlock), .v (.int .i64 x2.fStart), .v (.int .i64 x2.fEnd), .v (.bool x2.fHasEnd), .v (.int .i64 x2.fValue.fType), .arr x2.fValue.fDims.length (lm (ik .i64) x2.fValue.fDims), .arr x2.fValue.fF.length (lm (ik .u32) x2.fValue.fF), .arr x2.fValue.fI.length (lm (ik .i64) x2.fValue.fI), .arr x2.fValue.fB.length (lm (bk) x2.fValue.fB), .own (0, 10, 115) 0 x6.length x6.length, .v (.int .i64 x9.fType), .arr x9.fDims.length (lm (ik .i64) x9.fDims), .arr x9.fF.length (lm (ik .u32) x9.fF), .arr x9.fI.length (lm (ik .i64) x9.fI), .arr x9.fB.length (lm (bk) x9.fB), .v (.int .i64 x10.1)])), ((0, 10, 115), .sl true true 5 x6.length (fm c_T_Tensor x6))])) (fun t => moves_Do.k2 fu x2 x6 x8 x9 x10) ?_ (fun hj2 => ?_)
     ·rintro ⟨⟩
      show J _ (moves_Do.k2 fu x2 x6 x8 x9 x10) _
      unfold moves_Do.k2
      refine J.eq go_seq ?_
      conv => arg 1; simp (maxSteps := 4000000) (disch := first | exact Zd | fail) only [ZZ, d10_at, simprocAttr, RL, SE, h1, e_h2, h3', e_h4, e_h5, h6', h9k, h9f, h9a0, h9a1, h9a2, h9a3, h9a4, e_h10]
      refine J.eq ret_seq ?_
      refine J.at fun x11 h11 h12 h13 => ?_
      replace h13 : x8.1[0]? = some x11 := h13
      have h13k := fm_cut c_T_Val_len h13
      have h13f := fm_fit c_T_Val_len h13
      have h13a0 := fm_at (j := 0) c_T_Val_len h13 (by decide)
      have h13a1 := fm_at (j := 1) c_T_Val_len h13 (by decide)
      have h13a2 := fm_at (j := 2) c_T_Val_len h13 (by decide)
      have h13a3 := fm_at (j := 3) c_T_Val_len h13 (by decide)
      have h13a4 := fm_at (j := 4) c_T_Val_len h13 (by decide)
      have h13a5 := fm_at (j := 5) c_T_Val_len h13 (by decide)
      have h13a6 := fm_at (j := 6) c_T_Val_len h13 (by decide)
      have h13a7 := fm_at (j := 7) c_T_Val_len h13 (by decide)
      simp only [simprocAttr, Nat.zero_mul, Nat.zero_add, Nat.add_zero, List.drop_zero] at h13k h13f h13a0 h13a1 h13a2 h13a3 h13a4 h13a5 h13a6 h13a7
      refine J.bind fun x12 h14 => ?_
      have e_h14 := H25_0 _ _ _ _ h14
      try simp only [NN, NT, LN, simprocAttr, DT] at e_h14
      refine J.some ?_
      simp (maxSteps := 20000000) (disch := first | exact Zd | fail) only [ZZ, d10_at, simprocAttr, RL, SE, h1, e_h2, h3', e_h4, e_h5, h6', h9k, h9f, h9a0, h9a1, h9a2, h9a3, h9a4, e_h10, h13k, h13f, h13a0, h13a1, h13a2, h13a3, h13a4, h13a5, h13a6, h13a7, e_h14, FN]
     ·refine J.hd jn_at ?_
      refine J.eq go_seq ?_
      conv => arg 1; simp (maxSteps := 4000000) (disch := first | exact Zd | fail) only [ZZ, d10_at, simprocAttr, RL, SE, h1, e_h2, h3', e_h4, e_h5, h6', h9k, h9f, h9a0, h9a1, h9a2, h9a3, h9a4, e_h10]
      refine J.eq ret_seq ?_
      conv => arg 1; simp (maxSteps := 4000000) (disch := first | exact Zd | fail) only [ZZ, d10_at, simprocAttr, RL, SE, h1, e_h2, h3', e_h4, e_h5, h6', h9k, h9f, h9a0, h9a1, h9a2, h9a3, h9a4, e_h10]
      refine J.jmp (t := ()) hj2 ?_ ?_
      ·exact Ze
      ·exact Zh
    ·have h6' := decide_eq_false h6
     refine J.some ?_
     simp (maxSteps := 20000000) (disch := first | exact Zd | fail) only [ZZ, d10_at, simprocAttr, RL, SE, h1, e_h2, h3', e_h4, e_h5, h6', FN]
   ·refine J.hd jn_at ?_
    conv => arg 1; simp (maxSteps := 4000000) (disch := first | exact Zd | fail) only [ZZ, d10_at, simprocAttr, RL, SE, h1, e_h2, h3']
    unfold moves_Do.W1
    refine J.loop (fun (s : (List T_Tensor) × Int) => ([(0, .v (.int .i64 53)), (2, .arr x3.length (fm c_T_Tensor x3)), (3, .v (.int .i64 x4)), (5, .ptr (0, 5, 0) 0 0), (10, .ptr (0, 24, 0) 0 0), (25, .arr x3.length (fm c_T_Tensor x3)), (26, .v (.int .i64 (x3.length : Int))), (27, .v (.int .i64 s.2))], [((0, 5, 0), .bx true ([.v (.int .i64 x2.fAxis), .arr x2.fAxes.length (lm (ik .i64) x2.fAxes), .v (.bool x2.fHasAxes), .v (.bool x2.fKeep), .v (.bool x2.fNoop), .v (.bool x2.fLast), .v (.bool x2.fZero), .arr x2.fPerm.length (lm (ik .i64) x2.fPerm), .v (.bool x2.fHasPerm), .v (.int .u32 x2.fAlpha), .v (.int .u32 x2.fBeta), .v (.int .u32 x2.fEpsilon), .v (.bool x2.fLow), .v (.bool x2.fHigh), .v (.bool x2.fFmod), .v (.int .i64 x2.fTo), .v (.int .i64 x2.fMode), .v (.bool x2.fTransA), .v (.bool x2.fTransB), .v (.int .i64 x2.fGroup), .arr x2.fKernel.length (lm (ik .i64) x2.fKernel), .arr x2.fStrides.length (lm (ik .i64) x2.fStrides), .arr x2.fPads.length (lm (ik .i64) x2.fPads), .arr x2.fDilations.length (lm (ik .i64) x2.fDilations), .v (.int .i64 x2.fAuto), .v (.bool x2.fCeil), .v (.bool x2.fCount), .v (.int .i64 x2.fBlock), .v (.int .i64 x2.fStart), .v (.int .i64 x2.fEnd), .v (.bool x2.fHasEnd), .v (.int .i64 x2.fValue.fType), .arr x2.fValue.fDims.length (lm (ik .i64) x2.fValue.fDims), .arr x2.fValue.fF.length (lm (ik .u32) x2.fValue.fF), .arr x2.fValue.fI.length (lm (ik .i64) x2.fValue.fI), .arr x2.fValue.fB.length (lm (bk) x2.fValue.fB)])), ((0, 24, 0), .bx true ([.v (.int .i64 53), .v (.int .i64 x2.fAxis), .arr x2.fAxes.length (lm (ik .i64) x2.fAxes), .v (.bool x2.fHasAxes), .v (.bool x2.fKeep), .v (.bool x2.fNoop), .v (.bool x2.fLast), .v (.bool x2.fZero), .arr x2.fPerm.length (lm (ik .i64) x2.fPerm), .v (.bool x2.fHasPerm), .v (.int .u32 x2.fAlpha), .v (.int .u32 x2.fBeta), .v (.int .u32 x2.fEpsilon), .v (.bool x2.fLow), .v (.bool x2.fHigh), .v (.bool x2.fFmod), .v (.int .i64 x2.fTo), .v (.int .i64 x2.fMode), .v (.bool x2.fTransA), .v (.bool x2.fTransB), .v (.int .i64 x2.fGroup), .arr x2.fKernel.length (lm (ik .i64) x2.fKernel), .arr x2.fStrides.length (lm (ik .i64) x2.fStrides), .arr x2.fPads.length (lm (ik .i64) x2.fPads), .arr x2.fDilations.length (lm (ik .i64) x2.fDilations), .v (.int .i64 x2.fAuto), .v (.bool x2.fCeil), .v (.bool x2.fCount), .v (.int .i64 x2.fBlock), .v (.int .i64 x2.fStart), .v (.int .i64 x2.fEnd), .v (.bool x2.fHasEnd), .v (.int .i64 x2.fValue.fType), .arr x2.fValue.fDims.length (lm (ik .i64) x2.fValue.fDims), .arr x2.fValue.fF.length (lm (ik .u32) x2.fValue.fF), .arr x2.fValue.fI.length (lm (ik .i64) x2.fValue.fI), .arr x2.fValue.fB.length (lm (bk) x2.fValue.fB), .own (0, 10, 115) 0 s.1.length s.1.length, .v (.int .i64 0), .v (.slice none 0 0), .v (.slice none 0 0), .v (.slice none 0 0), .v (.slice none 0 0), .v (.int .i64 0)])), ((0, 10, 115), .sl true true 5 s.1.length (fm c_T_Tensor s.1))])) (fun next s => moves_Do.L1 fu x2 x3 x4 (fun x17 x18 => next (x17, x18)) s.1 s.2) (s0 := (([] : List T_Tensor), 0)) ?_ ?_ ?_
    ·exact Ze
    ·exact Zh
    rintro next k1 hn1 ⟨x17, x18⟩
    let nx1 : (List T_Tensor) → Int → Option ((List T_Tensor) × Int) := (fun x17 x18 => next (x17, x18))
    show J _ (moves_Do.L1 fu x2 x3 x4 nx1 x17 x18) _
    unfold moves_Do.L1
    conv => arg 1; simp (maxSteps := 4000000) (disch := first | exact Zd | fail) only [ZZ, d10_at, simprocAttr, RL, SE, h1, e_h2, h3']
    refine J.eq go_seq ?_
    conv => arg 1; simp (maxSteps := 4000000) (disch := first | exact Zd | fail) only [ZZ, d10_at, simprocAttr, RL, SE, h1, e_h2, h3']
    refine J.ite (fun h15 => ?_) (fun h15 => ?_)
    ·have h15' := decide_eq_true h15
     have h15'' : decide ((x3.length : Int) ≤ x18) = false := decide_eq_false (by omega)
     conv => arg 1; simp (maxSteps := 4000000) (disch := first | exact Zd | fail) only [ZZ, d10_at, simprocAttr, RL, SE, h1, e_h2, h3', h15'', h15']
     refine J.eq ret_seq ?_
     refine J.eq go_seq ?_
     refine J.at fun x23 h16 h17 h18 => ?_
     conv => arg 1; simp (maxSteps := 4000000) (disch := first | exact Zd | fail) only [ZZ, d10_at, simprocAttr, RL, SE, h1, e_h2, h3', h15'', h15', fm_cut c_T_Tensor_len h18, fm_fit c_T_Tensor_len h18, fm_at c_T_Tensor_len h18, fm_at0 c_T_Tensor_len h18]
     refine J.eq go_seq ?_
     conv => arg 1; simp (maxSteps := 4000000) (disch := first | exact Zd | fail) only [ZZ, d10_at, simprocAttr, RL, SE, h1, e_h2, h3', h15'', h15', fm_cut c_T_Tensor_len h18, fm_fit c_T_Tensor_len h18, fm_at c_T_Tensor_len h18, fm_at0 c_T_Tensor_len h18]
     refine J.ite (fun h19 => ?_) (fun h19 => ?_)
     ·have h19' := decide_eq_true h19
      conv => arg 1; simp (maxSteps := 4000000) (disch := first | exact Zd | fail) only [ZZ, d10_at, simprocAttr, RL, SE, h1, e_h2, h3', h15'', h15', fm_cut c_T_Tensor_len h18, fm_fit c_T_Tensor_len h18, fm_at c_T_Tensor_len h18, fm_at0 c_T_Tensor_len h18, h19']
      refine J.eq ret_seq ?_
      refine J.bind fun x24 h20 => ?_
      have e_h20 := H19_0 _ _ h20
      try simp only [NN, NT, LN, simprocAttr, DT] at e_h20
      refine J.chk fun h21 => ?_
      conv => arg 1; simp (maxSteps := 4000000) (disch := first | exact Zd | fail) only [ZZ, d10_at, simprocAttr, RL, SE, h1, e_h2, h3', h15'', h15', fm_cut c_T_Tensor_len h18, fm_fit c_T_Tensor_len h18, fm_at c_T_Tensor_len h18, fm_at0 c_T_Tensor_len h18, h19', e_h20]
      refine J.eq ret_seq ?_
      conv => arg 1; simp (maxSteps := 4000000) (disch := first | exact Zd | fail) only [ZZ, d10_at, simprocAttr, RL, SE, h1, e_h2, h3', h15'', h15', fm_cut c_T_Tensor_len h18, fm_fit c_T_Tensor_len h18, fm_at c_T_Tensor_len h18, fm_at0 c_T_Tensor_len h18, h19', e_h20]
      refine J.next (s := (x17 ++ ([x24]), wk .i64 (x18 + 1))) hn1 ?_ ?_
      ·exact Ze
      ·exact Zh
     ·have h19' := decide_eq_false h19
      refine J.bind fun x25 h22 => ?_
      have e_h22 := H18_0 _ _ h22
      try simp only [NN, NT, LN, simprocAttr, DT] at e_h22
      conv => arg 1; simp (maxSteps := 4000000) (disch := first | exact Zd | fail) only [ZZ, d10_at, simprocAttr, RL, SE, h1, e_h2, h3', h15'', h15', fm_cut c_T_Tensor_len h18, fm_fit c_T_Tensor_len h18, fm_at c_T_Tensor_len h18, fm_at0 c_T_Tensor_len h18, h19', e_h22]
      refine J.ite (fun h23 => ?_) (fun h23 => ?_)
      ·have h23' := decide_eq_true h23
       conv => arg 1; simp (maxSteps := 4000000) (disch := first | exact Zd | fail) only [ZZ, d10_at, simprocAttr, RL, SE, h1, e_h2, h3', h15'', h15', fm_cut c_T_Tensor_len h18, fm_fit c_T_Tensor_len h18, fm_at c_T_Tensor_len h18, fm_at0 c_T_Tensor_len h18, h19', e_h22, h23']
       refine J.eq ret_seq ?_
       refine J.bind fun x26 h24 => ?_
       have e_h24 := H19_0 _ _ h24
       try simp only [NN, NT, LN, simprocAttr, DT] at e_h24
       refine J.chk fun h25 => ?_
       conv => arg 1; simp (maxSteps := 4000000) (disch := first | exact Zd | fail) only [ZZ, d10_at, simprocAttr, RL, SE, h1, e_h2, h3', h15'', h15', fm_cut c_T_Tensor_len h18, fm_fit c_T_Tensor_len h18, fm_at c_T_Tensor_len h18, fm_at0 c_T_Tensor_len h18, h19', e_h22, h23', e_h24]
       refine J.eq ret_seq ?_
       conv => arg 1; simp (maxSteps := 4000000) (disch := first | exact Zd | fail) only [ZZ, d10_at, simprocAttr, RL, SE, h1, e_h2, h3', h15'', h15', fm_cut c_T_Tensor_len h18, fm_fit c_T_Tensor_len h18, fm_at c_T_Tensor_len h18, fm_at0 c_T_Tensor_len h18, h19', e_h22, h23', e_h24]
       refine J.next (s := (x17 ++ ([x26]), wk .i64 (x18 + 1))) hn1 ?_ ?_
       ·exact Ze
       ·exact Zh
      ·have h23' := decide_eq_false h23
       refine J.some ?_
       simp (maxSteps := 20000000) (disch := first | exact Zd | fail) only [ZZ, d10_at, simprocAttr, RL, SE, h1, e_h2, h3', h15'', h15', fm_cut c_T_Tensor_len h18, fm_fit c_T_Tensor_len h18, fm_at c_T_Tensor_len h18, fm_at0 c_T_Tensor_len h18, h19', e_h22, h23', FN]
    ·have h15' := decide_eq_false h15
     have h15'' : decide ((x3.length : Int) ≤ x18) = true := decide_eq_true (by omega)
     conv => arg 1; simp (maxSteps := 4000000) (disch := first | exact Zd | fail) only [ZZ, d10_at, simprocAttr, RL, SE, h1, e_h2, h3', h15'', h15']
     refine J.jmp (t := x17) hj1 ?_ ?_
     ·exact Ze
     ·exact Zh
  ·have h3' : x5 = false := Bool.eq_false_iff.2 h3
   refine J.some ?_
   simp (maxSteps := 20000000) (disch := first | exact Zd | fail) only [ZZ, d10_at, simprocAttr, RL, SE, h1, e_h2, h3', FN]
 ·refine J.chk fun h26 => ?_
  conv => arg 1; simp (maxSteps := 4000000) (disch := first | exact Zd | fail) only [bodyOf, Tryz.f10, ZZ, d10_at, simprocAttr, RL, SE, h26]
  refine J.eq go_seq ?_
  refine J.bind fun x27 h27 => ?_
  have e_h27 := H17_0 _ _ h27
  try simp only [NN, NT, LN, simprocAttr, DT] at e_h27
  conv => arg 1; simp (maxSteps := 4000000) (disch := first | exact Zd | fail) only [ZZ, d10_at, simprocAttr, RL, SE, h26, e_h27]
  refine J.ite (fun h28 => ?_) (fun h28 => ?_)
  ·have h28' : x27 = true := h28
   conv => arg 1; simp (maxSteps := 4000000) (disch := first | exact Zd | fail) only [ZZ, d10_at, simprocAttr, RL, SE, h26, e_h27, h28']
   refine J.eq ret_seq ?_
   conv => arg 1; simp (maxSteps := 4000000) (disch := first | exact Zd | fail) only [ZZ, d10_at, simprocAttr, RL, SE, h26, e_h27, h28']
   refine J.joinS (fun (t : List T_Tensor) => ([(0, .v (.int .i64 49)), (2, .arr x3.length (fm c_T_Tensor x3)), (3, .v (.int .i64 x4)), (5, .ptr (0, 5, 0) 0 0), (10, .ptr (0, 24, 0) 0 0)], [((0, 5, 0), .bx true ([.v (.int .i64 x2.fAxis), .arr x2.fAxes.length (lm (ik .i64) x2.fAxes), .v (.bool x2.fHasAxes), .v (.bool x2.fKeep), .v (.bool x2.fNoop), .v (.bool x2.fLast), .v (.bool x2.fZero), .arr x2.fPerm.length (lm (ik .i64) x2.fPerm), .v (.bool x2.fHasPerm), .v (.int .u32 x2.fAlpha), .v (.int .u32 x2.fBeta), .v (.int .u32 x2.fEpsilon), .v (.bool x2.fLow), .v (.bool x2.fHigh), .v (.bool x2.fFmod), .v (.int .i64 x2.fTo), .v (.int .i64 x2.fMode), .v (.bool x2.fTransA), .v (.bool x2.fTransB), .v (.int .i64 x2.fGroup), .arr x2.fKernel.length (lm (ik .i64) x2.fKernel), .arr x2.fStrides.length (lm (ik .i64) x2.fStrides), .arr x2.fPads.length (lm (ik .i64) x2.fPads), .arr x2.fDilations.length (lm (ik .i64) x2.fDilations), .v (.int .i64 x2.fAuto), .v (.bool x2.fCeil), .v (.bool x2.fCount), .v (.int .i64 x2.fBlock), .v (.int .i64 x2.fStart), .v (.int .i64 x2.fEnd), .v (.bool x2.fHasEnd), .v (.int .i64 x2.fValue.fType), .arr x2.fValue.fDims.length (lm (ik .i64) x2.fValue.fDims), .arr x2.fValue.fF.length (lm (ik .u32) x2.fValue.fF), .arr x2.fValue.fI.length (lm (ik .i64) x2.fValue.fI), .arr x2.fValue.fB.length (lm (bk) x2.fValue.fB)])), ((0, 24, 0), .bx true ([.v (.int .i64 49), .v (.int .i64 x2.fAxis), .arr x2.fAxes.length (lm (ik .i64) x2.fAxes), .v (.bool x2.fHasAxes), .v (.bool x2.fKeep), .v (.bool x2.fNoop), .v (.bool x2.fLast), .v (.bool x2.fZero), .arr x2.fPerm.length (lm (ik .i64) x2.fPerm), .v (.bool x2.fHasPerm), .v (.int .u32 x2.fAlpha), .v (.int .u32 x2.fBeta), .v (.int .u32 x2.fEpsilon), .v (.bool x2.fLow), .v (.bool x2.fHigh), .v (.bool x2.fFmod), .v (.int .i64 x2.fTo), .v (.int .i64 x2.fMode), .v (.bool x2.fTransA), .v (.bool x2.fTransB), .v (.int .i64 x2.fGroup), .arr x2.fKernel.length (lm (ik .i64) x2.fKernel), .arr x2.fStrides.length (lm (ik .i64) x2.fStrides), .arr x2.fPads.length (lm (ik .i64) x2.fPads), .arr x2.fDilations.length (lm (ik .i64) x2.fDilations), .v (.int .i64 x2.fAuto), .v (.bool x2.fCeil), .v (.bool x2.fCount), .v (.int .i64 x2.fBlock), .v (.int .i64 x2.fStart), .v (.int .i64 x2.fEnd), .v (.bool x2.fHasEnd), .v (.int .i64 x2.fValue.fType), .arr x2.fValue.fDims.length (lm (ik .i64) x2.fValue.fDims), .arr x2.fValue.fF.length (lm (ik .u32) x2.fValue.fF), .arr x2.fValue.fI.length (lm (ik .i64) x2.fValue.fI), .arr x2.fValue.fB.length (lm (bk) x2.fValue.fB), .own (0, 10, 115) 0 t.length t.length, .v (.int .i64 0), .v (.slice none 0 0), .v (.slice none 0 0), .v (.slice none 0 0), .v (.slice none 0 0), .v (.int .i64 0)])), ((0, 10, 115), .sl true true 5 t.length (fm c_T_Tensor t))])) (fun t => moves_Do.k3 fu x2 x3 x4 t) ?_ (fun hj3 => ?_)
   ·rintro x28
    show J _ (moves_Do.k3 fu x2 x3 x4 x28) _
    unfold moves_Do.k3
    refine J.bind fun x29 h29 => ?_
    have e_h29 := H21_0 _ _ h29
    try simp only [NN, NT, LN, simprocAttr, DT] at e_h29
    refine J.bind fun x30 h30 => ?_
    have e_h30 := H20_0 _ _ _ _ _ h30
    try simp only [NN, NT, LN, simprocAttr, DT] at e_h30
    conv => arg 1; simp (maxSteps := 4000000) (disch := first | exact Zd | fail) only [ZZ, d10_at, simprocAttr, RL, SE, h26, e_h27, h28', e_h29, e_h30]
    refine J.eq go_seq ?_
    conv => arg 1; simp (maxSteps := 4000000) (disch := first | exact Zd | fail) only [ZZ, d10_at, simprocAttr, RL, SE, h26, e_h27, h28', e_h29, e_h30]
    refine J.ite (fun h31 => ?_) (fun h31 => ?_)
    ·have h31' := decide_eq_true h31
     conv => arg 1; simp (maxSteps := 4000000) (disch := first | exact Zd | fail) only [ZZ, d10_at, simprocAttr, RL, SE, h26, e_h27, h28', e_h29, e_h30, h31']
     refine J.eq ret_seq ?_
     refine J.at fun x31 h32 h33 h34 => ?_
     replace h34 : x28[0]? = some x31 := h34
     have h34k := fm_cut c_T_Tensor_len h34
     have h34f := fm_fit c_T_Tensor_len h34
     have h34a0 := fm_at (j := 0) c_T_Tensor_len h34 (by decide)
     have h34a1 := fm_at (j := 1) c_T_Tensor_len h34 (by decide)
     have h34a2 := fm_at (j := 2) c_T_Tensor_len h34 (by decide)
     have h34a3 := fm_at (j := 3) c_T_Tensor_len h34 (by decide)
     have h34a4 := fm_at (j := 4) c_T_Tensor_len h34 (by decide)
     simp only [simprocAttr, Nat.zero_mul, Nat.zero_add, Nat.add_zero, List.drop_zero] at h34k h34f h34a0 h34a1 h34a2 h34a3 h34a4
     refine J.bind fun x32 h35 => ?_
     have e_h35 := H22_0 _ _ _ h35
     try simp only [NN, NT, LN, simprocAttr, DT] at e_h35
     conv => arg 1; simp (maxSteps := 4000000) (disch := first | exact Zd | fail) only [ZZ, d10_at, simprocAttr, RL, SE, h26, e_h27, h28', e_h29, e_h30, h31', h34k, h34f, h34a0, h34a1, h34a2, h34a3, h34a4, e_h35]
     refine J.joinS (fun (t : Unit) => ([(0, .v (.int .i64 49)), (10, .ptr (0, 24, 0) 0 0), (14, .arr x30.1.length (fm c_T_Val x30.1)), (16, .v (.slice none 0 0))], [((0, 24, 0), .bx true ([.v (.int .i64 49), .v (.int .i64 x2.fAxis), .arr x2.fAxes.length (lm (ik .i64) x2.fAxes), .v (.bool x2.fHasAxes), .v (.bool x2.fKeep), .v (.bool x2.fNoop), .v (.bool x2.fLast), .v (.bool x2.fZero), .arr x2.fPerm.length (lm (ik .i64) x2.fPerm), .v (.bool x2.fHasPerm), .v (.int .u32 x2.fAlpha), .v (.int .u32 x2.fBeta), .v (.int .u32 x2.fEpsilon), .v (.bool x2.fLow), .v (.bool x2.fHigh), .v (.bool x2.fFmod), .v (.int .i64 x2.fTo), .v (.int .i64 x2.fMode), .v (.bool x2.fTransA), .v (.bool x2.fTransB), .v (.int .i64 x2.fGroup), .arr x2.fKernel.length (lm (ik .i64) x2.fKernel), .arr x2.fStrides.length (lm (ik .i64) x2.fStrides), .arr x2.fPads.length (lm (ik .i64) x2.fPads), .arr x2.fDilations.length (lm (ik .i64) x2.fDilations), .v (.int .i64 x2.fAuto), .v (.bool x2.fCeil), .v (.bool x2.fCount), .v (.int .i64 x2.fBlock), .v (.int .i64 x2.fStart), .v (.int .i64 x2.fEnd), .v (.bool x2.fHasEnd), .v (.int .i64 x2.fValue.fType), .arr x2.fValue.fDims.length (lm (ik .i64) x2.fValue.fDims), .arr x2.fValue.fF.length (lm (ik .u32) x2.fValue.fF), .arr x2.fValue.fI.length (lm (ik .i64) x2.fValue.fI), .arr x2.fValue.fB.length (lm (bk) x2.fValue.fB), .own (0, 10, 115) 0 x28.length x28.length, .v (.int .i64 x31.fType), .arr x31.fDims.length (lm (ik .i64) x31.fDims), .arr x31.fF.length (lm (ik .u32) x31.fF), .arr x31.fI.length (lm (ik .i64) x31.fI), .arr x31.fB.length (lm (bk) x31.fB), .v (.int .i64 x32.1)])), ((0, 10, 115), .sl true true 5 x28.length (fm c_T_Tensor x28))])) (fun t => moves_Do.k4 fu x2 x28 x30 x31 x32) ?_ (fun hj4 => ?_)
     ·rintro ⟨⟩
      show J _ (moves_Do.k4 fu x2 x28 x30 x31 x32) _
      unfold moves_Do.k4
      refine J.eq go_seq ?_
      conv => arg 1; simp (maxSteps := 4000000) (disch := first | exact Zd | fail) only [ZZ, d10_at, simprocAttr, RL, SE, h26, e_h27, h28', e_h29, e_h30, h31', h34k, h34f, h34a0, h34a1, h34a2, h34a3, h34a4, e_h35]
      refine J.eq ret_seq ?_
      refine J.at fun x33 h36 h37 h38 => ?_
      replace h38 : x30.1[0]? = some x33 := h38
      have h38k := fm_cut c_T_Val_len h38
      have h38f := fm_fit c_T_Val_len h38
      have h38a0 := fm_at (j := 0) c_T_Val_len h38 (by decide)
      have h38a1 := fm_at (j := 1) c_T_Val_len h38 (by decide)
      have h38a2 := fm_at (j := 2) c_T_Val_len h38 (by decide)
      have h38a3 := fm_at (j := 3) c_T_Val_len h38 (by decide)
      have h38a4 := fm_at (j := 4) c_T_Val_len h38 (by decide)
      have h38a5 := fm_at (j := 5) c_T_Val_len h38 (by decide)
      have h38a6 := fm_at (j := 6) c_T_Val_len h38 (by decide)
      have h38a7 := fm_at (j := 7) c_T_Val_len h38 (by decide)
      simp only [simprocAttr, Nat.zero_mul, Nat.zero_add, Nat.add_zero, List.drop_zero] at h38k h38f h38a0 h38a1 h38a2 h38a3 h38a4 h38a5 h38a6 h38a7
      refine J.bind fun x34 h39 => ?_
      have e_h39 := H25_0 _ _ _ _ h39
      try simp only [NN, NT, LN, simprocAttr, DT] at e_h39
      refine J.some ?_
      simp (maxSteps := 20000000) (disch := first | exact Zd | fail) only [ZZ, d10_at, simprocAttr, RL, SE, h26, e_h27, h28', e_h29, e_h30, h31', h34k, h34f, h34a0, h34a1, h34a2, h34a3, h34a4, e_h35, h38k, h38f, h38a0, h38a1, h38a2, h38a3, h38a4, h38a5, h38a6, h38a7, e_h39, FN]
     ·refine J.hd jn_at ?_
      refine J.eq go_seq ?_
      conv => arg 1; simp (maxSteps := 4000000) (disch := first | exact Zd | fail) only [ZZ, d10_at, simprocAttr, RL, SE, h26, e_h27, h28', e_h29, e_h30, h31', h34k, h34f, h34a0, h34a1, h34a2, h34a3, h34a4, e_h35]
      refine J.eq ret_seq ?_
      conv => arg 1; simp (maxSteps := 4000000) (disch := first | exact Zd | fail) only [ZZ, d10_at, simprocAttr, RL, SE, h26, e_h27, h28', e_h29, e_h30, h31', h34k, h34f, h34a0, h34a1, h34a2, h34a3, h34a4, e_h35]
      refine J.jmp (t := ()) hj4 ?_ ?_
      ·exact Ze
      ·exact Zh
    ·have h31' := decide_eq_false h31
     refine J.some ?_
     simp (maxSteps := 20000000) (disch := first | exact Zd | fail) only [ZZ, d10_at, simprocAttr, RL, SE, h26, e_h27, h28', e_h29, e_h30, h31', FN]
   ·refine J.hd jn_at ?_
    conv => arg 1; simp (maxSteps := 4000000) (disch := first | exact Zd | fail) only [ZZ, d10_at, simprocAttr, RL, SE, h26, e_h27, h28']
    unfold moves_Do.W2
    refine J.loop (fun (s : (List T_Tensor) × Int) => ([(0, .v (.int .i64 49)), (2, .arr x3.length (fm c_T_Tensor x3)), (3, .v (.int .i64 x4)), (5, .ptr (0, 5, 0) 0 0), (10, .ptr (0, 24, 0) 0 0), (25, .arr x3.length (fm c_T_Tensor x3)), (26, .v (.int .i64 (x3.length : Int))), (27, .v (.int .i64 s.2))], [((0, 5, 0), .bx true ([.v (.int .i64 x2.fAxis), .arr x2.fAxes.length (lm (ik .i64) x2.fAxes), .v (.bool x2.fHasAxes), .v (.bool x2.fKeep), .v (.bool x2.fNoop), .v (.bool x2.fLast), .v (.bool x2.fZero), .arr x2.fPerm.length (lm (ik .i64) x2.fPerm), .v (.bool x2.fHasPerm), .v (.int .u32 x2.fAlpha), .v (.int .u32 x2.fBeta), .v (.int .u32 x2.fEpsilon), .v (.bool x2.fLow), .v (.bool x2.fHigh), .v (.bool x2.fFmod), .v (.int .i64 x2.fTo), .v (.int .i64 x2.fMode), .v (.bool x2.fTransA), .v (.bool x2.fTransB), .v (.int .i64 x2.fGroup), .arr x2.fKernel.length (lm (ik .i64) x2.fKernel), .arr x2.fStrides.length (lm (ik .i64) x2.fStrides), .arr x2.fPads.length (lm (ik .i64) x2.fPads), .arr x2.fDilations.length (lm (ik .i64) x2.fDilations), .v (.int .i64 x2.fAuto), .v (.bool x2.fCeil), .v (.bool x2.fCount), .v (.int .i64 x2.fBlock), .v (.int .i64 x2.fStart), .v (.int .i64 x2.fEnd), .v (.bool x2.fHasEnd), .v (.int .i64 x2.fValue.fType), .arr x2.fValue.fDims.length (lm (ik .i64) x2.fValue.fDims), .arr x2.fValue.fF.length (lm (ik .u32) x2.fValue.fF), .arr x2.fValue.fI.length (lm (ik .i64) x2.fValue.fI), .arr x2.fValue.fB.length (lm (bk) x2.fValue.fB)])), ((0, 24, 0), .bx true ([.v (.int .i64 49), .v (.int .i64 x2.fAxis), .arr x2.fAxes.length (lm (ik .i64) x2.fAxes), .v (.bool x2.fHasAxes), .v (.bool x2.fKeep), .v (.bool x2.fNoop), .v (.bool x2.fLast), .v (.bool x2.fZero), .arr x2.fPerm.length (lm (ik .i64) x2.fPerm), .v (.bool x2.fHasPerm), .v (.int .u32 x2.fAlpha), .v (.int .u32 x2.fBeta), .v (.int .u32 x2.fEpsilon), .v (.bool x2.fLow), .v (.bool x2.fHigh), .v (.bool x2.fFmod), .v (.int .i64 x2.fTo), .v (.int .i64 x2.fMode), .v (.bool x2.fTransA), .v (.bool x2.fTransB), .v (.int .i64 x2.fGroup), .arr x2.fKernel.length (lm (ik .i64) x2.fKernel), .arr x2.fStrides.length (lm (ik .i64) x2.fStrides), .arr x2.fPads.length (lm (ik .i64) x2.fPads), .arr x2.fDilations.length (lm (ik .i64) x2.fDilations), .v (.int .i64 x2.fAuto), .v (.bool x2.fCeil), .v (.bool x2.fCount), .v (.int .i64 x2.fBlock), .v (.int .i64 x2.fStart), .v (.int .i64 x2.fEnd), .v (.bool x2.fHasEnd), .v (.int .i64 x2.fValue.fType), .arr x2.fValue.fDims.length (lm (ik .i64) x2.fValue.fDims), .arr x2.fValue.fF.length (lm (ik .u32) x2.fValue.fF), .arr x2.fValue.fI.length (lm (ik .i64) x2.fValue.fI), .arr x2.fValue.fB.length (lm (bk) x2.fValue.fB), .own (0, 10, 115) 0 s.1.length s.1.length, .v (.int .i64 0), .v (.slice none 0 0), .v (.slice none 0 0), .v (.slice none 0 0), .v (.slice none 0 0), .v (.int .i64 0)])), ((0, 10, 115), .sl true true 5 s.1.length (fm c_T_Tensor s.1))])) (fun next s => moves_Do.L2 fu x2 x3 x4 (fun x39 x40 => next (x39, x40)) s.1 s.2) (s0 := (([] : List T_Tensor), 0)) ?_ ?_ ?_
    ·exact Ze
    ·exact Zh
    rintro next k2 hn2 ⟨x39, x40⟩
    let nx2 : (List T_Tensor) → Int → Option ((List T_Tensor) × Int) := (fun x39 x40 => next (x39, x40))
    show J _ (moves_Do.L2 fu x2 x3 x4 nx2 x39 x40) _
    unfold moves_Do.L2
    conv => arg 1; simp (maxSteps := 4000000) (disch := first | exact Zd | fail) only [ZZ, d10_at, simprocAttr, RL, SE, h26, e_h27, h28']
    refine J.eq go_seq ?_
    conv => arg 1; simp (maxSteps := 4000000) (disch := first | exact Zd | fail) only [ZZ, d10_at, simprocAttr, RL, SE, h26, e_h27, h28']
    refine J.ite (fun h40 => ?_) (fun h40 => ?_)
    ·have h40' := decide_eq_true h40
     have h40'' : decide ((x3.length : Int) ≤ x40) = false := decide_eq_false (by omega)
     conv => arg 1; simp (maxSteps := 4000000) (disch := first | exact Zd | fail) only [ZZ, d10_at, simprocAttr, RL, SE, h26, e_h27, h28', h40'', h40']
     refine J.eq ret_seq ?_
     refine J.eq go_seq ?_
     refine J.at fun x45 h41 h42 h43 => ?_
     conv => arg 1; simp (maxSteps := 4000000) (disch := first | exact Zd | fail) only [ZZ, d10_at, simprocAttr, RL, SE, h26, e_h27, h28', h40'', h40', fm_cut c_T_Tensor_len h43, fm_fit c_T_Tensor_len h43, fm_at c_T_Tensor_len h43, fm_at0 c_T_Tensor_len h43]
     refine J.eq go_seq ?_
     conv => arg 1; simp (maxSteps := 4000000) (disch := first | exact Zd | fail) only [ZZ, d10_at, simprocAttr, RL, SE, h26, e_h27, h28', h40'', h40', fm_cut c_T_Tensor_len h43, fm_fit c_T_Tensor_len h43, fm_at c_T_Tensor_len h43, fm_at0 c_T_Tensor_len h43]
     refine J.ite (fun h44 => ?_) (fun h44 => ?_)
     ·have h44' := decide_eq_true h44
      conv => arg 1; simp (maxSteps := 4000000) (disch := first | exact Zd | fail) only [ZZ, d10_at, simprocAttr, RL, SE, h26, e_h27, h28', h40'', h40', fm_cut c_T_Tensor_len h43, fm_fit c_T_Tensor_len h43, fm_at c_T_Tensor_len h43, fm_at0 c_T_Tensor_len h43, h44']
      refine J.eq ret_seq ?_
      refine J.bind fun x46 h45 => ?_
      have e_h45 := H19_0 _ _ h45
      try simp only [NN, NT, LN, simprocAttr, DT] at e_h45
      refine J.chk fun h46 => ?_
      conv => arg 1; simp (maxSteps := 4000000) (disch := first | exact Zd | fail) only [ZZ, d10_at, simprocAttr, RL, SE, h26, e_h27, h28', h40'', h40', fm_cut c_T_Tensor_len h43, fm_fit c_T_Tensor_len h43, fm_at c_T_Tensor_len h43, fm_at0 c_T_Tensor_len h43, h44', e_h45]
      refine J.eq ret_seq ?_
      conv => arg 1; simp (maxSteps := 4000000) (disch := first | exact Zd | fail) only [ZZ, d10_at, simprocAttr, RL, SE, h26, e_h27, h28', h40'', h40', fm_cut c_T_Tensor_len h43, fm_fit c_T_Tensor_len h43, fm_at c_T_Tensor_len h43, fm_at0 c_T_Tensor_len h43, h44', e_h45]
      refine J.next (s := (x39 ++ ([x46]), wk .i64 (x40 + 1))) hn2 ?_ ?_
      ·exact Ze
      ·exact Zh
     ·have h44' := decide_eq_false h44
      refine J.bind fun x47 h47 => ?_
      have e_h47 := H18_0 _ _ h47
      try simp only [NN, NT, LN, simprocAttr, DT] at e_h47
      conv => arg 1; simp (maxSteps := 4000000) (disch := first | exact Zd | fail) only [ZZ, d10_at, simprocAttr, RL, SE, h26, e_h27, h28', h40'', h40', fm_cut c_T_Tensor_len h43, fm_fit c_T_Tensor_len h43, fm_at c_T_Tensor_len h43, fm_at0 c_T_Tensor_len h43, h44', e_h47]
      refine J.ite (fun h48 => ?_) (fun h48 => ?_)
      ·have h48' := decide_eq_true h48
       conv => arg 1; simp (maxSteps := 4000000) (disch := first | exact Zd | fail) only [ZZ, d10_at, simprocAttr, RL, SE, h26, e_h27, h28', h40'', h40', fm_cut c_T_Tensor_len h43, fm_fit c_T_Tensor_len h43, fm_at c_T_Tensor_len h43, fm_at0 c_T_Tensor_len h43, h44', e_h47, h48']
       refine J.eq ret_seq ?_
       refine J.bind fun x48 h49 => ?_
       have e_h49 := H19_0 _ _ h49
       try simp only [NN, NT, LN, simprocAttr, DT] at e_h49
       refine J.chk fun h50 => ?_
       conv => arg 1; simp (maxSteps := 4000000) (disch := first | exact Zd | fail) only [ZZ, d10_at, simprocAttr, RL, SE, h26, e_h27, h28', h40'', h40', fm_cut c_T_Tensor_len h43, fm_fit c_T_Tensor_len h43, fm_at c_T_Tensor_len h43, fm_at0 c_T_Tensor_len h43, h44', e_h47, h48', e_h49]
       refine J.eq ret_seq ?_
       conv => arg 1; simp (maxSteps := 4000000) (disch := first | exact Zd | fail) only [ZZ, d10_at, simprocAttr, RL, SE, h26, e_h27, h28', h40'', h40', fm_cut c_T_Tensor_len h43, fm_fit c_T_Tensor_len h43, fm_at c_T_Tensor_len h43, fm_at0 c_T_Tensor_len h43, h44', e_h47, h48', e_h49]
       refine J.next (s := (x39 ++ ([x48]), wk .i64 (x40 + 1))) hn2 ?_ ?_
       ·exact Ze
       ·exact Zh
      ·have h48' := decide_eq_false h48
       refine J.some ?_
       simp (maxSteps := 20000000) (disch := first | exact Zd | fail) only [ZZ, d10_at, simprocAttr, RL, SE, h26, e_h27, h28', h40'', h40', fm_cut c_T_Tensor_len h43, fm_fit c_T_Tensor_len h43, fm_at c_T_Tensor_len h43, fm_at0 c_T_Tensor_len h43, h44', e_h47, h48', FN]
    ·have h40' := decide_eq_false h40
     have h40'' : decide ((x3.length : Int) ≤ x40) = true := decide_eq_true (by omega)
     conv => arg 1; simp (maxSteps := 4000000) (disch := first | exact Zd | fail) only [ZZ, d10_at, simprocAttr, RL, SE, h26, e_h27, h28', h40'', h40']
     refine J.jmp (t := x39) hj3 ?_ ?_
     ·exact Ze
     ·exact Zh
  ·have h28' : x27 = false := Bool.eq_false_iff.2 h28
   refine J.some ?_
   simp (maxSteps := 20000000) (disch := first | exact Zd | fail) only [ZZ, d10_at, simprocAttr, RL, SE, h26, e_h27, h28', FN]
noncomputable def t10 (fu : Nat) : CallP := orE 17 (mkC (fun (t : Int) => ([.v (.int .i64 t)] : List AV)) (fun t => moves_Has fu t) e17) (orE 18 (mkC (fun (t : T_Tensor) => ([.agg (c_T_Tensor t)] : List AV)) (fun t => tens_Check fu t) e18) (orE 19 (mkC (fun (t : T_Tensor) => ([.agg (c_T_Tensor t)] : List AV)) (fun t => tens_Canon fu t) e19) (orE 21 (mkC (fun (t : List T_Tensor) => ([.arr t.length (fm c_T_Tensor t)] : List AV)) (fun t => ewise_Vals fu t) e21) (orE 20 (mkC (fun (t : Int × T_Setting × (List T_Val) × Int) => ([.v (.int .i64 t.1), .agg (c_T_Setting t.2.1), .arr t.2.2.1.length (fm c_T_Val t.2.2.1), .v (.int .i64 t.2.2.2)] : List AV)) (fun t => infer_Node fu t.1 t.2.1 t.2.2.1 t.2.2.2) e20) (orE 22 (mkC (fun (t : Int × Int) => ([.v (.int .i64 t.1), .v (.int .i64 t.2)] : List AV)) (fun t => shape_Axis fu t.1 t.2) e22) (orE 25 (mkC (fun (t : T_moves_move × (List Int) × (List Int)) => ([.ref (c_T_moves_move t.1) 0, .arr t.2.1.length (lm (ik .i64) t.2.1), .arr t.2.2.length (lm (ik .i64) t.2.2)] : List AV)) (fun t => moves_move_one fu t.1 t.2.1 t.2.2) e25) (noP)))))))
theorem t10_ok (fu : Nat) : CpOK Tryz.prog (t10 fu ) := orE_ok (orE_ok (orE_ok (orE_ok (orE_ok (orE_ok (orE_ok (noP_ok) (mkC_ok (fun t b h => ok25 fu t.1 t.2.1 t.2.2  b h))) (mkC_ok (fun t b h => ok22 fu t.1 t.2  b h))) (mkC_ok (fun t b h => ok20 fu t.1 t.2.1 t.2.2.1 t.2.2.2  b h))) (mkC_ok (fun t b h => ok21 fu t  b h))) (mkC_ok (fun t b h => ok19 fu t  b h))) (mkC_ok (fun t b h => ok18 fu t  b h))) (mkC_ok (fun t b h => ok17 fu t  b h))
theorem ok10 (fu : Nat) (x1 : Int) (x2 : T_Setting) (x3 : List T_Tensor) (x4 : Int) (r) (h : moves_Do fu x1 x2 x3 x4 = some r) : PureOK Tryz.prog 10 [.v (.int .i64 x1), .agg (c_T_Setting x2), .arr x3.length (fm c_T_Tensor x3), .v (.int .i64 x4)] (e10 r) :=
  pureS_J mixed (cp := t10 fu ) (t10_ok fu  ) noI_ok i10 (w10 _ fu x1 x2 x3 x4  (fun a0 r h => orE_hit (mkC_at (a := a0) (by intro a b h; first | (exact rfl) | (simp only [INJ, IJ] at h; first | exact h | (simp_all [Prod.ext_iff]) )) h)) (fun a0 r h => orE_miss (by decide) (orE_hit (mkC_at (a := a0) (by intro a b h; first | (exact rfl) | (simp only [INJ, IJ] at h; first | exact h | (simp_all [Prod.ext_iff]) )) h))) (fun a0 r h => orE_miss (by decide) (orE_miss (by decide) (orE_hit (mkC_at (a := a0) (by intro a b h; first | (exact rfl) | (simp only [INJ, IJ] at h; first | exact h | (simp_all [Prod.ext_iff]) )) h)))) (fun a0 r h => orE_miss (by decide) (orE_miss (by decide) (orE_miss (by decide) (orE_hit (mkC_at (a := a0) (by intro a b h; first | (exact rfl) | (simp only [INJ, IJ] at h; first | exact h | (simp_all [Prod.ext_iff]) )) h))))) (fun a0 a1 a2 a3 r h => orE_miss (by decide) (orE_miss (by decide) (orE_miss (by decide) (orE_miss (by decide) (orE_hit (mkC_at (a := (a0, a1, a2, a3)) (by intro a b h; first | (exact rfl) | (simp only [INJ, IJ] at h; first | exact h | (simp_all [Prod.ext_iff]) )) h)))))) (fun a0 a1 r h => orE_miss (by decide) (orE_miss (by decide) (orE_miss (by decide) (orE_miss (by decide) (orE_miss (by decide) (orE_hit (mkC_at (a := (a0, a1)) (by intro a b h; first | (exact rfl) | (simp only [INJ, IJ] at h; first | exact h | (simp_all [Prod.ext_iff]) )) h))))))) (fun a0 a1 a2 r h => orE_miss (by decide) (orE_miss (by decide) (orE_miss (by decide) (orE_miss (by decide) (orE_miss (by decide) (orE_miss (by decide) (orE_hit (mkC_at (a := (a0, a1, a2)) (by intro a b h; first | (exact rfl) | (simp only [INJ, IJ] at h; first | exact h | (simp_all [Prod.ext_iff]) )) h))))))))) h
def d27 : List (Nat × List Nat) := [(0, [0]), (0, []), (0, [4, 5, 6]), (0, []), (0, [7, 8, 9, 10, 11, 12]), (0, []), (0, [13, 14, 15, 16, 17, 18]), (0, []), (0, [19, 20, 21, 22, 23, 24]), (0, []), (0, [1, 25, 26, 27, 28, 29, 30]), (0, []), (0, [3, 31])]
def d27_at := by have h := tabL d27.eq_1; simp only [AllAt, Nat.zero_add, Nat.reduceAdd] at h; exact h
theorem i27 : finfo Tryz.prog 27 d27 = some ⟨bodyOf Tryz.f27, [.cell 2 27], [27]⟩ := finfo_at Tryz.func27 rfl (by kernel_rfl) (by kernel_rfl)
def e27 : T_Tensor → AV := fun r => .agg [.v (.int .i64 r.fType), .fresh 1 r.fDims.length (lm (ik .i64) r.fDims), .fresh 1 r.fF.length (lm (ik .u32) r.fF), .fresh 1 r.fI.length (lm (ik .i64) r.fI), .fresh 1 r.fB.length (lm (bk) r.fB)]
set_option maxHeartbeats 20000000 in
theorem w27 (cp : CallP) (fu : Nat) (x1 : T_Tensor)  : J (go Tryz.prog noC cp noI 0 [] d27 fu (fin Tryz.prog [.cell 2 27] [27]) (bodyOf Tryz.f27) (initE 0 [.agg (c_T_Tensor x1)]) [] []) (ref05_Copy fu x1) e27 := by
 unfold ref05_Copy e27
 have da := d27_at
 conv => arg 1; simp only [bodyOf, Tryz.f27]
 have z0 := d27_at
 exact Wk
theorem ok27 (fu : Nat) (x1 : T_Tensor) (r) (h : ref05_Copy fu x1 = some r) : PureOK Tryz.prog 27 [.agg (c_T_Tensor x1)] (e27 r) := pureT mixed [] (ids := []) rfl (by decide) i27 (C := noC) (ci := fun cp => noI) (fun cp ok => noI_ok) (fun cp H => w27 cp fu x1 ) h
def d111 : List (Nat × List Nat) := [(0, [2]), (0, []), (0, [0, 3, 4])]
def d111_at := by have h := tabL d111.eq_1; simp only [AllAt, Nat.zero_add, Nat.reduceAdd] at h; exact h
theorem i111 : finfo Tryz.prog 111 d111 = some ⟨bodyOf Tryz.f111, [.tmp 2], [33]⟩ := finfo_at Tryz.func111 rfl (by kernel_rfl) (by kernel_rfl)
def e111 : Int → AV := fun r => .v (.int .u32 r)
set_option maxHeartbeats 20000000 in
theorem w111 (cp : CallP) (fu : Nat) (x1 : Int)  : J (go Tryz.prog noC cp noI 0 [] d111 fu (fin Tryz.prog [.tmp 2] [33]) (bodyOf Tryz.f111) (initE 0 [.v (.int .u32 x1)]) [] []) (ref01_Abs fu x1) e111 := by
 unfold ref01_Abs e111
 have da := d111_at
 conv => arg 1; simp only [bodyOf, Tryz.f111]
 have z0 := d111_at
 exact Wk
theorem ok111 (fu : Nat) (x1 : Int) (r) (h : ref01_Abs fu x1 = some r) : PureOK Tryz.prog 111 [.v (.int .u32 x1)] (e111 r) := pureT mixed [] (ids := []) rfl (by decide) i111 (C := noC) (ci := fun cp => noI) (fun cp ok => noI_ok) (fun cp H => w111 cp fu x1 ) h
def d56 : List (Nat × List Nat) := [(0, [2]), (0, []), (0, [0, 3, 4, 5])]
def d56_at := by have h := tabL d56.eq_1; simp only [AllAt, Nat.zero_add, Nat.reduceAdd] at h; exact h
theorem i56 : finfo Tryz.prog 56 d56 = some ⟨bodyOf Tryz.f56, [.tmp 2], [4]⟩ := finfo_at Tryz.func56 rfl (by kernel_rfl) (by kernel_rfl)
def e56 : Bool → AV := fun r => .v (.bool r)
structure K111 (fu : Nat) (cp : CallP) : Prop where
 ap : ∀ {a0 : Int} {r}, ref01_Abs fu a0 = some r → cp 111 [.v (.int .u32 a0)] = some (.v (.int .u32 r))
noncomputable def C111 (fu : Nat) : Cm Tryz.prog Int Int := ⟨111, fun t => [.v (.int .u32 t)], fun t => ref01_Abs fu t, e111, fun t b h => ok111 fu t  b h, Zi⟩
theorem u111 {fu : Nat} {cp : CallP} (H : Hit cp (C111 fu).ct) : K111 fu cp := ⟨fun {a0 r} h => (C111 fu).at H a0 r h⟩
set_option maxHeartbeats 20000000 in
theorem w56 (cp : CallP) (fu : Nat) (x1 : Int) (H1 : K111 fu cp) : J (go Tryz.prog noC cp noI 0 [] d56 fu (fin Tryz.prog [.tmp 2] [4]) (bodyOf Tryz.f56) (initE 0 [.v (.int .u32 x1)]) [] []) (ref01_IsNone fu x1) e56 := by
 unfold ref01_IsNone e56
 have da := d56_at
 conv => arg 1; simp only [bodyOf, Tryz.f56]
 have z0 := d56_at
 exact Wk
theorem ok56 (fu : Nat) (x1 : Int) (r) (h : ref01_IsNone fu x1 = some r) : PureOK Tryz.prog 56 [.v (.int .u32 x1)] (e56 r) := pureT mixed [(C111 fu).ct] (ids := [111]) rfl (by decide) i56 (C := noC) (ci := fun cp => noI) (fun cp ok => noI_ok) (fun cp H => w56 cp fu x1 (u111 H.1)) h
def d28 : List (Nat × List Nat) := [(0, [2]), (0, []), (0, [3]), (0, []), (0, []), (0, []), (0, [0, 5])]
def d28_at := by have h := tabL d28.eq_1; simp only [AllAt, Nat.zero_add, Nat.reduceAdd] at h; exact h
theorem i28 : finfo Tryz.prog 28 d28 = some ⟨bodyOf Tryz.f28, [.tmp 2], [33]⟩ := finfo_at Tryz.func28 rfl (by kernel_rfl) (by kernel_rfl)
def e28 : Int → AV := fun r => .v (.int .u32 r)
structure K56 (fu : Nat) (cp : CallP) : Prop where
 ap : ∀ {a0 : Int} {r}, ref01_IsNone fu a0 = some r → cp 56 [.v (.int .u32 a0)] = some (.v (.bool r))
noncomputable def C56 (fu : Nat) : Cm Tryz.prog Int Bool := ⟨56, fun t => [.v (.int .u32 t)], fun t => ref01_IsNone fu t, e56, fun t b h => ok56 fu t  b h, Zi⟩
theorem u56 {fu : Nat} {cp : CallP} (H : Hit cp (C56 fu).ct) : K56 fu cp := ⟨fun {a0 r} h => (C56 fu).at H a0 r h⟩
set_option maxHeartbeats 20000000 in
theorem w28 (cp : CallP) (fu : Nat) (x1 : Int) (H1 : K56 fu cp) : J (go Tryz.prog noC cp noI 0 [] d28 fu (fin Tryz.prog [.tmp 2] [33]) (bodyOf Tryz.f28) (initE 0 [.v (.int .u32 x1)]) [] []) (ref01_Canon fu x1) e28 := by
 unfold ref01_Canon e28
 have da := d28_at
 conv => arg 1; simp only [bodyOf, Tryz.f28]
 have z0 := d28_at
 exact Wk
theorem ok28 (fu : Nat) (x1 : Int) (r) (h : ref01_Canon fu x1 = some r) : PureOK Tryz.prog 28 [.v (.int .u32 x1)] (e28 r) := pureT mixed [(C56 fu).ct] (ids := [56]) rfl (by decide) i28 (C := noC) (ci := fun cp => noI) (fun cp ok => noI_ok) (fun cp H => w28 cp fu x1 (u56 H.1)) h
def d12 : List (Nat × List Nat) := [(0, [0]), (0, [4]), (0, [1, 5, 6]), (0, []), (0, []), (0, []), (0, [7, 8, 9, 10]), (0, []), (0, [12, 13]), (0, []), (10, [14, 15, 16, 17, 18, 19, 20, 21, 22, 23]), (0, []), (0, [3, 24])]
def d12_at := by have h := tabL d12.eq_1; simp only [AllAt, Nat.zero_add, Nat.reduceAdd] at h; exact h
theorem i12 : finfo Tryz.prog 12 d12 = some ⟨bodyOf Tryz.f12, [.cell 2 27], [27]⟩ := finfo_at Tryz.func12 rfl (by kernel_rfl) (by kernel_rfl)
def e12 : T_Tensor → AV := fun r => .agg [.v (.int .i64 r.fType), .fresh 1 r.fDims.length (lm (ik .i64) r.fDims), .fresh 1 r.fF.length (lm (ik .u32) r.fF), .fresh 1 r.fI.length (lm (ik .i64) r.fI), .fresh 1 r.fB.length (lm (bk) r.fB)]
structure K27 (fu : Nat) (cp : CallP) : Prop where
 ap : ∀ {a0 : T_Tensor} {r}, ref05_Copy fu a0 = some r → cp 27 [.agg (c_T_Tensor a0)] = some (.agg [.v (.int .i64 r.fType), .fresh 1 r.fDims.length (lm (ik .i64) r.fDims), .fresh 1 r.fF.length (lm (ik .u32) r.fF), .fresh 1 r.fI.length (lm (ik .i64) r.fI), .fresh 1 r.fB.length (lm (bk) r.fB)])
noncomputable def C27 (fu : Nat) : Cm Tryz.prog T_Tensor T_Tensor := ⟨27, fun t => [.agg (c_T_Tensor t)], fun t => ref05_Copy fu t, e27, fun t b h => ok27 fu t  b h, Zi⟩
theorem u27 {fu : Nat} {cp : CallP} (H : Hit cp (C27 fu).ct) : K27 fu cp := ⟨fun {a0 r} h => (C27 fu).at H a0 r h⟩
structure K28 (fu : Nat) (cp : CallP) : Prop where
 ap : ∀ {a0 : Int} {r}, ref01_Canon fu a0 = some r → cp 28 [.v (.int .u32 a0)] = some (.v (.int .u32 r))
noncomputable def C28 (fu : Nat) : Cm Tryz.prog Int Int := ⟨28, fun t => [.v (.int .u32 t)], fun t => ref01_Canon fu t, e28, fun t b h => ok28 fu t  b h, Zi⟩
theorem u28 {fu : Nat} {cp : CallP} (H : Hit cp (C28 fu).ct) : K28 fu cp := ⟨fun {a0 r} h => (C28 fu).at H a0 r h⟩
def ref05_Canon.m1 : LJ 1 6 Unit ((List Int) × Int) := ⟨fun r s e => [(2, er e 2), (3, er e 3), (4, .v (.int .i64 s.2))], fun r s h => [((0, 2, 0), hr h (0, 2, 0)), ((0, 6, 0), hr h (0, 6, 0)), ((0, 6, 1), .sl true true 1 s.1.length (lm (ik .u32) s.1)), ((0, 6, 2), hr h (0, 6, 2)), ((0, 6, 3), hr h (0, 6, 3)), ((0, 3, 0), bs (hr h (0, 3, 0)) 2 (.own (0, 6, 1) 0 s.1.length s.1.length))]⟩
set_option maxHeartbeats 20000000 in
open ref05_Canon in
theorem w12 (cp : CallP) (fu : Nat) (x1 : T_Tensor) (H1 : K27 fu cp) (H2 : K28 fu cp) : J (go Tryz.prog noC cp noI 0 [] d12 fu (fin Tryz.prog [.cell 2 27] [27]) (bodyOf Tryz.f12) (initE 0 [.agg (c_T_Tensor x1)]) [] []) (ref05_Canon fu x1) e12 := by
 unfold ref05_Canon e12
 have da := d12_at
 conv => arg 1; simp only [bodyOf, Tryz.f12]
 have z0 := d12_at
 exact Wk
theorem ok12 (fu : Nat) (x1 : T_Tensor) (r) (h : ref05_Canon fu x1 = some r) : PureOK Tryz.prog 12 [.agg (c_T_Tensor x1)] (e12 r) := pureT mixed [(C27 fu).ct, (C28 fu).ct] (ids := [27, 28]) rfl (by decide) i12 (C := noC) (ci := fun cp => noI) (fun cp ok => noI_ok) (fun cp H => w12 cp fu x1 (u27 H.1) (u28 H.2.1)) h
def d26 : List (Nat × List Nat) := [(0, [4]), (0, [0, 1, 5]), (0, [6, 7, 8, 9]), (0, []), (0, []), (0, []), (0, []), (0, []), (0, [11, 12, 13]), (0, []), (0, [15, 16]), (0, []), (9, [17, 18, 19, 20, 21, 22, 23, 24]), (0, []), (0, []), (0, []), (0, [])]
def d26_at := by have h := tabL d26.eq_1; simp only [AllAt, Nat.zero_add, Nat.reduceAdd] at h; exact h
theorem i26 : finfo Tryz.prog 26 d26 = some ⟨bodyOf Tryz.f26, [.tmp 4], [4]⟩ := finfo_at Tryz.func26 rfl (by kernel_rfl) (by kernel_rfl)
def e26 : Bool → AV := fun r => .v (.bool r)
def ref04_SameInts.m1 : LJ 1 8 Unit Int := ⟨fun r s e => [(0, er e 0), (1, er e 1), (5, .v (.int .i64 s))], fun r s h => []⟩
set_option maxHeartbeats 20000000 in
open ref04_SameInts in
theorem w26 (cp : CallP) (fu : Nat) (x1 : List Int) (x2 : List Int)  : J (go Tryz.prog noC cp noI 0 [] d26 fu (fin Tryz.prog [.tmp 4] [4]) (bodyOf Tryz.f26) (initE 0 [.arr x1.length (lm (ik .i64) x1), .arr x2.length (lm (ik .i64) x2)]) [] []) (ref04_SameInts fu x1 x2) e26 := by
 unfold ref04_SameInts e26
 have da := d26_at
 conv => arg 1; simp only [bodyOf, Tryz.f26]
 have z0 := d26_at
 exact Wk
theorem ok26 (fu : Nat) (x1 : List Int) (x2 : List Int) (r) (h : ref04_SameInts fu x1 x2 = some r) : PureOK Tryz.prog 26 [.arr x1.length (lm (ik .i64) x1), .arr x2.length (lm (ik .i64) x2)] (e26 r) := pureT mixed [] (ids := []) rfl (by decide) i26 (C := noC) (ci := fun cp => noI) (fun cp ok => noI_ok) (fun cp H => w26 cp fu x1 x2 ) h
def d11 : List (Nat × List Nat) := [(0, [0, 1, 4]), (0, [5]), (0, [8, 9, 10, 11, 12, 13, 14, 15, 16, 17, 18, 19, 20, 21, 22, 23, 24, 25, 26, 27, 28, 29, 30, 31, 32, 33, 34, 35, 36, 37, 38, 39, 40, 41, 42, 43, 44, 45, 46]), (0, []), (0, []), (0, [6]), (0, []), (0, []), (0, [48, 49, 50, 51]), (0, [2, 3, 7]), (0, [53, 54]), (0, []), (11, [55, 56, 57, 58, 59, 60, 61, 62, 63, 64]), (0, []), (0, []), (0, []), (0, []), (0, []), (0, [66, 67, 68, 69]), (0, []), (0, [71, 72]), (0, []), (11, [73, 74, 75, 76, 77, 78, 79, 80, 81, 82]), (0, []), (0, []), (0, []), (0, []), (0, []), (0, [84, 85, 86, 87]), (0, []), (0, [89, 90]), (0, []), (11, [91, 92, 93, 94, 95, 96, 97, 98, 99, 100]), (0, []), (0, []), (0, []), (0, [])]
def d11_at := by have h := tabL d11.eq_1; simp only [AllAt, Nat.zero_add, Nat.reduceAdd] at h; exact h
theorem i11 : finfo Tryz.prog 11 d11 = some ⟨bodyOf Tryz.f11, [.tmp 4], [4]⟩ := finfo_at Tryz.func11 rfl (by kernel_rfl) (by kernel_rfl)
def e11 : Bool → AV := fun r => .v (.bool r)
structure K26 (fu : Nat) (cp : CallP) : Prop where
 ap : ∀ {a0 : List Int} {a1 : List Int} {r}, ref04_SameInts fu a0 a1 = some r → cp 26 [.arr a0.length (lm (ik .i64) a0), .arr a1.length (lm (ik .i64) a1)] = some (.v (.bool r))
noncomputable def C26 (fu : Nat) : Cm Tryz.prog ((List Int) × (List Int)) Bool := ⟨26, fun t => [.arr t.1.length (lm (ik .i64) t.1), .arr t.2.length (lm (ik .i64) t.2)], fun t => ref04_SameInts fu t.1 t.2, e26, fun t b h => ok26 fu t.1 t.2  b h, Zi⟩
theorem u26 {fu : Nat} {cp : CallP} (H : Hit cp (C26 fu).ct) : K26 fu cp := ⟨fun {a0 a1 r} h => (C26 fu).at H (a0, a1) r h⟩
def ref05_Same.m1 : LJ 1 28 Unit Int := ⟨fun r s e => [(2, er e 2), (3, er e 3), (7, .v (.int .i64 s))], fun r s h => [((0, 2, 0), hr h (0, 2, 0)), ((0, 3, 0), hr h (0, 3, 0))]⟩
def ref05_Same.m2 : LJ 2 18 Unit Int := ⟨fun r s e => [(2, er e 2), (3, er e 3), (6, .v (.int .i64 s))], fun r s h => [((0, 2, 0), hr h (0, 2, 0)), ((0, 3, 0), hr h (0, 3, 0))]⟩
def ref05_Same.j3 : LJ 3 26 Unit Unit := ⟨fun r t e => [(2, er e 2), (3, er e 3)], fun r t h => [((0, 2, 0), hr h (0, 2, 0)), ((0, 3, 0), hr h (0, 3, 0))]⟩
def ref05_Same.m3 : LJ 3 8 Unit Int := ⟨fun r s e => [(2, er e 2), (3, er e 3), (5, .v (.int .i64 s))], fun r s h => [((0, 2, 0), hr h (0, 2, 0)), ((0, 3, 0), hr h (0, 3, 0))]⟩
def ref05_Same.j2 : LJ 2 16 Unit Unit := ⟨fun r t e => [(2, er e 2), (3, er e 3)], fun r t h => [((0, 2, 0), hr h (0, 2, 0)), ((0, 3, 0), hr h (0, 3, 0))]⟩
def ref05_Same.j1 : LJ 1 6 Unit Unit := ⟨fun r t e => [(2, er e 2), (3, er e 3)], fun r t h => [((0, 2, 0), hr h (0, 2, 0)), ((0, 3, 0), hr h (0, 3, 0))]⟩
set_option maxHeartbeats 20000000 in
open ref05_Same in
theorem w11 (cp : CallP) (fu : Nat) (x1 : T_Tensor) (x2 : T_Tensor) (H1 : K26 fu cp) : J (go Tryz.prog noC cp noI 0 [] d11 fu (fin Tryz.prog [.tmp 4] [4]) (bodyOf Tryz.f11) (initE 0 [.agg (c_T_Tensor x1), .agg (c_T_Tensor x2)]) [] []) (ref05_Same fu x1 x2) e11 := by
 unfold ref05_Same e11
 have da := d11_at
 conv => arg 1; simp only [bodyOf, Tryz.f11]
 have z0 := d11_at
 exact Wk
theorem ok11 (fu : Nat) (x1 : T_Tensor) (x2 : T_Tensor) (r) (h : ref05_Same fu x1 x2 = some r) : PureOK Tryz.prog 11 [.agg (c_T_Tensor x1), .agg (c_T_Tensor x2)] (e11 r) := pureT mixed [(C26 fu).ct] (ids := [26]) rfl (by decide) i11 (C := noC) (ci := fun cp => noI) (fun cp ok => noI_ok) (fun cp H => w11 cp fu x1 x2 (u26 H.1)) h
def d6 : List (Nat × List Nat) := [(0, [0, 6]), (0, [1, 10, 13, 1000000011, 1000000012]), (0, [16]), (0, []), (18, [2, 17, 18, 19, 20, 21, 22, 23, 24, 25, 26, 27, 28, 29, 30, 31, 32]), (0, []), (0, [9, 33]), (0, []), (0, [35, 36, 37, 38, 39, 40]), (0, []), (0, [41, 42, 43]), (0, []), (0, [44, 45, 46, 47, 48, 49, 50, 51]), (0, []), (0, []), (0, []), (0, [1000011]), (0, []), (0, [1000012]), (0, []), (0, []), (0, []), (0, [53, 54]), (0, []), (0, [56, 57]), (0, []), (0, [58, 59, 60, 61, 62, 63, 64]), (0, []), (12, [65, 66, 67, 68, 69, 70, 71, 72, 73, 74, 75, 76, 77]), (0, []), (15, [8, 11, 12, 78, 79, 80, 81, 82, 83, 84, 85, 86, 87, 88, 89, 90]), (0, []), (19, [3, 7, 14, 15, 91, 92, 93, 94, 95, 96, 97, 98, 99, 100, 101, 102, 103, 104, 105, 106, 107, 108])]
def d6_at := by have h := tabL d6.eq_1; simp only [AllAt, Nat.zero_add, Nat.reduceAdd] at h; exact h
theorem i6 : finfo Tryz.prog 6 d6 = some ⟨bodyOf Tryz.f6, [.tmp 6], [4]⟩ := finfo_at Tryz.func6 rfl (by kernel_rfl) (by kernel_rfl)
def e6 : Bool → AV := fun r => .v (.bool r)
set_option maxHeartbeats 20000000 in
theorem w6 (cp : CallP) (fu : Nat) (x1 : T_Tensor) (x2 : List Int) (x3 : Int) (H9 : cp 9 [] = some (.v (.bool true))) (H13_0 : ∀ (a0 : List Int) r, law12_list fu a0 = some r → cp 13 [.arr a0.length (lm (ik .i64) a0)] = some (.agg [.v (.int .i64 r.fType), .arr r.fDims.length (lm (ik .i64) r.fDims), .arr r.fF.length (lm (ik .u32) r.fF), .arr r.fI.length (lm (ik .i64) r.fI), .arr r.fB.length (lm (bk) r.fB)])) (H10_0 : ∀ (a0 : Int) (a1 : T_Setting) (a2 : List T_Tensor) (a3 : Int) r, moves_Do fu a0 a1 a2 a3 = some r → cp 10 [.v (.int .i64 a0), .agg (c_T_Setting a1), .arr a2.length (fm c_T_Tensor a2), .v (.int .i64 a3)] = some (.tuple [.arr r.1.length (fm c_T_Tensor r.1), .v (.int .i64 r.2)])) (H12_0 : ∀ (a0 : T_Tensor) r, ref05_Canon fu a0 = some r → cp 12 [.agg (c_T_Tensor a0)] = some (.agg [.v (.int .i64 r.fType), .fresh 1 r.fDims.length (lm (ik .i64) r.fDims), .fresh 1 r.fF.length (lm (ik .u32) r.fF), .fresh 1 r.fI.length (lm (ik .i64) r.fI), .fresh 1 r.fB.length (lm (bk) r.fB)])) (H11_0 : ∀ (a0 : T_Tensor) (a1 : T_Tensor) r, ref05_Same fu a0 a1 = some r → cp 11 [.agg (c_T_Tensor a0), .agg (c_T_Tensor a1)] = some (.v (.bool r))) : J (go Tryz.prog noCs cp noI 0 [] d6 fu (fin Tryz.prog [.tmp 6] [4]) (bodyOf Tryz.f6) (initE 0 [.agg (c_T_Tensor x1), .arr x2.length (lm (ik .i64) x2), .v (.int .i64 x3)]) [] []) (law12_MovesPadded fu x1 x2 x3) e6 := by
 unfold law12_MovesPadded e6
 have da := d6_at
 refine J.bind fun x4 h1 => ?_
 have e_h1 := H13_0 _ _ h1
 try simp only [NN, NT, LN, simprocAttr, DT] at e_h1
 refine J.bind fun x5 h2 => ?_
 have e_h2 := H10_0 _ _ _ _ _ h2
 try simp only [NN, NT, LN, simprocAttr, DT] at e_h2
 conv => arg 1; simp (disch := first | exact Zd | fail) only [bodyOf, Tryz.f6, ZZ, d6_at, simprocAttr, aop_callC, aq_callC, H9, e_h1, e_h2]
 refine J.eq go_seq ?_
 conv => arg 1; simp (disch := first | exact Zd | fail) only [ZZ, d6_at, simprocAttr, aop_callC, aq_callC, H9, e_h1, e_h2]
 refine J.ite (fun h3 => ?_) (fun h3 => ?_)
 ·have h3' := decide_eq_true h3
  conv => arg 1; simp (disch := first | exact Zd | fail) only [ZZ, d6_at, simprocAttr, aop_callC, aq_callC, H9, e_h1, e_h2, h3']
  refine J.eq ret_seq ?_
  conv => arg 1; simp (disch := first | exact Zd | fail) only [ZZ, d6_at, simprocAttr, aop_callC, aq_callC, H9, e_h1, e_h2, h3']
  refine J.joinS (fun (t : Unit) => ([(1, .arr x2.length (lm (ik .i64) x2)), (3, .ptr (0, 3, 0) 0 0), (7, .v (.bool true)), (8, .arr x5.1.length (fm c_T_Tensor x5.1)), (10, .v (.int .i64 (x1.fDims.length : Int)))], [((0, 3, 0), .bx true ([.v (.int .i64 x1.fType), .arr x1.fDims.length (lm (ik .i64) x1.fDims), .arr x1.fF.length (lm (ik .u32) x1.fF), .arr x1.fI.length (lm (ik .i64) x1.fI), .arr x1.fB.length (lm (bk) x1.fB)]))])) (fun t => law12_MovesPadded.k1 fu x1 x2 x5) ?_ (fun hj1 => ?_)
  ·rintro ⟨⟩
   show J _ (law12_MovesPadded.k1 fu x1 x2 x5) _
   unfold law12_MovesPadded.k1
   conv => arg 1; simp (disch := first | exact Zd | fail) only [ZZ, d6_at, simprocAttr, aop_callC, aq_callC, H9, e_h1, e_h2, h3']
   refine J.joinS (fun (t : (List Int) × (List Int) × (List Int) × (List Int)) => ([(3, .ptr (0, 3, 0) 0 0), (7, .v (.bool true)), (8, .arr x5.1.length (fm c_T_Tensor x5.1)), (11, .arr t.2.2.1.length (lm (ik .i64) t.2.2.1)), (12, .arr t.2.2.2.length (lm (ik .i64) t.2.2.2))], [((0, 3, 0), .bx true ([.v (.int .i64 x1.fType), .arr x1.fDims.length (lm (ik .i64) x1.fDims), .arr x1.fF.length (lm (ik .u32) x1.fF), .arr x1.fI.length (lm (ik .i64) x1.fI), .arr x1.fB.length (lm (bk) x1.fB)])), ((0, 11, 77), .sl true false 1 t.1.length (lm (ik .i64) t.1)), ((0, 12, 77), .sl true false 1 t.2.1.length (lm (ik .i64) t.2.1))])) (fun t => law12_MovesPadded.k2 fu x1 x5 t.1 t.2.1 t.2.2.1 t.2.2.2) ?_ (fun hj2 => ?_)
   ·rintro ⟨x6, x7, x8, x9⟩
    show J _ (law12_MovesPadded.k2 fu x1 x5 x6 x7 x8 x9) _
    unfold law12_MovesPadded.k2
    refine J.at fun x10 h4 h5 h6 => ?_
    replace h6 : x5.1[0]? = some x10 := h6
    have h6k := fm_cut c_T_Tensor_len h6
    have h6f := fm_fit c_T_Tensor_len h6
    have h6a0 := fm_at (j := 0) c_T_Tensor_len h6 (by decide)
    have h6a1 := fm_at (j := 1) c_T_Tensor_len h6 (by decide)
    have h6a2 := fm_at (j := 2) c_T_Tensor_len h6 (by decide)
    have h6a3 := fm_at (j := 3) c_T_Tensor_len h6 (by decide)
    have h6a4 := fm_at (j := 4) c_T_Tensor_len h6 (by decide)
    simp only [simprocAttr, Nat.zero_mul, Nat.zero_add, Nat.add_zero, List.drop_zero] at h6k h6f h6a0 h6a1 h6a2 h6a3 h6a4
    refine J.bind fun x11 h7 => ?_
    have e_h7 := H13_0 _ _ h7
    try simp only [NN, NT, LN, simprocAttr, DT] at e_h7
    refine J.bind fun x12 h8 => ?_
    have e_h8 := H13_0 _ _ h8
    try simp only [NN, NT, LN, simprocAttr, DT] at e_h8
    refine J.bind fun x13 h9 => ?_
    have e_h9 := H10_0 _ _ _ _ _ h9
    try simp only [NN, NT, LN, simprocAttr, DT] at e_h9
    conv => arg 1; simp (disch := first | exact Zd | fail) only [ZZ, d6_at, simprocAttr, aop_callC, aq_callC, H9, e_h1, e_h2, h3', h6k, h6f, h6a0, h6a1, h6a2, h6a3, h6a4, e_h7, e_h8, e_h9]
    refine J.eq go_seq ?_
    conv => arg 1; simp (disch := first | exact Zd | fail) only [ZZ, d6_at, simprocAttr, aop_callC, aq_callC, H9, e_h1, e_h2, h3', h6k, h6f, h6a0, h6a1, h6a2, h6a3, h6a4, e_h7, e_h8, e_h9]
    refine J.ite (fun h10 => ?_) (fun h10 => ?_)
    ·have h10' := decide_eq_true h10
     conv => arg 1; simp (disch := first | exact Zd | fail) only [ZZ, d6_at, simprocAttr, aop_callC, aq_callC, H9, e_h1, e_h2, h3', h6k, h6f, h6a0, h6a1, h6a2, h6a3, h6a4, e_h7, e_h8, e_h9, h10']
     refine J.ite (fun h11 => ?_) (fun h11 => ?_)
     ·have h11' := decide_eq_true h11
      refine J.at fun x14 h12 h13 h14 => ?_
      replace h14 : x13.1[0]? = some x14 := h14
      have h14k := fm_cut c_T_Tensor_len h14
      have h14f := fm_fit c_T_Tensor_len h14
      have h14a0 := fm_at (j := 0) c_T_Tensor_len h14 (by decide)
      have h14a1 := fm_at (j := 1) c_T_Tensor_len h14 (by decide)
      have h14a2 := fm_at (j := 2) c_T_Tensor_len h14 (by decide)
      have h14a3 := fm_at (j := 3) c_T_Tensor_len h14 (by decide)
      have h14a4 := fm_at (j := 4) c_T_Tensor_len h14 (by decide)
      simp only [simprocAttr, Nat.zero_mul, Nat.zero_add, Nat.add_zero, List.drop_zero] at h14k h14f h14a0 h14a1 h14a2 h14a3 h14a4
      refine J.bind fun x15 h15 => ?_
      have e_h15 := H12_0 _ _ h15
      try simp only [NN, NT, LN, simprocAttr, DT] at e_h15
      refine J.bind fun x16 h16 => ?_
      have e_h16 := H11_0 _ _ _ h16
      try simp only [NN, NT, LN, simprocAttr, DT] at e_h16
      conv => arg 1; simp (disch := first | exact Zd | fail) only [ZZ, d6_at, simprocAttr, aop_callC, aq_callC, H9, e_h1, e_h2, h3', h6k, h6f, h6a0, h6a1, h6a2, h6a3, h6a4, e_h7, e_h8, e_h9, h10', h11', h14k, h14f, h14a0, h14a1, h14a2, h14a3, h14a4, e_h15, e_h16]
      refine J.eq ret_seq ?_
      refine J.some ?_
      simp (maxSteps := 20000000) (disch := first | exact Zd | fail) only [ZZ, d6_at, simprocAttr, aop_callC, aq_callC, H9, e_h1, e_h2, h3', h6k, h6f, h6a0, h6a1, h6a2, h6a3, h6a4, e_h7, e_h8, e_h9, h10', h11', h14k, h14f, h14a0, h14a1, h14a2, h14a3, h14a4, e_h15, e_h16, FN]
     ·have h11' := decide_eq_false h11
      conv => arg 1; simp (disch := first | exact Zd | fail) only [ZZ, d6_at, simprocAttr, aop_callC, aq_callC, H9, e_h1, e_h2, h3', h6k, h6f, h6a0, h6a1, h6a2, h6a3, h6a4, e_h7, e_h8, e_h9, h10', h11']
      refine J.eq ret_seq ?_
      refine J.some ?_
      simp (maxSteps := 20000000) (disch := first | exact Zd | fail) only [ZZ, d6_at, simprocAttr, aop_callC, aq_callC, H9, e_h1, e_h2, h3', h6k, h6f, h6a0, h6a1, h6a2, h6a3, h6a4, e_h7, e_h8, e_h9, h10', h11', FN]
    ·have h10' := decide_eq_false h10
     conv => arg 1; simp (disch := first | exact Zd | fail) only [ZZ, d6_at, simprocAttr, aop_callC, aq_callC, H9, e_h1, e_h2, h3', h6k, h6f, h6a0, h6a1, h6a2, h6a3, h6a4, e_h7, e_h8, e_h9, h10']
     refine J.eq ret_seq ?_
     refine J.some ?_
     simp (maxSteps := 20000000) (disch := first | exact Zd | fail) only [ZZ, d6_at, simprocAttr, aop_callC, aq_callC, H9, e_h1, e_h2, h3', h6k, h6f, h6a0, h6a1, h6a2, h6a3, h6a4, e_h7, e_h8, e_h9, h10', FN]
   ·refine J.hd jn_at ?_
    conv => arg 1; simp (disch := first | exact Zd | fail) only [ZZ, d6_at, simprocAttr, aop_callC, aq_callC, H9, e_h1, e_h2, h3']
    unfold law12_MovesPadded.W1
    refine J.loop (fun (s : (List Int) × (List Int) × Int) => ([(1, .arr x2.length (lm (ik .i64) x2)), (3, .ptr (0, 3, 0) 0 0), (7, .v (.bool true)), (8, .arr x5.1.length (fm c_T_Tensor x5.1)), (10, .v (.int .i64 (x1.fDims.length : Int))), (11, .own (0, 11, 77) 0 s.1.length s.1.length), (12, .own (0, 12, 77) 0 s.2.1.length s.2.1.length), (13, .v (.int .i64 s.2.2))], [((0, 3, 0), .bx true ([.v (.int .i64 x1.fType), .arr x1.fDims.length (lm (ik .i64) x1.fDims), .arr x1.fF.length (lm (ik .u32) x1.fF), .arr x1.fI.length (lm (ik .i64) x1.fI), .arr x1.fB.length (lm (bk) x1.fB)])), ((0, 11, 77), .sl true true 1 s.1.length (lm (ik .i64) s.1)), ((0, 12, 77), .sl true true 1 s.2.1.length (lm (ik .i64) s.2.1))])) (fun next s => law12_MovesPadded.L1 fu x1 x2 x5 (fun x19 x20 x21 => next (x19, x20, x21)) s.1 s.2.1 s.2.2) (s0 := (([] : List Int), ([] : List Int), 0)) ?_ ?_ ?_
    ·exact Ze
    ·exact Zh
    rintro next k1 hn1 ⟨x19, x20, x21⟩
    let nx1 : (List Int) → (List Int) → Int → Option Bool := (fun x19 x20 x21 => next (x19, x20, x21))
    show J _ (law12_MovesPadded.L1 fu x1 x2 x5 nx1 x19 x20 x21) _
    unfold law12_MovesPadded.L1
    refine J.eq go_seq ?_
    conv => arg 1; simp (disch := first | exact Zd | fail) only [ZZ, d6_at, simprocAttr, aop_callC, aq_callC, H9, e_h1, e_h2, h3']
    refine J.ite (fun h17 => ?_) (fun h17 => ?_)
    ·have h17' := decide_eq_true h17
     have h17'' : decide ((x1.fDims.length : Int) ≤ x21) = false := decide_eq_false (by omega)
     conv => arg 1; simp (disch := first | exact Zd | fail) only [ZZ, d6_at, simprocAttr, aop_callC, aq_callC, H9, e_h1, e_h2, h3', h17'', h17']
     refine J.eq ret_seq ?_
     refine J.eq go_seq ?_
     refine J.at fun x24 h18 h19 h20 => ?_
     refine J.chk fun h21 => ?_
     refine J.at fun x25 h22 h23 h24 => ?_
     refine J.chk fun h25 => ?_
     conv => arg 1; simp (disch := first | exact Zd | fail) only [ZZ, d6_at, simprocAttr, aop_callC, aq_callC, H9, e_h1, e_h2, h3', h17'', h17', lm_ik h20, lm_ik h24]
     refine J.eq ret_seq ?_
     conv => arg 1; simp (disch := first | exact Zd | fail) only [ZZ, d6_at, simprocAttr, aop_callC, aq_callC, H9, e_h1, e_h2, h3', h17'', h17', lm_ik h20, lm_ik h24]
     refine J.next (s := (x19 ++ ([x24]), x20 ++ ([wk .i64 (x24 + x25)]), wk .i64 (x21 + 1))) hn1 ?_ ?_
     ·exact Ze
     ·exact Zh
    ·have h17' := decide_eq_false h17
     have h17'' : decide ((x1.fDims.length : Int) ≤ x21) = true := decide_eq_true (by omega)
     conv => arg 1; simp (disch := first | exact Zd | fail) only [ZZ, d6_at, simprocAttr, aop_callC, aq_callC, H9, e_h1, e_h2, h3', h17'', h17']
     refine J.jmp (t := (x19, x20, x19, x20)) hj2 ?_ ?_
     ·exact Ze
     ·exact Zh
  ·refine J.hd jn_at ?_
   refine J.eq go_seq ?_
   conv => arg 1; simp (disch := first | exact Zd | fail) only [ZZ, d6_at, simprocAttr, aop_callC, aq_callC, H9, e_h1, e_h2, h3']
   refine J.ite (fun h26 => ?_) (fun h26 => ?_)
   ·have h26' := decide_eq_true h26
    conv => arg 1; simp (disch := first | exact Zd | fail) only [ZZ, d6_at, simprocAttr, aop_callC, aq_callC, H9, e_h1, e_h2, h3', h26']
    refine J.eq ret_seq ?_
    conv => arg 1; simp (disch := first | exact Zd | fail) only [ZZ, d6_at, simprocAttr, aop_callC, aq_callC, H9, e_h1, e_h2, h3', h26']
    refine J.ite (fun h27 => ?_) (fun h27 => ?_)
    ·have h27' := decide_eq_true h27
     have h27'' : decide ((x1.fDims.length : Int) ≤ (x2.length : Int)) = false := decide_eq_false (by omega)
     refine J.some ?_
     simp (maxSteps := 20000000) (disch := first | exact Zd | fail) only [ZZ, d6_at, simprocAttr, aop_callC, aq_callC, H9, e_h1, e_h2, h3', h26', h27'', h27', FN]
    ·have h27' := decide_eq_false h27
     have h27'' : decide ((x1.fDims.length : Int) ≤ (x2.length : Int)) = true := decide_eq_true (by omega)
     conv => arg 1; simp (disch := first | exact Zd | fail) only [ZZ, d6_at, simprocAttr, aop_callC, aq_callC, H9, e_h1, e_h2, h3', h26', h27'', h27']
     refine J.jmp (t := ()) hj1 ?_ ?_
     ·exact Ze
     ·exact Zh
   ·have h26' := decide_eq_false h26
    conv => arg 1; simp (disch := first | exact Zd | fail) only [ZZ, d6_at, simprocAttr, aop_callC, aq_callC, H9, e_h1, e_h2, h3', h26']
    refine J.eq ret_seq ?_
    refine J.some ?_
    simp (maxSteps := 20000000) (disch := first | exact Zd | fail) only [ZZ, d6_at, simprocAttr, aop_callC, aq_callC, H9, e_h1, e_h2, h3', h26', FN]
 ·have h3' := decide_eq_false h3
  conv => arg 1; simp (disch := first | exact Zd | fail) only [ZZ, d6_at, simprocAttr, aop_callC, aq_callC, H9, e_h1, e_h2, h3']
  refine J.joinS (fun (t : Unit) => ([(1, .arr x2.length (lm (ik .i64) x2)), (3, .ptr (0, 3, 0) 0 0), (6, .v (.bool (decide ((x5.1.length : Int) = 0)))), (7, .v (.bool true)), (8, .arr x5.1.length (fm c_T_Tensor x5.1))], [((0, 3, 0), .bx true ([.v (.int .i64 x1.fType), .arr x1.fDims.length (lm (ik .i64) x1.fDims), .arr x1.fF.length (lm (ik .u32) x1.fF), .arr x1.fI.length (lm (ik .i64) x1.fI), .arr x1.fB.length (lm (bk) x1.fB)]))])) (fun t => law12_MovesPadded.k3 fu x5) ?_ (fun hj3 => ?_)
  ·rintro ⟨⟩
   show J _ (law12_MovesPadded.k3 fu x5) _
   unfold law12_MovesPadded.k3
   refine J.some ?_
   simp (maxSteps := 20000000) (disch := first | exact Zd | fail) only [ZZ, d6_at, simprocAttr, aop_callC, aq_callC, H9, e_h1, e_h2, h3', FN]
  ·refine J.hd jn_at ?_
   conv => arg 1; simp (disch := first | exact Zd | fail) only [ZZ, d6_at, simprocAttr, aop_callC, aq_callC, H9, e_h1, e_h2, h3']
   refine J.jmp (t := ()) hj3 ?_ ?_
   ·exact Ze
   ·exact Zh
noncomputable def t6 (fu : Nat) : CallP := orE 9 (mkC (fun (_ : Unit) => ([] : List AV)) (fun _ => some true) (fun b => .v (.bool b))) (orE 13 (mkC (fun (t : List Int) => ([.arr t.length (lm (ik .i64) t)] : List AV)) (fun t => law12_list fu t) e13) (orE 10 (mkC (fun (t : Int × T_Setting × (List T_Tensor) × Int) => ([.v (.int .i64 t.1), .agg (c_T_Setting t.2.1), .arr t.2.2.1.length (fm c_T_Tensor t.2.2.1), .v (.int .i64 t.2.2.2)] : List AV)) (fun t => moves_Do fu t.1 t.2.1 t.2.2.1 t.2.2.2) e10) (orE 12 (mkC (fun (t : T_Tensor) => ([.agg (c_T_Tensor t)] : List AV)) (fun t => ref05_Canon fu t) e12) (orE 11 (mkC (fun (t : T_Tensor × T_Tensor) => ([.agg (c_T_Tensor t.1), .agg (c_T_Tensor t.2)] : List AV)) (fun t => ref05_Same fu t.1 t.2) e11) (noP)))))
theorem t6_ok (fu : Nat) : CpOK Tryz.prog (t6 fu ) := orE_ok (orE_ok (orE_ok (orE_ok (orE_ok (noP_ok) (mkC_ok (fun t b h => ok11 fu t.1 t.2  b h))) (mkC_ok (fun t b h => ok12 fu t  b h))) (mkC_ok (fun t b h => ok10 fu t.1 t.2.1 t.2.2.1 t.2.2.2  b h))) (mkC_ok (fun t b h => ok13 fu t  b h))) (mkC_ok (fun _ b h => by injection h with h; subst h; exact awake9))
theorem ok6 (fu : Nat) (x1 : T_Tensor) (x2 : List Int) (x3 : Int) (r) (h : law12_MovesPadded fu x1 x2 x3 = some r) : PureOK Tryz.prog 6 [.agg (c_T_Tensor x1), .arr x2.length (lm (ik .i64) x2), .v (.int .i64 x3)] (e6 r) :=
  pure_J mixed (cp := t6 fu ) (t6_ok fu  ) noI_ok i6 (w6 _ fu x1 x2 x3  (orE_hit (mkC_at (a := ()) (fun _ _ _ => rfl) rfl)) (fun a0 r h => orE_miss (by decide) (orE_hit (mkC_at (a := a0) (by intro a b h; first | (exact rfl) | (simp only [INJ, IJ] at h; first | exact h | (simp_all [Prod.ext_iff]) )) h))) (fun a0 a1 a2 a3 r h => orE_miss (by decide) (orE_miss (by decide) (orE_hit (mkC_at (a := (a0, a1, a2, a3)) (by intro a b h; first | (exact rfl) | (simp only [INJ, IJ] at h; first | exact h | (simp_all [Prod.ext_iff]) )) h)))) (fun a0 r h => orE_miss (by decide) (orE_miss (by decide) (orE_miss (by decide) (orE_hit (mkC_at (a := a0) (by intro a b h; first | (exact rfl) | (simp only [INJ, IJ] at h; first | exact h | (simp_all [Prod.ext_iff]) )) h))))) (fun a0 a1 r h => orE_miss (by decide) (orE_miss (by decide) (orE_miss (by decide) (orE_miss (by decide) (orE_hit (mkC_at (a := (a0, a1)) (by intro a b h; first | (exact rfl) | (simp only [INJ, IJ] at h; first | exact h | (simp_all [Prod.ext_iff]) )) h))))))) h
end Go.Av
