/- Plain functions, as the program has them; data of structs. Made by a program of mine. Conditions: none. -/
import Derived.Test.YteafmomjfnlkgaaGreatAu
set_option linter.unusedVariables false
namespace Go.Av
structure T_Tensor where
  fType : Int
  fDims : List Int
  fF : List Int
  fI : List Int
  fB : List Bool
def c_T_Tensor (x : T_Tensor) : List AV := [.v (.int .i64 x.fType), .arr x.fDims.length (lm (ik .i64) x.fDims), .arr x.fF.length (lm (ik .u32) x.fF), .arr x.fI.length (lm (ik .i64) x.fI), .arr x.fB.length (lm (bk) x.fB)]
theorem c_T_Tensor_len : ∀ x, (c_T_Tensor x).length = 5 := fun _ => rfl
theorem c_T_Tensor_one : ∀ x, (c_T_Tensor x).all AV.one = true := fun _ => rfl
structure T_Val where
  fType : Int
  fDims : List Int
  fConst : Bool
  fT : T_Tensor
def c_T_Val (x : T_Val) : List AV := [.v (.int .i64 x.fType), .arr x.fDims.length (lm (ik .i64) x.fDims), .v (.bool x.fConst), .v (.int .i64 x.fT.fType), .arr x.fT.fDims.length (lm (ik .i64) x.fT.fDims), .arr x.fT.fF.length (lm (ik .u32) x.fT.fF), .arr x.fT.fI.length (lm (ik .i64) x.fT.fI), .arr x.fT.fB.length (lm (bk) x.fT.fB)]
theorem c_T_Val_len : ∀ x, (c_T_Val x).length = 8 := fun _ => rfl
theorem c_T_Val_one : ∀ x, (c_T_Val x).all AV.one = true := fun _ => rfl
def ref05_Copy (fu : Nat) (x1 : T_Tensor) : Option T_Tensor :=
  chk ((x1.fDims.length : Int) * 8 ≤ 140737488355328) <| chk ((x1.fF.length : Int) * 4 ≤ 140737488355328) <| chk ((x1.fI.length : Int) * 8 ≤ 140737488355328) <| chk ((x1.fB.length : Int) * 1 ≤ 140737488355328) <| some x1
def ref11_Vals.L1 (fu : Nat) (x1 : List T_Tensor) (nx1 : (List T_Val) → Int → Option (List T_Val)) (x4 : List T_Val) (x5 : Int) : Option (List T_Val) :=
  if x5 < (x1.length : Int) then ((at? x1 x5).bind fun x8 => if x8.fType = 0 then (chk ((x4.length + 1 : Int) * 144 ≤ 140737488355328) <| nx1 (x4 ++ ([T_Val.mk 0 ([]) false (T_Tensor.mk 0 ([]) ([]) ([]) ([]))])) (wk .i64 (x5 + 1))) else (ref05_Copy fu x8).bind fun x9 => chk ((x8.fDims.length : Int) * 8 ≤ 140737488355328) <| chk ((x4.length + 1 : Int) * 144 ≤ 140737488355328) <| nx1 (x4 ++ ([T_Val.mk x8.fType x8.fDims true x9])) (wk .i64 (x5 + 1))) else some x4
def ref11_Vals.W1 (fu : Nat) (x1 : List T_Tensor) (x4 : List T_Val) (x5 : Int) : Option (List T_Val) :=
  cloop (fun next s => ref11_Vals.L1 fu x1 (fun x4 x5 => next (x4, x5)) s.1 s.2) fu (x4, x5)
def ref11_Vals (fu : Nat) (x1 : List T_Tensor) : Option (List T_Val) :=
  ref11_Vals.W1 fu x1 ([] : List T_Val) 0
def ref04_SameInts.L1 (fu : Nat) (x1 : List Int) (x2 : List Int) (nx1 : Int → Option Bool) (x5 : Int) : Option Bool :=
  if x5 < (x1.length : Int) then ((at? x1 x5).bind fun x8 => (at? x2 x5).bind fun x9 => if x8 = x9 then (nx1 (wk .i64 (x5 + 1))) else some false) else some true
def ref04_SameInts.W1 (fu : Nat) (x1 : List Int) (x2 : List Int) (x5 : Int) : Option Bool :=
  cloop (fun next s => ref04_SameInts.L1 fu x1 x2 next s) fu x5
def ref04_SameInts (fu : Nat) (x1 : List Int) (x2 : List Int) : Option Bool :=
  if (x1.length : Int) = (x2.length : Int) then (ref04_SameInts.W1 fu x1 x2 0) else some false
def ref05_Same.L1 (fu : Nat) (x1 : T_Tensor) (x2 : T_Tensor) (nx1 : Int → Option Bool) (x5 : Int) : Option Bool :=
  if x5 < (x1.fB.length : Int) then ((at? x1.fB x5).bind fun x8 => (at? x2.fB x5).bind fun x9 => if (x8 == x9) = true then (nx1 (wk .i64 (x5 + 1))) else some false) else some true
def ref05_Same.W1 (fu : Nat) (x1 : T_Tensor) (x2 : T_Tensor) (x5 : Int) : Option Bool :=
  cloop (fun next s => ref05_Same.L1 fu x1 x2 next s) fu x5
def ref05_Same.k3 (fu : Nat) (x1 : T_Tensor) (x2 : T_Tensor) : Option Bool :=
  ref05_Same.W1 fu x1 x2 0
def ref05_Same.L2 (fu : Nat) (x1 : T_Tensor) (x2 : T_Tensor) (nx2 : Int → Option Bool) (x12 : Int) : Option Bool :=
  if x12 < (x1.fI.length : Int) then ((at? x1.fI x12).bind fun x15 => (at? x2.fI x12).bind fun x16 => if x15 = x16 then (nx2 (wk .i64 (x12 + 1))) else some false) else ref05_Same.k3 fu x1 x2
def ref05_Same.W2 (fu : Nat) (x1 : T_Tensor) (x2 : T_Tensor) (x12 : Int) : Option Bool :=
  cloop (fun next s => ref05_Same.L2 fu x1 x2 next s) fu x12
def ref05_Same.k2 (fu : Nat) (x1 : T_Tensor) (x2 : T_Tensor) : Option Bool :=
  jn 3 () (fun (t : Unit) => ref05_Same.k3 fu x1 x2) <| ref05_Same.W2 fu x1 x2 0
def ref05_Same.L3 (fu : Nat) (x1 : T_Tensor) (x2 : T_Tensor) (nx3 : Int → Option Bool) (x19 : Int) : Option Bool :=
  if x19 < (x1.fF.length : Int) then ((at? x1.fF x19).bind fun x22 => (at? x2.fF x19).bind fun x23 => if x22 = x23 then (nx3 (wk .i64 (x19 + 1))) else some false) else ref05_Same.k2 fu x1 x2
def ref05_Same.W3 (fu : Nat) (x1 : T_Tensor) (x2 : T_Tensor) (x19 : Int) : Option Bool :=
  cloop (fun next s => ref05_Same.L3 fu x1 x2 next s) fu x19
def ref05_Same.k1 (fu : Nat) (x1 : T_Tensor) (x2 : T_Tensor) : Option Bool :=
  jn 2 () (fun (t : Unit) => ref05_Same.k2 fu x1 x2) <| ref05_Same.W3 fu x1 x2 0
def ref05_Same (fu : Nat) (x1 : T_Tensor) (x2 : T_Tensor) : Option Bool :=
  jn 1 () (fun (t : Unit) => ref05_Same.k1 fu x1 x2) <| if x1.fType = x2.fType then ((ref04_SameInts fu x1.fDims x2.fDims).bind fun x24 => if x24 = true then (if (x1.fF.length : Int) = (x2.fF.length : Int) then (if (x1.fI.length : Int) = (x2.fI.length : Int) then (if (x1.fB.length : Int) = (x2.fB.length : Int) then (ref05_Same.k1 fu x1 x2) else some false) else some false) else some false) else some false) else some false
def slices_Clone_int (fu : Nat) (x1 : List Int) : Option (List Int) :=
  chk ((x1.length : Int) * 8 ≤ 140737488355328) <| some x1
def tens_own_int (fu : Nat) (x1 : List Int) : Option (List Int) :=
  chk ((x1.length : Int) * 8 ≤ 140737488355328) <| some x1
def tens_own_uint32 (fu : Nat) (x1 : List Int) : Option (List Int) :=
  chk ((x1.length : Int) * 4 ≤ 140737488355328) <| some x1
def tens_own_int64 (fu : Nat) (x1 : List Int) : Option (List Int) :=
  chk ((x1.length : Int) * 8 ≤ 140737488355328) <| some x1
def tens_own_bool (fu : Nat) (x1 : List Bool) : Option (List Bool) :=
  chk ((x1.length : Int) * 1 ≤ 140737488355328) <| some x1
def tens_Copy (fu : Nat) (x1 : T_Tensor) : Option T_Tensor :=
  (tens_own_int fu x1.fDims).bind fun x2 => (tens_own_uint32 fu x1.fF).bind fun x3 => (tens_own_int64 fu x1.fI).bind fun x4 => (tens_own_bool fu x1.fB).bind fun x5 => some (T_Tensor.mk x1.fType x2 x3 x4 x5)
end Go.Av
