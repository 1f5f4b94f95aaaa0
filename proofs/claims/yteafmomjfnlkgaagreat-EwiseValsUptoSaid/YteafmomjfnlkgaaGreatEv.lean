/- A small interpreter for the loaded program: slices, structs and closures as plain data; what a function owns stands in a list of named rows. Conditions: none; this file only defines it. -/
import GoSem.Claim
import Derived.WalkKit
import Derived.StillTail
namespace Go.Av
abbrev Id := Nat × Nat × Nat
inductive AV where
  | v (x : Value)
  | arr (n : Nat) (xs : List AV)
  | own (id : Id) (off n ext : Nat)
  | ptr (id : Id) (off ext : Nat)
  | ref (xs : List AV) (off : Nat)
  | fn (f : FuncId) (first captured : List AV)
  | agg (xs : List AV)
  | tuple (xs : List AV)
  | fresh (sz n : Nat) (xs : List AV)
  | freshO (sz n : Nat) (xs : List AV)
  | newbx (xs : List AV)
  deriving Inhabited
inductive Blk where
  | sl (cl rw : Bool) (sz ext : Nat) (cells : List AV)
  | bx (rw : Bool) (cells : List AV)
  deriving Inhabited
def Blk.ext : Blk → Nat
  | .sl _ _ _ n _ => n
  | .bx _ _ => 0
def Blk.rw : Blk → Bool
  | .sl _ r _ _ _ => r
  | .bx r _ => r
def Blk.cells : Blk → List AV
  | .sl _ _ _ _ xs => xs
  | .bx _ xs => xs
def Blk.freeze : Blk → Blk
  | .sl c _ s n xs => .sl c false s n xs
  | .bx _ xs => .bx false xs
abbrev Env := List (Nat × AV)
abbrev Heap := List (Id × Blk)
def Env.get : Env → Nat → Option AV
  | [], _ => none
  | (j, x) :: e, k => if j = k then some x else Env.get e k
def Env.set : Env → Nat → AV → Env
  | [], k, y => [(k, y)]
  | (j, x) :: e, k, y => if j = k then (j, y) :: e else if k < j then (k, y) :: (j, x) :: e else (j, x) :: Env.set e k y
def memN : List Nat → Nat → Bool
  | [], _ => false
  | j :: l, k => if j = k then true else memN l k
def Env.drop (ds : List Nat) : Env → Env
  | [] => []
  | (j, x) :: e => if memN ds j = true then Env.drop ds e else (j, x) :: Env.drop ds e
def Heap.get : Heap → Id → Option Blk
  | [], _ => none
  | (j, x) :: h, k => if j = k then some x else Heap.get h k
def Heap.set : Heap → Id → Blk → Heap
  | [], k, y => [(k, y)]
  | (j, x) :: h, k, y => if j = k then (j, y) :: h else (j, x) :: Heap.set h k y
def Heap.new (h : Heap) (k : Id) (y : Blk) : Option Heap :=
  match Heap.get h k with
  | none => some (Heap.set h k y)
  | some _ => none
def lift : Value → AV
  | .agg ⟨cs⟩ => .agg (cs.map .v)
  | .func (.func f) ⟨[]⟩ ⟨[]⟩ => .fn f [] []
  | x => .v x
def AV.isC : AV → Bool
  | .v (.slice _ _ _) => false
  | .v _ => true
  | .arr _ _ => true
  | .ref _ _ => true
  | _ => false
def AV.cells : AV → List AV
  | .agg xs => xs
  | x => [x]
def AV.one : AV → Bool
  | .v (.agg _) => false
  | .v (.tuple _) => false
  | .v _ => true
  | .arr _ _ => true
  | .own _ _ _ _ => true
  | .ptr _ _ _ => true
  | .ref _ _ => true
  | .fn _ _ _ => true
  | _ => false
section
variable (P : Program)
def tsize (t : TypeId) : Nat := P.cellsOf t
def tzero (t : TypeId) : Option (List AV) := ((P.info? t).bind (·.zero)).map fun z => z.cells.toList.map .v
inductive TV where
  | slice (e : TypeId) (sz bytes : Nat)
  | array (n : Nat) (e : TypeId) (sz : Nat)
  | struct
  | str
  | int (k : IntKind)
  | bool
  | other
def tview (t : TypeId) : Option TV :=
  match P.underlying t with
  | some (.slice e) => (P.info? e).map fun i => .slice e i.size i.bytes
  | some (.array n e) => (P.info? e).map fun i => .array n e i.size
  | some (.struct fs) => if fs.all (fun f => (P.info? f.type).isSome) = true then some .struct else none
  | some .string => some .str
  | some (.int k) => some (.int k)
  | some .bool => some .bool
  | some _ => some .other
  | none => none
def fieldOf (s : TypeId) (i : Nat) : Option (Nat × TypeId) :=
  match P.underlying s with
  | some (.struct fs) => (fs[i]?).map fun f => (f.offset, f.type)
  | _ => none
def sliceCells : Nat → TypeId → List Nat
  | 0, _ => []
  | d + 1, t => match P.underlying t with
    | some (.slice e) => [tsize P e + 1]
    | some (.struct fs) => (fs.toList.map fun f => sliceCells d f.type).flatten
    | some (.array n e) => (List.replicate n (sliceCells d e)).flatten
    | _ => [0]
def intCmpA (op : BinOp) (a b : Int) : Option Bool :=
  match op with
  | .eql => some (a == b)
  | .neq => some (a != b)
  | .lss => some (decide (a < b))
  | .leq => some (decide (a ≤ b))
  | .gtr => some (decide (a > b))
  | .geq => some (decide (a ≥ b))
  | _ => none
def bitsA (op : BinOp) (k : IntKind) (a b : Int) : Option Int :=
  match op with
  | .and => some (k.wrap (BitVec.ofInt k.bits a &&& BitVec.ofInt k.bits b).toNat)
  | .or => some (k.wrap (BitVec.ofInt k.bits a ||| BitVec.ofInt k.bits b).toNat)
  | .xor => some (k.wrap (BitVec.ofInt k.bits a ^^^ BitVec.ofInt k.bits b).toNat)
  | .andNot => some (k.wrap (BitVec.ofInt k.bits a &&& ~~~BitVec.ofInt k.bits b).toNat)
  | _ => none
def arithA (op : BinOp) (k : IntKind) (a b : Int) : Option Int :=
  match op with
  | .add => some (k.wrap (a + b))
  | .sub => some (k.wrap (a - b))
  | .mul => some (k.wrap (a * b))
  | .quo => if b = 0 then none else some (k.wrap (a.tdiv b))
  | .rem => if b = 0 then none else some (a.tmod b)
  | op => bitsA op k a b
def shA (op : BinOp) (k : IntKind) (a b : Int) : Option Int :=
  match op with
  | .shl => if b < 0 then none else some (k.wrap (a * 2 ^ (min b.toNat k.bits)))
  | .shr => if b < 0 then none else some (a.fdiv (2 ^ (min b.toNat k.bits)))
  | _ => none
def BinOp.isSh : BinOp → Bool
  | .shl => true | .shr => true | _ => false
def BinOp.isCmp : BinOp → Bool
  | .eql => true | .neq => true | .lss => true | .leq => true | .gtr => true | .geq => true | _ => false
def abinI (op : BinOp) (k k' : IntKind) (a b : Int) : Option AV :=
  if BinOp.isSh op = true then (shA op k a b).bind fun r => some (.v (.int k r))
  else if k = k' then
    if BinOp.isCmp op = true then (intCmpA op a b).bind fun r => some (.v (.bool r)) else (arithA op k a b).bind fun r => some (.v (.int k r))
  else none
def abinB (op : BinOp) (a b : Bool) : Option AV :=
  match op with
  | .eql => some (.v (.bool (a == b)))
  | .neq => some (.v (.bool (!(a == b))))
  | _ => none
def anil (op : BinOp) (b : Bool) : Option AV :=
  match op with
  | .eql => some (.v (.bool b))
  | .neq => some (.v (.bool (!b)))
  | _ => none
def aun (op : UnOp) (x : AV) : Option AV :=
  match op, x with
  | .not, .v (.bool b) => some (.v (.bool !b))
  | .neg, .v (.int k n) => some (.v (.int k (k.wrap (0 - n))))
  | .xor, .v (.int k n) => (bitsA .xor k (if k.signed then -1 else k.max) n).bind fun r => some (.v (.int k r))
  | _, _ => none
def cut (cells : List AV) (off n sz ext : Nat) : List AV :=
  if off = 0 ∧ n = ext then cells else (cells.drop off).take (n * sz)
def alen (x : AV) : Option Nat :=
  match x with
  | .arr n _ => some n
  | .own _ _ n _ => some n
  | .v (.slice none 0 _) => some 0
  | _ => none
def part (cells : List AV) (t : TypeId) (off : Nat) : Option AV :=
  (tview P t).bind fun tv => match tv with
  | .struct => if off + tsize P t ≤ cells.length then some (.agg ((cells.drop off).take (tsize P t))) else none
  | .array _ _ _ => if off + tsize P t ≤ cells.length then some (.agg ((cells.drop off).take (tsize P t))) else none
  | _ => cells[off]?
def aeqL (f : Nat → Option Bool) : List Nat → Option Bool
  | [] => some true
  | i :: l => (f i).bind fun b => if b = true then aeqL f l else some false
def aeqF (f : Field → Option Bool) : List Field → Option Bool
  | [] => some true
  | x :: l => (f x).bind fun b => (aeqF f l).bind fun c => some (b && c)
def aeq (P : Program) : Nat → TypeId → AV → AV → Option Bool
  | 0, _, _, _ => none
  | d + 1, t, x, y => (tview P t).bind fun tv => match tv, x, y with
    | .int _, .v (.int k a), .v (.int k' b) => if k = k' then some (a == b) else none
    | .array n el sz, .agg xs, .agg ys => aeqL (fun i => (part P xs el (i * sz)).bind fun a => (part P ys el (i * sz)).bind fun b => aeq P d el a b) (List.range n)
    | .struct, .agg xs, .agg ys => match P.underlying t with
      | some (.struct fs) => if P.stoodInHeld t = false ∧ fs.toList.all (fun f => f.name != "_") = true then aeqF (fun f => (part P xs f.type f.offset).bind fun a => (part P ys f.type f.offset).bind fun b => aeq P d f.type a b) fs.toList else none
      | _ => none
    | _, _, _ => none
def abin (op : BinOp) (t : TypeId) (x y : AV) : Option AV :=
  match x, y with
  | .v (.int k a), .v (.int k' b) => abinI op k k' a b
  | .v (.bool a), .v (.bool b) => (tview P t).bind fun tv => match tv with
    | .bool => abinB op a b
    | _ => none
  | .v (.slice a _ _), .v (.slice none _ _) => (tview P t).bind fun tv => match tv with
    | .slice _ _ _ => anil op a.isNone
    | _ => none
  | .arr n _, .v (.slice none _ _) => if n = 0 then none else (tview P t).bind fun tv => match tv with
    | .slice _ _ _ => anil op false
    | _ => none
  | .agg xs, .agg ys => match op with
    | .eql => if P.eqGuardType P.depth t = false then (aeq P 4 t (.agg xs) (.agg ys)).bind fun b => some (.v (.bool b)) else none
    | _ => none
  | _, _ => none
def aload (g : Id → Option Blk) (t : TypeId) (x : AV) : Option AV :=
  match x with
  | .ptr id off ext => (g id).bind fun b => if b.ext = ext then part P b.cells t off else none
  | .ref xs off => part P xs t off
  | _ => none
def putCells (cells : List AV) (off : Nat) : List AV → List AV
  | [] => cells
  | x :: xs => putCells (cells.set off x) (off + 1) xs
def live (g : Id → Option Blk) (id : Id) (ext : Nat) : Bool :=
  match g id with
  | some b => b.ext == ext
  | none => false
def afield (s : TypeId) (g : Id → Option Blk) (x : AV) (i : Nat) : Option AV :=
  (fieldOf P s i).bind fun (o, t) => if tsize P t = 0 then none else
    match x with
    | .ptr id off ext => if live g id ext = true then some (.ptr id (off + o) ext) else none
    | .ref xs off => some (.ref xs (off + o))
    | _ => none
def aindexAddr (t : TypeId) (g : Id → Option Blk) (x : AV) (i : Int) : Option AV :=
  (tview P t).bind fun tv => match tv, x with
  | .slice _ sz _, .arr n xs => if 0 ≤ i ∧ i < n then some (.ref xs (i.toNat * sz)) else none
  | .slice _ sz _, .own id off n ext => (g id).bind fun b =>
    match b with
    | .sl _ _ sz' ext' _ => if sz' = sz ∧ ext' = ext ∧ 0 ≤ i ∧ i < n then some (.ptr id (off + i.toNat * sz) ext) else none
    | _ => none
  | .array n _ sz, .ptr id off ext => if live g id ext = true ∧ 0 ≤ i ∧ i < n then some (.ptr id (off + i.toNat * sz) ext) else none
  | .array n _ sz, .ref xs off => if 0 ≤ i ∧ i < n then some (.ref xs (off + i.toNat * sz)) else none
  | _, _ => none
def aindex (t : TypeId) (x : AV) (i : Int) : Option AV :=
  (tview P t).bind fun tv => match tv, x with
  | .array n e sz, .agg xs => if 0 ≤ i ∧ i < n then part P xs e (i.toNat * sz) else none
  | .str, .v (.string s) => if 0 ≤ i then (s[i.toNat]?).bind fun b => some (.v (.int .u8 b.toNat)) else none
  | _, _ => none
def afill (place : Nat → Option (Nat × Nat)) (cells : List AV) : List (Nat × AV) → Option (List AV)
  | [] => some cells
  | (i, x) :: rest => (place i).bind fun (off, size) =>
    if x.cells.length = size ∧ off + size ≤ cells.length ∧ x.cells.all AV.one = true then afill place (putCells cells off x.cells) rest else none
def abuild (t : TypeId) (parts : List (Nat × AV)) : Option AV :=
  (tzero P t).bind fun z => (tview P t).bind fun tv => match tv with
  | .struct => (afill (fun i => (fieldOf P t i).map fun (o, ft) => (o, tsize P ft)) z parts).bind fun xs => some (.agg xs)
  | .array _ _e sz => (afill (fun i => some (i * sz, sz)) z parts).bind fun xs => some (.agg xs)
  | _ => none
def abuildSlice (t : TypeId) (len : Nat) (parts : List (Nat × AV)) : Option AV :=
  (tview P t).bind fun tv => match tv with
  | .slice e sz _ => (tzero P e).bind fun z =>
    if len * sz ≤ 2 ^ 24 ∧ z.length = sz ∧ 0 < sz then
      (afill (fun i => some (i * sz, sz)) (List.replicate len z).flatten parts).bind fun xs => some (if xs.all AV.isC = true then .fresh sz len xs else .freshO sz len xs)
    else none
  | _ => none
def sliceLim (x : Option AV) (d : Nat) : Option Nat :=
  match x with
  | none => some d
  | some (.v (.int _ n)) => if 0 ≤ n then some n.toNat else none
  | _ => none
def aslice (t : TypeId) (g : Id → Option Blk) (x : AV) (lo hi : Option AV) : Option AV :=
  (tview P t).bind fun tv => match tv, x with
  | .slice _ sz _, .arr n xs => (sliceLim lo 0).bind fun l => (sliceLim hi n).bind fun r =>
      if l ≤ r ∧ r ≤ n then some (.arr (r - l) (if l = 0 ∧ r = n then xs else (xs.drop (l * sz)).take ((r - l) * sz))) else none
  | .slice _ sz _, .own id off n ext => (g id).bind fun b => match b with
    | .sl _ _ sz' ext' _ => (sliceLim lo 0).bind fun l => (sliceLim hi n).bind fun r =>
      if sz' = sz ∧ ext' = ext ∧ l ≤ r ∧ off + r * sz ≤ ext * sz ∧ 0 < sz then some (.own id (off + l * sz) (r - l) ext) else none
    | _ => none
  | .slice _ _ _, .v (.slice none 0 0) => (sliceLim lo 0).bind fun l => (sliceLim hi 0).bind fun r => if l = 0 ∧ r = 0 then some (.v (.slice none 0 0)) else none
  | _, _ => none
def exportV (g : Id → Option Blk) : Nat → AV → Option AV
  | _, .v (.slice _ 0 _) => some (.arr 0 [])
  | _, .v x => some (.v x)
  | _, .arr n xs => some (.arr n xs)
  | _, .ref xs off => some (.ref xs off)
  | 0, .own id off n ext => (g id).bind fun b => match b with
    | .sl true _ sz e cells => if e = ext then some (.arr n (cut cells off n sz e)) else none
    | _ => none
  | d + 1, .own id off n ext => (g id).bind fun b => match b with
    | .sl true _ sz e cells => if e = ext then some (.arr n (cut cells off n sz e)) else none
    | .sl false _ sz e cells => if e = ext then (cells.mapM (exportV g d)).bind fun cs => some (.arr n (cut cs off n sz e)) else none
    | _ => none
  | 0, .ptr _ _ _ => none
  | d + 1, .ptr id off ext => (g id).bind fun b => match b with
    | .bx _ cells => if ext = 0 then (cells.mapM (exportV g d)).bind fun xs => some (.ref xs off) else none
    | _ => none
  | 0, .fn f [] [] => some (.fn f [] [])
  | 0, .fn _ _ _ => none
  | d + 1, .fn f a b => (a.mapM (exportV g d)).bind fun a' => (b.mapM (exportV g d)).bind fun b' => some (.fn f a' b')
  | 0, .agg _ => none
  | d + 1, .agg xs => (xs.mapM (exportV g d)).bind fun ys => some (.agg ys)
  | 0, .tuple _ => none
  | d + 1, .tuple xs => (xs.mapM (exportV g d)).bind fun ys => some (.tuple ys)
  | _, .fresh _ _ _ => none
  | _, .freshO _ _ _ => none
  | _, .newbx _ => none
def borrowed (g : Id → Option Blk) : Nat → AV → List Id
  | 0, .own id _ _ _ => [id]
  | 0, .ptr id _ _ => [id]
  | 0, _ => []
  | d + 1, .own id _ _ _ => id :: (match g id with
    | some (.sl false _ _ _ cells) => (cells.map (borrowed g d)).flatten
    | _ => [])
  | d + 1, .ptr id _ _ => id :: (match g id with
    | some (.bx _ cells) => (cells.map (borrowed g d)).flatten
    | _ => [])
  | d + 1, .fn _ a b => (a.map (borrowed g d)).flatten ++ (b.map (borrowed g d)).flatten
  | d + 1, .agg xs => (xs.map (borrowed g d)).flatten
  | d + 1, .tuple xs => (xs.map (borrowed g d)).flatten
  | _ + 1, _ => []
def alias : Nat → AV → Bool
  | _, .v _ => false
  | _, .arr _ _ => true
  | d + 1, .agg xs => xs.any (alias d)
  | d + 1, .tuple xs => xs.any (alias d)
  | d + 1, .newbx xs => xs.any (alias d)
  | d + 1, .fresh _ _ xs => xs.any (alias d)
  | _, .fn _ [] [] => false
  | _, _ => true
def aliasE : Nat → AV → Bool
  | _, .v _ => false
  | _, .arr 0 [] => false
  | _, .arr _ _ => true
  | d + 1, .agg xs => xs.any (aliasE d)
  | d + 1, .tuple xs => xs.any (aliasE d)
  | d + 1, .newbx xs => xs.any (aliasE d)
  | d + 1, .fresh _ _ xs => xs.any (aliasE d)
  | _, .fn _ [] [] => false
  | _, _ => true
def nilNew : List AV → List Nat → List AV
  | .v (.slice none 0 0) :: xs, (s + 1) :: ss => .fresh s 0 [] :: nilNew xs ss
  | x :: xs, _ :: ss => x :: nilNew xs ss
  | xs, [] => xs
  | [], _ => []
def typed (t : TypeId) (x : AV) : AV :=
  match x with
  | .agg xs => .agg (nilNew xs (sliceCells P 4 t))
  | x => match nilNew [x] (sliceCells P 4 t) with
    | [y] => y
    | _ => x
def mapSt {S : Type} (f : AV → S → Option (AV × S)) : List AV → S → Option (List AV × S)
  | [], s => some ([], s)
  | x :: xs, s => (f x s).bind fun (y, s1) => (mapSt f xs s1).bind fun (ys, s2) => some (y :: ys, s2)
def frozenId (g : Id → Option Blk) (i : Id) : Bool :=
  match g i with
  | some b => !b.rw
  | none => false
def toFreeze (g : Id → Option Blk) : Nat → AV → List Id
  | d + 1, .own id off n ext => match g id with
    | some (.sl false _ _ _ _) => borrowed g (d + 1) (.own id off n ext)
    | _ => []
  | d + 1, .ptr id _ _ => match g id with
    | some (.bx _ cells) => (cells.map (toFreeze g d)).flatten
    | _ => []
  | d + 1, .agg xs => (xs.map (toFreeze g d)).flatten
  | d + 1, .tuple xs => (xs.map (toFreeze g d)).flatten
  | d + 1, .fn f a b => borrowed g (d + 1) (.fn f a b)
  | _, _ => []
def exportR (g : Id → Option Blk) : Nat → AV → List Id → Option (AV × List Id)
  | _, .v x, us => some (.v x, us)
  | _, .arr n xs, us => some (.arr n xs, us)
  | _, .ref xs off, us => some (.ref xs off, us)
  | _, .fn f [] [], us => some (.fn f [] [], us)
  | 0, .own id off n ext, us => (g id).bind fun b => match b with
    | .sl true true sz e cells => if e = ext ∧ off = 0 ∧ n ≤ e ∧ us.contains id = false then some (.fresh sz n (cut cells off n sz e), id :: us) else none
    | .sl true false sz e cells => if e = ext then some (.arr n (cut cells off n sz e), us) else none
    | _ => none
  | d + 1, .own id off n ext, us => (g id).bind fun b => match b with
    | .sl true true sz e cells => if e = ext ∧ off = 0 ∧ n ≤ e ∧ us.contains id = false then some (.fresh sz n (cut cells off n sz e), id :: us) else none
    | .sl true false sz e cells => if e = ext then some (.arr n (cut cells off n sz e), us) else none
    | .sl false false sz e cells => if e = ext ∧ ((cells.map (borrowed g d)).flatten).all (frozenId g) = true then
            (cells.mapM (exportV g d)).bind fun cs => some (.arr n (cut cs off n sz e), us) else none
    | _ => none
  | d + 1, .ptr id off ext, us => if off = 0 ∧ ext = 0 ∧ us.contains id = false then (g id).bind fun b => match b with
      | .bx true cells => (mapSt (exportR g d) cells (id :: us)).bind fun (xs, us') => some (.newbx xs, us')
      | _ => none
    else none
  | d + 1, .agg xs, us => (mapSt (exportR g d) xs us).bind fun (ys, us') => some (.agg ys, us')
  | d + 1, .tuple xs, us => (mapSt (exportR g d) xs us).bind fun (ys, us') => some (.tuple ys, us')
  | d + 1, .fn f a b, us => if (borrowed g (d + 1) (.fn f a b)).all (frozenId g) = true then (exportV g (d + 1) (.fn f a b)).bind fun y => some (y, us) else none
  | _, _, _ => none
def freezeAll (h : Heap) : List Id → Heap
  | [] => h
  | i :: is => match Heap.get h i with
    | some b => freezeAll (h.set i b.freeze) is
    | none => freezeAll h is
def freeN (h : Heap) (lvl slot : Nat) : Nat → Nat → Nat
  | 0, k => k
  | n + 1, k => if (Heap.get h (lvl, slot, k)).isNone = true then k else freeN h lvl slot n (k + 100)
def freeK (h : Heap) (lvl slot k : Nat) : Nat := freeN h lvl slot 2097152 k
def importR (lvl slot : Nat) : Nat → AV → Nat × Heap → Option (AV × Nat × Heap)
  | _, .v x, s => some (.v x, s)
  | _, .fresh sz n xs, (k, h) => (h.new (lvl, slot, freeK h lvl slot k) (.sl true true sz n xs)).bind fun h' => some (.own (lvl, slot, freeK h lvl slot k) 0 n n, k + 1, h')
  | _, .freshO sz n xs, (k, h) => (h.new (lvl, slot, freeK h lvl slot k) (.sl false true sz n xs)).bind fun h' => some (.own (lvl, slot, freeK h lvl slot k) 0 n n, k + 1, h')
  | d + 1, .newbx xs, s => (mapSt (importR lvl slot d) xs s).bind fun (ys, k, h) => (h.new (lvl, slot, k) (.bx true ys)).bind fun h' => some (.ptr (lvl, slot, k) 0 0, k + 1, h')
  | 0, .newbx _, _ => none
  | d + 1, .agg xs, s => (mapSt (importR lvl slot d) xs s).bind fun (ys, s') => some (.agg ys, s')
  | 0, .agg _, _ => none
  | d + 1, .tuple xs, s => (mapSt (importR lvl slot d) xs s).bind fun (ys, s') => some (.tuple ys, s')
  | 0, .tuple _, _ => none
  | _, x, s => some (x, s)
abbrev CallP := FuncId → List AV → Option AV
abbrev CallI := Nat → FuncId → List AV → Heap → Option (AV × Heap)
structure Cfg where
  inl : FuncId → Bool
  drops : FuncId → List (Nat × List Nat)
def opnd (e : Nat → Option AV) : Operand → Option AV
  | .tmp t => e t
  | .const x => some (lift x)
  | .global _ => none
  | .func f => some (.fn f [] [])
def optL {α β : Type} (f : α → Option β) : List α → Option (List β)
  | [] => some []
  | x :: xs => (f x).bind fun y => (optL f xs).bind fun ys => some (y :: ys)
def optS {α β : Type} (f : α → Option β) : Option α → Option (Option β)
  | none => some none
  | some x => (f x).bind fun y => some (some y)
def asI (x : AV) : Option Int :=
  match x with
  | .v (.int _ n) => some n
  | _ => none
def newsOf (g : Id → Option Blk) (x : AV) : Option (Nat × List AV) :=
  (exportV g 4 x).bind fun y => match y with
  | .arr n xs => some (n, xs)
  | _ => none
def inner (g : Id → Option Blk) (y : AV) : List Id :=
  match y with
  | .own id _ _ _ => match g id with
    | some (.sl false _ _ _ cells) => (cells.map (borrowed g 3)).flatten
    | _ => []
  | _ => []
def abuiltin (b : Builtin) (ts : Array TypeId) (args : List AV) : Option AV :=
  match b, args with
  | .len, [x] => (ts[0]?).bind fun t => (tview P t).bind fun tv => match tv with
    | .slice _ _ _ => (alen x).bind fun n => some (.v (.int .i64 n))
    | .str => match x with
      | .v (.string s) => some (.v (.int .i64 s.size))
      | _ => none
    | .array n _ _ => some (.v (.int .i64 n))
    | _ => none
  | .cap, [.v (.slice none 0 0)] => (ts[0]?).bind fun t => (tview P t).bind fun tv => match tv with
    | .slice _ _ _ => some (.v (.int .i64 0))
    | _ => none
  | .min, [.v (.int k a), .v (.int k' b)] => if k = k' then some (.v (.int k (if b < a then b else a))) else none
  | .max, [.v (.int k a), .v (.int k' b)] => if k = k' then some (.v (.int k (if b > a then b else a))) else none
  | _, _ => none
def aq (e : Nat → Option AV) (g : Id → Option Blk) (o : Op) : Option AV :=
  match o with
  | .move x | .assign x => opnd e x
  | .pick c a b => (opnd e c).bind fun c => match c with
    | .v (.bool t) => if t = true then opnd e a else opnd e b
    | _ => none
  | .alloc t => (tzero P t).bind fun z => some (.newbx z)
  | .box _ x => (opnd e x).bind fun y => if y.cells.all AV.one = true then some (.newbx y.cells) else none
  | .build t ⟨ps⟩ => (optL (fun p : Nat × Operand => (opnd e p.2).bind fun y => some (p.1, y)) ps).bind fun ps => abuild P t ps
  | .buildSlice t n ⟨ps⟩ => (optL (fun p : Nat × Operand => (opnd e p.2).bind fun y => some (p.1, y)) ps).bind fun ps => abuildSlice P t n ps
  | .load t a => (opnd e a).bind fun p => aload P g t p
  | .nilCheck x => (opnd e x).bind fun y => match y with
    | .ptr id _ ext => if live g id ext = true then some y else none
    | .ref _ _ => some y
    | .fn _ _ _ => some y
    | _ => none
  | .binOp op t x y _ => (opnd e x).bind fun a => (opnd e y).bind fun b => abin P op t a b
  | .unOp op _ x => (opnd e x).bind fun a => aun op a
  | .convert src dst x => (opnd e x).bind fun a => (tview P src).bind fun _ => (tview P dst).bind fun tv => (asI a).bind fun n => match tv with
    | .int k => some (.v (.int k (k.wrap n)))
    | _ => none
  | .makeFunc (.func f) ⟨first⟩ ⟨cap⟩ => (optL (opnd e) first).bind fun a => (optL (opnd e) cap).bind fun b => some (.fn f a b)
  | .makeSlice t n c => (opnd e n).bind fun a => (opnd e c).bind fun b => (asI a).bind fun n => (asI b).bind fun c =>
      (tview P t).bind fun tv => match tv with
      | .slice el sz by_ => (tzero P el).bind fun z =>
        if 0 ≤ n ∧ n ≤ c ∧ c ≤ 2 ^ 47 ∧ c * by_ ≤ 2 ^ 47 ∧ z.length = sz then some (.fresh sz n.toNat (List.replicate n.toNat z).flatten) else none
      | _ => none
  | .slice t x lo hi none => (opnd e x).bind fun a => (optS (opnd e) lo).bind fun l => (optS (opnd e) hi).bind fun r => aslice P t g a l r
  | .fieldAddr s x f => (opnd e x).bind fun a => afield P s g a f
  | .field t x f => (opnd e x).bind fun a => (fieldOf P t f).bind fun (o, ft) => match a with
    | .agg xs => part P xs ft o
    | _ => none
  | .indexAddr t x i => (opnd e x).bind fun a => (opnd e i).bind fun b => (asI b).bind fun n => aindexAddr P t g a n
  | .index t x i => (opnd e x).bind fun a => (opnd e i).bind fun b => (asI b).bind fun n => aindex P t a n
  | .extract t i => (opnd e t).bind fun a => match a with
    | .tuple xs => xs[i]?
    | _ => none
  | .call ⟨.builtin b, ⟨args⟩, ts⟩ => (optL (opnd e) args).bind fun as => abuiltin P b ts as
  | _ => none
def fnOf (x : AV) : Option (FuncId × List AV × List AV) :=
  match x with
  | .fn k a b => some (k, a, b)
  | _ => none
def acallP (cp : CallP) (g : Id → Option Blk) (k : FuncId) (as : List AV) : Option (AV × List Id) :=
  (optL (exportV g 4) as).bind fun bs => (cp k bs).bind fun r =>
    some (r, if (as.map (borrowed g 4)).flatten.isEmpty = true then [] else if alias 4 r = true then (as.map (borrowed g 4)).flatten else [])
def sealF : AV → Option AV
  | .fresh _ n xs => if n = 0 ∧ xs.isEmpty = true then some (.arr 0 []) else some (.arr n xs)
  | _ => none
def bsO : Op → Bool
  | .buildSlice _ _ _ => true
  | _ => false
def aopQ (C : Cfg) (cp : CallP) (e : Nat → Option AV) (g : Id → Option Blk) (o : Op) : Option AV :=
  match o with
  | .call ⟨.value f, ⟨args⟩, _⟩ => (opnd e f).bind fun f => (fnOf f).bind fun (k, first, cap) => (optL (opnd e) args).bind fun as =>
      if C.inl k = true then none else (acallP cp g k (first ++ as ++ cap)).bind fun (r, fl) => if fl.isEmpty = true then some r else if aliasE 4 r = false then some r else none
  | o => if bsO o = true ∧ (C.drops 0).isEmpty = false then (aq P e g o).bind sealF else aq P e g o
def astore (h : Heap) (p y : AV) : Option Heap :=
  match p with
  | .ptr id off ext => (h.get id).bind fun b =>
    if b.ext = ext ∧ off + y.cells.length ≤ b.cells.length ∧ y.cells.all AV.one = true then
      match b with
      | .bx true cells => some (h.set id (.bx true (putCells cells off y.cells)))
      | .sl false true sz ext cells => some (h.set id (.sl false true sz ext (putCells cells off y.cells)))
      | .sl true true _ _ _ => (y.cells.mapM (exportV h.get 4)).bind fun ys => ((freezeAll h ((y.cells.map (borrowed h.get 4)).flatten)).get id).bind fun b' => match b' with
        | .sl true true sz ext cells => some ((freezeAll h ((y.cells.map (borrowed h.get 4)).flatten)).set id (.sl true true sz ext (putCells cells off ys)))
        | _ => none
      | _ => none
    else none
  | _ => none
def appZ (lvl : Nat) (h : Heap) (dst : Nat) (tv tv' : TV) (as : List AV) : Option (AV × Heap) :=
  match tv, tv', as with
  | .slice el esz by_, .int _, [.v (.slice none 0 0), .v (.int _ n)] => (tzero P el).bind fun z =>
    if z.length = esz ∧ 0 < esz ∧ 0 ≤ n ∧ n ≤ 2 ^ 47 ∧ n * by_ ≤ 2 ^ 47 then (importR lvl dst 4 (.fresh esz n.toNat (List.replicate n.toNat z).flatten) (0, h)).bind fun (y, _, h') => some (y, h') else none
  | _, _, _ => none
def appO (h : Heap) (id : Id) (n ext esz by_ : Nat) : AV → Option (AV × Heap)
  | .own idy 0 m exty => (h.get id).bind fun b => (h.get idy).bind fun b2 => match b, b2 with
    | .sl false true sz ext' cells, .sl false _ szy exty' ys => if ext' = n ∧ ext = n ∧ sz = esz ∧ szy = esz ∧ exty' = m ∧ exty = m ∧ n + m ≤ 2 ^ 47 ∧ (n + m) * by_ ≤ 2 ^ 47 ∧ ys.all AV.one = true then
        some (.own id 0 (n + m) (n + m), h.set id (.sl false true sz (n + m) (cells ++ ys))) else none
    | _, _ => none
  | _ => none
def copyX (h : Heap) (d y : AV) : Option (AV × Heap) :=
  match d with
  | .own id off n ext => (newsOf h.get y).bind fun (m, ys) => (h.get id).bind fun b => match b with
    | .sl true true 1 ext' cells =>
      if ext' = ext ∧ ys.length = m ∧ 0 < m ∧ m ≤ n ∧ off + m ≤ cells.length ∧ ys.all AV.one = true ∧ (inner h.get y).isEmpty = true then
        some (.v (.int .i64 m), h.set id (.sl true true 1 ext' (putCells cells off ys))) else none
    | _ => none
  | _ => none
def aS (lvl : Nat) (e : Nat → Option AV) (h : Heap) (dst : Nat) (o : Op) : Option (AV × Heap) :=
  match o with
  | .store t a x => (opnd e a).bind fun p => (opnd e x).bind fun y => if y.cells.length = tsize P t ∧ 0 < tsize P t then (astore h p y).bind fun h' => some (.v undef, h') else none
  | .call ⟨.builtin .append, ⟨args⟩, ts⟩ => (optL (opnd e) args).bind fun as => (ts[0]?).bind fun t => (ts[1]?).bind fun t' => if t = t' then (tview P t).bind fun tv => match tv with
    | .slice el esz by_ => (tzero P el).bind fun z => if z.length = esz ∧ 0 < esz then match as with
      | [.own id 0 n ext, y] => (newsOf h.get y).bind fun (m, ys) => ((freezeAll h (inner h.get y)).get id).bind fun b => match b with
        | .sl true true sz ext' cells =>
          if ext' = n ∧ ext = n ∧ sz = esz ∧ ys.length = m * esz ∧ n + m ≤ 2 ^ 47 ∧ (n + m) * by_ ≤ 2 ^ 47 ∧ ys.all AV.one = true then
            some (.own id 0 (n + m) (n + m), (freezeAll h (inner h.get y)).set id (.sl true true sz (n + m) (cells ++ ys)))
          else none
        | .sl false true _ _ _ => appO h id n ext esz by_ y
        | _ => none
      | [.v (.slice none 0 0), y] => (newsOf h.get y).bind fun (m, ys) =>
          if m * by_ ≤ 2 ^ 47 ∧ ys.length = m * esz ∧ m ≤ 2 ^ 47 then
            (importR lvl dst 4 (.fresh esz m ys) (0, freezeAll h (inner h.get y))).bind fun (z, _, h') => some (z, h')
          else none
      | _ => none
      else none
    | _ => none
    else (tview P t).bind fun tv => (tview P t').bind fun tv' => appZ P lvl h dst tv tv' as
  | .call ⟨.builtin .copy, ⟨[d, s]⟩, ⟨[t, _]⟩⟩ => (opnd e d).bind fun x => (opnd e s).bind fun y => (tview P t).bind fun tv => match tv with
    | .slice _ 1 _ => copyX h x y
    | _ => none
  | _ => none
def aop (C : Cfg) (cp : CallP) (ci : CallI) (lvl : Nat) (e : Env) (h : Heap) (dst : Option Tmp) (o : Op) : Option (AV × Heap) :=
  match o with
  | .call ⟨.value f, ⟨args⟩, _⟩ => (opnd e.get f).bind fun f => (fnOf f).bind fun (k, first, cap) => (optL (opnd e.get) args).bind fun as =>
      if C.inl k = true then ci (lvl + 1) k (first ++ as ++ cap) h
      else (acallP cp h.get k (first ++ as ++ cap)).bind fun (r, fl) => (importR lvl (dst.getD 0) 4 r (0, freezeAll h fl)).bind fun (y, _, h') => some (y, h')
  | o => match aq P e.get h.get o with
    | some t => (importR lvl (dst.getD 0) 4 t (0, h)).bind fun (y, _, h') => some (y, h')
    | none => aS P lvl e.get h (dst.getD 0) o
def putE (e : Env) : Option Tmp → AV → Env
  | some d, x => e.set d x
  | none, _ => e
def wantedF (ops : List Oper) (e : Nat → Option AV) (o : Oper) : Option Bool :=
  match o.guard with
  | none => some true
  | some (j, want) => match (ops[j]?).bind (·.dst) with
    | some d => (e d).bind fun x => match x with
      | .v (.bool b) => some (b == want)
      | .v _ => some false
      | _ => none
    | none => some false
def wantedA (ops : List Oper) (e : Env) (o : Oper) : Option Bool := wantedF ops e.get o
def aops (C : Cfg) (cp : CallP) (ci : CallI) (lvl : Nat) (all : List Oper) : List Oper → Env → Heap → Option (Env × Heap)
  | [], e, h => some (e, h)
  | o :: os, e, h => (wantedA all e o).bind fun wd =>
    if wd = true then (aop P C cp ci lvl e h o.dst o.op).bind fun (y, h') => aops C cp ci lvl all os (putE e o.dst y) h'
    else aops C cp ci lvl all os (putE e o.dst (.v undef)) h
def aopsQ (C : Cfg) (cp : CallP) (ci : CallI) (lvl : Nat) (all : List Oper) : Nat → List Oper → Env → Heap → Option (Env × Heap)
  | 0, os, e, h => aops P C cp ci lvl all os e h
  | _ + 1, [], e, h => some (e, h)
  | k + 1, o :: os, e, h => (wantedA all e o).bind fun wd =>
    if wd = true then (aopQ P C cp e.get h.get o.op).bind fun t => (importR lvl (o.dst.getD 0) 4 t (0, h)).bind fun (y, _, h') => aopsQ C cp ci lvl all k os (putE e o.dst y) h'
    else aopsQ C cp ci lvl all k os (putE e o.dst (.v undef)) h
def sameV : Value → Value → Bool
  | .bool a, .bool b => a == b
  | .int k a, .int k' b => decide (k = k') && decide (a = b)
  | .slice none n m, .slice none n' m' => decide (n = n') && decide (m = m')
  | .pointer none, .pointer none => true
  | .tuple ⟨[]⟩, .tuple ⟨[]⟩ => true
  | _, _ => false
def sameL (f : AV → AV → Bool) : List AV → List AV → Bool
  | [], [] => true
  | x :: xs, y :: ys => f x y && sameL f xs ys
  | _, _ => false
def sameA : Nat → AV → AV → Bool
  | _ + 1, .v a, .v b => sameV a b
  | d + 1, .arr n xs, .arr m ys => decide (n = m) && sameL (sameA d) xs ys
  | _ + 1, .own i a b c, .own i' a' b' c' => decide (i = i') && decide (a = a') && decide (b = b') && decide (c = c')
  | _ + 1, .ptr i a b, .ptr i' a' b' => decide (i = i') && decide (a = a') && decide (b = b')
  | d + 1, .ref xs n, .ref ys m => decide (n = m) && sameL (sameA d) xs ys
  | d + 1, .fn f a b, .fn f' a' b' => decide (f = f') && sameL (sameA d) a a' && sameL (sameA d) b b'
  | d + 1, .agg xs, .agg ys => sameL (sameA d) xs ys
  | d + 1, .tuple xs, .tuple ys => sameL (sameA d) xs ys
  | _, _, _ => false
def sameB : Blk → Blk → Bool
  | .sl a b c d xs, .sl a' b' c' d' ys => (a == a') && (b == b') && decide (c = c') && decide (d = d') && sameL (sameA 8) xs ys
  | .bx a xs, .bx b ys => (a == b) && sameL (sameA 8) xs ys
  | _, _ => false
def sameE : Env → Env → Bool
  | [], [] => true
  | (i, x) :: e, (j, y) :: e' => decide (i = j) && sameA 8 x y && sameE e e'
  | _, _ => false
def sameH : Heap → Heap → Bool
  | [], [] => true
  | (i, x) :: e, (j, y) :: e' => decide (i = j) && sameB x y && sameH e e'
  | _, _ => false
def sameEH (r r' : Env × Heap) : Bool := sameE r.1 r'.1 && sameH r.2 r'.2
def lateFB (P : Program) (s : TypeId) (i : Nat) (id : Id) (off : Nat) : Blk → Option AV
  | .bx _ _ => (fieldOf P s i).bind fun r => if tsize P r.2 = 0 then none else some (.ptr id (off + r.1) 0)
  | _ => none
def lateF (P : Program) (s : TypeId) (i : Nat) (h : Heap) : AV → Option AV
  | .ptr id off 0 => (h.get id).bind (lateFB P s i id off)
  | _ => none
def lateKB (id : Id) (off : Nat) : Blk → Option AV
  | .bx _ _ => some (.ptr id off 0)
  | _ => none
def lateK (h : Heap) : AV → Option AV
  | .ptr id off 0 => (h.get id).bind (lateKB id off)
  | _ => none
def lateV (P : Program) (e : Nat → Option AV) (h : Heap) (o : Op) : Option AV := match o with
  | .nilCheck x => (opnd e x).bind (lateK h)
  | .fieldAddr s x i => (opnd e x).bind (lateF P s i h)
  | _ => none
def orV : Option AV → Option AV → Option AV
  | some t, _ => some t
  | none, y => y
def aopQL (P : Program) (C : Cfg) (cp : CallP) (q : Bool) (g0 : Id → Option Blk) (e : Nat → Option AV) (h : Heap) (o : Op) : Option AV :=
  if q = true then orV (aopQ P C cp e g0 o) (lateV P e h o) else aopQ P C cp e h.get o
def lateYV : AV → AV → AV
  | .own id 0 n _, .own _ _ m _ => .own id 0 (n + m) (n + m)
  | _, _ => .v undef
def lateY (e : Nat → Option AV) (o : Op) : AV :=
  match o with
  | .call ⟨.builtin .append, ⟨[a, b]⟩, _⟩ => match opnd e a, opnd e b with
    | some x, some y => lateYV x y
    | _, _ => .v undef
  | _ => .v undef
def aopsL (C : Cfg) (cp : CallP) (lvl : Nat) (g0 : Id → Option Blk) (all : List Oper) (ps qs : Nat) : Nat → Nat → List Oper → Env → Heap → Option (Env × Heap)
  | 0, _, _, e, h => some (e, h)
  | _ + 1, _, [], _, _ => none
  | k + 1, i, o :: os, e, h => if ps.testBit i = true then aopsL C cp lvl g0 all ps qs k (i + 1) os (putE e o.dst (lateY e.get o.op)) h else (wantedA all e o).bind fun wd =>
    if wd = true then (aopQL P C cp (qs.testBit i) g0 e.get h o.op).bind fun t => (importR lvl (o.dst.getD 0) 4 t (0, h)).bind fun (y, _, h') => aopsL C cp lvl g0 all ps qs k (i + 1) os (putE e o.dst y) h'
    else aopsL C cp lvl g0 all ps qs k (i + 1) os (putE e o.dst (.v undef)) h
def lateR (lvl : Nat) (g0 : Id → Option Blk) (n p : Nat) (all : List Oper) (plain : Bool) (t : TypeId) (id : Id) (off x : Nat) (y : AV) (b : Blk) : Option (Id × Blk) :=
  match b with
  | .sl true true sz ext cells => match y with
    | .v (.int k z) => if plain = true ∧ (g0 id).isNone = true ∧ ext = x + 1 ∧ tsize P t = 1 ∧ off + 1 ≤ cells.length ∧
        (id.1 != lvl || (List.range n).all fun j => ((all[j]?).bind (·.dst)) != some id.2.1 || Region.waitsFor .any all.toArray p j) = true then some (id, .sl true true sz ext (putCells cells off [.v (.int k z)])) else none
    | _ => none
  | _ => none
def lateW (lvl n p : Nat) (all : List Oper) (id : Id) : Bool := id.1 != lvl || (List.range n).all fun j => ((all[j]?).bind (·.dst)) != some id.2.1 || Region.waitsFor .any all.toArray p j
def isOwn (id : Id) (k : Nat) : Option AV → Bool
  | some (.own id' 0 k1 k2) => id' == id && decide (k1 = k) && decide (k2 = k)
  | _ => false
def lateA (by_ esz : Nat) (ok : Bool) (id : Id) (n ext m ext2 off2 : Nat) (y : Option AV) : Blk → Blk → Option (Id × Blk)
  | .sl true true sz ext' cells, .sl true _ sz2 e2 cells2 =>
    if ok = true ∧ isOwn id (n + m) y = true ∧ ext' = n ∧ ext = n ∧ sz = esz ∧ e2 = ext2 ∧ (cut cells2 off2 m sz2 e2).length = m * esz ∧ n + m ≤ 2 ^ 47 ∧ (n + m) * by_ ≤ 2 ^ 47 ∧ (cut cells2 off2 m sz2 e2).all AV.one = true then
      some (id, .sl true true sz (n + m) (cells ++ cut cells2 off2 m sz2 e2)) else none
  | _, _ => none
def lateA1 (lvl : Nat) (g0 : Id → Option Blk) (n p : Nat) (all : List Oper) (h : Heap) (by_ esz : Nat) (ok : Bool) (yv : Option AV) : AV → AV → Option (Id × Blk)
  | .own id 0 k ext, .own id2 off2 m ext2 => (h.get id).bind fun b => (h.get id2).bind fun b2 => lateA by_ esz (ok && (g0 id).isNone && lateW lvl n p all id && lateW lvl n p all id2) id k ext m ext2 off2 yv b b2
  | _, _ => none
def lateAT (lvl : Nat) (g0 : Id → Option Blk) (n p : Nat) (all : List Oper) (r : Env × Heap) (o : Oper) (a b : Operand) (t t' : TypeId) : TV → Option (Id × Blk)
  | .slice el esz by_ => (tzero P el).bind fun z => (opnd r.1.get a).bind fun x => (opnd r.1.get b).bind fun y => lateA1 lvl g0 n p all r.2 by_ esz (decide (t = t') && decide (z.length = esz) && decide (0 < esz) && o.guard.isNone && o.dst.isSome) ((o.dst).bind r.1.get) x y
  | _ => none
def lateS (lvl : Nat) (g0 : Id → Option Blk) (n p : Nat) (all : List Oper) (r : Env × Heap) (o : Oper) : Option (Id × Blk) :=
  match o.op with
  | .store t a x => (opnd r.1.get a).bind fun q => (opnd r.1.get x).bind fun y => match q with
    | .ptr id off 0 => (r.2.get id).bind fun b => match b with
      | .bx true cells => if o.dst.isNone = true ∧ o.guard.isNone = true ∧ (g0 id).isNone = true ∧ y.cells.length = tsize P t ∧ 0 < tsize P t ∧ off + y.cells.length ≤ cells.length ∧ y.cells.all AV.one = true ∧
          (id.1 != lvl || (List.range n).all fun j => ((all[j]?).bind (·.dst)) != some id.2.1 || Region.waitsFor .any all.toArray p j) = true then some (id, .bx true (putCells cells off y.cells)) else none
      | _ => none
    | .ptr id off (xt + 1) => (r.2.get id).bind (lateR P lvl g0 n p all (o.dst.isNone && o.guard.isNone) t id off xt y)
    | _ => none
  | .call ⟨.builtin .append, ⟨[a, b]⟩, ts⟩ => (ts[0]?).bind fun t => (ts[1]?).bind fun t' => (tview P t).bind (lateAT P lvl g0 n p all r o a b t t')
  | _ => none
def storesM (lvl : Nat) (g0 : Id → Option Blk) (n : Nat) (all : List Oper) (ps : Nat) : Nat → Nat → Env × Heap → Option Heap
  | 0, _, r => some r.2
  | k + 1, i, r => if ps.testBit i = true then (all[i]?).bind fun o => (lateS P lvl g0 n i all r o).bind fun s => storesM lvl g0 n all ps k (i + 1) (r.1, r.2.set s.1 s.2) else storesM lvl g0 n all ps k (i + 1) r
def aopsLate (C : Cfg) (cp : CallP) (ci : CallI) (lvl : Nat) (g0 : Id → Option Blk) (all : List Oper) (n ps qs : Nat) (e : Env) (h : Heap) : Option (Env × Heap) :=
  (aopsL P C cp lvl g0 all ps qs n 0 all e h).bind fun r => (storesM P lvl g0 n all ps n 0 r).bind fun h' => aops P C cp ci lvl all (all.drop n) r.1 h'
def lateN (k : Nat) : Nat := (k - 2000000) / 1461501637330902918203684832716283019655932542976 % 1208925819614629174706176
def bxO : Blk → Option Blk
  | .bx rw cells => some (.bx rw cells)
  | _ => none
def bxG (h : Heap) (id : Id) : Option Blk := (h.get id).bind bxO
def lateG (k : Nat) (h : Heap) : Id → Option Blk := if (k - 2000000) / 1461501637330902918203684832716283019655932542976 / 1208925819614629174706176 = 0 then fun _ => none
  else if (k - 2000000) / 1461501637330902918203684832716283019655932542976 / 1208925819614629174706176 = 1 then h.get else bxG h
def lateP (k : Nat) : Nat := (k - 2000000) / 1208925819614629174706176 % 1208925819614629174706176
def lateQs (k : Nat) : Nat := (k - 2000000) % 1208925819614629174706176
def flat : AV → Bool
  | .v _ => true
  | .arr _ _ => true
  | .own _ _ _ _ => true
  | .ptr _ _ _ => true
  | .ref _ _ => true
  | .fn _ _ _ => true
  | _ => false
def floatN (C : Cfg) (cp : CallP) (ci : CallI) (lvl : Nat) (all : List Oper) (n d : Nat) (y : AV) (r : Env × Heap) (o : Oper) : Option (Env × Heap) :=
  if flat y = true then (aop P C cp ci lvl (r.1.drop [d]) r.2 o.dst o.op).bind fun (z, h2) => aops P C cp ci lvl all (all.drop (n + 1)) ((putE (r.1.drop [d]) o.dst z).set d y) h2 else none
def floatD (C : Cfg) (cp : CallP) (ci : CallI) (lvl : Nat) (all : List Oper) (n : Nat) (r : Env × Heap) (o2 : Oper) : Op → Option Tmp → Option (Env × Heap)
  | .move (.tmp a), some d => (r.1.get a).bind fun y => floatN P C cp ci lvl all n d y r o2
  | _, _ => none
def aopsF (C : Cfg) (cp : CallP) (ci : CallI) (lvl : Nat) (all : List Oper) (n f : Nat) (e : Env) (h : Heap) : Option (Env × Heap) :=
  (aopsQ P C cp ci lvl all n (all.take n) e h).bind fun r => (all[f]?).bind fun o => (all[n]?).bind fun o2 => floatD P C cp ci lvl all n r o2 o.op o.dst
def aopsW (C : Cfg) (cp : CallP) (ci : CallI) (lvl : Nat) (all : List Oper) (k : Nat) (e : Env) (h : Heap) : Option (Env × Heap) :=
  if k < 1000 then aopsQ P C cp ci lvl all k all e h
  else if k < 1000000 then aopsF P C cp ci lvl all (k % 1000) (k / 1000 - 1) e h
  else if k < 2000000 then (aopsQ P C cp ci lvl all (k - 1000000) (all.take (k - 1000000)) e h).bind fun r =>
    (aops P C cp ci lvl all (all.drop (k - 1000000)) r.1 r.2).bind fun r1 => (aops P C cp ci lvl all (all.drop (k - 1000000)).reverse r.1 r.2).bind fun r2 => if sameEH r1 r2 = true then some r1 else none
  else aopsLate P C cp ci lvl (lateG k h) all (lateN k) (lateP k) (lateQs k) e h
inductive Ex where
  | normal
  | exit (id : Nat)
  | ret
def names (id : Id) : Nat → AV → Bool
  | _, .own j _ _ _ => j == id
  | _, .ptr j _ _ => j == id
  | d + 1, .agg xs => xs.any (names id d)
  | d + 1, .tuple xs => xs.any (names id d)
  | d + 1, .fn _ a b => a.any (names id d) || b.any (names id d)
  | _, .v _ => false
  | _, .arr _ _ => false
  | _, .ref _ _ => false
  | _, .fn _ [] [] => false
  | _, _ => true
def namedB (id : Id) : Blk → Bool
  | .sl true _ _ _ _ => false
  | .sl false _ _ _ cells => cells.any (names id 4)
  | .bx _ cells => cells.any (names id 4)
def namedE (id : Id) : Env → Bool
  | [] => false
  | (_, x) :: e => names id 4 x || namedE id e
def namedH (id : Id) : Heap → Bool
  | [] => false
  | (_, b) :: h => namedB id b || namedH id h
def memI : List Id → Id → Bool
  | [], _ => false
  | j :: l, k => if j = k then true else memI l k
def sweepFrom (prot : List Id) (e : Env) (all : Heap) : Heap → Heap
  | [] => []
  | (id, b) :: h => if (memI prot id || (namedE id e || namedH id all)) = true then (id, b) :: sweepFrom prot e all h else sweepFrom prot e all h
def sweep1 (prot : List Id) (e : Env) (h : Heap) : Heap := sweepFrom prot e h h
def sweep (prot : List Id) (e : Env) (h : Heap) : Heap := sweep1 prot e (sweep1 prot e h)
def keys : Heap → List Id
  | [] => []
  | (id, _) :: h => id :: keys h
def aloop (prot : List Id) (body : Env → Heap → Option (Ex × Env × Heap)) : Nat → Env → Heap → Option (Ex × Env × Heap)
  | 0, _, _ => none
  | n + 1, e, h => (body e (sweep prot e h)).bind fun (x, e', h') => match x with
    | .normal => aloop prot body n e' h'
    | x => some (x, e', h')
def shrinkB (prot : List Id) (k : Nat) (e : Env) (h : Heap) (id : Id) (n ext : Nat) : Blk → Option (Env × Heap)
  | .sl true true sz e2 cells => if e2 = ext ∧ n ≤ ext ∧ memI prot id = false ∧ namedE id (e.drop [k]) = false ∧ namedH id h = false then some (e.set k (.own id 0 n n), h.set id (.sl true true sz n (cells.take (n * sz)))) else none
  | _ => none
def shrinkV (prot : List Id) (k : Nat) (e : Env) (h : Heap) : AV → Option (Env × Heap)
  | .own id 0 n ext => (h.get id).bind (shrinkB prot k e h id n ext)
  | .v (.slice none 0 0) => some (e, h)
  | _ => none
def shrink (prot : List Id) (k : Nat) (e : Env) (h : Heap) : Option (Env × Heap) := (e.get k).bind (shrinkV prot k e h)
def sealBC (c : Nat) (h : Heap) (id : Id) (cells : List AV) (off n ext : Nat) : Blk → Option Heap
  | .sl true false sz e cs => if e = ext then some (h.set id (.bx true (cells.set c (.arr n (cut cs off n sz e))))) else none
  | _ => none
def openBC (lvl k sz c : Nat) (h : Heap) (id : Id) (cells : List AV) : AV → Option Heap
  | .v (.slice none 0 0) => if sz = 0 then some (h.set id (.bx true (cells.set c (.arr 0 [])))) else (h.new (lvl, k, 78 + c) (if 500 < sz then .sl false true (sz - 500) 0 [] else .sl true true sz 0 [])).bind fun h1 => some (h1.set id (.bx true (cells.set c (.own (lvl, k, 78 + c) 0 0 0))))
  | .own j off n ext => (h.get j).bind (sealBC c h id cells off n ext)
  | _ => none
def openBB (lvl k sz c : Nat) (h : Heap) (id : Id) : Blk → Option Heap
  | .bx true cells => (cells[c]?).bind (openBC lvl k sz c h id cells)
  | _ => none
def openBV (lvl k sz c : Nat) (h : Heap) : AV → Option Heap
  | .ptr id 0 0 => (h.get id).bind (openBB lvl k sz c h id)
  | _ => none
def openB (lvl k sz c : Nat) (e : Env) (h : Heap) : Option Heap := (e.get k).bind (openBV lvl k sz c h)
def opnB (n : Nat) : Blk := if 500 < n then .sl false true (n - 500) 0 [] else .sl true true n 0 []
def post (lvl : Nat) (prot : List Id) : List Nat → Env → Heap → Option (Env × Heap)
  | [], e, h => some (e, h)
  | k :: ks, e, h =>
    if k < 1000000 then post lvl prot ks e h
    else if k < 1000000000 then
      match e.get (k % 1000000) with
      | some (.v (.slice none 0 0)) => (h.new (lvl, k % 1000000, 77) (opnB (k / 1000000))).bind fun h' => post lvl prot ks (e.set (k % 1000000) (.own (lvl, k % 1000000, 77) 0 0 0)) h'
      | some _ => post lvl prot ks e h
      | none => none
    else if 4000000000 ≤ k then (openB lvl (k % 1000000) (k / 1000000 % 1000) (k / 1000000000 - 4) e h).bind fun h' => post lvl prot ks e h'
    else if 3000000000 ≤ k then (shrink prot (k % 1000000) e h).bind fun r => post lvl prot ks r.1 r.2
    else if 2000000000 ≤ k then post lvl prot ks e (sweep prot e h)
    else
      (e.get (k % 1000000)).bind fun x => (exportV h.get 4 x).bind fun y => post lvl prot ks (e.set (k % 1000000) y) (freezeAll h (borrowed h.get 4 x))
def sweepX (prot : List Id) : Ex × Env × Heap → Option (Ex × Env × Heap)
  | (.normal, e, h) => some (.normal, e, sweep prot e h)
  | x => some x
def dropO (D : List (Nat × List Nat)) : Operand → Env → Env
  | .tmp t, e => if (D.getD (2 * t + 1) (0, [])).1 = 0 then e.drop [t] else e
  | _, e => e
def setPs (e : Env) : List Tmp → List AV → Env
  | p :: ps, x :: xs => setPs (e.set p x) ps xs
  | _, _ => e
def tupL : AV → Option (List AV)
  | .tuple xs => some xs
  | _ => none
def seqL : AV → Option (List AV)
  | .newbx xs => some xs
  | _ => none
def arounds (prot : List Id) (asg body : Env → Heap → Option (Ex × Env × Heap)) (e0 : Env) (ps : List Tmp) : List AV → Heap → Option Heap
  | [], h => some h
  | y :: ys, h => (tupL y).bind fun xs => if xs.length = ps.length then (asg (setPs e0 ps xs) h).bind fun (x, e1, h1) => match x with
      | .normal => (body e1 h1).bind fun (x2, _, h2) => match x2 with
        | .normal => arounds prot asg body e0 ps ys (sweep prot e0 h2)
        | _ => none
      | _ => none
    else none
def seqH (h : Heap) (cap : List AV) : Heap := freezeAll h ((cap.map (borrowed h.get 4)).flatten)
def exec (C : Cfg) (cp : CallP) (ci : CallI) (lvl : Nat) (prot : List Id) (D : List (Nat × List Nat)) (n : Nat) : Code → Env → Heap → Option (Ex × Env × Heap)
  | .skip, e, h => some (.normal, e, h)
  | .label _, e, h => some (.normal, e, h)
  | .region id ⟨ops⟩ false, e, h => (aops P C cp ci lvl ops ops e h).bind fun (e', h') => (post lvl prot (D.getD (2 * id) (0, [])).2 (e'.drop (D.getD (2 * id) (0, [])).2) h').bind fun (e', h') => some (.normal, e', h')
  | .region id ⟨ops⟩ true, e, h => (aopsW P C cp ci lvl ops (D.getD (2 * id) (0, [])).1 e h).bind fun (e', h') => (post lvl prot (D.getD (2 * id) (0, [])).2 (e'.drop (D.getD (2 * id) (0, [])).2) h').bind fun (e', h') => some (.normal, e', h')
  | .seq a b, e, h => (exec C cp ci lvl prot D n a e h).bind fun (x, e', h') => match x with
    | .normal => exec C cp ci lvl prot D n b e' h'
    | x => some (x, e', h')
  | .cond c a b, e, h => (opnd e.get c).bind fun y => match y with
    | .v (.bool t) => if t = true then (exec C cp ci lvl prot D n a (dropO D c e) h).bind (sweepX prot) else (exec C cp ci lvl prot D n b (dropO D c e) h).bind (sweepX prot)
    | _ => none
  | .block id c, e, h => (exec C cp ci lvl prot D n c e h).bind fun (x, e', h') => match x with
    | .exit j => if j = id then (post lvl prot (D.getD (2 * id + 1) (0, [])).2 (e'.drop (D.getD (2 * id + 1) (0, [])).2) h').bind fun (e', h') => some (.normal, e', h') else some (.exit j, e', h')
    | .normal => (post lvl prot (D.getD (2 * id + 1) (0, [])).2 (e'.drop (D.getD (2 * id + 1) (0, [])).2) h').bind fun (e', h') => some (.normal, e', h')
    | .ret => some (.ret, e', h')
  | .loop c, e, h => aloop prot (exec C cp ci lvl prot D n c) n e h
  | .scope c, e, h => exec C cp ci lvl prot D n c e h
  | .exit id, e, h => some (.exit id, e, h)
  | .ret, e, h => some (.ret, e, h)
  | .rangeFunc g ⟨ps⟩ asg body, e, h => (opnd e.get g).bind fun gv => (fnOf gv).bind fun (k, first, cap) => (optL (exportV h.get 4) cap).bind fun xs =>
      if first.isEmpty = true then (ci 0 k xs (seqH h cap)).bind fun (r, _) => (seqL r).bind fun ys =>
        (arounds (keys (seqH h cap)) (exec C cp ci lvl (keys (seqH h cap)) D n asg) (exec C cp ci lvl (keys (seqH h cap)) D n body) e ps ys (seqH h cap)).bind fun h' => some (.normal, e, h') else none
  | _, _, _ => none
def initE : Nat → List AV → Env
  | _, [] => []
  | k, x :: xs => (k, x) :: initE (k + 1) xs
def resultV (e : Env) (h : Heap) : ResultVar → Option AV
  | .tmp t => e.get t
  | .cell t ty => (e.get t).bind fun p => aload P h.get ty p
structure FInfo where
  code : Code
  results : List ResultVar
  types : List TypeId
def one (rs : List AV) : AV :=
  match rs with
  | [r] => r
  | rs => .tuple rs
def typedL : List TypeId → List AV → List AV
  | t :: ts, x :: xs => typed P t x :: typedL ts xs
  | _, xs => xs
def bodyP (C : Cfg) (cp : CallP) (ci : CallI) (n : Nat) (D : List (Nat × List Nat)) (i : FInfo) (args : List AV) : Option AV :=
  (exec P C cp ci 0 [] D n i.code (initE 0 args) []).bind fun (x, e, h) => match x with
    | .exit _ => none
    | _ => (optL (resultV P e h) i.results).bind fun rs => (mapSt (exportR (freezeAll h ((rs.map (toFreeze h.get 4)).flatten)).get 4) rs []).bind fun (ys, _) => some (one (typedL P i.types ys))
def bodyI (C : Cfg) (cp : CallP) (ci : CallI) (n : Nat) (D : List (Nat × List Nat)) (i : FInfo) (lvl : Nat) (args : List AV) (h : Heap) : Option (AV × Heap) :=
  (exec P C cp ci lvl (keys h) D n i.code (initE 0 args) h).bind fun (x, e, h') => match x with
    | .exit _ => none
    | _ => (optL (resultV P e h') i.results).bind fun rs => some (one rs, sweep (keys h) [(0, one rs)] h')
end
end Go.Av
