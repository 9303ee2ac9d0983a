/- An interpreter of the translation's code, deterministic and without a world: values, a small heap, operations, code. Definitions alone, in a form that the kernel is quick at; that it is sound is proved in the texts behind it. -/
import GoSem.Step
namespace Go.Ax

/-! ### 1. Maps from numbers -/
inductive Map (α : Type) where
  | leaf
  | node (v : Option α) (l r : Map α)

namespace Map
variable {α : Type}
noncomputable def get (m : Map α) : Nat → Option α :=
  Map.rec (motive := fun _ => Nat → Option α) (fun _ => none)
    (fun v _ _ l r i => Bool.rec (Bool.rec (r (Nat.sub (Nat.div i 2) 1)) (l (Nat.div i 2)) (Nat.beq (Nat.mod i 2) 1)) v (Nat.beq i 0)) m
noncomputable def one (v : Option α) (f : Nat) : Nat → Map α :=
  Nat.rec (motive := fun _ => Nat → Map α) (fun _ => .leaf)
    (fun _ ih i => Bool.rec (Bool.rec (.node none .leaf (ih (Nat.sub (Nat.div i 2) 1))) (.node none (ih (Nat.div i 2)) .leaf) (Nat.beq (Nat.mod i 2) 1)) (.node v .leaf .leaf) (Nat.beq i 0)) f
/-- `put w m i`: w at i (`none`: nothing there). -/
noncomputable def put (w : Option α) (m : Map α) : Nat → Map α :=
  Map.rec (motive := fun _ => Nat → Map α) (fun i => one w (Nat.succ i) i)
    (fun v l0 r0 l r i => Bool.rec (Bool.rec (.node v l0 (r (Nat.sub (Nat.div i 2) 1))) (.node v (l (Nat.div i 2)) r0) (Nat.beq (Nat.mod i 2) 1)) (.node w l0 r0) (Nat.beq i 0)) m
/-- what stands at some numbers alone -/
noncomputable def upto (m : Map α) : (Nat → Bool) → Map α :=
  Map.rec (motive := fun _ => (Nat → Bool) → Map α) (fun _ => .leaf)
    (fun v _ _ l r p => .node (Bool.rec none v (p 0)) (l fun k => p (Nat.succ (Nat.mul 2 k))) (r fun k => p (Nat.succ (Nat.succ (Nat.mul 2 k))))) m
noncomputable def union (m : Map α) : Map α → Map α :=
  Map.rec (motive := fun _ => Map α → Map α) (fun m => m)
    (fun v l0 r0 l r m => match m with
      | .leaf => .node v l0 r0
      | .node v' l' r' => .node (match v with | some x => some x | none => v') (l l') (r r')) m
end Map

/-! ### 2. Values, objects -/
inductive AV where
  | bool (b : Bool)
  | int (k : IntKind) (n : Int)
  | str (s : ByteArray)
  | nilp
  /-- the address of a cell of object `id`, as it was grown `g` times -/
  | ptr (id g off : Nat)
  /-- the address of a cell of a row that never changes -/
  | iptr (cs : List AV) (off : Nat)
  | nils
  /-- a slice of n elements that never changes: its cells; `cap`: its capacity, where it is known -/
  | imm (cs : List AV) (n : Nat) (cap : Option Nat)
  /-- a slice of object `id`: from cell `off` on, `es` cells an element; `ex`: the capacity is just `cap` (else: at least) -/
  | ref (id g off es len cap : Nat) (ex : Bool)
  | agg (cs : List AV)
  | tup (vs : List AV)
  | func (f : Nat)
  | mapr (id : Nat)
  deriving Inhabited

inductive AObj where
  | row (g : Nat) (cells : List AV)
  | map (es : List (AV × AV))
  deriving Inhabited

abbrev Heap := Map AObj
abbrev Env := Map AV

def undefA : AV := .tup []

/-- a cell that leads to no object -/
def AV.flat : AV → Bool
  | .ref .. => false
  | .ptr .. => false
  | .mapr _ => false
  | .agg _ => false
  | .tup _ => false
  | _ => true

noncomputable def allB {α : Type} (f : α → Bool) (l : List α) : Bool := List.rec (motive := fun _ => Bool) true (fun x _ ih => Bool.rec false ih (f x)) l

/-- a value that leads to no object -/
noncomputable def AV.plain1 : AV → Bool
  | .agg cs => allB AV.flat cs
  | v => v.flat
noncomputable def AV.plain : AV → Bool
  | .tup vs => allB AV.plain1 vs
  | v => v.plain1

/-- is it a tuple? -/
def AV.isTup : AV → Bool
  | .tup _ => true
  | _ => false

/-- is it a value of one cell? -/
def AV.one : AV → Bool
  | .agg _ => false
  | .tup _ => false
  | _ => true

/-- its cells -/
def AV.cells? : AV → Option (List AV)
  | .agg cs => some cs
  | .tup _ => none
  | v => some [v]

noncomputable def mapO {α β : Type} (f : α → Option β) (l : List α) : Option (List β) :=
  List.rec (motive := fun _ => Option (List β)) (some [])
    (fun x _ ih => match f x with
      | none => none
      | some y => match ih with
        | none => none
        | some ys => some (y :: ys)) l

/-- the first n cells -/
noncomputable def first (cells : List AV) : Nat → Option (List AV) :=
  List.rec (motive := fun _ => Nat → Option (List AV)) (fun n => Bool.rec none (some []) (Nat.beq n 0))
    (fun x _ ih n => Bool.rec (match ih (Nat.pred n) with | some l => some (x :: l) | none => none) (some []) (Nat.beq n 0)) cells
/-- `n` cells from `off` on -/
noncomputable def cut (cells : List AV) : Nat → Nat → Option (List AV) :=
  List.rec (motive := fun _ => Nat → Nat → Option (List AV)) (fun off n => Bool.rec none (first [] n) (Nat.beq off 0))
    (fun x xs ih off n => Bool.rec (ih (Nat.pred off) n) (first (x :: xs) n) (Nat.beq off 0)) cells
/-- the first cells are others -/
noncomputable def overF (cs : List AV) : List AV → Option (List AV) :=
  List.rec (motive := fun _ => List AV → Option (List AV)) (fun cells => some cells)
    (fun y _ ih cells => match cells with
      | [] => none
      | _ :: xs => match ih xs with
        | some l => some (y :: l)
        | none => none) cs
/-- the cells from `off` on are others -/
noncomputable def over (cells : List AV) : Nat → List AV → Option (List AV) :=
  List.rec (motive := fun _ => Nat → List AV → Option (List AV)) (fun off cs => Bool.rec none (overF cs []) (Nat.beq off 0))
    (fun x xs ih off cs => Bool.rec (match ih (Nat.pred off) cs with | some l => some (x :: l) | none => none) (overF cs (x :: xs)) (Nat.beq off 0)) cells

def rows (n : Nat) (zero : List AV) : List AV := (List.replicate n zero).flatten

/-! Arithmetic that the kernel is quick at. -/
def inR (k : IntKind) (n : Int) : Bool := match n with
  | .ofNat m => Nat.blt m (match k with | .i8 => 128 | .i16 => 32768 | .i32 => 2147483648 | .i64 => 9223372036854775808 | .u8 => 256 | .u16 => 65536 | .u32 => 4294967296 | .u64 => 18446744073709551616)
  | .negSucc m => Nat.blt m (match k with | .i8 => 128 | .i16 => 32768 | .i32 => 2147483648 | .i64 => 9223372036854775808 | _ => 0)
def wrapA (k : IntKind) (n : Int) : Int := bif inR k n then n else k.wrap n
def ltA (x y : Int) : Bool := match x, y with
  | .ofNat a, .ofNat b => Nat.blt a b
  | .negSucc _, .ofNat _ => true
  | .ofNat _, .negSucc _ => false
  | .negSucc a, .negSucc b => Nat.blt b a
def eqA (x y : Int) : Bool := match x, y with
  | .ofNat a, .ofNat b => Nat.beq a b
  | .negSucc a, .negSucc b => Nat.beq a b
  | _, _ => false
def eqK : IntKind → IntKind → Bool
  | .i8, .i8 | .i16, .i16 | .i32, .i32 | .i64, .i64 | .u8, .u8 | .u16, .u16 | .u32, .u32 | .u64, .u64 => true
  | _, _ => false
/-- an index of n elements -/
def ixA (i : Int) (n : Nat) : Option Nat := match i with
  | .ofNat m => bif Nat.blt m n then some m else none
  | .negSucc _ => none
/-- a bound from 0 to n -/
def bdA (i : Int) (n : Nat) : Option Nat := match i with
  | .ofNat m => bif Nat.ble m n then some m else none
  | .negSucc _ => none

/-- a scalar's kind; what is compared -/
inductive Leaf where
  | int | bool | str
inductive EqT where
  | one (l : Leaf)
  | slice
  | agg (ls : List Leaf)
/-- equality of scalars, of cells -/
def eqS (l : Leaf) (a b : AV) : Option Bool := match l with
  | .int => match a with
    | .int k n => match b with
      | .int k' m => bif eqK k k' then some (eqA n m) else none
      | _ => none
    | _ => none
  | .bool => match a with
    | .bool x => match b with
      | .bool y => some (x == y)
      | _ => none
    | _ => none
  | .str => match a with
    | .str x => match b with
      | .str y => some (x == y)
      | _ => none
    | _ => none
noncomputable def eqL (ls : List Leaf) : List AV → List AV → Option Bool :=
  List.rec (motive := fun _ => List AV → List AV → Option Bool) (fun a b => match a with | [] => (match b with | [] => some true | _ :: _ => none) | _ :: _ => none)
    (fun l _ ih a b => match a with
      | [] => none
      | x :: xs => match b with
        | [] => none
        | y :: ys => match eqS l x y with
          | none => none
          | some u => match ih xs ys with
            | none => none
            | some c => some (u && c)) ls
noncomputable def eqV (t : EqT) (x y : AV) : Option Bool := match t with
  | .one l => eqS l x y
  | .agg ls => match x with
    | .agg a => match y with
      | .agg b => eqL ls a b
      | _ => none
    | _ => none
  | .slice => match x with
    | .nils => match y with
      | .nils => some true
      | .imm .. => some false
      | .ref .. => some false
      | _ => none
    | .imm .. => match y with
      | .nils => some false
      | _ => none
    | .ref .. => match y with
      | .nils => some false
      | _ => none
    | _ => none

/-! ### 3. To what never changes -/
/-- a value, all that it leads to put into trees; `none`: it leads to an address. -/
noncomputable def toImm (d : Nat) : Heap → AV → Option AV :=
  Nat.rec (motive := fun _ => Heap → AV → Option AV) (fun _ _ => none)
    (fun _ ih H v => match v with
      | .ref id g off es len cap ex => match H.get id with
        | some (.row g' cells) => bif Nat.beq g' g then match cut cells off (Nat.mul len es) with
            | some cs => match mapO (ih H) cs with
              | some cs => some (.imm cs len (Bool.rec none (some cap) ex))
              | none => none
            | none => none
          else none
        | _ => none
      | .agg cs => match mapO (ih H) cs with
        | some cs => some (.agg cs)
        | none => none
      | .tup cs => match mapO (ih H) cs with
        | some cs => some (.tup cs)
        | none => none
      | .ptr .. => none
      | .mapr _ => none
      | v => some v) d
/-- the objects that a value leads to -/
noncomputable def idsOf (d : Nat) : Heap → AV → List Nat :=
  Nat.rec (motive := fun _ => Heap → AV → List Nat) (fun _ _ => [])
    (fun _ ih H v => match v with
      | .ref id _ off es len _ _ => match H.get id with
        | some (.row _ cells) => id :: (match cut cells off (Nat.mul len es) with | some cs => cs.flatMap (ih H) | none => [])
        | _ => [id]
      | .agg cs => cs.flatMap (ih H)
      | .tup cs => cs.flatMap (ih H)
      | _ => []) d
/-- Is a value all of objects of its own, and of scalars? (Nothing of it leads to a row that never changes.) -/
noncomputable def own (d : Nat) : Heap → AV → Bool :=
  Nat.rec (motive := fun _ => Heap → AV → Bool) (fun _ _ => false)
    (fun _ ih H v => match v with
      | .ref id _ off es len _ _ => match H.get id with
        | some (.row _ cells) => match cut cells off (Nat.mul len es) with | some cs => allB (ih H) cs | none => false
        | _ => false
      | .agg cs => allB (ih H) cs
      | .tup cs => allB (ih H) cs
      | .imm cs _ _ => match cs with | [] => true | _ :: _ => false
      | .iptr .. => false
      | .ptr .. => false
      | .mapr _ => false
      | _ => true) d
def deep : Nat := 30

/-! ### 4. Operations -/
inductive Opd where
  | t (n : Nat)
  | c (v : AV)
  deriving Inhabited

inductive Mode where
  /-- the callee gets the heap -/
  | share
  /-- the callee gets trees and a heap of its own; what it gives is made a tree -/
  | borrow

inductive AOp where
  | mv (x : Opd)
  | pick (c a b : Opd)
  | alloc (zero : List AV)
  | box (x : Opd)
  | build (zero : List AV) (parts : List (Nat × Nat × Opd))
  | bslice (es len : Nat) (zero : List AV) (parts : List (Nat × Nat × Opd))
  /-- a literal that never changes -/
  | islice (len : Nat) (zero : List AV) (parts : List (Nat × Nat × Opd))
  | load (sz : Option Nat) (a : Opd)
  | store (sz : Nat) (a x : Opd)
  | nilck (x : Opd)
  | bin (op : BinOp) (x y : Opd)
  | eq (t : EqT) (neg : Bool) (x y : Opd)
  | un (op : UnOp) (x : Opd)
  | conv (k : IntKind) (x : Opd)
  | mksl (es bytes : Nat) (zero : List AV) (n : Opd)
  | slstr (x : Opd) (lo hi : Option Opd)
  | slsl (es : Nat) (x : Opd) (lo hi mx : Option Opd)
  | slarr (n es : Nat) (x : Opd) (lo hi mx : Option Opd)
  | faddr (off : Nat) (x : Opd)
  | fld (off : Nat) (sz : Option Nat) (x : Opd)
  | iaddr (es : Nat) (x i : Opd)
  | iarr (len es : Nat) (x i : Opd)
  | idx (x i : Opd)
  | ext (i : Nat) (x : Opd)
  | app (es bytes : Nat) (s x : Opd)
  | cpy (es : Nat) (d s : Opd)
  | clr (es : Nat) (zero : List AV) (x : Opd)
  | len (str : Bool) (x : Opd)
  | mnx (mx : Bool) (xs : List Opd)
  | mkmap
  | mlook (t : EqT) (zero : AV) (ok : Bool) (m k : Opd)
  | mset (t : EqT) (m k v : Opd)
  | mlen (m : Opd)
  | call (f : Nat) (args : List Opd) (m : Mode)
  | callv (f : Opd) (args : List Opd) (m : Mode)
  deriving Inhabited

structure AOper where
  dst : Option Nat
  op : AOp
  gd : Option (Nat × Bool)
  /-- what its operands lead to is made a tree first -/
  fz : Bool
  deriving Inhabited

abbrev o (d : Nat) (op : AOp) : AOper := ⟨some d, op, none, false⟩
abbrev i64 (n : Int) : Opd := .c (.int .i64 n)

inductive ACode where
  | skip
  | reg (ops : List AOper)
  /-- a region of open order: of each operation which ones come ahead of it whatever the order; which pairs are to be looked at -/
  | dreg (ops : List AOper) (ahead : List (List Nat)) (pairs : List (Nat × Nat))
  | seq (a b : ACode)
  | cond (c : Opd) (a b : ACode)
  | block (id : Nat) (c : ACode)
  | loop (c : ACode)
  | exit (id : Nat)
  | ret
  deriving Inhabited

inductive ARes where
  | tmp (t : Nat)
  | cell (t : Nat) (sz : Option Nat)

structure AFunc where
  params : Nat
  nt : Nat
  res : List ARes
  body : ACode

/-- A part of an object's cells, as grown so often. -/
structure Rng where
  id : Nat
  g : Nat
  off : Nat
  len : Nat

/-- What an operation comes to: its value (by the number of a new object), what its object is now, a new object. -/
structure Out where
  val : Nat → AV
  obj : Option AObj
  new : Option AObj

/-- What an operation looks at (a part of an object; an object, which it may change), and what it makes of it. -/
inductive Plan where
  | val (v : AV)
  | new (val : Nat → AV) (o : AObj)
  | look (q : Option Rng) (u : Option Nat) (k : List AV → Option AObj → Option Out)

abbrev pureP (v : AV) : Plan := .val v
def pureO (v : Option AV) : Option Plan := match v with | some v => some (.val v) | none => none
abbrev newP (val : Nat → AV) (o : AObj) : Plan := .new val o
/-- an operation on the cells of an object, as grown g times -/
def rowK (g : Nat) (k : List AV → Option Out) : Option AObj → Option Out
  | some (.row g' cells) => bif Nat.beq g' g then k cells else none
  | _ => none

def most : Nat := 70368744177664

def mkv (sz : Option Nat) (cs : List AV) : Option AV := match sz with
  | none => match cs with | [v] => some v | _ => none
  | some _ => some (.agg cs)

noncomputable def fill (ρ : Opd → AV) (parts : List (Nat × Nat × Opd)) : List AV → Option (List AV) :=
  List.rec (motive := fun _ => List AV → Option (List AV)) (fun cells => some cells)
    (fun p _ ih cells => match (ρ p.2.2).cells? with
      | none => none
      | some cs => bif Nat.beq cs.length p.2.1 then match over cells p.1 cs with
          | some cells => ih cells
          | none => none
        else none) parts

def shiftA (op : BinOp) (k : IntKind) (x y : Int) : Option AV :=
  bif ltA y 0 then none else match op with
    | .shl => some (.int k (k.wrap (x * 2 ^ min y.toNat k.bits)))
    | .shr => some (.int k (x.fdiv (2 ^ min y.toNat k.bits)))
    | _ => none

def intA (op : BinOp) (k : IntKind) (x y : Int) : Option AV :=
  match op with
  | .add => some (.int k (wrapA k (x + y)))
  | .sub => some (.int k (wrapA k (x - y)))
  | .mul => some (.int k (wrapA k (x * y)))
  | .quo => bif eqA y 0 then none else some (.int k (wrapA k (x.tdiv y)))
  | .rem => bif eqA y 0 then none else some (.int k (x.tmod y))
  | .and => some (.int k (k.wrap (BitVec.ofInt k.bits x &&& BitVec.ofInt k.bits y).toNat))
  | .or => some (.int k (k.wrap (BitVec.ofInt k.bits x ||| BitVec.ofInt k.bits y).toNat))
  | .xor => some (.int k (k.wrap (BitVec.ofInt k.bits x ^^^ BitVec.ofInt k.bits y).toNat))
  | .andNot => some (.int k (k.wrap (BitVec.ofInt k.bits x &&& ~~~BitVec.ofInt k.bits y).toNat))
  | .eql => some (.bool (eqA x y))
  | .neq => some (.bool !(eqA x y))
  | .lss => some (.bool (ltA x y))
  | .leq => some (.bool !(ltA y x))
  | .gtr => some (.bool (ltA y x))
  | .geq => some (.bool !(ltA x y))
  | .shl => none
  | .shr => none

def strA (op : BinOp) (x y : ByteArray) : Option AV :=
  match op with
  | .add => bif Nat.ble (x.size + y.size) most then some (.str (x ++ y)) else none
  | .eql => some (.bool (x.toList == y.toList))
  | .neq => some (.bool !(x.toList == y.toList))
  | .lss => some (.bool (Op.bytesLess x.toList y.toList))
  | .leq => some (.bool (Op.bytesLess x.toList y.toList || x.toList == y.toList))
  | .gtr => some (.bool !(Op.bytesLess x.toList y.toList || x.toList == y.toList))
  | .geq => some (.bool !(Op.bytesLess x.toList y.toList))
  | _ => none

def binA (op : BinOp) (x y : AV) : Option AV := match x with
  | .int k a => match y with
    | .int k' b => match op with
      | .shl => shiftA .shl k a b
      | .shr => shiftA .shr k a b
      | op => bif eqK k k' then intA op k a b else none
    | _ => none
  | .str a => match y with
    | .str b => strA op a b
    | _ => none
  | _ => none

def unA (op : UnOp) (x : AV) : Option AV := match op with
  | .neg => match x with | .int k n => some (.int k (wrapA k (0 - n))) | _ => none
  | .not => match x with | .bool b => some (.bool !b) | _ => none
  | .xor => match x with | .int k n => intA .xor k (if k.signed then -1 else k.max) n | _ => none
  | .plus => none

def mnA (mx : Bool) : AV → List AV → Option AV
  | v, [] => some v
  | .int k a, .int _ b :: rest => mnA mx (.int k (match mx with | true => (bif ltA a b then b else a) | false => (bif ltA b a then b else a))) rest
  | _, _ => none

/-- a bound of a slice expression: from 0 to `y` -/
def bnd (ρ : Opd → AV) (x : Option Opd) (other y : Nat) : Option Nat := match x with
  | none => some other
  | some o => match ρ o with
    | .int _ i => bdA i y
    | _ => none
/-- low, high and what lies behind -/
def bnds (ρ : Opd → AV) (lo hi mx : Option Opd) (len cap : Nat) : Option (Nat × Nat × Nat) := match bnd ρ mx cap cap with
  | none => none
  | some m => match bnd ρ hi len m with
    | none => none
    | some h => match bnd ρ lo 0 h with
      | none => none
      | some l => some (l, h, m)

/-- a slice's elements: how many; its cells, or where they are -/
inductive Src where
  | list (cs : List AV)
  | rng (r : Rng)
def srcOf (es : Nat) : AV → Option (Nat × Src)
  | .nils => some (0, .list [])
  | .imm cs n _ => bif Nat.beq (Nat.mul n es) cs.length then some (n, .list cs) else none
  | .ref id g off es' len _ _ => bif Nat.beq es' es then some (len, .rng ⟨id, g, off, Nat.mul len es⟩) else none
  | _ => none
def Src.q : Src → Option Rng
  | .rng r => some r
  | .list _ => none
def Src.cs : Src → List AV → List AV
  | .list cs, _ => cs
  | .rng _, a => a

def isSl : AV → Bool
  | .nils => true
  | .imm .. => true
  | .ref .. => true
  | _ => false

noncomputable def appRef (es : Nat) (id g off len cap : Nat) (ex : Bool) (m : Nat) (src : Src) : Plan :=
  bif Nat.ble (Nat.add len m) cap then
    .look src.q (some id) (fun a => rowK g fun cells => match over cells (Nat.add off (Nat.mul len es)) (src.cs a) with
      | some cells' => some ⟨fun _ => .ref id g off es (Nat.add len m) cap ex, some (.row g cells'), none⟩
      | none => none)
  else bif ex then
    .look src.q (some id) (fun a => rowK g fun cells => match cut cells off (Nat.mul len es) with
      | some cs => some ⟨fun id => .ref id 0 0 es (Nat.add len m) (Nat.add len m) false, none, some (.row 0 (cs ++ src.cs a))⟩
      | none => none)
  else
    .look src.q (some id) (fun a => rowK g fun cells => bif Nat.beq (Nat.add off (Nat.mul len es)) cells.length then
        some ⟨fun _ => .ref id (Nat.succ g) 0 es (Nat.add len m) (Nat.add len m) false, some (.row (Nat.succ g) (cells.drop off ++ src.cs a)), none⟩
      else none)

noncomputable def appA (es bytes : Nat) (s x : AV) : Option Plan := match srcOf es x with
  | none => none
  | some (m, src) => bif Nat.beq m 0 then (bif isSl s then some (pureP s) else none) else
    match s with
    | .nils => bif Nat.ble (Nat.mul m bytes) most && Nat.ble m most then
        some (.look src.q none fun a _ => some ⟨fun id => .ref id 0 0 es m m false, none, some (.row 0 (src.cs a))⟩) else none
    | .imm cs n (some c) => bif Nat.blt c (Nat.add n m) && Nat.beq (Nat.mul n es) cs.length && Nat.ble (Nat.mul (Nat.add n m) bytes) most && Nat.ble (Nat.add n m) most then
        some (.look src.q none fun a _ => some ⟨fun id => .ref id 0 0 es (Nat.add n m) (Nat.add n m) false, none, some (.row 0 (cs ++ src.cs a))⟩) else none
    | .ref id g off es' len cap ex => bif Nat.beq es' es && Nat.ble (Nat.mul (Nat.add len m) bytes) most && Nat.ble (Nat.add len m) most then
        some (appRef es id g off len cap ex m src) else none
    | _ => none

noncomputable def cpyA (es : Nat) (d s : AV) : Option Plan := match srcOf es s with
  | none => none
  | some (m, src) => match d with
    | .nils => some (pureP (.int .i64 0))
    | .ref id g off es' len _ _ => bif Nat.beq es' es then
        some (.look src.q (some id) fun a => rowK g fun cells => match first (src.cs a) (Nat.mul (min m len) es) with
          | some cs => match over cells off cs with
            | some cells' => some ⟨fun _ => .int .i64 (min m len), some (.row g cells'), none⟩
            | none => none
          | none => none) else none
    | _ => none

noncomputable def slA (es : Nat) (ρ : Opd → AV) (x : AV) (lo hi mx : Option Opd) : Option AV := match x with
  | .nils => match bnds ρ lo hi mx 0 0 with
    | none => none
    | some _ => some .nils
  | .imm cs n cap => bif Nat.beq (Nat.mul n es) cs.length then match bnds ρ lo hi mx n n with
    | none => none
    | some (l, h, m) => match cut cs (Nat.mul l es) (Nat.mul (Nat.sub h l) es) with
      | some cs' => some (.imm cs' (Nat.sub h l) (match mx with | some _ => some (Nat.sub m l) | none => match cap with | some c => some (Nat.sub c l) | none => none))
      | none => none
    else none
  | .ref id g off es' len cap ex => bif Nat.beq es' es then match bnds ρ lo hi mx len cap with
    | none => none
    | some (l, h, m) => some (.ref id g (Nat.add off (Nat.mul l es)) es (Nat.sub h l) (Nat.sub m l) (match mx with | some _ => true | none => ex))
    else none
  | _ => none

noncomputable def findA (t : EqT) (k : AV) (es : List (AV × AV)) : Nat → Option (Option (Nat × AV)) :=
  List.rec (motive := fun _ => Nat → Option (Option (Nat × AV))) (fun _ => some none)
    (fun p _ ih i => match eqV t k p.1 with
      | none => none
      | some true => some (some (i, p.2))
      | some false => ih (Nat.succ i)) es

def loadA (sz : Option Nat) : Nat := match sz with | none => 1 | some n => n

/-! the operations, one by one -/
section
variable (ρ : Opd → AV)
def pPick (c a b : Opd) : Option Plan := match ρ c with
  | .bool t => match t with
    | true => some (pureP (ρ a))
    | false => some (pureP (ρ b))
  | _ => none
def pBox (x : Opd) : Option Plan := match (ρ x).cells? with
  | some cs => some (newP (fun id => .ptr id 0 0) (.row 0 cs))
  | none => none
noncomputable def pBuild (zero : List AV) (parts : List (Nat × Nat × Opd)) : Option Plan := match fill ρ parts zero with
  | some cs => some (pureP (.agg cs))
  | none => none
noncomputable def pBslice (es len : Nat) (zero : List AV) (parts : List (Nat × Nat × Opd)) : Option Plan := match fill ρ parts zero with
  | some cs => some (newP (fun id => .ref id 0 0 es len len false) (.row 0 cs))
  | none => none
noncomputable def pIslice (len : Nat) (zero : List AV) (parts : List (Nat × Nat × Opd)) : Option Plan := match fill ρ parts zero with
  | some cs => bif allB AV.flat cs then some (pureP (.imm cs len (some len))) else none
  | none => none
noncomputable def pLoad (sz : Option Nat) (a : Opd) : Option Plan := match ρ a with
  | .ptr id g off => some (.look (some ⟨id, g, off, loadA sz⟩) none fun cs _ => match mkv sz cs with | some v => some ⟨fun _ => v, none, none⟩ | none => none)
  | .iptr cs off => match cut cs off (loadA sz) with
    | some cs => pureO (mkv sz cs)
    | none => none
  | _ => none
noncomputable def pStore (sz : Nat) (a x : Opd) : Option Plan := match ρ a with
  | .ptr id g off => match (ρ x).cells? with
    | some cs => bif Nat.beq cs.length sz then
        some (.look none (some id) fun _ => rowK g fun cells => match over cells off cs with
          | some cells' => some ⟨fun _ => undefA, some (.row g cells'), none⟩
          | none => none) else none
    | none => none
  | _ => none
def pNilck (x : Opd) : Option Plan := match ρ x with
  | .ptr id g off => some (pureP (.ptr id g off))
  | .iptr cs off => some (pureP (.iptr cs off))
  | .func f => some (pureP (.func f))
  | _ => none
noncomputable def pEq (t : EqT) (neg : Bool) (x y : Opd) : Option Plan := match eqV t (ρ x) (ρ y) with
  | some b => some (pureP (.bool (match neg with | true => !b | false => b)))
  | none => none
def pConv (k : IntKind) (x : Opd) : Option Plan := match ρ x with
  | .int _ n => some (pureP (.int k (wrapA k n)))
  | _ => none
def pMksl (es bytes : Nat) (zero : List AV) (n : Opd) : Option Plan := match ρ n with
  | .int k m => match bdA m most with
    | some m => bif eqK k .i64 && Nat.ble (Nat.mul m bytes) most then some (newP (fun id => .ref id 0 0 es m m false) (.row 0 (rows m zero))) else none
    | none => none
  | _ => none
def pSlstr (x : Opd) (lo hi : Option Opd) : Option Plan := match ρ x with
  | .str s => match bnds ρ lo hi none s.size s.size with
    | none => none
    | some (l, h, _) => some (pureP (.str (s.extract l h)))
  | _ => none
def pSlarr (n es : Nat) (x : Opd) (lo hi mx : Option Opd) : Option Plan := match ρ x with
  | .ptr id g off => match bnds ρ lo hi mx n n with
    | none => none
    | some (l, h, m) => some (.look (some ⟨id, g, off, Nat.mul n es⟩) none fun _ _ => some ⟨fun _ => .ref id g (Nat.add off (Nat.mul l es)) es (Nat.sub h l) (Nat.sub m l) true, none, none⟩)
  | _ => none
def pFaddr (off : Nat) (x : Opd) : Option Plan := match ρ x with
  | .ptr id g o => some (pureP (.ptr id g (Nat.add o off)))
  | .iptr cs o => some (pureP (.iptr cs (Nat.add o off)))
  | _ => none
noncomputable def pFld (off : Nat) (sz : Option Nat) (x : Opd) : Option Plan := match ρ x with
  | .agg cs => match cut cs off (loadA sz) with
    | some cs => pureO (mkv sz cs)
    | none => none
  | _ => none
def pIaddr (es : Nat) (x i : Opd) : Option Plan := match ρ i with
  | .int _ i => match ρ x with
    | .imm cs n _ => match ixA i n with
      | some i => match cs with
        | [] => none
        | _ :: _ => some (pureP (.iptr cs (Nat.mul i es)))
      | none => none
    | .ref id g off es' len _ _ => bif Nat.beq es' es then match ixA i len with
      | some i => some (pureP (.ptr id g (Nat.add off (Nat.mul i es))))
      | none => none
      else none
    | _ => none
  | _ => none
def pIarr (len es : Nat) (x i : Opd) : Option Plan := match ρ i with
  | .int _ i => match ixA i len with
    | some i => match ρ x with
      | .ptr id g o => some (pureP (.ptr id g (Nat.add o (Nat.mul i es))))
      | .iptr cs o => some (pureP (.iptr cs (Nat.add o (Nat.mul i es))))
      | _ => none
    | none => none
  | _ => none
def pIdx (x i : Opd) : Option Plan := match ρ x with
  | .str s => match ρ i with
    | .int _ (.ofNat i) => match s[i]? with
      | some b => some (pureP (.int .u8 b.toNat))
      | none => none
    | _ => none
  | _ => none
def pExt (i : Nat) (x : Opd) : Option Plan := match ρ x with
  | .tup vs => pureO vs[i]?
  | _ => none
noncomputable def pClr (es : Nat) (zero : List AV) (x : Opd) : Option Plan := match ρ x with
  | .nils => some (pureP undefA)
  | .ref id g off es' len _ _ => bif Nat.beq es' es then
      some (.look none (some id) fun _ => rowK g fun cells => match over cells off (rows len zero) with
        | some cells' => some ⟨fun _ => undefA, some (.row g cells'), none⟩
        | none => none) else none
  | _ => none
def pLen (str : Bool) (x : Opd) : Option Plan := match str with
  | true => match ρ x with
    | .str s => some (pureP (.int .i64 s.size))
    | _ => none
  | false => match ρ x with
    | .nils => some (pureP (.int .i64 0))
    | .imm _ n _ => some (pureP (.int .i64 n))
    | .ref _ _ _ _ len _ _ => some (pureP (.int .i64 len))
    | _ => none
def pMnx (mx : Bool) (xs : List Opd) : Option Plan := match xs.map ρ with
  | v :: vs => pureO (mnA mx v vs)
  | [] => none
def mapK (k : List (AV × AV) → Option Out) : Option AObj → Option Out
  | some (.map es) => k es
  | _ => none
noncomputable def pMlook (t : EqT) (zero : AV) (ok : Bool) (m k : Opd) : Option Plan := bif (ρ k).isTup then none else match ρ m with
  | .mapr id => some (.look none (some id) fun _ => mapK fun es => match findA t (ρ k) es 0 with
    | none => none
    | some none => some ⟨fun _ => match ok with | true => .tup [zero, .bool false] | false => zero, none, none⟩
    | some (some (_, v)) => some ⟨fun _ => match ok with | true => .tup [v, .bool true] | false => v, none, none⟩)
  | _ => none
noncomputable def pMset (t : EqT) (m k v : Opd) : Option Plan := bif (ρ k).isTup || (ρ v).isTup then none else match ρ m with
  | .mapr id => some (.look none (some id) fun _ => mapK fun es => match findA t (ρ k) es 0 with
    | none => none
    | some none => some ⟨fun _ => undefA, some (.map (es ++ [(ρ k, ρ v)])), none⟩
    | some (some (i, _)) => some ⟨fun _ => undefA, some (.map (es.set i (ρ k, ρ v))), none⟩)
  | _ => none
def pMlen (m : Opd) : Option Plan := match ρ m with
  | .mapr id => some (.look none (some id) fun _ => mapK fun es => some ⟨fun _ => .int .i64 es.length, none, none⟩)
  | _ => none
end

/-- An operation: one without a call (by what it looks at and makes), or a call. -/
inductive OpK where
  | plan (p : (Opd → AV) → Option Plan)
  | call (f : Nat) (args : List Opd) (m : Mode)
  | callv (f : Opd) (args : List Opd) (m : Mode)
noncomputable def kind (op : AOp) : OpK := match op with
  | .mv x => .plan fun ρ => some (pureP (ρ x))
  | .pick c a b => .plan fun ρ => pPick ρ c a b
  | .alloc zero => .plan fun _ => some (newP (fun id => .ptr id 0 0) (.row 0 zero))
  | .box x => .plan fun ρ => pBox ρ x
  | .build zero parts => .plan fun ρ => pBuild ρ zero parts
  | .bslice es len zero parts => .plan fun ρ => pBslice ρ es len zero parts
  | .islice len zero parts => .plan fun ρ => pIslice ρ len zero parts
  | .load sz a => .plan fun ρ => pLoad ρ sz a
  | .store sz a x => .plan fun ρ => pStore ρ sz a x
  | .nilck x => .plan fun ρ => pNilck ρ x
  | .bin op x y => .plan fun ρ => pureO (binA op (ρ x) (ρ y))
  | .eq t neg x y => .plan fun ρ => pEq ρ t neg x y
  | .un op x => .plan fun ρ => pureO (unA op (ρ x))
  | .conv k x => .plan fun ρ => pConv ρ k x
  | .mksl es bytes zero n => .plan fun ρ => pMksl ρ es bytes zero n
  | .slstr x lo hi => .plan fun ρ => pSlstr ρ x lo hi
  | .slsl es x lo hi mx => .plan fun ρ => pureO (slA es ρ (ρ x) lo hi mx)
  | .slarr n es x lo hi mx => .plan fun ρ => pSlarr ρ n es x lo hi mx
  | .faddr off x => .plan fun ρ => pFaddr ρ off x
  | .fld off sz x => .plan fun ρ => pFld ρ off sz x
  | .iaddr es x i => .plan fun ρ => pIaddr ρ es x i
  | .iarr len es x i => .plan fun ρ => pIarr ρ len es x i
  | .idx x i => .plan fun ρ => pIdx ρ x i
  | .ext i x => .plan fun ρ => pExt ρ i x
  | .app es bytes s x => .plan fun ρ => appA es bytes (ρ s) (ρ x)
  | .cpy es d s => .plan fun ρ => cpyA es (ρ d) (ρ s)
  | .clr es zero x => .plan fun ρ => pClr ρ es zero x
  | .len str x => .plan fun ρ => pLen ρ str x
  | .mnx mx xs => .plan fun ρ => pMnx ρ mx xs
  | .mkmap => .plan fun _ => some (newP (fun id => .mapr id) (.map []))
  | .mlook t zero ok m k => .plan fun ρ => pMlook ρ t zero ok m k
  | .mset t m k v => .plan fun ρ => pMset ρ t m k v
  | .mlen m => .plan fun ρ => pMlen ρ m
  | .call f args m => .call f args m
  | .callv f args m => .callv f args m

noncomputable def fetch (H : Heap) : Option Rng → Option (List AV)
  | none => some []
  | some r => match H.get r.id with
    | some (.row g cells) => bif Nat.beq g r.g then cut cells r.off r.len else none
    | _ => none
noncomputable def fetchO (H : Heap) : Option Nat → Option (Option AObj)
  | none => some none
  | some id => match H.get id with
    | some o => some (some o)
    | none => none
noncomputable def setO (H : Heap) (u : Option Nat) (ob : Option AObj) : Heap := match ob with
  | none => H
  | some ob => match u with
    | some id => H.put (some ob) id
    | none => H

noncomputable def runLook (q : Option Rng) (u : Option Nat) (k : List AV → Option AObj → Option Out) (H : Heap) (nx : Nat) : Option (AV × Heap × Nat) := match fetch H q with
  | none => none
  | some a => match fetchO H u with
    | none => none
    | some o => match k a o with
      | none => none
      | some out => match out.new with
        | some ob => some (out.val nx, (setO H u out.obj).put (some ob) nx, Nat.succ nx)
        | none => some (out.val nx, setO H u out.obj, nx)
noncomputable def runPlan (p : Plan) (H : Heap) (nx : Nat) : Option (AV × Heap × Nat) := match p with
  | .val v => some (v, H, nx)
  | .new f o => some (f nx, H.put (some o) nx, Nat.succ nx)
  | .look q u k => runLook q u k H nx

noncomputable def ev (e : Env) : Opd → AV
  | .t n => match e.get n with | some v => v | none => undefA
  | .c v => v

def AOp.opds : AOp → List Opd
  | .mv x | .box x | .load _ x | .nilck x | .un _ x | .conv _ x | .mksl _ _ _ x | .faddr _ x | .fld _ _ x | .ext _ x | .clr _ _ x | .len _ x | .mlen x => [x]
  | .pick c a b => [c, a, b]
  | .alloc _ | .mkmap => []
  | .build _ ps | .bslice _ _ _ ps | .islice _ _ ps => ps.map (·.2.2)
  | .store _ a x | .bin _ a x | .eq _ _ a x | .iaddr _ a x | .iarr _ _ a x | .idx a x | .app _ _ a x | .cpy _ a x | .mlook _ _ _ a x => [a, x]
  | .slstr x l h => x :: (l.toList ++ h.toList)
  | .slsl _ x l h m | .slarr _ _ x l h m => x :: (l.toList ++ h.toList ++ m.toList)
  | .mset _ m k v => [m, k, v]
  | .mnx _ as => as
  | .call _ as _ => as
  | .callv f as _ => f :: as

/-- the heap without some objects -/
noncomputable def drop (H : Heap) : List Nat → Heap
  | [] => H
  | id :: rest => drop (H.put none id) rest

abbrev FnF := Nat → List AV → Heap → Nat → Option (AV × Heap × Nat)

/-- what a callee with a heap of its own gives, made a tree -/
noncomputable def endOwn (r : Option (AV × Heap × Nat)) (must : Bool) : Option AV := match r with
  | none => none
  | some (r, Hc, _) => bif must then (bif own deep Hc r then toImm deep Hc r else none) else (bif r.plain then some r else toImm deep Hc r)
/-- a call, by what calls do -/
noncomputable def doCall (cf : FnF) (f : Nat) (args : List AV) (m : Mode) (H : Heap) (nx : Nat) : Option (AV × Heap × Nat) := match m with
  | .share => cf f args H nx
  | .borrow => bif allB AV.plain args then
      match endOwn (cf f args .leaf 0) false with
      | some r => some (r, H, nx)
      | none => none
    else match mapO (toImm deep H) args with
      | none => none
      | some as => match endOwn (cf f as .leaf 0) true with
        | some r => some (r, H, nx)
        | none => none

/-- an operation that is carried out, its operands' values given -/
noncomputable def doOp (cf : FnF) (op : AOp) (ρ : Opd → AV) (H : Heap) (nx : Nat) : Option (AV × Heap × Nat) := match kind op with
  | .plan p => match p ρ with
    | some p => runPlan p H nx
    | none => none
  | .call f args m => doCall cf f (args.map ρ) m H nx
  | .callv f args m => match ρ f with
    | .func g => doCall cf g (args.map ρ) m H nx
    | _ => none

/-- operands' values, made trees -/
noncomputable def immρ (H : Heap) (ρ : Opd → AV) (x : Opd) : AV := match toImm deep H (ρ x) with
  | some v => v
  | none => ρ x
/-- with its operands made trees first, where that is asked (of a literal that never changes) -/
noncomputable def doFz (cf : FnF) (o : AOper) (ρ : Opd → AV) (H : Heap) (nx : Nat) : Option (AV × Heap × Nat) :=
  bif o.fz then match o.op with
    | .islice len zero parts => match mapO (toImm deep H) (parts.map fun p => ρ p.2.2) with
      | none => none
      | some _ => match pIslice (immρ H ρ) len zero parts with
        | some (.val v) => some (v, drop H ((parts.map fun p => ρ p.2.2).flatMap (idsOf deep H)), nx)
        | _ => none
    | _ => none
  else doOp cf o.op ρ H nx

structure St where
  env : Env
  H : Heap
  nx : Nat

noncomputable def wanted (e : Env) : Option (Nat × Bool) → Bool
  | none => true
  | some (g, b) => match e.get g with
    | some (.bool b') => b' == b
    | _ => false

noncomputable def putD (nt : Nat) (e : Env) (d : Option Nat) (v : AV) : Option Env := match d with
  | none => some e
  | some d => bif Nat.blt d nt then some (e.put (some v) d) else none

noncomputable def runOp (cf : FnF) (nt : Nat) (o : AOper) (st : St) : Option St :=
  bif wanted st.env o.gd then
    match doFz cf o (ev st.env) st.H st.nx with
    | none => none
    | some (v, H, nx) => match putD nt st.env o.dst v with
      | some e => some ⟨e, H, nx⟩
      | none => none
  else match putD nt st.env o.dst undefA with
    | some e => some ⟨e, st.H, st.nx⟩
    | none => none

noncomputable def runOps (cf : FnF) (nt : Nat) (l : List AOper) : St → Option St :=
  List.rec (motive := fun _ => St → Option St) (fun st => some st)
    (fun o _ ih st => match runOp cf nt o st with
      | some st => ih st
      | none => none) l

/-! ### 5. Regions of open order -/
mutual
def eqAV : AV → AV → Bool
  | .bool a, .bool b => a == b
  | .int k a, .int k' b => eqK k k' && eqA a b
  | .str a, .str b => decide (a = b)
  | .nilp, .nilp => true
  | .nils, .nils => true
  | .ptr a b c, .ptr a' b' c' => Nat.beq a a' && Nat.beq b b' && Nat.beq c c'
  | .iptr cs o, .iptr cs' o' => eqAVs cs cs' && Nat.beq o o'
  | .imm cs n c, .imm cs' n' c' => eqAVs cs cs' && Nat.beq n n' && decide (c = c')
  | .ref a b c d e f x, .ref a' b' c' d' e' f' x' => Nat.beq a a' && Nat.beq b b' && Nat.beq c c' && Nat.beq d d' && Nat.beq e e' && Nat.beq f f' && x == x'
  | .agg cs, .agg cs' => eqAVs cs cs'
  | .tup cs, .tup cs' => eqAVs cs cs'
  | .func f, .func f' => Nat.beq f f'
  | .mapr f, .mapr f' => Nat.beq f f'
  | _, _ => false
def eqAVs : List AV → List AV → Bool
  | [], [] => true
  | x :: xs, y :: ys => eqAV x y && eqAVs xs ys
  | _, _ => false
end

/-- what an operation looks at -/
inductive Rd where
  | rng (r : Rng)
  | obj (id : Nat)
  /-- all that was there when the region began -/
  | all
/-- which elder objects an operation may change -/
inductive Tch where
  | ids (l : List Nat)
  | all
/-- An operation of a region, as it was carried out in the text's order. -/
structure Rec where
  rds : List Rd
  tch : Tch
  H0 : Heap
  H1 : Heap
  nx0 : Nat
  nx1 : Nat

def Plan.rds : Plan → List Rd
  | .look q u _ => (match q with | some r => [.rng r] | none => []) ++ (match u with | some id => [.obj id] | none => [])
  | _ => []
def Plan.tch : Plan → List Nat
  | .look _ u _ => (match u with | some id => [id] | none => [])
  | _ => []

abbrev Eff := AV × Heap × Nat × List Rd × Tch

noncomputable def effCall (cf : FnF) (n0 : Nat) (f : Nat) (args : List AV) (m : Mode) (H : Heap) (nx : Nat) : Option Eff := match m with
  | .share => match cf f args (H.upto fun i => Nat.blt i n0) nx with
    | some (v, H', nx') => some (v, (H'.upto fun i => Nat.blt i n0 || (Nat.ble nx i && Nat.blt i nx')).union (H.upto fun i => !(Nat.blt i n0 || (Nat.ble nx i && Nat.blt i nx'))), nx', [.all], .all)
    | none => none
  | .borrow => bif allB AV.plain args then
      match doCall cf f args .borrow H nx with
      | some (v, _, _) => some (v, H, nx, [], .ids [])
      | none => none
    else match doCall cf f args .borrow (H.upto fun i => Nat.blt i n0) nx with
      | some (v, _, _) => some (v, H, nx, [.all], .ids [])
      | none => none

/-- an operation in a region of open order: what it gives, what it looks at, what it may change -/
noncomputable def effOp (cf : FnF) (n0 : Nat) (op : AOp) (ρ : Opd → AV) (H : Heap) (nx : Nat) : Option Eff := match kind op with
  | .plan p => match p ρ with
    | some p => match runPlan p H nx with
      | some (v, H', nx') => some (v, H', nx', p.rds, .ids p.tch)
      | none => none
    | none => none
  | .call f args m => effCall cf n0 f (args.map ρ) m H nx
  | .callv f args m => match ρ f with
    | .func g => effCall cf n0 g (args.map ρ) m H nx
    | _ => none

noncomputable def effFz (cf : FnF) (n0 : Nat) (o : AOper) (ρ : Opd → AV) (H : Heap) (nx : Nat) : Option Eff :=
  bif o.fz then match o.op with
    | .islice len zero parts => match mapO (toImm deep H) (parts.map fun p => ρ p.2.2) with
      | none => none
      | some _ => match pIslice (immρ H ρ) len zero parts with
        | some (.val v) => some (v, drop H ((parts.map fun p => ρ p.2.2).flatMap (idsOf deep H)), nx, ((parts.map fun p => ρ p.2.2).flatMap (idsOf deep H)).map Rd.obj, .ids ((parts.map fun p => ρ p.2.2).flatMap (idsOf deep H)))
        | _ => none
    | _ => none
  else effOp cf n0 o.op ρ H nx

/-- one operation: the state behind it, and how it was -/
noncomputable def effStep (cf : FnF) (nt n0 : Nat) (o : AOper) (st : St) : Option (St × Rec) :=
  bif wanted st.env o.gd then
    match effFz cf n0 o (ev st.env) st.H st.nx with
    | none => none
    | some (v, H, nx, rds, tch) => match putD nt st.env o.dst v with
      | none => none
      | some e => some (⟨e, H, nx⟩, ⟨rds, tch, st.H, H, st.nx, nx⟩)
  else match putD nt st.env o.dst undefA with
    | none => none
    | some e => some (⟨e, st.H, st.nx⟩, ⟨[], .ids [], st.H, st.H, st.nx, st.nx⟩)

noncomputable def runDOps (cf : FnF) (nt n0 : Nat) : List AOper → St → Option (St × List Rec)
  | [], st => some (st, [])
  | o :: rest, st => match effStep cf nt n0 o st with
    | none => none
    | some (st1, r) => match runDOps cf nt n0 rest st1 with
      | none => none
      | some (st', l) => some (st', r :: l)

/-- the same part of three heaps -/
noncomputable def same3 (A B C : Heap) (r : Rng) : Bool := match fetch A (some r), fetch B (some r), fetch C (some r) with
  | some x, some y, some z => eqAVs x z && eqAVs y z
  | _, _, _ => false
/-- what b looks at is the same ahead of a and behind it -/
noncomputable def still1 (a b : Rec) : Rd → Bool
  | .rng r => match a.tch with
    | .ids l => bif l.contains r.id then same3 a.H0 a.H1 b.H0 r else true
    | .all => same3 a.H0 a.H1 b.H0 r
  | .obj id => match a.tch with
    | .ids l => !l.contains id
    | .all => false
  | .all => match a.tch with
    | .ids [] => true
    | _ => false
noncomputable def still (a b : Rec) : Bool := allB (still1 a b) b.rds
def apart (a b : Rec) : Bool := match a.tch, b.tch with
  | .ids l, .ids l' => l.all fun x => !l'.contains x
  | .all, .ids [] => true
  | .ids [], .all => true
  | _, _ => false
noncomputable def pairOk (rs : List Rec) (p : Nat × Nat) : Bool := match rs[p.1]?, rs[p.2]? with
  | some a, some b => still a b && still b a && apart a b
  | _, _ => false
/-- an object was there, or was made by an operation ahead -/
def idOk (n0 : Nat) (rs : List Rec) (ahead : List Nat) (id : Nat) : Bool :=
  Nat.blt id n0 || ahead.any fun i => match rs[i]? with | some a => Nat.ble a.nx0 id && Nat.blt id a.nx1 | none => false
def rdOk (n0 : Nat) (rs : List Rec) (ahead : List Nat) : Rd → Bool
  | .rng x => idOk n0 rs ahead x.id
  | .obj id => idOk n0 rs ahead id
  | .all => true
def tchOk (n0 : Nat) (rs : List Rec) (ahead : List Nat) : Tch → Bool
  | .ids l => l.all (idOk n0 rs ahead)
  | .all => true
def knownAll (n0 : Nat) (rs : List Rec) : List (List Nat) → List Rec → Bool
  | a :: as, r :: rest => r.rds.all (rdOk n0 rs a) && tchOk n0 rs a r.tch && knownAll n0 rs as rest
  | [], [] => true
  | _, _ => false
noncomputable def runDreg (cf : FnF) (nt : Nat) (ops : List AOper) (ahead : List (List Nat)) (pairs : List (Nat × Nat)) (st : St) : Option St :=
  match runDOps cf nt st.nx ops st with
  | none => none
  | some (st', rs) => bif knownAll st.nx rs ahead rs && allB (pairOk rs) pairs then some st' else none

/-! ### 6. Code -/
inductive AExit where
  | normal
  | exit (id : Nat)
  | ret

abbrev CodeF := Nat → ACode → St → Option (AExit × St)

noncomputable def codeStep (ex : CodeF) (cf : FnF) (nt : Nat) (c : ACode) (st : St) : Option (AExit × St) := match c with
  | .skip => some (.normal, st)
  | .reg ops => match runOps cf nt ops st with
    | some st => some (.normal, st)
    | none => none
  | .dreg ops ahead pairs => match runDreg cf nt ops ahead pairs st with
    | some st => some (.normal, st)
    | none => none
  | .seq a b => match ex nt a st with
    | some (.normal, st) => ex nt b st
    | r => r
  | .cond c a b => match ev st.env c with
    | .bool true => ex nt a st
    | .bool false => ex nt b st
    | _ => none
  | .block id c => match ex nt c st with
    | some (.exit i, st) => bif Nat.beq i id then some (.normal, st) else some (.exit i, st)
    | r => r
  | .loop c => match ex nt c st with
    | some (.normal, st) => ex nt (.loop c) st
    | r => r
  | .exit id => some (.exit id, st)
  | .ret => some (.ret, st)

noncomputable def initE : List AV → Nat → Env → Env
  | [], _, e => e
  | v :: vs, i, e => initE vs (i + 1) (e.put (some v) i)

noncomputable def resOne (e : Env) (H : Heap) : ARes → Option AV
  | .tmp t => some (ev e (.t t))
  | .cell t sz => match ev e (.t t) with
    | .ptr id g off => match fetch H (some ⟨id, g, off, loadA sz⟩) with
      | some cs => mkv sz cs
      | none => none
    | _ => none
noncomputable def resA (l : List ARes) (st : St) : Option (AV × Heap × Nat) := match mapO (resOne st.env st.H) l with
  | some [v] => some (v, st.H, st.nx)
  | some vs => some (.tup vs, st.H, st.nx)
  | none => none

noncomputable def fnStep (prog : Map AFunc) (ex : CodeF) : FnF := fun f args H nx => match prog.get f with
  | none => none
  | some af => bif Nat.beq args.length af.params then
      match ex af.nt af.body ⟨initE args 0 .leaf, H, nx⟩ with
      | some (.normal, st) => resA af.res st
      | some (.ret, st) => resA af.res st
      | _ => none
    else none

structure Sems where
  code : CodeF
  fn : FnF

noncomputable def interp (prog : Map AFunc) (k : Nat) : Sems :=
  Nat.rec (motive := fun _ => Sems) ⟨fun _ _ _ => none, fun _ _ _ _ => none⟩ (fun _ p => ⟨codeStep p.code p.fn, fnStep prog p.code⟩) k

end Go.Ax
