/- Part 0 of the proof: Ax0, Ax1, LrIR. -/
import GoSem.Step

namespace Go.Ax
inductive Map (α:Type) where
 |leaf
 |node (v:Option α) (l r:Map α)
namespace Map
variable {α:Type}
noncomputable def get (m:Map α):Nat→Option α:=
 Map.rec (motive:=fun _=>Nat→Option α) (fun _=>none)
  (fun v _ _ l r i=>Bool.rec (Bool.rec (r (Nat.sub (Nat.div i 2) 1)) (l (Nat.div i 2)) (Nat.beq (Nat.mod i 2) 1)) v (Nat.beq i 0)) m
noncomputable def one (v:Option α) (f:Nat):Nat→Map α:=
 Nat.rec (motive:=fun _=>Nat→Map α) (fun _=>.leaf)
  (fun _ ih i=>Bool.rec (Bool.rec (.node none .leaf (ih (Nat.sub (Nat.div i 2) 1))) (.node none (ih (Nat.div i 2)) .leaf) (Nat.beq (Nat.mod i 2) 1)) (.node v .leaf .leaf) (Nat.beq i 0)) f
noncomputable def put (w:Option α) (m:Map α):Nat→Map α:=
 Map.rec (motive:=fun _=>Nat→Map α) (fun i=>one w (Nat.succ i) i)
  (fun v l0 r0 l r i=>Bool.rec (Bool.rec (.node v l0 (r (Nat.sub (Nat.div i 2) 1))) (.node v (l (Nat.div i 2)) r0) (Nat.beq (Nat.mod i 2) 1)) (.node w l0 r0) (Nat.beq i 0)) m
noncomputable def upto (m:Map α):(Nat→Bool)→Map α:=
 Map.rec (motive:=fun _=>(Nat→Bool)→Map α) (fun _=>.leaf)
  (fun v _ _ l r p=>.node (Bool.rec none v (p 0)) (l fun k=>p (Nat.succ (Nat.mul 2 k))) (r fun k=>p (Nat.succ (Nat.succ (Nat.mul 2 k))))) m
noncomputable def union (m:Map α):Map α→Map α:=
 Map.rec (motive:=fun _=>Map α→Map α) (fun m=>m)
  (fun v l0 r0 l r m=>match m with
   |.leaf=>.node v l0 r0
   |.node v' l' r'=>.node (match v with | some x=>some x | none=>v') (l l') (r r')) m
end Map
inductive AV where
 |bool (b:Bool)
 |int (k:IntKind) (n:Int)
 |str (s:ByteArray)
 |nilp
 |ptr (id g off:Nat)
 |iptr (cs:List AV) (off:Nat)
 |nils
 |imm (cs:List AV) (n:Nat) (cap:Option Nat)
 |ref (id g off es len cap:Nat) (ex:Bool)
 |agg (cs:List AV)
 |tup (vs:List AV)
 |func (f:Nat)
 |mapr (id:Nat)
 deriving Inhabited
inductive AObj where
 |row (g:Nat) (cells:List AV)
 |map (es:List (AV×AV))
 deriving Inhabited
abbrev Heap:=Map AObj
abbrev Env:=Map AV
def undefA:AV:=.tup []
def AV.flat:AV→Bool
 |.ref ..=>false
 |.ptr ..=>false
 |.mapr _=>false
 |.agg _=>false
 |.tup _=>false
 |_=>true
noncomputable def allB {α:Type} (f:α→Bool) (l:List α):Bool:=List.rec (motive:=fun _=>Bool) true (fun x _ ih=>Bool.rec false ih (f x)) l
noncomputable def AV.plain1:AV→Bool
 |.agg cs=>allB AV.flat cs
 |v=>v.flat
noncomputable def AV.plain:AV→Bool
 |.tup vs=>allB AV.plain1 vs
 |v=>v.plain1
def AV.isTup:AV→Bool
 |.tup _=>true
 |_=>false
def AV.one:AV→Bool
 |.agg _=>false
 |.tup _=>false
 |_=>true
def AV.cells?:AV→Option (List AV)
 |.agg cs=>some cs
 |.tup _=>none
 |v=>some [v]
noncomputable def mapO {α β:Type} (f:α→Option β) (l:List α):Option (List β):=
 List.rec (motive:=fun _=>Option (List β)) (some [])
  (fun x _ ih=>match f x with
   |none=>none
   |some y=>match ih with
    |none=>none
    |some ys=>some (y :: ys)) l
noncomputable def first (cells:List AV):Nat→Option (List AV):=
 List.rec (motive:=fun _=>Nat→Option (List AV)) (fun n=>Bool.rec none (some []) (Nat.beq n 0))
  (fun x _ ih n=>Bool.rec (match ih (Nat.pred n) with | some l=>some (x :: l) | none=>none) (some []) (Nat.beq n 0)) cells
noncomputable def cut (cells:List AV):Nat→Nat→Option (List AV):=
 List.rec (motive:=fun _=>Nat→Nat→Option (List AV)) (fun off n=>Bool.rec none (first [] n) (Nat.beq off 0))
  (fun x xs ih off n=>Bool.rec (ih (Nat.pred off) n) (first (x :: xs) n) (Nat.beq off 0)) cells
noncomputable def overF (cs:List AV):List AV→Option (List AV):=
 List.rec (motive:=fun _=>List AV→Option (List AV)) (fun cells=>some cells)
  (fun y _ ih cells=>match cells with
   |[]=>none
   |_ :: xs=>match ih xs with
    |some l=>some (y :: l)
    |none=>none) cs
noncomputable def over (cells:List AV):Nat→List AV→Option (List AV):=
 List.rec (motive:=fun _=>Nat→List AV→Option (List AV)) (fun off cs=>Bool.rec none (overF cs []) (Nat.beq off 0))
  (fun x xs ih off cs=>Bool.rec (match ih (Nat.pred off) cs with | some l=>some (x :: l) | none=>none) (overF cs (x :: xs)) (Nat.beq off 0)) cells
def rows (n:Nat) (zero:List AV):List AV:=(List.replicate n zero).flatten
def inR (k:IntKind) (n:Int):Bool:=match n with
 |.ofNat m=>Nat.blt m (match k with | .i8=>128 | .i16=>32768 | .i32=>2147483648 | .i64=>9223372036854775808 | .u8=>256 | .u16=>65536 | .u32=>4294967296 | .u64=>18446744073709551616)
 |.negSucc m=>Nat.blt m (match k with | .i8=>128 | .i16=>32768 | .i32=>2147483648 | .i64=>9223372036854775808 | _=>0)
def wrapA (k:IntKind) (n:Int):Int:=bif inR k n then n else k.wrap n
def ltA (x y:Int):Bool:=match x,y with
 |.ofNat a,.ofNat b=>Nat.blt a b
 |.negSucc _,.ofNat _=>true
 |.ofNat _,.negSucc _=>false
 |.negSucc a,.negSucc b=>Nat.blt b a
def eqA (x y:Int):Bool:=match x,y with
 |.ofNat a,.ofNat b=>Nat.beq a b
 |.negSucc a,.negSucc b=>Nat.beq a b
 |_,_=>false
def eqK:IntKind→IntKind→Bool
 |.i8,.i8 | .i16,.i16 | .i32,.i32 | .i64,.i64 | .u8,.u8 | .u16,.u16 | .u32,.u32 | .u64,.u64=>true
 |_,_=>false
def ixA (i:Int) (n:Nat):Option Nat:=match i with
 |.ofNat m=>bif Nat.blt m n then some m else none
 |.negSucc _=>none
def bdA (i:Int) (n:Nat):Option Nat:=match i with
 |.ofNat m=>bif Nat.ble m n then some m else none
 |.negSucc _=>none
inductive Leaf where
 |int | bool | str
inductive EqT where
 |one (l:Leaf)
 |slice
 |agg (ls:List Leaf)
def eqS (l:Leaf) (a b:AV):Option Bool:=match l with
 |.int=>match a with
  |.int k n=>match b with
   |.int k' m=>bif eqK k k' then some (eqA n m) else none
   |_=>none
  |_=>none
 |.bool=>match a with
  |.bool x=>match b with
   |.bool y=>some (x == y)
   |_=>none
  |_=>none
 |.str=>match a with
  |.str x=>match b with
   |.str y=>some (x == y)
   |_=>none
  |_=>none
noncomputable def eqL (ls:List Leaf):List AV→List AV→Option Bool:=
 List.rec (motive:=fun _=>List AV→List AV→Option Bool) (fun a b=>match a with | []=>(match b with | []=>some true | _ :: _=>none) | _ :: _=>none)
  (fun l _ ih a b=>match a with
   |[]=>none
   |x :: xs=>match b with
    |[]=>none
    |y :: ys=>match eqS l x y with
     |none=>none
     |some u=>match ih xs ys with
      |none=>none
      |some c=>some (u&&c)) ls
noncomputable def eqV (t:EqT) (x y:AV):Option Bool:=match t with
 |.one l=>eqS l x y
 |.agg ls=>match x with
  |.agg a=>match y with
   |.agg b=>eqL ls a b
   |_=>none
  |_=>none
 |.slice=>match x with
  |.nils=>match y with
   |.nils=>some true
   |.imm ..=>some false
   |.ref ..=>some false
   |_=>none
  |.imm ..=>match y with
   |.nils=>some false
   |_=>none
  |.ref ..=>match y with
   |.nils=>some false
   |_=>none
  |_=>none
noncomputable def toImm (d:Nat):Heap→AV→Option AV:=
 Nat.rec (motive:=fun _=>Heap→AV→Option AV) (fun _ _=>none)
  (fun _ ih H v=>match v with
   |.ref id g off es len cap ex=>match H.get id with
    |some (.row g' cells)=>bif Nat.beq g' g then match cut cells off (Nat.mul len es) with
      |some cs=>match mapO (ih H) cs with
       |some cs=>some (.imm cs len (Bool.rec none (some cap) ex))
       |none=>none
      |none=>none
     else none
    |_=>none
   |.agg cs=>match mapO (ih H) cs with
    |some cs=>some (.agg cs)
    |none=>none
   |.tup cs=>match mapO (ih H) cs with
    |some cs=>some (.tup cs)
    |none=>none
   |.ptr ..=>none
   |.mapr _=>none
   |v=>some v) d
noncomputable def idsOf (d:Nat):Heap→AV→List Nat:=
 Nat.rec (motive:=fun _=>Heap→AV→List Nat) (fun _ _=>[])
  (fun _ ih H v=>match v with
   |.ref id _ off es len _ _=>match H.get id with
    |some (.row _ cells)=>id :: (match cut cells off (Nat.mul len es) with | some cs=>cs.flatMap (ih H) | none=>[])
    |_=>[id]
   |.agg cs=>cs.flatMap (ih H)
   |.tup cs=>cs.flatMap (ih H)
   |_=>[]) d
noncomputable def own (d:Nat):Heap→AV→Bool:=
 Nat.rec (motive:=fun _=>Heap→AV→Bool) (fun _ _=>false)
  (fun _ ih H v=>match v with
   |.ref id _ off es len _ _=>match H.get id with
    |some (.row _ cells)=>match cut cells off (Nat.mul len es) with | some cs=>allB (ih H) cs | none=>false
    |_=>false
   |.agg cs=>allB (ih H) cs
   |.tup cs=>allB (ih H) cs
   |.imm cs _ _=>match cs with | []=>true | _ :: _=>false
   |.iptr ..=>false
   |.ptr ..=>false
   |.mapr _=>false
   |_=>true) d
def deep:Nat:=30
inductive Opd where
 |t (n:Nat)
 |c (v:AV)
 deriving Inhabited
inductive Mode where
 |share
 |borrow
inductive AOp where
 |mv (x:Opd)
 |pick (c a b:Opd)
 |alloc (zero:List AV)
 |box (x:Opd)
 |build (zero:List AV) (parts:List (Nat×Nat×Opd))
 |bslice (es len:Nat) (zero:List AV) (parts:List (Nat×Nat×Opd))
 |islice (len:Nat) (zero:List AV) (parts:List (Nat×Nat×Opd))
 |load (sz:Option Nat) (a:Opd)
 |store (sz:Nat) (a x:Opd)
 |nilck (x:Opd)
 |bin (op:BinOp) (x y:Opd)
 |eq (t:EqT) (neg:Bool) (x y:Opd)
 |un (op:UnOp) (x:Opd)
 |conv (k:IntKind) (x:Opd)
 |mksl (es bytes:Nat) (zero:List AV) (n:Opd)
 |slstr (x:Opd) (lo hi:Option Opd)
 |slsl (es:Nat) (x:Opd) (lo hi mx:Option Opd)
 |slarr (n es:Nat) (x:Opd) (lo hi mx:Option Opd)
 |faddr (off:Nat) (x:Opd)
 |fld (off:Nat) (sz:Option Nat) (x:Opd)
 |iaddr (es:Nat) (x i:Opd)
 |iarr (len es:Nat) (x i:Opd)
 |idx (x i:Opd)
 |ext (i:Nat) (x:Opd)
 |app (es bytes:Nat) (s x:Opd)
 |cpy (es:Nat) (d s:Opd)
 |clr (es:Nat) (zero:List AV) (x:Opd)
 |len (str:Bool) (x:Opd)
 |mnx (mx:Bool) (xs:List Opd)
 |mkmap
 |mlook (t:EqT) (zero:AV) (ok:Bool) (m k:Opd)
 |mset (t:EqT) (m k v:Opd)
 |mlen (m:Opd)
 |call (f:Nat) (args:List Opd) (m:Mode)
 |callv (f:Opd) (args:List Opd) (m:Mode)
 deriving Inhabited
structure AOper where
 dst:Option Nat
 op:AOp
 gd:Option (Nat×Bool)
 fz:Bool
 deriving Inhabited
abbrev o (d:Nat) (op:AOp):AOper:=⟨some d,op,none,false⟩
abbrev i64 (n:Int):Opd:=.c (.int .i64 n)
inductive ACode where
 |skip
 |reg (ops:List AOper)
 |dreg (ops:List AOper) (ahead:List (List Nat)) (pairs:List (Nat×Nat))
 |seq (a b:ACode)
 |cond (c:Opd) (a b:ACode)
 |block (id:Nat) (c:ACode)
 |loop (c:ACode)
 |exit (id:Nat)
 |ret
 deriving Inhabited
inductive ARes where
 |tmp (t:Nat)
 |cell (t:Nat) (sz:Option Nat)
structure AFunc where
 params:Nat
 nt:Nat
 res:List ARes
 body:ACode
structure Rng where
 id:Nat
 g:Nat
 off:Nat
 len:Nat
structure Out where
 val:Nat→AV
 obj:Option AObj
 new:Option AObj
inductive Plan where
 |val (v:AV)
 |new (val:Nat→AV) (o:AObj)
 |look (q:Option Rng) (u:Option Nat) (k:List AV→Option AObj→Option Out)
abbrev pureP (v:AV):Plan:=.val v
def pureO (v:Option AV):Option Plan:=match v with | some v=>some (.val v) | none=>none
abbrev newP (val:Nat→AV) (o:AObj):Plan:=.new val o
def rowK (g:Nat) (k:List AV→Option Out):Option AObj→Option Out
 |some (.row g' cells)=>bif Nat.beq g' g then k cells else none
 |_=>none
def most:Nat:=70368744177664
def mkv (sz:Option Nat) (cs:List AV):Option AV:=match sz with
 |none=>match cs with | [v]=>some v | _=>none
 |some _=>some (.agg cs)
noncomputable def fill (ρ:Opd→AV) (parts:List (Nat×Nat×Opd)):List AV→Option (List AV):=
 List.rec (motive:=fun _=>List AV→Option (List AV)) (fun cells=>some cells)
  (fun p _ ih cells=>match (ρ p.2.2).cells? with
   |none=>none
   |some cs=>bif Nat.beq cs.length p.2.1 then match over cells p.1 cs with
     |some cells=>ih cells
     |none=>none
    else none) parts
def shiftA (op:BinOp) (k:IntKind) (x y:Int):Option AV:=
 bif ltA y 0 then none else match op with
  |.shl=>some (.int k (k.wrap (x*2 ^ min y.toNat k.bits)))
  |.shr=>some (.int k (x.fdiv (2 ^ min y.toNat k.bits)))
  |_=>none
def intA (op:BinOp) (k:IntKind) (x y:Int):Option AV:=
 match op with
 |.add=>some (.int k (wrapA k (x + y)))
 |.sub=>some (.int k (wrapA k (x - y)))
 |.mul=>some (.int k (wrapA k (x*y)))
 |.quo=>bif eqA y 0 then none else some (.int k (wrapA k (x.tdiv y)))
 |.rem=>bif eqA y 0 then none else some (.int k (x.tmod y))
 |.and=>some (.int k (k.wrap (BitVec.ofInt k.bits x&&& BitVec.ofInt k.bits y).toNat))
 |.or=>some (.int k (k.wrap (BitVec.ofInt k.bits x||| BitVec.ofInt k.bits y).toNat))
 |.xor=>some (.int k (k.wrap (BitVec.ofInt k.bits x ^^^ BitVec.ofInt k.bits y).toNat))
 |.andNot=>some (.int k (k.wrap (BitVec.ofInt k.bits x&&& ~~~BitVec.ofInt k.bits y).toNat))
 |.eql=>some (.bool (eqA x y))
 |.neq=>some (.bool !(eqA x y))
 |.lss=>some (.bool (ltA x y))
 |.leq=>some (.bool !(ltA y x))
 |.gtr=>some (.bool (ltA y x))
 |.geq=>some (.bool !(ltA x y))
 |.shl=>none
 |.shr=>none
def strA (op:BinOp) (x y:ByteArray):Option AV:=
 match op with
 |.add=>bif Nat.ble (x.size + y.size) most then some (.str (x++y)) else none
 |.eql=>some (.bool (x.toList == y.toList))
 |.neq=>some (.bool !(x.toList == y.toList))
 |.lss=>some (.bool (Op.bytesLess x.toList y.toList))
 |.leq=>some (.bool (Op.bytesLess x.toList y.toList||x.toList == y.toList))
 |.gtr=>some (.bool !(Op.bytesLess x.toList y.toList||x.toList == y.toList))
 |.geq=>some (.bool !(Op.bytesLess x.toList y.toList))
 |_=>none
def binA (op:BinOp) (x y:AV):Option AV:=match x with
 |.int k a=>match y with
  |.int k' b=>match op with
   |.shl=>shiftA .shl k a b
   |.shr=>shiftA .shr k a b
   |op=>bif eqK k k' then intA op k a b else none
  |_=>none
 |.str a=>match y with
  |.str b=>strA op a b
  |_=>none
 |_=>none
def unA (op:UnOp) (x:AV):Option AV:=match op with
 |.neg=>match x with | .int k n=>some (.int k (wrapA k (0 - n))) | _=>none
 |.not=>match x with | .bool b=>some (.bool !b) | _=>none
 |.xor=>match x with | .int k n=>intA .xor k (if k.signed then -1 else k.max) n | _=>none
 |.plus=>none
def mnA (mx:Bool):AV→List AV→Option AV
 |v,[]=>some v
 |.int k a,.int _ b :: rest=>mnA mx (.int k (match mx with | true=>(bif ltA a b then b else a) | false=>(bif ltA b a then b else a))) rest
 |_,_=>none
def bnd (ρ:Opd→AV) (x:Option Opd) (other y:Nat):Option Nat:=match x with
 |none=>some other
 |some o=>match ρ o with
  |.int _ i=>bdA i y
  |_=>none
def bnds (ρ:Opd→AV) (lo hi mx:Option Opd) (len cap:Nat):Option (Nat×Nat×Nat):=match bnd ρ mx cap cap with
 |none=>none
 |some m=>match bnd ρ hi len m with
  |none=>none
  |some h=>match bnd ρ lo 0 h with
   |none=>none
   |some l=>some (l,h,m)
inductive Src where
 |list (cs:List AV)
 |rng (r:Rng)
def srcOf (es:Nat):AV→Option (Nat×Src)
 |.nils=>some (0,.list [])
 |.imm cs n _=>bif Nat.beq (Nat.mul n es) cs.length then some (n,.list cs) else none
 |.ref id g off es' len _ _=>bif Nat.beq es' es then some (len,.rng ⟨id,g,off,Nat.mul len es⟩) else none
 |_=>none
def Src.q:Src→Option Rng
 |.rng r=>some r
 |.list _=>none
def Src.cs:Src→List AV→List AV
 |.list cs,_=>cs
 |.rng _,a=>a
def isSl:AV→Bool
 |.nils=>true
 |.imm ..=>true
 |.ref ..=>true
 |_=>false
noncomputable def appRef (es:Nat) (id g off len cap:Nat) (ex:Bool) (m:Nat) (src:Src):Plan:=
 bif Nat.ble (Nat.add len m) cap then
  .look src.q (some id) (fun a=>rowK g fun cells=>match over cells (Nat.add off (Nat.mul len es)) (src.cs a) with
   |some cells'=>some ⟨fun _=>.ref id g off es (Nat.add len m) cap ex,some (.row g cells'),none⟩
   |none=>none)
 else bif ex then
  .look src.q (some id) (fun a=>rowK g fun cells=>match cut cells off (Nat.mul len es) with
   |some cs=>some ⟨fun id=>.ref id 0 0 es (Nat.add len m) (Nat.add len m) false,none,some (.row 0 (cs++src.cs a))⟩
   |none=>none)
 else
  .look src.q (some id) (fun a=>rowK g fun cells=>bif Nat.beq (Nat.add off (Nat.mul len es)) cells.length then
    some ⟨fun _=>.ref id (Nat.succ g) 0 es (Nat.add len m) (Nat.add len m) false,some (.row (Nat.succ g) (cells.drop off++src.cs a)),none⟩
   else none)
noncomputable def appA (es bytes:Nat) (s x:AV):Option Plan:=match srcOf es x with
 |none=>none
 |some (m,src)=>bif Nat.beq m 0 then (bif isSl s then some (pureP s) else none) else
  match s with
  |.nils=>bif Nat.ble (Nat.mul m bytes) most&&Nat.ble m most then
    some (.look src.q none fun a _=>some ⟨fun id=>.ref id 0 0 es m m false,none,some (.row 0 (src.cs a))⟩) else none
  |.imm cs n (some c)=>bif Nat.blt c (Nat.add n m)&&Nat.beq (Nat.mul n es) cs.length&&Nat.ble (Nat.mul (Nat.add n m) bytes) most&&Nat.ble (Nat.add n m) most then
    some (.look src.q none fun a _=>some ⟨fun id=>.ref id 0 0 es (Nat.add n m) (Nat.add n m) false,none,some (.row 0 (cs++src.cs a))⟩) else none
  |.ref id g off es' len cap ex=>bif Nat.beq es' es&&Nat.ble (Nat.mul (Nat.add len m) bytes) most&&Nat.ble (Nat.add len m) most then
    some (appRef es id g off len cap ex m src) else none
  |_=>none
noncomputable def cpyA (es:Nat) (d s:AV):Option Plan:=match srcOf es s with
 |none=>none
 |some (m,src)=>match d with
  |.nils=>some (pureP (.int .i64 0))
  |.ref id g off es' len _ _=>bif Nat.beq es' es then
    some (.look src.q (some id) fun a=>rowK g fun cells=>match first (src.cs a) (Nat.mul (min m len) es) with
     |some cs=>match over cells off cs with
      |some cells'=>some ⟨fun _=>.int .i64 (min m len),some (.row g cells'),none⟩
      |none=>none
     |none=>none) else none
  |_=>none
noncomputable def slA (es:Nat) (ρ:Opd→AV) (x:AV) (lo hi mx:Option Opd):Option AV:=match x with
 |.nils=>match bnds ρ lo hi mx 0 0 with
  |none=>none
  |some _=>some .nils
 |.imm cs n cap=>bif Nat.beq (Nat.mul n es) cs.length then match bnds ρ lo hi mx n n with
  |none=>none
  |some (l,h,m)=>match cut cs (Nat.mul l es) (Nat.mul (Nat.sub h l) es) with
   |some cs'=>some (.imm cs' (Nat.sub h l) (match mx with | some _=>some (Nat.sub m l) | none=>match cap with | some c=>some (Nat.sub c l) | none=>none))
   |none=>none
  else none
 |.ref id g off es' len cap ex=>bif Nat.beq es' es then match bnds ρ lo hi mx len cap with
  |none=>none
  |some (l,h,m)=>some (.ref id g (Nat.add off (Nat.mul l es)) es (Nat.sub h l) (Nat.sub m l) (match mx with | some _=>true | none=>ex))
  else none
 |_=>none
noncomputable def findA (t:EqT) (k:AV) (es:List (AV×AV)):Nat→Option (Option (Nat×AV)):=
 List.rec (motive:=fun _=>Nat→Option (Option (Nat×AV))) (fun _=>some none)
  (fun p _ ih i=>match eqV t k p.1 with
   |none=>none
   |some true=>some (some (i,p.2))
   |some false=>ih (Nat.succ i)) es
def loadA (sz:Option Nat):Nat:=match sz with | none=>1 | some n=>n
section
variable (ρ:Opd→AV)
def pPick (c a b:Opd):Option Plan:=match ρ c with
 |.bool t=>match t with
  |true=>some (pureP (ρ a))
  |false=>some (pureP (ρ b))
 |_=>none
def pBox (x:Opd):Option Plan:=match (ρ x).cells? with
 |some cs=>some (newP (fun id=>.ptr id 0 0) (.row 0 cs))
 |none=>none
noncomputable def pBuild (zero:List AV) (parts:List (Nat×Nat×Opd)):Option Plan:=match fill ρ parts zero with
 |some cs=>some (pureP (.agg cs))
 |none=>none
noncomputable def pBslice (es len:Nat) (zero:List AV) (parts:List (Nat×Nat×Opd)):Option Plan:=match fill ρ parts zero with
 |some cs=>some (newP (fun id=>.ref id 0 0 es len len false) (.row 0 cs))
 |none=>none
noncomputable def pIslice (len:Nat) (zero:List AV) (parts:List (Nat×Nat×Opd)):Option Plan:=match fill ρ parts zero with
 |some cs=>bif allB AV.flat cs then some (pureP (.imm cs len (some len))) else none
 |none=>none
noncomputable def pLoad (sz:Option Nat) (a:Opd):Option Plan:=match ρ a with
 |.ptr id g off=>some (.look (some ⟨id,g,off,loadA sz⟩) none fun cs _=>match mkv sz cs with | some v=>some ⟨fun _=>v,none,none⟩ | none=>none)
 |.iptr cs off=>match cut cs off (loadA sz) with
  |some cs=>pureO (mkv sz cs)
  |none=>none
 |_=>none
noncomputable def pStore (sz:Nat) (a x:Opd):Option Plan:=match ρ a with
 |.ptr id g off=>match (ρ x).cells? with
  |some cs=>bif Nat.beq cs.length sz then
    some (.look none (some id) fun _=>rowK g fun cells=>match over cells off cs with
     |some cells'=>some ⟨fun _=>undefA,some (.row g cells'),none⟩
     |none=>none) else none
  |none=>none
 |_=>none
def pNilck (x:Opd):Option Plan:=match ρ x with
 |.ptr id g off=>some (pureP (.ptr id g off))
 |.iptr cs off=>some (pureP (.iptr cs off))
 |.func f=>some (pureP (.func f))
 |_=>none
noncomputable def pEq (t:EqT) (neg:Bool) (x y:Opd):Option Plan:=match eqV t (ρ x) (ρ y) with
 |some b=>some (pureP (.bool (match neg with | true=>!b | false=>b)))
 |none=>none
def pConv (k:IntKind) (x:Opd):Option Plan:=match ρ x with
 |.int _ n=>some (pureP (.int k (wrapA k n)))
 |_=>none
def pMksl (es bytes:Nat) (zero:List AV) (n:Opd):Option Plan:=match ρ n with
 |.int k m=>match bdA m most with
  |some m=>bif eqK k .i64&&Nat.ble (Nat.mul m bytes) most then some (newP (fun id=>.ref id 0 0 es m m false) (.row 0 (rows m zero))) else none
  |none=>none
 |_=>none
def pSlstr (x:Opd) (lo hi:Option Opd):Option Plan:=match ρ x with
 |.str s=>match bnds ρ lo hi none s.size s.size with
  |none=>none
  |some (l,h,_)=>some (pureP (.str (s.extract l h)))
 |_=>none
def pSlarr (n es:Nat) (x:Opd) (lo hi mx:Option Opd):Option Plan:=match ρ x with
 |.ptr id g off=>match bnds ρ lo hi mx n n with
  |none=>none
  |some (l,h,m)=>some (.look (some ⟨id,g,off,Nat.mul n es⟩) none fun _ _=>some ⟨fun _=>.ref id g (Nat.add off (Nat.mul l es)) es (Nat.sub h l) (Nat.sub m l) true,none,none⟩)
 |_=>none
def pFaddr (off:Nat) (x:Opd):Option Plan:=match ρ x with
 |.ptr id g o=>some (pureP (.ptr id g (Nat.add o off)))
 |.iptr cs o=>some (pureP (.iptr cs (Nat.add o off)))
 |_=>none
noncomputable def pFld (off:Nat) (sz:Option Nat) (x:Opd):Option Plan:=match ρ x with
 |.agg cs=>match cut cs off (loadA sz) with
  |some cs=>pureO (mkv sz cs)
  |none=>none
 |_=>none
def pIaddr (es:Nat) (x i:Opd):Option Plan:=match ρ i with
 |.int _ i=>match ρ x with
  |.imm cs n _=>match ixA i n with
   |some i=>match cs with
    |[]=>none
    |_ :: _=>some (pureP (.iptr cs (Nat.mul i es)))
   |none=>none
  |.ref id g off es' len _ _=>bif Nat.beq es' es then match ixA i len with
   |some i=>some (pureP (.ptr id g (Nat.add off (Nat.mul i es))))
   |none=>none
   else none
  |_=>none
 |_=>none
def pIarr (len es:Nat) (x i:Opd):Option Plan:=match ρ i with
 |.int _ i=>match ixA i len with
  |some i=>match ρ x with
   |.ptr id g o=>some (pureP (.ptr id g (Nat.add o (Nat.mul i es))))
   |.iptr cs o=>some (pureP (.iptr cs (Nat.add o (Nat.mul i es))))
   |_=>none
  |none=>none
 |_=>none
def pIdx (x i:Opd):Option Plan:=match ρ x with
 |.str s=>match ρ i with
  |.int _ (.ofNat i)=>match s[i]? with
   |some b=>some (pureP (.int .u8 b.toNat))
   |none=>none
  |_=>none
 |_=>none
def pExt (i:Nat) (x:Opd):Option Plan:=match ρ x with
 |.tup vs=>pureO vs[i]?
 |_=>none
noncomputable def pClr (es:Nat) (zero:List AV) (x:Opd):Option Plan:=match ρ x with
 |.nils=>some (pureP undefA)
 |.ref id g off es' len _ _=>bif Nat.beq es' es then
   some (.look none (some id) fun _=>rowK g fun cells=>match over cells off (rows len zero) with
    |some cells'=>some ⟨fun _=>undefA,some (.row g cells'),none⟩
    |none=>none) else none
 |_=>none
def pLen (str:Bool) (x:Opd):Option Plan:=match str with
 |true=>match ρ x with
  |.str s=>some (pureP (.int .i64 s.size))
  |_=>none
 |false=>match ρ x with
  |.nils=>some (pureP (.int .i64 0))
  |.imm _ n _=>some (pureP (.int .i64 n))
  |.ref _ _ _ _ len _ _=>some (pureP (.int .i64 len))
  |_=>none
def pMnx (mx:Bool) (xs:List Opd):Option Plan:=match xs.map ρ with
 |v :: vs=>pureO (mnA mx v vs)
 |[]=>none
def mapK (k:List (AV×AV)→Option Out):Option AObj→Option Out
 |some (.map es)=>k es
 |_=>none
noncomputable def pMlook (t:EqT) (zero:AV) (ok:Bool) (m k:Opd):Option Plan:=bif (ρ k).isTup then none else match ρ m with
 |.mapr id=>some (.look none (some id) fun _=>mapK fun es=>match findA t (ρ k) es 0 with
  |none=>none
  |some none=>some ⟨fun _=>match ok with | true=>.tup [zero,.bool false] | false=>zero,none,none⟩
  |some (some (_,v))=>some ⟨fun _=>match ok with | true=>.tup [v,.bool true] | false=>v,none,none⟩)
 |_=>none
noncomputable def pMset (t:EqT) (m k v:Opd):Option Plan:=bif (ρ k).isTup||(ρ v).isTup then none else match ρ m with
 |.mapr id=>some (.look none (some id) fun _=>mapK fun es=>match findA t (ρ k) es 0 with
  |none=>none
  |some none=>some ⟨fun _=>undefA,some (.map (es++[(ρ k,ρ v)])),none⟩
  |some (some (i,_))=>some ⟨fun _=>undefA,some (.map (es.set i (ρ k,ρ v))),none⟩)
 |_=>none
def pMlen (m:Opd):Option Plan:=match ρ m with
 |.mapr id=>some (.look none (some id) fun _=>mapK fun es=>some ⟨fun _=>.int .i64 es.length,none,none⟩)
 |_=>none
end
inductive OpK where
 |plan (p:(Opd→AV)→Option Plan)
 |call (f:Nat) (args:List Opd) (m:Mode)
 |callv (f:Opd) (args:List Opd) (m:Mode)
noncomputable def kind (op:AOp):OpK:=match op with
 |.mv x=>.plan fun ρ=>some (pureP (ρ x))
 |.pick c a b=>.plan fun ρ=>pPick ρ c a b
 |.alloc zero=>.plan fun _=>some (newP (fun id=>.ptr id 0 0) (.row 0 zero))
 |.box x=>.plan fun ρ=>pBox ρ x
 |.build zero parts=>.plan fun ρ=>pBuild ρ zero parts
 |.bslice es len zero parts=>.plan fun ρ=>pBslice ρ es len zero parts
 |.islice len zero parts=>.plan fun ρ=>pIslice ρ len zero parts
 |.load sz a=>.plan fun ρ=>pLoad ρ sz a
 |.store sz a x=>.plan fun ρ=>pStore ρ sz a x
 |.nilck x=>.plan fun ρ=>pNilck ρ x
 |.bin op x y=>.plan fun ρ=>pureO (binA op (ρ x) (ρ y))
 |.eq t neg x y=>.plan fun ρ=>pEq ρ t neg x y
 |.un op x=>.plan fun ρ=>pureO (unA op (ρ x))
 |.conv k x=>.plan fun ρ=>pConv ρ k x
 |.mksl es bytes zero n=>.plan fun ρ=>pMksl ρ es bytes zero n
 |.slstr x lo hi=>.plan fun ρ=>pSlstr ρ x lo hi
 |.slsl es x lo hi mx=>.plan fun ρ=>pureO (slA es ρ (ρ x) lo hi mx)
 |.slarr n es x lo hi mx=>.plan fun ρ=>pSlarr ρ n es x lo hi mx
 |.faddr off x=>.plan fun ρ=>pFaddr ρ off x
 |.fld off sz x=>.plan fun ρ=>pFld ρ off sz x
 |.iaddr es x i=>.plan fun ρ=>pIaddr ρ es x i
 |.iarr len es x i=>.plan fun ρ=>pIarr ρ len es x i
 |.idx x i=>.plan fun ρ=>pIdx ρ x i
 |.ext i x=>.plan fun ρ=>pExt ρ i x
 |.app es bytes s x=>.plan fun ρ=>appA es bytes (ρ s) (ρ x)
 |.cpy es d s=>.plan fun ρ=>cpyA es (ρ d) (ρ s)
 |.clr es zero x=>.plan fun ρ=>pClr ρ es zero x
 |.len str x=>.plan fun ρ=>pLen ρ str x
 |.mnx mx xs=>.plan fun ρ=>pMnx ρ mx xs
 |.mkmap=>.plan fun _=>some (newP (fun id=>.mapr id) (.map []))
 |.mlook t zero ok m k=>.plan fun ρ=>pMlook ρ t zero ok m k
 |.mset t m k v=>.plan fun ρ=>pMset ρ t m k v
 |.mlen m=>.plan fun ρ=>pMlen ρ m
 |.call f args m=>.call f args m
 |.callv f args m=>.callv f args m
noncomputable def fetch (H:Heap):Option Rng→Option (List AV)
 |none=>some []
 |some r=>match H.get r.id with
  |some (.row g cells)=>bif Nat.beq g r.g then cut cells r.off r.len else none
  |_=>none
noncomputable def fetchO (H:Heap):Option Nat→Option (Option AObj)
 |none=>some none
 |some id=>match H.get id with
  |some o=>some (some o)
  |none=>none
noncomputable def setO (H:Heap) (u:Option Nat) (ob:Option AObj):Heap:=match ob with
 |none=>H
 |some ob=>match u with
  |some id=>H.put (some ob) id
  |none=>H
noncomputable def runLook (q:Option Rng) (u:Option Nat) (k:List AV→Option AObj→Option Out) (H:Heap) (nx:Nat):Option (AV×Heap×Nat):=match fetch H q with
 |none=>none
 |some a=>match fetchO H u with
  |none=>none
  |some o=>match k a o with
   |none=>none
   |some out=>match out.new with
    |some ob=>some (out.val nx,(setO H u out.obj).put (some ob) nx,Nat.succ nx)
    |none=>some (out.val nx,setO H u out.obj,nx)
noncomputable def runPlan (p:Plan) (H:Heap) (nx:Nat):Option (AV×Heap×Nat):=match p with
 |.val v=>some (v,H,nx)
 |.new f o=>some (f nx,H.put (some o) nx,Nat.succ nx)
 |.look q u k=>runLook q u k H nx
noncomputable def ev (e:Env):Opd→AV
 |.t n=>match e.get n with | some v=>v | none=>undefA
 |.c v=>v
def AOp.opds:AOp→List Opd
 |.mv x | .box x | .load _ x | .nilck x | .un _ x | .conv _ x | .mksl _ _ _ x | .faddr _ x | .fld _ _ x | .ext _ x | .clr _ _ x | .len _ x | .mlen x=>[x]
 |.pick c a b=>[c,a,b]
 |.alloc _ | .mkmap=>[]
 |.build _ ps | .bslice _ _ _ ps | .islice _ _ ps=>ps.map (·.2.2)
 |.store _ a x | .bin _ a x | .eq _ _ a x | .iaddr _ a x | .iarr _ _ a x | .idx a x | .app _ _ a x | .cpy _ a x | .mlook _ _ _ a x=>[a,x]
 |.slstr x l h=>x :: (l.toList++h.toList)
 |.slsl _ x l h m | .slarr _ _ x l h m=>x :: (l.toList++h.toList++m.toList)
 |.mset _ m k v=>[m,k,v]
 |.mnx _ as=>as
 |.call _ as _=>as
 |.callv f as _=>f :: as
noncomputable def drop (H:Heap):List Nat→Heap
 |[]=>H
 |id :: rest=>drop (H.put none id) rest
abbrev FnF:=Nat→List AV→Heap→Nat→Option (AV×Heap×Nat)
noncomputable def endOwn (r:Option (AV×Heap×Nat)) (must:Bool):Option AV:=match r with
 |none=>none
 |some (r,Hc,_)=>bif must then (bif own deep Hc r then toImm deep Hc r else none) else (bif r.plain then some r else toImm deep Hc r)
noncomputable def doCall (cf:FnF) (f:Nat) (args:List AV) (m:Mode) (H:Heap) (nx:Nat):Option (AV×Heap×Nat):=match m with
 |.share=>cf f args H nx
 |.borrow=>bif allB AV.plain args then
   match endOwn (cf f args .leaf 0) false with
   |some r=>some (r,H,nx)
   |none=>none
  else match mapO (toImm deep H) args with
   |none=>none
   |some as=>match endOwn (cf f as .leaf 0) true with
    |some r=>some (r,H,nx)
    |none=>none
noncomputable def doOp (cf:FnF) (op:AOp) (ρ:Opd→AV) (H:Heap) (nx:Nat):Option (AV×Heap×Nat):=match kind op with
 |.plan p=>match p ρ with
  |some p=>runPlan p H nx
  |none=>none
 |.call f args m=>doCall cf f (args.map ρ) m H nx
 |.callv f args m=>match ρ f with
  |.func g=>doCall cf g (args.map ρ) m H nx
  |_=>none
noncomputable def immρ (H:Heap) (ρ:Opd→AV) (x:Opd):AV:=match toImm deep H (ρ x) with
 |some v=>v
 |none=>ρ x
noncomputable def doFz (cf:FnF) (o:AOper) (ρ:Opd→AV) (H:Heap) (nx:Nat):Option (AV×Heap×Nat):=
 bif o.fz then match o.op with
  |.islice len zero parts=>match mapO (toImm deep H) (parts.map fun p=>ρ p.2.2) with
   |none=>none
   |some _=>match pIslice (immρ H ρ) len zero parts with
    |some (.val v)=>some (v,drop H ((parts.map fun p=>ρ p.2.2).flatMap (idsOf deep H)),nx)
    |_=>none
  |_=>none
 else doOp cf o.op ρ H nx
structure St where
 env:Env
 H:Heap
 nx:Nat
noncomputable def wanted (e:Env):Option (Nat×Bool)→Bool
 |none=>true
 |some (g,b)=>match e.get g with
  |some (.bool b')=>b' == b
  |_=>false
noncomputable def putD (nt:Nat) (e:Env) (d:Option Nat) (v:AV):Option Env:=match d with
 |none=>some e
 |some d=>bif Nat.blt d nt then some (e.put (some v) d) else none
noncomputable def runOp (cf:FnF) (nt:Nat) (o:AOper) (st:St):Option St:=
 bif wanted st.env o.gd then
  match doFz cf o (ev st.env) st.H st.nx with
  |none=>none
  |some (v,H,nx)=>match putD nt st.env o.dst v with
   |some e=>some ⟨e,H,nx⟩
   |none=>none
 else match putD nt st.env o.dst undefA with
  |some e=>some ⟨e,st.H,st.nx⟩
  |none=>none
noncomputable def runOps (cf:FnF) (nt:Nat) (l:List AOper):St→Option St:=
 List.rec (motive:=fun _=>St→Option St) (fun st=>some st)
  (fun o _ ih st=>match runOp cf nt o st with
   |some st=>ih st
   |none=>none) l
mutual
def eqAV:AV→AV→Bool
 |.bool a,.bool b=>a == b
 |.int k a,.int k' b=>eqK k k'&&eqA a b
 |.str a,.str b=>decide (a=b)
 |.nilp,.nilp=>true
 |.nils,.nils=>true
 |.ptr a b c,.ptr a' b' c'=>Nat.beq a a'&&Nat.beq b b'&&Nat.beq c c'
 |.iptr cs o,.iptr cs' o'=>eqAVs cs cs'&&Nat.beq o o'
 |.imm cs n c,.imm cs' n' c'=>eqAVs cs cs'&&Nat.beq n n'&&decide (c=c')
 |.ref a b c d e f x,.ref a' b' c' d' e' f' x'=>Nat.beq a a'&&Nat.beq b b'&&Nat.beq c c'&&Nat.beq d d'&&Nat.beq e e'&&Nat.beq f f'&&x == x'
 |.agg cs,.agg cs'=>eqAVs cs cs'
 |.tup cs,.tup cs'=>eqAVs cs cs'
 |.func f,.func f'=>Nat.beq f f'
 |.mapr f,.mapr f'=>Nat.beq f f'
 |_,_=>false
def eqAVs:List AV→List AV→Bool
 |[],[]=>true
 |x :: xs,y :: ys=>eqAV x y&&eqAVs xs ys
 |_,_=>false
end
inductive Rd where
 |rng (r:Rng)
 |obj (id:Nat)
 |all
inductive Tch where
 |ids (l:List Nat)
 |all
structure Rec where
 rds:List Rd
 tch:Tch
 H0:Heap
 H1:Heap
 nx0:Nat
 nx1:Nat
def Plan.rds:Plan→List Rd
 |.look q u _=>(match q with | some r=>[.rng r] | none=>[])++(match u with | some id=>[.obj id] | none=>[])
 |_=>[]
def Plan.tch:Plan→List Nat
 |.look _ u _=>(match u with | some id=>[id] | none=>[])
 |_=>[]
abbrev Eff:=AV×Heap×Nat×List Rd×Tch
noncomputable def effCall (cf:FnF) (n0:Nat) (f:Nat) (args:List AV) (m:Mode) (H:Heap) (nx:Nat):Option Eff:=match m with
 |.share=>match cf f args (H.upto fun i=>Nat.blt i n0) nx with
  |some (v,H',nx')=>some (v,(H'.upto fun i=>Nat.blt i n0||(Nat.ble nx i&&Nat.blt i nx')).union (H.upto fun i=>!(Nat.blt i n0||(Nat.ble nx i&&Nat.blt i nx'))),nx',[.all],.all)
  |none=>none
 |.borrow=>bif allB AV.plain args then
   match doCall cf f args .borrow H nx with
   |some (v,_,_)=>some (v,H,nx,[],.ids [])
   |none=>none
  else match doCall cf f args .borrow (H.upto fun i=>Nat.blt i n0) nx with
   |some (v,_,_)=>some (v,H,nx,[.all],.ids [])
   |none=>none
noncomputable def effOp (cf:FnF) (n0:Nat) (op:AOp) (ρ:Opd→AV) (H:Heap) (nx:Nat):Option Eff:=match kind op with
 |.plan p=>match p ρ with
  |some p=>match runPlan p H nx with
   |some (v,H',nx')=>some (v,H',nx',p.rds,.ids p.tch)
   |none=>none
  |none=>none
 |.call f args m=>effCall cf n0 f (args.map ρ) m H nx
 |.callv f args m=>match ρ f with
  |.func g=>effCall cf n0 g (args.map ρ) m H nx
  |_=>none
noncomputable def effFz (cf:FnF) (n0:Nat) (o:AOper) (ρ:Opd→AV) (H:Heap) (nx:Nat):Option Eff:=
 bif o.fz then match o.op with
  |.islice len zero parts=>match mapO (toImm deep H) (parts.map fun p=>ρ p.2.2) with
   |none=>none
   |some _=>match pIslice (immρ H ρ) len zero parts with
    |some (.val v)=>some (v,drop H ((parts.map fun p=>ρ p.2.2).flatMap (idsOf deep H)),nx,((parts.map fun p=>ρ p.2.2).flatMap (idsOf deep H)).map Rd.obj,.ids ((parts.map fun p=>ρ p.2.2).flatMap (idsOf deep H)))
    |_=>none
  |_=>none
 else effOp cf n0 o.op ρ H nx
noncomputable def effStep (cf:FnF) (nt n0:Nat) (o:AOper) (st:St):Option (St×Rec):=
 bif wanted st.env o.gd then
  match effFz cf n0 o (ev st.env) st.H st.nx with
  |none=>none
  |some (v,H,nx,rds,tch)=>match putD nt st.env o.dst v with
   |none=>none
   |some e=>some (⟨e,H,nx⟩,⟨rds,tch,st.H,H,st.nx,nx⟩)
 else match putD nt st.env o.dst undefA with
  |none=>none
  |some e=>some (⟨e,st.H,st.nx⟩,⟨[],.ids [],st.H,st.H,st.nx,st.nx⟩)
noncomputable def runDOps (cf:FnF) (nt n0:Nat):List AOper→St→Option (St×List Rec)
 |[],st=>some (st,[])
 |o :: rest,st=>match effStep cf nt n0 o st with
  |none=>none
  |some (st1,r)=>match runDOps cf nt n0 rest st1 with
   |none=>none
   |some (st',l)=>some (st',r :: l)
noncomputable def same3 (A B C:Heap) (r:Rng):Bool:=match fetch A (some r),fetch B (some r),fetch C (some r) with
 |some x,some y,some z=>eqAVs x z&&eqAVs y z
 |_,_,_=>false
noncomputable def still1 (a b:Rec):Rd→Bool
 |.rng r=>match a.tch with
  |.ids l=>bif l.contains r.id then same3 a.H0 a.H1 b.H0 r else true
  |.all=>same3 a.H0 a.H1 b.H0 r
 |.obj id=>match a.tch with
  |.ids l=>!l.contains id
  |.all=>false
 |.all=>match a.tch with
  |.ids []=>true
  |_=>false
noncomputable def still (a b:Rec):Bool:=allB (still1 a b) b.rds
def apart (a b:Rec):Bool:=match a.tch,b.tch with
 |.ids l,.ids l'=>l.all fun x=>!l'.contains x
 |.all,.ids []=>true
 |.ids [],.all=>true
 |_,_=>false
noncomputable def pairOk (rs:List Rec) (p:Nat×Nat):Bool:=match rs[p.1]?,rs[p.2]? with
 |some a,some b=>still a b&&still b a&&apart a b
 |_,_=>false
def idOk (n0:Nat) (rs:List Rec) (ahead:List Nat) (id:Nat):Bool:=
 Nat.blt id n0||ahead.any fun i=>match rs[i]? with | some a=>Nat.ble a.nx0 id&&Nat.blt id a.nx1 | none=>false
def rdOk (n0:Nat) (rs:List Rec) (ahead:List Nat):Rd→Bool
 |.rng x=>idOk n0 rs ahead x.id
 |.obj id=>idOk n0 rs ahead id
 |.all=>true
def tchOk (n0:Nat) (rs:List Rec) (ahead:List Nat):Tch→Bool
 |.ids l=>l.all (idOk n0 rs ahead)
 |.all=>true
def knownAll (n0:Nat) (rs:List Rec):List (List Nat)→List Rec→Bool
 |a :: as,r :: rest=>r.rds.all (rdOk n0 rs a)&&tchOk n0 rs a r.tch&&knownAll n0 rs as rest
 |[],[]=>true
 |_,_=>false
noncomputable def runDreg (cf:FnF) (nt:Nat) (ops:List AOper) (ahead:List (List Nat)) (pairs:List (Nat×Nat)) (st:St):Option St:=
 match runDOps cf nt st.nx ops st with
 |none=>none
 |some (st',rs)=>bif knownAll st.nx rs ahead rs&&allB (pairOk rs) pairs then some st' else none
inductive AExit where
 |normal
 |exit (id:Nat)
 |ret
abbrev CodeF:=Nat→ACode→St→Option (AExit×St)
noncomputable def codeStep (ex:CodeF) (cf:FnF) (nt:Nat) (c:ACode) (st:St):Option (AExit×St):=match c with
 |.skip=>some (.normal,st)
 |.reg ops=>match runOps cf nt ops st with
  |some st=>some (.normal,st)
  |none=>none
 |.dreg ops ahead pairs=>match runDreg cf nt ops ahead pairs st with
  |some st=>some (.normal,st)
  |none=>none
 |.seq a b=>match ex nt a st with
  |some (.normal,st)=>ex nt b st
  |r=>r
 |.cond c a b=>match ev st.env c with
  |.bool true=>ex nt a st
  |.bool false=>ex nt b st
  |_=>none
 |.block id c=>match ex nt c st with
  |some (.exit i,st)=>bif Nat.beq i id then some (.normal,st) else some (.exit i,st)
  |r=>r
 |.loop c=>match ex nt c st with
  |some (.normal,st)=>ex nt (.loop c) st
  |r=>r
 |.exit id=>some (.exit id,st)
 |.ret=>some (.ret,st)
noncomputable def initE:List AV→Nat→Env→Env
 |[],_,e=>e
 |v :: vs,i,e=>initE vs (i + 1) (e.put (some v) i)
noncomputable def resOne (e:Env) (H:Heap):ARes→Option AV
 |.tmp t=>some (ev e (.t t))
 |.cell t sz=>match ev e (.t t) with
  |.ptr id g off=>match fetch H (some ⟨id,g,off,loadA sz⟩) with
   |some cs=>mkv sz cs
   |none=>none
  |_=>none
noncomputable def resA (l:List ARes) (st:St):Option (AV×Heap×Nat):=match mapO (resOne st.env st.H) l with
 |some [v]=>some (v,st.H,st.nx)
 |some vs=>some (.tup vs,st.H,st.nx)
 |none=>none
noncomputable def fnStep (prog:Map AFunc) (ex:CodeF):FnF:=fun f args H nx=>match prog.get f with
 |none=>none
 |some af=>bif Nat.beq args.length af.params then
   match ex af.nt af.body ⟨initE args 0 .leaf,H,nx⟩ with
   |some (.normal,st)=>resA af.res st
   |some (.ret,st)=>resA af.res st
   |_=>none
  else none
structure Sems where
 code:CodeF
 fn:FnF
noncomputable def interp (prog:Map AFunc) (k:Nat):Sems:=
 Nat.rec (motive:=fun _=>Sems) ⟨fun _ _ _=>none,fun _ _ _ _=>none⟩ (fun _ p=>⟨codeStep p.code p.fn,fnStep prog p.code⟩) k
end Go.Ax

set_option linter.unusedSimpArgs false
set_option linter.unusedVariables false
namespace Go.Ax
theorem brec {α:Sort _} (c:Bool) (a b:α):(Bool.rec a b c:α)=if c=true then b else a:=by cases c <;> rfl
namespace Map
variable {α:Type}
theorem get_leaf (i:Nat):(leaf:Map α).get i=none:=rfl
theorem get_node (v:Option α) (l r:Map α) (i:Nat):(node v l r).get i=if i=0 then v else if i % 2=1 then l.get (i / 2) else r.get (i / 2 - 1):=by
 show (Bool.rec (Bool.rec (r.get (i / 2 - 1)) (l.get (i / 2)) (Nat.beq (i % 2) 1)) v (Nat.beq i 0):Option α)=_
 simp only [brec,Nat.beq_eq]
theorem one_succ (v:Option α) (f i:Nat):one v (f + 1) i=if i=0 then .node v .leaf .leaf else if i % 2=1 then .node none (one v f (i / 2)) .leaf else .node none .leaf (one v f (i / 2 - 1)):=by
 show (Bool.rec (Bool.rec (.node none .leaf (one v f (i / 2 - 1))) (.node none (one v f (i / 2)) .leaf) (Nat.beq (i % 2) 1)) (.node v .leaf .leaf) (Nat.beq i 0):Map α)=_
 simp only [brec,Nat.beq_eq]
theorem put_leaf (v:Option α) (i:Nat):put v leaf i=one v (i + 1) i:=rfl
theorem put_node (w v:Option α) (l r:Map α) (i:Nat):put w (node v l r) i=if i=0 then .node w l r else if i % 2=1 then .node v (put w l (i / 2)) r else .node v l (put w r (i / 2 - 1)):=by
 show (Bool.rec (Bool.rec (.node v l (put w r (i / 2 - 1))) (.node v (put w l (i / 2)) r) (Nat.beq (i % 2) 1)) (.node w l r) (Nat.beq i 0):Map α)=_
 simp only [brec,Nat.beq_eq]
theorem get_one (v:Option α):∀(f i j:Nat),i < f→(one v f i).get j=if j=i then v else none:=by
 intro f
 induction f with
 |zero=>intro i j h;omega
 |succ f ih=>
  intro i j h
  rw [one_succ]
  by_cases h0:i=0
  ·subst h0
   simp only [if_true,get_node,get_leaf]
   split <;> simp_all
  ·rw [if_neg h0]
   by_cases h1:i % 2=1
   ·rw [if_pos h1,get_node,ih _ _ (by omega)]
    by_cases hj:j=0
    ·subst hj;rw [if_pos rfl,if_neg (by omega)]
    ·rw [if_neg hj]
     by_cases hj1:j % 2=1
     ·rw [if_pos hj1]
      by_cases e:j=i
      ·subst e;simp
      ·rw [if_neg (by omega),if_neg e]
     ·rw [if_neg hj1,get_leaf,if_neg (by rintro rfl;exact hj1 h1)]
   ·rw [if_neg h1,get_node,ih _ _ (by omega)]
    by_cases hj:j=0
    ·subst hj;rw [if_pos rfl,if_neg (by omega)]
    ·rw [if_neg hj]
     by_cases hj1:j % 2=1
     ·rw [if_pos hj1,get_leaf,if_neg (by rintro rfl;exact h1 hj1)]
     ·rw [if_neg hj1]
      by_cases e:j=i
      ·subst e;simp
      ·rw [if_neg (by omega),if_neg e]
theorem get_put (w:Option α) (m:Map α):∀(i j:Nat),(put w m i).get j=if j=i then w else m.get j:=by
 induction m with
 |leaf=>intro i j;rw [put_leaf,get_one _ _ _ _ (by omega),get_leaf]
 |node v l r ihl ihr=>
  intro i j
  rw [put_node]
  by_cases h0:i=0
  ·subst h0
   rw [if_pos rfl,get_node,get_node]
   split <;> rfl
  ·rw [if_neg h0]
   by_cases h1:i % 2=1
   ·rw [if_pos h1,get_node,get_node,ihl]
    by_cases hj:j=0
    ·subst hj;rw [if_pos rfl,if_neg (by omega),if_pos rfl]
    ·rw [if_neg hj,if_neg hj]
     by_cases hj1:j % 2=1
     ·rw [if_pos hj1,if_pos hj1]
      by_cases e:j=i
      ·subst e;simp
      ·rw [if_neg (by omega),if_neg e]
     ·rw [if_neg hj1,if_neg hj1,if_neg (by rintro rfl;exact hj1 h1)]
   ·rw [if_neg h1,get_node,get_node,ihr]
    by_cases hj:j=0
    ·subst hj;rw [if_pos rfl,if_neg (by omega),if_pos rfl]
    ·rw [if_neg hj,if_neg hj]
     by_cases hj1:j % 2=1
     ·rw [if_pos hj1,if_pos hj1,if_neg (by rintro rfl;exact h1 hj1)]
     ·rw [if_neg hj1,if_neg hj1]
      by_cases e:j=i
      ·subst e;simp
      ·rw [if_neg (by omega),if_neg e]
theorem get_upto (m:Map α):∀(p:Nat→Bool) (i:Nat),(m.upto p).get i=if p i=true then m.get i else none:=by
 induction m with
 |leaf=>intro p i;show none=_;rw [get_leaf];split <;> rfl
 |node v l r ihl ihr=>
  intro p i
  show (node _ (l.upto _) (r.upto _)).get i=_
  rw [get_node,get_node,ihl,ihr,brec]
  by_cases h0:i=0
  ·subst h0;simp
  ·rw [if_neg h0,if_neg h0]
   by_cases h1:i % 2=1
   ·rw [if_pos h1,if_pos h1]
    have e:Nat.succ (Nat.mul 2 (i / 2))=i:=by simp only [Nat.succ_eq_add_one,Nat.mul_eq];omega
    rw [e]
   ·rw [if_neg h1,if_neg h1]
    have e:Nat.succ (Nat.succ (Nat.mul 2 (i / 2 - 1)))=i:=by simp only [Nat.succ_eq_add_one,Nat.mul_eq];omega
    rw [e]
theorem get_union (a:Map α):∀(b:Map α) (i:Nat),(a.union b).get i=match a.get i with | some x=>some x | none=>b.get i:=by
 induction a with
 |leaf=>intro b i;rfl
 |node v l r ihl ihr=>
  intro b i
  cases b with
  |leaf=>show (node v l r).get i=_;cases (node v l r).get i <;> rfl
  |node v' l' r'=>
   show (node _ (l.union l') (r.union r')).get i=_
   rw [get_node,get_node,get_node,ihl,ihr]
   by_cases h0:i=0
   ·simp only [if_pos h0];try (cases v <;> rfl)
   ·simp only [if_neg h0]
    by_cases h1:i % 2=1
    ·simp only [if_pos h1]
    ·simp only [if_neg h1]
end Map
theorem allB_true {α:Type} {f:α→Bool} {l:List α}:allB f l=true↔∀x∈l,f x=true:=by
 induction l with
 |nil=>exact ⟨fun _ _ h=>(by cases h),fun _=>rfl⟩
 |cons x l ih=>
  show (Bool.rec false (allB f l) (f x):Bool)=true↔_
  rw [brec]
  split
  ·rename_i h;rw [ih];simp [h]
  ·rename_i h;simp [h]
theorem mapO_cons {α β:Type} (f:α→Option β) (x:α) (l:List α):mapO f (x :: l)=match f x with | none=>none | some y=>match mapO f l with | none=>none | some ys=>some (y :: ys):=rfl
theorem mapO_nil {α β:Type} (f:α→Option β):mapO f []=some []:=rfl
theorem mapO_some {α β:Type} {f:α→Option β} {l:List α} {r:List β} (h:mapO f l=some r):l.length=r.length∧∀(j:Nat) (x:α),l[j]?=some x→∃y,r[j]?=some y∧f x=some y:=by
 induction l generalizing r with
 |nil=>rw [mapO_nil] at h;cases h;exact ⟨rfl,fun j x hx=>by simp at hx⟩
 |cons a l ih=>
  rw [mapO_cons] at h
  cases ha:f a with
  |none=>rw [ha] at h;cases h
  |some y=>
   rw [ha] at h
   cases hl:mapO f l with
   |none=>rw [hl] at h;cases h
   |some ys=>
    rw [hl] at h
    cases h
    obtain ⟨h1,h2⟩:=ih hl
    refine ⟨by simp [h1],fun j x hx=>?_⟩
    cases j with
    |zero=>simp at hx;subst hx;exact ⟨y,rfl,ha⟩
    |succ j=>simpa using h2 j x (by simpa using hx)
theorem first_nil (n:Nat):first [] n=if n=0 then some [] else none:=by
 show (Bool.rec _ _ _:Option (List AV))=_;simp only [brec,Nat.beq_eq]
theorem first_cons (x:AV) (l:List AV) (n:Nat):first (x :: l) n=if n=0 then some [] else match first l (n - 1) with | some r=>some (x :: r) | none=>none:=by
 show (Bool.rec (match first l (n - 1) with | some r=>some (x :: r) | none=>none) (some []) (Nat.beq n 0):Option (List AV))=_;simp only [brec,Nat.beq_eq]
theorem first_eq (cells:List AV):∀n,first cells n=if n≤cells.length then some (cells.take n) else none:=by
 induction cells with
 |nil=>intro n;rw [first_nil];cases n <;> simp
 |cons x l ih=>
  intro n
  rw [first_cons,ih]
  cases n with
  |zero=>simp
  |succ n=>simp only [Nat.add_one_ne_zero,if_false,Nat.add_sub_cancel,List.length_cons,Nat.add_le_add_iff_right];by_cases h:n≤l.length <;> simp [h]
theorem cut_nil (off n:Nat):cut [] off n=if off=0 then first [] n else none:=by
 show (Bool.rec _ _ _:Option (List AV))=_;simp only [brec,Nat.beq_eq]
theorem cut_cons (x:AV) (l:List AV) (off n:Nat):cut (x :: l) off n=if off=0 then first (x :: l) n else cut l (off - 1) n:=by
 show (Bool.rec (cut l (off - 1) n) (first (x :: l) n) (Nat.beq off 0):Option (List AV))=_;simp only [brec,Nat.beq_eq]
theorem cut_eq (cells:List AV):∀off n,cut cells off n=if off + n≤cells.length then some ((cells.drop off).take n) else none:=by
 induction cells with
 |nil=>intro off n;rw [cut_nil,first_eq];cases off <;> simp
 |cons x l ih=>
  intro off n
  rw [cut_cons,ih,first_eq]
  cases off with
  |zero=>simp
  |succ off=>simp only [Nat.add_one_ne_zero,if_false,Nat.add_sub_cancel,List.length_cons,List.drop_succ_cons];simp only [Nat.add_right_comm off 1 n,Nat.add_le_add_iff_right]
theorem cut_some {cells cs:List AV} {off n:Nat} (h:cut cells off n=some cs):off + n≤cells.length∧cs=(cells.drop off).take n:=by
 rw [cut_eq] at h
 split at h
 ·rename_i hl;exact ⟨hl,by injection h with h;exact h.symm⟩
 ·cases h
theorem cut_at {cells cs:List AV} {off n:Nat} (h:cut cells off n=some cs):cs.length=n∧∀j,j < n→cs[j]?=cells[off + j]?:=by
 obtain ⟨hl,rfl⟩:=cut_some h
 refine ⟨by simp;omega,fun j hj=>by rw [List.getElem?_take_of_lt hj,List.getElem?_drop]⟩
theorem overF_nil (cells:List AV):overF [] cells=some cells:=rfl
theorem overF_cons (y:AV) (cs:List AV):∀cells,overF (y :: cs) cells=match cells with | []=>none | _ :: xs=>match overF cs xs with | some l=>some (y :: l) | none=>none:=fun _=>rfl
theorem overF_eq (cs:List AV):∀cells,overF cs cells=if cs.length≤cells.length then some (cs++cells.drop cs.length) else none:=by
 induction cs with
 |nil=>intro cells;simp [overF_nil]
 |cons y cs ih=>
  intro cells
  rw [overF_cons]
  cases cells with
  |nil=>simp
  |cons x xs=>simp only [ih,List.length_cons,Nat.add_le_add_iff_right,List.drop_succ_cons,List.cons_append];by_cases h:cs.length≤xs.length <;> simp [h]
theorem over_nil (off:Nat) (cs:List AV):over [] off cs=if off=0 then overF cs [] else none:=by
 show (Bool.rec _ _ _:Option (List AV))=_;simp only [brec,Nat.beq_eq]
theorem over_cons (x:AV) (l:List AV) (off:Nat) (cs:List AV):over (x :: l) off cs=if off=0 then overF cs (x :: l) else match over l (off - 1) cs with | some r=>some (x :: r) | none=>none:=by
 show (Bool.rec (match over l (off - 1) cs with | some r=>some (x :: r) | none=>none) (overF cs (x :: l)) (Nat.beq off 0):Option (List AV))=_;simp only [brec,Nat.beq_eq]
theorem over_eq (cells:List AV):∀off cs,over cells off cs=if off + cs.length≤cells.length then some (cells.take off++cs++cells.drop (off + cs.length)) else none:=by
 induction cells with
 |nil=>intro off cs;rw [over_nil,overF_eq];cases off <;> simp
 |cons x l ih=>
  intro off cs
  rw [over_cons,ih,overF_eq]
  cases off with
  |zero=>simp
  |succ off=>
   simp only [Nat.add_one_ne_zero,if_false,Nat.add_sub_cancel,List.length_cons,List.take_succ_cons,Nat.add_right_comm off 1 cs.length,Nat.add_le_add_iff_right,List.drop_succ_cons]
   by_cases h:off + cs.length≤l.length <;> simp [h]
theorem over_some {cells cells' cs:List AV} {off:Nat} (h:over cells off cs=some cells'):off + cs.length≤cells.length∧cells'=cells.take off++cs++cells.drop (off + cs.length):=by
 rw [over_eq] at h
 split at h
 ·rename_i hl;exact ⟨hl,by injection h with h;exact h.symm⟩
 ·cases h
theorem over_at {cells cells' cs:List AV} {off:Nat} (h:over cells off cs=some cells'):cells'.length=cells.length∧∀j,cells'[j]?=if off≤j∧j < off + cs.length then cs[j - off]? else cells[j]?:=by
 obtain ⟨hl,rfl⟩:=over_some h
 refine ⟨by simp;omega,fun j=>?_⟩
 by_cases h1:j < off
 ·rw [List.getElem?_append_left (by simp;omega),List.getElem?_append_left (by simp;omega),List.getElem?_take_of_lt h1,if_neg (by omega)]
 ·by_cases h2:j < off + cs.length
  ·rw [List.getElem?_append_left (by simp;omega),List.getElem?_append_right (by simp;omega),if_pos ⟨by omega,h2⟩]
   congr 1
   simp
   omega
  ·rw [List.getElem?_append_right (by simp;omega),if_neg (by omega),List.getElem?_drop]
   congr 1
   simp
   omega
theorem eqK_eq {a b:IntKind} (h:eqK a b=true):a=b:=by cases a <;> cases b <;> first | rfl | cases h
theorem blt_d (a b:Nat):Nat.blt a b=decide (a < b):=by rw [Bool.eq_iff_iff];simp [Nat.blt_eq]
theorem ltA_eq (x y:Int):ltA x y=decide (x < y):=by
 cases x <;> cases y <;> simp only [ltA,blt_d] <;> first
  |(congr 1;simp only [Int.ofNat_eq_natCast,eq_iff_iff];omega)
  |(symm;rw [decide_eq_true_eq];simp only [Int.ofNat_eq_natCast];omega)
  |(symm;rw [decide_eq_false_iff_not];simp only [Int.ofNat_eq_natCast];omega)
theorem eqA_eq (x y:Int):eqA x y=decide (x=y):=by
 cases x <;> cases y <;> simp only [eqA] <;> first
  |(rw [Bool.eq_iff_iff,Nat.beq_eq,decide_eq_true_eq];simp only [Int.ofNat_eq_natCast];omega)
  |(rw [Bool.eq_iff_iff,Nat.beq_eq,decide_eq_true_eq,Int.negSucc.injEq])
  |(symm;rw [decide_eq_false_iff_not];simp only [Int.ofNat_eq_natCast];omega)
theorem ixA_some {i:Int} {n m:Nat} (h:ixA i n=some m):i=(m:Int)∧m < n:=by
 cases i with
 |ofNat k=>
  simp only [ixA,blt_d,cond_eq_ite,decide_eq_true_eq] at h
  split at h
  ·cases h;exact ⟨rfl,by assumption⟩
  ·cases h
 |negSucc k=>cases h
theorem bdA_some {i:Int} {n m:Nat} (h:bdA i n=some m):i=(m:Int)∧m≤n:=by
 cases i with
 |ofNat k=>
  simp only [bdA,cond_eq_ite,Nat.ble_eq] at h
  split at h
  ·cases h;exact ⟨rfl,by assumption⟩
  ·cases h
 |negSucc k=>cases h
theorem wrapA_eq (k:IntKind) (n:Int):wrapA k n=k.wrap n:=by
 unfold wrapA
 rw [cond_eq_ite]
 split
 ·rename_i h
  cases k <;> cases n <;> simp only [inR,blt_d,decide_eq_true_eq] at h <;> simp only [IntKind.wrap,IntKind.bits,IntKind.signed,Int.ofNat_eq_natCast] <;> simp <;> omega
 ·rfl
end Go.Ax

namespace Go.Ax.TryLr
open Go Go.Ax
abbrev oT (d t:Nat) (op:AOp):AOper:=⟨some d,op,some (t,true),false⟩
abbrev oF (d t:Nat) (op:AOp):AOper:=⟨some d,op,some (t,false),false⟩
abbrev oN (op:AOp):AOper:=⟨none,op,none,false⟩
abbrev zi:AV:=.int .i64 0
def r11_0:List AOper:=[o 1 (.box (.t 0)),
 o 2 (.mv (.c (.bool false)))]
def r11_1:List AOper:=[o 8 (.load (some 2) (.t 1)),
 o 9 (.call 44 [.t 8] .borrow),
 o 10 (.call 43 [.t 9] .borrow),
 o 7 (.mv (.t 10)),
 o 11 (.ext 0 (.t 7)),
 o 12 (.ext 1 (.t 7)),
 o 3 (.alloc [.nils,.nils,.nils]),
 oN (.store 3 (.t 3) (.t 11)),
 o 4 (.mv (.t 12))]
def r11_2:List AOper:=[o 14 (.load (some 2) (.t 1)),
 o 15 (.call 45 [.t 14] .borrow),
 o 13 (.mv (.t 15)),
 o 16 (.ext 0 (.t 13)),
 o 17 (.ext 1 (.t 13)),
 o 5 (.alloc [.nils,.nils,.nils]),
 oN (.store 3 (.t 5) (.t 16)),
 o 6 (.mv (.t 17))]
def r11_3:List AOper:=[o 18 (.call 46 [] .borrow),
 o 19 (.un .not (.t 18)),
 o 20 (.mv (.t 19)),
 oF 21 20 (.mv (.t 4)),
 oF 22 20 (.mv (.t 6)),
 oF 23 20 (.bin .neq (.t 21) (.t 22)),
 o 24 (.pick (.t 20) (.c (.bool true)) (.t 23)),
 o 25 (.mv (.t 24)),
 oF 26 25 (.faddr 1 (.t 3)),
 oF 27 25 (.load none (.t 26)),
 oF 28 25 (.len false (.t 27)),
 oF 29 25 (.faddr 1 (.t 5)),
 oF 30 25 (.load none (.t 29)),
 oF 31 25 (.len false (.t 30)),
 oF 32 25 (.bin .neq (.t 28) (.t 31)),
 o 33 (.pick (.t 25) (.c (.bool true)) (.t 32))]
def r11_4:List AOper:=[o 2 (.mv (.c (.bool false)))]
def r11_5:List AOper:=[o 34 (.mv (.t 4)),
 o 35 (.bin .neq (.t 34) (i64 1)),
 o 36 (.mv (.t 35)),
 oF 37 36 (.load (some 2) (.t 1)),
 oF 38 36 (.call 47 [.t 37] .borrow),
 oF 39 36 (.un .not (.t 38)),
 o 40 (.pick (.t 36) (.c (.bool true)) (.t 39)),
 o 2 (.mv (.t 40))]
def c11:ACode:=.seq (.reg r11_0) (.seq (.reg r11_1) (.seq (.reg r11_2) (.seq (.seq (.reg r11_3) (.cond (.t 33) (.seq (.reg r11_4) (.ret)) (.skip))) (.seq (.reg r11_5) (.ret)))))
def a11:AFunc:=⟨1,41,[.tmp 2],c11⟩
def r36_0:List AOper:=[o 1 (.box (.t 0)),
 o 2 (.alloc [zi,zi,zi,.nils])]
def r36_1:List AOper:=[o 5 (.faddr 0 (.t 1)),
 o 6 (.load none (.t 5)),
 o 7 (.faddr 1 (.t 1)),
 o 8 (.load none (.t 7)),
 o 9 (.faddr 2 (.t 1)),
 o 10 (.load none (.t 9)),
 o 11 (.build [zi,zi,zi,.nils] [(0,1,(.t 6)),(1,1,(.t 8)),(2,1,(.t 10))]),
 o 3 (.alloc [zi,zi,zi,.nils]),
 oN (.store 4 (.t 3) (.t 11))]
def r36_2:List AOper:=[o 4 (.mv (i64 0))]
def r36_3:List AOper:=[o 12 (.mv (.t 4)),
 o 13 (.faddr 3 (.t 1)),
 o 14 (.load none (.t 13)),
 o 15 (.len false (.t 14)),
 o 16 (.bin .lss (.t 12) (.t 15))]
def r36_5:List AOper:=[o 19 (.faddr 3 (.t 3)),
 o 20 (.load none (.t 19)),
 o 21 (.faddr 3 (.t 1)),
 o 22 (.load none (.t 21)),
 o 23 (.mv (.t 4)),
 o 24 (.iaddr 4 (.t 22) (.t 23)),
 o 25 (.load (some 4) (.t 24)),
 o 26 (.call 36 [.t 25] .borrow),
 ⟨some 27,.islice 1 [zi,zi,zi,.nils] [(0,4,(.t 26))],none,true⟩,
 o 28 (.app 4 48 (.t 20) (.t 27)),
 o 29 (.faddr 3 (.t 3)),
 oN (.store 1 (.t 29) (.t 28))]
def b36_5:List (List Nat):=[[],[0],[],[2],[],[2,3,4],[2,3,4,5],[2,3,4,5,6],[2,3,4,5,6,7],[0,1,2,3,4,5,6,7,8],[0,1,2,3,4,5,6,7,8,9],[0,1,2,3,4,5,6,7,8,9,10]]
def r36_4:List AOper:=[o 17 (.mv (.t 4)),
 o 18 (.bin .add (.t 17) (i64 1)),
 o 4 (.mv (.t 18))]
def l36_0:ACode:=.seq (.seq (.reg r36_3) (.cond (.t 16) (.skip) (.exit 0))) (.seq (.block 1 (.dreg r36_5 b36_5 [(1,8)])) (.reg r36_4))
def r36_6:List AOper:=[o 30 (.load (some 4) (.t 3)),
 oN (.store 4 (.t 2) (.t 30))]
def c36:ACode:=.seq (.reg r36_0) (.seq (.reg r36_1) (.seq (.seq (.reg r36_2) (.block 0 (.loop l36_0))) (.seq (.reg r36_6) (.ret))))
def a36:AFunc:=⟨1,31,[.cell 2 (some 4)],c36⟩
def r41_0:List AOper:=[o 2 (.mv (i64 0))]
def r41_1:List AOper:=[o 3 (.mv (.t 0))]
def r41_2:List AOper:=[o 5 (.bin .eql (.t 3) (i64 1)),
 o 4 (.mv (.t 5))]
def r41_3:List AOper:=[o 2 (.mv (i64 2))]
def r41_4:List AOper:=[o 7 (.bin .eql (.t 3) (i64 2)),
 o 6 (.mv (.t 7))]
def r41_5:List AOper:=[o 2 (.mv (i64 1))]
def r41_6:List AOper:=[o 9 (.bin .eql (.t 3) (i64 3)),
 o 8 (.mv (.t 9))]
def r41_7:List AOper:=[o 2 (.mv (i64 6))]
def r41_8:List AOper:=[o 11 (.bin .eql (.t 3) (i64 4)),
 o 10 (.mv (.t 11))]
def r41_9:List AOper:=[o 2 (.mv (i64 5))]
def r41_10:List AOper:=[o 13 (.bin .eql (.t 3) (i64 5)),
 o 12 (.mv (.t 13))]
def r41_11:List AOper:=[o 2 (.mv (i64 4))]
def r41_12:List AOper:=[o 15 (.bin .eql (.t 3) (i64 6)),
 o 14 (.mv (.t 15))]
def r41_13:List AOper:=[o 2 (.mv (i64 3))]
def r41_14:List AOper:=[o 2 (.mv (i64 0))]
def c41:ACode:=.seq (.reg r41_0) (.seq (.seq (.reg r41_1) (.block 0 (.seq (.reg r41_2) (.cond (.t 4) (.seq (.reg r41_3) (.ret)) (.seq (.reg r41_4) (.cond (.t 6) (.seq (.reg r41_5) (.ret)) (.seq (.reg r41_6) (.cond (.t 8) (.seq (.reg r41_7) (.ret)) (.seq (.reg r41_8) (.cond (.t 10) (.seq (.reg r41_9) (.ret)) (.seq (.reg r41_10) (.cond (.t 12) (.seq (.reg r41_11) (.ret)) (.seq (.reg r41_12) (.cond (.t 14) (.seq (.reg r41_13) (.ret)) (.skip))))))))))))))) (.seq (.reg r41_14) (.ret)))
def a41:AFunc:=⟨1,16,[.tmp 2],c41⟩
def r43_0:List AOper:=[o 1 (.box (.t 0)),
 o 2 (.alloc [.nils,.nils,.nils]),
 o 3 (.mv (i64 0))]
def r43_1:List AOper:=[o 8 (.load (some 2) (.t 1)),
 o 9 (.call 60 [.t 8] .borrow),
 o 10 (.un .not (.t 9))]
def r43_2:List AOper:=[o 11 (.build [.nils,.nils,.nils] []),
 oN (.store 3 (.t 2) (.t 11)),
 o 3 (.mv (i64 1))]
def r43_3:List AOper:=[o 12 (.faddr 0 (.t 1)),
 o 13 (.load none (.t 12)),
 o 14 (.call 61 [.t 13] .borrow),
 o 15 (.build [.nils,.nils,.nils] [(0,1,(.t 14))]),
 o 4 (.alloc [.nils,.nils,.nils]),
 oN (.store 3 (.t 4) (.t 15))]
def r43_4:List AOper:=[o 16 (.faddr 1 (.t 1)),
 o 17 (.load none (.t 16)),
 o 18 (.len false (.t 17)),
 o 19 (.mv (i64 0))]
def r43_5:List AOper:=[o 20 (.bin .lss (.t 19) (.t 18))]
def r43_6:List AOper:=[o 21 (.iaddr 2 (.t 17) (.t 19)),
 o 22 (.load (some 2) (.t 21)),
 o 6 (.alloc [zi,.nils]),
 oN (.store 2 (.t 6) (.t 22))]
def r43_7:List AOper:=[o 23 (.build [zi,.nils,.nils] [(0,1,(i64 2))]),
 o 7 (.alloc [zi,.nils,.nils]),
 oN (.store 3 (.t 7) (.t 23))]
def r43_8:List AOper:=[o 24 (.faddr 1 (.t 6)),
 o 25 (.load none (.t 24)),
 o 26 (.call 62 [.t 7,.t 25,(i64 0),(i64 1)] .share)]
def r43_9:List AOper:=[o 27 (.faddr 1 (.t 7)),
 o 28 (.load none (.t 27)),
 o 29 (.len false (.t 28)),
 o 30 (.bin .gtr (.t 29) (i64 400))]
def r43_10:List AOper:=[o 31 (.build [.nils,.nils,.nils] []),
 oN (.store 3 (.t 2) (.t 31)),
 o 3 (.mv (i64 10))]
def r43_11:List AOper:=[o 32 (.faddr 2 (.t 7)),
 o 33 (.load none (.t 32)),
 o 34 (.call 63 [.t 33] .share)]
def r43_12:List AOper:=[o 35 (.faddr 1 (.t 4)),
 o 36 (.load none (.t 35)),
 o 37 (.load (some 3) (.t 7)),
 ⟨some 38,.islice 1 [zi,.nils,.nils] [(0,3,(.t 37))],none,true⟩,
 o 39 (.app 3 56 (.t 36) (.t 38)),
 o 40 (.faddr 2 (.t 4)),
 o 41 (.load none (.t 40)),
 o 42 (.faddr 0 (.t 6)),
 o 43 (.load none (.t 42)),
 o 44 (.islice 1 [zi] [(0,1,(.t 43))]),
 o 45 (.app 1 8 (.t 41) (.t 44)),
 o 46 (.faddr 1 (.t 4)),
 oN (.store 1 (.t 46) (.t 39)),
 o 47 (.faddr 2 (.t 4)),
 oN (.store 1 (.t 47) (.t 45))]
def b43_12:List (List Nat):=[[],[0],[],[2],[0,1,2,3],[],[5],[],[7],[7,8],[0,1,2,3,4,5,6,7,8,9],[0,1,2,3,4,5,6],[0,1,2,3,4,5,6,7,8,9,10,11],[0,1,2,3,4,5,6,7,8,9,10,11,12],[0,1,2,3,4,5,6,7,8,9,10,11,12,13]]
def r43_13:List AOper:=[o 48 (.bin .add (.t 19) (i64 1)),
 o 19 (.mv (.t 48))]
def l43_0:ACode:=.seq (.reg r43_5) (.seq (.cond (.t 20) (.skip) (.exit 0)) (.seq (.block 1 (.seq (.reg r43_6) (.seq (.reg r43_7) (.seq (.reg r43_8) (.seq (.seq (.reg r43_9) (.cond (.t 30) (.seq (.reg r43_10) (.ret)) (.skip))) (.seq (.reg r43_11) (.dreg r43_12 b43_12 [(1,3),(3,6),(4,6),(3,8),(4,8)]))))))) (.reg r43_13)))
def r43_14:List AOper:=[o 49 (.load (some 3) (.t 4)),
 oN (.store 3 (.t 2) (.t 49)),
 o 3 (.mv (i64 0))]
def c43:ACode:=.seq (.reg r43_0) (.seq (.seq (.reg r43_1) (.cond (.t 10) (.seq (.reg r43_2) (.ret)) (.skip))) (.seq (.reg r43_3) (.seq (.seq (.reg r43_4) (.block 0 (.loop l43_0))) (.seq (.reg r43_14) (.ret)))))
def a43:AFunc:=⟨1,50,[.cell 2 (some 3),.tmp 3],c43⟩
def r44_0:List AOper:=[o 1 (.box (.t 0)),
 o 2 (.alloc [.nils,.nils])]
def r44_1:List AOper:=[o 3 (.alloc [.nils,.nils])]
def r44_2:List AOper:=[o 4 (.mv (i64 0))]
def r44_3:List AOper:=[o 9 (.mv (.t 4)),
 o 10 (.faddr 0 (.t 1)),
 o 11 (.load none (.t 10)),
 o 12 (.len false (.t 11)),
 o 13 (.bin .lss (.t 9) (.t 12))]
def r44_5:List AOper:=[o 16 (.faddr 0 (.t 1)),
 o 17 (.load none (.t 16)),
 o 18 (.mv (.t 4)),
 o 19 (.iaddr 6 (.t 17) (.t 18)),
 o 20 (.load (some 6) (.t 19)),
 o 5 (.alloc [zi,zi,zi,zi,zi,.nils]),
 oN (.store 6 (.t 5) (.t 20))]
def r44_6:List AOper:=[o 21 (.faddr 0 (.t 5)),
 o 22 (.load none (.t 21)),
 o 23 (.faddr 1 (.t 5)),
 o 24 (.load none (.t 23)),
 o 25 (.faddr 2 (.t 5)),
 o 26 (.load none (.t 25)),
 o 27 (.faddr 3 (.t 5)),
 o 28 (.load none (.t 27)),
 o 29 (.faddr 4 (.t 5)),
 o 30 (.load none (.t 29)),
 o 31 (.build [zi,zi,zi,zi,zi,.nils] [(0,1,(.t 22)),(1,1,(.t 24)),(2,1,(.t 26)),(3,1,(.t 28)),(4,1,(.t 30))]),
 o 6 (.alloc [zi,zi,zi,zi,zi,.nils]),
 oN (.store 6 (.t 6) (.t 31))]
def r44_7:List AOper:=[o 7 (.mv (i64 0))]
def r44_8:List AOper:=[o 32 (.mv (.t 7)),
 o 33 (.faddr 5 (.t 5)),
 o 34 (.load none (.t 33)),
 o 35 (.len false (.t 34)),
 o 36 (.bin .lss (.t 32) (.t 35))]
def r44_10:List AOper:=[o 39 (.faddr 5 (.t 6)),
 o 40 (.load none (.t 39)),
 o 41 (.islice 0 [] []),
 o 42 (.faddr 5 (.t 5)),
 o 43 (.load none (.t 42)),
 o 44 (.mv (.t 7)),
 o 45 (.iaddr 1 (.t 43) (.t 44)),
 o 46 (.load none (.t 45)),
 o 47 (.app 1 8 (.t 41) (.t 46)),
 ⟨some 48,.islice 1 [.nils] [(0,1,(.t 47))],none,true⟩,
 o 49 (.app 1 24 (.t 40) (.t 48)),
 o 50 (.faddr 5 (.t 6)),
 oN (.store 1 (.t 50) (.t 49))]
def b44_10:List (List Nat):=[[],[0],[],[],[3],[],[3,4,5],[3,4,5,6],[2,3,4,5,6,7],[2,3,4,5,6,7,8],[0,1,2,3,4,5,6,7,8,9],[0,1,2,3,4,5,6,7,8,9,10],[0,1,2,3,4,5,6,7,8,9,10,11]]
def r44_9:List AOper:=[o 37 (.mv (.t 7)),
 o 38 (.bin .add (.t 37) (i64 1)),
 o 7 (.mv (.t 38))]
def l44_0:ACode:=.seq (.seq (.reg r44_8) (.cond (.t 36) (.skip) (.exit 2))) (.seq (.block 3 (.dreg r44_10 b44_10 [(1,8),(1,9)])) (.reg r44_9))
def r44_11:List AOper:=[o 51 (.faddr 0 (.t 3)),
 o 52 (.load none (.t 51)),
 o 53 (.load (some 6) (.t 6)),
 ⟨some 54,.islice 1 [zi,zi,zi,zi,zi,.nils] [(0,6,(.t 53))],none,true⟩,
 o 55 (.app 6 64 (.t 52) (.t 54)),
 o 56 (.faddr 0 (.t 3)),
 oN (.store 1 (.t 56) (.t 55))]
def r44_4:List AOper:=[o 14 (.mv (.t 4)),
 o 15 (.bin .add (.t 14) (i64 1)),
 o 4 (.mv (.t 15))]
def l44_1:ACode:=.seq (.seq (.reg r44_3) (.cond (.t 13) (.skip) (.exit 0))) (.seq (.block 1 (.seq (.reg r44_5) (.seq (.reg r44_6) (.seq (.seq (.reg r44_7) (.block 2 (.loop l44_0))) (.reg r44_11))))) (.reg r44_4))
def r44_12:List AOper:=[o 8 (.mv (i64 0))]
def r44_13:List AOper:=[o 57 (.mv (.t 8)),
 o 58 (.faddr 1 (.t 1)),
 o 59 (.load none (.t 58)),
 o 60 (.len false (.t 59)),
 o 61 (.bin .lss (.t 57) (.t 60))]
def r44_15:List AOper:=[o 64 (.faddr 1 (.t 3)),
 o 65 (.load none (.t 64)),
 o 66 (.faddr 1 (.t 1)),
 o 67 (.load none (.t 66)),
 o 68 (.mv (.t 8)),
 o 69 (.iaddr 2 (.t 67) (.t 68)),
 o 70 (.faddr 0 (.t 69)),
 o 71 (.load none (.t 70)),
 o 72 (.faddr 1 (.t 1)),
 o 73 (.load none (.t 72)),
 o 74 (.mv (.t 8)),
 o 75 (.iaddr 2 (.t 73) (.t 74)),
 o 76 (.faddr 1 (.t 75)),
 o 77 (.load none (.t 76)),
 o 78 (.call 64 [.t 77] .borrow),
 o 79 (.build [zi,.nils] [(0,1,(.t 71)),(1,1,(.t 78))]),
 ⟨some 80,.islice 1 [zi,.nils] [(0,2,(.t 79))],none,true⟩,
 o 81 (.app 2 32 (.t 65) (.t 80)),
 o 82 (.faddr 1 (.t 3)),
 oN (.store 1 (.t 82) (.t 81))]
def b44_15:List (List Nat):=[[],[0],[],[2],[],[2,3,4],[2,3,4,5],[2,3,4,5,6],[],[8],[],[8,9,10],[8,9,10,11],[8,9,10,11,12],[8,9,10,11,12,13],[2,3,4,5,6,7,8,9,10,11,12,13,14],[2,3,4,5,6,7,8,9,10,11,12,13,14,15],[0,1,2,3,4,5,6,7,8,9,10,11,12,13,14,15,16],[0,1,2,3,4,5,6,7,8,9,10,11,12,13,14,15,16,17],[0,1,2,3,4,5,6,7,8,9,10,11,12,13,14,15,16,17,18]]
def r44_14:List AOper:=[o 62 (.mv (.t 8)),
 o 63 (.bin .add (.t 62) (i64 1)),
 o 8 (.mv (.t 63))]
def l44_2:ACode:=.seq (.seq (.reg r44_13) (.cond (.t 61) (.skip) (.exit 4))) (.seq (.block 5 (.dreg r44_15 b44_15 [(1,16)])) (.reg r44_14))
def r44_16:List AOper:=[o 83 (.load (some 2) (.t 3)),
 oN (.store 2 (.t 2) (.t 83))]
def c44:ACode:=.seq (.reg r44_0) (.seq (.reg r44_1) (.seq (.seq (.reg r44_2) (.block 0 (.loop l44_1))) (.seq (.seq (.reg r44_12) (.block 4 (.loop l44_2))) (.seq (.reg r44_16) (.ret)))))
def a44:AFunc:=⟨1,84,[.cell 2 (some 2)],c44⟩
def r45_0:List AOper:=[o 1 (.box (.t 0)),
 o 2 (.alloc [.nils,.nils,.nils]),
 o 3 (.mv (i64 0))]
def r45_1:List AOper:=[o 9 (.load (some 2) (.t 1)),
 o 10 (.call 47 [.t 9] .borrow),
 o 11 (.un .not (.t 10))]
def r45_2:List AOper:=[o 12 (.build [.nils,.nils,.nils] []),
 oN (.store 3 (.t 2) (.t 12)),
 o 3 (.mv (i64 1))]
def r45_3:List AOper:=[o 13 (.faddr 0 (.t 1)),
 o 14 (.load none (.t 13)),
 o 15 (.build [.nils,.nils,.nils] [(0,1,(.t 14))]),
 o 4 (.alloc [.nils,.nils,.nils]),
 oN (.store 3 (.t 4) (.t 15))]
def r45_4:List AOper:=[o 5 (.mv (i64 0))]
def r45_5:List AOper:=[o 16 (.mv (.t 5)),
 o 17 (.faddr 1 (.t 1)),
 o 18 (.load none (.t 17)),
 o 19 (.len false (.t 18)),
 o 20 (.bin .lss (.t 16) (.t 19))]
def r45_7:List AOper:=[o 23 (.build [zi,.nils,.nils] [(0,1,(i64 2))]),
 o 6 (.alloc [zi,.nils,.nils]),
 oN (.store 3 (.t 6) (.t 23))]
def r45_8:List AOper:=[o 24 (.faddr 1 (.t 1)),
 o 25 (.load none (.t 24)),
 o 26 (.mv (.t 5)),
 o 27 (.iaddr 2 (.t 25) (.t 26)),
 o 28 (.faddr 1 (.t 27)),
 o 29 (.load none (.t 28)),
 o 30 (.call 65 [.t 6,.t 29,(i64 0),(i64 1)] .share)]
def r45_9:List AOper:=[o 31 (.faddr 1 (.t 6)),
 o 32 (.load none (.t 31)),
 o 33 (.len false (.t 32)),
 o 34 (.bin .gtr (.t 33) (i64 400))]
def r45_10:List AOper:=[o 35 (.build [.nils,.nils,.nils] []),
 oN (.store 3 (.t 2) (.t 35)),
 o 3 (.mv (i64 10))]
def r45_11:List AOper:=[o 7 (.mv (i64 1))]
def r45_12:List AOper:=[o 36 (.mv (.t 7)),
 o 37 (.faddr 2 (.t 6)),
 o 38 (.load none (.t 37)),
 o 39 (.len false (.t 38)),
 o 40 (.bin .lss (.t 36) (.t 39))]
def r45_14:List AOper:=[o 43 (.mv (.t 7)),
 o 8 (.mv (.t 43))]
def r45_15:List AOper:=[o 44 (.mv (.t 8)),
 o 45 (.bin .gtr (.t 44) (i64 0)),
 o 46 (.mv (.t 45)),
 oT 47 46 (.faddr 2 (.t 6)),
 oT 48 46 (.load none (.t 47)),
 oT 49 46 (.mv (.t 8)),
 oT 50 46 (.bin .sub (.t 49) (i64 1)),
 oT 51 46 (.iaddr 1 (.t 48) (.t 50)),
 oT 52 46 (.load none (.t 51)),
 oT 53 46 (.faddr 2 (.t 6)),
 oT 54 46 (.load none (.t 53)),
 oT 55 46 (.mv (.t 8)),
 oT 56 46 (.iaddr 1 (.t 54) (.t 55)),
 oT 57 46 (.load none (.t 56)),
 oT 58 46 (.bin .gtr (.t 52) (.t 57)),
 o 59 (.pick (.t 46) (.t 58) (.c (.bool false)))]
def b45_15:List (List Nat):=[[],[0],[0,1],[0,1,2],[0,1,2,3],[0,1,2],[0,1,2,5],[0,1,2,3,4,5,6],[0,1,2,3,4,5,6,7],[0,1,2],[0,1,2,9],[0,1,2],[0,1,2,9,10,11],[0,1,2,9,10,11,12],[0,1,2,3,4,5,6,7,8,9,10,11,12,13],[0,1,2,3,4,5,6,7,8,9,10,11,12,13,14]]
def r45_17:List AOper:=[o 62 (.faddr 2 (.t 6)),
 o 63 (.load none (.t 62)),
 o 64 (.mv (.t 8)),
 o 65 (.bin .sub (.t 64) (i64 1)),
 o 66 (.faddr 2 (.t 6)),
 o 67 (.load none (.t 66)),
 o 68 (.mv (.t 8)),
 o 69 (.faddr 2 (.t 6)),
 o 70 (.load none (.t 69)),
 o 71 (.mv (.t 8)),
 o 72 (.iaddr 1 (.t 70) (.t 71)),
 o 73 (.load none (.t 72)),
 o 74 (.faddr 2 (.t 6)),
 o 75 (.load none (.t 74)),
 o 76 (.mv (.t 8)),
 o 77 (.bin .sub (.t 76) (i64 1)),
 o 78 (.iaddr 1 (.t 75) (.t 77)),
 o 79 (.load none (.t 78)),
 o 80 (.iaddr 1 (.t 63) (.t 65)),
 oN (.store 1 (.t 80) (.t 73)),
 o 81 (.iaddr 1 (.t 67) (.t 68)),
 oN (.store 1 (.t 81) (.t 79))]
def b45_17:List (List Nat):=[[],[0],[],[2],[],[4],[],[],[7],[],[7,8,9],[7,8,9,10],[],[12],[],[14],[12,13,14,15],[12,13,14,15,16],[0,1,2,3,4,5,7,8,9,10,11,12,13,14,15,16,17],[0,1,2,3,4,5,7,8,9,10,11,12,13,14,15,16,17,18],[0,1,2,3,4,5,6,7,8,9,10,11,12,13,14,15,16,17,18,19],[0,1,2,3,4,5,6,7,8,9,10,11,12,13,14,15,16,17,18,19,20]]
def r45_16:List AOper:=[o 60 (.mv (.t 8)),
 o 61 (.bin .sub (.t 60) (i64 1)),
 o 8 (.mv (.t 61))]
def l45_0:ACode:=.seq (.seq (.dreg r45_15 b45_15 []) (.cond (.t 59) (.skip) (.exit 4))) (.seq (.block 5 (.dreg r45_17 b45_17 [])) (.reg r45_16))
def r45_13:List AOper:=[o 41 (.mv (.t 7)),
 o 42 (.bin .add (.t 41) (i64 1)),
 o 7 (.mv (.t 42))]
def l45_1:ACode:=.seq (.seq (.reg r45_12) (.cond (.t 40) (.skip) (.exit 2))) (.seq (.block 3 (.seq (.reg r45_14) (.block 4 (.loop l45_0)))) (.reg r45_13))
def r45_18:List AOper:=[o 82 (.faddr 1 (.t 4)),
 o 83 (.load none (.t 82)),
 o 84 (.load (some 3) (.t 6)),
 ⟨some 85,.islice 1 [zi,.nils,.nils] [(0,3,(.t 84))],none,true⟩,
 o 86 (.app 3 56 (.t 83) (.t 85)),
 o 87 (.faddr 2 (.t 4)),
 o 88 (.load none (.t 87)),
 o 89 (.faddr 1 (.t 1)),
 o 90 (.load none (.t 89)),
 o 91 (.mv (.t 5)),
 o 92 (.iaddr 2 (.t 90) (.t 91)),
 o 93 (.faddr 0 (.t 92)),
 o 94 (.load none (.t 93)),
 o 95 (.islice 1 [zi] [(0,1,(.t 94))]),
 o 96 (.app 1 8 (.t 88) (.t 95)),
 o 97 (.faddr 1 (.t 4)),
 oN (.store 1 (.t 97) (.t 86)),
 o 98 (.faddr 2 (.t 4)),
 oN (.store 1 (.t 98) (.t 96))]
def b45_18:List (List Nat):=[[],[0],[],[2],[0,1,2,3],[],[5],[],[7],[],[7,8,9],[7,8,9,10],[7,8,9,10,11],[7,8,9,10,11,12],[0,1,2,3,4,5,6,7,8,9,10,11,12,13],[0,1,2,3,4,5,6],[0,1,2,3,4,5,6,7,8,9,10,11,12,13,14,15],[0,1,2,3,4,5,6,7,8,9,10,11,12,13,14,15,16],[0,1,2,3,4,5,6,7,8,9,10,11,12,13,14,15,16,17]]
def r45_6:List AOper:=[o 21 (.mv (.t 5)),
 o 22 (.bin .add (.t 21) (i64 1)),
 o 5 (.mv (.t 22))]
def l45_2:ACode:=.seq (.seq (.reg r45_5) (.cond (.t 20) (.skip) (.exit 0))) (.seq (.block 1 (.seq (.reg r45_7) (.seq (.reg r45_8) (.seq (.seq (.reg r45_9) (.cond (.t 34) (.seq (.reg r45_10) (.ret)) (.skip))) (.seq (.seq (.reg r45_11) (.block 2 (.loop l45_1))) (.dreg r45_18 b45_18 [(1,3),(3,6),(4,6),(3,8),(4,8),(3,12),(4,12)])))))) (.reg r45_6))
def r45_19:List AOper:=[o 99 (.load (some 3) (.t 4)),
 oN (.store 3 (.t 2) (.t 99)),
 o 3 (.mv (i64 0))]
def c45:ACode:=.seq (.reg r45_0) (.seq (.seq (.reg r45_1) (.cond (.t 11) (.seq (.reg r45_2) (.ret)) (.skip))) (.seq (.reg r45_3) (.seq (.seq (.reg r45_4) (.block 0 (.loop l45_2))) (.seq (.reg r45_19) (.ret)))))
def a45:AFunc:=⟨1,100,[.cell 2 (some 3),.tmp 3],c45⟩
def r46_0:List AOper:=[o 0 (.mv (.c (.bool false)))]
def r46_1:List AOper:=[o 4 (.build [zi,zi,zi,.nils] [(0,1,(i64 1)),(1,1,(i64 3))]),
 o 5 (.build [zi,zi,zi,zi,zi,zi,zi,.nils,zi,zi,zi,zi,.nils,zi,zi,zi,.nils,.nils,.nils,.nils] [(0,1,(i64 1)),(4,4,(.t 4))]),
 ⟨some 6,.islice 1 [zi,zi,zi,zi,zi,zi,zi,.nils,zi,zi,zi,zi,.nils,zi,zi,zi,.nils,.nils,.nils,.nils] [(0,20,(.t 5))],none,true⟩,
 o 7 (.build [zi,.nils] [(0,1,(i64 1)),(1,1,(.t 6))]),
 ⟨some 8,.islice 1 [zi,.nils] [(0,2,(.t 7))],none,true⟩,
 o 9 (.build [.nils,.nils] [(1,1,(.t 8))]),
 o 10 (.call 43 [.t 9] .borrow),
 o 3 (.mv (.t 10)),
 o 11 (.ext 0 (.t 3)),
 o 12 (.ext 1 (.t 3)),
 o 1 (.alloc [.nils,.nils,.nils]),
 oN (.store 3 (.t 1) (.t 11)),
 o 2 (.mv (.t 12))]
def r46_2:List AOper:=[o 13 (.mv (.t 2)),
 o 14 (.bin .eql (.t 13) (i64 0)),
 o 15 (.mv (.t 14)),
 oT 16 15 (.faddr 1 (.t 1)),
 oT 17 15 (.load none (.t 16)),
 oT 18 15 (.len false (.t 17)),
 oT 19 15 (.bin .eql (.t 18) (i64 1)),
 o 20 (.pick (.t 15) (.t 19) (.c (.bool false))),
 o 21 (.mv (.t 20)),
 oT 22 21 (.faddr 1 (.t 1)),
 oT 23 21 (.load none (.t 22)),
 oT 24 21 (.iaddr 3 (.t 23) (i64 0)),
 oT 25 21 (.faddr 0 (.t 24)),
 oT 26 21 (.load none (.t 25)),
 oT 27 21 (.bin .eql (.t 26) (i64 2)),
 o 28 (.pick (.t 21) (.t 27) (.c (.bool false))),
 o 29 (.mv (.t 28)),
 oT 30 29 (.faddr 1 (.t 1)),
 oT 31 29 (.load none (.t 30)),
 oT 32 29 (.iaddr 3 (.t 31) (i64 0)),
 oT 33 29 (.faddr 1 (.t 32)),
 oT 34 29 (.load none (.t 33)),
 oT 35 29 (.len false (.t 34)),
 oT 36 29 (.bin .eql (.t 35) (i64 1)),
 o 37 (.pick (.t 29) (.t 36) (.c (.bool false))),
 o 38 (.mv (.t 37)),
 oT 39 38 (.faddr 1 (.t 1)),
 oT 40 38 (.load none (.t 39)),
 oT 41 38 (.iaddr 3 (.t 40) (i64 0)),
 oT 42 38 (.faddr 1 (.t 41)),
 oT 43 38 (.load none (.t 42)),
 oT 44 38 (.iaddr 19 (.t 43) (i64 0)),
 oT 45 38 (.faddr 1 (.t 44)),
 oT 46 38 (.load none (.t 45)),
 oT 47 38 (.bin .eql (.t 46) (i64 1)),
 o 48 (.pick (.t 38) (.t 47) (.c (.bool false))),
 o 49 (.mv (.t 48)),
 oT 50 49 (.load (some 3) (.t 1)),
 oT 51 49 (.call 53 [.t 50] .borrow),
 o 52 (.pick (.t 49) (.t 51) (.c (.bool false))),
 o 53 (.mv (.t 52)),
 oT 54 53 (.call 41 [(i64 3)] .borrow),
 oT 55 53 (.bin .eql (.t 54) (i64 6)),
 o 56 (.pick (.t 53) (.t 55) (.c (.bool false))),
 o 0 (.mv (.t 56))]
def c46:ACode:=.seq (.reg r46_0) (.seq (.reg r46_1) (.seq (.reg r46_2) (.ret)))
def a46:AFunc:=⟨0,57,[.tmp 0],c46⟩
def r47_0:List AOper:=[o 1 (.box (.t 0)),
 o 2 (.mv (.c (.bool false)))]
def r47_1:List AOper:=[o 10 (.faddr 0 (.t 1)),
 o 11 (.load none (.t 10)),
 o 12 (.len false (.t 11)),
 o 13 (.bin .gtr (.t 12) (i64 4)),
 o 14 (.mv (.t 13)),
 oF 15 14 (.faddr 1 (.t 1)),
 oF 16 14 (.load none (.t 15)),
 oF 17 14 (.len false (.t 16)),
 oF 18 14 (.bin .lss (.t 17) (i64 1)),
 o 19 (.pick (.t 14) (.c (.bool true)) (.t 18)),
 o 20 (.mv (.t 19)),
 oF 21 20 (.faddr 1 (.t 1)),
 oF 22 20 (.load none (.t 21)),
 oF 23 20 (.len false (.t 22)),
 oF 24 20 (.bin .gtr (.t 23) (i64 4)),
 o 25 (.pick (.t 20) (.c (.bool true)) (.t 24))]
def r47_2:List AOper:=[o 2 (.mv (.c (.bool false)))]
def r47_3:List AOper:=[o 3 (.mv (i64 0))]
def r47_4:List AOper:=[o 26 (.mv (.t 3)),
 o 27 (.faddr 0 (.t 1)),
 o 28 (.load none (.t 27)),
 o 29 (.len false (.t 28)),
 o 30 (.bin .lss (.t 26) (.t 29))]
def r47_6:List AOper:=[o 33 (.faddr 0 (.t 1)),
 o 34 (.load none (.t 33)),
 o 35 (.mv (.t 3)),
 o 36 (.iaddr 6 (.t 34) (.t 35)),
 o 37 (.load (some 6) (.t 36)),
 o 4 (.alloc [zi,zi,zi,zi,zi,.nils]),
 oN (.store 6 (.t 4) (.t 37))]
def r47_7:List AOper:=[o 38 (.faddr 0 (.t 4)),
 o 39 (.load none (.t 38)),
 o 40 (.bin .lss (.t 39) (i64 0)),
 o 41 (.mv (.t 40)),
 oF 42 41 (.faddr 0 (.t 4)),
 oF 43 41 (.load none (.t 42)),
 oF 44 41 (.bin .gtr (.t 43) (i64 2)),
 o 45 (.pick (.t 41) (.c (.bool true)) (.t 44)),
 o 46 (.mv (.t 45)),
 oF 47 46 (.faddr 1 (.t 4)),
 oF 48 46 (.load none (.t 47)),
 oF 49 46 (.bin .lss (.t 48) (i64 1)),
 o 50 (.pick (.t 46) (.c (.bool true)) (.t 49)),
 o 51 (.mv (.t 50)),
 oF 52 51 (.faddr 1 (.t 4)),
 oF 53 51 (.load none (.t 52)),
 oF 54 51 (.bin .gtr (.t 53) (i64 16)),
 o 55 (.pick (.t 51) (.c (.bool true)) (.t 54)),
 o 56 (.mv (.t 55)),
 oF 57 56 (.faddr 4 (.t 4)),
 oF 58 56 (.load none (.t 57)),
 oF 59 56 (.bin .lss (.t 58) (i64 1)),
 o 60 (.pick (.t 56) (.c (.bool true)) (.t 59)),
 o 61 (.mv (.t 60)),
 oF 62 61 (.faddr 4 (.t 4)),
 oF 63 61 (.load none (.t 62)),
 oF 64 61 (.bin .gtr (.t 63) (i64 4)),
 o 65 (.pick (.t 61) (.c (.bool true)) (.t 64)),
 o 66 (.mv (.t 65)),
 oF 67 66 (.faddr 2 (.t 4)),
 oF 68 66 (.load none (.t 67)),
 oF 69 66 (.bin .lss (.t 68) (i64 0)),
 o 70 (.pick (.t 66) (.c (.bool true)) (.t 69)),
 o 71 (.mv (.t 70)),
 oF 72 71 (.faddr 2 (.t 4)),
 oF 73 71 (.load none (.t 72)),
 oF 74 71 (.faddr 1 (.t 1)),
 oF 75 71 (.load none (.t 74)),
 oF 76 71 (.len false (.t 75)),
 oF 77 71 (.bin .geq (.t 73) (.t 76)),
 o 78 (.pick (.t 71) (.c (.bool true)) (.t 77)),
 o 79 (.mv (.t 78)),
 oF 80 79 (.faddr 3 (.t 4)),
 oF 81 79 (.load none (.t 80)),
 oF 82 79 (.bin .lss (.t 81) (i64 0)),
 o 83 (.pick (.t 79) (.c (.bool true)) (.t 82)),
 o 84 (.mv (.t 83)),
 oF 85 84 (.faddr 3 (.t 4)),
 oF 86 84 (.load none (.t 85)),
 oF 87 84 (.faddr 1 (.t 1)),
 oF 88 84 (.load none (.t 87)),
 oF 89 84 (.len false (.t 88)),
 oF 90 84 (.bin .geq (.t 86) (.t 89)),
 o 91 (.pick (.t 84) (.c (.bool true)) (.t 90)),
 o 92 (.mv (.t 91)),
 oF 93 92 (.faddr 2 (.t 4)),
 oF 94 92 (.load none (.t 93)),
 oF 95 92 (.faddr 3 (.t 4)),
 oF 96 92 (.load none (.t 95)),
 oF 97 92 (.bin .eql (.t 94) (.t 96)),
 o 98 (.pick (.t 92) (.c (.bool true)) (.t 97)),
 o 99 (.mv (.t 98)),
 oF 100 99 (.faddr 5 (.t 4)),
 oF 101 99 (.load none (.t 100)),
 oF 102 99 (.len false (.t 101)),
 oF 103 99 (.bin .gtr (.t 102) (i64 8)),
 o 104 (.pick (.t 99) (.c (.bool true)) (.t 103))]
def r47_8:List AOper:=[o 2 (.mv (.c (.bool false)))]
def r47_9:List AOper:=[o 5 (.mv (i64 0))]
def r47_10:List AOper:=[o 6 (.mv (i64 0))]
def r47_11:List AOper:=[o 105 (.mv (.t 6)),
 o 106 (.faddr 5 (.t 4)),
 o 107 (.load none (.t 106)),
 o 108 (.len false (.t 107)),
 o 109 (.bin .lss (.t 105) (.t 108))]
def r47_13:List AOper:=[o 112 (.faddr 5 (.t 4)),
 o 113 (.load none (.t 112)),
 o 114 (.mv (.t 6)),
 o 115 (.iaddr 1 (.t 113) (.t 114)),
 o 116 (.load none (.t 115)),
 o 117 (.len false (.t 116)),
 o 118 (.faddr 4 (.t 4)),
 o 119 (.load none (.t 118)),
 o 120 (.bin .neq (.t 117) (.t 119))]
def b47_13:List (List Nat):=[[],[0],[],[0,1,2],[0,1,2,3],[0,1,2,3,4],[],[6],[0,1,2,3,4,5,6,7]]
def r47_14:List AOper:=[o 2 (.mv (.c (.bool false)))]
def r47_15:List AOper:=[o 7 (.mv (i64 0))]
def r47_16:List AOper:=[o 121 (.mv (.t 7)),
 o 122 (.faddr 4 (.t 4)),
 o 123 (.load none (.t 122)),
 o 124 (.bin .lss (.t 121) (.t 123))]
def r47_18:List AOper:=[o 127 (.faddr 5 (.t 4)),
 o 128 (.load none (.t 127)),
 o 129 (.mv (.t 6)),
 o 130 (.iaddr 1 (.t 128) (.t 129)),
 o 131 (.load none (.t 130)),
 o 132 (.mv (.t 7)),
 o 133 (.iaddr 1 (.t 131) (.t 132)),
 o 134 (.load none (.t 133)),
 o 8 (.mv (.t 134))]
def r47_19:List AOper:=[o 135 (.mv (.t 8)),
 o 136 (.bin .lss (.t 135) (i64 (-1))),
 o 137 (.mv (.t 136)),
 oF 138 137 (.mv (.t 8)),
 oF 139 137 (.faddr 5 (.t 4)),
 oF 140 137 (.load none (.t 139)),
 oF 141 137 (.len false (.t 140)),
 oF 142 137 (.bin .geq (.t 138) (.t 141)),
 o 143 (.pick (.t 137) (.c (.bool true)) (.t 142))]
def r47_20:List AOper:=[o 2 (.mv (.c (.bool false)))]
def r47_21:List AOper:=[o 144 (.mv (.t 8)),
 o 145 (.bin .geq (.t 144) (i64 0))]
def r47_22:List AOper:=[o 146 (.mv (.t 5)),
 o 147 (.mv (.t 6)),
 o 148 (.mv (.t 8)),
 o 149 (.mnx true [.t 146,.t 147,.t 148]),
 o 5 (.mv (.t 149))]
def r47_17:List AOper:=[o 125 (.mv (.t 7)),
 o 126 (.bin .add (.t 125) (i64 1)),
 o 7 (.mv (.t 126))]
def l47_0:ACode:=.seq (.seq (.reg r47_16) (.cond (.t 124) (.skip) (.exit 4))) (.seq (.block 5 (.seq (.reg r47_18) (.seq (.seq (.reg r47_19) (.cond (.t 143) (.seq (.reg r47_20) (.ret)) (.skip))) (.seq (.reg r47_21) (.cond (.t 145) (.reg r47_22) (.skip)))))) (.reg r47_17))
def r47_12:List AOper:=[o 110 (.mv (.t 6)),
 o 111 (.bin .add (.t 110) (i64 1)),
 o 6 (.mv (.t 111))]
def l47_1:ACode:=.seq (.seq (.reg r47_11) (.cond (.t 109) (.skip) (.exit 2))) (.seq (.block 3 (.seq (.seq (.dreg r47_13 b47_13 []) (.cond (.t 120) (.seq (.reg r47_14) (.ret)) (.skip))) (.seq (.reg r47_15) (.block 4 (.loop l47_0))))) (.reg r47_12))
def r47_23:List AOper:=[o 150 (.faddr 5 (.t 4)),
 o 151 (.load none (.t 150)),
 o 152 (.len false (.t 151)),
 o 153 (.bin .gtr (.t 152) (i64 0)),
 o 154 (.mv (.t 153)),
 oT 155 154 (.mv (.t 5)),
 oT 156 154 (.faddr 5 (.t 4)),
 oT 157 154 (.load none (.t 156)),
 oT 158 154 (.len false (.t 157)),
 oT 159 154 (.bin .sub (.t 158) (i64 1)),
 oT 160 154 (.bin .neq (.t 155) (.t 159)),
 o 161 (.pick (.t 154) (.t 160) (.c (.bool false)))]
def r47_24:List AOper:=[o 2 (.mv (.c (.bool false)))]
def r47_5:List AOper:=[o 31 (.mv (.t 3)),
 o 32 (.bin .add (.t 31) (i64 1)),
 o 3 (.mv (.t 32))]
def l47_2:ACode:=.seq (.seq (.reg r47_4) (.cond (.t 30) (.skip) (.exit 0))) (.seq (.block 1 (.seq (.reg r47_6) (.seq (.seq (.reg r47_7) (.cond (.t 104) (.seq (.reg r47_8) (.ret)) (.skip))) (.seq (.reg r47_9) (.seq (.seq (.reg r47_10) (.block 2 (.loop l47_1))) (.seq (.reg r47_23) (.cond (.t 161) (.seq (.reg r47_24) (.ret)) (.skip)))))))) (.reg r47_5))
def r47_25:List AOper:=[o 9 (.mv (i64 0))]
def r47_26:List AOper:=[o 162 (.mv (.t 9)),
 o 163 (.faddr 1 (.t 1)),
 o 164 (.load none (.t 163)),
 o 165 (.len false (.t 164)),
 o 166 (.bin .lss (.t 162) (.t 165))]
def r47_28:List AOper:=[o 169 (.faddr 1 (.t 1)),
 o 170 (.load none (.t 169)),
 o 171 (.mv (.t 9)),
 o 172 (.iaddr 2 (.t 170) (.t 171)),
 o 173 (.faddr 0 (.t 172)),
 o 174 (.load none (.t 173)),
 o 175 (.bin .lss (.t 174) (i64 0)),
 o 176 (.mv (.t 175)),
 oF 177 176 (.faddr 1 (.t 1)),
 oF 178 176 (.load none (.t 177)),
 oF 179 176 (.mv (.t 9)),
 oF 180 176 (.iaddr 2 (.t 178) (.t 179)),
 oF 181 176 (.faddr 0 (.t 180)),
 oF 182 176 (.load none (.t 181)),
 oF 183 176 (.bin .gtr (.t 182) (i64 6)),
 o 184 (.pick (.t 176) (.c (.bool true)) (.t 183)),
 o 185 (.mv (.t 184)),
 oF 186 185 (.faddr 1 (.t 1)),
 oF 187 185 (.load none (.t 186)),
 oF 188 185 (.mv (.t 9)),
 oF 189 185 (.iaddr 2 (.t 187) (.t 188)),
 oF 190 185 (.faddr 1 (.t 189)),
 oF 191 185 (.load none (.t 190)),
 oF 192 185 (.load (some 2) (.t 1)),
 oF 193 185 (.mv (.t 9)),
 oF 194 185 (.call 66 [.t 191,.t 192,.t 193] .borrow),
 oF 195 185 (.un .not (.t 194)),
 o 196 (.pick (.t 185) (.c (.bool true)) (.t 195))]
def b47_28:List (List Nat):=[[],[0],[],[0,1,2],[0,1,2,3],[0,1,2,3,4],[0,1,2,3,4,5],[0,1,2,3,4,5,6],[0,1,2,3,4,5,6,7],[0,1,2,3,4,5,6,7,8],[0,1,2,3,4,5,6,7],[0,1,2,3,4,5,6,7,8,9,10],[0,1,2,3,4,5,6,7,8,9,10,11],[0,1,2,3,4,5,6,7,8,9,10,11,12],[0,1,2,3,4,5,6,7,8,9,10,11,12,13],[0,1,2,3,4,5,6,7,8,9,10,11,12,13,14],[0,1,2,3,4,5,6,7,8,9,10,11,12,13,14,15],[0,1,2,3,4,5,6,7,8,9,10,11,12,13,14,15,16],[0,1,2,3,4,5,6,7,8,9,10,11,12,13,14,15,16,17],[0,1,2,3,4,5,6,7,8,9,10,11,12,13,14,15,16],[0,1,2,3,4,5,6,7,8,9,10,11,12,13,14,15,16,17,18,19],[0,1,2,3,4,5,6,7,8,9,10,11,12,13,14,15,16,17,18,19,20],[0,1,2,3,4,5,6,7,8,9,10,11,12,13,14,15,16,17,18,19,20,21],[0,1,2,3,4,5,6,7,8,9,10,11,12,13,14,15,16],[0,1,2,3,4,5,6,7,8,9,10,11,12,13,14,15,16],[0,1,2,3,4,5,6,7,8,9,10,11,12,13,14,15,16,17,18,19,20,21,22,23,24],[0,1,2,3,4,5,6,7,8,9,10,11,12,13,14,15,16,17,18,19,20,21,22,23,24,25],[0,1,2,3,4,5,6,7,8,9,10,11,12,13,14,15,16,17,18,19,20,21,22,23,24,25,26]]
def r47_29:List AOper:=[o 2 (.mv (.c (.bool false)))]
def r47_27:List AOper:=[o 167 (.mv (.t 9)),
 o 168 (.bin .add (.t 167) (i64 1)),
 o 9 (.mv (.t 168))]
def l47_3:ACode:=.seq (.seq (.reg r47_26) (.cond (.t 166) (.skip) (.exit 6))) (.seq (.block 7 (.seq (.dreg r47_28 b47_28 []) (.cond (.t 196) (.seq (.reg r47_29) (.ret)) (.skip)))) (.reg r47_27))
def r47_30:List AOper:=[o 2 (.mv (.c (.bool true)))]
def c47:ACode:=.seq (.reg r47_0) (.seq (.seq (.reg r47_1) (.cond (.t 25) (.seq (.reg r47_2) (.ret)) (.skip))) (.seq (.seq (.reg r47_3) (.block 0 (.loop l47_2))) (.seq (.seq (.reg r47_25) (.block 6 (.loop l47_3))) (.seq (.reg r47_30) (.ret)))))
def a47:AFunc:=⟨1,197,[.tmp 2],c47⟩
def r48_0:List AOper:=[o 2 (.mv (i64 0))]
def r48_1:List AOper:=[o 3 (.mv (.t 0)),
 o 4 (.bin .lss (.t 3) (i64 1)),
 o 5 (.mv (.t 4)),
 oF 6 5 (.mv (.t 0)),
 oF 7 5 (.bin .gtr (.t 6) (i64 6)),
 o 8 (.pick (.t 5) (.c (.bool true)) (.t 7))]
def r48_2:List AOper:=[o 2 (.mv (i64 0))]
def r48_3:List AOper:=[o 9 (.islice 6 [zi,zi,zi,zi,zi,zi] [(0,1,(i64 2)),(1,1,(i64 1)),(2,1,(i64 6)),(3,1,(i64 5)),(4,1,(i64 4)),(5,1,(i64 3))]),
 o 10 (.mv (.t 0)),
 o 11 (.bin .sub (.t 10) (i64 1)),
 o 12 (.iaddr 1 (.t 9) (.t 11)),
 o 13 (.load none (.t 12)),
 o 2 (.mv (.t 13))]
def c48:ACode:=.seq (.reg r48_0) (.seq (.seq (.reg r48_1) (.cond (.t 8) (.seq (.reg r48_2) (.ret)) (.skip))) (.seq (.reg r48_3) (.ret)))
def a48:AFunc:=⟨1,14,[.tmp 2],c48⟩
def r50_0:List AOper:=[o 2 (.box (.t 0)),
 o 4 (.mv (.c (.nils)))]
def r50_1:List AOper:=[o 5 (.mv (.c (.nils)))]
def r50_2:List AOper:=[o 8 (.faddr 1 (.t 2)),
 o 9 (.load none (.t 8)),
 o 10 (.len false (.t 9)),
 o 11 (.mv (i64 0))]
def r50_3:List AOper:=[o 12 (.bin .lss (.t 11) (.t 10))]
def r50_4:List AOper:=[o 13 (.mv (.t 11)),
 o 14 (.iaddr 19 (.t 9) (.t 11)),
 o 15 (.load (some 19) (.t 14)),
 o 7 (.alloc [zi,zi,zi,zi,zi,zi,zi,zi,zi,.nils,zi,zi,zi,zi,.nils,zi,zi,zi,.nils]),
 o 6 (.mv (.t 13)),
 oN (.store 19 (.t 7) (.t 15))]
def r50_5:List AOper:=[o 16 (.faddr 0 (.t 7)),
 o 17 (.load none (.t 16)),
 o 18 (.mv (.t 1)),
 o 19 (.bin .eql (.t 17) (.t 18))]
def r50_6:List AOper:=[o 20 (.mv (.t 5)),
 o 21 (.mv (.t 6)),
 o 22 (.islice 1 [zi] [(0,1,(.t 21))]),
 o 23 (.app 1 8 (.t 20) (.t 22)),
 o 5 (.mv (.t 23))]
def r50_7:List AOper:=[o 24 (.bin .add (.t 11) (i64 1)),
 o 11 (.mv (.t 24))]
def l50_0:ACode:=.seq (.reg r50_3) (.seq (.cond (.t 12) (.skip) (.exit 0)) (.seq (.block 1 (.seq (.reg r50_4) (.seq (.reg r50_5) (.cond (.t 19) (.reg r50_6) (.skip))))) (.reg r50_7)))
def r50_8:List AOper:=[o 25 (.mv (.t 5)),
 o 4 (.mv (.t 25))]
def c50:ACode:=.seq (.reg r50_0) (.seq (.reg r50_1) (.seq (.seq (.reg r50_2) (.block 0 (.loop l50_0))) (.seq (.reg r50_8) (.ret))))
def a50:AFunc:=⟨2,26,[.tmp 4],c50⟩
def r53_0:List AOper:=[o 1 (.box (.t 0)),
 o 2 (.mv (.c (.bool false)))]
def r53_1:List AOper:=[o 6 (.load (some 3) (.t 1)),
 o 7 (.call 74 [.t 6] .borrow),
 o 3 (.alloc [.nils,.nils]),
 oN (.store 2 (.t 3) (.t 7))]
def r53_2:List AOper:=[o 8 (.faddr 1 (.t 1)),
 o 9 (.load none (.t 8)),
 o 10 (.len false (.t 9)),
 o 11 (.faddr 2 (.t 1)),
 o 12 (.load none (.t 11)),
 o 13 (.len false (.t 12)),
 o 14 (.bin .neq (.t 10) (.t 13)),
 o 15 (.mv (.t 14)),
 oF 16 15 (.load (some 2) (.t 3)),
 oF 17 15 (.call 60 [.t 16] .borrow),
 oF 18 15 (.un .not (.t 17)),
 o 19 (.pick (.t 15) (.c (.bool true)) (.t 18))]
def r53_3:List AOper:=[o 2 (.mv (.c (.bool false)))]
def r53_4:List AOper:=[o 20 (.faddr 1 (.t 1)),
 o 21 (.load none (.t 20)),
 o 22 (.len false (.t 21)),
 o 23 (.mv (i64 0))]
def r53_5:List AOper:=[o 24 (.bin .lss (.t 23) (.t 22))]
def r53_6:List AOper:=[o 25 (.mv (.t 23)),
 o 26 (.iaddr 3 (.t 21) (.t 23)),
 o 27 (.load (some 3) (.t 26)),
 o 5 (.alloc [zi,.nils,.nils]),
 o 4 (.mv (.t 25)),
 oN (.store 3 (.t 5) (.t 27))]
def r53_7:List AOper:=[o 28 (.load (some 2) (.t 3)),
 o 29 (.mv (.t 4)),
 o 30 (.load (some 3) (.t 5)),
 o 31 (.call 75 [.t 28,.t 29,.t 30] .borrow),
 o 32 (.un .not (.t 31))]
def r53_8:List AOper:=[o 2 (.mv (.c (.bool false)))]
def r53_9:List AOper:=[o 33 (.bin .add (.t 23) (i64 1)),
 o 23 (.mv (.t 33))]
def l53_0:ACode:=.seq (.reg r53_5) (.seq (.cond (.t 24) (.skip) (.exit 0)) (.seq (.block 1 (.seq (.reg r53_6) (.seq (.reg r53_7) (.cond (.t 32) (.seq (.reg r53_8) (.ret)) (.skip))))) (.reg r53_9)))
def r53_10:List AOper:=[o 2 (.mv (.c (.bool true)))]
def c53:ACode:=.seq (.reg r53_0) (.seq (.reg r53_1) (.seq (.seq (.reg r53_2) (.cond (.t 19) (.seq (.reg r53_3) (.ret)) (.skip))) (.seq (.seq (.reg r53_4) (.block 0 (.loop l53_0))) (.seq (.reg r53_10) (.ret)))))
def a53:AFunc:=⟨1,34,[.tmp 2],c53⟩
def r56_0:List AOper:=[o 2 (.mv (.c (.nils)))]
def r56_1:List AOper:=[o 3 (.mv (.t 0)),
 o 4 (.eq .slice false (.t 3) (.c (.nils)))]
def r56_2:List AOper:=[o 2 (.mv (.c (.nils)))]
def r56_3:List AOper:=[o 5 (.islice 0 [] []),
 o 6 (.mv (.t 0)),
 o 7 (.app 1 8 (.t 5) (.t 6)),
 o 2 (.mv (.t 7))]
def c56:ACode:=.seq (.reg r56_0) (.seq (.seq (.reg r56_1) (.cond (.t 4) (.seq (.reg r56_2) (.ret)) (.skip))) (.seq (.reg r56_3) (.ret)))
def a56:AFunc:=⟨1,8,[.tmp 2],c56⟩
def r60_0:List AOper:=[o 1 (.box (.t 0)),
 o 2 (.mv (.c (.bool false)))]
def r60_1:List AOper:=[o 7 (.faddr 0 (.t 1)),
 o 8 (.load none (.t 7)),
 o 9 (.len false (.t 8)),
 o 10 (.bin .gtr (.t 9) (i64 4)),
 o 11 (.mv (.t 10)),
 oF 12 11 (.faddr 1 (.t 1)),
 oF 13 11 (.load none (.t 12)),
 oF 14 11 (.len false (.t 13)),
 oF 15 11 (.call 81 [.t 14,(i64 1),(i64 4)] .borrow),
 oF 16 11 (.un .not (.t 15)),
 o 17 (.pick (.t 11) (.c (.bool true)) (.t 16))]
def r60_2:List AOper:=[o 2 (.mv (.c (.bool false)))]
def r60_3:List AOper:=[o 18 (.faddr 0 (.t 1)),
 o 19 (.load none (.t 18)),
 o 20 (.len false (.t 19)),
 o 21 (.mv (i64 0))]
def r60_4:List AOper:=[o 22 (.bin .lss (.t 21) (.t 20))]
def r60_5:List AOper:=[o 23 (.iaddr 6 (.t 19) (.t 21)),
 o 24 (.load (some 6) (.t 23)),
 o 4 (.alloc [zi,zi,zi,zi,zi,.nils]),
 oN (.store 6 (.t 4) (.t 24))]
def r60_6:List AOper:=[o 25 (.load (some 6) (.t 4)),
 o 26 (.faddr 1 (.t 1)),
 o 27 (.load none (.t 26)),
 o 28 (.len false (.t 27)),
 o 29 (.call 82 [.t 25,.t 28] .borrow),
 o 30 (.un .not (.t 29))]
def r60_7:List AOper:=[o 2 (.mv (.c (.bool false)))]
def r60_8:List AOper:=[o 31 (.bin .add (.t 21) (i64 1)),
 o 21 (.mv (.t 31))]
def l60_0:ACode:=.seq (.reg r60_4) (.seq (.cond (.t 22) (.skip) (.exit 0)) (.seq (.block 1 (.seq (.reg r60_5) (.seq (.reg r60_6) (.cond (.t 30) (.seq (.reg r60_7) (.ret)) (.skip))))) (.reg r60_8)))
def r60_9:List AOper:=[o 32 (.faddr 1 (.t 1)),
 o 33 (.load none (.t 32)),
 o 34 (.len false (.t 33)),
 o 35 (.mv (i64 0))]
def r60_10:List AOper:=[o 36 (.bin .lss (.t 35) (.t 34))]
def r60_11:List AOper:=[o 37 (.mv (.t 35)),
 o 38 (.iaddr 2 (.t 33) (.t 35)),
 o 39 (.load (some 2) (.t 38)),
 o 6 (.alloc [zi,.nils]),
 o 5 (.mv (.t 37)),
 oN (.store 2 (.t 6) (.t 39))]
def r60_12:List AOper:=[o 40 (.faddr 0 (.t 6)),
 o 41 (.load none (.t 40)),
 o 42 (.call 81 [.t 41,(i64 0),(i64 6)] .borrow),
 o 43 (.un .not (.t 42)),
 o 44 (.mv (.t 43)),
 oF 45 44 (.load (some 2) (.t 1)),
 oF 46 44 (.mv (.t 5)),
 oF 47 44 (.faddr 0 (.t 6)),
 oF 48 44 (.load none (.t 47)),
 oF 49 44 (.build [.nils,.nils,zi,zi] [(0,2,(.t 45)),(2,1,(.t 46)),(3,1,(.t 48))]),
 oF 50 44 (.faddr 1 (.t 6)),
 oF 51 44 (.load none (.t 50)),
 oF 52 44 (.call 83 [.t 49,.t 51] .borrow),
 oF 53 44 (.un .not (.t 52)),
 o 54 (.pick (.t 44) (.c (.bool true)) (.t 53))]
def r60_13:List AOper:=[o 2 (.mv (.c (.bool false)))]
def r60_14:List AOper:=[o 55 (.bin .add (.t 35) (i64 1)),
 o 35 (.mv (.t 55))]
def l60_1:ACode:=.seq (.reg r60_10) (.seq (.cond (.t 36) (.skip) (.exit 2)) (.seq (.block 3 (.seq (.reg r60_11) (.seq (.reg r60_12) (.cond (.t 54) (.seq (.reg r60_13) (.ret)) (.skip))))) (.reg r60_14)))
def r60_15:List AOper:=[o 2 (.mv (.c (.bool true)))]
def c60:ACode:=.seq (.reg r60_0) (.seq (.seq (.reg r60_1) (.cond (.t 17) (.seq (.reg r60_2) (.ret)) (.skip))) (.seq (.seq (.reg r60_3) (.block 0 (.loop l60_0))) (.seq (.seq (.reg r60_9) (.block 2 (.loop l60_1))) (.seq (.reg r60_15) (.ret)))))
def a60:AFunc:=⟨1,56,[.tmp 2],c60⟩
def r61_0:List AOper:=[o 2 (.mv (.c (.nils)))]
def r61_1:List AOper:=[o 3 (.mv (.c (.nils)))]
def r61_2:List AOper:=[o 9 (.mv (.t 0)),
 o 10 (.len false (.t 9)),
 o 11 (.mv (i64 0))]
def r61_3:List AOper:=[o 12 (.bin .lss (.t 11) (.t 10))]
def r61_4:List AOper:=[o 13 (.iaddr 6 (.t 9) (.t 11)),
 o 14 (.load (some 6) (.t 13)),
 o 5 (.alloc [zi,zi,zi,zi,zi,.nils]),
 oN (.store 6 (.t 5) (.t 14))]
def r61_5:List AOper:=[o 15 (.faddr 5 (.t 5)),
 o 16 (.load none (.t 15)),
 o 6 (.mv (.t 16))]
def r61_6:List AOper:=[o 17 (.faddr 5 (.t 5)),
 oN (.store 1 (.t 17) (.c (.nils)))]
def r61_7:List AOper:=[o 18 (.mv (.t 6)),
 o 19 (.len false (.t 18)),
 o 20 (.mv (i64 0))]
def r61_8:List AOper:=[o 21 (.bin .lss (.t 20) (.t 19))]
def r61_9:List AOper:=[o 22 (.iaddr 1 (.t 18) (.t 20)),
 o 23 (.load none (.t 22)),
 o 8 (.mv (.t 23))]
def r61_10:List AOper:=[o 24 (.faddr 5 (.t 5)),
 o 25 (.load none (.t 24)),
 o 26 (.mv (.t 8)),
 o 27 (.call 56 [.t 26] .borrow),
 ⟨some 28,.islice 1 [.nils] [(0,1,(.t 27))],none,true⟩,
 o 29 (.app 1 24 (.t 25) (.t 28)),
 o 30 (.faddr 5 (.t 5)),
 oN (.store 1 (.t 30) (.t 29))]
def b61_10:List (List Nat):=[[],[0],[],[2],[2,3],[0,1,2,3,4],[0,1,2,3,4,5],[0,1,2,3,4,5,6]]
def r61_11:List AOper:=[o 31 (.bin .add (.t 20) (i64 1)),
 o 20 (.mv (.t 31))]
def l61_0:ACode:=.seq (.reg r61_8) (.seq (.cond (.t 21) (.skip) (.exit 2)) (.seq (.block 3 (.seq (.reg r61_9) (.dreg r61_10 b61_10 [(1,4)]))) (.reg r61_11)))
def r61_12:List AOper:=[o 32 (.mv (.t 3)),
 o 33 (.load (some 6) (.t 5)),
 ⟨some 34,.islice 1 [zi,zi,zi,zi,zi,.nils] [(0,6,(.t 33))],none,true⟩,
 o 35 (.app 6 64 (.t 32) (.t 34)),
 o 3 (.mv (.t 35))]
def r61_13:List AOper:=[o 36 (.bin .add (.t 11) (i64 1)),
 o 11 (.mv (.t 36))]
def l61_1:ACode:=.seq (.reg r61_3) (.seq (.cond (.t 12) (.skip) (.exit 0)) (.seq (.block 1 (.seq (.reg r61_4) (.seq (.reg r61_5) (.seq (.reg r61_6) (.seq (.seq (.reg r61_7) (.block 2 (.loop l61_0))) (.reg r61_12)))))) (.reg r61_13)))
def r61_14:List AOper:=[o 37 (.mv (.t 3)),
 o 2 (.mv (.t 37))]
def c61:ACode:=.seq (.reg r61_0) (.seq (.reg r61_1) (.seq (.seq (.reg r61_2) (.block 0 (.loop l61_1))) (.seq (.reg r61_14) (.ret))))
def a61:AFunc:=⟨1,38,[.tmp 2],c61⟩
def r62_0:List AOper:=[o 11 (.mv (.t 1)),
 o 12 (.len false (.t 11)),
 o 13 (.bin .eql (.t 12) (i64 0))]
def r62_1:List AOper:=[o 14 (.mv (.t 0)),
 o 15 (.mv (.t 2)),
 o 16 (.mv (.t 3)),
 o 17 (.build [zi,zi,zi,zi,zi,zi,zi,zi,zi,.nils,zi,zi,zi,zi,.nils,zi,zi,zi,.nils] [(0,1,(.t 15)),(1,1,(.t 16))]),
 o 18 (.call 84 [.t 14,.t 17] .share)]
def r62_2:List AOper:=[o 19 (.mv (.t 1)),
 o 20 (.mv (.t 1)),
 o 21 (.len false (.t 20)),
 o 22 (.bin .sub (.t 21) (i64 1)),
 o 23 (.slsl 20 (.t 19) none (some (.t 22)) none),
 o 24 (.len false (.t 23)),
 o 25 (.mv (i64 0))]
def r62_3:List AOper:=[o 26 (.bin .lss (.t 25) (.t 24))]
def r62_4:List AOper:=[o 27 (.iaddr 20 (.t 23) (.t 25)),
 o 28 (.load (some 20) (.t 27)),
 o 9 (.alloc [zi,zi,zi,zi,zi,zi,zi,.nils,zi,zi,zi,zi,.nils,zi,zi,zi,.nils,.nils,.nils,.nils]),
 oN (.store 20 (.t 9) (.t 28))]
def r62_5:List AOper:=[o 29 (.mv (.t 0)),
 o 30 (.call 85 [.t 29] .share),
 o 10 (.mv (.t 30))]
def r62_6:List AOper:=[o 31 (.mv (.t 0)),
 o 32 (.load (some 20) (.t 9)),
 o 33 (.mv (.t 2)),
 o 34 (.mv (.t 10)),
 o 35 (.call 86 [.t 31,.t 32,.t 33,.t 34] .share)]
def r62_7:List AOper:=[o 36 (.mv (.t 10)),
 o 2 (.mv (.t 36))]
def r62_8:List AOper:=[o 37 (.bin .add (.t 25) (i64 1)),
 o 25 (.mv (.t 37))]
def l62_0:ACode:=.seq (.reg r62_3) (.seq (.cond (.t 26) (.skip) (.exit 0)) (.seq (.block 1 (.seq (.reg r62_4) (.seq (.reg r62_5) (.seq (.reg r62_6) (.reg r62_7))))) (.reg r62_8)))
def r62_9:List AOper:=[o 38 (.mv (.t 0)),
 o 39 (.mv (.t 1)),
 o 40 (.mv (.t 1)),
 o 41 (.len false (.t 40)),
 o 42 (.bin .sub (.t 41) (i64 1)),
 o 43 (.iaddr 20 (.t 39) (.t 42)),
 o 44 (.load (some 20) (.t 43)),
 o 45 (.mv (.t 2)),
 o 46 (.mv (.t 3)),
 o 47 (.call 86 [.t 38,.t 44,.t 45,.t 46] .share)]
def c62:ACode:=.seq (.seq (.reg r62_0) (.cond (.t 13) (.seq (.reg r62_1) (.ret)) (.skip))) (.seq (.seq (.reg r62_2) (.block 0 (.loop l62_0))) (.reg r62_9))
def a62:AFunc:=⟨4,48,[],c62⟩
def r63_0:List AOper:=[o 3 (.mv (.t 0)),
 o 4 (.len false (.t 3)),
 o 2 (.mv (.t 4))]
def r63_1:List AOper:=[o 5 (.mv (.t 0)),
 o 6 (.mv (.t 2)),
 o 7 (.mv (.t 2)),
 o 8 (.conv .u64 (.t 7)),
 o 9 (.call 88 [.t 8] .borrow),
 o 10 (.call 87 [.t 5,(i64 0),.t 6,.t 9] .share)]
def c63:ACode:=.seq (.reg r63_0) (.reg r63_1)
def a63:AFunc:=⟨1,11,[],c63⟩
def r64_0:List AOper:=[o 2 (.mv (.c (.nils)))]
def r64_1:List AOper:=[o 3 (.mv (.c (.nils)))]
def r64_2:List AOper:=[o 4 (.mv (i64 0))]
def r64_3:List AOper:=[o 8 (.mv (.t 4)),
 o 9 (.mv (.t 0)),
 o 10 (.len false (.t 9)),
 o 11 (.bin .lss (.t 8) (.t 10))]
def r64_5:List AOper:=[o 14 (.mv (.t 0)),
 o 15 (.mv (.t 4)),
 o 16 (.iaddr 20 (.t 14) (.t 15)),
 o 17 (.load (some 20) (.t 16)),
 o 5 (.alloc [zi,zi,zi,zi,zi,zi,zi,.nils,zi,zi,zi,zi,.nils,zi,zi,zi,.nils,.nils,.nils,.nils]),
 oN (.store 20 (.t 5) (.t 17))]
def r64_6:List AOper:=[o 18 (.faddr 0 (.t 5)),
 o 19 (.load none (.t 18)),
 o 20 (.faddr 1 (.t 5)),
 o 21 (.load none (.t 20)),
 o 22 (.faddr 2 (.t 5)),
 o 23 (.load none (.t 22)),
 o 24 (.faddr 3 (.t 5)),
 o 25 (.load none (.t 24)),
 o 26 (.faddr 4 (.t 5)),
 o 27 (.load (some 4) (.t 26)),
 o 28 (.call 36 [.t 27] .borrow),
 o 29 (.faddr 8 (.t 5)),
 o 30 (.faddr 0 (.t 29)),
 o 31 (.load none (.t 30)),
 o 32 (.faddr 8 (.t 5)),
 o 33 (.faddr 1 (.t 32)),
 o 34 (.load (some 4) (.t 33)),
 o 35 (.call 36 [.t 34] .borrow),
 o 36 (.faddr 8 (.t 5)),
 o 37 (.faddr 5 (.t 36)),
 o 38 (.load (some 4) (.t 37)),
 o 39 (.call 36 [.t 38] .borrow),
 o 40 (.build [zi,zi,zi,zi,.nils,zi,zi,zi,.nils] [(0,1,(.t 31)),(1,4,(.t 35)),(5,4,(.t 39))]),
 o 41 (.faddr 17 (.t 5)),
 o 42 (.load none (.t 41)),
 o 43 (.call 64 [.t 42] .borrow),
 o 44 (.faddr 18 (.t 5)),
 o 45 (.load none (.t 44)),
 o 46 (.call 64 [.t 45] .borrow),
 o 47 (.build [zi,zi,zi,zi,zi,zi,zi,.nils,zi,zi,zi,zi,.nils,zi,zi,zi,.nils,.nils,.nils,.nils] [(0,1,(.t 19)),(1,1,(.t 21)),(2,1,(.t 23)),(3,1,(.t 25)),(4,4,(.t 28)),(8,9,(.t 40)),(17,1,(.t 43)),(18,1,(.t 46))]),
 o 6 (.alloc [zi,zi,zi,zi,zi,zi,zi,.nils,zi,zi,zi,zi,.nils,zi,zi,zi,.nils,.nils,.nils,.nils]),
 oN (.store 20 (.t 6) (.t 47))]
def b64_6:List (List Nat):=[[],[0],[],[2],[],[4],[],[6],[],[8],[8,9],[],[11],[11,12],[],[14],[14,15],[8,9,10,14,15,16],[],[18],[18,19],[8,9,10,14,15,16,17,18,19,20],[8,9,10,11,12,13,14,15,16,17,18,19,20,21],[],[23],[8,9,10,14,15,16,17,18,19,20,21,23,24],[],[26],[8,9,10,14,15,16,17,18,19,20,21,23,24,25,26,27],[0,1,2,3,4,5,6,7,8,9,10,11,12,13,14,15,16,17,18,19,20,21,22,23,24,25,26,27,28],[],[0,1,2,3,4,5,6,7,8,9,10,11,12,13,14,15,16,17,18,19,20,21,22,23,24,25,26,27,28,29,30]]
def r64_7:List AOper:=[o 7 (.mv (i64 0))]
def r64_8:List AOper:=[o 48 (.mv (.t 7)),
 o 49 (.faddr 19 (.t 5)),
 o 50 (.load none (.t 49)),
 o 51 (.len false (.t 50)),
 o 52 (.bin .lss (.t 48) (.t 51))]
def r64_10:List AOper:=[o 55 (.faddr 19 (.t 6)),
 o 56 (.load none (.t 55)),
 o 57 (.faddr 19 (.t 5)),
 o 58 (.load none (.t 57)),
 o 59 (.mv (.t 7)),
 o 60 (.iaddr 3 (.t 58) (.t 59)),
 o 61 (.faddr 0 (.t 60)),
 o 62 (.load none (.t 61)),
 o 63 (.faddr 19 (.t 5)),
 o 64 (.load none (.t 63)),
 o 65 (.mv (.t 7)),
 o 66 (.iaddr 3 (.t 64) (.t 65)),
 o 67 (.faddr 1 (.t 66)),
 o 68 (.load none (.t 67)),
 o 69 (.faddr 19 (.t 5)),
 o 70 (.load none (.t 69)),
 o 71 (.mv (.t 7)),
 o 72 (.iaddr 3 (.t 70) (.t 71)),
 o 73 (.faddr 2 (.t 72)),
 o 74 (.load none (.t 73)),
 o 75 (.call 64 [.t 74] .borrow),
 o 76 (.build [zi,zi,.nils] [(0,1,(.t 62)),(1,1,(.t 68)),(2,1,(.t 75))]),
 ⟨some 77,.islice 1 [zi,zi,.nils] [(0,3,(.t 76))],none,true⟩,
 o 78 (.app 3 40 (.t 56) (.t 77)),
 o 79 (.faddr 19 (.t 6)),
 oN (.store 1 (.t 79) (.t 78))]
def b64_10:List (List Nat):=[[],[0],[],[2],[],[2,3,4],[2,3,4,5],[2,3,4,5,6],[],[8],[],[8,9,10],[8,9,10,11],[8,9,10,11,12],[],[14],[],[14,15,16],[14,15,16,17],[14,15,16,17,18],[14,15,16,17,18,19],[2,3,4,5,6,7,8,9,10,11,12,13,14,15,16,17,18,19,20],[2,3,4,5,6,7,8,9,10,11,12,13,14,15,16,17,18,19,20,21],[0,1,2,3,4,5,6,7,8,9,10,11,12,13,14,15,16,17,18,19,20,21,22],[0,1,2,3,4,5,6,7,8,9,10,11,12,13,14,15,16,17,18,19,20,21,22,23],[0,1,2,3,4,5,6,7,8,9,10,11,12,13,14,15,16,17,18,19,20,21,22,23,24]]
def r64_9:List AOper:=[o 53 (.mv (.t 7)),
 o 54 (.bin .add (.t 53) (i64 1)),
 o 7 (.mv (.t 54))]
def l64_0:ACode:=.seq (.seq (.reg r64_8) (.cond (.t 52) (.skip) (.exit 2))) (.seq (.block 3 (.dreg r64_10 b64_10 [(1,22)])) (.reg r64_9))
def r64_11:List AOper:=[o 80 (.mv (.t 3)),
 o 81 (.load (some 20) (.t 6)),
 ⟨some 82,.islice 1 [zi,zi,zi,zi,zi,zi,zi,.nils,zi,zi,zi,zi,.nils,zi,zi,zi,.nils,.nils,.nils,.nils] [(0,20,(.t 81))],none,true⟩,
 o 83 (.app 20 256 (.t 80) (.t 82)),
 o 3 (.mv (.t 83))]
def r64_4:List AOper:=[o 12 (.mv (.t 4)),
 o 13 (.bin .add (.t 12) (i64 1)),
 o 4 (.mv (.t 13))]
def l64_1:ACode:=.seq (.seq (.reg r64_3) (.cond (.t 11) (.skip) (.exit 0))) (.seq (.block 1 (.seq (.reg r64_5) (.seq (.dreg r64_6 b64_6 []) (.seq (.seq (.reg r64_7) (.block 2 (.loop l64_0))) (.reg r64_11))))) (.reg r64_4))
def r64_12:List AOper:=[o 84 (.mv (.t 3)),
 o 2 (.mv (.t 84))]
def c64:ACode:=.seq (.reg r64_0) (.seq (.reg r64_1) (.seq (.seq (.reg r64_2) (.block 0 (.loop l64_1))) (.seq (.reg r64_12) (.ret))))
def a64:AFunc:=⟨1,85,[.tmp 2],c64⟩
def r65_0:List AOper:=[o 10 (.mv (.t 1)),
 o 11 (.len false (.t 10)),
 o 12 (.bin .eql (.t 11) (i64 0))]
def r65_1:List AOper:=[o 13 (.mv (.t 0)),
 o 14 (.mv (.t 0)),
 o 15 (.nilck (.t 14)),
 o 16 (.faddr 1 (.t 15)),
 o 17 (.load none (.t 16)),
 o 18 (.mv (.t 2)),
 o 19 (.mv (.t 3)),
 o 20 (.build [zi,zi,zi,zi,zi,zi,zi,zi,zi,.nils,zi,zi,zi,zi,.nils,zi,zi,zi,.nils] [(0,1,(.t 18)),(1,1,(.t 19))]),
 ⟨some 21,.islice 1 [zi,zi,zi,zi,zi,zi,zi,zi,zi,.nils,zi,zi,zi,zi,.nils,zi,zi,zi,.nils] [(0,19,(.t 20))],none,true⟩,
 o 22 (.app 19 200 (.t 17) (.t 21)),
 o 23 (.nilck (.t 13)),
 o 24 (.faddr 1 (.t 23)),
 oN (.store 1 (.t 24) (.t 22))]
def r65_2:List AOper:=[o 8 (.mv (i64 0))]
def r65_3:List AOper:=[o 25 (.mv (.t 8)),
 o 26 (.mv (.t 1)),
 o 27 (.len false (.t 26)),
 o 28 (.bin .lss (.t 25) (.t 27))]
def r65_5:List AOper:=[o 31 (.mv (.t 3)),
 o 9 (.mv (.t 31))]
def r65_6:List AOper:=[o 32 (.mv (.t 8)),
 o 33 (.mv (.t 1)),
 o 34 (.len false (.t 33)),
 o 35 (.bin .sub (.t 34) (i64 1)),
 o 36 (.bin .lss (.t 32) (.t 35))]
def r65_7:List AOper:=[o 37 (.mv (.t 0)),
 o 38 (.call 89 [.t 37] .share),
 o 9 (.mv (.t 38))]
def r65_8:List AOper:=[o 39 (.mv (.t 0)),
 o 40 (.mv (.t 1)),
 o 41 (.mv (.t 8)),
 o 42 (.iaddr 20 (.t 40) (.t 41)),
 o 43 (.load (some 20) (.t 42)),
 o 44 (.mv (.t 2)),
 o 45 (.mv (.t 9)),
 o 46 (.call 90 [.t 39,.t 43,.t 44,.t 45] .share)]
def r65_9:List AOper:=[o 47 (.mv (.t 9)),
 o 2 (.mv (.t 47))]
def r65_4:List AOper:=[o 29 (.mv (.t 8)),
 o 30 (.bin .add (.t 29) (i64 1)),
 o 8 (.mv (.t 30))]
def l65_0:ACode:=.seq (.seq (.reg r65_3) (.cond (.t 28) (.skip) (.exit 0))) (.seq (.block 1 (.seq (.reg r65_5) (.seq (.seq (.reg r65_6) (.cond (.t 36) (.reg r65_7) (.skip))) (.seq (.reg r65_8) (.reg r65_9))))) (.reg r65_4))
def c65:ACode:=.seq (.seq (.reg r65_0) (.cond (.t 12) (.reg r65_1) (.skip))) (.seq (.reg r65_2) (.block 0 (.loop l65_0)))
def a65:AFunc:=⟨4,48,[],c65⟩
def r66_0:List AOper:=[o 4 (.box (.t 1)),
 o 6 (.mv (.c (.bool false)))]
def r66_1:List AOper:=[o 7 (.mv (i64 0))]
def r66_2:List AOper:=[o 8 (.mv (.t 7)),
 o 9 (.mv (.t 0)),
 o 10 (.len false (.t 9)),
 o 11 (.bin .lss (.t 8) (.t 10))]
def r66_4:List AOper:=[o 14 (.mv (.t 0)),
 o 15 (.mv (.t 7)),
 o 16 (.iaddr 20 (.t 14) (.t 15)),
 o 17 (.load (some 20) (.t 16)),
 o 18 (.load (some 2) (.t 4)),
 o 19 (.mv (.t 2)),
 o 20 (.call 91 [.t 17,.t 18,.t 19] .borrow),
 o 21 (.un .not (.t 20))]
def b66_4:List (List Nat):=[[],[],[0,1],[0,1,2],[],[],[0,1,2,3,4,5],[0,1,2,3,4,5,6]]
def r66_5:List AOper:=[o 6 (.mv (.c (.bool false)))]
def r66_3:List AOper:=[o 12 (.mv (.t 7)),
 o 13 (.bin .add (.t 12) (i64 1)),
 o 7 (.mv (.t 13))]
def l66_0:ACode:=.seq (.seq (.reg r66_2) (.cond (.t 11) (.skip) (.exit 0))) (.seq (.block 1 (.seq (.dreg r66_4 b66_4 []) (.cond (.t 21) (.seq (.reg r66_5) (.ret)) (.skip)))) (.reg r66_3))
def r66_6:List AOper:=[o 6 (.mv (.c (.bool true)))]
def c66:ACode:=.seq (.reg r66_0) (.seq (.seq (.reg r66_1) (.block 0 (.loop l66_0))) (.seq (.reg r66_6) (.ret)))
def a66:AFunc:=⟨3,22,[.tmp 6],c66⟩
def r74_0:List AOper:=[o 1 (.box (.t 0)),
 o 2 (.alloc [.nils,.nils])]
def r74_1:List AOper:=[o 6 (.faddr 0 (.t 1)),
 o 7 (.load none (.t 6)),
 o 8 (.build [.nils,.nils] [(0,1,(.t 7))]),
 o 3 (.alloc [.nils,.nils]),
 oN (.store 2 (.t 3) (.t 8))]
def r74_2:List AOper:=[o 9 (.faddr 2 (.t 1)),
 o 10 (.load none (.t 9)),
 o 11 (.len false (.t 10)),
 o 12 (.mv (i64 0))]
def r74_3:List AOper:=[o 13 (.bin .lss (.t 12) (.t 11))]
def r74_4:List AOper:=[o 14 (.iaddr 1 (.t 10) (.t 12)),
 o 15 (.load none (.t 14)),
 o 5 (.mv (.t 15))]
def r74_5:List AOper:=[o 16 (.faddr 1 (.t 3)),
 o 17 (.load none (.t 16)),
 o 18 (.mv (.t 5)),
 o 19 (.build [zi,.nils] [(0,1,(.t 18))]),
 ⟨some 20,.islice 1 [zi,.nils] [(0,2,(.t 19))],none,true⟩,
 o 21 (.app 2 32 (.t 17) (.t 20)),
 o 22 (.faddr 1 (.t 3)),
 oN (.store 1 (.t 22) (.t 21))]
def r74_6:List AOper:=[o 23 (.bin .add (.t 12) (i64 1)),
 o 12 (.mv (.t 23))]
def l74_0:ACode:=.seq (.reg r74_3) (.seq (.cond (.t 13) (.skip) (.exit 0)) (.seq (.block 1 (.seq (.reg r74_4) (.reg r74_5))) (.reg r74_6)))
def r74_7:List AOper:=[o 24 (.load (some 2) (.t 3)),
 oN (.store 2 (.t 2) (.t 24))]
def c74:ACode:=.seq (.reg r74_0) (.seq (.reg r74_1) (.seq (.seq (.reg r74_2) (.block 0 (.loop l74_0))) (.seq (.reg r74_7) (.ret))))
def a74:AFunc:=⟨1,25,[.cell 2 (some 2)],c74⟩
def r75_0:List AOper:=[o 3 (.box (.t 0)),
 o 5 (.box (.t 2)),
 o 6 (.mv (.c (.bool false)))]
def r75_1:List AOper:=[o 10 (.faddr 0 (.t 5)),
 o 11 (.load none (.t 10)),
 o 12 (.bin .lss (.t 11) (i64 2)),
 o 13 (.mv (.t 12)),
 oF 14 13 (.faddr 0 (.t 5)),
 oF 15 13 (.load none (.t 14)),
 oF 16 13 (.bin .gtr (.t 15) (i64 802)),
 o 17 (.pick (.t 13) (.c (.bool true)) (.t 16)),
 o 18 (.mv (.t 17)),
 oF 19 18 (.faddr 1 (.t 5)),
 oF 20 18 (.load none (.t 19)),
 oF 21 18 (.len false (.t 20)),
 oF 22 18 (.bin .gtr (.t 21) (i64 400)),
 o 23 (.pick (.t 18) (.c (.bool true)) (.t 22)),
 o 24 (.mv (.t 23)),
 oF 25 24 (.load (some 3) (.t 5)),
 oF 26 24 (.call 99 [.t 25] .borrow),
 oF 27 24 (.un .not (.t 26)),
 o 28 (.pick (.t 24) (.c (.bool true)) (.t 27))]
def r75_2:List AOper:=[o 6 (.mv (.c (.bool false)))]
def r75_3:List AOper:=[o 29 (.faddr 1 (.t 5)),
 o 30 (.load none (.t 29)),
 o 31 (.len false (.t 30)),
 o 32 (.mv (i64 0))]
def r75_4:List AOper:=[o 33 (.bin .lss (.t 32) (.t 31))]
def r75_5:List AOper:=[o 34 (.iaddr 19 (.t 30) (.t 32)),
 o 35 (.load (some 19) (.t 34)),
 o 8 (.alloc [zi,zi,zi,zi,zi,zi,zi,zi,zi,.nils,zi,zi,zi,zi,.nils,zi,zi,zi,.nils]),
 oN (.store 19 (.t 8) (.t 35))]
def r75_6:List AOper:=[o 36 (.load (some 2) (.t 3)),
 o 37 (.mv (.t 1)),
 o 38 (.load (some 3) (.t 5)),
 o 39 (.load (some 19) (.t 8)),
 o 40 (.call 100 [.t 36,.t 37,.t 38,.t 39] .borrow),
 o 41 (.un .not (.t 40))]
def r75_7:List AOper:=[o 6 (.mv (.c (.bool false)))]
def r75_8:List AOper:=[o 42 (.bin .add (.t 32) (i64 1)),
 o 32 (.mv (.t 42))]
def l75_0:ACode:=.seq (.reg r75_4) (.seq (.cond (.t 33) (.skip) (.exit 0)) (.seq (.block 1 (.seq (.reg r75_5) (.seq (.reg r75_6) (.cond (.t 41) (.seq (.reg r75_7) (.ret)) (.skip))))) (.reg r75_8)))
def r75_9:List AOper:=[o 43 (.faddr 0 (.t 5)),
 o 44 (.load none (.t 43)),
 o 45 (.mv (i64 0))]
def r75_10:List AOper:=[o 46 (.bin .lss (.t 45) (.t 44))]
def r75_11:List AOper:=[o 47 (.mv (.t 45)),
 o 9 (.mv (.t 47))]
def r75_12:List AOper:=[o 48 (.load (some 3) (.t 5)),
 o 49 (.mv (.t 9)),
 o 50 (.call 101 [.t 48,.t 49] .borrow),
 o 51 (.un .not (.t 50))]
def r75_13:List AOper:=[o 6 (.mv (.c (.bool false)))]
def r75_14:List AOper:=[o 52 (.bin .add (.t 45) (i64 1)),
 o 45 (.mv (.t 52))]
def l75_1:ACode:=.seq (.reg r75_10) (.seq (.cond (.t 46) (.skip) (.exit 2)) (.seq (.block 3 (.seq (.reg r75_11) (.seq (.reg r75_12) (.cond (.t 51) (.seq (.reg r75_13) (.ret)) (.skip))))) (.reg r75_14)))
def r75_15:List AOper:=[o 53 (.load (some 3) (.t 5)),
 o 54 (.call 102 [.t 53] .borrow),
 o 55 (.un .not (.t 54)),
 o 6 (.mv (.t 55))]
def c75:ACode:=.seq (.reg r75_0) (.seq (.seq (.reg r75_1) (.cond (.t 28) (.seq (.reg r75_2) (.ret)) (.skip))) (.seq (.seq (.reg r75_3) (.block 0 (.loop l75_0))) (.seq (.seq (.reg r75_9) (.block 2 (.loop l75_1))) (.seq (.reg r75_15) (.ret)))))
def a75:AFunc:=⟨3,56,[.tmp 6],c75⟩
def r81_0:List AOper:=[o 6 (.mv (.c (.bool false)))]
def r81_1:List AOper:=[o 7 (.mv (.t 0)),
 o 8 (.mv (.t 1)),
 o 9 (.bin .geq (.t 7) (.t 8)),
 o 10 (.mv (.t 9)),
 oT 11 10 (.mv (.t 0)),
 oT 12 10 (.mv (.t 2)),
 oT 13 10 (.bin .leq (.t 11) (.t 12)),
 o 14 (.pick (.t 10) (.t 13) (.c (.bool false))),
 o 6 (.mv (.t 14))]
def c81:ACode:=.seq (.reg r81_0) (.seq (.reg r81_1) (.ret))
def a81:AFunc:=⟨3,15,[.tmp 6],c81⟩
def r82_0:List AOper:=[o 2 (.box (.t 0)),
 o 4 (.mv (.c (.bool false)))]
def r82_1:List AOper:=[o 6 (.faddr 0 (.t 2)),
 o 7 (.load none (.t 6)),
 o 8 (.call 81 [.t 7,(i64 0),(i64 2)] .borrow),
 o 9 (.mv (.t 8)),
 oT 10 9 (.faddr 1 (.t 2)),
 oT 11 9 (.load none (.t 10)),
 oT 12 9 (.call 81 [.t 11,(i64 1),(i64 16)] .borrow),
 o 13 (.pick (.t 9) (.t 12) (.c (.bool false))),
 o 14 (.mv (.t 13)),
 oT 15 14 (.faddr 4 (.t 2)),
 oT 16 14 (.load none (.t 15)),
 oT 17 14 (.call 81 [.t 16,(i64 1),(i64 4)] .borrow),
 o 18 (.pick (.t 14) (.t 17) (.c (.bool false))),
 o 5 (.mv (.t 18))]
def r82_2:List AOper:=[o 19 (.mv (.t 5)),
 o 20 (.mv (.t 19)),
 oT 21 20 (.faddr 2 (.t 2)),
 oT 22 20 (.load none (.t 21)),
 oT 23 20 (.mv (.t 1)),
 oT 24 20 (.bin .sub (.t 23) (i64 1)),
 oT 25 20 (.call 81 [.t 22,(i64 0),.t 24] .borrow),
 o 26 (.pick (.t 20) (.t 25) (.c (.bool false))),
 o 27 (.mv (.t 26)),
 oT 28 27 (.faddr 3 (.t 2)),
 oT 29 27 (.load none (.t 28)),
 oT 30 27 (.mv (.t 1)),
 oT 31 27 (.bin .sub (.t 30) (i64 1)),
 oT 32 27 (.call 81 [.t 29,(i64 0),.t 31] .borrow),
 o 33 (.pick (.t 27) (.t 32) (.c (.bool false))),
 o 34 (.mv (.t 33)),
 oT 35 34 (.faddr 2 (.t 2)),
 oT 36 34 (.load none (.t 35)),
 oT 37 34 (.faddr 3 (.t 2)),
 oT 38 34 (.load none (.t 37)),
 oT 39 34 (.bin .neq (.t 36) (.t 38)),
 o 40 (.pick (.t 34) (.t 39) (.c (.bool false))),
 o 41 (.mv (.t 40)),
 oT 42 41 (.load (some 6) (.t 2)),
 oT 43 41 (.call 104 [.t 42] .borrow),
 o 44 (.pick (.t 41) (.t 43) (.c (.bool false))),
 o 4 (.mv (.t 44))]
def c82:ACode:=.seq (.reg r82_0) (.seq (.reg r82_1) (.seq (.reg r82_2) (.ret)))
def a82:AFunc:=⟨2,45,[.tmp 4],c82⟩
def r83_0:List AOper:=[o 2 (.box (.t 0)),
 o 4 (.mv (.c (.bool false)))]
def r83_1:List AOper:=[o 7 (.mv (.t 1)),
 o 8 (.len false (.t 7)),
 o 9 (.mv (i64 0))]
def r83_2:List AOper:=[o 10 (.bin .lss (.t 9) (.t 8))]
def r83_3:List AOper:=[o 11 (.iaddr 20 (.t 7) (.t 9)),
 o 12 (.load (some 20) (.t 11)),
 o 6 (.alloc [zi,zi,zi,zi,zi,zi,zi,.nils,zi,zi,zi,zi,.nils,zi,zi,zi,.nils,.nils,.nils,.nils]),
 oN (.store 20 (.t 6) (.t 12))]
def r83_4:List AOper:=[o 13 (.load (some 4) (.t 2)),
 o 14 (.load (some 20) (.t 6)),
 o 15 (.call 105 [.t 13,.t 14] .borrow),
 o 16 (.un .not (.t 15))]
def r83_5:List AOper:=[o 4 (.mv (.c (.bool false)))]
def r83_6:List AOper:=[o 17 (.bin .add (.t 9) (i64 1)),
 o 9 (.mv (.t 17))]
def l83_0:ACode:=.seq (.reg r83_2) (.seq (.cond (.t 10) (.skip) (.exit 0)) (.seq (.block 1 (.seq (.reg r83_3) (.seq (.reg r83_4) (.cond (.t 16) (.seq (.reg r83_5) (.ret)) (.skip))))) (.reg r83_6)))
def r83_7:List AOper:=[o 4 (.mv (.c (.bool true)))]
def c83:ACode:=.seq (.reg r83_0) (.seq (.seq (.reg r83_1) (.block 0 (.loop l83_0))) (.seq (.reg r83_7) (.ret)))
def a83:AFunc:=⟨2,18,[.tmp 4],c83⟩
def r84_0:List AOper:=[o 3 (.box (.t 1))]
def r84_1:List AOper:=[o 4 (.mv (.t 0)),
 o 5 (.mv (.t 0)),
 o 6 (.nilck (.t 5)),
 o 7 (.faddr 1 (.t 6)),
 o 8 (.load none (.t 7)),
 o 9 (.load (some 19) (.t 3)),
 ⟨some 10,.islice 1 [zi,zi,zi,zi,zi,zi,zi,zi,zi,.nils,zi,zi,zi,zi,.nils,zi,zi,zi,.nils] [(0,19,(.t 9))],none,true⟩,
 o 11 (.app 19 200 (.t 8) (.t 10)),
 o 12 (.nilck (.t 4)),
 o 13 (.faddr 1 (.t 12)),
 oN (.store 1 (.t 13) (.t 11))]
def b84_1:List (List Nat):=[[],[],[1],[1,2],[1,2,3],[],[5],[1,2,3,4,5,6],[0,1,2,3,4,5,6,7],[0,1,2,3,4,5,6,7,8],[0,1,2,3,4,5,6,7,8,9]]
def c84:ACode:=.seq (.reg r84_0) (.dreg r84_1 b84_1 [(4,6)])
def a84:AFunc:=⟨2,14,[],c84⟩
def r85_0:List AOper:=[o 2 (.mv (i64 0))]
def r85_1:List AOper:=[o 3 (.mv (.t 0)),
 o 4 (.nilck (.t 3)),
 o 5 (.faddr 0 (.t 4)),
 o 6 (.load none (.t 5)),
 o 7 (.bin .add (.t 6) (i64 1)),
 o 8 (.nilck (.t 3)),
 o 9 (.faddr 0 (.t 8)),
 oN (.store 1 (.t 9) (.t 7))]
def r85_2:List AOper:=[o 10 (.mv (.t 0)),
 o 11 (.nilck (.t 10)),
 o 12 (.faddr 0 (.t 11)),
 o 13 (.load none (.t 12)),
 o 14 (.bin .sub (.t 13) (i64 1)),
 o 2 (.mv (.t 14))]
def c85:ACode:=.seq (.reg r85_0) (.seq (.reg r85_1) (.seq (.reg r85_2) (.ret)))
def a85:AFunc:=⟨1,15,[.tmp 2],c85⟩
def r86_0:List AOper:=[o 5 (.box (.t 1))]
def r86_1:List AOper:=[o 8 (.faddr 0 (.t 5)),
 o 9 (.load none (.t 8))]
def r86_2:List AOper:=[o 11 (.bin .eql (.t 9) (i64 1)),
 o 10 (.mv (.t 11))]
def r86_3:List AOper:=[o 12 (.mv (.t 0)),
 o 13 (.mv (.t 2)),
 o 14 (.mv (.t 3)),
 o 15 (.faddr 1 (.t 5)),
 o 16 (.load none (.t 15)),
 o 17 (.faddr 4 (.t 5)),
 o 18 (.load (some 4) (.t 17)),
 o 19 (.call 106 [.t 18] .borrow),
 o 20 (.build [zi,zi,zi,zi,zi,zi,zi,zi,zi,.nils,zi,zi,zi,zi,.nils,zi,zi,zi,.nils] [(0,1,(.t 13)),(1,1,(.t 14)),(2,1,(i64 1)),(3,1,(.t 16)),(6,4,(.t 19))]),
 o 21 (.call 84 [.t 12,.t 20] .share)]
def b86_3:List (List Nat):=[[],[],[],[],[3],[],[5],[5,6],[1,2,3,4,5,6,7],[0,1,2,3,4,5,6,7,8]]
def r86_4:List AOper:=[o 23 (.bin .eql (.t 9) (i64 4)),
 o 22 (.mv (.t 23))]
def r86_5:List AOper:=[o 24 (.mv (.t 0)),
 o 25 (.mv (.t 2)),
 o 26 (.mv (.t 3)),
 o 27 (.faddr 2 (.t 5)),
 o 28 (.load none (.t 27)),
 o 29 (.faddr 3 (.t 5)),
 o 30 (.load none (.t 29)),
 o 31 (.faddr 4 (.t 5)),
 o 32 (.load (some 4) (.t 31)),
 o 33 (.call 106 [.t 32] .borrow),
 o 34 (.build [zi,zi,zi,zi,zi,zi,zi,zi,zi,.nils,zi,zi,zi,zi,.nils,zi,zi,zi,.nils] [(0,1,(.t 25)),(1,1,(.t 26)),(2,1,(i64 3)),(4,1,(.t 28)),(5,1,(.t 30)),(6,4,(.t 33))]),
 o 35 (.call 84 [.t 24,.t 34] .share)]
def b86_5:List (List Nat):=[[],[],[],[],[3],[],[5],[],[7],[7,8],[1,2,3,4,5,6,7,8,9],[0,1,2,3,4,5,6,7,8,9,10]]
def r86_6:List AOper:=[o 37 (.bin .eql (.t 9) (i64 6)),
 o 36 (.mv (.t 37))]
def r86_7:List AOper:=[o 38 (.mv (.t 0)),
 o 39 (.mv (.t 2)),
 o 40 (.mv (.t 3)),
 o 41 (.faddr 8 (.t 5)),
 o 42 (.load (some 9) (.t 41)),
 o 43 (.call 107 [.t 42] .borrow),
 o 44 (.build [zi,zi,zi,zi,zi,zi,zi,zi,zi,.nils,zi,zi,zi,zi,.nils,zi,zi,zi,.nils] [(0,1,(.t 39)),(1,1,(.t 40)),(2,1,(i64 5)),(10,9,(.t 43))]),
 o 45 (.call 84 [.t 38,.t 44] .share)]
def r86_8:List AOper:=[o 47 (.bin .eql (.t 9) (i64 7)),
 o 46 (.mv (.t 47))]
def r86_9:List AOper:=[o 48 (.mv (.t 0)),
 o 49 (.mv (.t 2)),
 o 50 (.mv (.t 3)),
 o 51 (.faddr 1 (.t 5)),
 o 52 (.load none (.t 51)),
 o 53 (.build [zi,zi,zi,zi,zi,zi,zi,zi,zi,.nils,zi,zi,zi,zi,.nils,zi,zi,zi,.nils] [(0,1,(.t 49)),(1,1,(.t 50)),(2,1,(i64 6)),(3,1,(.t 52))]),
 o 54 (.call 84 [.t 48,.t 53] .share)]
def r86_10:List AOper:=[o 56 (.bin .eql (.t 9) (i64 2)),
 o 55 (.mv (.t 56))]
def r86_11:List AOper:=[o 57 (.mv (.t 0)),
 o 58 (.faddr 8 (.t 5)),
 o 59 (.load (some 9) (.t 58)),
 o 60 (.call 107 [.t 59] .borrow),
 o 61 (.faddr 17 (.t 5)),
 o 62 (.load none (.t 61)),
 o 63 (.mv (.t 2)),
 o 64 (.mv (.t 3)),
 o 65 (.call 108 [.t 57,.t 60,.t 62,.t 63,.t 64] .share)]
def b86_11:List (List Nat):=[[],[],[1],[1,2],[],[4],[],[],[0,1,2,3,4,5,6,7]]
def r86_12:List AOper:=[o 66 (.mv (.t 0)),
 o 67 (.faddr 8 (.t 5)),
 o 68 (.load (some 9) (.t 67)),
 o 69 (.call 109 [.t 68] .borrow),
 o 70 (.faddr 18 (.t 5)),
 o 71 (.load none (.t 70)),
 o 72 (.mv (.t 2)),
 o 73 (.mv (.t 3)),
 o 74 (.call 108 [.t 66,.t 69,.t 71,.t 72,.t 73] .share)]
def b86_12:List (List Nat):=[[],[],[1],[1,2],[],[4],[],[],[0,1,2,3,4,5,6,7]]
def r86_13:List AOper:=[o 76 (.bin .eql (.t 9) (i64 3)),
 o 75 (.mv (.t 76))]
def r86_14:List AOper:=[o 77 (.mv (.t 0)),
 o 78 (.load (some 20) (.t 5)),
 o 79 (.mv (.t 2)),
 o 80 (.mv (.t 3)),
 o 81 (.call 110 [.t 77,.t 78,.t 79,.t 80] .share)]
def r86_15:List AOper:=[o 83 (.bin .eql (.t 9) (i64 5)),
 o 82 (.mv (.t 83))]
def r86_16:List AOper:=[o 84 (.mv (.t 0)),
 o 85 (.load (some 20) (.t 5)),
 o 86 (.mv (.t 2)),
 o 87 (.mv (.t 3)),
 o 88 (.call 111 [.t 84,.t 85,.t 86,.t 87] .share)]
def c86:ACode:=.seq (.reg r86_0) (.seq (.reg r86_1) (.block 0 (.seq (.reg r86_2) (.cond (.t 10) (.dreg r86_3 b86_3 []) (.seq (.reg r86_4) (.cond (.t 22) (.dreg r86_5 b86_5 []) (.seq (.reg r86_6) (.cond (.t 36) (.reg r86_7) (.seq (.reg r86_8) (.cond (.t 46) (.reg r86_9) (.seq (.reg r86_10) (.cond (.t 55) (.seq (.dreg r86_11 b86_11 []) (.dreg r86_12 b86_12 [])) (.seq (.reg r86_13) (.cond (.t 75) (.reg r86_14) (.seq (.reg r86_15) (.cond (.t 82) (.reg r86_16) (.skip)))))))))))))))))
def a86:AFunc:=⟨4,89,[],c86⟩
def r87_0:List AOper:=[o 8 (.mv (.c (.bool true)))]
def r87_1:List AOper:=[o 9 (.mv (.c (.bool true)))]
def r87_2:List AOper:=[o 19 (.mv (.t 2)),
 o 20 (.mv (.t 1)),
 o 21 (.bin .sub (.t 19) (.t 20)),
 o 10 (.mv (.t 21))]
def r87_3:List AOper:=[o 22 (.mv (.t 10)),
 o 23 (.bin .leq (.t 22) (i64 12))]
def r87_4:List AOper:=[o 24 (.mv (.t 0)),
 o 25 (.mv (.t 1)),
 o 26 (.mv (.t 2)),
 o 27 (.call 112 [.t 24,.t 25,.t 26] .share)]
def r87_5:List AOper:=[o 28 (.mv (.t 3)),
 o 29 (.bin .eql (.t 28) (i64 0))]
def r87_6:List AOper:=[o 30 (.mv (.t 0)),
 o 31 (.mv (.t 1)),
 o 32 (.mv (.t 2)),
 o 33 (.call 113 [.t 30,.t 31,.t 32] .share)]
def r87_7:List AOper:=[o 34 (.mv (.t 8)),
 o 35 (.un .not (.t 34))]
def r87_8:List AOper:=[o 36 (.mv (.t 0)),
 o 37 (.mv (.t 1)),
 o 38 (.mv (.t 2)),
 o 39 (.call 114 [.t 36,.t 37,.t 38] .share)]
def r87_9:List AOper:=[o 40 (.mv (.t 3)),
 o 41 (.bin .sub (.t 40) (i64 1)),
 o 3 (.mv (.t 41))]
def r87_10:List AOper:=[o 43 (.mv (.t 0)),
 o 44 (.mv (.t 1)),
 o 45 (.mv (.t 2)),
 o 46 (.call 115 [.t 43,.t 44,.t 45] .share),
 o 42 (.mv (.t 46)),
 o 47 (.ext 0 (.t 42)),
 o 48 (.ext 1 (.t 42)),
 o 11 (.mv (.t 47)),
 o 12 (.mv (.t 48))]
def r87_11:List AOper:=[o 49 (.mv (.t 12)),
 o 50 (.bin .eql (.t 49) (i64 2))]
def r87_12:List AOper:=[o 51 (.mv (.t 0)),
 o 52 (.mv (.t 1)),
 o 53 (.mv (.t 2)),
 o 54 (.call 116 [.t 51,.t 52,.t 53] .share)]
def r87_13:List AOper:=[o 55 (.mv (.t 2)),
 o 56 (.bin .sub (.t 55) (i64 1)),
 o 57 (.mv (.t 11)),
 o 58 (.mv (.t 1)),
 o 59 (.bin .sub (.t 57) (.t 58)),
 o 60 (.bin .sub (.t 56) (.t 59)),
 o 11 (.mv (.t 60))]
def r87_14:List AOper:=[o 12 (.mv (i64 1))]
def r87_15:List AOper:=[o 61 (.mv (.t 8)),
 o 62 (.mv (.t 61)),
 oT 63 62 (.mv (.t 9)),
 o 64 (.pick (.t 62) (.t 63) (.c (.bool false))),
 o 65 (.mv (.t 64)),
 oT 66 65 (.mv (.t 12)),
 oT 67 65 (.bin .eql (.t 66) (i64 1)),
 o 68 (.pick (.t 65) (.t 67) (.c (.bool false)))]
def r87_16:List AOper:=[o 69 (.mv (.t 0)),
 o 70 (.mv (.t 1)),
 o 71 (.mv (.t 2)),
 o 72 (.call 117 [.t 69,.t 70,.t 71] .share)]
def r87_17:List AOper:=[o 73 (.mv (.t 1)),
 o 74 (.bin .gtr (.t 73) (i64 0)),
 o 75 (.mv (.t 74)),
 oT 76 75 (.mv (.t 0)),
 oT 77 75 (.mv (.t 1)),
 oT 78 75 (.bin .sub (.t 77) (i64 1)),
 oT 79 75 (.iaddr 1 (.t 76) (.t 78)),
 oT 80 75 (.load none (.t 79)),
 oT 81 75 (.mv (.t 0)),
 oT 82 75 (.mv (.t 11)),
 oT 83 75 (.iaddr 1 (.t 81) (.t 82)),
 oT 84 75 (.load none (.t 83)),
 oT 85 75 (.call 118 [.t 80,.t 84] .borrow),
 oT 86 75 (.un .not (.t 85)),
 o 87 (.pick (.t 75) (.t 86) (.c (.bool false)))]
def b87_17:List (List Nat):=[[],[0],[0,1],[0,1,2],[0,1,2],[0,1,2,4],[0,1,2,3,4,5],[0,1,2,3,4,5,6],[0,1,2],[0,1,2],[0,1,2,8,9],[0,1,2,8,9,10],[0,1,2,3,4,5,6,7,8,9,10,11],[0,1,2,3,4,5,6,7,8,9,10,11,12],[0,1,2,3,4,5,6,7,8,9,10,11,12,13]]
def r87_18:List AOper:=[o 88 (.mv (.t 0)),
 o 89 (.mv (.t 1)),
 o 90 (.mv (.t 2)),
 o 91 (.mv (.t 11)),
 o 92 (.call 119 [.t 88,.t 89,.t 90,.t 91] .share),
 o 13 (.mv (.t 92))]
def r87_19:List AOper:=[o 93 (.mv (.t 13)),
 o 1 (.mv (.t 93))]
def r87_20:List AOper:=[o 95 (.mv (.t 0)),
 o 96 (.mv (.t 1)),
 o 97 (.mv (.t 2)),
 o 98 (.mv (.t 11)),
 o 99 (.call 120 [.t 95,.t 96,.t 97,.t 98] .share),
 o 94 (.mv (.t 99)),
 o 100 (.ext 0 (.t 94)),
 o 101 (.ext 1 (.t 94)),
 o 14 (.mv (.t 100)),
 o 15 (.mv (.t 101))]
def r87_21:List AOper:=[o 102 (.mv (.t 15)),
 o 9 (.mv (.t 102))]
def r87_22:List AOper:=[o 103 (.mv (.t 14)),
 o 104 (.mv (.t 1)),
 o 105 (.bin .sub (.t 103) (.t 104)),
 o 106 (.mv (.t 2)),
 o 107 (.mv (.t 14)),
 o 108 (.bin .sub (.t 106) (.t 107)),
 o 16 (.mv (.t 105)),
 o 17 (.mv (.t 108))]
def r87_23:List AOper:=[o 109 (.mv (.t 10)),
 o 110 (.bin .quo (.t 109) (i64 8)),
 o 18 (.mv (.t 110))]
def r87_24:List AOper:=[o 111 (.mv (.t 16)),
 o 112 (.mv (.t 17)),
 o 113 (.bin .lss (.t 111) (.t 112))]
def r87_25:List AOper:=[o 114 (.mv (.t 16)),
 o 115 (.mv (.t 18)),
 o 116 (.bin .geq (.t 114) (.t 115)),
 o 8 (.mv (.t 116))]
def r87_26:List AOper:=[o 117 (.mv (.t 0)),
 o 118 (.mv (.t 1)),
 o 119 (.mv (.t 14)),
 o 120 (.mv (.t 3)),
 o 121 (.call 87 [.t 117,.t 118,.t 119,.t 120] .share)]
def r87_27:List AOper:=[o 122 (.mv (.t 14)),
 o 123 (.bin .add (.t 122) (i64 1)),
 o 1 (.mv (.t 123))]
def r87_28:List AOper:=[o 124 (.mv (.t 17)),
 o 125 (.mv (.t 18)),
 o 126 (.bin .geq (.t 124) (.t 125)),
 o 8 (.mv (.t 126))]
def r87_29:List AOper:=[o 127 (.mv (.t 0)),
 o 128 (.mv (.t 14)),
 o 129 (.bin .add (.t 128) (i64 1)),
 o 130 (.mv (.t 2)),
 o 131 (.mv (.t 3)),
 o 132 (.call 87 [.t 127,.t 129,.t 130,.t 131] .share)]
def r87_30:List AOper:=[o 133 (.mv (.t 14)),
 o 2 (.mv (.t 133))]
def l87_0:ACode:=.block 1 (.seq (.reg r87_2) (.seq (.seq (.reg r87_3) (.cond (.t 23) (.seq (.reg r87_4) (.ret)) (.skip))) (.seq (.seq (.reg r87_5) (.cond (.t 29) (.seq (.reg r87_6) (.ret)) (.skip))) (.seq (.seq (.reg r87_7) (.cond (.t 35) (.seq (.reg r87_8) (.reg r87_9)) (.skip))) (.seq (.reg r87_10) (.seq (.seq (.reg r87_11) (.cond (.t 50) (.seq (.reg r87_12) (.seq (.reg r87_13) (.reg r87_14))) (.skip))) (.seq (.seq (.reg r87_15) (.cond (.t 68) (.seq (.reg r87_16) (.cond (.t 72) (.ret) (.skip))) (.skip))) (.seq (.seq (.dreg r87_17 b87_17 []) (.cond (.t 87) (.seq (.reg r87_18) (.seq (.reg r87_19) (.exit 1))) (.skip))) (.seq (.reg r87_20) (.seq (.reg r87_21) (.seq (.reg r87_22) (.seq (.reg r87_23) (.seq (.reg r87_24) (.cond (.t 113) (.seq (.reg r87_25) (.seq (.reg r87_26) (.reg r87_27))) (.seq (.reg r87_28) (.seq (.reg r87_29) (.reg r87_30)))))))))))))))))
def c87:ACode:=.seq (.reg r87_0) (.seq (.reg r87_1) (.block 0 (.loop l87_0)))
def a87:AFunc:=⟨4,134,[],c87⟩
def r88_0:List AOper:=[o 2 (.mv (i64 0))]
def r88_1:List AOper:=[o 3 (.mv (.t 0)),
 o 4 (.conv .u32 (.t 3)),
 o 5 (.call 121 [.t 4] .borrow),
 o 2 (.mv (.t 5))]
def r88_2:List AOper:=[o 6 (.mv (.t 0)),
 o 7 (.call 122 [.t 6] .borrow),
 o 2 (.mv (.t 7))]
def c88:ACode:=.seq (.reg r88_0) (.seq (.cond (.c (.bool false)) (.seq (.reg r88_1) (.ret)) (.skip)) (.seq (.reg r88_2) (.ret)))
def a88:AFunc:=⟨1,8,[.tmp 2],c88⟩
def r89_0:List AOper:=[o 2 (.mv (i64 0))]
def r89_1:List AOper:=[o 3 (.mv (.t 0)),
 o 4 (.nilck (.t 3)),
 o 5 (.faddr 0 (.t 4)),
 o 6 (.load none (.t 5)),
 o 7 (.bin .add (.t 6) (i64 1)),
 o 8 (.nilck (.t 3)),
 o 9 (.faddr 0 (.t 8)),
 oN (.store 1 (.t 9) (.t 7))]
def r89_2:List AOper:=[o 10 (.mv (.t 0)),
 o 11 (.nilck (.t 10)),
 o 12 (.faddr 0 (.t 11)),
 o 13 (.load none (.t 12)),
 o 14 (.bin .sub (.t 13) (i64 1)),
 o 2 (.mv (.t 14))]
def c89:ACode:=.seq (.reg r89_0) (.seq (.reg r89_1) (.seq (.reg r89_2) (.ret)))
def a89:AFunc:=⟨1,15,[.tmp 2],c89⟩
def r90_0:List AOper:=[o 5 (.box (.t 1))]
def r90_1:List AOper:=[o 13 (.faddr 0 (.t 5)),
 o 14 (.load none (.t 13))]
def r90_2:List AOper:=[o 16 (.bin .eql (.t 14) (i64 1)),
 o 15 (.mv (.t 16))]
def r90_3:List AOper:=[o 17 (.mv (.t 0)),
 o 18 (.mv (.t 0)),
 o 19 (.nilck (.t 18)),
 o 20 (.faddr 1 (.t 19)),
 o 21 (.load none (.t 20)),
 o 22 (.mv (.t 2)),
 o 23 (.mv (.t 3)),
 o 24 (.faddr 1 (.t 5)),
 o 25 (.load none (.t 24)),
 o 26 (.faddr 4 (.t 5)),
 o 27 (.load (some 4) (.t 26)),
 o 28 (.build [zi,zi,zi,zi,zi,zi,zi,zi,zi,.nils,zi,zi,zi,zi,.nils,zi,zi,zi,.nils] [(0,1,(.t 22)),(1,1,(.t 23)),(2,1,(i64 1)),(3,1,(.t 25)),(6,4,(.t 27))]),
 ⟨some 29,.islice 1 [zi,zi,zi,zi,zi,zi,zi,zi,zi,.nils,zi,zi,zi,zi,.nils,zi,zi,zi,.nils] [(0,19,(.t 28))],none,true⟩,
 o 30 (.app 19 200 (.t 21) (.t 29)),
 o 31 (.nilck (.t 17)),
 o 32 (.faddr 1 (.t 31)),
 oN (.store 1 (.t 32) (.t 30))]
def b90_3:List (List Nat):=[[],[],[1],[1,2],[1,2,3],[],[],[],[7],[],[9],[5,6,7,8,9,10],[5,6,7,8,9,10,11],[1,2,3,4,5,6,7,8,9,10,11,12],[0,1,2,3,4,5,6,7,8,9,10,11,12,13],[0,1,2,3,4,5,6,7,8,9,10,11,12,13,14],[0,1,2,3,4,5,6,7,8,9,10,11,12,13,14,15]]
def r90_4:List AOper:=[o 34 (.bin .eql (.t 14) (i64 2)),
 o 33 (.mv (.t 34))]
def r90_5:List AOper:=[o 35 (.mv (.t 0)),
 o 36 (.call 89 [.t 35] .share),
 o 8 (.mv (.t 36))]
def r90_6:List AOper:=[o 37 (.mv (.t 0)),
 o 38 (.mv (.t 0)),
 o 39 (.nilck (.t 38)),
 o 40 (.faddr 1 (.t 39)),
 o 41 (.load none (.t 40)),
 o 42 (.mv (.t 2)),
 o 43 (.mv (.t 8)),
 o 44 (.faddr 8 (.t 5)),
 o 45 (.load (some 9) (.t 44)),
 o 46 (.build [zi,zi,zi,zi,zi,zi,zi,zi,zi,.nils,zi,zi,zi,zi,.nils,zi,zi,zi,.nils] [(0,1,(.t 42)),(1,1,(.t 43)),(2,1,(i64 2)),(10,9,(.t 45))]),
 ⟨some 47,.islice 1 [zi,zi,zi,zi,zi,zi,zi,zi,zi,.nils,zi,zi,zi,zi,.nils,zi,zi,zi,.nils] [(0,19,(.t 46))],none,true⟩,
 o 48 (.app 19 200 (.t 41) (.t 47)),
 o 49 (.nilck (.t 37)),
 o 50 (.faddr 1 (.t 49)),
 oN (.store 1 (.t 50) (.t 48))]
def b90_6:List (List Nat):=[[],[],[1],[1,2],[1,2,3],[],[],[],[7],[5,6,7,8],[5,6,7,8,9],[1,2,3,4,5,6,7,8,9,10],[0,1,2,3,4,5,6,7,8,9,10,11],[0,1,2,3,4,5,6,7,8,9,10,11,12],[0,1,2,3,4,5,6,7,8,9,10,11,12,13]]
def r90_7:List AOper:=[o 51 (.mv (.t 0)),
 o 52 (.faddr 17 (.t 5)),
 o 53 (.load none (.t 52)),
 o 54 (.mv (.t 8)),
 o 55 (.mv (.t 3)),
 o 56 (.call 65 [.t 51,.t 53,.t 54,.t 55] .share)]
def r90_8:List AOper:=[o 57 (.mv (.t 0)),
 o 58 (.call 89 [.t 57] .share),
 o 9 (.mv (.t 58))]
def r90_9:List AOper:=[o 59 (.mv (.t 0)),
 o 60 (.mv (.t 0)),
 o 61 (.nilck (.t 60)),
 o 62 (.faddr 1 (.t 61)),
 o 63 (.load none (.t 62)),
 o 64 (.mv (.t 2)),
 o 65 (.mv (.t 9)),
 o 66 (.faddr 8 (.t 5)),
 o 67 (.faddr 0 (.t 66)),
 o 68 (.load none (.t 67)),
 o 69 (.call 48 [.t 68] .borrow),
 o 70 (.faddr 8 (.t 5)),
 o 71 (.faddr 1 (.t 70)),
 o 72 (.load (some 4) (.t 71)),
 o 73 (.faddr 8 (.t 5)),
 o 74 (.faddr 5 (.t 73)),
 o 75 (.load (some 4) (.t 74)),
 o 76 (.build [zi,zi,zi,zi,.nils,zi,zi,zi,.nils] [(0,1,(.t 69)),(1,4,(.t 72)),(5,4,(.t 75))]),
 o 77 (.build [zi,zi,zi,zi,zi,zi,zi,zi,zi,.nils,zi,zi,zi,zi,.nils,zi,zi,zi,.nils] [(0,1,(.t 64)),(1,1,(.t 65)),(2,1,(i64 2)),(10,9,(.t 76))]),
 ⟨some 78,.islice 1 [zi,zi,zi,zi,zi,zi,zi,zi,zi,.nils,zi,zi,zi,zi,.nils,zi,zi,zi,.nils] [(0,19,(.t 77))],none,true⟩,
 o 79 (.app 19 200 (.t 63) (.t 78)),
 o 80 (.nilck (.t 59)),
 o 81 (.faddr 1 (.t 80)),
 oN (.store 1 (.t 81) (.t 79))]
def b90_9:List (List Nat):=[[],[],[1],[1,2],[1,2,3],[],[],[],[7],[7,8],[7,8,9],[],[11],[11,12],[],[14],[14,15],[7,8,9,10,11,12,13,14,15,16],[5,6,7,8,9,10,11,12,13,14,15,16,17],[5,6,7,8,9,10,11,12,13,14,15,16,17,18],[1,2,3,4,5,6,7,8,9,10,11,12,13,14,15,16,17,18,19],[0,1,2,3,4,5,6,7,8,9,10,11,12,13,14,15,16,17,18,19,20],[0,1,2,3,4,5,6,7,8,9,10,11,12,13,14,15,16,17,18,19,20,21],[0,1,2,3,4,5,6,7,8,9,10,11,12,13,14,15,16,17,18,19,20,21,22]]
def r90_10:List AOper:=[o 82 (.mv (.t 0)),
 o 83 (.faddr 18 (.t 5)),
 o 84 (.load none (.t 83)),
 o 85 (.mv (.t 9)),
 o 86 (.mv (.t 3)),
 o 87 (.call 65 [.t 82,.t 84,.t 85,.t 86] .share)]
def r90_11:List AOper:=[o 89 (.bin .eql (.t 14) (i64 3)),
 o 88 (.mv (.t 89))]
def r90_12:List AOper:=[o 90 (.mv (.t 0)),
 o 91 (.mv (.t 0)),
 o 92 (.nilck (.t 91)),
 o 93 (.faddr 2 (.t 92)),
 o 94 (.load none (.t 93)),
 o 95 (.mv (.t 2)),
 o 96 (.islice 1 [zi] [(0,1,(.t 95))]),
 o 97 (.app 1 8 (.t 94) (.t 96)),
 o 98 (.nilck (.t 90)),
 o 99 (.faddr 2 (.t 98)),
 oN (.store 1 (.t 99) (.t 97))]
def r90_13:List AOper:=[o 100 (.mv (.t 0)),
 o 101 (.call 89 [.t 100] .share),
 o 10 (.mv (.t 101))]
def r90_14:List AOper:=[o 102 (.mv (.t 0)),
 o 103 (.mv (.t 0)),
 o 104 (.nilck (.t 103)),
 o 105 (.faddr 1 (.t 104)),
 o 106 (.load none (.t 105)),
 o 107 (.mv (.t 2)),
 o 108 (.mv (.t 10)),
 o 109 (.faddr 8 (.t 5)),
 o 110 (.load (some 9) (.t 109)),
 o 111 (.build [zi,zi,zi,zi,zi,zi,zi,zi,zi,.nils,zi,zi,zi,zi,.nils,zi,zi,zi,.nils] [(0,1,(.t 107)),(1,1,(.t 108)),(2,1,(i64 2)),(10,9,(.t 110))]),
 o 112 (.mv (.t 2)),
 o 113 (.mv (.t 3)),
 o 114 (.faddr 8 (.t 5)),
 o 115 (.faddr 0 (.t 114)),
 o 116 (.load none (.t 115)),
 o 117 (.call 48 [.t 116] .borrow),
 o 118 (.faddr 8 (.t 5)),
 o 119 (.faddr 1 (.t 118)),
 o 120 (.load (some 4) (.t 119)),
 o 121 (.faddr 8 (.t 5)),
 o 122 (.faddr 5 (.t 121)),
 o 123 (.load (some 4) (.t 122)),
 o 124 (.build [zi,zi,zi,zi,.nils,zi,zi,zi,.nils] [(0,1,(.t 117)),(1,4,(.t 120)),(5,4,(.t 123))]),
 o 125 (.build [zi,zi,zi,zi,zi,zi,zi,zi,zi,.nils,zi,zi,zi,zi,.nils,zi,zi,zi,.nils] [(0,1,(.t 112)),(1,1,(.t 113)),(2,1,(i64 2)),(10,9,(.t 124))]),
 ⟨some 126,.islice 2 [zi,zi,zi,zi,zi,zi,zi,zi,zi,.nils,zi,zi,zi,zi,.nils,zi,zi,zi,.nils,zi,zi,zi,zi,zi,zi,zi,zi,zi,.nils,zi,zi,zi,zi,.nils,zi,zi,zi,.nils] [(0,19,(.t 111)),(19,19,(.t 125))],none,true⟩,
 o 127 (.app 19 200 (.t 106) (.t 126)),
 o 128 (.nilck (.t 102)),
 o 129 (.faddr 1 (.t 128)),
 oN (.store 1 (.t 129) (.t 127))]
def b90_14:List (List Nat):=[[],[],[1],[1,2],[1,2,3],[],[],[],[7],[5,6,7,8],[],[],[],[12],[12,13],[12,13,14],[],[16],[16,17],[],[19],[19,20],[12,13,14,15,16,17,18,19,20,21],[10,11,12,13,14,15,16,17,18,19,20,21,22],[5,6,7,8,9,10,11,12,13,14,15,16,17,18,19,20,21,22,23],[1,2,3,4,5,6,7,8,9,10,11,12,13,14,15,16,17,18,19,20,21,22,23,24],[0,1,2,3,4,5,6,7,8,9,10,11,12,13,14,15,16,17,18,19,20,21,22,23,24,25],[0,1,2,3,4,5,6,7,8,9,10,11,12,13,14,15,16,17,18,19,20,21,22,23,24,25,26],[0,1,2,3,4,5,6,7,8,9,10,11,12,13,14,15,16,17,18,19,20,21,22,23,24,25,26,27]]
def r90_15:List AOper:=[o 130 (.mv (.t 0)),
 o 131 (.faddr 17 (.t 5)),
 o 132 (.load none (.t 131)),
 o 133 (.mv (.t 10)),
 o 134 (.mv (.t 2)),
 o 135 (.call 65 [.t 130,.t 132,.t 133,.t 134] .share)]
def r90_16:List AOper:=[o 137 (.bin .eql (.t 14) (i64 4)),
 o 136 (.mv (.t 137))]
def r90_17:List AOper:=[o 138 (.mv (.t 0)),
 o 139 (.mv (.t 0)),
 o 140 (.nilck (.t 139)),
 o 141 (.faddr 1 (.t 140)),
 o 142 (.load none (.t 141)),
 o 143 (.mv (.t 2)),
 o 144 (.mv (.t 3)),
 o 145 (.faddr 2 (.t 5)),
 o 146 (.load none (.t 145)),
 o 147 (.faddr 3 (.t 5)),
 o 148 (.load none (.t 147)),
 o 149 (.faddr 4 (.t 5)),
 o 150 (.load (some 4) (.t 149)),
 o 151 (.build [zi,zi,zi,zi,zi,zi,zi,zi,zi,.nils,zi,zi,zi,zi,.nils,zi,zi,zi,.nils] [(0,1,(.t 143)),(1,1,(.t 144)),(2,1,(i64 3)),(4,1,(.t 146)),(5,1,(.t 148)),(6,4,(.t 150))]),
 ⟨some 152,.islice 1 [zi,zi,zi,zi,zi,zi,zi,zi,zi,.nils,zi,zi,zi,zi,.nils,zi,zi,zi,.nils] [(0,19,(.t 151))],none,true⟩,
 o 153 (.app 19 200 (.t 142) (.t 152)),
 o 154 (.nilck (.t 138)),
 o 155 (.faddr 1 (.t 154)),
 oN (.store 1 (.t 155) (.t 153))]
def b90_17:List (List Nat):=[[],[],[1],[1,2],[1,2,3],[],[],[],[7],[],[9],[],[11],[5,6,7,8,9,10,11,12],[5,6,7,8,9,10,11,12,13],[1,2,3,4,5,6,7,8,9,10,11,12,13,14],[0,1,2,3,4,5,6,7,8,9,10,11,12,13,14,15],[0,1,2,3,4,5,6,7,8,9,10,11,12,13,14,15,16],[0,1,2,3,4,5,6,7,8,9,10,11,12,13,14,15,16,17]]
def r90_18:List AOper:=[o 157 (.bin .eql (.t 14) (i64 5)),
 o 156 (.mv (.t 157))]
def r90_19:List AOper:=[o 11 (.mv (i64 0))]
def r90_20:List AOper:=[o 158 (.mv (.t 11)),
 o 159 (.faddr 19 (.t 5)),
 o 160 (.load none (.t 159)),
 o 161 (.len false (.t 160)),
 o 162 (.bin .lss (.t 158) (.t 161))]
def r90_22:List AOper:=[o 165 (.mv (.t 0)),
 o 166 (.call 89 [.t 165] .share),
 o 12 (.mv (.t 166))]
def r90_23:List AOper:=[o 167 (.mv (.t 0)),
 o 168 (.mv (.t 0)),
 o 169 (.nilck (.t 168)),
 o 170 (.faddr 1 (.t 169)),
 o 171 (.load none (.t 170)),
 o 172 (.mv (.t 2)),
 o 173 (.mv (.t 12)),
 o 174 (.faddr 2 (.t 5)),
 o 175 (.load none (.t 174)),
 o 176 (.faddr 19 (.t 5)),
 o 177 (.load none (.t 176)),
 o 178 (.mv (.t 11)),
 o 179 (.iaddr 3 (.t 177) (.t 178)),
 o 180 (.faddr 0 (.t 179)),
 o 181 (.load none (.t 180)),
 o 182 (.faddr 19 (.t 5)),
 o 183 (.load none (.t 182)),
 o 184 (.mv (.t 11)),
 o 185 (.iaddr 3 (.t 183) (.t 184)),
 o 186 (.faddr 1 (.t 185)),
 o 187 (.load none (.t 186)),
 o 188 (.build [zi,zi,zi,zi,zi,zi,zi,zi,zi,.nils,zi,zi,zi,zi,.nils,zi,zi,zi,.nils] [(0,1,(.t 172)),(1,1,(.t 173)),(2,1,(i64 4)),(4,1,(.t 175)),(5,1,(.t 181)),(3,1,(.t 187))]),
 ⟨some 189,.islice 1 [zi,zi,zi,zi,zi,zi,zi,zi,zi,.nils,zi,zi,zi,zi,.nils,zi,zi,zi,.nils] [(0,19,(.t 188))],none,true⟩,
 o 190 (.app 19 200 (.t 171) (.t 189)),
 o 191 (.nilck (.t 167)),
 o 192 (.faddr 1 (.t 191)),
 oN (.store 1 (.t 192) (.t 190))]
def b90_23:List (List Nat):=[[],[],[1],[1,2],[1,2,3],[],[],[],[7],[],[9],[],[9,10,11],[9,10,11,12],[9,10,11,12,13],[],[15],[],[15,16,17],[15,16,17,18],[15,16,17,18,19],[5,6,7,8,9,10,11,12,13,14,15,16,17,18,19,20],[5,6,7,8,9,10,11,12,13,14,15,16,17,18,19,20,21],[1,2,3,4,5,6,7,8,9,10,11,12,13,14,15,16,17,18,19,20,21,22],[0,1,2,3,4,5,6,7,8,9,10,11,12,13,14,15,16,17,18,19,20,21,22,23],[0,1,2,3,4,5,6,7,8,9,10,11,12,13,14,15,16,17,18,19,20,21,22,23,24],[0,1,2,3,4,5,6,7,8,9,10,11,12,13,14,15,16,17,18,19,20,21,22,23,24,25]]
def r90_24:List AOper:=[o 193 (.mv (.t 0)),
 o 194 (.faddr 19 (.t 5)),
 o 195 (.load none (.t 194)),
 o 196 (.mv (.t 11)),
 o 197 (.iaddr 3 (.t 195) (.t 196)),
 o 198 (.faddr 2 (.t 197)),
 o 199 (.load none (.t 198)),
 o 200 (.mv (.t 12)),
 o 201 (.mv (.t 3)),
 o 202 (.call 65 [.t 193,.t 199,.t 200,.t 201] .share)]
def r90_21:List AOper:=[o 163 (.mv (.t 11)),
 o 164 (.bin .add (.t 163) (i64 1)),
 o 11 (.mv (.t 164))]
def l90_0:ACode:=.seq (.seq (.reg r90_20) (.cond (.t 162) (.skip) (.exit 1))) (.seq (.block 2 (.seq (.reg r90_22) (.seq (.dreg r90_23 b90_23 [(4,22)]) (.reg r90_24)))) (.reg r90_21))
def r90_25:List AOper:=[o 204 (.bin .eql (.t 14) (i64 6)),
 o 203 (.mv (.t 204))]
def r90_26:List AOper:=[o 205 (.mv (.t 0)),
 o 206 (.mv (.t 0)),
 o 207 (.nilck (.t 206)),
 o 208 (.faddr 1 (.t 207)),
 o 209 (.load none (.t 208)),
 o 210 (.mv (.t 2)),
 o 211 (.mv (.t 3)),
 o 212 (.faddr 8 (.t 5)),
 o 213 (.load (some 9) (.t 212)),
 o 214 (.build [zi,zi,zi,zi,zi,zi,zi,zi,zi,.nils,zi,zi,zi,zi,.nils,zi,zi,zi,.nils] [(0,1,(.t 210)),(1,1,(.t 211)),(2,1,(i64 5)),(10,9,(.t 213))]),
 ⟨some 215,.islice 1 [zi,zi,zi,zi,zi,zi,zi,zi,zi,.nils,zi,zi,zi,zi,.nils,zi,zi,zi,.nils] [(0,19,(.t 214))],none,true⟩,
 o 216 (.app 19 200 (.t 209) (.t 215)),
 o 217 (.nilck (.t 205)),
 o 218 (.faddr 1 (.t 217)),
 oN (.store 1 (.t 218) (.t 216))]
def b90_26:List (List Nat):=[[],[],[1],[1,2],[1,2,3],[],[],[],[7],[5,6,7,8],[5,6,7,8,9],[1,2,3,4,5,6,7,8,9,10],[0,1,2,3,4,5,6,7,8,9,10,11],[0,1,2,3,4,5,6,7,8,9,10,11,12],[0,1,2,3,4,5,6,7,8,9,10,11,12,13]]
def r90_27:List AOper:=[o 220 (.bin .eql (.t 14) (i64 7)),
 o 219 (.mv (.t 220))]
def r90_28:List AOper:=[o 221 (.mv (.t 0)),
 o 222 (.mv (.t 0)),
 o 223 (.nilck (.t 222)),
 o 224 (.faddr 1 (.t 223)),
 o 225 (.load none (.t 224)),
 o 226 (.mv (.t 2)),
 o 227 (.mv (.t 3)),
 o 228 (.faddr 1 (.t 5)),
 o 229 (.load none (.t 228)),
 o 230 (.build [zi,zi,zi,zi,zi,zi,zi,zi,zi,.nils,zi,zi,zi,zi,.nils,zi,zi,zi,.nils] [(0,1,(.t 226)),(1,1,(.t 227)),(2,1,(i64 6)),(3,1,(.t 229))]),
 ⟨some 231,.islice 1 [zi,zi,zi,zi,zi,zi,zi,zi,zi,.nils,zi,zi,zi,zi,.nils,zi,zi,zi,.nils] [(0,19,(.t 230))],none,true⟩,
 o 232 (.app 19 200 (.t 225) (.t 231)),
 o 233 (.nilck (.t 221)),
 o 234 (.faddr 1 (.t 233)),
 oN (.store 1 (.t 234) (.t 232))]
def b90_28:List (List Nat):=[[],[],[1],[1,2],[1,2,3],[],[],[],[7],[5,6,7,8],[5,6,7,8,9],[1,2,3,4,5,6,7,8,9,10],[0,1,2,3,4,5,6,7,8,9,10,11],[0,1,2,3,4,5,6,7,8,9,10,11,12],[0,1,2,3,4,5,6,7,8,9,10,11,12,13]]
def c90:ACode:=.seq (.reg r90_0) (.seq (.reg r90_1) (.block 0 (.seq (.reg r90_2) (.cond (.t 15) (.dreg r90_3 b90_3 [(4,12)]) (.seq (.reg r90_4) (.cond (.t 33) (.seq (.reg r90_5) (.seq (.dreg r90_6 b90_6 [(4,10)]) (.seq (.reg r90_7) (.seq (.reg r90_8) (.seq (.dreg r90_9 b90_9 [(4,19)]) (.reg r90_10)))))) (.seq (.reg r90_11) (.cond (.t 88) (.seq (.reg r90_12) (.seq (.reg r90_13) (.seq (.dreg r90_14 b90_14 [(4,24)]) (.reg r90_15)))) (.seq (.reg r90_16) (.cond (.t 136) (.dreg r90_17 b90_17 [(4,14)]) (.seq (.reg r90_18) (.cond (.t 156) (.seq (.reg r90_19) (.block 1 (.loop l90_0))) (.seq (.reg r90_25) (.cond (.t 203) (.dreg r90_26 b90_26 [(4,10)]) (.seq (.reg r90_27) (.cond (.t 219) (.dreg r90_28 b90_28 [(4,10)]) (.skip)))))))))))))))))
def a90:AFunc:=⟨4,235,[],c90⟩
def r91_0:List AOper:=[o 3 (.box (.t 0)),
 o 4 (.box (.t 1)),
 o 6 (.mv (.c (.bool false)))]
def r91_1:List AOper:=[o 14 (.faddr 1 (.t 4)),
 o 15 (.load none (.t 14)),
 o 16 (.mv (.t 2)),
 o 17 (.iaddr 2 (.t 15) (.t 16)),
 o 18 (.faddr 0 (.t 17)),
 o 19 (.load none (.t 18)),
 o 7 (.mv (.t 19))]
def r91_2:List AOper:=[o 20 (.faddr 17 (.t 3)),
 o 21 (.load none (.t 20)),
 o 22 (.len false (.t 21)),
 o 23 (.bin .eql (.t 22) (i64 0)),
 o 24 (.mv (.t 23)),
 oT 25 24 (.faddr 18 (.t 3)),
 oT 26 24 (.load none (.t 25)),
 oT 27 24 (.len false (.t 26)),
 oT 28 24 (.bin .eql (.t 27) (i64 0)),
 o 29 (.pick (.t 24) (.t 28) (.c (.bool false))),
 o 30 (.mv (.t 29)),
 oT 31 30 (.faddr 19 (.t 3)),
 oT 32 30 (.load none (.t 31)),
 oT 33 30 (.len false (.t 32)),
 oT 34 30 (.bin .eql (.t 33) (i64 0)),
 o 35 (.pick (.t 30) (.t 34) (.c (.bool false))),
 o 8 (.mv (.t 35))]
def r91_3:List AOper:=[o 36 (.faddr 1 (.t 3)),
 o 37 (.load none (.t 36)),
 o 38 (.bin .geq (.t 37) (i64 0)),
 o 39 (.mv (.t 38)),
 oT 40 39 (.faddr 1 (.t 3)),
 oT 41 39 (.load none (.t 40)),
 oT 42 39 (.mv (.t 7)),
 oT 43 39 (.bin .lss (.t 41) (.t 42)),
 o 44 (.pick (.t 39) (.t 43) (.c (.bool false))),
 o 9 (.mv (.t 44))]
def r91_4:List AOper:=[o 45 (.faddr 2 (.t 3)),
 o 46 (.load none (.t 45)),
 o 47 (.bin .geq (.t 46) (i64 0)),
 o 48 (.mv (.t 47)),
 oT 49 48 (.faddr 2 (.t 3)),
 oT 50 48 (.load none (.t 49)),
 oT 51 48 (.faddr 0 (.t 4)),
 oT 52 48 (.load none (.t 51)),
 oT 53 48 (.len false (.t 52)),
 oT 54 48 (.bin .lss (.t 50) (.t 53)),
 o 55 (.pick (.t 48) (.t 54) (.c (.bool false))),
 o 10 (.mv (.t 55))]
def r91_5:List AOper:=[o 56 (.faddr 0 (.t 3)),
 o 57 (.load none (.t 56))]
def r91_6:List AOper:=[o 59 (.bin .eql (.t 57) (i64 1)),
 o 58 (.mv (.t 59))]
def r91_7:List AOper:=[o 60 (.mv (.t 8)),
 o 61 (.mv (.t 60)),
 oT 62 61 (.mv (.t 9)),
 o 63 (.pick (.t 61) (.t 62) (.c (.bool false))),
 o 64 (.mv (.t 63)),
 oT 65 64 (.faddr 2 (.t 3)),
 oT 66 64 (.load none (.t 65)),
 oT 67 64 (.bin .eql (.t 66) (i64 0)),
 o 68 (.pick (.t 64) (.t 67) (.c (.bool false))),
 o 69 (.mv (.t 68)),
 oT 70 69 (.faddr 3 (.t 3)),
 oT 71 69 (.load none (.t 70)),
 oT 72 69 (.bin .eql (.t 71) (i64 0)),
 o 73 (.pick (.t 69) (.t 72) (.c (.bool false))),
 o 74 (.mv (.t 73)),
 oT 75 74 (.faddr 4 (.t 3)),
 oT 76 74 (.load (some 4) (.t 75)),
 oT 77 74 (.mv (.t 7)),
 oT 78 74 (.call 123 [.t 76,.t 77] .borrow),
 o 79 (.pick (.t 74) (.t 78) (.c (.bool false))),
 o 80 (.mv (.t 79)),
 oT 81 80 (.faddr 8 (.t 3)),
 oT 82 80 (.load (some 9) (.t 81)),
 oT 83 80 (.call 124 [.t 82] .borrow),
 o 84 (.pick (.t 80) (.t 83) (.c (.bool false))),
 o 6 (.mv (.t 84))]
def r91_8:List AOper:=[o 86 (.bin .eql (.t 57) (i64 2)),
 o 85 (.mv (.t 86))]
def r91_9:List AOper:=[o 87 (.bin .eql (.t 57) (i64 3)),
 o 85 (.mv (.t 87))]
def r91_10:List AOper:=[o 88 (.faddr 19 (.t 3)),
 o 89 (.load none (.t 88)),
 o 90 (.len false (.t 89)),
 o 91 (.bin .eql (.t 90) (i64 0)),
 o 92 (.mv (.t 91)),
 oT 93 92 (.faddr 0 (.t 3)),
 oT 94 92 (.load none (.t 93)),
 oT 95 92 (.bin .eql (.t 94) (i64 2)),
 oT 96 92 (.mv (.t 95)),
 oF 97 96 (.faddr 18 (.t 3)),
 oF 98 96 (.load none (.t 97)),
 oF 99 96 (.len false (.t 98)),
 oF 100 96 (.bin .eql (.t 99) (i64 0)),
 oT 101 92 (.pick (.t 96) (.c (.bool true)) (.t 100)),
 o 102 (.pick (.t 92) (.t 101) (.c (.bool false))),
 o 103 (.mv (.t 102)),
 oT 104 103 (.faddr 1 (.t 3)),
 oT 105 103 (.load none (.t 104)),
 oT 106 103 (.bin .eql (.t 105) (i64 0)),
 o 107 (.pick (.t 103) (.t 106) (.c (.bool false))),
 o 108 (.mv (.t 107)),
 oT 109 108 (.faddr 2 (.t 3)),
 oT 110 108 (.load none (.t 109)),
 oT 111 108 (.bin .eql (.t 110) (i64 0)),
 o 112 (.pick (.t 108) (.t 111) (.c (.bool false))),
 o 113 (.mv (.t 112)),
 oT 114 113 (.faddr 3 (.t 3)),
 oT 115 113 (.load none (.t 114)),
 oT 116 113 (.bin .eql (.t 115) (i64 0)),
 o 117 (.pick (.t 113) (.t 116) (.c (.bool false))),
 o 118 (.mv (.t 117)),
 oT 119 118 (.faddr 4 (.t 3)),
 oT 120 118 (.load (some 4) (.t 119)),
 oT 121 118 (.call 125 [.t 120] .borrow),
 o 122 (.pick (.t 118) (.t 121) (.c (.bool false))),
 o 123 (.mv (.t 122)),
 oT 124 123 (.faddr 8 (.t 3)),
 oT 125 123 (.load (some 9) (.t 124)),
 oT 126 123 (.mv (.t 7)),
 oT 127 123 (.call 126 [.t 125,.t 126] .borrow),
 o 128 (.pick (.t 123) (.t 127) (.c (.bool false))),
 o 129 (.mv (.t 128)),
 oT 130 129 (.faddr 17 (.t 3)),
 oT 131 129 (.load none (.t 130)),
 oT 132 129 (.load (some 2) (.t 4)),
 oT 133 129 (.mv (.t 2)),
 oT 134 129 (.call 66 [.t 131,.t 132,.t 133] .borrow),
 o 135 (.pick (.t 129) (.t 134) (.c (.bool false))),
 o 136 (.mv (.t 135)),
 oT 137 136 (.faddr 18 (.t 3)),
 oT 138 136 (.load none (.t 137)),
 oT 139 136 (.load (some 2) (.t 4)),
 oT 140 136 (.mv (.t 2)),
 oT 141 136 (.call 66 [.t 138,.t 139,.t 140] .borrow),
 o 142 (.pick (.t 136) (.t 141) (.c (.bool false))),
 o 6 (.mv (.t 142))]
def r91_11:List AOper:=[o 144 (.bin .eql (.t 57) (i64 4)),
 o 143 (.mv (.t 144))]
def r91_12:List AOper:=[o 145 (.mv (.t 8)),
 o 146 (.mv (.t 145)),
 oT 147 146 (.mv (.t 10)),
 o 148 (.pick (.t 146) (.t 147) (.c (.bool false))),
 o 149 (.mv (.t 148)),
 oT 150 149 (.faddr 1 (.t 3)),
 oT 151 149 (.load none (.t 150)),
 oT 152 149 (.bin .eql (.t 151) (i64 0)),
 o 153 (.pick (.t 149) (.t 152) (.c (.bool false))),
 o 154 (.mv (.t 153)),
 oT 155 154 (.faddr 3 (.t 3)),
 oT 156 154 (.load none (.t 155)),
 oT 157 154 (.bin .geq (.t 156) (i64 0)),
 o 158 (.pick (.t 154) (.t 157) (.c (.bool false))),
 o 159 (.mv (.t 158)),
 oT 160 159 (.faddr 3 (.t 3)),
 oT 161 159 (.load none (.t 160)),
 oT 162 159 (.faddr 0 (.t 4)),
 oT 163 159 (.load none (.t 162)),
 oT 164 159 (.faddr 2 (.t 3)),
 oT 165 159 (.load none (.t 164)),
 oT 166 159 (.iaddr 6 (.t 163) (.t 165)),
 oT 167 159 (.faddr 4 (.t 166)),
 oT 168 159 (.load none (.t 167)),
 oT 169 159 (.bin .lss (.t 161) (.t 168)),
 o 170 (.pick (.t 159) (.t 169) (.c (.bool false))),
 o 171 (.mv (.t 170)),
 oT 172 171 (.faddr 0 (.t 4)),
 oT 173 171 (.load none (.t 172)),
 oT 174 171 (.faddr 2 (.t 3)),
 oT 175 171 (.load none (.t 174)),
 oT 176 171 (.iaddr 6 (.t 173) (.t 175)),
 oT 177 171 (.faddr 2 (.t 176)),
 oT 178 171 (.load none (.t 177)),
 oT 179 171 (.mv (.t 2)),
 oT 180 171 (.bin .eql (.t 178) (.t 179)),
 o 181 (.pick (.t 171) (.t 180) (.c (.bool false))),
 o 182 (.mv (.t 181)),
 oT 183 182 (.faddr 4 (.t 3)),
 oT 184 182 (.load (some 4) (.t 183)),
 oT 185 182 (.mv (.t 7)),
 oT 186 182 (.call 123 [.t 184,.t 185] .borrow),
 o 187 (.pick (.t 182) (.t 186) (.c (.bool false))),
 o 188 (.mv (.t 187)),
 oT 189 188 (.faddr 8 (.t 3)),
 oT 190 188 (.load (some 9) (.t 189)),
 oT 191 188 (.call 124 [.t 190] .borrow),
 o 192 (.pick (.t 188) (.t 191) (.c (.bool false))),
 o 6 (.mv (.t 192))]
def b91_12:List (List Nat):=[[],[0],[0,1],[0,1,2],[0,1,2,3],[0,1,2,3,4],[0,1,2,3,4,5],[0,1,2,3,4,5,6],[0,1,2,3,4,5,6,7],[0,1,2,3,4,5,6,7,8],[0,1,2,3,4,5,6,7,8,9],[0,1,2,3,4,5,6,7,8,9,10],[0,1,2,3,4,5,6,7,8,9,10,11],[0,1,2,3,4,5,6,7,8,9,10,11,12],[0,1,2,3,4,5,6,7,8,9,10,11,12,13],[0,1,2,3,4,5,6,7,8,9,10,11,12,13,14],[0,1,2,3,4,5,6,7,8,9,10,11,12,13,14,15],[0,1,2,3,4,5,6,7,8,9,10,11,12,13,14],[0,1,2,3,4,5,6,7,8,9,10,11,12,13,14,17],[0,1,2,3,4,5,6,7,8,9,10,11,12,13,14],[0,1,2,3,4,5,6,7,8,9,10,11,12,13,14,19],[0,1,2,3,4,5,6,7,8,9,10,11,12,13,14,17,18,19,20],[0,1,2,3,4,5,6,7,8,9,10,11,12,13,14,17,18,19,20,21],[0,1,2,3,4,5,6,7,8,9,10,11,12,13,14,17,18,19,20,21,22],[0,1,2,3,4,5,6,7,8,9,10,11,12,13,14,15,16,17,18,19,20,21,22,23],[0,1,2,3,4,5,6,7,8,9,10,11,12,13,14,15,16,17,18,19,20,21,22,23,24],[0,1,2,3,4,5,6,7,8,9,10,11,12,13,14,15,16,17,18,19,20,21,22,23,24,25],[0,1,2,3,4,5,6,7,8,9,10,11,12,13,14,15,16,17,18,19,20,21,22,23,24,25,26],[0,1,2,3,4,5,6,7,8,9,10,11,12,13,14,15,16,17,18,19,20,21,22,23,24,25,26,27],[0,1,2,3,4,5,6,7,8,9,10,11,12,13,14,15,16,17,18,19,20,21,22,23,24,25,26],[0,1,2,3,4,5,6,7,8,9,10,11,12,13,14,15,16,17,18,19,20,21,22,23,24,25,26,29],[0,1,2,3,4,5,6,7,8,9,10,11,12,13,14,15,16,17,18,19,20,21,22,23,24,25,26,27,28,29,30],[0,1,2,3,4,5,6,7,8,9,10,11,12,13,14,15,16,17,18,19,20,21,22,23,24,25,26,27,28,29,30,31],[0,1,2,3,4,5,6,7,8,9,10,11,12,13,14,15,16,17,18,19,20,21,22,23,24,25,26,27,28,29,30,31,32],[0,1,2,3,4,5,6,7,8,9,10,11,12,13,14,15,16,17,18,19,20,21,22,23,24,25,26],[0,1,2,3,4,5,6,7,8,9,10,11,12,13,14,15,16,17,18,19,20,21,22,23,24,25,26,27,28,29,30,31,32,33,34],[0,1,2,3,4,5,6,7,8,9,10,11,12,13,14,15,16,17,18,19,20,21,22,23,24,25,26,27,28,29,30,31,32,33,34,35],[0,1,2,3,4,5,6,7,8,9,10,11,12,13,14,15,16,17,18,19,20,21,22,23,24,25,26,27,28,29,30,31,32,33,34,35,36],[0,1,2,3,4,5,6,7,8,9,10,11,12,13,14,15,16,17,18,19,20,21,22,23,24,25,26,27,28,29,30,31,32,33,34,35,36,37],[0,1,2,3,4,5,6,7,8,9,10,11,12,13,14,15,16,17,18,19,20,21,22,23,24,25,26,27,28,29,30,31,32,33,34,35,36,37,38],[0,1,2,3,4,5,6,7,8,9,10,11,12,13,14,15,16,17,18,19,20,21,22,23,24,25,26,27,28,29,30,31,32,33,34,35,36,37],[0,1,2,3,4,5,6,7,8,9,10,11,12,13,14,15,16,17,18,19,20,21,22,23,24,25,26,27,28,29,30,31,32,33,34,35,36,37,38,39,40],[0,1,2,3,4,5,6,7,8,9,10,11,12,13,14,15,16,17,18,19,20,21,22,23,24,25,26,27,28,29,30,31,32,33,34,35,36,37,38,39,40,41],[0,1,2,3,4,5,6,7,8,9,10,11,12,13,14,15,16,17,18,19,20,21,22,23,24,25,26,27,28,29,30,31,32,33,34,35,36,37,38,39,40,41,42],[0,1,2,3,4,5,6,7,8,9,10,11,12,13,14,15,16,17,18,19,20,21,22,23,24,25,26,27,28,29,30,31,32,33,34,35,36,37,38,39,40,41,42,43],[0,1,2,3,4,5,6,7,8,9,10,11,12,13,14,15,16,17,18,19,20,21,22,23,24,25,26,27,28,29,30,31,32,33,34,35,36,37,38,39,40,41,42,43,44],[0,1,2,3,4,5,6,7,8,9,10,11,12,13,14,15,16,17,18,19,20,21,22,23,24,25,26,27,28,29,30,31,32,33,34,35,36,37,38,39,40,41,42,43,44,45],[0,1,2,3,4,5,6,7,8,9,10,11,12,13,14,15,16,17,18,19,20,21,22,23,24,25,26,27,28,29,30,31,32,33,34,35,36,37,38,39,40,41,42,43,44,45,46],[0,1,2,3,4,5,6,7,8,9,10,11,12,13,14,15,16,17,18,19,20,21,22,23,24,25,26,27,28,29,30,31,32,33,34,35,36,37,38,39,40,41,42,43,44,45,46,47]]
def r91_13:List AOper:=[o 194 (.bin .eql (.t 57) (i64 5)),
 o 193 (.mv (.t 194))]
def r91_14:List AOper:=[o 195 (.mv (.t 10)),
 o 196 (.un .not (.t 195)),
 o 197 (.mv (.t 196)),
 oF 198 197 (.faddr 17 (.t 3)),
 oF 199 197 (.load none (.t 198)),
 oF 200 197 (.len false (.t 199)),
 oF 201 197 (.bin .gtr (.t 200) (i64 0)),
 o 202 (.pick (.t 197) (.c (.bool true)) (.t 201)),
 o 203 (.mv (.t 202)),
 oF 204 203 (.faddr 18 (.t 3)),
 oF 205 203 (.load none (.t 204)),
 oF 206 203 (.len false (.t 205)),
 oF 207 203 (.bin .gtr (.t 206) (i64 0)),
 o 208 (.pick (.t 203) (.c (.bool true)) (.t 207)),
 o 209 (.mv (.t 208)),
 oF 210 209 (.faddr 19 (.t 3)),
 oF 211 209 (.load none (.t 210)),
 oF 212 209 (.len false (.t 211)),
 oF 213 209 (.bin .eql (.t 212) (i64 0)),
 o 214 (.pick (.t 209) (.c (.bool true)) (.t 213)),
 o 215 (.mv (.t 214)),
 oF 216 215 (.faddr 1 (.t 3)),
 oF 217 215 (.load none (.t 216)),
 oF 218 215 (.bin .neq (.t 217) (i64 0)),
 o 219 (.pick (.t 215) (.c (.bool true)) (.t 218)),
 o 220 (.mv (.t 219)),
 oF 221 220 (.faddr 3 (.t 3)),
 oF 222 220 (.load none (.t 221)),
 oF 223 220 (.bin .neq (.t 222) (i64 0)),
 o 224 (.pick (.t 220) (.c (.bool true)) (.t 223)),
 o 225 (.mv (.t 224)),
 oF 226 225 (.faddr 0 (.t 4)),
 oF 227 225 (.load none (.t 226)),
 oF 228 225 (.faddr 2 (.t 3)),
 oF 229 225 (.load none (.t 228)),
 oF 230 225 (.iaddr 6 (.t 227) (.t 229)),
 oF 231 225 (.faddr 3 (.t 230)),
 oF 232 225 (.load none (.t 231)),
 oF 233 225 (.mv (.t 2)),
 oF 234 225 (.bin .neq (.t 232) (.t 233)),
 o 235 (.pick (.t 225) (.c (.bool true)) (.t 234)),
 o 236 (.mv (.t 235)),
 oF 237 236 (.faddr 4 (.t 3)),
 oF 238 236 (.load (some 4) (.t 237)),
 oF 239 236 (.call 125 [.t 238] .borrow),
 oF 240 236 (.un .not (.t 239)),
 o 241 (.pick (.t 236) (.c (.bool true)) (.t 240)),
 o 242 (.mv (.t 241)),
 oF 243 242 (.faddr 8 (.t 3)),
 oF 244 242 (.load (some 9) (.t 243)),
 oF 245 242 (.call 124 [.t 244] .borrow),
 oF 246 242 (.un .not (.t 245)),
 o 247 (.pick (.t 242) (.c (.bool true)) (.t 246))]
def r91_15:List AOper:=[o 6 (.mv (.c (.bool false)))]
def r91_16:List AOper:=[o 11 (.alloc [.bool false,.bool false,.bool false,.bool false])]
def r91_17:List AOper:=[o 12 (.mv (i64 0))]
def r91_18:List AOper:=[o 248 (.mv (.t 12)),
 o 249 (.faddr 19 (.t 3)),
 o 250 (.load none (.t 249)),
 o 251 (.len false (.t 250)),
 o 252 (.bin .lss (.t 248) (.t 251))]
def r91_20:List AOper:=[o 255 (.faddr 19 (.t 3)),
 o 256 (.load none (.t 255)),
 o 257 (.mv (.t 12)),
 o 258 (.iaddr 3 (.t 256) (.t 257)),
 o 259 (.load (some 3) (.t 258)),
 o 13 (.alloc [zi,zi,.nils]),
 oN (.store 3 (.t 13) (.t 259))]
def r91_21:List AOper:=[o 260 (.faddr 0 (.t 13)),
 o 261 (.load none (.t 260)),
 o 262 (.bin .lss (.t 261) (i64 0)),
 o 263 (.mv (.t 262)),
 oF 264 263 (.faddr 0 (.t 13)),
 oF 265 263 (.load none (.t 264)),
 oF 266 263 (.faddr 0 (.t 4)),
 oF 267 263 (.load none (.t 266)),
 oF 268 263 (.faddr 2 (.t 3)),
 oF 269 263 (.load none (.t 268)),
 oF 270 263 (.iaddr 6 (.t 267) (.t 269)),
 oF 271 263 (.faddr 4 (.t 270)),
 oF 272 263 (.load none (.t 271)),
 oF 273 263 (.bin .geq (.t 265) (.t 272)),
 o 274 (.pick (.t 263) (.c (.bool true)) (.t 273)),
 o 275 (.mv (.t 274)),
 oF 276 275 (.faddr 0 (.t 13)),
 oF 277 275 (.load none (.t 276)),
 oF 278 275 (.iarr 4 1 (.t 11) (.t 277)),
 oF 279 275 (.load none (.t 278)),
 o 280 (.pick (.t 275) (.c (.bool true)) (.t 279)),
 o 281 (.mv (.t 280)),
 oF 282 281 (.faddr 1 (.t 13)),
 oF 283 281 (.load none (.t 282)),
 oF 284 281 (.bin .lss (.t 283) (i64 0)),
 o 285 (.pick (.t 281) (.c (.bool true)) (.t 284)),
 o 286 (.mv (.t 285)),
 oF 287 286 (.faddr 1 (.t 13)),
 oF 288 286 (.load none (.t 287)),
 oF 289 286 (.mv (.t 7)),
 oF 290 286 (.bin .geq (.t 288) (.t 289)),
 o 291 (.pick (.t 286) (.c (.bool true)) (.t 290)),
 o 292 (.mv (.t 291)),
 oF 293 292 (.faddr 2 (.t 13)),
 oF 294 292 (.load none (.t 293)),
 oF 295 292 (.load (some 2) (.t 4)),
 oF 296 292 (.mv (.t 2)),
 oF 297 292 (.call 66 [.t 294,.t 295,.t 296] .borrow),
 oF 298 292 (.un .not (.t 297)),
 o 299 (.pick (.t 292) (.c (.bool true)) (.t 298))]
def b91_21:List (List Nat):=[[],[0],[0,1],[0,1,2],[0,1,2,3],[0,1,2,3,4],[0,1,2,3],[0,1,2,3,6],[0,1,2,3],[0,1,2,3,8],[0,1,2,3,6,7,8,9],[0,1,2,3,6,7,8,9,10],[0,1,2,3,6,7,8,9,10,11],[0,1,2,3,4,5,6,7,8,9,10,11,12],[0,1,2,3,4,5,6,7,8,9,10,11,12,13],[0,1,2,3,4,5,6,7,8,9,10,11,12,13,14],[0,1,2,3,4,5,6,7,8,9,10,11,12,13,14,15],[0,1,2,3,4,5,6,7,8,9,10,11,12,13,14,15,16],[0,1,2,3,4,5,6,7,8,9,10,11,12,13,14,15,16,17],[0,1,2,3,4,5,6,7,8,9,10,11,12,13,14,15,16,17,18],[0,1,2,3,4,5,6,7,8,9,10,11,12,13,14,15,16,17,18,19],[0,1,2,3,4,5,6,7,8,9,10,11,12,13,14,15,16,17,18,19,20],[0,1,2,3,4,5,6,7,8,9,10,11,12,13,14,15,16,17,18,19,20,21],[0,1,2,3,4,5,6,7,8,9,10,11,12,13,14,15,16,17,18,19,20,21,22],[0,1,2,3,4,5,6,7,8,9,10,11,12,13,14,15,16,17,18,19,20,21,22,23],[0,1,2,3,4,5,6,7,8,9,10,11,12,13,14,15,16,17,18,19,20,21,22,23,24],[0,1,2,3,4,5,6,7,8,9,10,11,12,13,14,15,16,17,18,19,20,21,22,23,24,25],[0,1,2,3,4,5,6,7,8,9,10,11,12,13,14,15,16,17,18,19,20,21,22,23,24,25,26],[0,1,2,3,4,5,6,7,8,9,10,11,12,13,14,15,16,17,18,19,20,21,22,23,24,25,26,27],[0,1,2,3,4,5,6,7,8,9,10,11,12,13,14,15,16,17,18,19,20,21,22,23,24,25,26],[0,1,2,3,4,5,6,7,8,9,10,11,12,13,14,15,16,17,18,19,20,21,22,23,24,25,26,27,28,29],[0,1,2,3,4,5,6,7,8,9,10,11,12,13,14,15,16,17,18,19,20,21,22,23,24,25,26,27,28,29,30],[0,1,2,3,4,5,6,7,8,9,10,11,12,13,14,15,16,17,18,19,20,21,22,23,24,25,26,27,28,29,30,31],[0,1,2,3,4,5,6,7,8,9,10,11,12,13,14,15,16,17,18,19,20,21,22,23,24,25,26,27,28,29,30,31,32],[0,1,2,3,4,5,6,7,8,9,10,11,12,13,14,15,16,17,18,19,20,21,22,23,24,25,26,27,28,29,30,31,32,33],[0,1,2,3,4,5,6,7,8,9,10,11,12,13,14,15,16,17,18,19,20,21,22,23,24,25,26,27,28,29,30,31,32],[0,1,2,3,4,5,6,7,8,9,10,11,12,13,14,15,16,17,18,19,20,21,22,23,24,25,26,27,28,29,30,31,32],[0,1,2,3,4,5,6,7,8,9,10,11,12,13,14,15,16,17,18,19,20,21,22,23,24,25,26,27,28,29,30,31,32,33,34,35,36],[0,1,2,3,4,5,6,7,8,9,10,11,12,13,14,15,16,17,18,19,20,21,22,23,24,25,26,27,28,29,30,31,32,33,34,35,36,37],[0,1,2,3,4,5,6,7,8,9,10,11,12,13,14,15,16,17,18,19,20,21,22,23,24,25,26,27,28,29,30,31,32,33,34,35,36,37,38]]
def r91_22:List AOper:=[o 6 (.mv (.c (.bool false)))]
def r91_23:List AOper:=[o 300 (.faddr 0 (.t 13)),
 o 301 (.load none (.t 300)),
 o 302 (.iarr 4 1 (.t 11) (.t 301)),
 oN (.store 1 (.t 302) (.c (.bool true)))]
def r91_19:List AOper:=[o 253 (.mv (.t 12)),
 o 254 (.bin .add (.t 253) (i64 1)),
 o 12 (.mv (.t 254))]
def l91_0:ACode:=.seq (.seq (.reg r91_18) (.cond (.t 252) (.skip) (.exit 1))) (.seq (.block 2 (.seq (.reg r91_20) (.seq (.seq (.dreg r91_21 b91_21 []) (.cond (.t 299) (.seq (.reg r91_22) (.ret)) (.skip))) (.reg r91_23)))) (.reg r91_19))
def r91_24:List AOper:=[o 6 (.mv (.c (.bool true)))]
def r91_25:List AOper:=[o 304 (.bin .eql (.t 57) (i64 6)),
 o 303 (.mv (.t 304))]
def r91_26:List AOper:=[o 305 (.mv (.t 8)),
 o 306 (.mv (.t 305)),
 oT 307 306 (.faddr 1 (.t 3)),
 oT 308 306 (.load none (.t 307)),
 oT 309 306 (.bin .eql (.t 308) (i64 0)),
 o 310 (.pick (.t 306) (.t 309) (.c (.bool false))),
 o 311 (.mv (.t 310)),
 oT 312 311 (.faddr 2 (.t 3)),
 oT 313 311 (.load none (.t 312)),
 oT 314 311 (.bin .eql (.t 313) (i64 0)),
 o 315 (.pick (.t 311) (.t 314) (.c (.bool false))),
 o 316 (.mv (.t 315)),
 oT 317 316 (.faddr 3 (.t 3)),
 oT 318 316 (.load none (.t 317)),
 oT 319 316 (.bin .eql (.t 318) (i64 0)),
 o 320 (.pick (.t 316) (.t 319) (.c (.bool false))),
 o 321 (.mv (.t 320)),
 oT 322 321 (.faddr 4 (.t 3)),
 oT 323 321 (.load (some 4) (.t 322)),
 oT 324 321 (.call 125 [.t 323] .borrow),
 o 325 (.pick (.t 321) (.t 324) (.c (.bool false))),
 o 326 (.mv (.t 325)),
 oT 327 326 (.faddr 8 (.t 3)),
 oT 328 326 (.load (some 9) (.t 327)),
 oT 329 326 (.mv (.t 7)),
 oT 330 326 (.call 126 [.t 328,.t 329] .borrow),
 o 331 (.pick (.t 326) (.t 330) (.c (.bool false))),
 o 6 (.mv (.t 331))]
def r91_27:List AOper:=[o 333 (.bin .eql (.t 57) (i64 7)),
 o 332 (.mv (.t 333))]
def r91_28:List AOper:=[o 334 (.mv (.t 8)),
 o 335 (.mv (.t 334)),
 oT 336 335 (.mv (.t 9)),
 o 337 (.pick (.t 335) (.t 336) (.c (.bool false))),
 o 338 (.mv (.t 337)),
 oT 339 338 (.faddr 2 (.t 3)),
 oT 340 338 (.load none (.t 339)),
 oT 341 338 (.bin .eql (.t 340) (i64 0)),
 o 342 (.pick (.t 338) (.t 341) (.c (.bool false))),
 o 343 (.mv (.t 342)),
 oT 344 343 (.faddr 3 (.t 3)),
 oT 345 343 (.load none (.t 344)),
 oT 346 343 (.bin .eql (.t 345) (i64 0)),
 o 347 (.pick (.t 343) (.t 346) (.c (.bool false))),
 o 348 (.mv (.t 347)),
 oT 349 348 (.faddr 4 (.t 3)),
 oT 350 348 (.load (some 4) (.t 349)),
 oT 351 348 (.call 125 [.t 350] .borrow),
 o 352 (.pick (.t 348) (.t 351) (.c (.bool false))),
 o 353 (.mv (.t 352)),
 oT 354 353 (.faddr 8 (.t 3)),
 oT 355 353 (.load (some 9) (.t 354)),
 oT 356 353 (.call 124 [.t 355] .borrow),
 o 357 (.pick (.t 353) (.t 356) (.c (.bool false))),
 o 6 (.mv (.t 357))]
def r91_29:List AOper:=[o 6 (.mv (.c (.bool false)))]
def c91:ACode:=.seq (.reg r91_0) (.seq (.reg r91_1) (.seq (.reg r91_2) (.seq (.reg r91_3) (.seq (.reg r91_4) (.seq (.seq (.reg r91_5) (.block 0 (.seq (.reg r91_6) (.cond (.t 58) (.seq (.reg r91_7) (.ret)) (.seq (.seq (.reg r91_8) (.cond (.t 85) (.skip) (.reg r91_9))) (.cond (.t 85) (.seq (.reg r91_10) (.ret)) (.seq (.reg r91_11) (.cond (.t 143) (.seq (.dreg r91_12 b91_12 []) (.ret)) (.seq (.reg r91_13) (.cond (.t 193) (.seq (.seq (.reg r91_14) (.cond (.t 247) (.seq (.reg r91_15) (.ret)) (.skip))) (.seq (.reg r91_16) (.seq (.seq (.reg r91_17) (.block 1 (.loop l91_0))) (.seq (.reg r91_24) (.ret))))) (.seq (.reg r91_25) (.cond (.t 303) (.seq (.reg r91_26) (.ret)) (.seq (.reg r91_27) (.cond (.t 332) (.seq (.reg r91_28) (.ret)) (.skip))))))))))))))) (.seq (.reg r91_29) (.ret)))))))
def a91:AFunc:=⟨3,358,[.tmp 6],c91⟩
def r99_0:List AOper:=[o 1 (.box (.t 0)),
 o 2 (.mv (.c (.bool false)))]
def r99_1:List AOper:=[o 5 (.faddr 2 (.t 1)),
 o 6 (.load none (.t 5)),
 o 7 (.len false (.t 6)),
 o 8 (.mv (i64 0))]
def r99_2:List AOper:=[o 9 (.bin .lss (.t 8) (.t 7))]
def r99_3:List AOper:=[o 10 (.mv (.t 8)),
 o 11 (.iaddr 1 (.t 6) (.t 8)),
 o 12 (.load none (.t 11)),
 o 3 (.mv (.t 10)),
 o 4 (.mv (.t 12))]
def r99_4:List AOper:=[o 13 (.mv (.t 4)),
 o 14 (.bin .lss (.t 13) (i64 0)),
 o 15 (.mv (.t 14)),
 oF 16 15 (.mv (.t 4)),
 oF 17 15 (.faddr 0 (.t 1)),
 oF 18 15 (.load none (.t 17)),
 oF 19 15 (.bin .geq (.t 16) (.t 18)),
 o 20 (.pick (.t 15) (.c (.bool true)) (.t 19)),
 o 21 (.mv (.t 20)),
 oF 22 21 (.mv (.t 3)),
 oF 23 21 (.bin .gtr (.t 22) (i64 0)),
 oF 24 21 (.mv (.t 23)),
 oT 25 24 (.faddr 2 (.t 1)),
 oT 26 24 (.load none (.t 25)),
 oT 27 24 (.mv (.t 3)),
 oT 28 24 (.bin .sub (.t 27) (i64 1)),
 oT 29 24 (.iaddr 1 (.t 26) (.t 28)),
 oT 30 24 (.load none (.t 29)),
 oT 31 24 (.mv (.t 4)),
 oT 32 24 (.bin .geq (.t 30) (.t 31)),
 oF 33 21 (.pick (.t 24) (.t 32) (.c (.bool false))),
 o 34 (.pick (.t 21) (.c (.bool true)) (.t 33))]
def r99_5:List AOper:=[o 2 (.mv (.c (.bool false)))]
def r99_6:List AOper:=[o 35 (.bin .add (.t 8) (i64 1)),
 o 8 (.mv (.t 35))]
def l99_0:ACode:=.seq (.reg r99_2) (.seq (.cond (.t 9) (.skip) (.exit 0)) (.seq (.block 1 (.seq (.reg r99_3) (.seq (.reg r99_4) (.cond (.t 34) (.seq (.reg r99_5) (.ret)) (.skip))))) (.reg r99_6)))
def r99_7:List AOper:=[o 2 (.mv (.c (.bool true)))]
def c99:ACode:=.seq (.reg r99_0) (.seq (.seq (.reg r99_1) (.block 0 (.loop l99_0))) (.seq (.reg r99_7) (.ret)))
def a99:AFunc:=⟨1,36,[.tmp 2],c99⟩
def r100_0:List AOper:=[o 4 (.box (.t 0)),
 o 6 (.box (.t 2)),
 o 7 (.box (.t 3)),
 o 8 (.mv (.c (.bool false)))]
def r100_1:List AOper:=[o 12 (.faddr 0 (.t 7)),
 o 13 (.load none (.t 12)),
 o 14 (.bin .lss (.t 13) (i64 0)),
 o 15 (.mv (.t 14)),
 oF 16 15 (.faddr 0 (.t 7)),
 oF 17 15 (.load none (.t 16)),
 oF 18 15 (.faddr 0 (.t 6)),
 oF 19 15 (.load none (.t 18)),
 oF 20 15 (.bin .geq (.t 17) (.t 19)),
 o 21 (.pick (.t 15) (.c (.bool true)) (.t 20)),
 o 22 (.mv (.t 21)),
 oF 23 22 (.faddr 1 (.t 7)),
 oF 24 22 (.load none (.t 23)),
 oF 25 22 (.bin .lss (.t 24) (i64 0)),
 o 26 (.pick (.t 22) (.c (.bool true)) (.t 25)),
 o 27 (.mv (.t 26)),
 oF 28 27 (.faddr 1 (.t 7)),
 oF 29 27 (.load none (.t 28)),
 oF 30 27 (.faddr 0 (.t 6)),
 oF 31 27 (.load none (.t 30)),
 oF 32 27 (.bin .geq (.t 29) (.t 31)),
 o 33 (.pick (.t 27) (.c (.bool true)) (.t 32))]
def r100_2:List AOper:=[o 8 (.mv (.c (.bool false)))]
def r100_3:List AOper:=[o 35 (.load (some 19) (.t 7)),
 o 36 (.call 136 [.t 35] .borrow),
 o 34 (.mv (.t 36)),
 o 37 (.ext 0 (.t 34)),
 o 38 (.ext 1 (.t 34)),
 o 9 (.mv (.t 37)),
 o 10 (.mv (.t 38))]
def r100_4:List AOper:=[o 39 (.mv (.t 10)),
 o 40 (.un .not (.t 39))]
def r100_5:List AOper:=[o 8 (.mv (.c (.bool false)))]
def r100_6:List AOper:=[o 41 (.faddr 1 (.t 4)),
 o 42 (.load none (.t 41)),
 o 43 (.call 137 [.t 42] .share),
 o 11 (.mv (.t 43))]
def r100_7:List AOper:=[o 44 (.mv (.t 11)),
 o 45 (.mv (.t 1)),
 o 46 (.mv (.t 9)),
 o 47 (.iaddr 2 (.t 44) (.t 45)),
 o 48 (.faddr 1 (.t 47)),
 oN (.store 1 (.t 48) (.t 46))]
def r100_8:List AOper:=[o 49 (.faddr 2 (.t 7)),
 o 50 (.load none (.t 49)),
 o 51 (.bin .eql (.t 50) (i64 0))]
def r100_9:List AOper:=[o 52 (.mv (.t 11)),
 o 53 (.mv (.t 1)),
 o 54 (.mv (.t 11)),
 o 55 (.mv (.t 1)),
 o 56 (.iaddr 2 (.t 54) (.t 55)),
 o 57 (.faddr 0 (.t 56)),
 o 58 (.load none (.t 57)),
 o 59 (.mnx true [.t 58,(i64 1)]),
 o 60 (.iaddr 2 (.t 52) (.t 53)),
 o 61 (.faddr 0 (.t 60)),
 oN (.store 1 (.t 61) (.t 59))]
def r100_10:List AOper:=[o 62 (.faddr 0 (.t 4)),
 o 63 (.load none (.t 62)),
 o 64 (.mv (.t 11)),
 o 65 (.build [.nils,.nils] [(0,1,(.t 63)),(1,1,(.t 64))]),
 o 66 (.call 60 [.t 65] .borrow),
 o 8 (.mv (.t 66))]
def c100:ACode:=.seq (.reg r100_0) (.seq (.seq (.reg r100_1) (.cond (.t 33) (.seq (.reg r100_2) (.ret)) (.skip))) (.seq (.reg r100_3) (.seq (.seq (.reg r100_4) (.cond (.t 40) (.seq (.reg r100_5) (.ret)) (.skip))) (.seq (.reg r100_6) (.seq (.reg r100_7) (.seq (.seq (.reg r100_8) (.cond (.t 51) (.reg r100_9) (.skip))) (.seq (.reg r100_10) (.ret))))))))
def a100:AFunc:=⟨4,67,[.tmp 8],c100⟩
def r101_0:List AOper:=[o 2 (.box (.t 0)),
 o 4 (.mv (.c (.bool false)))]
def r101_1:List AOper:=[o 5 (.mv (.c (.nils)))]
def r101_2:List AOper:=[o 8 (.load (some 3) (.t 2)),
 o 9 (.mv (.t 1)),
 o 10 (.call 50 [.t 8,.t 9] .borrow),
 o 11 (.len false (.t 10)),
 o 12 (.mv (i64 0))]
def r101_3:List AOper:=[o 13 (.bin .lss (.t 12) (.t 11))]
def r101_4:List AOper:=[o 14 (.iaddr 1 (.t 10) (.t 12)),
 o 15 (.load none (.t 14)),
 o 7 (.mv (.t 15))]
def r101_5:List AOper:=[o 16 (.mv (.t 5)),
 o 17 (.faddr 1 (.t 2)),
 o 18 (.load none (.t 17)),
 o 19 (.mv (.t 7)),
 o 20 (.iaddr 19 (.t 18) (.t 19)),
 o 21 (.load (some 19) (.t 20)),
 ⟨some 22,.islice 1 [zi,zi,zi,zi,zi,zi,zi,zi,zi,.nils,zi,zi,zi,zi,.nils,zi,zi,zi,.nils] [(0,19,(.t 21))],none,true⟩,
 o 23 (.app 19 200 (.t 16) (.t 22)),
 o 5 (.mv (.t 23))]
def r101_6:List AOper:=[o 24 (.bin .add (.t 12) (i64 1)),
 o 12 (.mv (.t 24))]
def l101_0:ACode:=.seq (.reg r101_3) (.seq (.cond (.t 13) (.skip) (.exit 0)) (.seq (.block 1 (.seq (.reg r101_4) (.reg r101_5))) (.reg r101_6)))
def r101_7:List AOper:=[o 26 (.mv (.t 5)),
 o 27 (.len false (.t 26)),
 o 28 (.bin .eql (.t 27) (i64 0)),
 o 25 (.mv (.t 28))]
def r101_8:List AOper:=[o 29 (.mv (.t 1)),
 o 30 (.bin .eql (.t 29) (i64 1)),
 o 4 (.mv (.t 30))]
def r101_9:List AOper:=[o 32 (.mv (.t 1)),
 o 33 (.bin .eql (.t 32) (i64 1)),
 o 31 (.mv (.t 33))]
def r101_10:List AOper:=[o 4 (.mv (.c (.bool false)))]
def r101_11:List AOper:=[o 35 (.mv (.t 5)),
 o 36 (.iaddr 19 (.t 35) (i64 0)),
 o 37 (.faddr 2 (.t 36)),
 o 38 (.load none (.t 37)),
 o 39 (.bin .eql (.t 38) (i64 4)),
 o 34 (.mv (.t 39))]
def r101_12:List AOper:=[o 40 (.mv (.t 5)),
 o 41 (.call 138 [.t 40] .borrow),
 o 4 (.mv (.t 41))]
def r101_13:List AOper:=[o 43 (.mv (.t 5)),
 o 44 (.iaddr 19 (.t 43) (i64 0)),
 o 45 (.faddr 2 (.t 44)),
 o 46 (.load none (.t 45)),
 o 47 (.bin .eql (.t 46) (i64 2)),
 o 42 (.mv (.t 47))]
def r101_14:List AOper:=[o 48 (.mv (.t 5)),
 o 49 (.len false (.t 48)),
 o 50 (.bin .eql (.t 49) (i64 2)),
 o 51 (.mv (.t 50)),
 oT 52 51 (.mv (.t 5)),
 oT 53 51 (.iaddr 19 (.t 52) (i64 0)),
 oT 54 51 (.load (some 19) (.t 53)),
 oT 55 51 (.mv (.t 5)),
 oT 56 51 (.iaddr 19 (.t 55) (i64 1)),
 oT 57 51 (.load (some 19) (.t 56)),
 oT 58 51 (.call 139 [.t 54,.t 57] .borrow),
 o 59 (.pick (.t 51) (.t 58) (.c (.bool false))),
 o 4 (.mv (.t 59))]
def b101_14:List (List Nat):=[[],[0],[0,1],[0,1,2],[0,1,2,3],[0,1,2,3,4],[0,1,2,3,4,5],[0,1,2,3],[0,1,2,3,7],[0,1,2,3,7,8],[0,1,2,3,4,5,6,7,8,9],[0,1,2,3,4,5,6,7,8,9,10],[0,1,2,3,4,5,6,7,8,9,10,11]]
def r101_15:List AOper:=[o 60 (.mv (.t 5)),
 o 61 (.len false (.t 60)),
 o 62 (.bin .eql (.t 61) (i64 1)),
 o 4 (.mv (.t 62))]
def c101:ACode:=.seq (.reg r101_0) (.seq (.reg r101_1) (.seq (.seq (.reg r101_2) (.block 0 (.loop l101_0))) (.seq (.block 2 (.seq (.reg r101_7) (.cond (.t 25) (.seq (.reg r101_8) (.ret)) (.seq (.reg r101_9) (.cond (.t 31) (.seq (.reg r101_10) (.ret)) (.seq (.reg r101_11) (.cond (.t 34) (.seq (.reg r101_12) (.ret)) (.seq (.reg r101_13) (.cond (.t 42) (.seq (.dreg r101_14 b101_14 []) (.ret)) (.skip)))))))))) (.seq (.reg r101_15) (.ret)))))
def a101:AFunc:=⟨2,63,[.tmp 4],c101⟩
def r102_0:List AOper:=[o 1 (.box (.t 0)),
 o 2 (.mv (.c (.bool false)))]
def r102_1:List AOper:=[o 14 (.faddr 0 (.t 1)),
 o 15 (.load none (.t 14)),
 o 16 (.mksl 1 8 [zi] (.t 15)),
 o 3 (.mv (.t 16))]
def r102_2:List AOper:=[o 17 (.faddr 1 (.t 1)),
 o 18 (.load none (.t 17)),
 o 19 (.len false (.t 18)),
 o 20 (.mv (i64 0))]
def r102_3:List AOper:=[o 21 (.bin .lss (.t 20) (.t 19))]
def r102_4:List AOper:=[o 22 (.iaddr 19 (.t 18) (.t 20)),
 o 23 (.load (some 19) (.t 22)),
 o 5 (.alloc [zi,zi,zi,zi,zi,zi,zi,zi,zi,.nils,zi,zi,zi,zi,.nils,zi,zi,zi,.nils]),
 oN (.store 19 (.t 5) (.t 23))]
def r102_5:List AOper:=[o 24 (.faddr 2 (.t 1)),
 o 25 (.load none (.t 24)),
 o 26 (.faddr 0 (.t 5)),
 o 27 (.load none (.t 26)),
 o 28 (.call 140 [.t 25,.t 27] .borrow),
 o 29 (.un .not (.t 28))]
def r102_6:List AOper:=[o 30 (.mv (.t 3)),
 o 31 (.faddr 1 (.t 5)),
 o 32 (.load none (.t 31)),
 o 33 (.iaddr 1 (.t 30) (.t 32)),
 o 34 (.load none (.t 33)),
 o 35 (.bin .add (.t 34) (i64 1)),
 o 36 (.iaddr 1 (.t 30) (.t 32)),
 oN (.store 1 (.t 36) (.t 35))]
def r102_7:List AOper:=[o 37 (.bin .add (.t 20) (i64 1)),
 o 20 (.mv (.t 37))]
def l102_0:ACode:=.seq (.reg r102_3) (.seq (.cond (.t 21) (.skip) (.exit 0)) (.seq (.block 1 (.seq (.reg r102_4) (.seq (.reg r102_5) (.cond (.t 29) (.reg r102_6) (.skip))))) (.reg r102_7)))
def r102_8:List AOper:=[o 6 (.mv (.c (.nils)))]
def r102_9:List AOper:=[o 7 (.mv (i64 0))]
def r102_10:List AOper:=[o 38 (.mv (.t 3)),
 o 39 (.len false (.t 38)),
 o 40 (.mv (i64 0))]
def r102_11:List AOper:=[o 41 (.bin .lss (.t 40) (.t 39))]
def r102_12:List AOper:=[o 42 (.mv (.t 40)),
 o 43 (.iaddr 1 (.t 38) (.t 40)),
 o 44 (.load none (.t 43)),
 o 8 (.mv (.t 42)),
 o 9 (.mv (.t 44))]
def r102_13:List AOper:=[o 45 (.mv (.t 9)),
 o 46 (.bin .eql (.t 45) (i64 0))]
def r102_14:List AOper:=[o 47 (.mv (.t 6)),
 o 48 (.mv (.t 8)),
 o 49 (.islice 1 [zi] [(0,1,(.t 48))]),
 o 50 (.app 1 8 (.t 47) (.t 49)),
 o 6 (.mv (.t 50))]
def r102_15:List AOper:=[o 51 (.bin .add (.t 40) (i64 1)),
 o 40 (.mv (.t 51))]
def l102_1:ACode:=.seq (.reg r102_11) (.seq (.cond (.t 41) (.skip) (.exit 2)) (.seq (.block 3 (.seq (.reg r102_12) (.seq (.reg r102_13) (.cond (.t 46) (.reg r102_14) (.skip))))) (.reg r102_15)))
def r102_16:List AOper:=[o 52 (.mv (.t 6)),
 o 53 (.len false (.t 52)),
 o 54 (.bin .gtr (.t 53) (i64 0))]
def r102_17:List AOper:=[o 55 (.mv (.t 6)),
 o 56 (.iaddr 1 (.t 55) (i64 0)),
 o 57 (.load none (.t 56)),
 o 10 (.mv (.t 57))]
def r102_18:List AOper:=[o 58 (.mv (.t 6)),
 o 59 (.slsl 1 (.t 58) (some (i64 1)) none none),
 o 6 (.mv (.t 59))]
def r102_19:List AOper:=[o 60 (.mv (.t 7)),
 o 61 (.bin .add (.t 60) (i64 1)),
 o 7 (.mv (.t 61))]
def r102_20:List AOper:=[o 62 (.faddr 2 (.t 1)),
 o 63 (.load none (.t 62)),
 o 64 (.mv (.t 10)),
 o 65 (.call 140 [.t 63,.t 64] .borrow)]
def r102_21:List AOper:=[o 66 (.load (some 3) (.t 1)),
 o 67 (.mv (.t 10)),
 o 68 (.call 50 [.t 66,.t 67] .borrow),
 o 69 (.len false (.t 68)),
 o 70 (.mv (i64 0))]
def r102_22:List AOper:=[o 71 (.bin .lss (.t 70) (.t 69))]
def r102_23:List AOper:=[o 72 (.iaddr 1 (.t 68) (.t 70)),
 o 73 (.load none (.t 72)),
 o 12 (.mv (.t 73))]
def r102_24:List AOper:=[o 74 (.faddr 1 (.t 1)),
 o 75 (.load none (.t 74)),
 o 76 (.mv (.t 12)),
 o 77 (.iaddr 19 (.t 75) (.t 76)),
 o 78 (.faddr 1 (.t 77)),
 o 79 (.load none (.t 78)),
 o 13 (.mv (.t 79))]
def r102_25:List AOper:=[o 80 (.mv (.t 3)),
 o 81 (.mv (.t 13)),
 o 82 (.iaddr 1 (.t 80) (.t 81)),
 o 83 (.load none (.t 82)),
 o 84 (.bin .sub (.t 83) (i64 1)),
 o 85 (.iaddr 1 (.t 80) (.t 81)),
 oN (.store 1 (.t 85) (.t 84))]
def r102_26:List AOper:=[o 86 (.mv (.t 3)),
 o 87 (.mv (.t 13)),
 o 88 (.iaddr 1 (.t 86) (.t 87)),
 o 89 (.load none (.t 88)),
 o 90 (.bin .eql (.t 89) (i64 0))]
def r102_27:List AOper:=[o 91 (.mv (.t 6)),
 o 92 (.mv (.t 13)),
 o 93 (.islice 1 [zi] [(0,1,(.t 92))]),
 o 94 (.app 1 8 (.t 91) (.t 93)),
 o 6 (.mv (.t 94))]
def r102_28:List AOper:=[o 95 (.bin .add (.t 70) (i64 1)),
 o 70 (.mv (.t 95))]
def l102_2:ACode:=.seq (.reg r102_22) (.seq (.cond (.t 71) (.skip) (.exit 6)) (.seq (.block 7 (.seq (.reg r102_23) (.seq (.reg r102_24) (.seq (.reg r102_25) (.seq (.reg r102_26) (.cond (.t 90) (.reg r102_27) (.skip))))))) (.reg r102_28)))
def l102_3:ACode:=.seq (.seq (.reg r102_16) (.cond (.t 54) (.skip) (.exit 4))) (.block 5 (.seq (.reg r102_17) (.seq (.reg r102_18) (.seq (.reg r102_19) (.seq (.seq (.reg r102_20) (.cond (.t 65) (.exit 5) (.skip))) (.seq (.reg r102_21) (.block 6 (.loop l102_2))))))))
def r102_29:List AOper:=[o 96 (.mv (.t 7)),
 o 97 (.faddr 0 (.t 1)),
 o 98 (.load none (.t 97)),
 o 99 (.bin .lss (.t 96) (.t 98)),
 o 2 (.mv (.t 99))]
def c102:ACode:=.seq (.reg r102_0) (.seq (.reg r102_1) (.seq (.seq (.reg r102_2) (.block 0 (.loop l102_0))) (.seq (.reg r102_8) (.seq (.reg r102_9) (.seq (.seq (.reg r102_10) (.block 2 (.loop l102_1))) (.seq (.block 4 (.loop l102_3)) (.seq (.reg r102_29) (.ret))))))))
def a102:AFunc:=⟨1,100,[.tmp 2],c102⟩
def r104_0:List AOper:=[o 1 (.box (.t 0)),
 o 2 (.mv (.c (.bool false)))]
def r104_1:List AOper:=[o 3 (.mv (i64 0))]
def r104_2:List AOper:=[o 8 (.faddr 5 (.t 1)),
 o 9 (.load none (.t 8)),
 o 10 (.len false (.t 9)),
 o 11 (.mv (i64 0))]
def r104_3:List AOper:=[o 12 (.bin .lss (.t 11) (.t 10))]
def r104_4:List AOper:=[o 13 (.mv (.t 11)),
 o 14 (.iaddr 1 (.t 9) (.t 11)),
 o 15 (.load none (.t 14)),
 o 4 (.mv (.t 13)),
 o 5 (.mv (.t 15))]
def r104_5:List AOper:=[o 16 (.mv (.t 5)),
 o 17 (.len false (.t 16)),
 o 18 (.faddr 4 (.t 1)),
 o 19 (.load none (.t 18)),
 o 20 (.bin .neq (.t 17) (.t 19))]
def r104_6:List AOper:=[o 2 (.mv (.c (.bool false)))]
def r104_7:List AOper:=[o 21 (.mv (.t 5)),
 o 22 (.len false (.t 21)),
 o 23 (.mv (i64 0))]
def r104_8:List AOper:=[o 24 (.bin .lss (.t 23) (.t 22))]
def r104_9:List AOper:=[o 25 (.iaddr 1 (.t 21) (.t 23)),
 o 26 (.load none (.t 25)),
 o 7 (.mv (.t 26))]
def r104_10:List AOper:=[o 27 (.mv (.t 7)),
 o 28 (.faddr 5 (.t 1)),
 o 29 (.load none (.t 28)),
 o 30 (.len false (.t 29)),
 o 31 (.bin .sub (.t 30) (i64 1)),
 o 32 (.call 81 [.t 27,(i64 (-1)),.t 31] .borrow),
 o 33 (.un .not (.t 32))]
def r104_11:List AOper:=[o 2 (.mv (.c (.bool false)))]
def r104_12:List AOper:=[o 34 (.mv (.t 7)),
 o 35 (.bin .neq (.t 34) (i64 (-1)))]
def r104_13:List AOper:=[o 36 (.mv (.t 3)),
 o 37 (.mv (.t 4)),
 o 38 (.mv (.t 7)),
 o 39 (.mnx true [.t 36,.t 37,.t 38]),
 o 3 (.mv (.t 39))]
def r104_14:List AOper:=[o 40 (.bin .add (.t 23) (i64 1)),
 o 23 (.mv (.t 40))]
def l104_0:ACode:=.seq (.reg r104_8) (.seq (.cond (.t 24) (.skip) (.exit 2)) (.seq (.block 3 (.seq (.reg r104_9) (.seq (.seq (.reg r104_10) (.cond (.t 33) (.seq (.reg r104_11) (.ret)) (.skip))) (.seq (.reg r104_12) (.cond (.t 35) (.reg r104_13) (.skip)))))) (.reg r104_14)))
def r104_15:List AOper:=[o 41 (.bin .add (.t 11) (i64 1)),
 o 11 (.mv (.t 41))]
def l104_1:ACode:=.seq (.reg r104_3) (.seq (.cond (.t 12) (.skip) (.exit 0)) (.seq (.block 1 (.seq (.reg r104_4) (.seq (.seq (.reg r104_5) (.cond (.t 20) (.seq (.reg r104_6) (.ret)) (.skip))) (.seq (.reg r104_7) (.block 2 (.loop l104_0)))))) (.reg r104_15)))
def r104_16:List AOper:=[o 42 (.faddr 5 (.t 1)),
 o 43 (.load none (.t 42)),
 o 44 (.len false (.t 43)),
 o 45 (.bin .eql (.t 44) (i64 0)),
 o 46 (.mv (.t 45)),
 oF 47 46 (.mv (.t 3)),
 oF 48 46 (.faddr 5 (.t 1)),
 oF 49 46 (.load none (.t 48)),
 oF 50 46 (.len false (.t 49)),
 oF 51 46 (.bin .sub (.t 50) (i64 1)),
 oF 52 46 (.bin .eql (.t 47) (.t 51)),
 oF 53 46 (.mv (.t 52)),
 oT 54 53 (.faddr 5 (.t 1)),
 oT 55 53 (.load none (.t 54)),
 oT 56 53 (.len false (.t 55)),
 oT 57 53 (.bin .leq (.t 56) (i64 8)),
 oF 58 46 (.pick (.t 53) (.t 57) (.c (.bool false))),
 o 59 (.pick (.t 46) (.c (.bool true)) (.t 58)),
 o 2 (.mv (.t 59))]
def c104:ACode:=.seq (.reg r104_0) (.seq (.reg r104_1) (.seq (.seq (.reg r104_2) (.block 0 (.loop l104_1))) (.seq (.reg r104_16) (.ret))))
def a104:AFunc:=⟨1,60,[.tmp 2],c104⟩
def r105_0:List AOper:=[o 2 (.box (.t 0)),
 o 3 (.box (.t 1)),
 o 4 (.mv (.c (.bool false)))]
def r105_1:List AOper:=[o 12 (.faddr 4 (.t 3)),
 o 13 (.load (some 4) (.t 12)),
 o 14 (.call 141 [.t 13] .borrow),
 o 15 (.faddr 8 (.t 3)),
 o 16 (.load (some 9) (.t 15)),
 o 17 (.call 142 [.t 16] .borrow),
 o 5 (.mv (.t 14)),
 o 6 (.mv (.t 17))]
def b105_1:List (List Nat):=[[],[0],[0,1],[],[3],[0,1,2,3,4],[0,1,2,3,4,5],[0,1,2,3,4,5,6]]
def r105_2:List AOper:=[o 18 (.faddr 17 (.t 3)),
 o 19 (.load none (.t 18)),
 o 20 (.len false (.t 19)),
 o 21 (.bin .eql (.t 20) (i64 0)),
 o 22 (.faddr 19 (.t 3)),
 o 23 (.load none (.t 22)),
 o 24 (.len false (.t 23)),
 o 25 (.bin .eql (.t 24) (i64 0)),
 o 7 (.mv (.t 21)),
 o 8 (.mv (.t 25))]
def b105_2:List (List Nat):=[[],[0],[0,1],[0,1,2],[],[4],[4,5],[4,5,6],[0,1,2,3],[0,1,2,3,4,5,6,7,8]]
def r105_3:List AOper:=[o 26 (.faddr 18 (.t 3)),
 o 27 (.load none (.t 26)),
 o 28 (.len false (.t 27)),
 o 29 (.bin .eql (.t 28) (i64 0)),
 o 30 (.faddr 1 (.t 3)),
 o 31 (.load none (.t 30)),
 o 32 (.bin .eql (.t 31) (i64 0)),
 o 9 (.mv (.t 29)),
 o 10 (.mv (.t 32))]
def b105_3:List (List Nat):=[[],[0],[0,1],[0,1,2],[],[4],[4,5],[0,1,2,3],[0,1,2,3,4,5,6,7]]
def r105_4:List AOper:=[o 33 (.faddr 2 (.t 3)),
 o 34 (.load none (.t 33)),
 o 35 (.bin .eql (.t 34) (i64 0)),
 o 36 (.mv (.t 35)),
 oT 37 36 (.faddr 3 (.t 3)),
 oT 38 36 (.load none (.t 37)),
 oT 39 36 (.bin .eql (.t 38) (i64 0)),
 o 40 (.pick (.t 36) (.t 39) (.c (.bool false))),
 o 11 (.mv (.t 40))]
def r105_5:List AOper:=[o 41 (.faddr 0 (.t 3)),
 o 42 (.load none (.t 41))]
def r105_6:List AOper:=[o 44 (.bin .eql (.t 42) (i64 1)),
 o 43 (.mv (.t 44))]
def r105_7:List AOper:=[o 45 (.mv (.t 6)),
 o 46 (.mv (.t 45)),
 oT 47 46 (.mv (.t 7)),
 o 48 (.pick (.t 46) (.t 47) (.c (.bool false))),
 o 49 (.mv (.t 48)),
 oT 50 49 (.mv (.t 9)),
 o 51 (.pick (.t 49) (.t 50) (.c (.bool false))),
 o 52 (.mv (.t 51)),
 oT 53 52 (.mv (.t 8)),
 o 54 (.pick (.t 52) (.t 53) (.c (.bool false))),
 o 55 (.mv (.t 54)),
 oT 56 55 (.mv (.t 11)),
 o 57 (.pick (.t 55) (.t 56) (.c (.bool false))),
 o 58 (.mv (.t 57)),
 oT 59 58 (.faddr 1 (.t 3)),
 oT 60 58 (.load none (.t 59)),
 oT 61 58 (.faddr 3 (.t 2)),
 oT 62 58 (.load none (.t 61)),
 oT 63 58 (.bin .sub (.t 62) (i64 1)),
 oT 64 58 (.call 81 [.t 60,(i64 0),.t 63] .borrow),
 o 65 (.pick (.t 58) (.t 64) (.c (.bool false))),
 o 66 (.mv (.t 65)),
 oT 67 66 (.faddr 4 (.t 3)),
 oT 68 66 (.load (some 4) (.t 67)),
 oT 69 66 (.faddr 3 (.t 2)),
 oT 70 66 (.load none (.t 69)),
 oT 71 66 (.call 143 [.t 68,.t 70] .borrow),
 o 72 (.pick (.t 66) (.t 71) (.c (.bool false))),
 o 4 (.mv (.t 72))]
def r105_8:List AOper:=[o 74 (.bin .eql (.t 42) (i64 7)),
 o 73 (.mv (.t 74))]
def r105_9:List AOper:=[o 75 (.mv (.t 5)),
 o 76 (.mv (.t 75)),
 oT 77 76 (.mv (.t 6)),
 o 78 (.pick (.t 76) (.t 77) (.c (.bool false))),
 o 79 (.mv (.t 78)),
 oT 80 79 (.mv (.t 7)),
 o 81 (.pick (.t 79) (.t 80) (.c (.bool false))),
 o 82 (.mv (.t 81)),
 oT 83 82 (.mv (.t 9)),
 o 84 (.pick (.t 82) (.t 83) (.c (.bool false))),
 o 85 (.mv (.t 84)),
 oT 86 85 (.mv (.t 8)),
 o 87 (.pick (.t 85) (.t 86) (.c (.bool false))),
 o 88 (.mv (.t 87)),
 oT 89 88 (.mv (.t 11)),
 o 90 (.pick (.t 88) (.t 89) (.c (.bool false))),
 o 91 (.mv (.t 90)),
 oT 92 91 (.faddr 1 (.t 3)),
 oT 93 91 (.load none (.t 92)),
 oT 94 91 (.faddr 3 (.t 2)),
 oT 95 91 (.load none (.t 94)),
 oT 96 91 (.bin .sub (.t 95) (i64 1)),
 oT 97 91 (.call 81 [.t 93,(i64 0),.t 96] .borrow),
 o 98 (.pick (.t 91) (.t 97) (.c (.bool false))),
 o 4 (.mv (.t 98))]
def r105_10:List AOper:=[o 100 (.bin .eql (.t 42) (i64 6)),
 o 99 (.mv (.t 100))]
def r105_11:List AOper:=[o 101 (.mv (.t 5)),
 o 102 (.mv (.t 101)),
 oT 103 102 (.mv (.t 7)),
 o 104 (.pick (.t 102) (.t 103) (.c (.bool false))),
 o 105 (.mv (.t 104)),
 oT 106 105 (.mv (.t 9)),
 o 107 (.pick (.t 105) (.t 106) (.c (.bool false))),
 o 108 (.mv (.t 107)),
 oT 109 108 (.mv (.t 8)),
 o 110 (.pick (.t 108) (.t 109) (.c (.bool false))),
 o 111 (.mv (.t 110)),
 oT 112 111 (.mv (.t 11)),
 o 113 (.pick (.t 111) (.t 112) (.c (.bool false))),
 o 114 (.mv (.t 113)),
 oT 115 114 (.mv (.t 10)),
 o 116 (.pick (.t 114) (.t 115) (.c (.bool false))),
 o 117 (.mv (.t 116)),
 oT 118 117 (.faddr 8 (.t 3)),
 oT 119 117 (.load (some 9) (.t 118)),
 oT 120 117 (.faddr 3 (.t 2)),
 oT 121 117 (.load none (.t 120)),
 oT 122 117 (.call 144 [.t 119,.t 121] .borrow),
 o 123 (.pick (.t 117) (.t 122) (.c (.bool false))),
 o 4 (.mv (.t 123))]
def r105_12:List AOper:=[o 125 (.bin .eql (.t 42) (i64 3)),
 o 124 (.mv (.t 125))]
def r105_13:List AOper:=[o 126 (.mv (.t 5)),
 o 127 (.mv (.t 126)),
 oT 128 127 (.mv (.t 9)),
 o 129 (.pick (.t 127) (.t 128) (.c (.bool false))),
 o 130 (.mv (.t 129)),
 oT 131 130 (.mv (.t 8)),
 o 132 (.pick (.t 130) (.t 131) (.c (.bool false))),
 o 133 (.mv (.t 132)),
 oT 134 133 (.mv (.t 11)),
 o 135 (.pick (.t 133) (.t 134) (.c (.bool false))),
 o 136 (.mv (.t 135)),
 oT 137 136 (.mv (.t 10)),
 o 138 (.pick (.t 136) (.t 137) (.c (.bool false))),
 o 139 (.mv (.t 138)),
 oT 140 139 (.faddr 8 (.t 3)),
 oT 141 139 (.load (some 9) (.t 140)),
 oT 142 139 (.faddr 3 (.t 2)),
 oT 143 139 (.load none (.t 142)),
 oT 144 139 (.call 144 [.t 141,.t 143] .borrow),
 o 145 (.pick (.t 139) (.t 144) (.c (.bool false))),
 o 146 (.mv (.t 145)),
 oT 147 146 (.load (some 4) (.t 2)),
 oT 148 146 (.faddr 17 (.t 3)),
 oT 149 146 (.load none (.t 148)),
 oT 150 146 (.call 83 [.t 147,.t 149] .borrow),
 o 151 (.pick (.t 146) (.t 150) (.c (.bool false))),
 o 4 (.mv (.t 151))]
def r105_14:List AOper:=[o 153 (.bin .eql (.t 42) (i64 2)),
 o 152 (.mv (.t 153))]
def r105_15:List AOper:=[o 154 (.mv (.t 5)),
 o 155 (.mv (.t 154)),
 oT 156 155 (.mv (.t 8)),
 o 157 (.pick (.t 155) (.t 156) (.c (.bool false))),
 o 158 (.mv (.t 157)),
 oT 159 158 (.mv (.t 11)),
 o 160 (.pick (.t 158) (.t 159) (.c (.bool false))),
 o 161 (.mv (.t 160)),
 oT 162 161 (.mv (.t 10)),
 o 163 (.pick (.t 161) (.t 162) (.c (.bool false))),
 o 164 (.mv (.t 163)),
 oT 165 164 (.faddr 8 (.t 3)),
 oT 166 164 (.load (some 9) (.t 165)),
 oT 167 164 (.faddr 3 (.t 2)),
 oT 168 164 (.load none (.t 167)),
 oT 169 164 (.call 144 [.t 166,.t 168] .borrow),
 o 170 (.pick (.t 164) (.t 169) (.c (.bool false))),
 o 171 (.mv (.t 170)),
 oT 172 171 (.load (some 4) (.t 2)),
 oT 173 171 (.faddr 17 (.t 3)),
 oT 174 171 (.load none (.t 173)),
 oT 175 171 (.call 83 [.t 172,.t 174] .borrow),
 o 176 (.pick (.t 171) (.t 175) (.c (.bool false))),
 o 177 (.mv (.t 176)),
 oT 178 177 (.load (some 4) (.t 2)),
 oT 179 177 (.faddr 18 (.t 3)),
 oT 180 177 (.load none (.t 179)),
 oT 181 177 (.call 83 [.t 178,.t 180] .borrow),
 o 182 (.pick (.t 177) (.t 181) (.c (.bool false))),
 o 4 (.mv (.t 182))]
def r105_16:List AOper:=[o 184 (.bin .eql (.t 42) (i64 4)),
 o 183 (.mv (.t 184))]
def r105_17:List AOper:=[o 185 (.mv (.t 6)),
 o 186 (.mv (.t 185)),
 oT 187 186 (.mv (.t 7)),
 o 188 (.pick (.t 186) (.t 187) (.c (.bool false))),
 o 189 (.mv (.t 188)),
 oT 190 189 (.mv (.t 9)),
 o 191 (.pick (.t 189) (.t 190) (.c (.bool false))),
 o 192 (.mv (.t 191)),
 oT 193 192 (.mv (.t 8)),
 o 194 (.pick (.t 192) (.t 193) (.c (.bool false))),
 o 195 (.mv (.t 194)),
 oT 196 195 (.mv (.t 10)),
 o 197 (.pick (.t 195) (.t 196) (.c (.bool false))),
 o 198 (.mv (.t 197)),
 oT 199 198 (.load (some 4) (.t 2)),
 oT 200 198 (.faddr 2 (.t 3)),
 oT 201 198 (.load none (.t 200)),
 oT 202 198 (.call 145 [.t 199,.t 201,(.c (.func 146))] .borrow),
 o 203 (.pick (.t 198) (.t 202) (.c (.bool false))),
 o 204 (.mv (.t 203)),
 oT 205 204 (.load (some 4) (.t 2)),
 oT 206 204 (.faddr 2 (.t 3)),
 oT 207 204 (.load none (.t 206)),
 oT 208 204 (.faddr 3 (.t 3)),
 oT 209 204 (.load none (.t 208)),
 oT 210 204 (.call 147 [.t 205,.t 207,.t 209] .borrow),
 o 211 (.pick (.t 204) (.t 210) (.c (.bool false))),
 o 212 (.mv (.t 211)),
 oT 213 212 (.faddr 4 (.t 3)),
 oT 214 212 (.load (some 4) (.t 213)),
 oT 215 212 (.faddr 3 (.t 2)),
 oT 216 212 (.load none (.t 215)),
 oT 217 212 (.call 143 [.t 214,.t 216] .borrow),
 o 218 (.pick (.t 212) (.t 217) (.c (.bool false))),
 o 4 (.mv (.t 218))]
def r105_18:List AOper:=[o 220 (.bin .eql (.t 42) (i64 5)),
 o 219 (.mv (.t 220))]
def r105_19:List AOper:=[o 221 (.mv (.t 5)),
 o 222 (.mv (.t 221)),
 oT 223 222 (.mv (.t 6)),
 o 224 (.pick (.t 222) (.t 223) (.c (.bool false))),
 o 225 (.mv (.t 224)),
 oT 226 225 (.mv (.t 7)),
 o 227 (.pick (.t 225) (.t 226) (.c (.bool false))),
 o 228 (.mv (.t 227)),
 oT 229 228 (.mv (.t 9)),
 o 230 (.pick (.t 228) (.t 229) (.c (.bool false))),
 o 231 (.mv (.t 230)),
 oT 232 231 (.mv (.t 10)),
 o 233 (.pick (.t 231) (.t 232) (.c (.bool false))),
 o 234 (.mv (.t 233)),
 oT 235 234 (.faddr 3 (.t 3)),
 oT 236 234 (.load none (.t 235)),
 oT 237 234 (.bin .eql (.t 236) (i64 0)),
 o 238 (.pick (.t 234) (.t 237) (.c (.bool false))),
 o 239 (.mv (.t 238)),
 oT 240 239 (.load (some 4) (.t 2)),
 oT 241 239 (.faddr 2 (.t 3)),
 oT 242 239 (.load none (.t 241)),
 oT 243 239 (.call 145 [.t 240,.t 242,(.c (.func 148))] .borrow),
 o 244 (.pick (.t 239) (.t 243) (.c (.bool false))),
 o 245 (.mv (.t 244)),
 oT 246 245 (.load (some 4) (.t 2)),
 oT 247 245 (.faddr 2 (.t 3)),
 oT 248 245 (.load none (.t 247)),
 oT 249 245 (.faddr 19 (.t 3)),
 oT 250 245 (.load none (.t 249)),
 oT 251 245 (.call 149 [.t 246,.t 248,.t 250] .borrow),
 o 252 (.pick (.t 245) (.t 251) (.c (.bool false))),
 o 4 (.mv (.t 252))]
def r105_20:List AOper:=[o 4 (.mv (.c (.bool false)))]
def c105:ACode:=.seq (.reg r105_0) (.seq (.dreg r105_1 b105_1 []) (.seq (.dreg r105_2 b105_2 []) (.seq (.dreg r105_3 b105_3 []) (.seq (.reg r105_4) (.seq (.seq (.reg r105_5) (.block 0 (.seq (.reg r105_6) (.cond (.t 43) (.seq (.reg r105_7) (.ret)) (.seq (.reg r105_8) (.cond (.t 73) (.seq (.reg r105_9) (.ret)) (.seq (.reg r105_10) (.cond (.t 99) (.seq (.reg r105_11) (.ret)) (.seq (.reg r105_12) (.cond (.t 124) (.seq (.reg r105_13) (.ret)) (.seq (.reg r105_14) (.cond (.t 152) (.seq (.reg r105_15) (.ret)) (.seq (.reg r105_16) (.cond (.t 183) (.seq (.reg r105_17) (.ret)) (.seq (.reg r105_18) (.cond (.t 219) (.seq (.reg r105_19) (.ret)) (.skip))))))))))))))))) (.seq (.reg r105_20) (.ret)))))))
def a105:AFunc:=⟨2,253,[.tmp 4],c105⟩
def r106_0:List AOper:=[o 1 (.box (.t 0)),
 o 2 (.alloc [zi,zi,zi,.nils])]
def r106_1:List AOper:=[o 6 (.faddr 3 (.t 1)),
 o 7 (.load none (.t 6)),
 o 3 (.mv (.t 7))]
def r106_2:List AOper:=[o 8 (.faddr 3 (.t 1)),
 oN (.store 1 (.t 8) (.c (.nils)))]
def r106_3:List AOper:=[o 9 (.mv (.t 3)),
 o 10 (.len false (.t 9)),
 o 11 (.mv (i64 0))]
def r106_4:List AOper:=[o 12 (.bin .lss (.t 11) (.t 10))]
def r106_5:List AOper:=[o 13 (.iaddr 4 (.t 9) (.t 11)),
 o 14 (.load (some 4) (.t 13)),
 o 5 (.alloc [zi,zi,zi,.nils]),
 oN (.store 4 (.t 5) (.t 14))]
def r106_6:List AOper:=[o 15 (.faddr 3 (.t 1)),
 o 16 (.load none (.t 15)),
 o 17 (.load (some 4) (.t 5)),
 o 18 (.call 106 [.t 17] .borrow),
 ⟨some 19,.islice 1 [zi,zi,zi,.nils] [(0,4,(.t 18))],none,true⟩,
 o 20 (.app 4 48 (.t 16) (.t 19)),
 o 21 (.faddr 3 (.t 1)),
 oN (.store 1 (.t 21) (.t 20))]
def b106_6:List (List Nat):=[[],[0],[],[2],[2,3],[0,1,2,3,4],[0,1,2,3,4,5],[0,1,2,3,4,5,6]]
def r106_7:List AOper:=[o 22 (.bin .add (.t 11) (i64 1)),
 o 11 (.mv (.t 22))]
def l106_0:ACode:=.seq (.reg r106_4) (.seq (.cond (.t 12) (.skip) (.exit 0)) (.seq (.block 1 (.seq (.reg r106_5) (.dreg r106_6 b106_6 [(1,4)]))) (.reg r106_7)))
def r106_8:List AOper:=[o 23 (.load (some 4) (.t 1)),
 oN (.store 4 (.t 2) (.t 23))]
def c106:ACode:=.seq (.reg r106_0) (.seq (.reg r106_1) (.seq (.reg r106_2) (.seq (.seq (.reg r106_3) (.block 0 (.loop l106_0))) (.seq (.reg r106_8) (.ret)))))
def a106:AFunc:=⟨1,24,[.cell 2 (some 4)],c106⟩
def r107_0:List AOper:=[o 1 (.box (.t 0)),
 o 2 (.alloc [zi,zi,zi,zi,.nils,zi,zi,zi,.nils])]
def r107_1:List AOper:=[o 3 (.faddr 0 (.t 1)),
 o 4 (.load none (.t 3)),
 o 5 (.faddr 1 (.t 1)),
 o 6 (.load (some 4) (.t 5)),
 o 7 (.call 106 [.t 6] .borrow),
 o 8 (.faddr 5 (.t 1)),
 o 9 (.load (some 4) (.t 8)),
 o 10 (.call 106 [.t 9] .borrow),
 o 11 (.build [zi,zi,zi,zi,.nils,zi,zi,zi,.nils] [(0,1,(.t 4)),(1,4,(.t 7)),(5,4,(.t 10))]),
 oN (.store 9 (.t 2) (.t 11))]
def b107_1:List (List Nat):=[[],[0],[],[2],[2,3],[],[5],[2,3,4,5,6],[0,1,2,3,4,5,6,7],[0,1,2,3,4,5,6,7,8]]
def c107:ACode:=.seq (.reg r107_0) (.seq (.dreg r107_1 b107_1 []) (.ret))
def a107:AFunc:=⟨1,12,[.cell 2 (some 9)],c107⟩
def r108_0:List AOper:=[o 6 (.box (.t 1))]
def r108_1:List AOper:=[o 11 (.mv (.t 0)),
 o 12 (.call 85 [.t 11] .share),
 o 10 (.mv (.t 12))]
def r108_2:List AOper:=[o 13 (.mv (.t 0)),
 o 14 (.mv (.t 3)),
 o 15 (.mv (.t 10)),
 o 16 (.load (some 9) (.t 6)),
 o 17 (.build [zi,zi,zi,zi,zi,zi,zi,zi,zi,.nils,zi,zi,zi,zi,.nils,zi,zi,zi,.nils] [(0,1,(.t 14)),(1,1,(.t 15)),(2,1,(i64 2)),(10,9,(.t 16))]),
 o 18 (.call 84 [.t 13,.t 17] .share)]
def r108_3:List AOper:=[o 19 (.mv (.t 0)),
 o 20 (.mv (.t 2)),
 o 21 (.mv (.t 10)),
 o 22 (.mv (.t 4)),
 o 23 (.call 62 [.t 19,.t 20,.t 21,.t 22] .share)]
def c108:ACode:=.seq (.reg r108_0) (.seq (.reg r108_1) (.seq (.reg r108_2) (.reg r108_3)))
def a108:AFunc:=⟨5,24,[],c108⟩
def r109_0:List AOper:=[o 1 (.box (.t 0)),
 o 2 (.alloc [zi,zi,zi,zi,.nils,zi,zi,zi,.nils])]
def r109_1:List AOper:=[o 4 (.load (some 9) (.t 1)),
 o 5 (.call 107 [.t 4] .borrow),
 o 3 (.alloc [zi,zi,zi,zi,.nils,zi,zi,zi,.nils]),
 oN (.store 9 (.t 3) (.t 5))]
def r109_2:List AOper:=[o 6 (.faddr 0 (.t 1)),
 o 7 (.load none (.t 6)),
 o 8 (.call 41 [.t 7] .borrow),
 o 9 (.faddr 0 (.t 3)),
 oN (.store 1 (.t 9) (.t 8))]
def r109_3:List AOper:=[o 10 (.load (some 9) (.t 3)),
 oN (.store 9 (.t 2) (.t 10))]
def c109:ACode:=.seq (.reg r109_0) (.seq (.reg r109_1) (.seq (.reg r109_2) (.seq (.reg r109_3) (.ret))))
def a109:AFunc:=⟨1,11,[.cell 2 (some 9)],c109⟩
def r110_0:List AOper:=[o 5 (.box (.t 1))]
def r110_1:List AOper:=[o 9 (.mv (.t 0)),
 o 10 (.mv (.t 0)),
 o 11 (.nilck (.t 10)),
 o 12 (.faddr 2 (.t 11)),
 o 13 (.load none (.t 12)),
 o 14 (.mv (.t 2)),
 o 15 (.islice 1 [zi] [(0,1,(.t 14))]),
 o 16 (.app 1 8 (.t 13) (.t 15)),
 o 17 (.nilck (.t 9)),
 o 18 (.faddr 2 (.t 17)),
 oN (.store 1 (.t 18) (.t 16))]
def r110_2:List AOper:=[o 19 (.mv (.t 0)),
 o 20 (.call 85 [.t 19] .share),
 o 8 (.mv (.t 20))]
def r110_3:List AOper:=[o 21 (.mv (.t 0)),
 o 22 (.mv (.t 2)),
 o 23 (.mv (.t 8)),
 o 24 (.faddr 8 (.t 5)),
 o 25 (.load (some 9) (.t 24)),
 o 26 (.call 107 [.t 25] .borrow),
 o 27 (.build [zi,zi,zi,zi,zi,zi,zi,zi,zi,.nils,zi,zi,zi,zi,.nils,zi,zi,zi,.nils] [(0,1,(.t 22)),(1,1,(.t 23)),(2,1,(i64 2)),(10,9,(.t 26))]),
 o 28 (.call 84 [.t 21,.t 27] .share)]
def r110_4:List AOper:=[o 29 (.mv (.t 0)),
 o 30 (.mv (.t 2)),
 o 31 (.mv (.t 3)),
 o 32 (.faddr 8 (.t 5)),
 o 33 (.load (some 9) (.t 32)),
 o 34 (.call 109 [.t 33] .borrow),
 o 35 (.build [zi,zi,zi,zi,zi,zi,zi,zi,zi,.nils,zi,zi,zi,zi,.nils,zi,zi,zi,.nils] [(0,1,(.t 30)),(1,1,(.t 31)),(2,1,(i64 2)),(10,9,(.t 34))]),
 o 36 (.call 84 [.t 29,.t 35] .share)]
def r110_5:List AOper:=[o 37 (.mv (.t 0)),
 o 38 (.faddr 17 (.t 5)),
 o 39 (.load none (.t 38)),
 o 40 (.mv (.t 8)),
 o 41 (.mv (.t 2)),
 o 42 (.call 62 [.t 37,.t 39,.t 40,.t 41] .share)]
def c110:ACode:=.seq (.reg r110_0) (.seq (.reg r110_1) (.seq (.reg r110_2) (.seq (.reg r110_3) (.seq (.reg r110_4) (.reg r110_5)))))
def a110:AFunc:=⟨4,43,[],c110⟩
def r111_0:List AOper:=[o 5 (.box (.t 1))]
def r111_1:List AOper:=[o 11 (.faddr 19 (.t 5)),
 o 12 (.load none (.t 11)),
 o 13 (.len false (.t 12)),
 o 14 (.mv (i64 0))]
def r111_2:List AOper:=[o 15 (.bin .lss (.t 14) (.t 13))]
def r111_3:List AOper:=[o 16 (.iaddr 3 (.t 12) (.t 14)),
 o 17 (.load (some 3) (.t 16)),
 o 9 (.alloc [zi,zi,.nils]),
 oN (.store 3 (.t 9) (.t 17))]
def r111_4:List AOper:=[o 18 (.mv (.t 0)),
 o 19 (.call 85 [.t 18] .share),
 o 10 (.mv (.t 19))]
def r111_5:List AOper:=[o 20 (.mv (.t 0)),
 o 21 (.mv (.t 2)),
 o 22 (.mv (.t 10)),
 o 23 (.faddr 2 (.t 5)),
 o 24 (.load none (.t 23)),
 o 25 (.faddr 0 (.t 9)),
 o 26 (.load none (.t 25)),
 o 27 (.faddr 1 (.t 9)),
 o 28 (.load none (.t 27)),
 o 29 (.build [zi,zi,zi,zi,zi,zi,zi,zi,zi,.nils,zi,zi,zi,zi,.nils,zi,zi,zi,.nils] [(0,1,(.t 21)),(1,1,(.t 22)),(2,1,(i64 4)),(4,1,(.t 24)),(5,1,(.t 26)),(3,1,(.t 28))]),
 o 30 (.call 84 [.t 20,.t 29] .share)]
def r111_6:List AOper:=[o 31 (.mv (.t 0)),
 o 32 (.faddr 2 (.t 9)),
 o 33 (.load none (.t 32)),
 o 34 (.mv (.t 10)),
 o 35 (.mv (.t 3)),
 o 36 (.call 62 [.t 31,.t 33,.t 34,.t 35] .share)]
def r111_7:List AOper:=[o 37 (.bin .add (.t 14) (i64 1)),
 o 14 (.mv (.t 37))]
def l111_0:ACode:=.seq (.reg r111_2) (.seq (.cond (.t 15) (.skip) (.exit 0)) (.seq (.block 1 (.seq (.reg r111_3) (.seq (.reg r111_4) (.seq (.reg r111_5) (.reg r111_6))))) (.reg r111_7)))
def c111:ACode:=.seq (.reg r111_0) (.seq (.reg r111_1) (.block 0 (.loop l111_0)))
def a111:AFunc:=⟨4,38,[],c111⟩
def r112_0:List AOper:=[o 8 (.mv (.t 1)),
 o 9 (.bin .add (.t 8) (i64 1)),
 o 6 (.mv (.t 9))]
def r112_1:List AOper:=[o 10 (.mv (.t 6)),
 o 11 (.mv (.t 2)),
 o 12 (.bin .lss (.t 10) (.t 11))]
def r112_3:List AOper:=[o 15 (.mv (.t 6)),
 o 7 (.mv (.t 15))]
def r112_4:List AOper:=[o 16 (.mv (.t 7)),
 o 17 (.mv (.t 1)),
 o 18 (.bin .gtr (.t 16) (.t 17)),
 o 19 (.mv (.t 18)),
 oT 20 19 (.mv (.t 0)),
 oT 21 19 (.mv (.t 7)),
 oT 22 19 (.iaddr 1 (.t 20) (.t 21)),
 oT 23 19 (.load none (.t 22)),
 oT 24 19 (.mv (.t 0)),
 oT 25 19 (.mv (.t 7)),
 oT 26 19 (.bin .sub (.t 25) (i64 1)),
 oT 27 19 (.iaddr 1 (.t 24) (.t 26)),
 oT 28 19 (.load none (.t 27)),
 oT 29 19 (.call 118 [.t 23,.t 28] .borrow),
 o 30 (.pick (.t 19) (.t 29) (.c (.bool false)))]
def b112_4:List (List Nat):=[[],[],[0,1],[0,1,2],[0,1,2,3],[0,1,2,3],[0,1,2,3,4,5],[0,1,2,3,4,5,6],[0,1,2,3],[0,1,2,3],[0,1,2,3,9],[0,1,2,3,8,9,10],[0,1,2,3,8,9,10,11],[0,1,2,3,4,5,6,7,8,9,10,11,12],[0,1,2,3,4,5,6,7,8,9,10,11,12,13]]
def r112_6:List AOper:=[o 33 (.mv (.t 0)),
 o 34 (.mv (.t 7)),
 o 35 (.mv (.t 0)),
 o 36 (.mv (.t 7)),
 o 37 (.bin .sub (.t 36) (i64 1)),
 o 38 (.mv (.t 0)),
 o 39 (.mv (.t 7)),
 o 40 (.bin .sub (.t 39) (i64 1)),
 o 41 (.iaddr 1 (.t 38) (.t 40)),
 o 42 (.load none (.t 41)),
 o 43 (.mv (.t 0)),
 o 44 (.mv (.t 7)),
 o 45 (.iaddr 1 (.t 43) (.t 44)),
 o 46 (.load none (.t 45)),
 o 47 (.iaddr 1 (.t 33) (.t 34)),
 oN (.store 1 (.t 47) (.t 42)),
 o 48 (.iaddr 1 (.t 35) (.t 37)),
 oN (.store 1 (.t 48) (.t 46))]
def b112_6:List (List Nat):=[[],[],[],[],[3],[],[],[6],[5,6,7],[5,6,7,8],[],[],[10,11],[10,11,12],[0,1,5,6,7,8,9,10,11,12,13],[0,1,5,6,7,8,9,10,11,12,13,14],[0,1,2,3,4,5,6,7,8,9,10,11,12,13,14,15],[0,1,2,3,4,5,6,7,8,9,10,11,12,13,14,15,16]]
def r112_5:List AOper:=[o 31 (.mv (.t 7)),
 o 32 (.bin .sub (.t 31) (i64 1)),
 o 7 (.mv (.t 32))]
def l112_0:ACode:=.seq (.seq (.dreg r112_4 b112_4 []) (.cond (.t 30) (.skip) (.exit 2))) (.seq (.block 3 (.dreg r112_6 b112_6 [])) (.reg r112_5))
def r112_2:List AOper:=[o 13 (.mv (.t 6)),
 o 14 (.bin .add (.t 13) (i64 1)),
 o 6 (.mv (.t 14))]
def l112_1:ACode:=.seq (.seq (.reg r112_1) (.cond (.t 12) (.skip) (.exit 0))) (.seq (.block 1 (.seq (.reg r112_3) (.block 2 (.loop l112_0)))) (.reg r112_2))
def c112:ACode:=.seq (.reg r112_0) (.block 0 (.loop l112_1))
def a112:AFunc:=⟨3,49,[],c112⟩
def r113_0:List AOper:=[o 11 (.mv (.t 1)),
 o 6 (.mv (.t 11))]
def r113_1:List AOper:=[o 7 (.mv (i64 0))]
def r113_2:List AOper:=[o 12 (.mv (.t 2)),
 o 13 (.mv (.t 1)),
 o 14 (.bin .sub (.t 12) (.t 13)),
 o 8 (.mv (.t 14))]
def r113_3:List AOper:=[o 15 (.mv (.t 8)),
 o 16 (.bin .sub (.t 15) (i64 1)),
 o 17 (.bin .quo (.t 16) (i64 2)),
 o 9 (.mv (.t 17))]
def r113_4:List AOper:=[o 18 (.mv (.t 9)),
 o 19 (.bin .geq (.t 18) (i64 0))]
def r113_6:List AOper:=[o 22 (.mv (.t 0)),
 o 23 (.mv (.t 9)),
 o 24 (.mv (.t 8)),
 o 25 (.mv (.t 6)),
 o 26 (.call 150 [.t 22,.t 23,.t 24,.t 25] .share)]
def r113_5:List AOper:=[o 20 (.mv (.t 9)),
 o 21 (.bin .sub (.t 20) (i64 1)),
 o 9 (.mv (.t 21))]
def l113_0:ACode:=.seq (.seq (.reg r113_4) (.cond (.t 19) (.skip) (.exit 0))) (.seq (.block 1 (.reg r113_6)) (.reg r113_5))
def r113_7:List AOper:=[o 27 (.mv (.t 8)),
 o 28 (.bin .sub (.t 27) (i64 1)),
 o 10 (.mv (.t 28))]
def r113_8:List AOper:=[o 29 (.mv (.t 10)),
 o 30 (.bin .geq (.t 29) (i64 0))]
def r113_10:List AOper:=[o 33 (.mv (.t 0)),
 o 34 (.mv (.t 6)),
 o 35 (.mv (.t 0)),
 o 36 (.mv (.t 6)),
 o 37 (.mv (.t 10)),
 o 38 (.bin .add (.t 36) (.t 37)),
 o 39 (.mv (.t 0)),
 o 40 (.mv (.t 6)),
 o 41 (.mv (.t 10)),
 o 42 (.bin .add (.t 40) (.t 41)),
 o 43 (.iaddr 1 (.t 39) (.t 42)),
 o 44 (.load none (.t 43)),
 o 45 (.mv (.t 0)),
 o 46 (.mv (.t 6)),
 o 47 (.iaddr 1 (.t 45) (.t 46)),
 o 48 (.load none (.t 47)),
 o 49 (.iaddr 1 (.t 33) (.t 34)),
 oN (.store 1 (.t 49) (.t 44)),
 o 50 (.iaddr 1 (.t 35) (.t 38)),
 oN (.store 1 (.t 50) (.t 48))]
def b113_10:List (List Nat):=[[],[],[],[],[],[3,4],[],[],[],[7,8],[6,7,8,9],[6,7,8,9,10],[],[],[12,13],[12,13,14],[0,1,6,7,8,9,10,11,12,13,14,15],[0,1,6,7,8,9,10,11,12,13,14,15,16],[0,1,2,3,4,5,6,7,8,9,10,11,12,13,14,15,16,17],[0,1,2,3,4,5,6,7,8,9,10,11,12,13,14,15,16,17,18]]
def r113_11:List AOper:=[o 51 (.mv (.t 0)),
 o 52 (.mv (.t 7)),
 o 53 (.mv (.t 10)),
 o 54 (.mv (.t 6)),
 o 55 (.call 150 [.t 51,.t 52,.t 53,.t 54] .share)]
def r113_9:List AOper:=[o 31 (.mv (.t 10)),
 o 32 (.bin .sub (.t 31) (i64 1)),
 o 10 (.mv (.t 32))]
def l113_1:ACode:=.seq (.seq (.reg r113_8) (.cond (.t 30) (.skip) (.exit 2))) (.seq (.block 3 (.seq (.dreg r113_10 b113_10 []) (.reg r113_11))) (.reg r113_9))
def c113:ACode:=.seq (.reg r113_0) (.seq (.reg r113_1) (.seq (.reg r113_2) (.seq (.seq (.reg r113_3) (.block 0 (.loop l113_0))) (.seq (.reg r113_7) (.block 2 (.loop l113_1))))))
def a113:AFunc:=⟨3,56,[],c113⟩
def r114_0:List AOper:=[o 11 (.mv (.t 2)),
 o 12 (.mv (.t 1)),
 o 13 (.bin .sub (.t 11) (.t 12)),
 o 6 (.mv (.t 13))]
def r114_1:List AOper:=[o 14 (.mv (.t 6)),
 o 15 (.bin .geq (.t 14) (i64 8))]
def r114_2:List AOper:=[o 16 (.mv (.t 6)),
 o 17 (.conv .u64 (.t 16)),
 o 7 (.alloc [.int .u64 0]),
 oN (.store 1 (.t 7) (.t 17))]
def r114_3:List AOper:=[o 18 (.mv (.t 6)),
 o 19 (.call 151 [.t 18] .borrow),
 o 8 (.mv (.t 19))]
def r114_4:List AOper:=[o 20 (.mv (.t 1)),
 o 21 (.mv (.t 6)),
 o 22 (.bin .quo (.t 21) (i64 4)),
 o 23 (.bin .mul (.t 22) (i64 2)),
 o 24 (.bin .add (.t 20) (.t 23)),
 o 25 (.bin .sub (.t 24) (i64 1)),
 o 9 (.mv (.t 25))]
def r114_5:List AOper:=[o 26 (.mv (.t 9)),
 o 27 (.mv (.t 1)),
 o 28 (.mv (.t 6)),
 o 29 (.bin .quo (.t 28) (i64 4)),
 o 30 (.bin .mul (.t 29) (i64 2)),
 o 31 (.bin .add (.t 27) (.t 30)),
 o 32 (.bin .add (.t 31) (i64 1)),
 o 33 (.bin .leq (.t 26) (.t 32))]
def r114_7:List AOper:=[o 36 (.call 152 [.t 7] .share),
 o 37 (.mv (.t 8)),
 o 38 (.bin .sub (.t 37) (.c (.int .u64 1))),
 o 39 (.bin .and (.t 36) (.t 38)),
 o 40 (.conv .i64 (.t 39)),
 o 10 (.mv (.t 40))]
def r114_8:List AOper:=[o 41 (.mv (.t 10)),
 o 42 (.mv (.t 6)),
 o 43 (.bin .geq (.t 41) (.t 42))]
def r114_9:List AOper:=[o 44 (.mv (.t 10)),
 o 45 (.mv (.t 6)),
 o 46 (.bin .sub (.t 44) (.t 45)),
 o 10 (.mv (.t 46))]
def r114_10:List AOper:=[o 47 (.mv (.t 0)),
 o 48 (.mv (.t 9)),
 o 49 (.mv (.t 0)),
 o 50 (.mv (.t 1)),
 o 51 (.mv (.t 10)),
 o 52 (.bin .add (.t 50) (.t 51)),
 o 53 (.mv (.t 0)),
 o 54 (.mv (.t 1)),
 o 55 (.mv (.t 10)),
 o 56 (.bin .add (.t 54) (.t 55)),
 o 57 (.iaddr 1 (.t 53) (.t 56)),
 o 58 (.load none (.t 57)),
 o 59 (.mv (.t 0)),
 o 60 (.mv (.t 9)),
 o 61 (.iaddr 1 (.t 59) (.t 60)),
 o 62 (.load none (.t 61)),
 o 63 (.iaddr 1 (.t 47) (.t 48)),
 oN (.store 1 (.t 63) (.t 58)),
 o 64 (.iaddr 1 (.t 49) (.t 52)),
 oN (.store 1 (.t 64) (.t 62))]
def b114_10:List (List Nat):=[[],[],[],[],[],[3,4],[],[],[],[7,8],[6,7,8,9],[6,7,8,9,10],[],[],[12,13],[12,13,14],[0,1,6,7,8,9,10,11,12,13,14,15],[0,1,6,7,8,9,10,11,12,13,14,15,16],[0,1,2,3,4,5,6,7,8,9,10,11,12,13,14,15,16,17],[0,1,2,3,4,5,6,7,8,9,10,11,12,13,14,15,16,17,18]]
def r114_6:List AOper:=[o 34 (.mv (.t 9)),
 o 35 (.bin .add (.t 34) (i64 1)),
 o 9 (.mv (.t 35))]
def l114_0:ACode:=.seq (.seq (.reg r114_5) (.cond (.t 33) (.skip) (.exit 0))) (.seq (.block 1 (.seq (.reg r114_7) (.seq (.seq (.reg r114_8) (.cond (.t 43) (.reg r114_9) (.skip))) (.dreg r114_10 b114_10 [])))) (.reg r114_6))
def c114:ACode:=.seq (.reg r114_0) (.seq (.reg r114_1) (.cond (.t 15) (.seq (.reg r114_2) (.seq (.reg r114_3) (.seq (.reg r114_4) (.block 0 (.loop l114_0))))) (.skip)))
def a114:AFunc:=⟨3,65,[],c114⟩
def r115_0:List AOper:=[o 6 (.mv (i64 0)),
 o 7 (.mv (i64 0))]
def r115_1:List AOper:=[o 13 (.mv (.t 2)),
 o 14 (.mv (.t 1)),
 o 15 (.bin .sub (.t 13) (.t 14)),
 o 8 (.mv (.t 15))]
def r115_2:List AOper:=[o 9 (.alloc [zi])]
def r115_3:List AOper:=[o 16 (.mv (.t 1)),
 o 17 (.mv (.t 8)),
 o 18 (.bin .quo (.t 17) (i64 4)),
 o 19 (.bin .mul (.t 18) (i64 1)),
 o 20 (.bin .add (.t 16) (.t 19)),
 o 10 (.mv (.t 20))]
def r115_4:List AOper:=[o 21 (.mv (.t 1)),
 o 22 (.mv (.t 8)),
 o 23 (.bin .quo (.t 22) (i64 4)),
 o 24 (.bin .mul (.t 23) (i64 2)),
 o 25 (.bin .add (.t 21) (.t 24)),
 o 11 (.mv (.t 25))]
def r115_5:List AOper:=[o 26 (.mv (.t 1)),
 o 27 (.mv (.t 8)),
 o 28 (.bin .quo (.t 27) (i64 4)),
 o 29 (.bin .mul (.t 28) (i64 3)),
 o 30 (.bin .add (.t 26) (.t 29)),
 o 12 (.mv (.t 30))]
def r115_6:List AOper:=[o 31 (.mv (.t 8)),
 o 32 (.bin .geq (.t 31) (i64 8))]
def r115_7:List AOper:=[o 33 (.mv (.t 8)),
 o 34 (.bin .geq (.t 33) (i64 50))]
def r115_8:List AOper:=[o 35 (.mv (.t 0)),
 o 36 (.mv (.t 10)),
 o 37 (.call 153 [.t 35,.t 36,.t 9] .share),
 o 10 (.mv (.t 37))]
def r115_9:List AOper:=[o 38 (.mv (.t 0)),
 o 39 (.mv (.t 11)),
 o 40 (.call 153 [.t 38,.t 39,.t 9] .share),
 o 11 (.mv (.t 40))]
def r115_10:List AOper:=[o 41 (.mv (.t 0)),
 o 42 (.mv (.t 12)),
 o 43 (.call 153 [.t 41,.t 42,.t 9] .share),
 o 12 (.mv (.t 43))]
def r115_11:List AOper:=[o 44 (.mv (.t 0)),
 o 45 (.mv (.t 10)),
 o 46 (.mv (.t 11)),
 o 47 (.mv (.t 12)),
 o 48 (.call 154 [.t 44,.t 45,.t 46,.t 47,.t 9] .share),
 o 11 (.mv (.t 48))]
def r115_12:List AOper:=[o 49 (.load none (.t 9))]
def r115_14:List AOper:=[o 52 (.bin .eql (.t 49) (i64 0)),
 o 51 (.mv (.t 52))]
def r115_15:List AOper:=[o 53 (.mv (.t 11)),
 o 6 (.mv (.t 53)),
 o 7 (.mv (i64 1))]
def r115_16:List AOper:=[o 55 (.bin .eql (.t 49) (i64 12)),
 o 54 (.mv (.t 55))]
def r115_17:List AOper:=[o 56 (.mv (.t 11)),
 o 6 (.mv (.t 56)),
 o 7 (.mv (i64 2))]
def r115_13:List AOper:=[o 50 (.mv (.t 11)),
 o 6 (.mv (.t 50)),
 o 7 (.mv (i64 0))]
def c115:ACode:=.seq (.reg r115_0) (.seq (.reg r115_1) (.seq (.reg r115_2) (.seq (.reg r115_3) (.seq (.reg r115_4) (.seq (.reg r115_5) (.seq (.seq (.reg r115_6) (.cond (.t 32) (.seq (.seq (.reg r115_7) (.cond (.t 34) (.seq (.reg r115_8) (.seq (.reg r115_9) (.reg r115_10))) (.skip))) (.reg r115_11)) (.skip))) (.seq (.reg r115_12) (.block 0 (.seq (.reg r115_14) (.cond (.t 51) (.seq (.reg r115_15) (.ret)) (.seq (.reg r115_16) (.cond (.t 54) (.seq (.reg r115_17) (.ret)) (.seq (.reg r115_13) (.ret))))))))))))))
def a115:AFunc:=⟨3,57,[.tmp 6,.tmp 7],c115⟩
def r116_0:List AOper:=[o 8 (.mv (.t 1)),
 o 6 (.mv (.t 8))]
def r116_1:List AOper:=[o 9 (.mv (.t 2)),
 o 10 (.bin .sub (.t 9) (i64 1)),
 o 7 (.mv (.t 10))]
def r116_2:List AOper:=[o 11 (.mv (.t 6)),
 o 12 (.mv (.t 7)),
 o 13 (.bin .lss (.t 11) (.t 12))]
def r116_3:List AOper:=[o 14 (.mv (.t 0)),
 o 15 (.mv (.t 6)),
 o 16 (.mv (.t 0)),
 o 17 (.mv (.t 7)),
 o 18 (.mv (.t 0)),
 o 19 (.mv (.t 7)),
 o 20 (.iaddr 1 (.t 18) (.t 19)),
 o 21 (.load none (.t 20)),
 o 22 (.mv (.t 0)),
 o 23 (.mv (.t 6)),
 o 24 (.iaddr 1 (.t 22) (.t 23)),
 o 25 (.load none (.t 24)),
 o 26 (.iaddr 1 (.t 14) (.t 15)),
 oN (.store 1 (.t 26) (.t 21)),
 o 27 (.iaddr 1 (.t 16) (.t 17)),
 oN (.store 1 (.t 27) (.t 25))]
def b116_3:List (List Nat):=[[],[],[],[],[],[],[4,5],[4,5,6],[],[],[8,9],[8,9,10],[0,1,4,5,6,7,8,9,10,11],[0,1,4,5,6,7,8,9,10,11,12],[0,1,2,3,4,5,6,7,8,9,10,11,12,13],[0,1,2,3,4,5,6,7,8,9,10,11,12,13,14]]
def r116_4:List AOper:=[o 28 (.mv (.t 6)),
 o 29 (.bin .add (.t 28) (i64 1)),
 o 6 (.mv (.t 29))]
def r116_5:List AOper:=[o 30 (.mv (.t 7)),
 o 31 (.bin .sub (.t 30) (i64 1)),
 o 7 (.mv (.t 31))]
def l116_0:ACode:=.seq (.seq (.reg r116_2) (.cond (.t 13) (.skip) (.exit 0))) (.block 1 (.seq (.dreg r116_3 b116_3 []) (.seq (.reg r116_4) (.reg r116_5))))
def c116:ACode:=.seq (.reg r116_0) (.seq (.reg r116_1) (.block 0 (.loop l116_0)))
def a116:AFunc:=⟨3,32,[],c116⟩
def r117_0:List AOper:=[o 6 (.mv (.c (.bool false)))]
def r117_1:List AOper:=[o 11 (.mv (.t 1)),
 o 12 (.bin .add (.t 11) (i64 1)),
 o 7 (.mv (.t 12))]
def r117_2:List AOper:=[o 8 (.mv (i64 0))]
def r117_3:List AOper:=[o 13 (.mv (.t 8)),
 o 14 (.bin .lss (.t 13) (i64 5))]
def r117_5:List AOper:=[o 17 (.mv (.t 7)),
 o 18 (.mv (.t 2)),
 o 19 (.bin .lss (.t 17) (.t 18)),
 o 20 (.mv (.t 19)),
 oT 21 20 (.mv (.t 0)),
 oT 22 20 (.mv (.t 7)),
 oT 23 20 (.iaddr 1 (.t 21) (.t 22)),
 oT 24 20 (.load none (.t 23)),
 oT 25 20 (.mv (.t 0)),
 oT 26 20 (.mv (.t 7)),
 oT 27 20 (.bin .sub (.t 26) (i64 1)),
 oT 28 20 (.iaddr 1 (.t 25) (.t 27)),
 oT 29 20 (.load none (.t 28)),
 oT 30 20 (.call 118 [.t 24,.t 29] .borrow),
 oT 31 20 (.un .not (.t 30)),
 o 32 (.pick (.t 20) (.t 31) (.c (.bool false)))]
def b117_5:List (List Nat):=[[],[],[0,1],[0,1,2],[0,1,2,3],[0,1,2,3],[0,1,2,3,4,5],[0,1,2,3,4,5,6],[0,1,2,3],[0,1,2,3],[0,1,2,3,9],[0,1,2,3,8,9,10],[0,1,2,3,8,9,10,11],[0,1,2,3,4,5,6,7,8,9,10,11,12],[0,1,2,3,4,5,6,7,8,9,10,11,12,13],[0,1,2,3,4,5,6,7,8,9,10,11,12,13,14]]
def r117_6:List AOper:=[o 33 (.mv (.t 7)),
 o 34 (.bin .add (.t 33) (i64 1)),
 o 7 (.mv (.t 34))]
def l117_0:ACode:=.seq (.seq (.dreg r117_5 b117_5 []) (.cond (.t 32) (.skip) (.exit 2))) (.block 3 (.reg r117_6))
def r117_7:List AOper:=[o 35 (.mv (.t 7)),
 o 36 (.mv (.t 2)),
 o 37 (.bin .eql (.t 35) (.t 36))]
def r117_8:List AOper:=[o 6 (.mv (.c (.bool true)))]
def r117_9:List AOper:=[o 38 (.mv (.t 2)),
 o 39 (.mv (.t 1)),
 o 40 (.bin .sub (.t 38) (.t 39)),
 o 41 (.bin .lss (.t 40) (i64 50))]
def r117_10:List AOper:=[o 6 (.mv (.c (.bool false)))]
def r117_11:List AOper:=[o 42 (.mv (.t 0)),
 o 43 (.mv (.t 7)),
 o 44 (.mv (.t 0)),
 o 45 (.mv (.t 7)),
 o 46 (.bin .sub (.t 45) (i64 1)),
 o 47 (.mv (.t 0)),
 o 48 (.mv (.t 7)),
 o 49 (.bin .sub (.t 48) (i64 1)),
 o 50 (.iaddr 1 (.t 47) (.t 49)),
 o 51 (.load none (.t 50)),
 o 52 (.mv (.t 0)),
 o 53 (.mv (.t 7)),
 o 54 (.iaddr 1 (.t 52) (.t 53)),
 o 55 (.load none (.t 54)),
 o 56 (.iaddr 1 (.t 42) (.t 43)),
 oN (.store 1 (.t 56) (.t 51)),
 o 57 (.iaddr 1 (.t 44) (.t 46)),
 oN (.store 1 (.t 57) (.t 55))]
def b117_11:List (List Nat):=[[],[],[],[],[3],[],[],[6],[5,6,7],[5,6,7,8],[],[],[10,11],[10,11,12],[0,1,5,6,7,8,9,10,11,12,13],[0,1,5,6,7,8,9,10,11,12,13,14],[0,1,2,3,4,5,6,7,8,9,10,11,12,13,14,15],[0,1,2,3,4,5,6,7,8,9,10,11,12,13,14,15,16]]
def r117_12:List AOper:=[o 58 (.mv (.t 7)),
 o 59 (.mv (.t 1)),
 o 60 (.bin .sub (.t 58) (.t 59)),
 o 61 (.bin .geq (.t 60) (i64 2))]
def r117_13:List AOper:=[o 62 (.mv (.t 7)),
 o 63 (.bin .sub (.t 62) (i64 1)),
 o 9 (.mv (.t 63))]
def r117_14:List AOper:=[o 64 (.mv (.t 9)),
 o 65 (.bin .geq (.t 64) (i64 1))]
def r117_16:List AOper:=[o 68 (.mv (.t 0)),
 o 69 (.mv (.t 9)),
 o 70 (.iaddr 1 (.t 68) (.t 69)),
 o 71 (.load none (.t 70)),
 o 72 (.mv (.t 0)),
 o 73 (.mv (.t 9)),
 o 74 (.bin .sub (.t 73) (i64 1)),
 o 75 (.iaddr 1 (.t 72) (.t 74)),
 o 76 (.load none (.t 75)),
 o 77 (.call 118 [.t 71,.t 76] .borrow),
 o 78 (.un .not (.t 77))]
def b117_16:List (List Nat):=[[],[],[0,1],[0,1,2],[],[],[5],[4,5,6],[4,5,6,7],[0,1,2,3,4,5,6,7,8],[0,1,2,3,4,5,6,7,8,9]]
def r117_17:List AOper:=[o 79 (.mv (.t 0)),
 o 80 (.mv (.t 9)),
 o 81 (.mv (.t 0)),
 o 82 (.mv (.t 9)),
 o 83 (.bin .sub (.t 82) (i64 1)),
 o 84 (.mv (.t 0)),
 o 85 (.mv (.t 9)),
 o 86 (.bin .sub (.t 85) (i64 1)),
 o 87 (.iaddr 1 (.t 84) (.t 86)),
 o 88 (.load none (.t 87)),
 o 89 (.mv (.t 0)),
 o 90 (.mv (.t 9)),
 o 91 (.iaddr 1 (.t 89) (.t 90)),
 o 92 (.load none (.t 91)),
 o 93 (.iaddr 1 (.t 79) (.t 80)),
 oN (.store 1 (.t 93) (.t 88)),
 o 94 (.iaddr 1 (.t 81) (.t 83)),
 oN (.store 1 (.t 94) (.t 92))]
def b117_17:List (List Nat):=[[],[],[],[],[3],[],[],[6],[5,6,7],[5,6,7,8],[],[],[10,11],[10,11,12],[0,1,5,6,7,8,9,10,11,12,13],[0,1,5,6,7,8,9,10,11,12,13,14],[0,1,2,3,4,5,6,7,8,9,10,11,12,13,14,15],[0,1,2,3,4,5,6,7,8,9,10,11,12,13,14,15,16]]
def r117_15:List AOper:=[o 66 (.mv (.t 9)),
 o 67 (.bin .sub (.t 66) (i64 1)),
 o 9 (.mv (.t 67))]
def l117_1:ACode:=.seq (.seq (.reg r117_14) (.cond (.t 65) (.skip) (.exit 4))) (.seq (.block 5 (.seq (.seq (.dreg r117_16 b117_16 []) (.cond (.t 78) (.exit 4) (.skip))) (.dreg r117_17 b117_17 []))) (.reg r117_15))
def r117_18:List AOper:=[o 95 (.mv (.t 2)),
 o 96 (.mv (.t 7)),
 o 97 (.bin .sub (.t 95) (.t 96)),
 o 98 (.bin .geq (.t 97) (i64 2))]
def r117_19:List AOper:=[o 99 (.mv (.t 7)),
 o 100 (.bin .add (.t 99) (i64 1)),
 o 10 (.mv (.t 100))]
def r117_20:List AOper:=[o 101 (.mv (.t 10)),
 o 102 (.mv (.t 2)),
 o 103 (.bin .lss (.t 101) (.t 102))]
def r117_22:List AOper:=[o 106 (.mv (.t 0)),
 o 107 (.mv (.t 10)),
 o 108 (.iaddr 1 (.t 106) (.t 107)),
 o 109 (.load none (.t 108)),
 o 110 (.mv (.t 0)),
 o 111 (.mv (.t 10)),
 o 112 (.bin .sub (.t 111) (i64 1)),
 o 113 (.iaddr 1 (.t 110) (.t 112)),
 o 114 (.load none (.t 113)),
 o 115 (.call 118 [.t 109,.t 114] .borrow),
 o 116 (.un .not (.t 115))]
def b117_22:List (List Nat):=[[],[],[0,1],[0,1,2],[],[],[5],[4,5,6],[4,5,6,7],[0,1,2,3,4,5,6,7,8],[0,1,2,3,4,5,6,7,8,9]]
def r117_23:List AOper:=[o 117 (.mv (.t 0)),
 o 118 (.mv (.t 10)),
 o 119 (.mv (.t 0)),
 o 120 (.mv (.t 10)),
 o 121 (.bin .sub (.t 120) (i64 1)),
 o 122 (.mv (.t 0)),
 o 123 (.mv (.t 10)),
 o 124 (.bin .sub (.t 123) (i64 1)),
 o 125 (.iaddr 1 (.t 122) (.t 124)),
 o 126 (.load none (.t 125)),
 o 127 (.mv (.t 0)),
 o 128 (.mv (.t 10)),
 o 129 (.iaddr 1 (.t 127) (.t 128)),
 o 130 (.load none (.t 129)),
 o 131 (.iaddr 1 (.t 117) (.t 118)),
 oN (.store 1 (.t 131) (.t 126)),
 o 132 (.iaddr 1 (.t 119) (.t 121)),
 oN (.store 1 (.t 132) (.t 130))]
def b117_23:List (List Nat):=[[],[],[],[],[3],[],[],[6],[5,6,7],[5,6,7,8],[],[],[10,11],[10,11,12],[0,1,5,6,7,8,9,10,11,12,13],[0,1,5,6,7,8,9,10,11,12,13,14],[0,1,2,3,4,5,6,7,8,9,10,11,12,13,14,15],[0,1,2,3,4,5,6,7,8,9,10,11,12,13,14,15,16]]
def r117_21:List AOper:=[o 104 (.mv (.t 10)),
 o 105 (.bin .add (.t 104) (i64 1)),
 o 10 (.mv (.t 105))]
def l117_2:ACode:=.seq (.seq (.reg r117_20) (.cond (.t 103) (.skip) (.exit 6))) (.seq (.block 7 (.seq (.seq (.dreg r117_22 b117_22 []) (.cond (.t 116) (.exit 6) (.skip))) (.dreg r117_23 b117_23 []))) (.reg r117_21))
def r117_4:List AOper:=[o 15 (.mv (.t 8)),
 o 16 (.bin .add (.t 15) (i64 1)),
 o 8 (.mv (.t 16))]
def l117_3:ACode:=.seq (.seq (.reg r117_3) (.cond (.t 14) (.skip) (.exit 0))) (.seq (.block 1 (.seq (.block 2 (.loop l117_0)) (.seq (.seq (.reg r117_7) (.cond (.t 37) (.seq (.reg r117_8) (.ret)) (.skip))) (.seq (.seq (.reg r117_9) (.cond (.t 41) (.seq (.reg r117_10) (.ret)) (.skip))) (.seq (.dreg r117_11 b117_11 []) (.seq (.seq (.reg r117_12) (.cond (.t 61) (.seq (.reg r117_13) (.block 4 (.loop l117_1))) (.skip))) (.seq (.reg r117_18) (.cond (.t 98) (.seq (.reg r117_19) (.block 6 (.loop l117_2))) (.skip))))))))) (.reg r117_4))
def r117_24:List AOper:=[o 6 (.mv (.c (.bool false)))]
def c117:ACode:=.seq (.reg r117_0) (.seq (.reg r117_1) (.seq (.seq (.reg r117_2) (.block 0 (.loop l117_3))) (.seq (.reg r117_24) (.ret))))
def a117:AFunc:=⟨3,133,[.tmp 6],c117⟩
def r118_0:List AOper:=[o 4 (.mv (.c (.bool false)))]
def r118_1:List AOper:=[o 5 (.mv (.t 0)),
 o 6 (.call 155 [.t 5] .borrow),
 o 7 (.mv (.t 6)),
 oT 8 7 (.mv (.t 1)),
 oT 9 7 (.call 155 [.t 8] .borrow),
 oT 10 7 (.un .not (.t 9)),
 o 11 (.pick (.t 7) (.t 10) (.c (.bool false))),
 o 12 (.mv (.t 11)),
 oF 13 12 (.mv (.t 0)),
 oF 14 12 (.mv (.t 1)),
 oF 15 12 (.bin .lss (.t 13) (.t 14)),
 o 16 (.pick (.t 12) (.c (.bool true)) (.t 15)),
 o 4 (.mv (.t 16))]
def c118:ACode:=.seq (.reg r118_0) (.seq (.reg r118_1) (.ret))
def a118:AFunc:=⟨2,17,[.tmp 4],c118⟩
def r119_0:List AOper:=[o 8 (.mv (i64 0))]
def r119_1:List AOper:=[o 11 (.mv (.t 0)),
 o 12 (.mv (.t 1)),
 o 13 (.mv (.t 0)),
 o 14 (.mv (.t 3)),
 o 15 (.mv (.t 0)),
 o 16 (.mv (.t 3)),
 o 17 (.iaddr 1 (.t 15) (.t 16)),
 o 18 (.load none (.t 17)),
 o 19 (.mv (.t 0)),
 o 20 (.mv (.t 1)),
 o 21 (.iaddr 1 (.t 19) (.t 20)),
 o 22 (.load none (.t 21)),
 o 23 (.iaddr 1 (.t 11) (.t 12)),
 oN (.store 1 (.t 23) (.t 18)),
 o 24 (.iaddr 1 (.t 13) (.t 14)),
 oN (.store 1 (.t 24) (.t 22))]
def b119_1:List (List Nat):=[[],[],[],[],[],[],[4,5],[4,5,6],[],[],[8,9],[8,9,10],[0,1,4,5,6,7,8,9,10,11],[0,1,4,5,6,7,8,9,10,11,12],[0,1,2,3,4,5,6,7,8,9,10,11,12,13],[0,1,2,3,4,5,6,7,8,9,10,11,12,13,14]]
def r119_2:List AOper:=[o 25 (.mv (.t 1)),
 o 26 (.bin .add (.t 25) (i64 1)),
 o 27 (.mv (.t 2)),
 o 28 (.bin .sub (.t 27) (i64 1)),
 o 9 (.mv (.t 26)),
 o 10 (.mv (.t 28))]
def r119_3:List AOper:=[o 29 (.mv (.t 9)),
 o 30 (.mv (.t 10)),
 o 31 (.bin .leq (.t 29) (.t 30)),
 o 32 (.mv (.t 31)),
 oT 33 32 (.mv (.t 0)),
 oT 34 32 (.mv (.t 1)),
 oT 35 32 (.iaddr 1 (.t 33) (.t 34)),
 oT 36 32 (.load none (.t 35)),
 oT 37 32 (.mv (.t 0)),
 oT 38 32 (.mv (.t 9)),
 oT 39 32 (.iaddr 1 (.t 37) (.t 38)),
 oT 40 32 (.load none (.t 39)),
 oT 41 32 (.call 118 [.t 36,.t 40] .borrow),
 oT 42 32 (.un .not (.t 41)),
 o 43 (.pick (.t 32) (.t 42) (.c (.bool false)))]
def b119_3:List (List Nat):=[[],[],[0,1],[0,1,2],[0,1,2,3],[0,1,2,3],[0,1,2,3,4,5],[0,1,2,3,4,5,6],[0,1,2,3],[0,1,2,3],[0,1,2,3,8,9],[0,1,2,3,8,9,10],[0,1,2,3,4,5,6,7,8,9,10,11],[0,1,2,3,4,5,6,7,8,9,10,11,12],[0,1,2,3,4,5,6,7,8,9,10,11,12,13]]
def r119_4:List AOper:=[o 44 (.mv (.t 9)),
 o 45 (.bin .add (.t 44) (i64 1)),
 o 9 (.mv (.t 45))]
def l119_0:ACode:=.seq (.seq (.dreg r119_3 b119_3 []) (.cond (.t 43) (.skip) (.exit 2))) (.block 3 (.reg r119_4))
def r119_5:List AOper:=[o 46 (.mv (.t 9)),
 o 47 (.mv (.t 10)),
 o 48 (.bin .leq (.t 46) (.t 47)),
 o 49 (.mv (.t 48)),
 oT 50 49 (.mv (.t 0)),
 oT 51 49 (.mv (.t 1)),
 oT 52 49 (.iaddr 1 (.t 50) (.t 51)),
 oT 53 49 (.load none (.t 52)),
 oT 54 49 (.mv (.t 0)),
 oT 55 49 (.mv (.t 10)),
 oT 56 49 (.iaddr 1 (.t 54) (.t 55)),
 oT 57 49 (.load none (.t 56)),
 oT 58 49 (.call 118 [.t 53,.t 57] .borrow),
 o 59 (.pick (.t 49) (.t 58) (.c (.bool false)))]
def b119_5:List (List Nat):=[[],[],[0,1],[0,1,2],[0,1,2,3],[0,1,2,3],[0,1,2,3,4,5],[0,1,2,3,4,5,6],[0,1,2,3],[0,1,2,3],[0,1,2,3,8,9],[0,1,2,3,8,9,10],[0,1,2,3,4,5,6,7,8,9,10,11],[0,1,2,3,4,5,6,7,8,9,10,11,12]]
def r119_6:List AOper:=[o 60 (.mv (.t 10)),
 o 61 (.bin .sub (.t 60) (i64 1)),
 o 10 (.mv (.t 61))]
def l119_1:ACode:=.seq (.seq (.dreg r119_5 b119_5 []) (.cond (.t 59) (.skip) (.exit 4))) (.block 5 (.reg r119_6))
def r119_7:List AOper:=[o 62 (.mv (.t 9)),
 o 63 (.mv (.t 10)),
 o 64 (.bin .gtr (.t 62) (.t 63))]
def r119_8:List AOper:=[o 65 (.mv (.t 0)),
 o 66 (.mv (.t 9)),
 o 67 (.mv (.t 0)),
 o 68 (.mv (.t 10)),
 o 69 (.mv (.t 0)),
 o 70 (.mv (.t 10)),
 o 71 (.iaddr 1 (.t 69) (.t 70)),
 o 72 (.load none (.t 71)),
 o 73 (.mv (.t 0)),
 o 74 (.mv (.t 9)),
 o 75 (.iaddr 1 (.t 73) (.t 74)),
 o 76 (.load none (.t 75)),
 o 77 (.iaddr 1 (.t 65) (.t 66)),
 oN (.store 1 (.t 77) (.t 72)),
 o 78 (.iaddr 1 (.t 67) (.t 68)),
 oN (.store 1 (.t 78) (.t 76))]
def b119_8:List (List Nat):=[[],[],[],[],[],[],[4,5],[4,5,6],[],[],[8,9],[8,9,10],[0,1,4,5,6,7,8,9,10,11],[0,1,4,5,6,7,8,9,10,11,12],[0,1,2,3,4,5,6,7,8,9,10,11,12,13],[0,1,2,3,4,5,6,7,8,9,10,11,12,13,14]]
def r119_9:List AOper:=[o 79 (.mv (.t 9)),
 o 80 (.bin .add (.t 79) (i64 1)),
 o 9 (.mv (.t 80))]
def r119_10:List AOper:=[o 81 (.mv (.t 10)),
 o 82 (.bin .sub (.t 81) (i64 1)),
 o 10 (.mv (.t 82))]
def l119_2:ACode:=.block 1 (.seq (.block 2 (.loop l119_0)) (.seq (.block 4 (.loop l119_1)) (.seq (.seq (.reg r119_7) (.cond (.t 64) (.exit 0) (.skip))) (.seq (.dreg r119_8 b119_8 []) (.seq (.reg r119_9) (.reg r119_10))))))
def r119_11:List AOper:=[o 83 (.mv (.t 9)),
 o 8 (.mv (.t 83))]
def c119:ACode:=.seq (.reg r119_0) (.seq (.dreg r119_1 b119_1 []) (.seq (.reg r119_2) (.seq (.block 0 (.loop l119_2)) (.seq (.reg r119_11) (.ret)))))
def a119:AFunc:=⟨4,84,[.tmp 8],c119⟩
def r120_0:List AOper:=[o 8 (.mv (i64 0)),
 o 9 (.mv (.c (.bool false)))]
def r120_1:List AOper:=[o 12 (.mv (.t 0)),
 o 13 (.mv (.t 1)),
 o 14 (.mv (.t 0)),
 o 15 (.mv (.t 3)),
 o 16 (.mv (.t 0)),
 o 17 (.mv (.t 3)),
 o 18 (.iaddr 1 (.t 16) (.t 17)),
 o 19 (.load none (.t 18)),
 o 20 (.mv (.t 0)),
 o 21 (.mv (.t 1)),
 o 22 (.iaddr 1 (.t 20) (.t 21)),
 o 23 (.load none (.t 22)),
 o 24 (.iaddr 1 (.t 12) (.t 13)),
 oN (.store 1 (.t 24) (.t 19)),
 o 25 (.iaddr 1 (.t 14) (.t 15)),
 oN (.store 1 (.t 25) (.t 23))]
def b120_1:List (List Nat):=[[],[],[],[],[],[],[4,5],[4,5,6],[],[],[8,9],[8,9,10],[0,1,4,5,6,7,8,9,10,11],[0,1,4,5,6,7,8,9,10,11,12],[0,1,2,3,4,5,6,7,8,9,10,11,12,13],[0,1,2,3,4,5,6,7,8,9,10,11,12,13,14]]
def r120_2:List AOper:=[o 26 (.mv (.t 1)),
 o 27 (.bin .add (.t 26) (i64 1)),
 o 28 (.mv (.t 2)),
 o 29 (.bin .sub (.t 28) (i64 1)),
 o 10 (.mv (.t 27)),
 o 11 (.mv (.t 29))]
def r120_3:List AOper:=[o 30 (.mv (.t 10)),
 o 31 (.mv (.t 11)),
 o 32 (.bin .leq (.t 30) (.t 31)),
 o 33 (.mv (.t 32)),
 oT 34 33 (.mv (.t 0)),
 oT 35 33 (.mv (.t 10)),
 oT 36 33 (.iaddr 1 (.t 34) (.t 35)),
 oT 37 33 (.load none (.t 36)),
 oT 38 33 (.mv (.t 0)),
 oT 39 33 (.mv (.t 1)),
 oT 40 33 (.iaddr 1 (.t 38) (.t 39)),
 oT 41 33 (.load none (.t 40)),
 oT 42 33 (.call 118 [.t 37,.t 41] .borrow),
 o 43 (.pick (.t 33) (.t 42) (.c (.bool false)))]
def b120_3:List (List Nat):=[[],[],[0,1],[0,1,2],[0,1,2,3],[0,1,2,3],[0,1,2,3,4,5],[0,1,2,3,4,5,6],[0,1,2,3],[0,1,2,3],[0,1,2,3,8,9],[0,1,2,3,8,9,10],[0,1,2,3,4,5,6,7,8,9,10,11],[0,1,2,3,4,5,6,7,8,9,10,11,12]]
def r120_4:List AOper:=[o 44 (.mv (.t 10)),
 o 45 (.bin .add (.t 44) (i64 1)),
 o 10 (.mv (.t 45))]
def l120_0:ACode:=.seq (.seq (.dreg r120_3 b120_3 []) (.cond (.t 43) (.skip) (.exit 0))) (.block 1 (.reg r120_4))
def r120_5:List AOper:=[o 46 (.mv (.t 10)),
 o 47 (.mv (.t 11)),
 o 48 (.bin .leq (.t 46) (.t 47)),
 o 49 (.mv (.t 48)),
 oT 50 49 (.mv (.t 0)),
 oT 51 49 (.mv (.t 11)),
 oT 52 49 (.iaddr 1 (.t 50) (.t 51)),
 oT 53 49 (.load none (.t 52)),
 oT 54 49 (.mv (.t 0)),
 oT 55 49 (.mv (.t 1)),
 oT 56 49 (.iaddr 1 (.t 54) (.t 55)),
 oT 57 49 (.load none (.t 56)),
 oT 58 49 (.call 118 [.t 53,.t 57] .borrow),
 oT 59 49 (.un .not (.t 58)),
 o 60 (.pick (.t 49) (.t 59) (.c (.bool false)))]
def b120_5:List (List Nat):=[[],[],[0,1],[0,1,2],[0,1,2,3],[0,1,2,3],[0,1,2,3,4,5],[0,1,2,3,4,5,6],[0,1,2,3],[0,1,2,3],[0,1,2,3,8,9],[0,1,2,3,8,9,10],[0,1,2,3,4,5,6,7,8,9,10,11],[0,1,2,3,4,5,6,7,8,9,10,11,12],[0,1,2,3,4,5,6,7,8,9,10,11,12,13]]
def r120_6:List AOper:=[o 61 (.mv (.t 11)),
 o 62 (.bin .sub (.t 61) (i64 1)),
 o 11 (.mv (.t 62))]
def l120_1:ACode:=.seq (.seq (.dreg r120_5 b120_5 []) (.cond (.t 60) (.skip) (.exit 2))) (.block 3 (.reg r120_6))
def r120_7:List AOper:=[o 63 (.mv (.t 10)),
 o 64 (.mv (.t 11)),
 o 65 (.bin .gtr (.t 63) (.t 64))]
def r120_8:List AOper:=[o 66 (.mv (.t 0)),
 o 67 (.mv (.t 11)),
 o 68 (.mv (.t 0)),
 o 69 (.mv (.t 1)),
 o 70 (.mv (.t 0)),
 o 71 (.mv (.t 1)),
 o 72 (.iaddr 1 (.t 70) (.t 71)),
 o 73 (.load none (.t 72)),
 o 74 (.mv (.t 0)),
 o 75 (.mv (.t 11)),
 o 76 (.iaddr 1 (.t 74) (.t 75)),
 o 77 (.load none (.t 76)),
 o 78 (.iaddr 1 (.t 66) (.t 67)),
 oN (.store 1 (.t 78) (.t 73)),
 o 79 (.iaddr 1 (.t 68) (.t 69)),
 oN (.store 1 (.t 79) (.t 77))]
def b120_8:List (List Nat):=[[],[],[],[],[],[],[4,5],[4,5,6],[],[],[8,9],[8,9,10],[0,1,4,5,6,7,8,9,10,11],[0,1,4,5,6,7,8,9,10,11,12],[0,1,2,3,4,5,6,7,8,9,10,11,12,13],[0,1,2,3,4,5,6,7,8,9,10,11,12,13,14]]
def r120_9:List AOper:=[o 80 (.mv (.t 11)),
 o 8 (.mv (.t 80)),
 o 9 (.mv (.c (.bool true)))]
def r120_10:List AOper:=[o 81 (.mv (.t 0)),
 o 82 (.mv (.t 10)),
 o 83 (.mv (.t 0)),
 o 84 (.mv (.t 11)),
 o 85 (.mv (.t 0)),
 o 86 (.mv (.t 11)),
 o 87 (.iaddr 1 (.t 85) (.t 86)),
 o 88 (.load none (.t 87)),
 o 89 (.mv (.t 0)),
 o 90 (.mv (.t 10)),
 o 91 (.iaddr 1 (.t 89) (.t 90)),
 o 92 (.load none (.t 91)),
 o 93 (.iaddr 1 (.t 81) (.t 82)),
 oN (.store 1 (.t 93) (.t 88)),
 o 94 (.iaddr 1 (.t 83) (.t 84)),
 oN (.store 1 (.t 94) (.t 92))]
def b120_10:List (List Nat):=[[],[],[],[],[],[],[4,5],[4,5,6],[],[],[8,9],[8,9,10],[0,1,4,5,6,7,8,9,10,11],[0,1,4,5,6,7,8,9,10,11,12],[0,1,2,3,4,5,6,7,8,9,10,11,12,13],[0,1,2,3,4,5,6,7,8,9,10,11,12,13,14]]
def r120_11:List AOper:=[o 95 (.mv (.t 10)),
 o 96 (.bin .add (.t 95) (i64 1)),
 o 10 (.mv (.t 96))]
def r120_12:List AOper:=[o 97 (.mv (.t 11)),
 o 98 (.bin .sub (.t 97) (i64 1)),
 o 11 (.mv (.t 98))]
def r120_13:List AOper:=[o 99 (.mv (.t 10)),
 o 100 (.mv (.t 11)),
 o 101 (.bin .leq (.t 99) (.t 100)),
 o 102 (.mv (.t 101)),
 oT 103 102 (.mv (.t 0)),
 oT 104 102 (.mv (.t 10)),
 oT 105 102 (.iaddr 1 (.t 103) (.t 104)),
 oT 106 102 (.load none (.t 105)),
 oT 107 102 (.mv (.t 0)),
 oT 108 102 (.mv (.t 1)),
 oT 109 102 (.iaddr 1 (.t 107) (.t 108)),
 oT 110 102 (.load none (.t 109)),
 oT 111 102 (.call 118 [.t 106,.t 110] .borrow),
 o 112 (.pick (.t 102) (.t 111) (.c (.bool false)))]
def b120_13:List (List Nat):=[[],[],[0,1],[0,1,2],[0,1,2,3],[0,1,2,3],[0,1,2,3,4,5],[0,1,2,3,4,5,6],[0,1,2,3],[0,1,2,3],[0,1,2,3,8,9],[0,1,2,3,8,9,10],[0,1,2,3,4,5,6,7,8,9,10,11],[0,1,2,3,4,5,6,7,8,9,10,11,12]]
def r120_14:List AOper:=[o 113 (.mv (.t 10)),
 o 114 (.bin .add (.t 113) (i64 1)),
 o 10 (.mv (.t 114))]
def l120_2:ACode:=.seq (.seq (.dreg r120_13 b120_13 []) (.cond (.t 112) (.skip) (.exit 6))) (.block 7 (.reg r120_14))
def r120_15:List AOper:=[o 115 (.mv (.t 10)),
 o 116 (.mv (.t 11)),
 o 117 (.bin .leq (.t 115) (.t 116)),
 o 118 (.mv (.t 117)),
 oT 119 118 (.mv (.t 0)),
 oT 120 118 (.mv (.t 11)),
 oT 121 118 (.iaddr 1 (.t 119) (.t 120)),
 oT 122 118 (.load none (.t 121)),
 oT 123 118 (.mv (.t 0)),
 oT 124 118 (.mv (.t 1)),
 oT 125 118 (.iaddr 1 (.t 123) (.t 124)),
 oT 126 118 (.load none (.t 125)),
 oT 127 118 (.call 118 [.t 122,.t 126] .borrow),
 oT 128 118 (.un .not (.t 127)),
 o 129 (.pick (.t 118) (.t 128) (.c (.bool false)))]
def b120_15:List (List Nat):=[[],[],[0,1],[0,1,2],[0,1,2,3],[0,1,2,3],[0,1,2,3,4,5],[0,1,2,3,4,5,6],[0,1,2,3],[0,1,2,3],[0,1,2,3,8,9],[0,1,2,3,8,9,10],[0,1,2,3,4,5,6,7,8,9,10,11],[0,1,2,3,4,5,6,7,8,9,10,11,12],[0,1,2,3,4,5,6,7,8,9,10,11,12,13]]
def r120_16:List AOper:=[o 130 (.mv (.t 11)),
 o 131 (.bin .sub (.t 130) (i64 1)),
 o 11 (.mv (.t 131))]
def l120_3:ACode:=.seq (.seq (.dreg r120_15 b120_15 []) (.cond (.t 129) (.skip) (.exit 8))) (.block 9 (.reg r120_16))
def r120_17:List AOper:=[o 132 (.mv (.t 10)),
 o 133 (.mv (.t 11)),
 o 134 (.bin .gtr (.t 132) (.t 133))]
def r120_18:List AOper:=[o 135 (.mv (.t 0)),
 o 136 (.mv (.t 10)),
 o 137 (.mv (.t 0)),
 o 138 (.mv (.t 11)),
 o 139 (.mv (.t 0)),
 o 140 (.mv (.t 11)),
 o 141 (.iaddr 1 (.t 139) (.t 140)),
 o 142 (.load none (.t 141)),
 o 143 (.mv (.t 0)),
 o 144 (.mv (.t 10)),
 o 145 (.iaddr 1 (.t 143) (.t 144)),
 o 146 (.load none (.t 145)),
 o 147 (.iaddr 1 (.t 135) (.t 136)),
 oN (.store 1 (.t 147) (.t 142)),
 o 148 (.iaddr 1 (.t 137) (.t 138)),
 oN (.store 1 (.t 148) (.t 146))]
def b120_18:List (List Nat):=[[],[],[],[],[],[],[4,5],[4,5,6],[],[],[8,9],[8,9,10],[0,1,4,5,6,7,8,9,10,11],[0,1,4,5,6,7,8,9,10,11,12],[0,1,2,3,4,5,6,7,8,9,10,11,12,13],[0,1,2,3,4,5,6,7,8,9,10,11,12,13,14]]
def r120_19:List AOper:=[o 149 (.mv (.t 10)),
 o 150 (.bin .add (.t 149) (i64 1)),
 o 10 (.mv (.t 150))]
def r120_20:List AOper:=[o 151 (.mv (.t 11)),
 o 152 (.bin .sub (.t 151) (i64 1)),
 o 11 (.mv (.t 152))]
def l120_4:ACode:=.block 5 (.seq (.block 6 (.loop l120_2)) (.seq (.block 8 (.loop l120_3)) (.seq (.seq (.reg r120_17) (.cond (.t 134) (.exit 4) (.skip))) (.seq (.dreg r120_18 b120_18 []) (.seq (.reg r120_19) (.reg r120_20))))))
def r120_21:List AOper:=[o 153 (.mv (.t 0)),
 o 154 (.mv (.t 11)),
 o 155 (.mv (.t 0)),
 o 156 (.mv (.t 1)),
 o 157 (.mv (.t 0)),
 o 158 (.mv (.t 1)),
 o 159 (.iaddr 1 (.t 157) (.t 158)),
 o 160 (.load none (.t 159)),
 o 161 (.mv (.t 0)),
 o 162 (.mv (.t 11)),
 o 163 (.iaddr 1 (.t 161) (.t 162)),
 o 164 (.load none (.t 163)),
 o 165 (.iaddr 1 (.t 153) (.t 154)),
 oN (.store 1 (.t 165) (.t 160)),
 o 166 (.iaddr 1 (.t 155) (.t 156)),
 oN (.store 1 (.t 166) (.t 164))]
def b120_21:List (List Nat):=[[],[],[],[],[],[],[4,5],[4,5,6],[],[],[8,9],[8,9,10],[0,1,4,5,6,7,8,9,10,11],[0,1,4,5,6,7,8,9,10,11,12],[0,1,2,3,4,5,6,7,8,9,10,11,12,13],[0,1,2,3,4,5,6,7,8,9,10,11,12,13,14]]
def r120_22:List AOper:=[o 167 (.mv (.t 11)),
 o 8 (.mv (.t 167)),
 o 9 (.mv (.c (.bool false)))]
def c120:ACode:=.seq (.reg r120_0) (.seq (.dreg r120_1 b120_1 []) (.seq (.reg r120_2) (.seq (.block 0 (.loop l120_0)) (.seq (.block 2 (.loop l120_1)) (.seq (.seq (.reg r120_7) (.cond (.t 65) (.seq (.dreg r120_8 b120_8 []) (.seq (.reg r120_9) (.ret))) (.skip))) (.seq (.dreg r120_10 b120_10 []) (.seq (.reg r120_11) (.seq (.reg r120_12) (.seq (.block 4 (.loop l120_4)) (.seq (.dreg r120_21 b120_21 []) (.seq (.reg r120_22) (.ret))))))))))))
def a120:AFunc:=⟨4,168,[.tmp 8,.tmp 9],c120⟩
def r121_0:List AOper:=[o 2 (.mv (i64 0))]
def r121_1:List AOper:=[o 3 (.mv (.t 0)),
 o 4 (.bin .geq (.t 3) (.c (.int .u32 65536)))]
def r121_2:List AOper:=[o 5 (.mv (.t 0)),
 o 6 (.bin .shr (.t 5) (.c (.int .u64 16))),
 o 0 (.mv (.t 6))]
def r121_3:List AOper:=[o 2 (.mv (i64 16))]
def r121_4:List AOper:=[o 7 (.mv (.t 0)),
 o 8 (.bin .geq (.t 7) (.c (.int .u32 256)))]
def r121_5:List AOper:=[o 9 (.mv (.t 0)),
 o 10 (.bin .shr (.t 9) (.c (.int .u64 8))),
 o 0 (.mv (.t 10))]
def r121_6:List AOper:=[o 11 (.mv (.t 2)),
 o 12 (.bin .add (.t 11) (i64 8)),
 o 2 (.mv (.t 12))]
def r121_7:List AOper:=[o 13 (.mv (.t 2)),
 o 14 (.mv (.t 0)),
 o 15 (.conv .u8 (.t 14)),
 o 16 (.idx (.c (.str ⟨#[0,1,2,2,3,3,3,3,4,4,4,4,4,4,4,4,5,5,5,5,5,5,5,5,5,5,5,5,5,5,5,5,6,6,6,6,6,6,6,6,6,6,6,6,6,6,6,6,6,6,6,6,6,6,6,6,6,6,6,6,6,6,6,6,7,7,7,7,7,7,7,7,7,7,7,7,7,7,7,7,7,7,7,7,7,7,7,7,7,7,7,7,7,7,7,7,7,7,7,7,7,7,7,7,7,7,7,7,7,7,7,7,7,7,7,7,7,7,7,7,7,7,7,7,7,7,7,7,8,8,8,8,8,8,8,8,8,8,8,8,8,8,8,8,8,8,8,8,8,8,8,8,8,8,8,8,8,8,8,8,8,8,8,8,8,8,8,8,8,8,8,8,8,8,8,8,8,8,8,8,8,8,8,8,8,8,8,8,8,8,8,8,8,8,8,8,8,8,8,8,8,8,8,8,8,8,8,8,8,8,8,8,8,8,8,8,8,8,8,8,8,8,8,8,8,8,8,8,8,8,8,8,8,8,8,8,8,8,8,8,8,8,8,8,8,8,8,8,8,8,8,8,8,8,8,8]⟩)) (.t 15)),
 o 17 (.conv .i64 (.t 16)),
 o 18 (.bin .add (.t 13) (.t 17)),
 o 2 (.mv (.t 18))]
def c121:ACode:=.seq (.reg r121_0) (.seq (.seq (.reg r121_1) (.cond (.t 4) (.seq (.reg r121_2) (.reg r121_3)) (.skip))) (.seq (.seq (.reg r121_4) (.cond (.t 8) (.seq (.reg r121_5) (.reg r121_6)) (.skip))) (.seq (.reg r121_7) (.ret))))
def a121:AFunc:=⟨1,19,[.tmp 2],c121⟩
def r122_0:List AOper:=[o 2 (.mv (i64 0))]
def r122_1:List AOper:=[o 3 (.mv (.t 0)),
 o 4 (.bin .geq (.t 3) (.c (.int .u64 4294967296)))]
def r122_2:List AOper:=[o 5 (.mv (.t 0)),
 o 6 (.bin .shr (.t 5) (.c (.int .u64 32))),
 o 0 (.mv (.t 6))]
def r122_3:List AOper:=[o 2 (.mv (i64 32))]
def r122_4:List AOper:=[o 7 (.mv (.t 0)),
 o 8 (.bin .geq (.t 7) (.c (.int .u64 65536)))]
def r122_5:List AOper:=[o 9 (.mv (.t 0)),
 o 10 (.bin .shr (.t 9) (.c (.int .u64 16))),
 o 0 (.mv (.t 10))]
def r122_6:List AOper:=[o 11 (.mv (.t 2)),
 o 12 (.bin .add (.t 11) (i64 16)),
 o 2 (.mv (.t 12))]
def r122_7:List AOper:=[o 13 (.mv (.t 0)),
 o 14 (.bin .geq (.t 13) (.c (.int .u64 256)))]
def r122_8:List AOper:=[o 15 (.mv (.t 0)),
 o 16 (.bin .shr (.t 15) (.c (.int .u64 8))),
 o 0 (.mv (.t 16))]
def r122_9:List AOper:=[o 17 (.mv (.t 2)),
 o 18 (.bin .add (.t 17) (i64 8)),
 o 2 (.mv (.t 18))]
def r122_10:List AOper:=[o 19 (.mv (.t 2)),
 o 20 (.mv (.t 0)),
 o 21 (.conv .u8 (.t 20)),
 o 22 (.idx (.c (.str ⟨#[0,1,2,2,3,3,3,3,4,4,4,4,4,4,4,4,5,5,5,5,5,5,5,5,5,5,5,5,5,5,5,5,6,6,6,6,6,6,6,6,6,6,6,6,6,6,6,6,6,6,6,6,6,6,6,6,6,6,6,6,6,6,6,6,7,7,7,7,7,7,7,7,7,7,7,7,7,7,7,7,7,7,7,7,7,7,7,7,7,7,7,7,7,7,7,7,7,7,7,7,7,7,7,7,7,7,7,7,7,7,7,7,7,7,7,7,7,7,7,7,7,7,7,7,7,7,7,7,8,8,8,8,8,8,8,8,8,8,8,8,8,8,8,8,8,8,8,8,8,8,8,8,8,8,8,8,8,8,8,8,8,8,8,8,8,8,8,8,8,8,8,8,8,8,8,8,8,8,8,8,8,8,8,8,8,8,8,8,8,8,8,8,8,8,8,8,8,8,8,8,8,8,8,8,8,8,8,8,8,8,8,8,8,8,8,8,8,8,8,8,8,8,8,8,8,8,8,8,8,8,8,8,8,8,8,8,8,8,8,8,8,8,8,8,8,8,8,8,8,8,8,8,8,8,8,8]⟩)) (.t 21)),
 o 23 (.conv .i64 (.t 22)),
 o 24 (.bin .add (.t 19) (.t 23)),
 o 2 (.mv (.t 24))]
def c122:ACode:=.seq (.reg r122_0) (.seq (.seq (.reg r122_1) (.cond (.t 4) (.seq (.reg r122_2) (.reg r122_3)) (.skip))) (.seq (.seq (.reg r122_4) (.cond (.t 8) (.seq (.reg r122_5) (.reg r122_6)) (.skip))) (.seq (.seq (.reg r122_7) (.cond (.t 14) (.seq (.reg r122_8) (.reg r122_9)) (.skip))) (.seq (.reg r122_10) (.ret)))))
def a122:AFunc:=⟨1,25,[.tmp 2],c122⟩
def r123_0:List AOper:=[o 2 (.box (.t 0)),
 o 4 (.mv (.c (.bool false)))]
def r123_1:List AOper:=[o 6 (.faddr 0 (.t 2)),
 o 7 (.load none (.t 6)),
 o 8 (.bin .eql (.t 7) (i64 1)),
 o 5 (.mv (.t 8))]
def r123_2:List AOper:=[o 9 (.faddr 1 (.t 2)),
 o 10 (.load none (.t 9)),
 o 11 (.bin .geq (.t 10) (i64 0)),
 o 12 (.mv (.t 11)),
 oT 13 12 (.faddr 1 (.t 2)),
 oT 14 12 (.load none (.t 13)),
 oT 15 12 (.bin .leq (.t 14) (i64 2147483647)),
 o 16 (.pick (.t 12) (.t 15) (.c (.bool false))),
 o 17 (.mv (.t 16)),
 oT 18 17 (.faddr 2 (.t 2)),
 oT 19 17 (.load none (.t 18)),
 oT 20 17 (.bin .eql (.t 19) (i64 0)),
 o 21 (.pick (.t 17) (.t 20) (.c (.bool false))),
 o 22 (.mv (.t 21)),
 oT 23 22 (.faddr 3 (.t 2)),
 oT 24 22 (.load none (.t 23)),
 oT 25 22 (.len false (.t 24)),
 oT 26 22 (.bin .eql (.t 25) (i64 0)),
 o 27 (.pick (.t 22) (.t 26) (.c (.bool false))),
 o 4 (.mv (.t 27))]
def r123_3:List AOper:=[o 29 (.faddr 0 (.t 2)),
 o 30 (.load none (.t 29)),
 o 31 (.bin .eql (.t 30) (i64 2)),
 o 28 (.mv (.t 31))]
def r123_4:List AOper:=[o 32 (.faddr 1 (.t 2)),
 o 33 (.load none (.t 32)),
 o 34 (.bin .eql (.t 33) (i64 0)),
 o 35 (.mv (.t 34)),
 oT 36 35 (.faddr 2 (.t 2)),
 oT 37 35 (.load none (.t 36)),
 oT 38 35 (.bin .geq (.t 37) (i64 0)),
 o 39 (.pick (.t 35) (.t 38) (.c (.bool false))),
 o 40 (.mv (.t 39)),
 oT 41 40 (.faddr 2 (.t 2)),
 oT 42 40 (.load none (.t 41)),
 oT 43 40 (.mv (.t 1)),
 oT 44 40 (.bin .lss (.t 42) (.t 43)),
 o 45 (.pick (.t 40) (.t 44) (.c (.bool false))),
 o 46 (.mv (.t 45)),
 oT 47 46 (.faddr 3 (.t 2)),
 oT 48 46 (.load none (.t 47)),
 oT 49 46 (.len false (.t 48)),
 oT 50 46 (.bin .eql (.t 49) (i64 0)),
 o 51 (.pick (.t 46) (.t 50) (.c (.bool false))),
 o 4 (.mv (.t 51))]
def r123_5:List AOper:=[o 53 (.faddr 0 (.t 2)),
 o 54 (.load none (.t 53)),
 o 55 (.bin .eql (.t 54) (i64 3)),
 o 52 (.mv (.t 55))]
def r123_6:List AOper:=[o 56 (.faddr 1 (.t 2)),
 o 57 (.load none (.t 56)),
 o 58 (.bin .eql (.t 57) (i64 0)),
 o 59 (.mv (.t 58)),
 oT 60 59 (.faddr 2 (.t 2)),
 oT 61 59 (.load none (.t 60)),
 oT 62 59 (.bin .eql (.t 61) (i64 0)),
 o 63 (.pick (.t 59) (.t 62) (.c (.bool false))),
 o 64 (.mv (.t 63)),
 oT 65 64 (.faddr 3 (.t 2)),
 oT 66 64 (.load none (.t 65)),
 oT 67 64 (.len false (.t 66)),
 oT 68 64 (.bin .eql (.t 67) (i64 1)),
 o 69 (.pick (.t 64) (.t 68) (.c (.bool false))),
 o 70 (.mv (.t 69)),
 oT 71 70 (.faddr 3 (.t 2)),
 oT 72 70 (.load none (.t 71)),
 oT 73 70 (.iaddr 4 (.t 72) (i64 0)),
 oT 74 70 (.load (some 4) (.t 73)),
 oT 75 70 (.mv (.t 1)),
 oT 76 70 (.call 123 [.t 74,.t 75] .borrow),
 o 77 (.pick (.t 70) (.t 76) (.c (.bool false))),
 o 4 (.mv (.t 77))]
def r123_7:List AOper:=[o 79 (.faddr 0 (.t 2)),
 o 80 (.load none (.t 79)),
 o 81 (.bin .geq (.t 80) (i64 4)),
 o 82 (.mv (.t 81)),
 oT 83 82 (.faddr 0 (.t 2)),
 oT 84 82 (.load none (.t 83)),
 oT 85 82 (.bin .leq (.t 84) (i64 8)),
 o 86 (.pick (.t 82) (.t 85) (.c (.bool false))),
 o 78 (.mv (.t 86))]
def r123_8:List AOper:=[o 87 (.faddr 1 (.t 2)),
 o 88 (.load none (.t 87)),
 o 89 (.bin .eql (.t 88) (i64 0)),
 o 90 (.mv (.t 89)),
 oT 91 90 (.faddr 2 (.t 2)),
 oT 92 90 (.load none (.t 91)),
 oT 93 90 (.bin .eql (.t 92) (i64 0)),
 o 94 (.pick (.t 90) (.t 93) (.c (.bool false))),
 o 95 (.mv (.t 94)),
 oT 96 95 (.faddr 3 (.t 2)),
 oT 97 95 (.load none (.t 96)),
 oT 98 95 (.len false (.t 97)),
 oT 99 95 (.bin .eql (.t 98) (i64 2)),
 o 100 (.pick (.t 95) (.t 99) (.c (.bool false))),
 o 101 (.mv (.t 100)),
 oT 102 101 (.faddr 3 (.t 2)),
 oT 103 101 (.load none (.t 102)),
 oT 104 101 (.iaddr 4 (.t 103) (i64 0)),
 oT 105 101 (.load (some 4) (.t 104)),
 oT 106 101 (.mv (.t 1)),
 oT 107 101 (.call 123 [.t 105,.t 106] .borrow),
 o 108 (.pick (.t 101) (.t 107) (.c (.bool false))),
 o 109 (.mv (.t 108)),
 oT 110 109 (.faddr 3 (.t 2)),
 oT 111 109 (.load none (.t 110)),
 oT 112 109 (.iaddr 4 (.t 111) (i64 1)),
 oT 113 109 (.load (some 4) (.t 112)),
 oT 114 109 (.mv (.t 1)),
 oT 115 109 (.call 123 [.t 113,.t 114] .borrow),
 o 116 (.pick (.t 109) (.t 115) (.c (.bool false))),
 o 4 (.mv (.t 116))]
def r123_9:List AOper:=[o 4 (.mv (.c (.bool false)))]
def c123:ACode:=.seq (.reg r123_0) (.seq (.block 0 (.seq (.reg r123_1) (.cond (.t 5) (.seq (.reg r123_2) (.ret)) (.seq (.reg r123_3) (.cond (.t 28) (.seq (.reg r123_4) (.ret)) (.seq (.reg r123_5) (.cond (.t 52) (.seq (.reg r123_6) (.ret)) (.seq (.reg r123_7) (.cond (.t 78) (.seq (.reg r123_8) (.ret)) (.skip)))))))))) (.seq (.reg r123_9) (.ret)))
def a123:AFunc:=⟨2,117,[.tmp 4],c123⟩
def r124_0:List AOper:=[o 1 (.box (.t 0)),
 o 2 (.mv (.c (.bool false)))]
def r124_1:List AOper:=[o 3 (.faddr 0 (.t 1)),
 o 4 (.load none (.t 3)),
 o 5 (.bin .eql (.t 4) (i64 0)),
 o 6 (.mv (.t 5)),
 oT 7 6 (.faddr 1 (.t 1)),
 oT 8 6 (.load (some 4) (.t 7)),
 oT 9 6 (.call 125 [.t 8] .borrow),
 o 10 (.pick (.t 6) (.t 9) (.c (.bool false))),
 o 11 (.mv (.t 10)),
 oT 12 11 (.faddr 5 (.t 1)),
 oT 13 11 (.load (some 4) (.t 12)),
 oT 14 11 (.call 125 [.t 13] .borrow),
 o 15 (.pick (.t 11) (.t 14) (.c (.bool false))),
 o 2 (.mv (.t 15))]
def c124:ACode:=.seq (.reg r124_0) (.seq (.reg r124_1) (.ret))
def a124:AFunc:=⟨1,16,[.tmp 2],c124⟩
def r125_0:List AOper:=[o 1 (.box (.t 0)),
 o 2 (.mv (.c (.bool false)))]
def r125_1:List AOper:=[o 3 (.faddr 0 (.t 1)),
 o 4 (.load none (.t 3)),
 o 5 (.bin .eql (.t 4) (i64 0)),
 o 6 (.mv (.t 5)),
 oT 7 6 (.faddr 1 (.t 1)),
 oT 8 6 (.load none (.t 7)),
 oT 9 6 (.bin .eql (.t 8) (i64 0)),
 o 10 (.pick (.t 6) (.t 9) (.c (.bool false))),
 o 11 (.mv (.t 10)),
 oT 12 11 (.faddr 2 (.t 1)),
 oT 13 11 (.load none (.t 12)),
 oT 14 11 (.bin .eql (.t 13) (i64 0)),
 o 15 (.pick (.t 11) (.t 14) (.c (.bool false))),
 o 16 (.mv (.t 15)),
 oT 17 16 (.faddr 3 (.t 1)),
 oT 18 16 (.load none (.t 17)),
 oT 19 16 (.len false (.t 18)),
 oT 20 16 (.bin .eql (.t 19) (i64 0)),
 o 21 (.pick (.t 16) (.t 20) (.c (.bool false))),
 o 2 (.mv (.t 21))]
def c125:ACode:=.seq (.reg r125_0) (.seq (.reg r125_1) (.ret))
def a125:AFunc:=⟨1,22,[.tmp 2],c125⟩
def r126_0:List AOper:=[o 2 (.box (.t 0)),
 o 4 (.mv (.c (.bool false)))]
def r126_1:List AOper:=[o 5 (.faddr 0 (.t 2)),
 o 6 (.load none (.t 5)),
 o 7 (.bin .geq (.t 6) (i64 1)),
 o 8 (.mv (.t 7)),
 oT 9 8 (.faddr 0 (.t 2)),
 oT 10 8 (.load none (.t 9)),
 oT 11 8 (.bin .leq (.t 10) (i64 6)),
 o 12 (.pick (.t 8) (.t 11) (.c (.bool false))),
 o 13 (.mv (.t 12)),
 oT 14 13 (.faddr 1 (.t 2)),
 oT 15 13 (.load (some 4) (.t 14)),
 oT 16 13 (.mv (.t 1)),
 oT 17 13 (.call 123 [.t 15,.t 16] .borrow),
 o 18 (.pick (.t 13) (.t 17) (.c (.bool false))),
 o 19 (.mv (.t 18)),
 oT 20 19 (.faddr 5 (.t 2)),
 oT 21 19 (.load (some 4) (.t 20)),
 oT 22 19 (.mv (.t 1)),
 oT 23 19 (.call 123 [.t 21,.t 22] .borrow),
 o 24 (.pick (.t 19) (.t 23) (.c (.bool false))),
 o 4 (.mv (.t 24))]
def c126:ACode:=.seq (.reg r126_0) (.seq (.reg r126_1) (.ret))
def a126:AFunc:=⟨2,25,[.tmp 4],c126⟩
def r136_0:List AOper:=[o 1 (.box (.t 0)),
 o 2 (.mv (.c (.nils))),
 o 3 (.mv (.c (.bool false)))]
def r136_1:List AOper:=[o 7 (.faddr 2 (.t 1)),
 o 8 (.load none (.t 7)),
 o 9 (.bin .eql (.t 8) (i64 0))]
def r136_2:List AOper:=[o 10 (.faddr 4 (.t 1)),
 o 11 (.load none (.t 10)),
 o 12 (.faddr 5 (.t 1)),
 o 13 (.load none (.t 12)),
 o 14 (.faddr 6 (.t 1)),
 o 15 (.load (some 4) (.t 14)),
 o 16 (.faddr 10 (.t 1)),
 o 17 (.load (some 9) (.t 16)),
 o 18 (.build [zi,zi,zi,zi,zi,zi,zi,.nils,zi,zi,zi,zi,.nils,zi,zi,zi,.nils,.nils,.nils,.nils] [(0,1,(i64 7)),(2,1,(.t 11)),(3,1,(.t 13)),(4,4,(.t 15)),(8,9,(.t 17))]),
 o 4 (.alloc [zi,zi,zi,zi,zi,zi,zi,.nils,zi,zi,zi,zi,.nils,zi,zi,zi,.nils,.nils,.nils,.nils]),
 oN (.store 20 (.t 4) (.t 18))]
def r136_3:List AOper:=[o 19 (.load (some 20) (.t 4)),
 ⟨some 20,.islice 1 [zi,zi,zi,zi,zi,zi,zi,.nils,zi,zi,zi,zi,.nils,zi,zi,zi,.nils,.nils,.nils,.nils] [(0,20,(.t 19))],none,true⟩,
 o 21 (.faddr 3 (.t 1)),
 o 22 (.load none (.t 21)),
 o 23 (.bin .eql (.t 22) (i64 0)),
 o 2 (.mv (.t 20)),
 o 3 (.mv (.t 23))]
def b136_3:List (List Nat):=[[],[0],[],[2],[2,3],[0,1],[0,1,2,3,4,5]]
def r136_4:List AOper:=[o 25 (.load (some 19) (.t 1)),
 o 26 (.call 163 [.t 25] .borrow),
 o 24 (.mv (.t 26)),
 o 27 (.ext 0 (.t 24)),
 o 28 (.ext 1 (.t 24)),
 o 5 (.alloc [zi,zi,zi,zi,zi,zi,zi,.nils,zi,zi,zi,zi,.nils,zi,zi,zi,.nils,.nils,.nils,.nils]),
 oN (.store 20 (.t 5) (.t 27)),
 o 6 (.mv (.t 28))]
def r136_5:List AOper:=[o 29 (.load (some 20) (.t 5)),
 ⟨some 30,.islice 1 [zi,zi,zi,zi,zi,zi,zi,.nils,zi,zi,zi,zi,.nils,zi,zi,zi,.nils,.nils,.nils,.nils] [(0,20,(.t 29))],none,true⟩,
 o 31 (.mv (.t 6)),
 o 2 (.mv (.t 30)),
 o 3 (.mv (.t 31))]
def c136:ACode:=.seq (.reg r136_0) (.seq (.seq (.reg r136_1) (.cond (.t 9) (.seq (.reg r136_2) (.seq (.dreg r136_3 b136_3 [(1,3)]) (.ret))) (.skip))) (.seq (.reg r136_4) (.seq (.reg r136_5) (.ret))))
def a136:AFunc:=⟨1,32,[.tmp 2,.tmp 3],c136⟩
def r137_0:List AOper:=[o 2 (.mv (.c (.nils)))]
def r137_1:List AOper:=[o 3 (.mv (.t 0)),
 o 4 (.eq .slice false (.t 3) (.c (.nils)))]
def r137_2:List AOper:=[o 2 (.mv (.c (.nils)))]
def r137_3:List AOper:=[o 5 (.islice 0 [] []),
 o 6 (.mv (.t 0)),
 o 7 (.app 2 32 (.t 5) (.t 6)),
 o 2 (.mv (.t 7))]
def c137:ACode:=.seq (.reg r137_0) (.seq (.seq (.reg r137_1) (.cond (.t 4) (.seq (.reg r137_2) (.ret)) (.skip))) (.seq (.reg r137_3) (.ret)))
def a137:AFunc:=⟨1,8,[.tmp 2],c137⟩
def r138_0:List AOper:=[o 2 (.mv (.c (.bool false)))]
def r138_1:List AOper:=[o 3 (.alloc [.bool false,.bool false,.bool false,.bool false])]
def r138_2:List AOper:=[o 6 (.mv (.t 0)),
 o 7 (.len false (.t 6)),
 o 8 (.mv (i64 0))]
def r138_3:List AOper:=[o 9 (.bin .lss (.t 8) (.t 7))]
def r138_4:List AOper:=[o 10 (.iaddr 19 (.t 6) (.t 8)),
 o 11 (.load (some 19) (.t 10)),
 o 5 (.alloc [zi,zi,zi,zi,zi,zi,zi,zi,zi,.nils,zi,zi,zi,zi,.nils,zi,zi,zi,.nils]),
 oN (.store 19 (.t 5) (.t 11))]
def r138_5:List AOper:=[o 12 (.faddr 2 (.t 5)),
 o 13 (.load none (.t 12)),
 o 14 (.bin .neq (.t 13) (i64 4)),
 o 15 (.mv (.t 14)),
 oF 16 15 (.faddr 4 (.t 5)),
 oF 17 15 (.load none (.t 16)),
 oF 18 15 (.mv (.t 0)),
 oF 19 15 (.iaddr 19 (.t 18) (i64 0)),
 oF 20 15 (.faddr 4 (.t 19)),
 oF 21 15 (.load none (.t 20)),
 oF 22 15 (.bin .neq (.t 17) (.t 21)),
 o 23 (.pick (.t 15) (.c (.bool true)) (.t 22)),
 o 24 (.mv (.t 23)),
 oF 25 24 (.faddr 5 (.t 5)),
 oF 26 24 (.load none (.t 25)),
 oF 27 24 (.iarr 4 1 (.t 3) (.t 26)),
 oF 28 24 (.load none (.t 27)),
 o 29 (.pick (.t 24) (.c (.bool true)) (.t 28))]
def b138_5:List (List Nat):=[[],[0],[0,1],[0,1,2],[0,1,2,3],[0,1,2,3,4],[0,1,2,3],[0,1,2,3,6],[0,1,2,3,6,7],[0,1,2,3,6,7,8],[0,1,2,3,4,5,6,7,8,9],[0,1,2,3,4,5,6,7,8,9,10],[0,1,2,3,4,5,6,7,8,9,10,11],[0,1,2,3,4,5,6,7,8,9,10,11,12],[0,1,2,3,4,5,6,7,8,9,10,11,12,13],[0,1,2,3,4,5,6,7,8,9,10,11,12,13,14],[0,1,2,3,4,5,6,7,8,9,10,11,12,13,14,15],[0,1,2,3,4,5,6,7,8,9,10,11,12,13,14,15,16]]
def r138_6:List AOper:=[o 2 (.mv (.c (.bool false)))]
def r138_7:List AOper:=[o 30 (.faddr 5 (.t 5)),
 o 31 (.load none (.t 30)),
 o 32 (.iarr 4 1 (.t 3) (.t 31)),
 oN (.store 1 (.t 32) (.c (.bool true)))]
def r138_8:List AOper:=[o 33 (.bin .add (.t 8) (i64 1)),
 o 8 (.mv (.t 33))]
def l138_0:ACode:=.seq (.reg r138_3) (.seq (.cond (.t 9) (.skip) (.exit 0)) (.seq (.block 1 (.seq (.reg r138_4) (.seq (.seq (.dreg r138_5 b138_5 []) (.cond (.t 29) (.seq (.reg r138_6) (.ret)) (.skip))) (.reg r138_7)))) (.reg r138_8)))
def r138_9:List AOper:=[o 2 (.mv (.c (.bool true)))]
def c138:ACode:=.seq (.reg r138_0) (.seq (.reg r138_1) (.seq (.seq (.reg r138_2) (.block 0 (.loop l138_0))) (.seq (.reg r138_9) (.ret))))
def a138:AFunc:=⟨1,34,[.tmp 2],c138⟩
def r139_0:List AOper:=[o 2 (.box (.t 0)),
 o 3 (.box (.t 1)),
 o 4 (.mv (.c (.bool false)))]
def r139_1:List AOper:=[o 6 (.faddr 10 (.t 2)),
 o 7 (.load (some 9) (.t 6)),
 o 8 (.call 109 [.t 7] .borrow),
 o 5 (.alloc [zi,zi,zi,zi,.nils,zi,zi,zi,.nils]),
 oN (.store 9 (.t 5) (.t 8))]
def r139_2:List AOper:=[o 9 (.faddr 2 (.t 2)),
 o 10 (.load none (.t 9)),
 o 11 (.bin .eql (.t 10) (i64 2)),
 o 12 (.mv (.t 11)),
 oT 13 12 (.faddr 2 (.t 3)),
 oT 14 12 (.load none (.t 13)),
 oT 15 12 (.bin .eql (.t 14) (i64 2)),
 o 16 (.pick (.t 12) (.t 15) (.c (.bool false))),
 o 17 (.mv (.t 16)),
 oT 18 17 (.faddr 0 (.t 5)),
 oT 19 17 (.load none (.t 18)),
 oT 20 17 (.faddr 10 (.t 3)),
 oT 21 17 (.faddr 0 (.t 20)),
 oT 22 17 (.load none (.t 21)),
 oT 23 17 (.bin .eql (.t 19) (.t 22)),
 o 24 (.pick (.t 17) (.t 23) (.c (.bool false))),
 o 25 (.mv (.t 24)),
 oT 26 25 (.faddr 1 (.t 5)),
 oT 27 25 (.load (some 4) (.t 26)),
 oT 28 25 (.faddr 10 (.t 3)),
 oT 29 25 (.faddr 1 (.t 28)),
 oT 30 25 (.load (some 4) (.t 29)),
 oT 31 25 (.call 164 [.t 27,.t 30] .borrow),
 o 32 (.pick (.t 25) (.t 31) (.c (.bool false))),
 o 33 (.mv (.t 32)),
 oT 34 33 (.faddr 5 (.t 5)),
 oT 35 33 (.load (some 4) (.t 34)),
 oT 36 33 (.faddr 10 (.t 3)),
 oT 37 33 (.faddr 5 (.t 36)),
 oT 38 33 (.load (some 4) (.t 37)),
 oT 39 33 (.call 164 [.t 35,.t 38] .borrow),
 o 40 (.pick (.t 33) (.t 39) (.c (.bool false))),
 o 4 (.mv (.t 40))]
def c139:ACode:=.seq (.reg r139_0) (.seq (.reg r139_1) (.seq (.reg r139_2) (.ret)))
def a139:AFunc:=⟨2,41,[.tmp 4],c139⟩
def r140_0:List AOper:=[o 4 (.mv (.c (.bool false)))]
def r140_1:List AOper:=[o 5 (.mv (.t 0)),
 o 6 (.mv (.t 1)),
 o 7 (.call 165 [.t 5,.t 6] .borrow),
 o 8 (.bin .geq (.t 7) (i64 0)),
 o 4 (.mv (.t 8))]
def c140:ACode:=.seq (.reg r140_0) (.seq (.reg r140_1) (.ret))
def a140:AFunc:=⟨2,9,[.tmp 4],c140⟩
def r141_0:List AOper:=[o 1 (.box (.t 0)),
 o 2 (.mv (.c (.bool false)))]
def r141_1:List AOper:=[o 3 (.faddr 0 (.t 1)),
 o 4 (.load none (.t 3)),
 o 5 (.bin .eql (.t 4) (i64 0)),
 o 6 (.mv (.t 5)),
 oT 7 6 (.faddr 1 (.t 1)),
 oT 8 6 (.load none (.t 7)),
 oT 9 6 (.bin .eql (.t 8) (i64 0)),
 o 10 (.pick (.t 6) (.t 9) (.c (.bool false))),
 o 11 (.mv (.t 10)),
 oT 12 11 (.faddr 2 (.t 1)),
 oT 13 11 (.load none (.t 12)),
 oT 14 11 (.bin .eql (.t 13) (i64 0)),
 o 15 (.pick (.t 11) (.t 14) (.c (.bool false))),
 o 16 (.mv (.t 15)),
 oT 17 16 (.faddr 3 (.t 1)),
 oT 18 16 (.load none (.t 17)),
 oT 19 16 (.len false (.t 18)),
 oT 20 16 (.bin .eql (.t 19) (i64 0)),
 o 21 (.pick (.t 16) (.t 20) (.c (.bool false))),
 o 2 (.mv (.t 21))]
def c141:ACode:=.seq (.reg r141_0) (.seq (.reg r141_1) (.ret))
def a141:AFunc:=⟨1,22,[.tmp 2],c141⟩
def r142_0:List AOper:=[o 1 (.box (.t 0)),
 o 2 (.mv (.c (.bool false)))]
def r142_1:List AOper:=[o 3 (.faddr 0 (.t 1)),
 o 4 (.load none (.t 3)),
 o 5 (.bin .eql (.t 4) (i64 0)),
 o 6 (.mv (.t 5)),
 oT 7 6 (.faddr 1 (.t 1)),
 oT 8 6 (.load (some 4) (.t 7)),
 oT 9 6 (.call 141 [.t 8] .borrow),
 o 10 (.pick (.t 6) (.t 9) (.c (.bool false))),
 o 11 (.mv (.t 10)),
 oT 12 11 (.faddr 5 (.t 1)),
 oT 13 11 (.load (some 4) (.t 12)),
 oT 14 11 (.call 141 [.t 13] .borrow),
 o 15 (.pick (.t 11) (.t 14) (.c (.bool false))),
 o 2 (.mv (.t 15))]
def c142:ACode:=.seq (.reg r142_0) (.seq (.reg r142_1) (.ret))
def a142:AFunc:=⟨1,16,[.tmp 2],c142⟩
def r143_0:List AOper:=[o 2 (.box (.t 0)),
 o 4 (.mv (.c (.bool false)))]
def r143_1:List AOper:=[o 7 (.faddr 3 (.t 2)),
 o 8 (.load none (.t 7)),
 o 9 (.len false (.t 8)),
 o 10 (.faddr 0 (.t 2)),
 o 11 (.load none (.t 10)),
 o 12 (.call 166 [.t 11] .borrow),
 o 13 (.bin .neq (.t 9) (.t 12))]
def b143_1:List (List Nat):=[[],[0],[0,1],[],[3],[3,4],[0,1,2,3,4,5]]
def r143_2:List AOper:=[o 4 (.mv (.c (.bool false)))]
def r143_3:List AOper:=[o 14 (.faddr 0 (.t 2)),
 o 15 (.load none (.t 14)),
 o 16 (.bin .neq (.t 15) (i64 1)),
 o 17 (.mv (.t 16)),
 oT 18 17 (.faddr 1 (.t 2)),
 oT 19 17 (.load none (.t 18)),
 oT 20 17 (.bin .neq (.t 19) (i64 0)),
 o 21 (.pick (.t 17) (.t 20) (.c (.bool false))),
 o 22 (.mv (.t 21)),
 oF 23 22 (.faddr 0 (.t 2)),
 oF 24 22 (.load none (.t 23)),
 oF 25 22 (.bin .neq (.t 24) (i64 2)),
 oF 26 22 (.mv (.t 25)),
 oT 27 26 (.faddr 2 (.t 2)),
 oT 28 26 (.load none (.t 27)),
 oT 29 26 (.bin .neq (.t 28) (i64 0)),
 oF 30 22 (.pick (.t 26) (.t 29) (.c (.bool false))),
 o 31 (.pick (.t 22) (.c (.bool true)) (.t 30)),
 o 32 (.mv (.t 31)),
 oF 33 32 (.faddr 0 (.t 2)),
 oF 34 32 (.load none (.t 33)),
 oF 35 32 (.bin .eql (.t 34) (i64 2)),
 oF 36 32 (.mv (.t 35)),
 oT 37 36 (.faddr 2 (.t 2)),
 oT 38 36 (.load none (.t 37)),
 oT 39 36 (.mv (.t 1)),
 oT 40 36 (.bin .sub (.t 39) (i64 1)),
 oT 41 36 (.call 81 [.t 38,(i64 0),.t 40] .borrow),
 oT 42 36 (.un .not (.t 41)),
 oF 43 32 (.pick (.t 36) (.t 42) (.c (.bool false))),
 o 44 (.pick (.t 32) (.c (.bool true)) (.t 43))]
def r143_4:List AOper:=[o 4 (.mv (.c (.bool false)))]
def r143_5:List AOper:=[o 45 (.faddr 3 (.t 2)),
 o 46 (.load none (.t 45)),
 o 47 (.len false (.t 46)),
 o 48 (.mv (i64 0))]
def r143_6:List AOper:=[o 49 (.bin .lss (.t 48) (.t 47))]
def r143_7:List AOper:=[o 50 (.iaddr 4 (.t 46) (.t 48)),
 o 51 (.load (some 4) (.t 50)),
 o 6 (.alloc [zi,zi,zi,.nils]),
 oN (.store 4 (.t 6) (.t 51))]
def r143_8:List AOper:=[o 52 (.load (some 4) (.t 6)),
 o 53 (.mv (.t 1)),
 o 54 (.call 143 [.t 52,.t 53] .borrow),
 o 55 (.un .not (.t 54))]
def r143_9:List AOper:=[o 4 (.mv (.c (.bool false)))]
def r143_10:List AOper:=[o 56 (.bin .add (.t 48) (i64 1)),
 o 48 (.mv (.t 56))]
def l143_0:ACode:=.seq (.reg r143_6) (.seq (.cond (.t 49) (.skip) (.exit 0)) (.seq (.block 1 (.seq (.reg r143_7) (.seq (.reg r143_8) (.cond (.t 55) (.seq (.reg r143_9) (.ret)) (.skip))))) (.reg r143_10)))
def r143_11:List AOper:=[o 57 (.faddr 1 (.t 2)),
 o 58 (.load none (.t 57)),
 o 59 (.call 81 [.t 58,(i64 0),(i64 2147483647)] .borrow),
 o 4 (.mv (.t 59))]
def c143:ACode:=.seq (.reg r143_0) (.seq (.seq (.dreg r143_1 b143_1 []) (.cond (.t 13) (.seq (.reg r143_2) (.ret)) (.skip))) (.seq (.seq (.reg r143_3) (.cond (.t 44) (.seq (.reg r143_4) (.ret)) (.skip))) (.seq (.seq (.reg r143_5) (.block 0 (.loop l143_0))) (.seq (.reg r143_11) (.ret)))))
def a143:AFunc:=⟨2,60,[.tmp 4],c143⟩
def r144_0:List AOper:=[o 2 (.box (.t 0)),
 o 4 (.mv (.c (.bool false)))]
def r144_1:List AOper:=[o 5 (.faddr 0 (.t 2)),
 o 6 (.load none (.t 5)),
 o 7 (.call 81 [.t 6,(i64 1),(i64 6)] .borrow),
 o 8 (.mv (.t 7)),
 oT 9 8 (.faddr 1 (.t 2)),
 oT 10 8 (.load (some 4) (.t 9)),
 oT 11 8 (.mv (.t 1)),
 oT 12 8 (.call 143 [.t 10,.t 11] .borrow),
 o 13 (.pick (.t 8) (.t 12) (.c (.bool false))),
 o 14 (.mv (.t 13)),
 oT 15 14 (.faddr 5 (.t 2)),
 oT 16 14 (.load (some 4) (.t 15)),
 oT 17 14 (.mv (.t 1)),
 oT 18 14 (.call 143 [.t 16,.t 17] .borrow),
 o 19 (.pick (.t 14) (.t 18) (.c (.bool false))),
 o 4 (.mv (.t 19))]
def c144:ACode:=.seq (.reg r144_0) (.seq (.reg r144_1) (.ret))
def a144:AFunc:=⟨2,20,[.tmp 4],c144⟩
def r145_0:List AOper:=[o 3 (.box (.t 0)),
 o 6 (.mv (.c (.bool false)))]
def r145_1:List AOper:=[o 7 (.mv (.t 1)),
 o 8 (.faddr 0 (.t 3)),
 o 9 (.faddr 0 (.t 8)),
 o 10 (.load none (.t 9)),
 o 11 (.len false (.t 10)),
 o 12 (.bin .sub (.t 11) (i64 1)),
 o 13 (.call 81 [.t 7,(i64 0),.t 12] .borrow),
 o 14 (.mv (.t 13)),
 oT 15 14 (.mv (.t 2)),
 oT 16 14 (.faddr 0 (.t 3)),
 oT 17 14 (.faddr 0 (.t 16)),
 oT 18 14 (.load none (.t 17)),
 oT 19 14 (.mv (.t 1)),
 oT 20 14 (.iaddr 6 (.t 18) (.t 19)),
 oT 21 14 (.load (some 6) (.t 20)),
 oT 22 14 (.callv (.t 15) [.t 21] .borrow),
 oT 23 14 (.faddr 2 (.t 3)),
 oT 24 14 (.load none (.t 23)),
 oT 25 14 (.bin .eql (.t 22) (.t 24)),
 o 26 (.pick (.t 14) (.t 25) (.c (.bool false))),
 o 6 (.mv (.t 26))]
def b145_1:List (List Nat):=[[],[],[1],[1,2],[1,2,3],[1,2,3,4],[0,1,2,3,4,5],[0,1,2,3,4,5,6],[0,1,2,3,4,5,6,7],[0,1,2,3,4,5,6,7],[0,1,2,3,4,5,6,7,9],[0,1,2,3,4,5,6,7,9,10],[0,1,2,3,4,5,6,7],[0,1,2,3,4,5,6,7,9,10,11,12],[0,1,2,3,4,5,6,7,9,10,11,12,13],[0,1,2,3,4,5,6,7,8,9,10,11,12,13,14],[0,1,2,3,4,5,6,7],[0,1,2,3,4,5,6,7,16],[0,1,2,3,4,5,6,7,8,9,10,11,12,13,14,15,16,17],[0,1,2,3,4,5,6,7,8,9,10,11,12,13,14,15,16,17,18],[0,1,2,3,4,5,6,7,8,9,10,11,12,13,14,15,16,17,18,19]]
def c145:ACode:=.seq (.reg r145_0) (.seq (.dreg r145_1 b145_1 []) (.ret))
def a145:AFunc:=⟨3,27,[.tmp 6],c145⟩
def r146_0:List AOper:=[o 1 (.box (.t 0)),
 o 2 (.mv (i64 0))]
def r146_1:List AOper:=[o 3 (.faddr 2 (.t 1)),
 o 4 (.load none (.t 3)),
 o 2 (.mv (.t 4))]
def c146:ACode:=.seq (.reg r146_0) (.seq (.reg r146_1) (.ret))
def a146:AFunc:=⟨1,5,[.tmp 2],c146⟩
def r147_0:List AOper:=[o 3 (.box (.t 0)),
 o 6 (.mv (.c (.bool false)))]
def r147_1:List AOper:=[o 7 (.mv (.t 2)),
 o 8 (.faddr 0 (.t 3)),
 o 9 (.faddr 0 (.t 8)),
 o 10 (.load none (.t 9)),
 o 11 (.mv (.t 1)),
 o 12 (.iaddr 6 (.t 10) (.t 11)),
 o 13 (.faddr 4 (.t 12)),
 o 14 (.load none (.t 13)),
 o 15 (.bin .sub (.t 14) (i64 1)),
 o 16 (.call 81 [.t 7,(i64 0),.t 15] .borrow),
 o 6 (.mv (.t 16))]
def c147:ACode:=.seq (.reg r147_0) (.seq (.reg r147_1) (.ret))
def a147:AFunc:=⟨3,17,[.tmp 6],c147⟩
def r148_0:List AOper:=[o 1 (.box (.t 0)),
 o 2 (.mv (i64 0))]
def r148_1:List AOper:=[o 3 (.faddr 3 (.t 1)),
 o 4 (.load none (.t 3)),
 o 2 (.mv (.t 4))]
def c148:ACode:=.seq (.reg r148_0) (.seq (.reg r148_1) (.ret))
def a148:AFunc:=⟨1,5,[.tmp 2],c148⟩
def r149_0:List AOper:=[o 3 (.box (.t 0)),
 o 6 (.mv (.c (.bool false)))]
def r149_1:List AOper:=[o 7 (.alloc [.bool false,.bool false,.bool false,.bool false])]
def r149_2:List AOper:=[o 10 (.mv (.t 2)),
 o 11 (.len false (.t 10)),
 o 12 (.mv (i64 0))]
def r149_3:List AOper:=[o 13 (.bin .lss (.t 12) (.t 11))]
def r149_4:List AOper:=[o 14 (.iaddr 3 (.t 10) (.t 12)),
 o 15 (.load (some 3) (.t 14)),
 o 9 (.alloc [zi,zi,.nils]),
 oN (.store 3 (.t 9) (.t 15))]
def r149_5:List AOper:=[o 16 (.load (some 4) (.t 3)),
 o 17 (.mv (.t 1)),
 o 18 (.faddr 0 (.t 9)),
 o 19 (.load none (.t 18)),
 o 20 (.call 147 [.t 16,.t 17,.t 19] .borrow),
 o 21 (.un .not (.t 20)),
 o 22 (.mv (.t 21)),
 oF 23 22 (.faddr 0 (.t 9)),
 oF 24 22 (.load none (.t 23)),
 oF 25 22 (.iarr 4 1 (.t 7) (.t 24)),
 oF 26 22 (.load none (.t 25)),
 o 27 (.pick (.t 22) (.c (.bool true)) (.t 26)),
 o 28 (.mv (.t 27)),
 oF 29 28 (.faddr 1 (.t 9)),
 oF 30 28 (.load none (.t 29)),
 oF 31 28 (.faddr 3 (.t 3)),
 oF 32 28 (.load none (.t 31)),
 oF 33 28 (.bin .sub (.t 32) (i64 1)),
 oF 34 28 (.call 81 [.t 30,(i64 0),.t 33] .borrow),
 oF 35 28 (.un .not (.t 34)),
 o 36 (.pick (.t 28) (.c (.bool true)) (.t 35)),
 o 37 (.mv (.t 36)),
 oF 38 37 (.load (some 4) (.t 3)),
 oF 39 37 (.faddr 2 (.t 9)),
 oF 40 37 (.load none (.t 39)),
 oF 41 37 (.call 83 [.t 38,.t 40] .borrow),
 oF 42 37 (.un .not (.t 41)),
 o 43 (.pick (.t 37) (.c (.bool true)) (.t 42))]
def r149_6:List AOper:=[o 6 (.mv (.c (.bool false)))]
def r149_7:List AOper:=[o 44 (.faddr 0 (.t 9)),
 o 45 (.load none (.t 44)),
 o 46 (.iarr 4 1 (.t 7) (.t 45)),
 oN (.store 1 (.t 46) (.c (.bool true)))]
def r149_8:List AOper:=[o 47 (.bin .add (.t 12) (i64 1)),
 o 12 (.mv (.t 47))]
def l149_0:ACode:=.seq (.reg r149_3) (.seq (.cond (.t 13) (.skip) (.exit 0)) (.seq (.block 1 (.seq (.reg r149_4) (.seq (.seq (.reg r149_5) (.cond (.t 43) (.seq (.reg r149_6) (.ret)) (.skip))) (.reg r149_7)))) (.reg r149_8)))
def r149_9:List AOper:=[o 48 (.mv (.t 2)),
 o 49 (.len false (.t 48)),
 o 50 (.bin .gtr (.t 49) (i64 0)),
 o 6 (.mv (.t 50))]
def c149:ACode:=.seq (.reg r149_0) (.seq (.reg r149_1) (.seq (.seq (.reg r149_2) (.block 0 (.loop l149_0))) (.seq (.reg r149_9) (.ret))))
def a149:AFunc:=⟨3,51,[.tmp 6],c149⟩
def r150_0:List AOper:=[o 10 (.mv (.t 1)),
 o 8 (.mv (.t 10))]
def r150_1:List AOper:=[o 11 (.mv (.t 8)),
 o 12 (.bin .mul (i64 2) (.t 11)),
 o 13 (.bin .add (.t 12) (i64 1)),
 o 9 (.mv (.t 13))]
def r150_2:List AOper:=[o 14 (.mv (.t 9)),
 o 15 (.mv (.t 2)),
 o 16 (.bin .geq (.t 14) (.t 15))]
def r150_3:List AOper:=[o 17 (.mv (.t 9)),
 o 18 (.bin .add (.t 17) (i64 1)),
 o 19 (.mv (.t 2)),
 o 20 (.bin .lss (.t 18) (.t 19)),
 o 21 (.mv (.t 20)),
 oT 22 21 (.mv (.t 0)),
 oT 23 21 (.mv (.t 3)),
 oT 24 21 (.mv (.t 9)),
 oT 25 21 (.bin .add (.t 23) (.t 24)),
 oT 26 21 (.iaddr 1 (.t 22) (.t 25)),
 oT 27 21 (.load none (.t 26)),
 oT 28 21 (.mv (.t 0)),
 oT 29 21 (.mv (.t 3)),
 oT 30 21 (.mv (.t 9)),
 oT 31 21 (.bin .add (.t 29) (.t 30)),
 oT 32 21 (.bin .add (.t 31) (i64 1)),
 oT 33 21 (.iaddr 1 (.t 28) (.t 32)),
 oT 34 21 (.load none (.t 33)),
 oT 35 21 (.call 118 [.t 27,.t 34] .borrow),
 o 36 (.pick (.t 21) (.t 35) (.c (.bool false)))]
def b150_3:List (List Nat):=[[],[0],[],[0,1,2],[0,1,2,3],[0,1,2,3,4],[0,1,2,3,4],[0,1,2,3,4],[0,1,2,3,4,6,7],[0,1,2,3,4,5,6,7,8],[0,1,2,3,4,5,6,7,8,9],[0,1,2,3,4],[0,1,2,3,4],[0,1,2,3,4],[0,1,2,3,4,12,13],[0,1,2,3,4,12,13,14],[0,1,2,3,4,11,12,13,14,15],[0,1,2,3,4,11,12,13,14,15,16],[0,1,2,3,4,5,6,7,8,9,10,11,12,13,14,15,16,17],[0,1,2,3,4,5,6,7,8,9,10,11,12,13,14,15,16,17,18]]
def r150_4:List AOper:=[o 37 (.mv (.t 9)),
 o 38 (.bin .add (.t 37) (i64 1)),
 o 9 (.mv (.t 38))]
def r150_5:List AOper:=[o 39 (.mv (.t 0)),
 o 40 (.mv (.t 3)),
 o 41 (.mv (.t 8)),
 o 42 (.bin .add (.t 40) (.t 41)),
 o 43 (.iaddr 1 (.t 39) (.t 42)),
 o 44 (.load none (.t 43)),
 o 45 (.mv (.t 0)),
 o 46 (.mv (.t 3)),
 o 47 (.mv (.t 9)),
 o 48 (.bin .add (.t 46) (.t 47)),
 o 49 (.iaddr 1 (.t 45) (.t 48)),
 o 50 (.load none (.t 49)),
 o 51 (.call 118 [.t 44,.t 50] .borrow),
 o 52 (.un .not (.t 51))]
def b150_5:List (List Nat):=[[],[],[],[1,2],[0,1,2,3],[0,1,2,3,4],[],[],[],[7,8],[6,7,8,9],[6,7,8,9,10],[0,1,2,3,4,5,6,7,8,9,10,11],[0,1,2,3,4,5,6,7,8,9,10,11,12]]
def r150_6:List AOper:=[o 53 (.mv (.t 0)),
 o 54 (.mv (.t 3)),
 o 55 (.mv (.t 8)),
 o 56 (.bin .add (.t 54) (.t 55)),
 o 57 (.mv (.t 0)),
 o 58 (.mv (.t 3)),
 o 59 (.mv (.t 9)),
 o 60 (.bin .add (.t 58) (.t 59)),
 o 61 (.mv (.t 0)),
 o 62 (.mv (.t 3)),
 o 63 (.mv (.t 9)),
 o 64 (.bin .add (.t 62) (.t 63)),
 o 65 (.iaddr 1 (.t 61) (.t 64)),
 o 66 (.load none (.t 65)),
 o 67 (.mv (.t 0)),
 o 68 (.mv (.t 3)),
 o 69 (.mv (.t 8)),
 o 70 (.bin .add (.t 68) (.t 69)),
 o 71 (.iaddr 1 (.t 67) (.t 70)),
 o 72 (.load none (.t 71)),
 o 73 (.iaddr 1 (.t 53) (.t 56)),
 oN (.store 1 (.t 73) (.t 66)),
 o 74 (.iaddr 1 (.t 57) (.t 60)),
 oN (.store 1 (.t 74) (.t 72))]
def b150_6:List (List Nat):=[[],[],[],[1,2],[],[],[],[5,6],[],[],[],[9,10],[8,9,10,11],[8,9,10,11,12],[],[],[],[15,16],[14,15,16,17],[14,15,16,17,18],[0,1,2,3,8,9,10,11,12,13,14,15,16,17,18,19],[0,1,2,3,8,9,10,11,12,13,14,15,16,17,18,19,20],[0,1,2,3,4,5,6,7,8,9,10,11,12,13,14,15,16,17,18,19,20,21],[0,1,2,3,4,5,6,7,8,9,10,11,12,13,14,15,16,17,18,19,20,21,22]]
def r150_7:List AOper:=[o 75 (.mv (.t 9)),
 o 8 (.mv (.t 75))]
def l150_0:ACode:=.block 1 (.seq (.reg r150_1) (.seq (.seq (.reg r150_2) (.cond (.t 16) (.exit 0) (.skip))) (.seq (.seq (.dreg r150_3 b150_3 []) (.cond (.t 36) (.reg r150_4) (.skip))) (.seq (.seq (.dreg r150_5 b150_5 []) (.cond (.t 52) (.ret) (.skip))) (.seq (.dreg r150_6 b150_6 []) (.reg r150_7))))))
def c150:ACode:=.seq (.reg r150_0) (.block 0 (.loop l150_0))
def a150:AFunc:=⟨4,76,[],c150⟩
def r151_0:List AOper:=[o 2 (.mv (.c (.int .u64 0)))]
def r151_1:List AOper:=[o 3 (.mv (.t 0)),
 o 4 (.conv .u64 (.t 3)),
 o 5 (.call 88 [.t 4] .borrow),
 o 6 (.bin .shl (.c (.int .u64 1)) (.t 5)),
 o 2 (.mv (.t 6))]
def c151:ACode:=.seq (.reg r151_0) (.seq (.reg r151_1) (.ret))
def a151:AFunc:=⟨1,7,[.tmp 2],c151⟩
def r152_0:List AOper:=[o 2 (.mv (.c (.int .u64 0)))]
def r152_1:List AOper:=[o 3 (.mv (.t 0)),
 o 4 (.nilck (.t 3)),
 o 5 (.load none (.t 4)),
 o 6 (.mv (.t 0)),
 o 7 (.nilck (.t 6)),
 o 8 (.load none (.t 7)),
 o 9 (.bin .shl (.t 8) (.c (.int .u64 13))),
 o 10 (.bin .xor (.t 5) (.t 9)),
 o 11 (.nilck (.t 3)),
 oN (.store 1 (.t 11) (.t 10))]
def b152_1:List (List Nat):=[[],[0],[0,1],[],[3],[3,4],[3,4,5],[0,1,2,3,4,5,6],[0,1,2,3,4,5,6,7],[0,1,2,3,4,5,6,7,8]]
def r152_2:List AOper:=[o 12 (.mv (.t 0)),
 o 13 (.nilck (.t 12)),
 o 14 (.load none (.t 13)),
 o 15 (.mv (.t 0)),
 o 16 (.nilck (.t 15)),
 o 17 (.load none (.t 16)),
 o 18 (.bin .shr (.t 17) (.c (.int .u64 7))),
 o 19 (.bin .xor (.t 14) (.t 18)),
 o 20 (.nilck (.t 12)),
 oN (.store 1 (.t 20) (.t 19))]
def b152_2:List (List Nat):=[[],[0],[0,1],[],[3],[3,4],[3,4,5],[0,1,2,3,4,5,6],[0,1,2,3,4,5,6,7],[0,1,2,3,4,5,6,7,8]]
def r152_3:List AOper:=[o 21 (.mv (.t 0)),
 o 22 (.nilck (.t 21)),
 o 23 (.load none (.t 22)),
 o 24 (.mv (.t 0)),
 o 25 (.nilck (.t 24)),
 o 26 (.load none (.t 25)),
 o 27 (.bin .shl (.t 26) (.c (.int .u64 17))),
 o 28 (.bin .xor (.t 23) (.t 27)),
 o 29 (.nilck (.t 21)),
 oN (.store 1 (.t 29) (.t 28))]
def b152_3:List (List Nat):=[[],[0],[0,1],[],[3],[3,4],[3,4,5],[0,1,2,3,4,5,6],[0,1,2,3,4,5,6,7],[0,1,2,3,4,5,6,7,8]]
def r152_4:List AOper:=[o 30 (.mv (.t 0)),
 o 31 (.nilck (.t 30)),
 o 32 (.load none (.t 31)),
 o 2 (.mv (.t 32))]
def c152:ACode:=.seq (.reg r152_0) (.seq (.dreg r152_1 b152_1 []) (.seq (.dreg r152_2 b152_2 []) (.seq (.dreg r152_3 b152_3 []) (.seq (.reg r152_4) (.ret)))))
def a152:AFunc:=⟨1,33,[.tmp 2],c152⟩
def r153_0:List AOper:=[o 6 (.mv (i64 0))]
def r153_1:List AOper:=[o 7 (.mv (.t 0)),
 o 8 (.mv (.t 1)),
 o 9 (.bin .sub (.t 8) (i64 1)),
 o 10 (.mv (.t 1)),
 o 11 (.mv (.t 1)),
 o 12 (.bin .add (.t 11) (i64 1)),
 o 13 (.mv (.t 2)),
 o 14 (.call 154 [.t 7,.t 9,.t 10,.t 12,.t 13] .share),
 o 6 (.mv (.t 14))]
def c153:ACode:=.seq (.reg r153_0) (.seq (.reg r153_1) (.ret))
def a153:AFunc:=⟨3,15,[.tmp 6],c153⟩
def r154_0:List AOper:=[o 10 (.mv (i64 0))]
def r154_1:List AOper:=[o 12 (.mv (.t 0)),
 o 13 (.mv (.t 1)),
 o 14 (.mv (.t 2)),
 o 15 (.mv (.t 4)),
 o 16 (.call 167 [.t 12,.t 13,.t 14,.t 15] .share),
 o 11 (.mv (.t 16)),
 o 17 (.ext 0 (.t 11)),
 o 18 (.ext 1 (.t 11)),
 o 1 (.mv (.t 17)),
 o 2 (.mv (.t 18))]
def r154_2:List AOper:=[o 20 (.mv (.t 0)),
 o 21 (.mv (.t 2)),
 o 22 (.mv (.t 3)),
 o 23 (.mv (.t 4)),
 o 24 (.call 167 [.t 20,.t 21,.t 22,.t 23] .share),
 o 19 (.mv (.t 24)),
 o 25 (.ext 0 (.t 19)),
 o 26 (.ext 1 (.t 19)),
 o 2 (.mv (.t 25)),
 o 3 (.mv (.t 26))]
def r154_3:List AOper:=[o 28 (.mv (.t 0)),
 o 29 (.mv (.t 1)),
 o 30 (.mv (.t 2)),
 o 31 (.mv (.t 4)),
 o 32 (.call 167 [.t 28,.t 29,.t 30,.t 31] .share),
 o 27 (.mv (.t 32)),
 o 33 (.ext 0 (.t 27)),
 o 34 (.ext 1 (.t 27)),
 o 1 (.mv (.t 33)),
 o 2 (.mv (.t 34))]
def r154_4:List AOper:=[o 35 (.mv (.t 2)),
 o 10 (.mv (.t 35))]
def c154:ACode:=.seq (.reg r154_0) (.seq (.reg r154_1) (.seq (.reg r154_2) (.seq (.reg r154_3) (.seq (.reg r154_4) (.ret)))))
def a154:AFunc:=⟨5,36,[.tmp 10],c154⟩
def r155_0:List AOper:=[o 2 (.mv (.c (.bool false)))]
def r155_1:List AOper:=[o 3 (.mv (.t 0)),
 o 4 (.mv (.t 0)),
 o 5 (.bin .neq (.t 3) (.t 4)),
 o 2 (.mv (.t 5))]
def c155:ACode:=.seq (.reg r155_0) (.seq (.reg r155_1) (.ret))
def a155:AFunc:=⟨1,6,[.tmp 2],c155⟩
def r163_0:List AOper:=[o 1 (.box (.t 0)),
 o 2 (.alloc [zi,zi,zi,zi,zi,zi,zi,.nils,zi,zi,zi,zi,.nils,zi,zi,zi,.nils,.nils,.nils,.nils]),
 o 3 (.mv (.c (.bool false)))]
def r163_1:List AOper:=[o 5 (.faddr 3 (.t 1)),
 o 6 (.load none (.t 5)),
 o 7 (.faddr 4 (.t 1)),
 o 8 (.load none (.t 7)),
 o 9 (.faddr 5 (.t 1)),
 o 10 (.load none (.t 9)),
 o 11 (.faddr 6 (.t 1)),
 o 12 (.load (some 4) (.t 11)),
 o 13 (.faddr 10 (.t 1)),
 o 14 (.load (some 9) (.t 13)),
 o 15 (.build [zi,zi,zi,zi,zi,zi,zi,.nils,zi,zi,zi,zi,.nils,zi,zi,zi,.nils,.nils,.nils,.nils] [(1,1,(.t 6)),(2,1,(.t 8)),(3,1,(.t 10)),(4,4,(.t 12)),(8,9,(.t 14))]),
 o 4 (.alloc [zi,zi,zi,zi,zi,zi,zi,.nils,zi,zi,zi,zi,.nils,zi,zi,zi,.nils,.nils,.nils,.nils]),
 oN (.store 20 (.t 4) (.t 15))]
def r163_2:List AOper:=[o 16 (.faddr 2 (.t 1)),
 o 17 (.load none (.t 16))]
def r163_4:List AOper:=[o 20 (.bin .eql (.t 17) (i64 1)),
 o 19 (.mv (.t 20))]
def r163_5:List AOper:=[o 21 (.faddr 0 (.t 4)),
 oN (.store 1 (.t 21) (i64 1))]
def r163_6:List AOper:=[o 23 (.bin .eql (.t 17) (i64 2)),
 o 22 (.mv (.t 23))]
def r163_7:List AOper:=[o 24 (.bin .eql (.t 17) (i64 5)),
 o 22 (.mv (.t 24))]
def r163_8:List AOper:=[o 25 (.faddr 0 (.t 4)),
 oN (.store 1 (.t 25) (i64 6))]
def r163_9:List AOper:=[o 27 (.bin .eql (.t 17) (i64 3)),
 o 26 (.mv (.t 27))]
def r163_10:List AOper:=[o 28 (.faddr 0 (.t 4)),
 oN (.store 1 (.t 28) (i64 4))]
def r163_11:List AOper:=[o 30 (.bin .eql (.t 17) (i64 6)),
 o 29 (.mv (.t 30))]
def r163_12:List AOper:=[o 31 (.faddr 0 (.t 4)),
 oN (.store 1 (.t 31) (i64 7))]
def r163_13:List AOper:=[o 33 (.bin .eql (.t 17) (i64 4)),
 o 32 (.mv (.t 33))]
def r163_14:List AOper:=[o 34 (.faddr 0 (.t 4)),
 oN (.store 1 (.t 34) (i64 5))]
def r163_15:List AOper:=[o 35 (.faddr 5 (.t 1)),
 o 36 (.load none (.t 35)),
 o 37 (.faddr 3 (.t 1)),
 o 38 (.load none (.t 37)),
 o 39 (.build [zi,zi,.nils] [(0,1,(.t 36)),(1,1,(.t 38))]),
 ⟨some 40,.islice 1 [zi,zi,.nils] [(0,3,(.t 39))],none,true⟩,
 o 41 (.faddr 19 (.t 4)),
 oN (.store 1 (.t 41) (.t 40))]
def r163_16:List AOper:=[o 42 (.faddr 1 (.t 4)),
 oN (.store 1 (.t 42) (i64 0)),
 o 43 (.faddr 3 (.t 4)),
 oN (.store 1 (.t 43) (i64 0))]
def r163_3:List AOper:=[o 18 (.load (some 20) (.t 4)),
 oN (.store 20 (.t 2) (.t 18)),
 o 3 (.mv (.c (.bool false)))]
def r163_17:List AOper:=[o 44 (.load (some 20) (.t 4)),
 oN (.store 20 (.t 2) (.t 44)),
 o 3 (.mv (.c (.bool true)))]
def c163:ACode:=.seq (.reg r163_0) (.seq (.reg r163_1) (.seq (.seq (.reg r163_2) (.block 0 (.seq (.reg r163_4) (.cond (.t 19) (.reg r163_5) (.seq (.seq (.reg r163_6) (.cond (.t 22) (.skip) (.reg r163_7))) (.cond (.t 22) (.reg r163_8) (.seq (.reg r163_9) (.cond (.t 26) (.reg r163_10) (.seq (.reg r163_11) (.cond (.t 29) (.reg r163_12) (.seq (.reg r163_13) (.cond (.t 32) (.seq (.reg r163_14) (.seq (.reg r163_15) (.reg r163_16))) (.seq (.reg r163_3) (.ret)))))))))))))) (.seq (.reg r163_17) (.ret))))
def a163:AFunc:=⟨1,45,[.cell 2 (some 20),.tmp 3],c163⟩
def r164_0:List AOper:=[o 2 (.box (.t 0)),
 o 3 (.box (.t 1)),
 o 4 (.mv (.c (.bool false)))]
def r164_1:List AOper:=[o 5 (.faddr 0 (.t 2)),
 o 6 (.load none (.t 5)),
 o 7 (.faddr 0 (.t 3)),
 o 8 (.load none (.t 7)),
 o 9 (.bin .eql (.t 6) (.t 8)),
 o 10 (.mv (.t 9)),
 oT 11 10 (.faddr 1 (.t 2)),
 oT 12 10 (.load none (.t 11)),
 oT 13 10 (.faddr 1 (.t 3)),
 oT 14 10 (.load none (.t 13)),
 oT 15 10 (.bin .eql (.t 12) (.t 14)),
 o 16 (.pick (.t 10) (.t 15) (.c (.bool false))),
 o 17 (.mv (.t 16)),
 oT 18 17 (.faddr 2 (.t 2)),
 oT 19 17 (.load none (.t 18)),
 oT 20 17 (.faddr 2 (.t 3)),
 oT 21 17 (.load none (.t 20)),
 oT 22 17 (.bin .eql (.t 19) (.t 21)),
 o 23 (.pick (.t 17) (.t 22) (.c (.bool false))),
 o 24 (.mv (.t 23)),
 oT 25 24 (.faddr 3 (.t 2)),
 oT 26 24 (.load none (.t 25)),
 oT 27 24 (.faddr 3 (.t 3)),
 oT 28 24 (.load none (.t 27)),
 oT 29 24 (.call 169 [.t 26,.t 28,(.c (.func 164))] .borrow),
 o 30 (.pick (.t 24) (.t 29) (.c (.bool false))),
 o 4 (.mv (.t 30))]
def c164:ACode:=.seq (.reg r164_0) (.seq (.reg r164_1) (.ret))
def a164:AFunc:=⟨2,31,[.tmp 4],c164⟩
def r165_0:List AOper:=[o 4 (.mv (i64 0))]
def r165_1:List AOper:=[o 6 (.mv (.t 0)),
 o 7 (.len false (.t 6)),
 o 8 (.mv (i64 0))]
def r165_2:List AOper:=[o 9 (.bin .lss (.t 8) (.t 7))]
def r165_3:List AOper:=[o 10 (.mv (.t 8)),
 o 5 (.mv (.t 10))]
def r165_4:List AOper:=[o 11 (.mv (.t 1)),
 o 12 (.mv (.t 0)),
 o 13 (.mv (.t 5)),
 o 14 (.iaddr 1 (.t 12) (.t 13)),
 o 15 (.load none (.t 14)),
 o 16 (.bin .eql (.t 11) (.t 15))]
def r165_5:List AOper:=[o 17 (.mv (.t 5)),
 o 4 (.mv (.t 17))]
def r165_6:List AOper:=[o 18 (.bin .add (.t 8) (i64 1)),
 o 8 (.mv (.t 18))]
def l165_0:ACode:=.seq (.reg r165_2) (.seq (.cond (.t 9) (.skip) (.exit 0)) (.seq (.block 1 (.seq (.reg r165_3) (.seq (.reg r165_4) (.cond (.t 16) (.seq (.reg r165_5) (.ret)) (.skip))))) (.reg r165_6)))
def r165_7:List AOper:=[o 4 (.mv (i64 (-1)))]
def c165:ACode:=.seq (.reg r165_0) (.seq (.seq (.reg r165_1) (.block 0 (.loop l165_0))) (.seq (.reg r165_7) (.ret)))
def a165:AFunc:=⟨2,19,[.tmp 4],c165⟩
def r166_0:List AOper:=[o 2 (.mv (i64 0))]
def r166_1:List AOper:=[o 4 (.mv (.t 0)),
 o 5 (.bin .eql (.t 4) (i64 1)),
 o 6 (.mv (.t 5)),
 oF 7 6 (.mv (.t 0)),
 oF 8 6 (.bin .eql (.t 7) (i64 2)),
 o 9 (.pick (.t 6) (.c (.bool true)) (.t 8)),
 o 3 (.mv (.t 9))]
def r166_2:List AOper:=[o 2 (.mv (i64 0))]
def r166_3:List AOper:=[o 11 (.mv (.t 0)),
 o 12 (.bin .eql (.t 11) (i64 3)),
 o 10 (.mv (.t 12))]
def r166_4:List AOper:=[o 2 (.mv (i64 1))]
def r166_5:List AOper:=[o 14 (.mv (.t 0)),
 o 15 (.call 81 [.t 14,(i64 4),(i64 8)] .borrow),
 o 13 (.mv (.t 15))]
def r166_6:List AOper:=[o 2 (.mv (i64 2))]
def r166_7:List AOper:=[o 2 (.mv (i64 (-1)))]
def c166:ACode:=.seq (.reg r166_0) (.seq (.block 0 (.seq (.reg r166_1) (.cond (.t 3) (.seq (.reg r166_2) (.ret)) (.seq (.reg r166_3) (.cond (.t 10) (.seq (.reg r166_4) (.ret)) (.seq (.reg r166_5) (.cond (.t 13) (.seq (.reg r166_6) (.ret)) (.skip)))))))) (.seq (.reg r166_7) (.ret)))
def a166:AFunc:=⟨1,16,[.tmp 2],c166⟩
def r167_0:List AOper:=[o 8 (.mv (i64 0)),
 o 9 (.mv (i64 0))]
def r167_1:List AOper:=[o 10 (.mv (.t 0)),
 o 11 (.mv (.t 2)),
 o 12 (.iaddr 1 (.t 10) (.t 11)),
 o 13 (.load none (.t 12)),
 o 14 (.mv (.t 0)),
 o 15 (.mv (.t 1)),
 o 16 (.iaddr 1 (.t 14) (.t 15)),
 o 17 (.load none (.t 16)),
 o 18 (.call 118 [.t 13,.t 17] .borrow)]
def b167_1:List (List Nat):=[[],[],[0,1],[0,1,2],[],[],[4,5],[4,5,6],[0,1,2,3,4,5,6,7]]
def r167_2:List AOper:=[o 19 (.mv (.t 3)),
 o 20 (.nilck (.t 19)),
 o 21 (.load none (.t 20)),
 o 22 (.bin .add (.t 21) (i64 1)),
 o 23 (.nilck (.t 19)),
 oN (.store 1 (.t 23) (.t 22))]
def r167_3:List AOper:=[o 24 (.mv (.t 2)),
 o 25 (.mv (.t 1)),
 o 8 (.mv (.t 24)),
 o 9 (.mv (.t 25))]
def r167_4:List AOper:=[o 26 (.mv (.t 1)),
 o 27 (.mv (.t 2)),
 o 8 (.mv (.t 26)),
 o 9 (.mv (.t 27))]
def c167:ACode:=.seq (.reg r167_0) (.seq (.seq (.dreg r167_1 b167_1 []) (.cond (.t 18) (.seq (.reg r167_2) (.seq (.reg r167_3) (.ret))) (.skip))) (.seq (.reg r167_4) (.ret)))
def a167:AFunc:=⟨4,28,[.tmp 8,.tmp 9],c167⟩
def r169_0:List AOper:=[o 6 (.mv (.c (.bool false)))]
def r169_1:List AOper:=[o 10 (.mv (.t 0)),
 o 11 (.len false (.t 10)),
 o 12 (.mv (.t 1)),
 o 13 (.len false (.t 12)),
 o 14 (.bin .neq (.t 11) (.t 13))]
def r169_2:List AOper:=[o 6 (.mv (.c (.bool false)))]
def r169_3:List AOper:=[o 15 (.mv (.t 0)),
 o 16 (.len false (.t 15)),
 o 17 (.mv (i64 0))]
def r169_4:List AOper:=[o 18 (.bin .lss (.t 17) (.t 16))]
def r169_5:List AOper:=[o 19 (.mv (.t 17)),
 o 20 (.iaddr 4 (.t 15) (.t 17)),
 o 21 (.load (some 4) (.t 20)),
 o 8 (.alloc [zi,zi,zi,.nils]),
 o 7 (.mv (.t 19)),
 oN (.store 4 (.t 8) (.t 21))]
def r169_6:List AOper:=[o 22 (.mv (.t 1)),
 o 23 (.mv (.t 7)),
 o 24 (.iaddr 4 (.t 22) (.t 23)),
 o 25 (.load (some 4) (.t 24)),
 o 9 (.alloc [zi,zi,zi,.nils]),
 oN (.store 4 (.t 9) (.t 25))]
def r169_7:List AOper:=[o 26 (.mv (.t 2)),
 o 27 (.load (some 4) (.t 8)),
 o 28 (.load (some 4) (.t 9)),
 o 29 (.callv (.t 26) [.t 27,.t 28] .borrow),
 o 30 (.un .not (.t 29))]
def r169_8:List AOper:=[o 6 (.mv (.c (.bool false)))]
def r169_9:List AOper:=[o 31 (.bin .add (.t 17) (i64 1)),
 o 17 (.mv (.t 31))]
def l169_0:ACode:=.seq (.reg r169_4) (.seq (.cond (.t 18) (.skip) (.exit 0)) (.seq (.block 1 (.seq (.reg r169_5) (.seq (.reg r169_6) (.seq (.reg r169_7) (.cond (.t 30) (.seq (.reg r169_8) (.ret)) (.skip)))))) (.reg r169_9)))
def r169_10:List AOper:=[o 6 (.mv (.c (.bool true)))]
def c169:ACode:=.seq (.reg r169_0) (.seq (.seq (.reg r169_1) (.cond (.t 14) (.seq (.reg r169_2) (.ret)) (.skip))) (.seq (.seq (.reg r169_3) (.block 0 (.loop l169_0))) (.seq (.reg r169_10) (.ret))))
def a169:AFunc:=⟨3,32,[.tmp 6],c169⟩
def prog:Map AFunc:=.node none (.node none (.node none (.node none (.node none (.node none (.node (some a63) (.leaf) (.leaf)) (.leaf)) (.node (some a47) (.node none (.node (some a143) (.leaf) (.leaf)) (.leaf)) (.node (some a111) (.leaf) (.leaf)))) (.node none (.node none (.leaf) (.node none (.node (some a167) (.leaf) (.leaf)) (.leaf))) (.node none (.node (some a87) (.node (some a151) (.leaf) (.leaf)) (.leaf)) (.node (some a119) (.leaf) (.leaf))))) (.node (some a11) (.node none (.node none (.leaf) (.node (some a99) (.node (some a163) (.leaf) (.leaf)) (.leaf))) (.node none (.node (some a83) (.node (some a147) (.leaf) (.leaf)) (.leaf)) (.node (some a115) (.leaf) (.leaf)))) (.node none (.node (some a43) (.node (some a75) (.node (some a139) (.leaf) (.leaf)) (.leaf)) (.node (some a107) (.leaf) (.leaf))) (.node none (.node (some a91) (.node (some a155) (.leaf) (.leaf)) (.leaf)) (.node (some a123) (.leaf) (.leaf)))))) (.node none (.node none (.node none (.node none (.node (some a65) (.leaf) (.leaf)) (.leaf)) (.node none (.node (some a81) (.node (some a145) (.leaf) (.leaf)) (.leaf)) (.node (some a113) (.leaf) (.leaf)))) (.node none (.node (some a41) (.node none (.node (some a137) (.leaf) (.leaf)) (.leaf)) (.node (some a105) (.node (some a169) (.leaf) (.leaf)) (.leaf))) (.node none (.node (some a89) (.node (some a153) (.leaf) (.leaf)) (.leaf)) (.node (some a121) (.leaf) (.leaf))))) (.node none (.node none (.node none (.leaf) (.node (some a101) (.node (some a165) (.leaf) (.leaf)) (.leaf))) (.node (some a53) (.node (some a85) (.node (some a149) (.leaf) (.leaf)) (.leaf)) (.node (some a117) (.leaf) (.leaf)))) (.node none (.node (some a45) (.node none (.node (some a141) (.leaf) (.leaf)) (.leaf)) (.node (some a109) (.leaf) (.leaf))) (.node (some a61) (.leaf) (.node (some a125) (.leaf) (.leaf))))))) (.node none (.node none (.node none (.node none (.node none (.node (some a64) (.leaf) (.leaf)) (.leaf)) (.node (some a48) (.node none (.node (some a144) (.leaf) (.leaf)) (.leaf)) (.node (some a112) (.leaf) (.leaf)))) (.node none (.node none (.node none (.node (some a136) (.leaf) (.leaf)) (.leaf)) (.node (some a104) (.leaf) (.leaf))) (.node (some a56) (.node (some a88) (.node (some a152) (.leaf) (.leaf)) (.leaf)) (.node (some a120) (.leaf) (.leaf))))) (.node none (.node none (.node (some a36) (.leaf) (.node (some a100) (.node (some a164) (.leaf) (.leaf)) (.leaf))) (.node none (.node (some a84) (.node (some a148) (.leaf) (.leaf)) (.leaf)) (.node (some a116) (.leaf) (.leaf)))) (.node none (.node (some a44) (.node none (.node (some a140) (.leaf) (.leaf)) (.leaf)) (.node (some a108) (.leaf) (.leaf))) (.node (some a60) (.leaf) (.node (some a124) (.leaf) (.leaf)))))) (.node none (.node none (.node none (.node none (.node (some a66) (.leaf) (.leaf)) (.leaf)) (.node (some a50) (.node (some a82) (.node (some a146) (.leaf) (.leaf)) (.leaf)) (.node (some a114) (.leaf) (.leaf)))) (.node none (.node none (.node (some a74) (.node (some a138) (.leaf) (.leaf)) (.leaf)) (.node (some a106) (.leaf) (.leaf))) (.node none (.node (some a90) (.node (some a154) (.leaf) (.leaf)) (.leaf)) (.node (some a122) (.leaf) (.leaf))))) (.node none (.node none (.node none (.leaf) (.node (some a102) (.node (some a166) (.leaf) (.leaf)) (.leaf))) (.node none (.node (some a86) (.node (some a150) (.leaf) (.leaf)) (.leaf)) (.node (some a118) (.leaf) (.leaf)))) (.node none (.node (some a46) (.node none (.node (some a142) (.leaf) (.leaf)) (.leaf)) (.node (some a110) (.leaf) (.leaf))) (.node (some a62) (.leaf) (.node (some a126) (.leaf) (.leaf)))))))
end Go.Ax.TryLr
