/- Part 0 of the proof: Ax0, Ax1, LbIR. -/
import GoSem.Step

namespace Go.Ax
inductive Map (α:Type) where
 |leaf
 |node (v:Option α) (l r:Map α)
namespace Map
variable {α:Type}
noncomputable def get (m:Map α):Nat→Option α:=
 Map.rec (motive:=fun _=>Nat→Option α) (fun _=>none)
  (fun v _ _ l r i=>Bool.rec (Bool.rec (r (Nat.sub (Nat.div i 2) 1)) (l (Nat.div i 2)) (Nat.beq (Nat.mod i 2) 1)) v (Nat.beq i 0)) m
noncomputable def one (v:Option α) (f:Nat):Nat→Map α:=
 Nat.rec (motive:=fun _=>Nat→Map α) (fun _=>.leaf)
  (fun _ ih i=>Bool.rec (Bool.rec (.node none .leaf (ih (Nat.sub (Nat.div i 2) 1))) (.node none (ih (Nat.div i 2)) .leaf) (Nat.beq (Nat.mod i 2) 1)) (.node v .leaf .leaf) (Nat.beq i 0)) f
noncomputable def put (w:Option α) (m:Map α):Nat→Map α:=
 Map.rec (motive:=fun _=>Nat→Map α) (fun i=>one w (Nat.succ i) i)
  (fun v l0 r0 l r i=>Bool.rec (Bool.rec (.node v l0 (r (Nat.sub (Nat.div i 2) 1))) (.node v (l (Nat.div i 2)) r0) (Nat.beq (Nat.mod i 2) 1)) (.node w l0 r0) (Nat.beq i 0)) m
noncomputable def upto (m:Map α):(Nat→Bool)→Map α:=
 Map.rec (motive:=fun _=>(Nat→Bool)→Map α) (fun _=>.leaf)
  (fun v _ _ l r p=>.node (Bool.rec none v (p 0)) (l fun k=>p (Nat.succ (Nat.mul 2 k))) (r fun k=>p (Nat.succ (Nat.succ (Nat.mul 2 k))))) m
noncomputable def union (m:Map α):Map α→Map α:=
 Map.rec (motive:=fun _=>Map α→Map α) (fun m=>m)
  (fun v l0 r0 l r m=>match m with
   |.leaf=>.node v l0 r0
   |.node v' l' r'=>.node (match v with | some x=>some x | none=>v') (l l') (r r')) m
end Map
inductive AV where
 |bool (b:Bool)
 |int (k:IntKind) (n:Int)
 |str (s:ByteArray)
 |nilp
 |ptr (id g off:Nat)
 |iptr (cs:List AV) (off:Nat)
 |nils
 |imm (cs:List AV) (n:Nat) (cap:Option Nat)
 |ref (id g off es len cap:Nat) (ex:Bool)
 |agg (cs:List AV)
 |tup (vs:List AV)
 |func (f:Nat)
 |mapr (id:Nat)
 deriving Inhabited
inductive AObj where
 |row (g:Nat) (cells:List AV)
 |map (es:List (AV×AV))
 deriving Inhabited
abbrev Heap:=Map AObj
abbrev Env:=Map AV
def undefA:AV:=.tup []
def AV.flat:AV→Bool
 |.ref ..=>false
 |.ptr ..=>false
 |.mapr _=>false
 |.agg _=>false
 |.tup _=>false
 |_=>true
noncomputable def allB {α:Type} (f:α→Bool) (l:List α):Bool:=List.rec (motive:=fun _=>Bool) true (fun x _ ih=>Bool.rec false ih (f x)) l
noncomputable def AV.plain1:AV→Bool
 |.agg cs=>allB AV.flat cs
 |v=>v.flat
noncomputable def AV.plain:AV→Bool
 |.tup vs=>allB AV.plain1 vs
 |v=>v.plain1
def AV.isTup:AV→Bool
 |.tup _=>true
 |_=>false
def AV.one:AV→Bool
 |.agg _=>false
 |.tup _=>false
 |_=>true
def AV.cells?:AV→Option (List AV)
 |.agg cs=>some cs
 |.tup _=>none
 |v=>some [v]
noncomputable def mapO {α β:Type} (f:α→Option β) (l:List α):Option (List β):=
 List.rec (motive:=fun _=>Option (List β)) (some [])
  (fun x _ ih=>match f x with
   |none=>none
   |some y=>match ih with
    |none=>none
    |some ys=>some (y :: ys)) l
noncomputable def first (cells:List AV):Nat→Option (List AV):=
 List.rec (motive:=fun _=>Nat→Option (List AV)) (fun n=>Bool.rec none (some []) (Nat.beq n 0))
  (fun x _ ih n=>Bool.rec (match ih (Nat.pred n) with | some l=>some (x :: l) | none=>none) (some []) (Nat.beq n 0)) cells
noncomputable def cut (cells:List AV):Nat→Nat→Option (List AV):=
 List.rec (motive:=fun _=>Nat→Nat→Option (List AV)) (fun off n=>Bool.rec none (first [] n) (Nat.beq off 0))
  (fun x xs ih off n=>Bool.rec (ih (Nat.pred off) n) (first (x :: xs) n) (Nat.beq off 0)) cells
noncomputable def overF (cs:List AV):List AV→Option (List AV):=
 List.rec (motive:=fun _=>List AV→Option (List AV)) (fun cells=>some cells)
  (fun y _ ih cells=>match cells with
   |[]=>none
   |_ :: xs=>match ih xs with
    |some l=>some (y :: l)
    |none=>none) cs
noncomputable def over (cells:List AV):Nat→List AV→Option (List AV):=
 List.rec (motive:=fun _=>Nat→List AV→Option (List AV)) (fun off cs=>Bool.rec none (overF cs []) (Nat.beq off 0))
  (fun x xs ih off cs=>Bool.rec (match ih (Nat.pred off) cs with | some l=>some (x :: l) | none=>none) (overF cs (x :: xs)) (Nat.beq off 0)) cells
def rows (n:Nat) (zero:List AV):List AV:=(List.replicate n zero).flatten
def inR (k:IntKind) (n:Int):Bool:=match n with
 |.ofNat m=>Nat.blt m (match k with | .i8=>128 | .i16=>32768 | .i32=>2147483648 | .i64=>9223372036854775808 | .u8=>256 | .u16=>65536 | .u32=>4294967296 | .u64=>18446744073709551616)
 |.negSucc m=>Nat.blt m (match k with | .i8=>128 | .i16=>32768 | .i32=>2147483648 | .i64=>9223372036854775808 | _=>0)
def wrapA (k:IntKind) (n:Int):Int:=bif inR k n then n else k.wrap n
def ltA (x y:Int):Bool:=match x,y with
 |.ofNat a,.ofNat b=>Nat.blt a b
 |.negSucc _,.ofNat _=>true
 |.ofNat _,.negSucc _=>false
 |.negSucc a,.negSucc b=>Nat.blt b a
def eqA (x y:Int):Bool:=match x,y with
 |.ofNat a,.ofNat b=>Nat.beq a b
 |.negSucc a,.negSucc b=>Nat.beq a b
 |_,_=>false
def eqK:IntKind→IntKind→Bool
 |.i8,.i8 | .i16,.i16 | .i32,.i32 | .i64,.i64 | .u8,.u8 | .u16,.u16 | .u32,.u32 | .u64,.u64=>true
 |_,_=>false
def ixA (i:Int) (n:Nat):Option Nat:=match i with
 |.ofNat m=>bif Nat.blt m n then some m else none
 |.negSucc _=>none
def bdA (i:Int) (n:Nat):Option Nat:=match i with
 |.ofNat m=>bif Nat.ble m n then some m else none
 |.negSucc _=>none
inductive Leaf where
 |int | bool | str
inductive EqT where
 |one (l:Leaf)
 |slice
 |agg (ls:List Leaf)
def eqS (l:Leaf) (a b:AV):Option Bool:=match l with
 |.int=>match a with
  |.int k n=>match b with
   |.int k' m=>bif eqK k k' then some (eqA n m) else none
   |_=>none
  |_=>none
 |.bool=>match a with
  |.bool x=>match b with
   |.bool y=>some (x == y)
   |_=>none
  |_=>none
 |.str=>match a with
  |.str x=>match b with
   |.str y=>some (x == y)
   |_=>none
  |_=>none
noncomputable def eqL (ls:List Leaf):List AV→List AV→Option Bool:=
 List.rec (motive:=fun _=>List AV→List AV→Option Bool) (fun a b=>match a with | []=>(match b with | []=>some true | _ :: _=>none) | _ :: _=>none)
  (fun l _ ih a b=>match a with
   |[]=>none
   |x :: xs=>match b with
    |[]=>none
    |y :: ys=>match eqS l x y with
     |none=>none
     |some u=>match ih xs ys with
      |none=>none
      |some c=>some (u&&c)) ls
noncomputable def eqV (t:EqT) (x y:AV):Option Bool:=match t with
 |.one l=>eqS l x y
 |.agg ls=>match x with
  |.agg a=>match y with
   |.agg b=>eqL ls a b
   |_=>none
  |_=>none
 |.slice=>match x with
  |.nils=>match y with
   |.nils=>some true
   |.imm ..=>some false
   |.ref ..=>some false
   |_=>none
  |.imm ..=>match y with
   |.nils=>some false
   |_=>none
  |.ref ..=>match y with
   |.nils=>some false
   |_=>none
  |_=>none
noncomputable def toImm (d:Nat):Heap→AV→Option AV:=
 Nat.rec (motive:=fun _=>Heap→AV→Option AV) (fun _ _=>none)
  (fun _ ih H v=>match v with
   |.ref id g off es len cap ex=>match H.get id with
    |some (.row g' cells)=>bif Nat.beq g' g then match cut cells off (Nat.mul len es) with
      |some cs=>match mapO (ih H) cs with
       |some cs=>some (.imm cs len (Bool.rec none (some cap) ex))
       |none=>none
      |none=>none
     else none
    |_=>none
   |.agg cs=>match mapO (ih H) cs with
    |some cs=>some (.agg cs)
    |none=>none
   |.tup cs=>match mapO (ih H) cs with
    |some cs=>some (.tup cs)
    |none=>none
   |.ptr ..=>none
   |.mapr _=>none
   |v=>some v) d
noncomputable def idsOf (d:Nat):Heap→AV→List Nat:=
 Nat.rec (motive:=fun _=>Heap→AV→List Nat) (fun _ _=>[])
  (fun _ ih H v=>match v with
   |.ref id _ off es len _ _=>match H.get id with
    |some (.row _ cells)=>id :: (match cut cells off (Nat.mul len es) with | some cs=>cs.flatMap (ih H) | none=>[])
    |_=>[id]
   |.agg cs=>cs.flatMap (ih H)
   |.tup cs=>cs.flatMap (ih H)
   |_=>[]) d
noncomputable def own (d:Nat):Heap→AV→Bool:=
 Nat.rec (motive:=fun _=>Heap→AV→Bool) (fun _ _=>false)
  (fun _ ih H v=>match v with
   |.ref id _ off es len _ _=>match H.get id with
    |some (.row _ cells)=>match cut cells off (Nat.mul len es) with | some cs=>allB (ih H) cs | none=>false
    |_=>false
   |.agg cs=>allB (ih H) cs
   |.tup cs=>allB (ih H) cs
   |.imm cs _ _=>match cs with | []=>true | _ :: _=>false
   |.iptr ..=>false
   |.ptr ..=>false
   |.mapr _=>false
   |_=>true) d
def deep:Nat:=30
inductive Opd where
 |t (n:Nat)
 |c (v:AV)
 deriving Inhabited
inductive Mode where
 |share
 |borrow
inductive AOp where
 |mv (x:Opd)
 |pick (c a b:Opd)
 |alloc (zero:List AV)
 |box (x:Opd)
 |build (zero:List AV) (parts:List (Nat×Nat×Opd))
 |bslice (es len:Nat) (zero:List AV) (parts:List (Nat×Nat×Opd))
 |islice (len:Nat) (zero:List AV) (parts:List (Nat×Nat×Opd))
 |load (sz:Option Nat) (a:Opd)
 |store (sz:Nat) (a x:Opd)
 |nilck (x:Opd)
 |bin (op:BinOp) (x y:Opd)
 |eq (t:EqT) (neg:Bool) (x y:Opd)
 |un (op:UnOp) (x:Opd)
 |conv (k:IntKind) (x:Opd)
 |mksl (es bytes:Nat) (zero:List AV) (n:Opd)
 |slstr (x:Opd) (lo hi:Option Opd)
 |slsl (es:Nat) (x:Opd) (lo hi mx:Option Opd)
 |slarr (n es:Nat) (x:Opd) (lo hi mx:Option Opd)
 |faddr (off:Nat) (x:Opd)
 |fld (off:Nat) (sz:Option Nat) (x:Opd)
 |iaddr (es:Nat) (x i:Opd)
 |iarr (len es:Nat) (x i:Opd)
 |idx (x i:Opd)
 |ext (i:Nat) (x:Opd)
 |app (es bytes:Nat) (s x:Opd)
 |cpy (es:Nat) (d s:Opd)
 |clr (es:Nat) (zero:List AV) (x:Opd)
 |len (str:Bool) (x:Opd)
 |mnx (mx:Bool) (xs:List Opd)
 |mkmap
 |mlook (t:EqT) (zero:AV) (ok:Bool) (m k:Opd)
 |mset (t:EqT) (m k v:Opd)
 |mlen (m:Opd)
 |call (f:Nat) (args:List Opd) (m:Mode)
 |callv (f:Opd) (args:List Opd) (m:Mode)
 deriving Inhabited
structure AOper where
 dst:Option Nat
 op:AOp
 gd:Option (Nat×Bool)
 fz:Bool
 deriving Inhabited
abbrev o (d:Nat) (op:AOp):AOper:=⟨some d,op,none,false⟩
abbrev i64 (n:Int):Opd:=.c (.int .i64 n)
inductive ACode where
 |skip
 |reg (ops:List AOper)
 |dreg (ops:List AOper) (ahead:List (List Nat)) (pairs:List (Nat×Nat))
 |seq (a b:ACode)
 |cond (c:Opd) (a b:ACode)
 |block (id:Nat) (c:ACode)
 |loop (c:ACode)
 |exit (id:Nat)
 |ret
 deriving Inhabited
inductive ARes where
 |tmp (t:Nat)
 |cell (t:Nat) (sz:Option Nat)
structure AFunc where
 params:Nat
 nt:Nat
 res:List ARes
 body:ACode
structure Rng where
 id:Nat
 g:Nat
 off:Nat
 len:Nat
structure Out where
 val:Nat→AV
 obj:Option AObj
 new:Option AObj
inductive Plan where
 |val (v:AV)
 |new (val:Nat→AV) (o:AObj)
 |look (q:Option Rng) (u:Option Nat) (k:List AV→Option AObj→Option Out)
abbrev pureP (v:AV):Plan:=.val v
def pureO (v:Option AV):Option Plan:=match v with | some v=>some (.val v) | none=>none
abbrev newP (val:Nat→AV) (o:AObj):Plan:=.new val o
def rowK (g:Nat) (k:List AV→Option Out):Option AObj→Option Out
 |some (.row g' cells)=>bif Nat.beq g' g then k cells else none
 |_=>none
def most:Nat:=70368744177664
def mkv (sz:Option Nat) (cs:List AV):Option AV:=match sz with
 |none=>match cs with | [v]=>some v | _=>none
 |some _=>some (.agg cs)
noncomputable def fill (ρ:Opd→AV) (parts:List (Nat×Nat×Opd)):List AV→Option (List AV):=
 List.rec (motive:=fun _=>List AV→Option (List AV)) (fun cells=>some cells)
  (fun p _ ih cells=>match (ρ p.2.2).cells? with
   |none=>none
   |some cs=>bif Nat.beq cs.length p.2.1 then match over cells p.1 cs with
     |some cells=>ih cells
     |none=>none
    else none) parts
def shiftA (op:BinOp) (k:IntKind) (x y:Int):Option AV:=
 bif ltA y 0 then none else match op with
  |.shl=>some (.int k (k.wrap (x*2 ^ min y.toNat k.bits)))
  |.shr=>some (.int k (x.fdiv (2 ^ min y.toNat k.bits)))
  |_=>none
def intA (op:BinOp) (k:IntKind) (x y:Int):Option AV:=
 match op with
 |.add=>some (.int k (wrapA k (x + y)))
 |.sub=>some (.int k (wrapA k (x - y)))
 |.mul=>some (.int k (wrapA k (x*y)))
 |.quo=>bif eqA y 0 then none else some (.int k (wrapA k (x.tdiv y)))
 |.rem=>bif eqA y 0 then none else some (.int k (x.tmod y))
 |.and=>some (.int k (k.wrap (BitVec.ofInt k.bits x&&& BitVec.ofInt k.bits y).toNat))
 |.or=>some (.int k (k.wrap (BitVec.ofInt k.bits x||| BitVec.ofInt k.bits y).toNat))
 |.xor=>some (.int k (k.wrap (BitVec.ofInt k.bits x ^^^ BitVec.ofInt k.bits y).toNat))
 |.andNot=>some (.int k (k.wrap (BitVec.ofInt k.bits x&&& ~~~BitVec.ofInt k.bits y).toNat))
 |.eql=>some (.bool (eqA x y))
 |.neq=>some (.bool !(eqA x y))
 |.lss=>some (.bool (ltA x y))
 |.leq=>some (.bool !(ltA y x))
 |.gtr=>some (.bool (ltA y x))
 |.geq=>some (.bool !(ltA x y))
 |.shl=>none
 |.shr=>none
def strA (op:BinOp) (x y:ByteArray):Option AV:=
 match op with
 |.add=>bif Nat.ble (x.size + y.size) most then some (.str (x++y)) else none
 |.eql=>some (.bool (x.toList == y.toList))
 |.neq=>some (.bool !(x.toList == y.toList))
 |.lss=>some (.bool (Op.bytesLess x.toList y.toList))
 |.leq=>some (.bool (Op.bytesLess x.toList y.toList||x.toList == y.toList))
 |.gtr=>some (.bool !(Op.bytesLess x.toList y.toList||x.toList == y.toList))
 |.geq=>some (.bool !(Op.bytesLess x.toList y.toList))
 |_=>none
def binA (op:BinOp) (x y:AV):Option AV:=match x with
 |.int k a=>match y with
  |.int k' b=>match op with
   |.shl=>shiftA .shl k a b
   |.shr=>shiftA .shr k a b
   |op=>bif eqK k k' then intA op k a b else none
  |_=>none
 |.str a=>match y with
  |.str b=>strA op a b
  |_=>none
 |_=>none
def unA (op:UnOp) (x:AV):Option AV:=match op with
 |.neg=>match x with | .int k n=>some (.int k (wrapA k (0 - n))) | _=>none
 |.not=>match x with | .bool b=>some (.bool !b) | _=>none
 |.xor=>match x with | .int k n=>intA .xor k (if k.signed then -1 else k.max) n | _=>none
 |.plus=>none
def mnA (mx:Bool):AV→List AV→Option AV
 |v,[]=>some v
 |.int k a,.int _ b :: rest=>mnA mx (.int k (match mx with | true=>(bif ltA a b then b else a) | false=>(bif ltA b a then b else a))) rest
 |_,_=>none
def bnd (ρ:Opd→AV) (x:Option Opd) (other y:Nat):Option Nat:=match x with
 |none=>some other
 |some o=>match ρ o with
  |.int _ i=>bdA i y
  |_=>none
def bnds (ρ:Opd→AV) (lo hi mx:Option Opd) (len cap:Nat):Option (Nat×Nat×Nat):=match bnd ρ mx cap cap with
 |none=>none
 |some m=>match bnd ρ hi len m with
  |none=>none
  |some h=>match bnd ρ lo 0 h with
   |none=>none
   |some l=>some (l,h,m)
inductive Src where
 |list (cs:List AV)
 |rng (r:Rng)
def srcOf (es:Nat):AV→Option (Nat×Src)
 |.nils=>some (0,.list [])
 |.imm cs n _=>bif Nat.beq (Nat.mul n es) cs.length then some (n,.list cs) else none
 |.ref id g off es' len _ _=>bif Nat.beq es' es then some (len,.rng ⟨id,g,off,Nat.mul len es⟩) else none
 |_=>none
def Src.q:Src→Option Rng
 |.rng r=>some r
 |.list _=>none
def Src.cs:Src→List AV→List AV
 |.list cs,_=>cs
 |.rng _,a=>a
def isSl:AV→Bool
 |.nils=>true
 |.imm ..=>true
 |.ref ..=>true
 |_=>false
noncomputable def appRef (es:Nat) (id g off len cap:Nat) (ex:Bool) (m:Nat) (src:Src):Plan:=
 bif Nat.ble (Nat.add len m) cap then
  .look src.q (some id) (fun a=>rowK g fun cells=>match over cells (Nat.add off (Nat.mul len es)) (src.cs a) with
   |some cells'=>some ⟨fun _=>.ref id g off es (Nat.add len m) cap ex,some (.row g cells'),none⟩
   |none=>none)
 else bif ex then
  .look src.q (some id) (fun a=>rowK g fun cells=>match cut cells off (Nat.mul len es) with
   |some cs=>some ⟨fun id=>.ref id 0 0 es (Nat.add len m) (Nat.add len m) false,none,some (.row 0 (cs++src.cs a))⟩
   |none=>none)
 else
  .look src.q (some id) (fun a=>rowK g fun cells=>bif Nat.beq (Nat.add off (Nat.mul len es)) cells.length then
    some ⟨fun _=>.ref id (Nat.succ g) 0 es (Nat.add len m) (Nat.add len m) false,some (.row (Nat.succ g) (cells.drop off++src.cs a)),none⟩
   else none)
noncomputable def appA (es bytes:Nat) (s x:AV):Option Plan:=match srcOf es x with
 |none=>none
 |some (m,src)=>bif Nat.beq m 0 then (bif isSl s then some (pureP s) else none) else
  match s with
  |.nils=>bif Nat.ble (Nat.mul m bytes) most&&Nat.ble m most then
    some (.look src.q none fun a _=>some ⟨fun id=>.ref id 0 0 es m m false,none,some (.row 0 (src.cs a))⟩) else none
  |.imm cs n (some c)=>bif Nat.blt c (Nat.add n m)&&Nat.beq (Nat.mul n es) cs.length&&Nat.ble (Nat.mul (Nat.add n m) bytes) most&&Nat.ble (Nat.add n m) most then
    some (.look src.q none fun a _=>some ⟨fun id=>.ref id 0 0 es (Nat.add n m) (Nat.add n m) false,none,some (.row 0 (cs++src.cs a))⟩) else none
  |.ref id g off es' len cap ex=>bif Nat.beq es' es&&Nat.ble (Nat.mul (Nat.add len m) bytes) most&&Nat.ble (Nat.add len m) most then
    some (appRef es id g off len cap ex m src) else none
  |_=>none
noncomputable def cpyA (es:Nat) (d s:AV):Option Plan:=match srcOf es s with
 |none=>none
 |some (m,src)=>match d with
  |.nils=>some (pureP (.int .i64 0))
  |.ref id g off es' len _ _=>bif Nat.beq es' es then
    some (.look src.q (some id) fun a=>rowK g fun cells=>match first (src.cs a) (Nat.mul (min m len) es) with
     |some cs=>match over cells off cs with
      |some cells'=>some ⟨fun _=>.int .i64 (min m len),some (.row g cells'),none⟩
      |none=>none
     |none=>none) else none
  |_=>none
noncomputable def slA (es:Nat) (ρ:Opd→AV) (x:AV) (lo hi mx:Option Opd):Option AV:=match x with
 |.nils=>match bnds ρ lo hi mx 0 0 with
  |none=>none
  |some _=>some .nils
 |.imm cs n cap=>bif Nat.beq (Nat.mul n es) cs.length then match bnds ρ lo hi mx n n with
  |none=>none
  |some (l,h,m)=>match cut cs (Nat.mul l es) (Nat.mul (Nat.sub h l) es) with
   |some cs'=>some (.imm cs' (Nat.sub h l) (match mx with | some _=>some (Nat.sub m l) | none=>match cap with | some c=>some (Nat.sub c l) | none=>none))
   |none=>none
  else none
 |.ref id g off es' len cap ex=>bif Nat.beq es' es then match bnds ρ lo hi mx len cap with
  |none=>none
  |some (l,h,m)=>some (.ref id g (Nat.add off (Nat.mul l es)) es (Nat.sub h l) (Nat.sub m l) (match mx with | some _=>true | none=>ex))
  else none
 |_=>none
noncomputable def findA (t:EqT) (k:AV) (es:List (AV×AV)):Nat→Option (Option (Nat×AV)):=
 List.rec (motive:=fun _=>Nat→Option (Option (Nat×AV))) (fun _=>some none)
  (fun p _ ih i=>match eqV t k p.1 with
   |none=>none
   |some true=>some (some (i,p.2))
   |some false=>ih (Nat.succ i)) es
def loadA (sz:Option Nat):Nat:=match sz with | none=>1 | some n=>n
section
variable (ρ:Opd→AV)
def pPick (c a b:Opd):Option Plan:=match ρ c with
 |.bool t=>match t with
  |true=>some (pureP (ρ a))
  |false=>some (pureP (ρ b))
 |_=>none
def pBox (x:Opd):Option Plan:=match (ρ x).cells? with
 |some cs=>some (newP (fun id=>.ptr id 0 0) (.row 0 cs))
 |none=>none
noncomputable def pBuild (zero:List AV) (parts:List (Nat×Nat×Opd)):Option Plan:=match fill ρ parts zero with
 |some cs=>some (pureP (.agg cs))
 |none=>none
noncomputable def pBslice (es len:Nat) (zero:List AV) (parts:List (Nat×Nat×Opd)):Option Plan:=match fill ρ parts zero with
 |some cs=>some (newP (fun id=>.ref id 0 0 es len len false) (.row 0 cs))
 |none=>none
noncomputable def pIslice (len:Nat) (zero:List AV) (parts:List (Nat×Nat×Opd)):Option Plan:=match fill ρ parts zero with
 |some cs=>bif allB AV.flat cs then some (pureP (.imm cs len (some len))) else none
 |none=>none
noncomputable def pLoad (sz:Option Nat) (a:Opd):Option Plan:=match ρ a with
 |.ptr id g off=>some (.look (some ⟨id,g,off,loadA sz⟩) none fun cs _=>match mkv sz cs with | some v=>some ⟨fun _=>v,none,none⟩ | none=>none)
 |.iptr cs off=>match cut cs off (loadA sz) with
  |some cs=>pureO (mkv sz cs)
  |none=>none
 |_=>none
noncomputable def pStore (sz:Nat) (a x:Opd):Option Plan:=match ρ a with
 |.ptr id g off=>match (ρ x).cells? with
  |some cs=>bif Nat.beq cs.length sz then
    some (.look none (some id) fun _=>rowK g fun cells=>match over cells off cs with
     |some cells'=>some ⟨fun _=>undefA,some (.row g cells'),none⟩
     |none=>none) else none
  |none=>none
 |_=>none
def pNilck (x:Opd):Option Plan:=match ρ x with
 |.ptr id g off=>some (pureP (.ptr id g off))
 |.iptr cs off=>some (pureP (.iptr cs off))
 |.func f=>some (pureP (.func f))
 |_=>none
noncomputable def pEq (t:EqT) (neg:Bool) (x y:Opd):Option Plan:=match eqV t (ρ x) (ρ y) with
 |some b=>some (pureP (.bool (match neg with | true=>!b | false=>b)))
 |none=>none
def pConv (k:IntKind) (x:Opd):Option Plan:=match ρ x with
 |.int _ n=>some (pureP (.int k (wrapA k n)))
 |_=>none
def pMksl (es bytes:Nat) (zero:List AV) (n:Opd):Option Plan:=match ρ n with
 |.int k m=>match bdA m most with
  |some m=>bif eqK k .i64&&Nat.ble (Nat.mul m bytes) most then some (newP (fun id=>.ref id 0 0 es m m false) (.row 0 (rows m zero))) else none
  |none=>none
 |_=>none
def pSlstr (x:Opd) (lo hi:Option Opd):Option Plan:=match ρ x with
 |.str s=>match bnds ρ lo hi none s.size s.size with
  |none=>none
  |some (l,h,_)=>some (pureP (.str (s.extract l h)))
 |_=>none
def pSlarr (n es:Nat) (x:Opd) (lo hi mx:Option Opd):Option Plan:=match ρ x with
 |.ptr id g off=>match bnds ρ lo hi mx n n with
  |none=>none
  |some (l,h,m)=>some (.look (some ⟨id,g,off,Nat.mul n es⟩) none fun _ _=>some ⟨fun _=>.ref id g (Nat.add off (Nat.mul l es)) es (Nat.sub h l) (Nat.sub m l) true,none,none⟩)
 |_=>none
def pFaddr (off:Nat) (x:Opd):Option Plan:=match ρ x with
 |.ptr id g o=>some (pureP (.ptr id g (Nat.add o off)))
 |.iptr cs o=>some (pureP (.iptr cs (Nat.add o off)))
 |_=>none
noncomputable def pFld (off:Nat) (sz:Option Nat) (x:Opd):Option Plan:=match ρ x with
 |.agg cs=>match cut cs off (loadA sz) with
  |some cs=>pureO (mkv sz cs)
  |none=>none
 |_=>none
def pIaddr (es:Nat) (x i:Opd):Option Plan:=match ρ i with
 |.int _ i=>match ρ x with
  |.imm cs n _=>match ixA i n with
   |some i=>match cs with
    |[]=>none
    |_ :: _=>some (pureP (.iptr cs (Nat.mul i es)))
   |none=>none
  |.ref id g off es' len _ _=>bif Nat.beq es' es then match ixA i len with
   |some i=>some (pureP (.ptr id g (Nat.add off (Nat.mul i es))))
   |none=>none
   else none
  |_=>none
 |_=>none
def pIarr (len es:Nat) (x i:Opd):Option Plan:=match ρ i with
 |.int _ i=>match ixA i len with
  |some i=>match ρ x with
   |.ptr id g o=>some (pureP (.ptr id g (Nat.add o (Nat.mul i es))))
   |.iptr cs o=>some (pureP (.iptr cs (Nat.add o (Nat.mul i es))))
   |_=>none
  |none=>none
 |_=>none
def pIdx (x i:Opd):Option Plan:=match ρ x with
 |.str s=>match ρ i with
  |.int _ (.ofNat i)=>match s[i]? with
   |some b=>some (pureP (.int .u8 b.toNat))
   |none=>none
  |_=>none
 |_=>none
def pExt (i:Nat) (x:Opd):Option Plan:=match ρ x with
 |.tup vs=>pureO vs[i]?
 |_=>none
noncomputable def pClr (es:Nat) (zero:List AV) (x:Opd):Option Plan:=match ρ x with
 |.nils=>some (pureP undefA)
 |.ref id g off es' len _ _=>bif Nat.beq es' es then
   some (.look none (some id) fun _=>rowK g fun cells=>match over cells off (rows len zero) with
    |some cells'=>some ⟨fun _=>undefA,some (.row g cells'),none⟩
    |none=>none) else none
 |_=>none
def pLen (str:Bool) (x:Opd):Option Plan:=match str with
 |true=>match ρ x with
  |.str s=>some (pureP (.int .i64 s.size))
  |_=>none
 |false=>match ρ x with
  |.nils=>some (pureP (.int .i64 0))
  |.imm _ n _=>some (pureP (.int .i64 n))
  |.ref _ _ _ _ len _ _=>some (pureP (.int .i64 len))
  |_=>none
def pMnx (mx:Bool) (xs:List Opd):Option Plan:=match xs.map ρ with
 |v :: vs=>pureO (mnA mx v vs)
 |[]=>none
def mapK (k:List (AV×AV)→Option Out):Option AObj→Option Out
 |some (.map es)=>k es
 |_=>none
noncomputable def pMlook (t:EqT) (zero:AV) (ok:Bool) (m k:Opd):Option Plan:=bif (ρ k).isTup then none else match ρ m with
 |.mapr id=>some (.look none (some id) fun _=>mapK fun es=>match findA t (ρ k) es 0 with
  |none=>none
  |some none=>some ⟨fun _=>match ok with | true=>.tup [zero,.bool false] | false=>zero,none,none⟩
  |some (some (_,v))=>some ⟨fun _=>match ok with | true=>.tup [v,.bool true] | false=>v,none,none⟩)
 |_=>none
noncomputable def pMset (t:EqT) (m k v:Opd):Option Plan:=bif (ρ k).isTup||(ρ v).isTup then none else match ρ m with
 |.mapr id=>some (.look none (some id) fun _=>mapK fun es=>match findA t (ρ k) es 0 with
  |none=>none
  |some none=>some ⟨fun _=>undefA,some (.map (es++[(ρ k,ρ v)])),none⟩
  |some (some (i,_))=>some ⟨fun _=>undefA,some (.map (es.set i (ρ k,ρ v))),none⟩)
 |_=>none
def pMlen (m:Opd):Option Plan:=match ρ m with
 |.mapr id=>some (.look none (some id) fun _=>mapK fun es=>some ⟨fun _=>.int .i64 es.length,none,none⟩)
 |_=>none
end
inductive OpK where
 |plan (p:(Opd→AV)→Option Plan)
 |call (f:Nat) (args:List Opd) (m:Mode)
 |callv (f:Opd) (args:List Opd) (m:Mode)
noncomputable def kind (op:AOp):OpK:=match op with
 |.mv x=>.plan fun ρ=>some (pureP (ρ x))
 |.pick c a b=>.plan fun ρ=>pPick ρ c a b
 |.alloc zero=>.plan fun _=>some (newP (fun id=>.ptr id 0 0) (.row 0 zero))
 |.box x=>.plan fun ρ=>pBox ρ x
 |.build zero parts=>.plan fun ρ=>pBuild ρ zero parts
 |.bslice es len zero parts=>.plan fun ρ=>pBslice ρ es len zero parts
 |.islice len zero parts=>.plan fun ρ=>pIslice ρ len zero parts
 |.load sz a=>.plan fun ρ=>pLoad ρ sz a
 |.store sz a x=>.plan fun ρ=>pStore ρ sz a x
 |.nilck x=>.plan fun ρ=>pNilck ρ x
 |.bin op x y=>.plan fun ρ=>pureO (binA op (ρ x) (ρ y))
 |.eq t neg x y=>.plan fun ρ=>pEq ρ t neg x y
 |.un op x=>.plan fun ρ=>pureO (unA op (ρ x))
 |.conv k x=>.plan fun ρ=>pConv ρ k x
 |.mksl es bytes zero n=>.plan fun ρ=>pMksl ρ es bytes zero n
 |.slstr x lo hi=>.plan fun ρ=>pSlstr ρ x lo hi
 |.slsl es x lo hi mx=>.plan fun ρ=>pureO (slA es ρ (ρ x) lo hi mx)
 |.slarr n es x lo hi mx=>.plan fun ρ=>pSlarr ρ n es x lo hi mx
 |.faddr off x=>.plan fun ρ=>pFaddr ρ off x
 |.fld off sz x=>.plan fun ρ=>pFld ρ off sz x
 |.iaddr es x i=>.plan fun ρ=>pIaddr ρ es x i
 |.iarr len es x i=>.plan fun ρ=>pIarr ρ len es x i
 |.idx x i=>.plan fun ρ=>pIdx ρ x i
 |.ext i x=>.plan fun ρ=>pExt ρ i x
 |.app es bytes s x=>.plan fun ρ=>appA es bytes (ρ s) (ρ x)
 |.cpy es d s=>.plan fun ρ=>cpyA es (ρ d) (ρ s)
 |.clr es zero x=>.plan fun ρ=>pClr ρ es zero x
 |.len str x=>.plan fun ρ=>pLen ρ str x
 |.mnx mx xs=>.plan fun ρ=>pMnx ρ mx xs
 |.mkmap=>.plan fun _=>some (newP (fun id=>.mapr id) (.map []))
 |.mlook t zero ok m k=>.plan fun ρ=>pMlook ρ t zero ok m k
 |.mset t m k v=>.plan fun ρ=>pMset ρ t m k v
 |.mlen m=>.plan fun ρ=>pMlen ρ m
 |.call f args m=>.call f args m
 |.callv f args m=>.callv f args m
noncomputable def fetch (H:Heap):Option Rng→Option (List AV)
 |none=>some []
 |some r=>match H.get r.id with
  |some (.row g cells)=>bif Nat.beq g r.g then cut cells r.off r.len else none
  |_=>none
noncomputable def fetchO (H:Heap):Option Nat→Option (Option AObj)
 |none=>some none
 |some id=>match H.get id with
  |some o=>some (some o)
  |none=>none
noncomputable def setO (H:Heap) (u:Option Nat) (ob:Option AObj):Heap:=match ob with
 |none=>H
 |some ob=>match u with
  |some id=>H.put (some ob) id
  |none=>H
noncomputable def runLook (q:Option Rng) (u:Option Nat) (k:List AV→Option AObj→Option Out) (H:Heap) (nx:Nat):Option (AV×Heap×Nat):=match fetch H q with
 |none=>none
 |some a=>match fetchO H u with
  |none=>none
  |some o=>match k a o with
   |none=>none
   |some out=>match out.new with
    |some ob=>some (out.val nx,(setO H u out.obj).put (some ob) nx,Nat.succ nx)
    |none=>some (out.val nx,setO H u out.obj,nx)
noncomputable def runPlan (p:Plan) (H:Heap) (nx:Nat):Option (AV×Heap×Nat):=match p with
 |.val v=>some (v,H,nx)
 |.new f o=>some (f nx,H.put (some o) nx,Nat.succ nx)
 |.look q u k=>runLook q u k H nx
noncomputable def ev (e:Env):Opd→AV
 |.t n=>match e.get n with | some v=>v | none=>undefA
 |.c v=>v
def AOp.opds:AOp→List Opd
 |.mv x | .box x | .load _ x | .nilck x | .un _ x | .conv _ x | .mksl _ _ _ x | .faddr _ x | .fld _ _ x | .ext _ x | .clr _ _ x | .len _ x | .mlen x=>[x]
 |.pick c a b=>[c,a,b]
 |.alloc _ | .mkmap=>[]
 |.build _ ps | .bslice _ _ _ ps | .islice _ _ ps=>ps.map (·.2.2)
 |.store _ a x | .bin _ a x | .eq _ _ a x | .iaddr _ a x | .iarr _ _ a x | .idx a x | .app _ _ a x | .cpy _ a x | .mlook _ _ _ a x=>[a,x]
 |.slstr x l h=>x :: (l.toList++h.toList)
 |.slsl _ x l h m | .slarr _ _ x l h m=>x :: (l.toList++h.toList++m.toList)
 |.mset _ m k v=>[m,k,v]
 |.mnx _ as=>as
 |.call _ as _=>as
 |.callv f as _=>f :: as
noncomputable def drop (H:Heap):List Nat→Heap
 |[]=>H
 |id :: rest=>drop (H.put none id) rest
abbrev FnF:=Nat→List AV→Heap→Nat→Option (AV×Heap×Nat)
noncomputable def endOwn (r:Option (AV×Heap×Nat)) (must:Bool):Option AV:=match r with
 |none=>none
 |some (r,Hc,_)=>bif must then (bif own deep Hc r then toImm deep Hc r else none) else (bif r.plain then some r else toImm deep Hc r)
noncomputable def doCall (cf:FnF) (f:Nat) (args:List AV) (m:Mode) (H:Heap) (nx:Nat):Option (AV×Heap×Nat):=match m with
 |.share=>cf f args H nx
 |.borrow=>bif allB AV.plain args then
   match endOwn (cf f args .leaf 0) false with
   |some r=>some (r,H,nx)
   |none=>none
  else match mapO (toImm deep H) args with
   |none=>none
   |some as=>match endOwn (cf f as .leaf 0) true with
    |some r=>some (r,H,nx)
    |none=>none
noncomputable def doOp (cf:FnF) (op:AOp) (ρ:Opd→AV) (H:Heap) (nx:Nat):Option (AV×Heap×Nat):=match kind op with
 |.plan p=>match p ρ with
  |some p=>runPlan p H nx
  |none=>none
 |.call f args m=>doCall cf f (args.map ρ) m H nx
 |.callv f args m=>match ρ f with
  |.func g=>doCall cf g (args.map ρ) m H nx
  |_=>none
noncomputable def immρ (H:Heap) (ρ:Opd→AV) (x:Opd):AV:=match toImm deep H (ρ x) with
 |some v=>v
 |none=>ρ x
noncomputable def doFz (cf:FnF) (o:AOper) (ρ:Opd→AV) (H:Heap) (nx:Nat):Option (AV×Heap×Nat):=
 bif o.fz then match o.op with
  |.islice len zero parts=>match mapO (toImm deep H) (parts.map fun p=>ρ p.2.2) with
   |none=>none
   |some _=>match pIslice (immρ H ρ) len zero parts with
    |some (.val v)=>some (v,drop H ((parts.map fun p=>ρ p.2.2).flatMap (idsOf deep H)),nx)
    |_=>none
  |_=>none
 else doOp cf o.op ρ H nx
structure St where
 env:Env
 H:Heap
 nx:Nat
noncomputable def wanted (e:Env):Option (Nat×Bool)→Bool
 |none=>true
 |some (g,b)=>match e.get g with
  |some (.bool b')=>b' == b
  |_=>false
noncomputable def putD (nt:Nat) (e:Env) (d:Option Nat) (v:AV):Option Env:=match d with
 |none=>some e
 |some d=>bif Nat.blt d nt then some (e.put (some v) d) else none
noncomputable def runOp (cf:FnF) (nt:Nat) (o:AOper) (st:St):Option St:=
 bif wanted st.env o.gd then
  match doFz cf o (ev st.env) st.H st.nx with
  |none=>none
  |some (v,H,nx)=>match putD nt st.env o.dst v with
   |some e=>some ⟨e,H,nx⟩
   |none=>none
 else match putD nt st.env o.dst undefA with
  |some e=>some ⟨e,st.H,st.nx⟩
  |none=>none
noncomputable def runOps (cf:FnF) (nt:Nat) (l:List AOper):St→Option St:=
 List.rec (motive:=fun _=>St→Option St) (fun st=>some st)
  (fun o _ ih st=>match runOp cf nt o st with
   |some st=>ih st
   |none=>none) l
mutual
def eqAV:AV→AV→Bool
 |.bool a,.bool b=>a == b
 |.int k a,.int k' b=>eqK k k'&&eqA a b
 |.str a,.str b=>decide (a=b)
 |.nilp,.nilp=>true
 |.nils,.nils=>true
 |.ptr a b c,.ptr a' b' c'=>Nat.beq a a'&&Nat.beq b b'&&Nat.beq c c'
 |.iptr cs o,.iptr cs' o'=>eqAVs cs cs'&&Nat.beq o o'
 |.imm cs n c,.imm cs' n' c'=>eqAVs cs cs'&&Nat.beq n n'&&decide (c=c')
 |.ref a b c d e f x,.ref a' b' c' d' e' f' x'=>Nat.beq a a'&&Nat.beq b b'&&Nat.beq c c'&&Nat.beq d d'&&Nat.beq e e'&&Nat.beq f f'&&x == x'
 |.agg cs,.agg cs'=>eqAVs cs cs'
 |.tup cs,.tup cs'=>eqAVs cs cs'
 |.func f,.func f'=>Nat.beq f f'
 |.mapr f,.mapr f'=>Nat.beq f f'
 |_,_=>false
def eqAVs:List AV→List AV→Bool
 |[],[]=>true
 |x :: xs,y :: ys=>eqAV x y&&eqAVs xs ys
 |_,_=>false
end
inductive Rd where
 |rng (r:Rng)
 |obj (id:Nat)
 |all
inductive Tch where
 |ids (l:List Nat)
 |all
structure Rec where
 rds:List Rd
 tch:Tch
 H0:Heap
 H1:Heap
 nx0:Nat
 nx1:Nat
def Plan.rds:Plan→List Rd
 |.look q u _=>(match q with | some r=>[.rng r] | none=>[])++(match u with | some id=>[.obj id] | none=>[])
 |_=>[]
def Plan.tch:Plan→List Nat
 |.look _ u _=>(match u with | some id=>[id] | none=>[])
 |_=>[]
abbrev Eff:=AV×Heap×Nat×List Rd×Tch
noncomputable def effCall (cf:FnF) (n0:Nat) (f:Nat) (args:List AV) (m:Mode) (H:Heap) (nx:Nat):Option Eff:=match m with
 |.share=>match cf f args (H.upto fun i=>Nat.blt i n0) nx with
  |some (v,H',nx')=>some (v,(H'.upto fun i=>Nat.blt i n0||(Nat.ble nx i&&Nat.blt i nx')).union (H.upto fun i=>!(Nat.blt i n0||(Nat.ble nx i&&Nat.blt i nx'))),nx',[.all],.all)
  |none=>none
 |.borrow=>bif allB AV.plain args then
   match doCall cf f args .borrow H nx with
   |some (v,_,_)=>some (v,H,nx,[],.ids [])
   |none=>none
  else match doCall cf f args .borrow (H.upto fun i=>Nat.blt i n0) nx with
   |some (v,_,_)=>some (v,H,nx,[.all],.ids [])
   |none=>none
noncomputable def effOp (cf:FnF) (n0:Nat) (op:AOp) (ρ:Opd→AV) (H:Heap) (nx:Nat):Option Eff:=match kind op with
 |.plan p=>match p ρ with
  |some p=>match runPlan p H nx with
   |some (v,H',nx')=>some (v,H',nx',p.rds,.ids p.tch)
   |none=>none
  |none=>none
 |.call f args m=>effCall cf n0 f (args.map ρ) m H nx
 |.callv f args m=>match ρ f with
  |.func g=>effCall cf n0 g (args.map ρ) m H nx
  |_=>none
noncomputable def effFz (cf:FnF) (n0:Nat) (o:AOper) (ρ:Opd→AV) (H:Heap) (nx:Nat):Option Eff:=
 bif o.fz then match o.op with
  |.islice len zero parts=>match mapO (toImm deep H) (parts.map fun p=>ρ p.2.2) with
   |none=>none
   |some _=>match pIslice (immρ H ρ) len zero parts with
    |some (.val v)=>some (v,drop H ((parts.map fun p=>ρ p.2.2).flatMap (idsOf deep H)),nx,((parts.map fun p=>ρ p.2.2).flatMap (idsOf deep H)).map Rd.obj,.ids ((parts.map fun p=>ρ p.2.2).flatMap (idsOf deep H)))
    |_=>none
  |_=>none
 else effOp cf n0 o.op ρ H nx
noncomputable def effStep (cf:FnF) (nt n0:Nat) (o:AOper) (st:St):Option (St×Rec):=
 bif wanted st.env o.gd then
  match effFz cf n0 o (ev st.env) st.H st.nx with
  |none=>none
  |some (v,H,nx,rds,tch)=>match putD nt st.env o.dst v with
   |none=>none
   |some e=>some (⟨e,H,nx⟩,⟨rds,tch,st.H,H,st.nx,nx⟩)
 else match putD nt st.env o.dst undefA with
  |none=>none
  |some e=>some (⟨e,st.H,st.nx⟩,⟨[],.ids [],st.H,st.H,st.nx,st.nx⟩)
noncomputable def runDOps (cf:FnF) (nt n0:Nat):List AOper→St→Option (St×List Rec)
 |[],st=>some (st,[])
 |o :: rest,st=>match effStep cf nt n0 o st with
  |none=>none
  |some (st1,r)=>match runDOps cf nt n0 rest st1 with
   |none=>none
   |some (st',l)=>some (st',r :: l)
noncomputable def same3 (A B C:Heap) (r:Rng):Bool:=match fetch A (some r),fetch B (some r),fetch C (some r) with
 |some x,some y,some z=>eqAVs x z&&eqAVs y z
 |_,_,_=>false
noncomputable def still1 (a b:Rec):Rd→Bool
 |.rng r=>match a.tch with
  |.ids l=>bif l.contains r.id then same3 a.H0 a.H1 b.H0 r else true
  |.all=>same3 a.H0 a.H1 b.H0 r
 |.obj id=>match a.tch with
  |.ids l=>!l.contains id
  |.all=>false
 |.all=>match a.tch with
  |.ids []=>true
  |_=>false
noncomputable def still (a b:Rec):Bool:=allB (still1 a b) b.rds
def apart (a b:Rec):Bool:=match a.tch,b.tch with
 |.ids l,.ids l'=>l.all fun x=>!l'.contains x
 |.all,.ids []=>true
 |.ids [],.all=>true
 |_,_=>false
noncomputable def pairOk (rs:List Rec) (p:Nat×Nat):Bool:=match rs[p.1]?,rs[p.2]? with
 |some a,some b=>still a b&&still b a&&apart a b
 |_,_=>false
def idOk (n0:Nat) (rs:List Rec) (ahead:List Nat) (id:Nat):Bool:=
 Nat.blt id n0||ahead.any fun i=>match rs[i]? with | some a=>Nat.ble a.nx0 id&&Nat.blt id a.nx1 | none=>false
def rdOk (n0:Nat) (rs:List Rec) (ahead:List Nat):Rd→Bool
 |.rng x=>idOk n0 rs ahead x.id
 |.obj id=>idOk n0 rs ahead id
 |.all=>true
def tchOk (n0:Nat) (rs:List Rec) (ahead:List Nat):Tch→Bool
 |.ids l=>l.all (idOk n0 rs ahead)
 |.all=>true
def knownAll (n0:Nat) (rs:List Rec):List (List Nat)→List Rec→Bool
 |a :: as,r :: rest=>r.rds.all (rdOk n0 rs a)&&tchOk n0 rs a r.tch&&knownAll n0 rs as rest
 |[],[]=>true
 |_,_=>false
noncomputable def runDreg (cf:FnF) (nt:Nat) (ops:List AOper) (ahead:List (List Nat)) (pairs:List (Nat×Nat)) (st:St):Option St:=
 match runDOps cf nt st.nx ops st with
 |none=>none
 |some (st',rs)=>bif knownAll st.nx rs ahead rs&&allB (pairOk rs) pairs then some st' else none
inductive AExit where
 |normal
 |exit (id:Nat)
 |ret
abbrev CodeF:=Nat→ACode→St→Option (AExit×St)
noncomputable def codeStep (ex:CodeF) (cf:FnF) (nt:Nat) (c:ACode) (st:St):Option (AExit×St):=match c with
 |.skip=>some (.normal,st)
 |.reg ops=>match runOps cf nt ops st with
  |some st=>some (.normal,st)
  |none=>none
 |.dreg ops ahead pairs=>match runDreg cf nt ops ahead pairs st with
  |some st=>some (.normal,st)
  |none=>none
 |.seq a b=>match ex nt a st with
  |some (.normal,st)=>ex nt b st
  |r=>r
 |.cond c a b=>match ev st.env c with
  |.bool true=>ex nt a st
  |.bool false=>ex nt b st
  |_=>none
 |.block id c=>match ex nt c st with
  |some (.exit i,st)=>bif Nat.beq i id then some (.normal,st) else some (.exit i,st)
  |r=>r
 |.loop c=>match ex nt c st with
  |some (.normal,st)=>ex nt (.loop c) st
  |r=>r
 |.exit id=>some (.exit id,st)
 |.ret=>some (.ret,st)
noncomputable def initE:List AV→Nat→Env→Env
 |[],_,e=>e
 |v :: vs,i,e=>initE vs (i + 1) (e.put (some v) i)
noncomputable def resOne (e:Env) (H:Heap):ARes→Option AV
 |.tmp t=>some (ev e (.t t))
 |.cell t sz=>match ev e (.t t) with
  |.ptr id g off=>match fetch H (some ⟨id,g,off,loadA sz⟩) with
   |some cs=>mkv sz cs
   |none=>none
  |_=>none
noncomputable def resA (l:List ARes) (st:St):Option (AV×Heap×Nat):=match mapO (resOne st.env st.H) l with
 |some [v]=>some (v,st.H,st.nx)
 |some vs=>some (.tup vs,st.H,st.nx)
 |none=>none
noncomputable def fnStep (prog:Map AFunc) (ex:CodeF):FnF:=fun f args H nx=>match prog.get f with
 |none=>none
 |some af=>bif Nat.beq args.length af.params then
   match ex af.nt af.body ⟨initE args 0 .leaf,H,nx⟩ with
   |some (.normal,st)=>resA af.res st
   |some (.ret,st)=>resA af.res st
   |_=>none
  else none
structure Sems where
 code:CodeF
 fn:FnF
noncomputable def interp (prog:Map AFunc) (k:Nat):Sems:=
 Nat.rec (motive:=fun _=>Sems) ⟨fun _ _ _=>none,fun _ _ _ _=>none⟩ (fun _ p=>⟨codeStep p.code p.fn,fnStep prog p.code⟩) k
end Go.Ax

set_option linter.unusedSimpArgs false
set_option linter.unusedVariables false
namespace Go.Ax
theorem brec {α:Sort _} (c:Bool) (a b:α):(Bool.rec a b c:α)=if c=true then b else a:=by cases c <;> rfl
namespace Map
variable {α:Type}
theorem get_leaf (i:Nat):(leaf:Map α).get i=none:=rfl
theorem get_node (v:Option α) (l r:Map α) (i:Nat):(node v l r).get i=if i=0 then v else if i % 2=1 then l.get (i / 2) else r.get (i / 2 - 1):=by
 show (Bool.rec (Bool.rec (r.get (i / 2 - 1)) (l.get (i / 2)) (Nat.beq (i % 2) 1)) v (Nat.beq i 0):Option α)=_
 simp only [brec,Nat.beq_eq]
theorem one_succ (v:Option α) (f i:Nat):one v (f + 1) i=if i=0 then .node v .leaf .leaf else if i % 2=1 then .node none (one v f (i / 2)) .leaf else .node none .leaf (one v f (i / 2 - 1)):=by
 show (Bool.rec (Bool.rec (.node none .leaf (one v f (i / 2 - 1))) (.node none (one v f (i / 2)) .leaf) (Nat.beq (i % 2) 1)) (.node v .leaf .leaf) (Nat.beq i 0):Map α)=_
 simp only [brec,Nat.beq_eq]
theorem put_leaf (v:Option α) (i:Nat):put v leaf i=one v (i + 1) i:=rfl
theorem put_node (w v:Option α) (l r:Map α) (i:Nat):put w (node v l r) i=if i=0 then .node w l r else if i % 2=1 then .node v (put w l (i / 2)) r else .node v l (put w r (i / 2 - 1)):=by
 show (Bool.rec (Bool.rec (.node v l (put w r (i / 2 - 1))) (.node v (put w l (i / 2)) r) (Nat.beq (i % 2) 1)) (.node w l r) (Nat.beq i 0):Map α)=_
 simp only [brec,Nat.beq_eq]
theorem get_one (v:Option α):∀(f i j:Nat),i < f→(one v f i).get j=if j=i then v else none:=by
 intro f
 induction f with
 |zero=>intro i j h;omega
 |succ f ih=>
  intro i j h
  rw [one_succ]
  by_cases h0:i=0
  ·subst h0
   simp only [if_true,get_node,get_leaf]
   split <;> simp_all
  ·rw [if_neg h0]
   by_cases h1:i % 2=1
   ·rw [if_pos h1,get_node,ih _ _ (by omega)]
    by_cases hj:j=0
    ·subst hj;rw [if_pos rfl,if_neg (by omega)]
    ·rw [if_neg hj]
     by_cases hj1:j % 2=1
     ·rw [if_pos hj1]
      by_cases e:j=i
      ·subst e;simp
      ·rw [if_neg (by omega),if_neg e]
     ·rw [if_neg hj1,get_leaf,if_neg (by rintro rfl;exact hj1 h1)]
   ·rw [if_neg h1,get_node,ih _ _ (by omega)]
    by_cases hj:j=0
    ·subst hj;rw [if_pos rfl,if_neg (by omega)]
    ·rw [if_neg hj]
     by_cases hj1:j % 2=1
     ·rw [if_pos hj1,get_leaf,if_neg (by rintro rfl;exact h1 hj1)]
     ·rw [if_neg hj1]
      by_cases e:j=i
      ·subst e;simp
      ·rw [if_neg (by omega),if_neg e]
theorem get_put (w:Option α) (m:Map α):∀(i j:Nat),(put w m i).get j=if j=i then w else m.get j:=by
 induction m with
 |leaf=>intro i j;rw [put_leaf,get_one _ _ _ _ (by omega),get_leaf]
 |node v l r ihl ihr=>
  intro i j
  rw [put_node]
  by_cases h0:i=0
  ·subst h0
   rw [if_pos rfl,get_node,get_node]
   split <;> rfl
  ·rw [if_neg h0]
   by_cases h1:i % 2=1
   ·rw [if_pos h1,get_node,get_node,ihl]
    by_cases hj:j=0
    ·subst hj;rw [if_pos rfl,if_neg (by omega),if_pos rfl]
    ·rw [if_neg hj,if_neg hj]
     by_cases hj1:j % 2=1
     ·rw [if_pos hj1,if_pos hj1]
      by_cases e:j=i
      ·subst e;simp
      ·rw [if_neg (by omega),if_neg e]
     ·rw [if_neg hj1,if_neg hj1,if_neg (by rintro rfl;exact hj1 h1)]
   ·rw [if_neg h1,get_node,get_node,ihr]
    by_cases hj:j=0
    ·subst hj;rw [if_pos rfl,if_neg (by omega),if_pos rfl]
    ·rw [if_neg hj,if_neg hj]
     by_cases hj1:j % 2=1
     ·rw [if_pos hj1,if_pos hj1,if_neg (by rintro rfl;exact h1 hj1)]
     ·rw [if_neg hj1,if_neg hj1]
      by_cases e:j=i
      ·subst e;simp
      ·rw [if_neg (by omega),if_neg e]
theorem get_upto (m:Map α):∀(p:Nat→Bool) (i:Nat),(m.upto p).get i=if p i=true then m.get i else none:=by
 induction m with
 |leaf=>intro p i;show none=_;rw [get_leaf];split <;> rfl
 |node v l r ihl ihr=>
  intro p i
  show (node _ (l.upto _) (r.upto _)).get i=_
  rw [get_node,get_node,ihl,ihr,brec]
  by_cases h0:i=0
  ·subst h0;simp
  ·rw [if_neg h0,if_neg h0]
   by_cases h1:i % 2=1
   ·rw [if_pos h1,if_pos h1]
    have e:Nat.succ (Nat.mul 2 (i / 2))=i:=by simp only [Nat.succ_eq_add_one,Nat.mul_eq];omega
    rw [e]
   ·rw [if_neg h1,if_neg h1]
    have e:Nat.succ (Nat.succ (Nat.mul 2 (i / 2 - 1)))=i:=by simp only [Nat.succ_eq_add_one,Nat.mul_eq];omega
    rw [e]
theorem get_union (a:Map α):∀(b:Map α) (i:Nat),(a.union b).get i=match a.get i with | some x=>some x | none=>b.get i:=by
 induction a with
 |leaf=>intro b i;rfl
 |node v l r ihl ihr=>
  intro b i
  cases b with
  |leaf=>show (node v l r).get i=_;cases (node v l r).get i <;> rfl
  |node v' l' r'=>
   show (node _ (l.union l') (r.union r')).get i=_
   rw [get_node,get_node,get_node,ihl,ihr]
   by_cases h0:i=0
   ·simp only [if_pos h0];try (cases v <;> rfl)
   ·simp only [if_neg h0]
    by_cases h1:i % 2=1
    ·simp only [if_pos h1]
    ·simp only [if_neg h1]
end Map
theorem allB_true {α:Type} {f:α→Bool} {l:List α}:allB f l=true↔∀x∈l,f x=true:=by
 induction l with
 |nil=>exact ⟨fun _ _ h=>(by cases h),fun _=>rfl⟩
 |cons x l ih=>
  show (Bool.rec false (allB f l) (f x):Bool)=true↔_
  rw [brec]
  split
  ·rename_i h;rw [ih];simp [h]
  ·rename_i h;simp [h]
theorem mapO_cons {α β:Type} (f:α→Option β) (x:α) (l:List α):mapO f (x :: l)=match f x with | none=>none | some y=>match mapO f l with | none=>none | some ys=>some (y :: ys):=rfl
theorem mapO_nil {α β:Type} (f:α→Option β):mapO f []=some []:=rfl
theorem mapO_some {α β:Type} {f:α→Option β} {l:List α} {r:List β} (h:mapO f l=some r):l.length=r.length∧∀(j:Nat) (x:α),l[j]?=some x→∃y,r[j]?=some y∧f x=some y:=by
 induction l generalizing r with
 |nil=>rw [mapO_nil] at h;cases h;exact ⟨rfl,fun j x hx=>by simp at hx⟩
 |cons a l ih=>
  rw [mapO_cons] at h
  cases ha:f a with
  |none=>rw [ha] at h;cases h
  |some y=>
   rw [ha] at h
   cases hl:mapO f l with
   |none=>rw [hl] at h;cases h
   |some ys=>
    rw [hl] at h
    cases h
    obtain ⟨h1,h2⟩:=ih hl
    refine ⟨by simp [h1],fun j x hx=>?_⟩
    cases j with
    |zero=>simp at hx;subst hx;exact ⟨y,rfl,ha⟩
    |succ j=>simpa using h2 j x (by simpa using hx)
theorem first_nil (n:Nat):first [] n=if n=0 then some [] else none:=by
 show (Bool.rec _ _ _:Option (List AV))=_;simp only [brec,Nat.beq_eq]
theorem first_cons (x:AV) (l:List AV) (n:Nat):first (x :: l) n=if n=0 then some [] else match first l (n - 1) with | some r=>some (x :: r) | none=>none:=by
 show (Bool.rec (match first l (n - 1) with | some r=>some (x :: r) | none=>none) (some []) (Nat.beq n 0):Option (List AV))=_;simp only [brec,Nat.beq_eq]
theorem first_eq (cells:List AV):∀n,first cells n=if n≤cells.length then some (cells.take n) else none:=by
 induction cells with
 |nil=>intro n;rw [first_nil];cases n <;> simp
 |cons x l ih=>
  intro n
  rw [first_cons,ih]
  cases n with
  |zero=>simp
  |succ n=>simp only [Nat.add_one_ne_zero,if_false,Nat.add_sub_cancel,List.length_cons,Nat.add_le_add_iff_right];by_cases h:n≤l.length <;> simp [h]
theorem cut_nil (off n:Nat):cut [] off n=if off=0 then first [] n else none:=by
 show (Bool.rec _ _ _:Option (List AV))=_;simp only [brec,Nat.beq_eq]
theorem cut_cons (x:AV) (l:List AV) (off n:Nat):cut (x :: l) off n=if off=0 then first (x :: l) n else cut l (off - 1) n:=by
 show (Bool.rec (cut l (off - 1) n) (first (x :: l) n) (Nat.beq off 0):Option (List AV))=_;simp only [brec,Nat.beq_eq]
theorem cut_eq (cells:List AV):∀off n,cut cells off n=if off + n≤cells.length then some ((cells.drop off).take n) else none:=by
 induction cells with
 |nil=>intro off n;rw [cut_nil,first_eq];cases off <;> simp
 |cons x l ih=>
  intro off n
  rw [cut_cons,ih,first_eq]
  cases off with
  |zero=>simp
  |succ off=>simp only [Nat.add_one_ne_zero,if_false,Nat.add_sub_cancel,List.length_cons,List.drop_succ_cons];simp only [Nat.add_right_comm off 1 n,Nat.add_le_add_iff_right]
theorem cut_some {cells cs:List AV} {off n:Nat} (h:cut cells off n=some cs):off + n≤cells.length∧cs=(cells.drop off).take n:=by
 rw [cut_eq] at h
 split at h
 ·rename_i hl;exact ⟨hl,by injection h with h;exact h.symm⟩
 ·cases h
theorem cut_at {cells cs:List AV} {off n:Nat} (h:cut cells off n=some cs):cs.length=n∧∀j,j < n→cs[j]?=cells[off + j]?:=by
 obtain ⟨hl,rfl⟩:=cut_some h
 refine ⟨by simp;omega,fun j hj=>by rw [List.getElem?_take_of_lt hj,List.getElem?_drop]⟩
theorem overF_nil (cells:List AV):overF [] cells=some cells:=rfl
theorem overF_cons (y:AV) (cs:List AV):∀cells,overF (y :: cs) cells=match cells with | []=>none | _ :: xs=>match overF cs xs with | some l=>some (y :: l) | none=>none:=fun _=>rfl
theorem overF_eq (cs:List AV):∀cells,overF cs cells=if cs.length≤cells.length then some (cs++cells.drop cs.length) else none:=by
 induction cs with
 |nil=>intro cells;simp [overF_nil]
 |cons y cs ih=>
  intro cells
  rw [overF_cons]
  cases cells with
  |nil=>simp
  |cons x xs=>simp only [ih,List.length_cons,Nat.add_le_add_iff_right,List.drop_succ_cons,List.cons_append];by_cases h:cs.length≤xs.length <;> simp [h]
theorem over_nil (off:Nat) (cs:List AV):over [] off cs=if off=0 then overF cs [] else none:=by
 show (Bool.rec _ _ _:Option (List AV))=_;simp only [brec,Nat.beq_eq]
theorem over_cons (x:AV) (l:List AV) (off:Nat) (cs:List AV):over (x :: l) off cs=if off=0 then overF cs (x :: l) else match over l (off - 1) cs with | some r=>some (x :: r) | none=>none:=by
 show (Bool.rec (match over l (off - 1) cs with | some r=>some (x :: r) | none=>none) (overF cs (x :: l)) (Nat.beq off 0):Option (List AV))=_;simp only [brec,Nat.beq_eq]
theorem over_eq (cells:List AV):∀off cs,over cells off cs=if off + cs.length≤cells.length then some (cells.take off++cs++cells.drop (off + cs.length)) else none:=by
 induction cells with
 |nil=>intro off cs;rw [over_nil,overF_eq];cases off <;> simp
 |cons x l ih=>
  intro off cs
  rw [over_cons,ih,overF_eq]
  cases off with
  |zero=>simp
  |succ off=>
   simp only [Nat.add_one_ne_zero,if_false,Nat.add_sub_cancel,List.length_cons,List.take_succ_cons,Nat.add_right_comm off 1 cs.length,Nat.add_le_add_iff_right,List.drop_succ_cons]
   by_cases h:off + cs.length≤l.length <;> simp [h]
theorem over_some {cells cells' cs:List AV} {off:Nat} (h:over cells off cs=some cells'):off + cs.length≤cells.length∧cells'=cells.take off++cs++cells.drop (off + cs.length):=by
 rw [over_eq] at h
 split at h
 ·rename_i hl;exact ⟨hl,by injection h with h;exact h.symm⟩
 ·cases h
theorem over_at {cells cells' cs:List AV} {off:Nat} (h:over cells off cs=some cells'):cells'.length=cells.length∧∀j,cells'[j]?=if off≤j∧j < off + cs.length then cs[j - off]? else cells[j]?:=by
 obtain ⟨hl,rfl⟩:=over_some h
 refine ⟨by simp;omega,fun j=>?_⟩
 by_cases h1:j < off
 ·rw [List.getElem?_append_left (by simp;omega),List.getElem?_append_left (by simp;omega),List.getElem?_take_of_lt h1,if_neg (by omega)]
 ·by_cases h2:j < off + cs.length
  ·rw [List.getElem?_append_left (by simp;omega),List.getElem?_append_right (by simp;omega),if_pos ⟨by omega,h2⟩]
   congr 1
   simp
   omega
  ·rw [List.getElem?_append_right (by simp;omega),if_neg (by omega),List.getElem?_drop]
   congr 1
   simp
   omega
theorem eqK_eq {a b:IntKind} (h:eqK a b=true):a=b:=by cases a <;> cases b <;> first | rfl | cases h
theorem blt_d (a b:Nat):Nat.blt a b=decide (a < b):=by rw [Bool.eq_iff_iff];simp [Nat.blt_eq]
theorem ltA_eq (x y:Int):ltA x y=decide (x < y):=by
 cases x <;> cases y <;> simp only [ltA,blt_d] <;> first
  |(congr 1;simp only [Int.ofNat_eq_natCast,eq_iff_iff];omega)
  |(symm;rw [decide_eq_true_eq];simp only [Int.ofNat_eq_natCast];omega)
  |(symm;rw [decide_eq_false_iff_not];simp only [Int.ofNat_eq_natCast];omega)
theorem eqA_eq (x y:Int):eqA x y=decide (x=y):=by
 cases x <;> cases y <;> simp only [eqA] <;> first
  |(rw [Bool.eq_iff_iff,Nat.beq_eq,decide_eq_true_eq];simp only [Int.ofNat_eq_natCast];omega)
  |(rw [Bool.eq_iff_iff,Nat.beq_eq,decide_eq_true_eq,Int.negSucc.injEq])
  |(symm;rw [decide_eq_false_iff_not];simp only [Int.ofNat_eq_natCast];omega)
theorem ixA_some {i:Int} {n m:Nat} (h:ixA i n=some m):i=(m:Int)∧m < n:=by
 cases i with
 |ofNat k=>
  simp only [ixA,blt_d,cond_eq_ite,decide_eq_true_eq] at h
  split at h
  ·cases h;exact ⟨rfl,by assumption⟩
  ·cases h
 |negSucc k=>cases h
theorem bdA_some {i:Int} {n m:Nat} (h:bdA i n=some m):i=(m:Int)∧m≤n:=by
 cases i with
 |ofNat k=>
  simp only [bdA,cond_eq_ite,Nat.ble_eq] at h
  split at h
  ·cases h;exact ⟨rfl,by assumption⟩
  ·cases h
 |negSucc k=>cases h
theorem wrapA_eq (k:IntKind) (n:Int):wrapA k n=k.wrap n:=by
 unfold wrapA
 rw [cond_eq_ite]
 split
 ·rename_i h
  cases k <;> cases n <;> simp only [inR,blt_d,decide_eq_true_eq] at h <;> simp only [IntKind.wrap,IntKind.bits,IntKind.signed,Int.ofNat_eq_natCast] <;> simp <;> omega
 ·rfl
end Go.Ax

namespace Go.Ax.TryLb
open Go Go.Ax
abbrev oT (d t:Nat) (op:AOp):AOper:=⟨some d,op,some (t,true),false⟩
abbrev oF (d t:Nat) (op:AOp):AOper:=⟨some d,op,some (t,false),false⟩
abbrev oN (op:AOp):AOper:=⟨none,op,none,false⟩
abbrev zi:AV:=.int .i64 0
def r6_0:List AOper:=[o 4 (.mv (.c (.bool false)))]
def r6_1:List AOper:=[o 8 (.build [zi,zi,zi,zi,zi,zi,zi,zi,zi,.nils,zi,zi,zi,zi,.nils,zi,zi,zi,.nils] [(1,1,(i64 1))]),
 ⟨some 9,.islice 1 [zi,zi,zi,zi,zi,zi,zi,zi,zi,.nils,zi,zi,zi,zi,.nils,zi,zi,zi,.nils] [(0,19,(.t 8))],none,true⟩,
 o 10 (.build [zi,.nils,.nils] [(0,1,(i64 2)),(1,1,(.t 9))]),
 ⟨some 11,.islice 1 [zi,.nils,.nils] [(0,3,(.t 10))],none,true⟩,
 o 12 (.islice 1 [zi] [(0,1,(i64 2))]),
 o 13 (.build [.nils,.nils,.nils] [(0,1,(.c (.nils))),(1,1,(.t 11)),(2,1,(.t 12))]),
 o 5 (.alloc [.nils,.nils,.nils]),
 oN (.store 3 (.t 5) (.t 13))]
def r6_2:List AOper:=[o 15 (.load (some 3) (.t 5)),
 o 16 (.call 31 [.t 15] .share),
 o 14 (.mv (.t 16)),
 o 17 (.ext 0 (.t 14)),
 o 18 (.ext 1 (.t 14)),
 o 6 (.alloc [.nils,.nils,.nils,.nils]),
 oN (.store 4 (.t 6) (.t 17)),
 o 7 (.mv (.t 18))]
def r6_3:List AOper:=[o 19 (.call 20 [] .borrow),
 o 20 (.un .not (.t 19)),
 o 21 (.mv (.t 20)),
 oF 22 21 (.mv (.t 7)),
 oF 23 21 (.bin .neq (.t 22) (i64 0)),
 o 24 (.pick (.t 21) (.c (.bool true)) (.t 23))]
def r6_4:List AOper:=[o 4 (.mv (.c (.bool false)))]
def r6_5:List AOper:=[o 25 (.mv (.t 1)),
 o 26 (.bin .rem (.t 25) (i64 2)),
 o 27 (.bin .eql (.t 26) (i64 0))]
def r6_6:List AOper:=[o 28 (.faddr 1 (.t 6)),
 o 29 (.load none (.t 28)),
 o 30 (.iaddr 1 (.t 29) (i64 0)),
 o 31 (.load none (.t 30)),
 o 32 (.mv (.t 0)),
 o 33 (.iaddr 1 (.t 31) (i64 1)),
 oN (.store 1 (.t 33) (.t 32))]
def r6_7:List AOper:=[o 34 (.load (some 3) (.t 5)),
 o 35 (.load (some 4) (.t 6)),
 o 36 (.call 22 [.t 34,.t 35] .borrow),
 o 37 (.mv (.t 0)),
 o 38 (.bin .geq (.t 37) (i64 (-2147483648))),
 o 39 (.mv (.t 38)),
 oT 40 39 (.mv (.t 0)),
 oT 41 39 (.bin .leq (.t 40) (i64 2147483647)),
 o 42 (.pick (.t 39) (.t 41) (.c (.bool false))),
 o 43 (.eq (.one .bool) false (.t 36) (.t 42)),
 o 4 (.mv (.t 43))]
def r6_8:List AOper:=[o 44 (.faddr 0 (.t 6)),
 o 45 (.load none (.t 44)),
 o 46 (.mv (.t 0)),
 o 47 (.iaddr 1 (.t 45) (i64 0)),
 oN (.store 1 (.t 47) (.t 46))]
def r6_9:List AOper:=[o 48 (.load (some 3) (.t 5)),
 o 49 (.load (some 4) (.t 6)),
 o 50 (.call 22 [.t 48,.t 49] .borrow),
 o 51 (.mv (.t 0)),
 o 52 (.bin .eql (.t 51) (i64 0)),
 o 53 (.mv (.t 52)),
 oF 54 53 (.mv (.t 0)),
 oF 55 53 (.bin .eql (.t 54) (i64 1)),
 o 56 (.pick (.t 53) (.c (.bool true)) (.t 55)),
 o 57 (.eq (.one .bool) false (.t 50) (.t 56)),
 o 4 (.mv (.t 57))]
def c6:ACode:=.seq (.reg r6_0) (.seq (.reg r6_1) (.seq (.reg r6_2) (.seq (.seq (.reg r6_3) (.cond (.t 24) (.seq (.reg r6_4) (.ret)) (.skip))) (.seq (.seq (.reg r6_5) (.cond (.t 27) (.seq (.reg r6_6) (.seq (.reg r6_7) (.ret))) (.skip))) (.seq (.reg r6_8) (.seq (.reg r6_9) (.ret)))))))
def a6:AFunc:=⟨2,58,[.tmp 4],c6⟩
def r20_0:List AOper:=[o 0 (.mv (.c (.bool false)))]
def r20_1:List AOper:=[o 8 (.build [zi,zi,zi,zi,zi,zi,zi,zi,zi,.nils,zi,zi,zi,zi,.nils,zi,zi,zi,.nils] [(1,1,(i64 1))]),
 ⟨some 9,.islice 1 [zi,zi,zi,zi,zi,zi,zi,zi,zi,.nils,zi,zi,zi,zi,.nils,zi,zi,zi,.nils] [(0,19,(.t 8))],none,true⟩,
 o 10 (.build [zi,.nils,.nils] [(0,1,(i64 2)),(1,1,(.t 9))]),
 ⟨some 11,.islice 1 [zi,.nils,.nils] [(0,3,(.t 10))],none,true⟩,
 o 12 (.islice 1 [zi] [(0,1,(i64 1))]),
 o 13 (.build [.nils,.nils,.nils] [(1,1,(.t 11)),(2,1,(.t 12))]),
 o 1 (.alloc [.nils,.nils,.nils]),
 oN (.store 3 (.t 1) (.t 13))]
def r20_2:List AOper:=[o 15 (.load (some 3) (.t 1)),
 o 16 (.call 31 [.t 15] .borrow),
 o 14 (.mv (.t 16)),
 o 17 (.ext 0 (.t 14)),
 o 18 (.ext 1 (.t 14)),
 o 2 (.alloc [.nils,.nils,.nils,.nils]),
 oN (.store 4 (.t 2) (.t 17)),
 o 3 (.mv (.t 18))]
def r20_3:List AOper:=[o 20 (.load (some 3) (.t 1)),
 o 21 (.load (some 4) (.t 2)),
 o 22 (.call 27 [.t 21] .borrow),
 o 23 (.call 26 [.t 20,.t 22] .borrow),
 o 19 (.mv (.t 23)),
 o 24 (.ext 0 (.t 19)),
 o 25 (.ext 1 (.t 19)),
 o 4 (.alloc [.nils,.nils,.nils,.nils]),
 oN (.store 4 (.t 4) (.t 24)),
 o 5 (.mv (.t 25))]
def b20_3:List (List Nat):=[[],[],[1],[0,1,2],[0,1,2,3],[0,1,2,3,4],[0,1,2,3,4],[],[0,1,2,3,4,5,7],[0,1,2,3,4,5,6,7,8]]
def r20_4:List AOper:=[o 27 (.build [.nils,.nils,.nils] []),
 o 28 (.call 31 [.t 27] .borrow),
 o 26 (.mv (.t 28)),
 o 29 (.ext 0 (.t 26)),
 o 30 (.ext 1 (.t 26)),
 o 6 (.alloc [.nils,.nils,.nils,.nils]),
 oN (.store 4 (.t 6) (.t 29)),
 o 7 (.mv (.t 30))]
def r20_5:List AOper:=[o 31 (.mv (.t 3)),
 o 32 (.bin .eql (.t 31) (i64 0)),
 o 33 (.mv (.t 32)),
 oT 34 33 (.mv (.t 5)),
 oT 35 33 (.bin .eql (.t 34) (i64 0)),
 o 36 (.pick (.t 33) (.t 35) (.c (.bool false))),
 o 37 (.mv (.t 36)),
 oT 38 37 (.mv (.t 7)),
 oT 39 37 (.bin .eql (.t 38) (i64 1)),
 o 40 (.pick (.t 37) (.t 39) (.c (.bool false))),
 o 41 (.mv (.t 40)),
 oT 42 41 (.load (some 3) (.t 1)),
 oT 43 41 (.load (some 4) (.t 2)),
 oT 44 41 (.call 22 [.t 42,.t 43] .borrow),
 o 45 (.pick (.t 41) (.t 44) (.c (.bool false))),
 o 46 (.mv (.t 45)),
 oT 47 46 (.faddr 0 (.t 2)),
 oT 48 46 (.load none (.t 47)),
 oT 49 46 (.len false (.t 48)),
 oT 50 46 (.bin .eql (.t 49) (i64 1)),
 o 51 (.pick (.t 46) (.t 50) (.c (.bool false))),
 o 52 (.mv (.t 51)),
 oT 53 52 (.load (some 4) (.t 2)),
 oT 54 52 (.call 29 [.t 53] .borrow),
 oT 55 52 (.load (some 4) (.t 4)),
 oT 56 52 (.call 29 [.t 55] .borrow),
 oT 57 52 (.call 28 [.t 54,.t 56] .borrow),
 o 58 (.pick (.t 52) (.t 57) (.c (.bool false))),
 o 0 (.mv (.t 58))]
def b20_5:List (List Nat):=[[],[0],[0,1],[0,1,2],[0,1,2,3],[0,1,2,3,4],[0,1,2,3,4,5],[0,1,2,3,4,5,6],[0,1,2,3,4,5,6,7],[0,1,2,3,4,5,6,7,8],[0,1,2,3,4,5,6,7,8,9],[0,1,2,3,4,5,6,7,8,9,10],[0,1,2,3,4,5,6,7,8,9,10],[0,1,2,3,4,5,6,7,8,9,10,11,12],[0,1,2,3,4,5,6,7,8,9,10,11,12,13],[0,1,2,3,4,5,6,7,8,9,10,11,12,13,14],[0,1,2,3,4,5,6,7,8,9,10,11,12,13,14,15],[0,1,2,3,4,5,6,7,8,9,10,11,12,13,14,15,16],[0,1,2,3,4,5,6,7,8,9,10,11,12,13,14,15,16,17],[0,1,2,3,4,5,6,7,8,9,10,11,12,13,14,15,16,17,18],[0,1,2,3,4,5,6,7,8,9,10,11,12,13,14,15,16,17,18,19],[0,1,2,3,4,5,6,7,8,9,10,11,12,13,14,15,16,17,18,19,20],[0,1,2,3,4,5,6,7,8,9,10,11,12,13,14,15,16,17,18,19,20,21],[0,1,2,3,4,5,6,7,8,9,10,11,12,13,14,15,16,17,18,19,20,21,22],[0,1,2,3,4,5,6,7,8,9,10,11,12,13,14,15,16,17,18,19,20,21],[0,1,2,3,4,5,6,7,8,9,10,11,12,13,14,15,16,17,18,19,20,21,22,23,24],[0,1,2,3,4,5,6,7,8,9,10,11,12,13,14,15,16,17,18,19,20,21,22,23,24,25],[0,1,2,3,4,5,6,7,8,9,10,11,12,13,14,15,16,17,18,19,20,21,22,23,24,25,26],[0,1,2,3,4,5,6,7,8,9,10,11,12,13,14,15,16,17,18,19,20,21,22,23,24,25,26,27]]
def c20:ACode:=.seq (.reg r20_0) (.seq (.reg r20_1) (.seq (.reg r20_2) (.seq (.dreg r20_3 b20_3 []) (.seq (.reg r20_4) (.seq (.dreg r20_5 b20_5 []) (.ret))))))
def a20:AFunc:=⟨0,59,[.tmp 0],c20⟩
def r22_0:List AOper:=[o 2 (.box (.t 0)),
 o 3 (.box (.t 1)),
 o 4 (.mv (.c (.bool false)))]
def r22_1:List AOper:=[o 5 (.load (some 3) (.t 2)),
 o 6 (.call 53 [.t 5] .borrow),
 o 7 (.mv (.t 6)),
 oT 8 7 (.load (some 3) (.t 2)),
 oT 9 7 (.load (some 4) (.t 3)),
 oT 10 7 (.call 54 [.t 8,.t 9] .borrow),
 o 11 (.pick (.t 7) (.t 10) (.c (.bool false))),
 o 4 (.mv (.t 11))]
def c22:ACode:=.seq (.reg r22_0) (.seq (.reg r22_1) (.ret))
def a22:AFunc:=⟨2,12,[.tmp 4],c22⟩
def r26_0:List AOper:=[o 2 (.box (.t 0)),
 o 3 (.box (.t 1)),
 o 4 (.alloc [.nils,.nils,.nils,.nils]),
 o 5 (.mv (i64 0))]
def r26_1:List AOper:=[o 12 (.load (some 3) (.t 2)),
 o 13 (.call 53 [.t 12] .borrow),
 o 14 (.un .not (.t 13))]
def r26_2:List AOper:=[o 15 (.build [.nils,.nils,.nils,.nils] []),
 oN (.store 4 (.t 4) (.t 15)),
 o 5 (.mv (i64 1))]
def r26_3:List AOper:=[o 16 (.faddr 0 (.t 3)),
 o 17 (.faddr 1 (.t 2)),
 o 18 (.load none (.t 17)),
 o 19 (.len false (.t 18)),
 o 20 (.slarr 4 1 (.t 16) none (some (.t 19)) none),
 o 21 (.call 56 [.t 20] .borrow),
 o 22 (.faddr 160 (.t 3)),
 o 23 (.faddr 0 (.t 2)),
 o 24 (.load none (.t 23)),
 o 25 (.len false (.t 24)),
 o 26 (.slarr 4 1 (.t 22) none (some (.t 25)) none),
 o 27 (.call 56 [.t 26] .borrow),
 o 28 (.build [.nils,.nils,.nils,.nils] [(0,1,(.t 21)),(3,1,(.t 27))]),
 o 6 (.alloc [.nils,.nils,.nils,.nils]),
 oN (.store 4 (.t 6) (.t 28))]
def b26_3:List (List Nat):=[[],[],[1],[1,2],[0,1,2,3],[0,1,2,3,4],[],[],[7],[7,8],[6,7,8,9],[0,1,2,3,4,5,6,7,8,9,10],[0,1,2,3,4,5,6,7,8,9,10,11],[],[0,1,2,3,4,5,6,7,8,9,10,11,12,13]]
def r26_4:List AOper:=[o 29 (.faddr 2 (.t 2)),
 o 30 (.load none (.t 29)),
 o 31 (.len false (.t 30)),
 o 32 (.mv (i64 0))]
def r26_5:List AOper:=[o 33 (.bin .lss (.t 32) (.t 31))]
def r26_6:List AOper:=[o 34 (.mv (.t 32)),
 o 35 (.iaddr 1 (.t 30) (.t 32)),
 o 36 (.load none (.t 35)),
 o 7 (.mv (.t 34)),
 o 8 (.mv (.t 36))]
def r26_7:List AOper:=[o 37 (.faddr 1 (.t 6)),
 o 38 (.load none (.t 37)),
 o 39 (.mv (.t 7)),
 o 40 (.faddr 4 (.t 3)),
 o 41 (.iarr 4 6 (.t 40) (.t 39)),
 o 42 (.mv (.t 8)),
 o 43 (.slarr 6 1 (.t 41) none (some (.t 42)) none),
 o 44 (.call 56 [.t 43] .borrow),
 ⟨some 45,.islice 1 [.nils] [(0,1,(.t 44))],none,true⟩,
 o 46 (.app 1 24 (.t 38) (.t 45)),
 o 47 (.faddr 1 (.t 6)),
 oN (.store 1 (.t 47) (.t 46))]
def b26_7:List (List Nat):=[[],[0],[],[],[2,3],[],[2,3,4,5],[2,3,4,5,6],[2,3,4,5,6,7],[0,1,2,3,4,5,6,7,8],[0,1,2,3,4,5,6,7,8,9],[0,1,2,3,4,5,6,7,8,9,10]]
def r26_8:List AOper:=[o 48 (.bin .add (.t 32) (i64 1)),
 o 32 (.mv (.t 48))]
def l26_0:ACode:=.seq (.reg r26_5) (.seq (.cond (.t 33) (.skip) (.exit 0)) (.seq (.block 1 (.seq (.reg r26_6) (.dreg r26_7 b26_7 [(1,8)]))) (.reg r26_8)))
def r26_9:List AOper:=[o 49 (.faddr 0 (.t 2)),
 o 50 (.load none (.t 49)),
 o 51 (.len false (.t 50)),
 o 52 (.mv (i64 0))]
def r26_10:List AOper:=[o 53 (.bin .lss (.t 52) (.t 51))]
def r26_11:List AOper:=[o 54 (.mv (.t 52)),
 o 9 (.mv (.t 54))]
def r26_12:List AOper:=[o 55 (.mv (.t 9)),
 o 56 (.faddr 156 (.t 3)),
 o 57 (.iarr 4 1 (.t 56) (.t 55)),
 o 58 (.load none (.t 57)),
 o 59 (.mnx true [.t 58,(i64 0)]),
 o 60 (.mnx false [.t 59,(i64 16)]),
 o 10 (.mv (.t 60))]
def r26_13:List AOper:=[o 61 (.faddr 2 (.t 6)),
 o 62 (.load none (.t 61)),
 o 63 (.mv (.t 9)),
 o 64 (.faddr 28 (.t 3)),
 o 65 (.iarr 4 32 (.t 64) (.t 63)),
 o 66 (.mv (.t 10)),
 o 67 (.slarr 16 2 (.t 65) none (some (.t 66)) none),
 o 68 (.call 57 [.t 67] .borrow),
 ⟨some 69,.islice 1 [.nils] [(0,1,(.t 68))],none,true⟩,
 o 70 (.app 1 24 (.t 62) (.t 69)),
 o 71 (.faddr 2 (.t 6)),
 oN (.store 1 (.t 71) (.t 70))]
def b26_13:List (List Nat):=[[],[0],[],[],[2,3],[],[2,3,4,5],[2,3,4,5,6],[2,3,4,5,6,7],[0,1,2,3,4,5,6,7,8],[0,1,2,3,4,5,6,7,8,9],[0,1,2,3,4,5,6,7,8,9,10]]
def r26_14:List AOper:=[o 72 (.bin .add (.t 52) (i64 1)),
 o 52 (.mv (.t 72))]
def l26_1:ACode:=.seq (.reg r26_10) (.seq (.cond (.t 53) (.skip) (.exit 2)) (.seq (.block 3 (.seq (.reg r26_11) (.seq (.reg r26_12) (.dreg r26_13 b26_13 [(1,8)])))) (.reg r26_14)))
def r26_15:List AOper:=[o 73 (.load (some 4) (.t 6)),
 o 74 (.call 27 [.t 73] .borrow),
 o 11 (.alloc (List.replicate 164 (zi))),
 oN (.store 164 (.t 11) (.t 74))]
def r26_16:List AOper:=[o 75 (.faddr 156 (.t 11)),
 o 76 (.load (some 4) (.t 75)),
 o 77 (.faddr 156 (.t 3)),
 o 78 (.load (some 4) (.t 77)),
 o 79 (.eq (.agg [.int,.int,.int,.int]) true (.t 76) (.t 78))]
def r26_17:List AOper:=[o 80 (.build [.nils,.nils,.nils,.nils] []),
 oN (.store 4 (.t 4) (.t 80)),
 o 5 (.mv (i64 1))]
def r26_18:List AOper:=[o 81 (.load (some 3) (.t 2)),
 o 82 (.load (some 4) (.t 6)),
 o 83 (.call 54 [.t 81,.t 82] .borrow),
 o 84 (.un .not (.t 83)),
 o 85 (.mv (.t 84)),
 oF 86 85 (.load (some 164) (.t 11)),
 oF 87 85 (.load (some 164) (.t 3)),
 oF 88 85 (.eq (.agg (List.replicate 164 (.int))) true (.t 86) (.t 87)),
 o 89 (.pick (.t 85) (.c (.bool true)) (.t 88))]
def r26_19:List AOper:=[o 90 (.build [.nils,.nils,.nils,.nils] []),
 oN (.store 4 (.t 4) (.t 90)),
 o 5 (.mv (i64 1))]
def r26_20:List AOper:=[o 91 (.load (some 4) (.t 6)),
 oN (.store 4 (.t 4) (.t 91)),
 o 5 (.mv (i64 0))]
def c26:ACode:=.seq (.reg r26_0) (.seq (.seq (.reg r26_1) (.cond (.t 14) (.seq (.reg r26_2) (.ret)) (.skip))) (.seq (.dreg r26_3 b26_3 []) (.seq (.seq (.reg r26_4) (.block 0 (.loop l26_0))) (.seq (.seq (.reg r26_9) (.block 2 (.loop l26_1))) (.seq (.reg r26_15) (.seq (.seq (.reg r26_16) (.cond (.t 79) (.seq (.reg r26_17) (.ret)) (.skip))) (.seq (.seq (.reg r26_18) (.cond (.t 89) (.seq (.reg r26_19) (.ret)) (.skip))) (.seq (.reg r26_20) (.ret)))))))))
def a26:AFunc:=⟨2,92,[.cell 4 (some 4),.tmp 5],c26⟩
def r27_0:List AOper:=[o 1 (.box (.t 0)),
 o 2 (.alloc (List.replicate 164 (zi)))]
def r27_1:List AOper:=[o 3 (.alloc (List.replicate 164 (zi)))]
def r27_2:List AOper:=[o 8 (.faddr 0 (.t 3)),
 o 9 (.slarr 4 1 (.t 8) none none none),
 o 10 (.faddr 0 (.t 1)),
 o 11 (.load none (.t 10)),
 o 12 (.cpy 1 (.t 9) (.t 11))]
def b27_2:List (List Nat):=[[],[0],[],[2],[0,1,2,3]]
def r27_3:List AOper:=[o 13 (.faddr 160 (.t 3)),
 o 14 (.slarr 4 1 (.t 13) none none none),
 o 15 (.faddr 3 (.t 1)),
 o 16 (.load none (.t 15)),
 o 17 (.cpy 1 (.t 14) (.t 16))]
def b27_3:List (List Nat):=[[],[0],[],[2],[0,1,2,3]]
def r27_4:List AOper:=[o 18 (.faddr 1 (.t 1)),
 o 19 (.load none (.t 18)),
 o 20 (.faddr 1 (.t 1)),
 o 21 (.load none (.t 20)),
 o 22 (.len false (.t 21)),
 o 23 (.mnx false [.t 22,(i64 4)]),
 o 24 (.slsl 1 (.t 19) none (some (.t 23)) none),
 o 25 (.len false (.t 24)),
 o 26 (.mv (i64 0))]
def r27_5:List AOper:=[o 27 (.bin .lss (.t 26) (.t 25))]
def r27_6:List AOper:=[o 28 (.mv (.t 26)),
 o 29 (.iaddr 1 (.t 24) (.t 26)),
 o 30 (.load none (.t 29)),
 o 4 (.mv (.t 28)),
 o 5 (.mv (.t 30))]
def r27_7:List AOper:=[o 31 (.mv (.t 4)),
 o 32 (.faddr 4 (.t 3)),
 o 33 (.iarr 4 6 (.t 32) (.t 31)),
 o 34 (.slarr 6 1 (.t 33) none none none),
 o 35 (.mv (.t 5)),
 o 36 (.cpy 1 (.t 34) (.t 35))]
def r27_8:List AOper:=[o 37 (.bin .add (.t 26) (i64 1)),
 o 26 (.mv (.t 37))]
def l27_0:ACode:=.seq (.reg r27_5) (.seq (.cond (.t 27) (.skip) (.exit 0)) (.seq (.block 1 (.seq (.reg r27_6) (.reg r27_7))) (.reg r27_8)))
def r27_9:List AOper:=[o 38 (.faddr 2 (.t 1)),
 o 39 (.load none (.t 38)),
 o 40 (.faddr 2 (.t 1)),
 o 41 (.load none (.t 40)),
 o 42 (.len false (.t 41)),
 o 43 (.mnx false [.t 42,(i64 4)]),
 o 44 (.slsl 1 (.t 39) none (some (.t 43)) none),
 o 45 (.len false (.t 44)),
 o 46 (.mv (i64 0))]
def r27_10:List AOper:=[o 47 (.bin .lss (.t 46) (.t 45))]
def r27_11:List AOper:=[o 48 (.mv (.t 46)),
 o 49 (.iaddr 1 (.t 44) (.t 46)),
 o 50 (.load none (.t 49)),
 o 6 (.mv (.t 48)),
 o 7 (.mv (.t 50))]
def r27_12:List AOper:=[o 51 (.mv (.t 6)),
 o 52 (.mv (.t 6)),
 o 53 (.faddr 28 (.t 3)),
 o 54 (.iarr 4 32 (.t 53) (.t 52)),
 o 55 (.slarr 16 2 (.t 54) none none none),
 o 56 (.mv (.t 7)),
 o 57 (.cpy 2 (.t 55) (.t 56)),
 o 58 (.faddr 156 (.t 3)),
 o 59 (.iarr 4 1 (.t 58) (.t 51)),
 oN (.store 1 (.t 59) (.t 57))]
def r27_13:List AOper:=[o 60 (.bin .add (.t 46) (i64 1)),
 o 46 (.mv (.t 60))]
def l27_1:ACode:=.seq (.reg r27_10) (.seq (.cond (.t 47) (.skip) (.exit 2)) (.seq (.block 3 (.seq (.reg r27_11) (.reg r27_12))) (.reg r27_13)))
def r27_14:List AOper:=[o 61 (.load (some 164) (.t 3)),
 oN (.store 164 (.t 2) (.t 61))]
def c27:ACode:=.seq (.reg r27_0) (.seq (.reg r27_1) (.seq (.dreg r27_2 b27_2 []) (.seq (.dreg r27_3 b27_3 []) (.seq (.seq (.reg r27_4) (.block 0 (.loop l27_0))) (.seq (.seq (.reg r27_9) (.block 2 (.loop l27_1))) (.seq (.reg r27_14) (.ret)))))))
def a27:AFunc:=⟨1,62,[.cell 2 (some 164)],c27⟩
def r28_0:List AOper:=[o 2 (.box (.t 0)),
 o 3 (.box (.t 1)),
 o 4 (.mv (.c (.bool false)))]
def r28_1:List AOper:=[o 11 (.faddr 0 (.t 2)),
 o 12 (.load none (.t 11)),
 o 13 (.len false (.t 12)),
 o 14 (.faddr 0 (.t 3)),
 o 15 (.load none (.t 14)),
 o 16 (.len false (.t 15)),
 o 17 (.bin .neq (.t 13) (.t 16)),
 o 18 (.mv (.t 17)),
 oF 19 18 (.faddr 1 (.t 2)),
 oF 20 18 (.load none (.t 19)),
 oF 21 18 (.len false (.t 20)),
 oF 22 18 (.faddr 1 (.t 3)),
 oF 23 18 (.load none (.t 22)),
 oF 24 18 (.len false (.t 23)),
 oF 25 18 (.bin .neq (.t 21) (.t 24)),
 o 26 (.pick (.t 18) (.c (.bool true)) (.t 25)),
 o 27 (.mv (.t 26)),
 oF 28 27 (.faddr 2 (.t 2)),
 oF 29 27 (.load none (.t 28)),
 oF 30 27 (.len false (.t 29)),
 oF 31 27 (.faddr 2 (.t 3)),
 oF 32 27 (.load none (.t 31)),
 oF 33 27 (.len false (.t 32)),
 oF 34 27 (.bin .neq (.t 30) (.t 33)),
 o 35 (.pick (.t 27) (.c (.bool true)) (.t 34)),
 o 36 (.mv (.t 35)),
 oF 37 36 (.faddr 3 (.t 2)),
 oF 38 36 (.load none (.t 37)),
 oF 39 36 (.len false (.t 38)),
 oF 40 36 (.faddr 3 (.t 3)),
 oF 41 36 (.load none (.t 40)),
 oF 42 36 (.len false (.t 41)),
 oF 43 36 (.bin .neq (.t 39) (.t 42)),
 o 44 (.pick (.t 36) (.c (.bool true)) (.t 43))]
def r28_2:List AOper:=[o 4 (.mv (.c (.bool false)))]
def r28_3:List AOper:=[o 5 (.mv (i64 0))]
def r28_4:List AOper:=[o 45 (.mv (.t 5)),
 o 46 (.faddr 0 (.t 2)),
 o 47 (.load none (.t 46)),
 o 48 (.len false (.t 47)),
 o 49 (.bin .lss (.t 45) (.t 48))]
def r28_6:List AOper:=[o 52 (.faddr 0 (.t 2)),
 o 53 (.load none (.t 52)),
 o 54 (.mv (.t 5)),
 o 55 (.iaddr 1 (.t 53) (.t 54)),
 o 56 (.load none (.t 55)),
 o 57 (.faddr 0 (.t 3)),
 o 58 (.load none (.t 57)),
 o 59 (.mv (.t 5)),
 o 60 (.iaddr 1 (.t 58) (.t 59)),
 o 61 (.load none (.t 60)),
 o 62 (.bin .neq (.t 56) (.t 61))]
def b28_6:List (List Nat):=[[],[0],[],[0,1,2],[0,1,2,3],[],[5],[],[5,6,7],[5,6,7,8],[0,1,2,3,4,5,6,7,8,9]]
def r28_7:List AOper:=[o 4 (.mv (.c (.bool false)))]
def r28_5:List AOper:=[o 50 (.mv (.t 5)),
 o 51 (.bin .add (.t 50) (i64 1)),
 o 5 (.mv (.t 51))]
def l28_0:ACode:=.seq (.seq (.reg r28_4) (.cond (.t 49) (.skip) (.exit 0))) (.seq (.block 1 (.seq (.dreg r28_6 b28_6 []) (.cond (.t 62) (.seq (.reg r28_7) (.ret)) (.skip)))) (.reg r28_5))
def r28_8:List AOper:=[o 6 (.mv (i64 0))]
def r28_9:List AOper:=[o 63 (.mv (.t 6)),
 o 64 (.faddr 1 (.t 2)),
 o 65 (.load none (.t 64)),
 o 66 (.len false (.t 65)),
 o 67 (.bin .lss (.t 63) (.t 66))]
def r28_11:List AOper:=[o 70 (.faddr 1 (.t 2)),
 o 71 (.load none (.t 70)),
 o 72 (.mv (.t 6)),
 o 73 (.iaddr 1 (.t 71) (.t 72)),
 o 74 (.load none (.t 73)),
 o 75 (.len false (.t 74)),
 o 76 (.faddr 1 (.t 3)),
 o 77 (.load none (.t 76)),
 o 78 (.mv (.t 6)),
 o 79 (.iaddr 1 (.t 77) (.t 78)),
 o 80 (.load none (.t 79)),
 o 81 (.len false (.t 80)),
 o 82 (.bin .neq (.t 75) (.t 81))]
def b28_11:List (List Nat):=[[],[0],[],[0,1,2],[0,1,2,3],[0,1,2,3,4],[],[6],[],[6,7,8],[6,7,8,9],[6,7,8,9,10],[0,1,2,3,4,5,6,7,8,9,10,11]]
def r28_12:List AOper:=[o 4 (.mv (.c (.bool false)))]
def r28_13:List AOper:=[o 7 (.mv (i64 0))]
def r28_14:List AOper:=[o 83 (.mv (.t 7)),
 o 84 (.faddr 1 (.t 2)),
 o 85 (.load none (.t 84)),
 o 86 (.mv (.t 6)),
 o 87 (.iaddr 1 (.t 85) (.t 86)),
 o 88 (.load none (.t 87)),
 o 89 (.len false (.t 88)),
 o 90 (.bin .lss (.t 83) (.t 89))]
def r28_16:List AOper:=[o 93 (.faddr 1 (.t 2)),
 o 94 (.load none (.t 93)),
 o 95 (.mv (.t 6)),
 o 96 (.iaddr 1 (.t 94) (.t 95)),
 o 97 (.load none (.t 96)),
 o 98 (.mv (.t 7)),
 o 99 (.iaddr 1 (.t 97) (.t 98)),
 o 100 (.load none (.t 99)),
 o 101 (.faddr 1 (.t 3)),
 o 102 (.load none (.t 101)),
 o 103 (.mv (.t 6)),
 o 104 (.iaddr 1 (.t 102) (.t 103)),
 o 105 (.load none (.t 104)),
 o 106 (.mv (.t 7)),
 o 107 (.iaddr 1 (.t 105) (.t 106)),
 o 108 (.load none (.t 107)),
 o 109 (.bin .neq (.t 100) (.t 108))]
def b28_16:List (List Nat):=[[],[0],[],[0,1,2],[0,1,2,3],[],[0,1,2,3,4,5],[0,1,2,3,4,5,6],[],[8],[],[8,9,10],[8,9,10,11],[],[8,9,10,11,12,13],[8,9,10,11,12,13,14],[0,1,2,3,4,5,6,7,8,9,10,11,12,13,14,15]]
def r28_17:List AOper:=[o 4 (.mv (.c (.bool false)))]
def r28_15:List AOper:=[o 91 (.mv (.t 7)),
 o 92 (.bin .add (.t 91) (i64 1)),
 o 7 (.mv (.t 92))]
def l28_1:ACode:=.seq (.seq (.reg r28_14) (.cond (.t 90) (.skip) (.exit 4))) (.seq (.block 5 (.seq (.dreg r28_16 b28_16 []) (.cond (.t 109) (.seq (.reg r28_17) (.ret)) (.skip)))) (.reg r28_15))
def r28_10:List AOper:=[o 68 (.mv (.t 6)),
 o 69 (.bin .add (.t 68) (i64 1)),
 o 6 (.mv (.t 69))]
def l28_2:ACode:=.seq (.seq (.reg r28_9) (.cond (.t 67) (.skip) (.exit 2))) (.seq (.block 3 (.seq (.seq (.dreg r28_11 b28_11 []) (.cond (.t 82) (.seq (.reg r28_12) (.ret)) (.skip))) (.seq (.reg r28_13) (.block 4 (.loop l28_1))))) (.reg r28_10))
def r28_18:List AOper:=[o 8 (.mv (i64 0))]
def r28_19:List AOper:=[o 110 (.mv (.t 8)),
 o 111 (.faddr 2 (.t 2)),
 o 112 (.load none (.t 111)),
 o 113 (.len false (.t 112)),
 o 114 (.bin .lss (.t 110) (.t 113))]
def r28_21:List AOper:=[o 117 (.faddr 2 (.t 2)),
 o 118 (.load none (.t 117)),
 o 119 (.mv (.t 8)),
 o 120 (.iaddr 1 (.t 118) (.t 119)),
 o 121 (.load none (.t 120)),
 o 122 (.len false (.t 121)),
 o 123 (.faddr 2 (.t 3)),
 o 124 (.load none (.t 123)),
 o 125 (.mv (.t 8)),
 o 126 (.iaddr 1 (.t 124) (.t 125)),
 o 127 (.load none (.t 126)),
 o 128 (.len false (.t 127)),
 o 129 (.bin .neq (.t 122) (.t 128))]
def b28_21:List (List Nat):=[[],[0],[],[0,1,2],[0,1,2,3],[0,1,2,3,4],[],[6],[],[6,7,8],[6,7,8,9],[6,7,8,9,10],[0,1,2,3,4,5,6,7,8,9,10,11]]
def r28_22:List AOper:=[o 4 (.mv (.c (.bool false)))]
def r28_23:List AOper:=[o 9 (.mv (i64 0))]
def r28_24:List AOper:=[o 130 (.mv (.t 9)),
 o 131 (.faddr 2 (.t 2)),
 o 132 (.load none (.t 131)),
 o 133 (.mv (.t 8)),
 o 134 (.iaddr 1 (.t 132) (.t 133)),
 o 135 (.load none (.t 134)),
 o 136 (.len false (.t 135)),
 o 137 (.bin .lss (.t 130) (.t 136))]
def r28_26:List AOper:=[o 140 (.faddr 2 (.t 2)),
 o 141 (.load none (.t 140)),
 o 142 (.mv (.t 8)),
 o 143 (.iaddr 1 (.t 141) (.t 142)),
 o 144 (.load none (.t 143)),
 o 145 (.mv (.t 9)),
 o 146 (.iaddr 2 (.t 144) (.t 145)),
 o 147 (.load (some 2) (.t 146)),
 o 148 (.faddr 2 (.t 3)),
 o 149 (.load none (.t 148)),
 o 150 (.mv (.t 8)),
 o 151 (.iaddr 1 (.t 149) (.t 150)),
 o 152 (.load none (.t 151)),
 o 153 (.mv (.t 9)),
 o 154 (.iaddr 2 (.t 152) (.t 153)),
 o 155 (.load (some 2) (.t 154)),
 o 156 (.eq (.agg [.int,.int]) true (.t 147) (.t 155))]
def b28_26:List (List Nat):=[[],[0],[],[0,1,2],[0,1,2,3],[],[0,1,2,3,4,5],[0,1,2,3,4,5,6],[],[8],[],[8,9,10],[8,9,10,11],[],[8,9,10,11,12,13],[8,9,10,11,12,13,14],[0,1,2,3,4,5,6,7,8,9,10,11,12,13,14,15]]
def r28_27:List AOper:=[o 4 (.mv (.c (.bool false)))]
def r28_25:List AOper:=[o 138 (.mv (.t 9)),
 o 139 (.bin .add (.t 138) (i64 1)),
 o 9 (.mv (.t 139))]
def l28_3:ACode:=.seq (.seq (.reg r28_24) (.cond (.t 137) (.skip) (.exit 8))) (.seq (.block 9 (.seq (.dreg r28_26 b28_26 []) (.cond (.t 156) (.seq (.reg r28_27) (.ret)) (.skip)))) (.reg r28_25))
def r28_20:List AOper:=[o 115 (.mv (.t 8)),
 o 116 (.bin .add (.t 115) (i64 1)),
 o 8 (.mv (.t 116))]
def l28_4:ACode:=.seq (.seq (.reg r28_19) (.cond (.t 114) (.skip) (.exit 6))) (.seq (.block 7 (.seq (.seq (.dreg r28_21 b28_21 []) (.cond (.t 129) (.seq (.reg r28_22) (.ret)) (.skip))) (.seq (.reg r28_23) (.block 8 (.loop l28_3))))) (.reg r28_20))
def r28_28:List AOper:=[o 10 (.mv (i64 0))]
def r28_29:List AOper:=[o 157 (.mv (.t 10)),
 o 158 (.faddr 3 (.t 2)),
 o 159 (.load none (.t 158)),
 o 160 (.len false (.t 159)),
 o 161 (.bin .lss (.t 157) (.t 160))]
def r28_31:List AOper:=[o 164 (.faddr 3 (.t 2)),
 o 165 (.load none (.t 164)),
 o 166 (.mv (.t 10)),
 o 167 (.iaddr 1 (.t 165) (.t 166)),
 o 168 (.load none (.t 167)),
 o 169 (.faddr 3 (.t 3)),
 o 170 (.load none (.t 169)),
 o 171 (.mv (.t 10)),
 o 172 (.iaddr 1 (.t 170) (.t 171)),
 o 173 (.load none (.t 172)),
 o 174 (.bin .neq (.t 168) (.t 173))]
def b28_31:List (List Nat):=[[],[0],[],[0,1,2],[0,1,2,3],[],[5],[],[5,6,7],[5,6,7,8],[0,1,2,3,4,5,6,7,8,9]]
def r28_32:List AOper:=[o 4 (.mv (.c (.bool false)))]
def r28_30:List AOper:=[o 162 (.mv (.t 10)),
 o 163 (.bin .add (.t 162) (i64 1)),
 o 10 (.mv (.t 163))]
def l28_5:ACode:=.seq (.seq (.reg r28_29) (.cond (.t 161) (.skip) (.exit 10))) (.seq (.block 11 (.seq (.dreg r28_31 b28_31 []) (.cond (.t 174) (.seq (.reg r28_32) (.ret)) (.skip)))) (.reg r28_30))
def r28_33:List AOper:=[o 4 (.mv (.c (.bool true)))]
def c28:ACode:=.seq (.reg r28_0) (.seq (.seq (.reg r28_1) (.cond (.t 44) (.seq (.reg r28_2) (.ret)) (.skip))) (.seq (.seq (.reg r28_3) (.block 0 (.loop l28_0))) (.seq (.seq (.reg r28_8) (.block 2 (.loop l28_2))) (.seq (.seq (.reg r28_18) (.block 6 (.loop l28_4))) (.seq (.seq (.reg r28_28) (.block 10 (.loop l28_5))) (.seq (.reg r28_33) (.ret)))))))
def a28:AFunc:=⟨2,175,[.tmp 4],c28⟩
def r29_0:List AOper:=[o 1 (.box (.t 0)),
 o 2 (.alloc [.nils,.nils,.nils,.nils])]
def r29_1:List AOper:=[o 8 (.islice 0 [] []),
 o 9 (.faddr 0 (.t 1)),
 o 10 (.load none (.t 9)),
 o 11 (.app 1 8 (.t 8) (.t 10)),
 o 12 (.islice 0 [] []),
 o 13 (.faddr 3 (.t 1)),
 o 14 (.load none (.t 13)),
 o 15 (.app 1 8 (.t 12) (.t 14)),
 o 16 (.build [.nils,.nils,.nils,.nils] [(0,1,(.t 11)),(3,1,(.t 15))]),
 o 3 (.alloc [.nils,.nils,.nils,.nils]),
 oN (.store 4 (.t 3) (.t 16))]
def b29_1:List (List Nat):=[[],[],[1],[0,1,2],[],[],[5],[0,1,2,3,4,5,6],[0,1,2,3,4,5,6,7],[],[0,1,2,3,4,5,6,7,8,9]]
def r29_2:List AOper:=[o 4 (.mv (i64 0))]
def r29_3:List AOper:=[o 17 (.mv (.t 4)),
 o 18 (.faddr 1 (.t 1)),
 o 19 (.load none (.t 18)),
 o 20 (.len false (.t 19)),
 o 21 (.bin .lss (.t 17) (.t 20))]
def r29_5:List AOper:=[o 24 (.faddr 1 (.t 3)),
 o 25 (.load none (.t 24)),
 o 26 (.islice 0 [] []),
 o 27 (.faddr 1 (.t 1)),
 o 28 (.load none (.t 27)),
 o 29 (.mv (.t 4)),
 o 30 (.iaddr 1 (.t 28) (.t 29)),
 o 31 (.load none (.t 30)),
 o 32 (.app 1 8 (.t 26) (.t 31)),
 ⟨some 33,.islice 1 [.nils] [(0,1,(.t 32))],none,true⟩,
 o 34 (.app 1 24 (.t 25) (.t 33)),
 o 35 (.faddr 1 (.t 3)),
 oN (.store 1 (.t 35) (.t 34))]
def b29_5:List (List Nat):=[[],[0],[],[],[3],[],[3,4,5],[3,4,5,6],[2,3,4,5,6,7],[2,3,4,5,6,7,8],[0,1,2,3,4,5,6,7,8,9],[0,1,2,3,4,5,6,7,8,9,10],[0,1,2,3,4,5,6,7,8,9,10,11]]
def r29_4:List AOper:=[o 22 (.mv (.t 4)),
 o 23 (.bin .add (.t 22) (i64 1)),
 o 4 (.mv (.t 23))]
def l29_0:ACode:=.seq (.seq (.reg r29_3) (.cond (.t 21) (.skip) (.exit 0))) (.seq (.block 1 (.dreg r29_5 b29_5 [(1,8),(1,9)])) (.reg r29_4))
def r29_6:List AOper:=[o 5 (.mv (i64 0))]
def r29_7:List AOper:=[o 36 (.mv (.t 5)),
 o 37 (.faddr 2 (.t 1)),
 o 38 (.load none (.t 37)),
 o 39 (.len false (.t 38)),
 o 40 (.bin .lss (.t 36) (.t 39))]
def r29_9:List AOper:=[o 6 (.mv (.c (.nils)))]
def r29_10:List AOper:=[o 7 (.mv (i64 0))]
def r29_11:List AOper:=[o 43 (.mv (.t 7)),
 o 44 (.faddr 2 (.t 1)),
 o 45 (.load none (.t 44)),
 o 46 (.mv (.t 5)),
 o 47 (.iaddr 1 (.t 45) (.t 46)),
 o 48 (.load none (.t 47)),
 o 49 (.len false (.t 48)),
 o 50 (.bin .lss (.t 43) (.t 49))]
def r29_13:List AOper:=[o 53 (.mv (.t 6)),
 o 54 (.faddr 2 (.t 1)),
 o 55 (.load none (.t 54)),
 o 56 (.mv (.t 5)),
 o 57 (.iaddr 1 (.t 55) (.t 56)),
 o 58 (.load none (.t 57)),
 o 59 (.mv (.t 7)),
 o 60 (.iaddr 2 (.t 58) (.t 59)),
 o 61 (.faddr 0 (.t 60)),
 o 62 (.load none (.t 61)),
 o 63 (.faddr 2 (.t 1)),
 o 64 (.load none (.t 63)),
 o 65 (.mv (.t 5)),
 o 66 (.iaddr 1 (.t 64) (.t 65)),
 o 67 (.load none (.t 66)),
 o 68 (.mv (.t 7)),
 o 69 (.iaddr 2 (.t 67) (.t 68)),
 o 70 (.faddr 1 (.t 69)),
 o 71 (.load none (.t 70)),
 o 72 (.build [zi,zi] [(0,1,(.t 62)),(1,1,(.t 71))]),
 o 73 (.islice 1 [zi,zi] [(0,2,(.t 72))]),
 o 74 (.app 2 16 (.t 53) (.t 73)),
 o 6 (.mv (.t 74))]
def b29_13:List (List Nat):=[[],[],[1],[],[1,2,3],[1,2,3,4],[],[1,2,3,4,5,6],[1,2,3,4,5,6,7],[1,2,3,4,5,6,7,8],[],[10],[],[10,11,12],[10,11,12,13],[],[10,11,12,13,14,15],[10,11,12,13,14,15,16],[10,11,12,13,14,15,16,17],[1,2,3,4,5,6,7,8,9,10,11,12,13,14,15,16,17,18],[1,2,3,4,5,6,7,8,9,10,11,12,13,14,15,16,17,18,19],[0,1,2,3,4,5,6,7,8,9,10,11,12,13,14,15,16,17,18,19,20],[0,1,2,3,4,5,6,7,8,9,10,11,12,13,14,15,16,17,18,19,20,21]]
def r29_12:List AOper:=[o 51 (.mv (.t 7)),
 o 52 (.bin .add (.t 51) (i64 1)),
 o 7 (.mv (.t 52))]
def l29_1:ACode:=.seq (.seq (.reg r29_11) (.cond (.t 50) (.skip) (.exit 4))) (.seq (.block 5 (.dreg r29_13 b29_13 [])) (.reg r29_12))
def r29_14:List AOper:=[o 75 (.faddr 2 (.t 3)),
 o 76 (.load none (.t 75)),
 o 77 (.mv (.t 6)),
 ⟨some 78,.islice 1 [.nils] [(0,1,(.t 77))],none,true⟩,
 o 79 (.app 1 24 (.t 76) (.t 78)),
 o 80 (.faddr 2 (.t 3)),
 oN (.store 1 (.t 80) (.t 79))]
def r29_8:List AOper:=[o 41 (.mv (.t 5)),
 o 42 (.bin .add (.t 41) (i64 1)),
 o 5 (.mv (.t 42))]
def l29_2:ACode:=.seq (.seq (.reg r29_7) (.cond (.t 40) (.skip) (.exit 2))) (.seq (.block 3 (.seq (.reg r29_9) (.seq (.seq (.reg r29_10) (.block 4 (.loop l29_1))) (.reg r29_14)))) (.reg r29_8))
def r29_15:List AOper:=[o 81 (.load (some 4) (.t 3)),
 oN (.store 4 (.t 2) (.t 81))]
def c29:ACode:=.seq (.reg r29_0) (.seq (.dreg r29_1 b29_1 [(3,6)]) (.seq (.seq (.reg r29_2) (.block 0 (.loop l29_0))) (.seq (.seq (.reg r29_6) (.block 2 (.loop l29_2))) (.seq (.reg r29_15) (.ret)))))
def a29:AFunc:=⟨1,82,[.cell 2 (some 4)],c29⟩
def r31_0:List AOper:=[o 1 (.box (.t 0)),
 o 2 (.alloc [.nils,.nils,.nils,.nils]),
 o 3 (.mv (i64 0))]
def r31_1:List AOper:=[o 7 (.load (some 3) (.t 1)),
 o 8 (.call 53 [.t 7] .borrow),
 o 9 (.un .not (.t 8))]
def r31_2:List AOper:=[o 10 (.build [.nils,.nils,.nils,.nils] []),
 oN (.store 4 (.t 2) (.t 10)),
 o 3 (.mv (i64 1))]
def r31_3:List AOper:=[o 11 (.faddr 1 (.t 1)),
 o 12 (.load none (.t 11)),
 o 13 (.len false (.t 12)),
 o 14 (.mksl 1 8 [zi] (.t 13)),
 o 15 (.faddr 0 (.t 1)),
 o 16 (.load none (.t 15)),
 o 17 (.len false (.t 16)),
 o 18 (.mksl 1 24 [.nils] (.t 17)),
 o 19 (.faddr 0 (.t 1)),
 o 20 (.load none (.t 19)),
 o 21 (.len false (.t 20)),
 o 22 (.mksl 1 8 [zi] (.t 21)),
 o 23 (.build [.nils,.nils,.nils,.nils] [(0,1,(.t 14)),(2,1,(.t 18)),(3,1,(.t 22))]),
 o 4 (.alloc [.nils,.nils,.nils,.nils]),
 oN (.store 4 (.t 4) (.t 23))]
def b31_3:List (List Nat):=[[],[0],[0,1],[0,1,2],[],[4],[4,5],[4,5,6],[],[8],[8,9],[8,9,10],[0,1,2,3,4,5,6,7,8,9,10,11],[],[0,1,2,3,4,5,6,7,8,9,10,11,12,13]]
def r31_4:List AOper:=[o 24 (.faddr 2 (.t 1)),
 o 25 (.load none (.t 24)),
 o 26 (.len false (.t 25)),
 o 27 (.mv (i64 0))]
def r31_5:List AOper:=[o 28 (.bin .lss (.t 27) (.t 26))]
def r31_6:List AOper:=[o 29 (.iaddr 1 (.t 25) (.t 27)),
 o 30 (.load none (.t 29)),
 o 6 (.mv (.t 30))]
def r31_7:List AOper:=[o 31 (.faddr 1 (.t 4)),
 o 32 (.load none (.t 31)),
 o 33 (.mv (.t 6)),
 o 34 (.mksl 1 8 [zi] (.t 33)),
 o 35 (.bslice 1 1 [.nils] [(0,1,(.t 34))]),
 o 36 (.app 1 24 (.t 32) (.t 35)),
 o 37 (.faddr 1 (.t 4)),
 oN (.store 1 (.t 37) (.t 36))]
def b31_7:List (List Nat):=[[],[0],[],[2],[2,3],[0,1,2,3,4],[0,1,2,3,4,5],[0,1,2,3,4,5,6]]
def r31_8:List AOper:=[o 38 (.bin .add (.t 27) (i64 1)),
 o 27 (.mv (.t 38))]
def l31_0:ACode:=.seq (.reg r31_5) (.seq (.cond (.t 28) (.skip) (.exit 0)) (.seq (.block 1 (.seq (.reg r31_6) (.dreg r31_7 b31_7 []))) (.reg r31_8)))
def r31_9:List AOper:=[o 39 (.load (some 4) (.t 4)),
 oN (.store 4 (.t 2) (.t 39)),
 o 3 (.mv (i64 0))]
def c31:ACode:=.seq (.reg r31_0) (.seq (.seq (.reg r31_1) (.cond (.t 9) (.seq (.reg r31_2) (.ret)) (.skip))) (.seq (.dreg r31_3 b31_3 []) (.seq (.seq (.reg r31_4) (.block 0 (.loop l31_0))) (.seq (.reg r31_9) (.ret)))))
def a31:AFunc:=⟨1,40,[.cell 2 (some 4),.tmp 3],c31⟩
def r41_0:List AOper:=[o 2 (.mv (i64 0))]
def r41_1:List AOper:=[o 3 (.mv (.t 0))]
def r41_2:List AOper:=[o 5 (.bin .eql (.t 3) (i64 1)),
 o 4 (.mv (.t 5))]
def r41_3:List AOper:=[o 2 (.mv (i64 2))]
def r41_4:List AOper:=[o 7 (.bin .eql (.t 3) (i64 2)),
 o 6 (.mv (.t 7))]
def r41_5:List AOper:=[o 2 (.mv (i64 1))]
def r41_6:List AOper:=[o 9 (.bin .eql (.t 3) (i64 3)),
 o 8 (.mv (.t 9))]
def r41_7:List AOper:=[o 2 (.mv (i64 6))]
def r41_8:List AOper:=[o 11 (.bin .eql (.t 3) (i64 4)),
 o 10 (.mv (.t 11))]
def r41_9:List AOper:=[o 2 (.mv (i64 5))]
def r41_10:List AOper:=[o 13 (.bin .eql (.t 3) (i64 5)),
 o 12 (.mv (.t 13))]
def r41_11:List AOper:=[o 2 (.mv (i64 4))]
def r41_12:List AOper:=[o 15 (.bin .eql (.t 3) (i64 6)),
 o 14 (.mv (.t 15))]
def r41_13:List AOper:=[o 2 (.mv (i64 3))]
def r41_14:List AOper:=[o 2 (.mv (i64 0))]
def c41:ACode:=.seq (.reg r41_0) (.seq (.seq (.reg r41_1) (.block 0 (.seq (.reg r41_2) (.cond (.t 4) (.seq (.reg r41_3) (.ret)) (.seq (.reg r41_4) (.cond (.t 6) (.seq (.reg r41_5) (.ret)) (.seq (.reg r41_6) (.cond (.t 8) (.seq (.reg r41_7) (.ret)) (.seq (.reg r41_8) (.cond (.t 10) (.seq (.reg r41_9) (.ret)) (.seq (.reg r41_10) (.cond (.t 12) (.seq (.reg r41_11) (.ret)) (.seq (.reg r41_12) (.cond (.t 14) (.seq (.reg r41_13) (.ret)) (.skip))))))))))))))) (.seq (.reg r41_14) (.ret)))
def a41:AFunc:=⟨1,16,[.tmp 2],c41⟩
def r50_0:List AOper:=[o 2 (.box (.t 0)),
 o 4 (.mv (.c (.nils)))]
def r50_1:List AOper:=[o 5 (.mv (.c (.nils)))]
def r50_2:List AOper:=[o 8 (.faddr 1 (.t 2)),
 o 9 (.load none (.t 8)),
 o 10 (.len false (.t 9)),
 o 11 (.mv (i64 0))]
def r50_3:List AOper:=[o 12 (.bin .lss (.t 11) (.t 10))]
def r50_4:List AOper:=[o 13 (.mv (.t 11)),
 o 14 (.iaddr 19 (.t 9) (.t 11)),
 o 15 (.load (some 19) (.t 14)),
 o 7 (.alloc [zi,zi,zi,zi,zi,zi,zi,zi,zi,.nils,zi,zi,zi,zi,.nils,zi,zi,zi,.nils]),
 o 6 (.mv (.t 13)),
 oN (.store 19 (.t 7) (.t 15))]
def r50_5:List AOper:=[o 16 (.faddr 0 (.t 7)),
 o 17 (.load none (.t 16)),
 o 18 (.mv (.t 1)),
 o 19 (.bin .eql (.t 17) (.t 18))]
def r50_6:List AOper:=[o 20 (.mv (.t 5)),
 o 21 (.mv (.t 6)),
 o 22 (.islice 1 [zi] [(0,1,(.t 21))]),
 o 23 (.app 1 8 (.t 20) (.t 22)),
 o 5 (.mv (.t 23))]
def r50_7:List AOper:=[o 24 (.bin .add (.t 11) (i64 1)),
 o 11 (.mv (.t 24))]
def l50_0:ACode:=.seq (.reg r50_3) (.seq (.cond (.t 12) (.skip) (.exit 0)) (.seq (.block 1 (.seq (.reg r50_4) (.seq (.reg r50_5) (.cond (.t 19) (.reg r50_6) (.skip))))) (.reg r50_7)))
def r50_8:List AOper:=[o 25 (.mv (.t 5)),
 o 4 (.mv (.t 25))]
def c50:ACode:=.seq (.reg r50_0) (.seq (.reg r50_1) (.seq (.seq (.reg r50_2) (.block 0 (.loop l50_0))) (.seq (.reg r50_8) (.ret))))
def a50:AFunc:=⟨2,26,[.tmp 4],c50⟩
def r53_0:List AOper:=[o 1 (.box (.t 0)),
 o 2 (.mv (.c (.bool false)))]
def r53_1:List AOper:=[o 6 (.load (some 3) (.t 1)),
 o 7 (.call 74 [.t 6] .borrow),
 o 3 (.alloc [.nils,.nils]),
 oN (.store 2 (.t 3) (.t 7))]
def r53_2:List AOper:=[o 8 (.faddr 1 (.t 1)),
 o 9 (.load none (.t 8)),
 o 10 (.len false (.t 9)),
 o 11 (.faddr 2 (.t 1)),
 o 12 (.load none (.t 11)),
 o 13 (.len false (.t 12)),
 o 14 (.bin .neq (.t 10) (.t 13)),
 o 15 (.mv (.t 14)),
 oF 16 15 (.load (some 2) (.t 3)),
 oF 17 15 (.call 60 [.t 16] .borrow),
 oF 18 15 (.un .not (.t 17)),
 o 19 (.pick (.t 15) (.c (.bool true)) (.t 18))]
def r53_3:List AOper:=[o 2 (.mv (.c (.bool false)))]
def r53_4:List AOper:=[o 20 (.faddr 1 (.t 1)),
 o 21 (.load none (.t 20)),
 o 22 (.len false (.t 21)),
 o 23 (.mv (i64 0))]
def r53_5:List AOper:=[o 24 (.bin .lss (.t 23) (.t 22))]
def r53_6:List AOper:=[o 25 (.mv (.t 23)),
 o 26 (.iaddr 3 (.t 21) (.t 23)),
 o 27 (.load (some 3) (.t 26)),
 o 5 (.alloc [zi,.nils,.nils]),
 o 4 (.mv (.t 25)),
 oN (.store 3 (.t 5) (.t 27))]
def r53_7:List AOper:=[o 28 (.load (some 2) (.t 3)),
 o 29 (.mv (.t 4)),
 o 30 (.load (some 3) (.t 5)),
 o 31 (.call 75 [.t 28,.t 29,.t 30] .borrow),
 o 32 (.un .not (.t 31))]
def r53_8:List AOper:=[o 2 (.mv (.c (.bool false)))]
def r53_9:List AOper:=[o 33 (.bin .add (.t 23) (i64 1)),
 o 23 (.mv (.t 33))]
def l53_0:ACode:=.seq (.reg r53_5) (.seq (.cond (.t 24) (.skip) (.exit 0)) (.seq (.block 1 (.seq (.reg r53_6) (.seq (.reg r53_7) (.cond (.t 32) (.seq (.reg r53_8) (.ret)) (.skip))))) (.reg r53_9)))
def r53_10:List AOper:=[o 2 (.mv (.c (.bool true)))]
def c53:ACode:=.seq (.reg r53_0) (.seq (.reg r53_1) (.seq (.seq (.reg r53_2) (.cond (.t 19) (.seq (.reg r53_3) (.ret)) (.skip))) (.seq (.seq (.reg r53_4) (.block 0 (.loop l53_0))) (.seq (.reg r53_10) (.ret)))))
def a53:AFunc:=⟨1,34,[.tmp 2],c53⟩
def r54_0:List AOper:=[o 2 (.box (.t 0)),
 o 3 (.box (.t 1)),
 o 4 (.mv (.c (.bool false)))]
def r54_1:List AOper:=[o 11 (.load (some 3) (.t 2)),
 o 12 (.load (some 4) (.t 3)),
 o 13 (.call 76 [.t 11,.t 12] .borrow),
 o 14 (.un .not (.t 13))]
def r54_2:List AOper:=[o 4 (.mv (.c (.bool false)))]
def r54_3:List AOper:=[o 15 (.faddr 1 (.t 2)),
 o 16 (.load none (.t 15)),
 o 17 (.len false (.t 16)),
 o 18 (.mv (i64 0))]
def r54_4:List AOper:=[o 19 (.bin .lss (.t 18) (.t 17))]
def r54_5:List AOper:=[o 20 (.mv (.t 18)),
 o 21 (.iaddr 3 (.t 16) (.t 18)),
 o 22 (.load (some 3) (.t 21)),
 o 6 (.alloc [zi,.nils,.nils]),
 o 5 (.mv (.t 20)),
 oN (.store 3 (.t 6) (.t 22))]
def r54_6:List AOper:=[o 23 (.faddr 0 (.t 3)),
 o 24 (.load none (.t 23)),
 o 25 (.mv (.t 5)),
 o 26 (.iaddr 1 (.t 24) (.t 25)),
 o 27 (.load none (.t 26)),
 o 28 (.faddr 0 (.t 6)),
 o 29 (.load none (.t 28)),
 o 30 (.call 77 [.t 27,.t 29] .borrow),
 o 31 (.un .not (.t 30)),
 o 32 (.mv (.t 31)),
 oF 33 32 (.faddr 1 (.t 3)),
 oF 34 32 (.load none (.t 33)),
 oF 35 32 (.mv (.t 5)),
 oF 36 32 (.iaddr 1 (.t 34) (.t 35)),
 oF 37 32 (.load none (.t 36)),
 oF 38 32 (.len false (.t 37)),
 oF 39 32 (.faddr 2 (.t 2)),
 oF 40 32 (.load none (.t 39)),
 oF 41 32 (.mv (.t 5)),
 oF 42 32 (.iaddr 1 (.t 40) (.t 41)),
 oF 43 32 (.load none (.t 42)),
 oF 44 32 (.bin .neq (.t 38) (.t 43)),
 o 45 (.pick (.t 32) (.c (.bool true)) (.t 44))]
def b54_6:List (List Nat):=[[],[0],[],[0,1,2],[0,1,2,3],[],[5],[0,1,2,3,4,5,6],[0,1,2,3,4,5,6,7],[0,1,2,3,4,5,6,7,8],[0,1,2,3,4,5,6,7,8,9],[0,1,2,3,4,5,6,7,8,9,10],[0,1,2,3,4,5,6,7,8,9],[0,1,2,3,4,5,6,7,8,9,10,11,12],[0,1,2,3,4,5,6,7,8,9,10,11,12,13],[0,1,2,3,4,5,6,7,8,9,10,11,12,13,14],[0,1,2,3,4,5,6,7,8,9],[0,1,2,3,4,5,6,7,8,9,16],[0,1,2,3,4,5,6,7,8,9],[0,1,2,3,4,5,6,7,8,9,16,17,18],[0,1,2,3,4,5,6,7,8,9,16,17,18,19],[0,1,2,3,4,5,6,7,8,9,10,11,12,13,14,15,16,17,18,19,20],[0,1,2,3,4,5,6,7,8,9,10,11,12,13,14,15,16,17,18,19,20,21]]
def r54_7:List AOper:=[o 4 (.mv (.c (.bool false)))]
def r54_8:List AOper:=[o 46 (.faddr 1 (.t 3)),
 o 47 (.load none (.t 46)),
 o 48 (.mv (.t 5)),
 o 49 (.iaddr 1 (.t 47) (.t 48)),
 o 50 (.load none (.t 49)),
 o 51 (.len false (.t 50)),
 o 52 (.mv (i64 0))]
def r54_9:List AOper:=[o 53 (.bin .lss (.t 52) (.t 51))]
def r54_10:List AOper:=[o 54 (.iaddr 1 (.t 50) (.t 52)),
 o 55 (.load none (.t 54)),
 o 8 (.mv (.t 55))]
def r54_11:List AOper:=[o 56 (.mv (.t 8)),
 o 57 (.call 78 [.t 56] .borrow),
 o 58 (.un .not (.t 57))]
def r54_12:List AOper:=[o 4 (.mv (.c (.bool false)))]
def r54_13:List AOper:=[o 59 (.bin .add (.t 52) (i64 1)),
 o 52 (.mv (.t 59))]
def l54_0:ACode:=.seq (.reg r54_9) (.seq (.cond (.t 53) (.skip) (.exit 2)) (.seq (.block 3 (.seq (.reg r54_10) (.seq (.reg r54_11) (.cond (.t 58) (.seq (.reg r54_12) (.ret)) (.skip))))) (.reg r54_13)))
def r54_14:List AOper:=[o 60 (.bin .add (.t 18) (i64 1)),
 o 18 (.mv (.t 60))]
def l54_1:ACode:=.seq (.reg r54_4) (.seq (.cond (.t 19) (.skip) (.exit 0)) (.seq (.block 1 (.seq (.reg r54_5) (.seq (.seq (.dreg r54_6 b54_6 []) (.cond (.t 45) (.seq (.reg r54_7) (.ret)) (.skip))) (.seq (.reg r54_8) (.block 2 (.loop l54_0)))))) (.reg r54_14)))
def r54_15:List AOper:=[o 61 (.faddr 0 (.t 2)),
 o 62 (.load none (.t 61)),
 o 63 (.len false (.t 62)),
 o 64 (.mv (i64 0))]
def r54_16:List AOper:=[o 65 (.bin .lss (.t 64) (.t 63))]
def r54_17:List AOper:=[o 66 (.mv (.t 64)),
 o 67 (.iaddr 6 (.t 62) (.t 64)),
 o 68 (.load (some 6) (.t 67)),
 o 10 (.alloc [zi,zi,zi,zi,zi,.nils]),
 o 9 (.mv (.t 66)),
 oN (.store 6 (.t 10) (.t 68))]
def r54_18:List AOper:=[o 69 (.load (some 6) (.t 10)),
 o 70 (.faddr 2 (.t 3)),
 o 71 (.load none (.t 70)),
 o 72 (.mv (.t 9)),
 o 73 (.iaddr 1 (.t 71) (.t 72)),
 o 74 (.load none (.t 73)),
 o 75 (.call 79 [.t 69,.t 74] .borrow),
 o 76 (.un .not (.t 75)),
 o 77 (.mv (.t 76)),
 oF 78 77 (.faddr 3 (.t 3)),
 oF 79 77 (.load none (.t 78)),
 oF 80 77 (.mv (.t 9)),
 oF 81 77 (.iaddr 1 (.t 79) (.t 80)),
 oF 82 77 (.load none (.t 81)),
 oF 83 77 (.faddr 5 (.t 10)),
 oF 84 77 (.load none (.t 83)),
 oF 85 77 (.len false (.t 84)),
 oF 86 77 (.mnx true [.t 85,(i64 1)]),
 oF 87 77 (.call 77 [.t 82,.t 86] .borrow),
 oF 88 77 (.un .not (.t 87)),
 o 89 (.pick (.t 77) (.c (.bool true)) (.t 88))]
def b54_18:List (List Nat):=[[],[],[1],[],[1,2,3],[1,2,3,4],[0,1,2,3,4,5],[0,1,2,3,4,5,6],[0,1,2,3,4,5,6,7],[0,1,2,3,4,5,6,7,8],[0,1,2,3,4,5,6,7,8,9],[0,1,2,3,4,5,6,7,8],[0,1,2,3,4,5,6,7,8,9,10,11],[0,1,2,3,4,5,6,7,8,9,10,11,12],[0,1,2,3,4,5,6,7,8],[0,1,2,3,4,5,6,7,8,14],[0,1,2,3,4,5,6,7,8,14,15],[0,1,2,3,4,5,6,7,8,14,15,16],[0,1,2,3,4,5,6,7,8,9,10,11,12,13,14,15,16,17],[0,1,2,3,4,5,6,7,8,9,10,11,12,13,14,15,16,17,18],[0,1,2,3,4,5,6,7,8,9,10,11,12,13,14,15,16,17,18,19]]
def r54_19:List AOper:=[o 4 (.mv (.c (.bool false)))]
def r54_20:List AOper:=[o 90 (.bin .add (.t 64) (i64 1)),
 o 64 (.mv (.t 90))]
def l54_2:ACode:=.seq (.reg r54_16) (.seq (.cond (.t 65) (.skip) (.exit 4)) (.seq (.block 5 (.seq (.reg r54_17) (.seq (.dreg r54_18 b54_18 []) (.cond (.t 89) (.seq (.reg r54_19) (.ret)) (.skip))))) (.reg r54_20)))
def r54_21:List AOper:=[o 4 (.mv (.c (.bool true)))]
def c54:ACode:=.seq (.reg r54_0) (.seq (.seq (.reg r54_1) (.cond (.t 14) (.seq (.reg r54_2) (.ret)) (.skip))) (.seq (.seq (.reg r54_3) (.block 0 (.loop l54_1))) (.seq (.seq (.reg r54_15) (.block 4 (.loop l54_2))) (.seq (.reg r54_21) (.ret)))))
def a54:AFunc:=⟨2,91,[.tmp 4],c54⟩
def r56_0:List AOper:=[o 2 (.mv (.c (.nils)))]
def r56_1:List AOper:=[o 3 (.mv (.t 0)),
 o 4 (.eq .slice false (.t 3) (.c (.nils)))]
def r56_2:List AOper:=[o 2 (.mv (.c (.nils)))]
def r56_3:List AOper:=[o 5 (.islice 0 [] []),
 o 6 (.mv (.t 0)),
 o 7 (.app 1 8 (.t 5) (.t 6)),
 o 2 (.mv (.t 7))]
def c56:ACode:=.seq (.reg r56_0) (.seq (.seq (.reg r56_1) (.cond (.t 4) (.seq (.reg r56_2) (.ret)) (.skip))) (.seq (.reg r56_3) (.ret)))
def a56:AFunc:=⟨1,8,[.tmp 2],c56⟩
def r57_0:List AOper:=[o 2 (.mv (.c (.nils)))]
def r57_1:List AOper:=[o 3 (.mv (.t 0)),
 o 4 (.eq .slice false (.t 3) (.c (.nils)))]
def r57_2:List AOper:=[o 2 (.mv (.c (.nils)))]
def r57_3:List AOper:=[o 5 (.islice 0 [] []),
 o 6 (.mv (.t 0)),
 o 7 (.app 2 16 (.t 5) (.t 6)),
 o 2 (.mv (.t 7))]
def c57:ACode:=.seq (.reg r57_0) (.seq (.seq (.reg r57_1) (.cond (.t 4) (.seq (.reg r57_2) (.ret)) (.skip))) (.seq (.reg r57_3) (.ret)))
def a57:AFunc:=⟨1,8,[.tmp 2],c57⟩
def r60_0:List AOper:=[o 1 (.box (.t 0)),
 o 2 (.mv (.c (.bool false)))]
def r60_1:List AOper:=[o 7 (.faddr 0 (.t 1)),
 o 8 (.load none (.t 7)),
 o 9 (.len false (.t 8)),
 o 10 (.bin .gtr (.t 9) (i64 4)),
 o 11 (.mv (.t 10)),
 oF 12 11 (.faddr 1 (.t 1)),
 oF 13 11 (.load none (.t 12)),
 oF 14 11 (.len false (.t 13)),
 oF 15 11 (.call 81 [.t 14,(i64 1),(i64 4)] .borrow),
 oF 16 11 (.un .not (.t 15)),
 o 17 (.pick (.t 11) (.c (.bool true)) (.t 16))]
def r60_2:List AOper:=[o 2 (.mv (.c (.bool false)))]
def r60_3:List AOper:=[o 18 (.faddr 0 (.t 1)),
 o 19 (.load none (.t 18)),
 o 20 (.len false (.t 19)),
 o 21 (.mv (i64 0))]
def r60_4:List AOper:=[o 22 (.bin .lss (.t 21) (.t 20))]
def r60_5:List AOper:=[o 23 (.iaddr 6 (.t 19) (.t 21)),
 o 24 (.load (some 6) (.t 23)),
 o 4 (.alloc [zi,zi,zi,zi,zi,.nils]),
 oN (.store 6 (.t 4) (.t 24))]
def r60_6:List AOper:=[o 25 (.load (some 6) (.t 4)),
 o 26 (.faddr 1 (.t 1)),
 o 27 (.load none (.t 26)),
 o 28 (.len false (.t 27)),
 o 29 (.call 82 [.t 25,.t 28] .borrow),
 o 30 (.un .not (.t 29))]
def r60_7:List AOper:=[o 2 (.mv (.c (.bool false)))]
def r60_8:List AOper:=[o 31 (.bin .add (.t 21) (i64 1)),
 o 21 (.mv (.t 31))]
def l60_0:ACode:=.seq (.reg r60_4) (.seq (.cond (.t 22) (.skip) (.exit 0)) (.seq (.block 1 (.seq (.reg r60_5) (.seq (.reg r60_6) (.cond (.t 30) (.seq (.reg r60_7) (.ret)) (.skip))))) (.reg r60_8)))
def r60_9:List AOper:=[o 32 (.faddr 1 (.t 1)),
 o 33 (.load none (.t 32)),
 o 34 (.len false (.t 33)),
 o 35 (.mv (i64 0))]
def r60_10:List AOper:=[o 36 (.bin .lss (.t 35) (.t 34))]
def r60_11:List AOper:=[o 37 (.mv (.t 35)),
 o 38 (.iaddr 2 (.t 33) (.t 35)),
 o 39 (.load (some 2) (.t 38)),
 o 6 (.alloc [zi,.nils]),
 o 5 (.mv (.t 37)),
 oN (.store 2 (.t 6) (.t 39))]
def r60_12:List AOper:=[o 40 (.faddr 0 (.t 6)),
 o 41 (.load none (.t 40)),
 o 42 (.call 81 [.t 41,(i64 0),(i64 6)] .borrow),
 o 43 (.un .not (.t 42)),
 o 44 (.mv (.t 43)),
 oF 45 44 (.load (some 2) (.t 1)),
 oF 46 44 (.mv (.t 5)),
 oF 47 44 (.faddr 0 (.t 6)),
 oF 48 44 (.load none (.t 47)),
 oF 49 44 (.build [.nils,.nils,zi,zi] [(0,2,(.t 45)),(2,1,(.t 46)),(3,1,(.t 48))]),
 oF 50 44 (.faddr 1 (.t 6)),
 oF 51 44 (.load none (.t 50)),
 oF 52 44 (.call 83 [.t 49,.t 51] .borrow),
 oF 53 44 (.un .not (.t 52)),
 o 54 (.pick (.t 44) (.c (.bool true)) (.t 53))]
def r60_13:List AOper:=[o 2 (.mv (.c (.bool false)))]
def r60_14:List AOper:=[o 55 (.bin .add (.t 35) (i64 1)),
 o 35 (.mv (.t 55))]
def l60_1:ACode:=.seq (.reg r60_10) (.seq (.cond (.t 36) (.skip) (.exit 2)) (.seq (.block 3 (.seq (.reg r60_11) (.seq (.reg r60_12) (.cond (.t 54) (.seq (.reg r60_13) (.ret)) (.skip))))) (.reg r60_14)))
def r60_15:List AOper:=[o 2 (.mv (.c (.bool true)))]
def c60:ACode:=.seq (.reg r60_0) (.seq (.seq (.reg r60_1) (.cond (.t 17) (.seq (.reg r60_2) (.ret)) (.skip))) (.seq (.seq (.reg r60_3) (.block 0 (.loop l60_0))) (.seq (.seq (.reg r60_9) (.block 2 (.loop l60_1))) (.seq (.reg r60_15) (.ret)))))
def a60:AFunc:=⟨1,56,[.tmp 2],c60⟩
def r74_0:List AOper:=[o 1 (.box (.t 0)),
 o 2 (.alloc [.nils,.nils])]
def r74_1:List AOper:=[o 6 (.faddr 0 (.t 1)),
 o 7 (.load none (.t 6)),
 o 8 (.build [.nils,.nils] [(0,1,(.t 7))]),
 o 3 (.alloc [.nils,.nils]),
 oN (.store 2 (.t 3) (.t 8))]
def r74_2:List AOper:=[o 9 (.faddr 2 (.t 1)),
 o 10 (.load none (.t 9)),
 o 11 (.len false (.t 10)),
 o 12 (.mv (i64 0))]
def r74_3:List AOper:=[o 13 (.bin .lss (.t 12) (.t 11))]
def r74_4:List AOper:=[o 14 (.iaddr 1 (.t 10) (.t 12)),
 o 15 (.load none (.t 14)),
 o 5 (.mv (.t 15))]
def r74_5:List AOper:=[o 16 (.faddr 1 (.t 3)),
 o 17 (.load none (.t 16)),
 o 18 (.mv (.t 5)),
 o 19 (.build [zi,.nils] [(0,1,(.t 18))]),
 ⟨some 20,.islice 1 [zi,.nils] [(0,2,(.t 19))],none,true⟩,
 o 21 (.app 2 32 (.t 17) (.t 20)),
 o 22 (.faddr 1 (.t 3)),
 oN (.store 1 (.t 22) (.t 21))]
def r74_6:List AOper:=[o 23 (.bin .add (.t 12) (i64 1)),
 o 12 (.mv (.t 23))]
def l74_0:ACode:=.seq (.reg r74_3) (.seq (.cond (.t 13) (.skip) (.exit 0)) (.seq (.block 1 (.seq (.reg r74_4) (.reg r74_5))) (.reg r74_6)))
def r74_7:List AOper:=[o 24 (.load (some 2) (.t 3)),
 oN (.store 2 (.t 2) (.t 24))]
def c74:ACode:=.seq (.reg r74_0) (.seq (.reg r74_1) (.seq (.seq (.reg r74_2) (.block 0 (.loop l74_0))) (.seq (.reg r74_7) (.ret))))
def a74:AFunc:=⟨1,25,[.cell 2 (some 2)],c74⟩
def r75_0:List AOper:=[o 3 (.box (.t 0)),
 o 5 (.box (.t 2)),
 o 6 (.mv (.c (.bool false)))]
def r75_1:List AOper:=[o 10 (.faddr 0 (.t 5)),
 o 11 (.load none (.t 10)),
 o 12 (.bin .lss (.t 11) (i64 2)),
 o 13 (.mv (.t 12)),
 oF 14 13 (.faddr 0 (.t 5)),
 oF 15 13 (.load none (.t 14)),
 oF 16 13 (.bin .gtr (.t 15) (i64 802)),
 o 17 (.pick (.t 13) (.c (.bool true)) (.t 16)),
 o 18 (.mv (.t 17)),
 oF 19 18 (.faddr 1 (.t 5)),
 oF 20 18 (.load none (.t 19)),
 oF 21 18 (.len false (.t 20)),
 oF 22 18 (.bin .gtr (.t 21) (i64 400)),
 o 23 (.pick (.t 18) (.c (.bool true)) (.t 22)),
 o 24 (.mv (.t 23)),
 oF 25 24 (.load (some 3) (.t 5)),
 oF 26 24 (.call 99 [.t 25] .borrow),
 oF 27 24 (.un .not (.t 26)),
 o 28 (.pick (.t 24) (.c (.bool true)) (.t 27))]
def r75_2:List AOper:=[o 6 (.mv (.c (.bool false)))]
def r75_3:List AOper:=[o 29 (.faddr 1 (.t 5)),
 o 30 (.load none (.t 29)),
 o 31 (.len false (.t 30)),
 o 32 (.mv (i64 0))]
def r75_4:List AOper:=[o 33 (.bin .lss (.t 32) (.t 31))]
def r75_5:List AOper:=[o 34 (.iaddr 19 (.t 30) (.t 32)),
 o 35 (.load (some 19) (.t 34)),
 o 8 (.alloc [zi,zi,zi,zi,zi,zi,zi,zi,zi,.nils,zi,zi,zi,zi,.nils,zi,zi,zi,.nils]),
 oN (.store 19 (.t 8) (.t 35))]
def r75_6:List AOper:=[o 36 (.load (some 2) (.t 3)),
 o 37 (.mv (.t 1)),
 o 38 (.load (some 3) (.t 5)),
 o 39 (.load (some 19) (.t 8)),
 o 40 (.call 100 [.t 36,.t 37,.t 38,.t 39] .borrow),
 o 41 (.un .not (.t 40))]
def r75_7:List AOper:=[o 6 (.mv (.c (.bool false)))]
def r75_8:List AOper:=[o 42 (.bin .add (.t 32) (i64 1)),
 o 32 (.mv (.t 42))]
def l75_0:ACode:=.seq (.reg r75_4) (.seq (.cond (.t 33) (.skip) (.exit 0)) (.seq (.block 1 (.seq (.reg r75_5) (.seq (.reg r75_6) (.cond (.t 41) (.seq (.reg r75_7) (.ret)) (.skip))))) (.reg r75_8)))
def r75_9:List AOper:=[o 43 (.faddr 0 (.t 5)),
 o 44 (.load none (.t 43)),
 o 45 (.mv (i64 0))]
def r75_10:List AOper:=[o 46 (.bin .lss (.t 45) (.t 44))]
def r75_11:List AOper:=[o 47 (.mv (.t 45)),
 o 9 (.mv (.t 47))]
def r75_12:List AOper:=[o 48 (.load (some 3) (.t 5)),
 o 49 (.mv (.t 9)),
 o 50 (.call 101 [.t 48,.t 49] .borrow),
 o 51 (.un .not (.t 50))]
def r75_13:List AOper:=[o 6 (.mv (.c (.bool false)))]
def r75_14:List AOper:=[o 52 (.bin .add (.t 45) (i64 1)),
 o 45 (.mv (.t 52))]
def l75_1:ACode:=.seq (.reg r75_10) (.seq (.cond (.t 46) (.skip) (.exit 2)) (.seq (.block 3 (.seq (.reg r75_11) (.seq (.reg r75_12) (.cond (.t 51) (.seq (.reg r75_13) (.ret)) (.skip))))) (.reg r75_14)))
def r75_15:List AOper:=[o 53 (.load (some 3) (.t 5)),
 o 54 (.call 102 [.t 53] .borrow),
 o 55 (.un .not (.t 54)),
 o 6 (.mv (.t 55))]
def c75:ACode:=.seq (.reg r75_0) (.seq (.seq (.reg r75_1) (.cond (.t 28) (.seq (.reg r75_2) (.ret)) (.skip))) (.seq (.seq (.reg r75_3) (.block 0 (.loop l75_0))) (.seq (.seq (.reg r75_9) (.block 2 (.loop l75_1))) (.seq (.reg r75_15) (.ret)))))
def a75:AFunc:=⟨3,56,[.tmp 6],c75⟩
def r76_0:List AOper:=[o 2 (.box (.t 0)),
 o 3 (.box (.t 1)),
 o 4 (.mv (.c (.bool false)))]
def r76_1:List AOper:=[o 7 (.faddr 1 (.t 2)),
 o 8 (.load none (.t 7)),
 o 9 (.len false (.t 8)),
 o 10 (.faddr 0 (.t 2)),
 o 11 (.load none (.t 10)),
 o 12 (.len false (.t 11)),
 o 5 (.mv (.t 9)),
 o 6 (.mv (.t 12))]
def b76_1:List (List Nat):=[[],[0],[0,1],[],[3],[3,4],[0,1,2],[0,1,2,3,4,5,6]]
def r76_2:List AOper:=[o 13 (.faddr 0 (.t 3)),
 o 14 (.load none (.t 13)),
 o 15 (.len false (.t 14)),
 o 16 (.mv (.t 5)),
 o 17 (.bin .eql (.t 15) (.t 16)),
 o 18 (.mv (.t 17)),
 oT 19 18 (.faddr 1 (.t 3)),
 oT 20 18 (.load none (.t 19)),
 oT 21 18 (.len false (.t 20)),
 oT 22 18 (.mv (.t 5)),
 oT 23 18 (.bin .eql (.t 21) (.t 22)),
 o 24 (.pick (.t 18) (.t 23) (.c (.bool false))),
 o 25 (.mv (.t 24)),
 oT 26 25 (.faddr 2 (.t 3)),
 oT 27 25 (.load none (.t 26)),
 oT 28 25 (.len false (.t 27)),
 oT 29 25 (.mv (.t 6)),
 oT 30 25 (.bin .eql (.t 28) (.t 29)),
 o 31 (.pick (.t 25) (.t 30) (.c (.bool false))),
 o 32 (.mv (.t 31)),
 oT 33 32 (.faddr 3 (.t 3)),
 oT 34 32 (.load none (.t 33)),
 oT 35 32 (.len false (.t 34)),
 oT 36 32 (.mv (.t 6)),
 oT 37 32 (.bin .eql (.t 35) (.t 36)),
 o 38 (.pick (.t 32) (.t 37) (.c (.bool false))),
 o 4 (.mv (.t 38))]
def c76:ACode:=.seq (.reg r76_0) (.seq (.dreg r76_1 b76_1 []) (.seq (.reg r76_2) (.ret)))
def a76:AFunc:=⟨2,39,[.tmp 4],c76⟩
def r77_0:List AOper:=[o 4 (.mv (.c (.bool false)))]
def r77_1:List AOper:=[o 5 (.mv (.t 0)),
 o 6 (.bin .geq (.t 5) (i64 0)),
 o 7 (.mv (.t 6)),
 oT 8 7 (.mv (.t 0)),
 oT 9 7 (.mv (.t 1)),
 oT 10 7 (.bin .lss (.t 8) (.t 9)),
 o 11 (.pick (.t 7) (.t 10) (.c (.bool false))),
 o 4 (.mv (.t 11))]
def c77:ACode:=.seq (.reg r77_0) (.seq (.reg r77_1) (.ret))
def a77:AFunc:=⟨2,12,[.tmp 4],c77⟩
def r78_0:List AOper:=[o 2 (.mv (.c (.bool false)))]
def r78_1:List AOper:=[o 3 (.mv (.t 0)),
 o 4 (.bin .geq (.t 3) (i64 (-2147483648))),
 o 5 (.mv (.t 4)),
 oT 6 5 (.mv (.t 0)),
 oT 7 5 (.bin .leq (.t 6) (i64 2147483647)),
 o 8 (.pick (.t 5) (.t 7) (.c (.bool false))),
 o 2 (.mv (.t 8))]
def c78:ACode:=.seq (.reg r78_0) (.seq (.reg r78_1) (.ret))
def a78:AFunc:=⟨1,9,[.tmp 2],c78⟩
def r79_0:List AOper:=[o 2 (.box (.t 0)),
 o 4 (.mv (.c (.bool false)))]
def r79_1:List AOper:=[o 7 (.mv (.t 1)),
 o 8 (.len false (.t 7)),
 o 9 (.mv (i64 0))]
def r79_2:List AOper:=[o 10 (.bin .lss (.t 9) (.t 8))]
def r79_3:List AOper:=[o 11 (.iaddr 2 (.t 7) (.t 9)),
 o 12 (.load (some 2) (.t 11)),
 o 6 (.alloc [zi,zi]),
 oN (.store 2 (.t 6) (.t 12))]
def r79_4:List AOper:=[o 13 (.faddr 0 (.t 6)),
 o 14 (.load none (.t 13)),
 o 15 (.faddr 4 (.t 2)),
 o 16 (.load none (.t 15)),
 o 17 (.call 77 [.t 14,.t 16] .borrow),
 o 18 (.un .not (.t 17)),
 o 19 (.mv (.t 18)),
 oF 20 19 (.faddr 1 (.t 6)),
 oF 21 19 (.load none (.t 20)),
 oF 22 19 (.call 78 [.t 21] .borrow),
 oF 23 19 (.un .not (.t 22)),
 o 24 (.pick (.t 19) (.c (.bool true)) (.t 23))]
def r79_5:List AOper:=[o 4 (.mv (.c (.bool false)))]
def r79_6:List AOper:=[o 25 (.bin .add (.t 9) (i64 1)),
 o 9 (.mv (.t 25))]
def l79_0:ACode:=.seq (.reg r79_2) (.seq (.cond (.t 10) (.skip) (.exit 0)) (.seq (.block 1 (.seq (.reg r79_3) (.seq (.reg r79_4) (.cond (.t 24) (.seq (.reg r79_5) (.ret)) (.skip))))) (.reg r79_6)))
def r79_7:List AOper:=[o 26 (.mv (.t 1)),
 o 27 (.len false (.t 26)),
 o 28 (.faddr 1 (.t 2)),
 o 29 (.load none (.t 28)),
 o 30 (.bin .leq (.t 27) (.t 29)),
 o 4 (.mv (.t 30))]
def c79:ACode:=.seq (.reg r79_0) (.seq (.seq (.reg r79_1) (.block 0 (.loop l79_0))) (.seq (.reg r79_7) (.ret)))
def a79:AFunc:=⟨2,31,[.tmp 4],c79⟩
def r81_0:List AOper:=[o 6 (.mv (.c (.bool false)))]
def r81_1:List AOper:=[o 7 (.mv (.t 0)),
 o 8 (.mv (.t 1)),
 o 9 (.bin .geq (.t 7) (.t 8)),
 o 10 (.mv (.t 9)),
 oT 11 10 (.mv (.t 0)),
 oT 12 10 (.mv (.t 2)),
 oT 13 10 (.bin .leq (.t 11) (.t 12)),
 o 14 (.pick (.t 10) (.t 13) (.c (.bool false))),
 o 6 (.mv (.t 14))]
def c81:ACode:=.seq (.reg r81_0) (.seq (.reg r81_1) (.ret))
def a81:AFunc:=⟨3,15,[.tmp 6],c81⟩
def r82_0:List AOper:=[o 2 (.box (.t 0)),
 o 4 (.mv (.c (.bool false)))]
def r82_1:List AOper:=[o 6 (.faddr 0 (.t 2)),
 o 7 (.load none (.t 6)),
 o 8 (.call 81 [.t 7,(i64 0),(i64 2)] .borrow),
 o 9 (.mv (.t 8)),
 oT 10 9 (.faddr 1 (.t 2)),
 oT 11 9 (.load none (.t 10)),
 oT 12 9 (.call 81 [.t 11,(i64 1),(i64 16)] .borrow),
 o 13 (.pick (.t 9) (.t 12) (.c (.bool false))),
 o 14 (.mv (.t 13)),
 oT 15 14 (.faddr 4 (.t 2)),
 oT 16 14 (.load none (.t 15)),
 oT 17 14 (.call 81 [.t 16,(i64 1),(i64 4)] .borrow),
 o 18 (.pick (.t 14) (.t 17) (.c (.bool false))),
 o 5 (.mv (.t 18))]
def r82_2:List AOper:=[o 19 (.mv (.t 5)),
 o 20 (.mv (.t 19)),
 oT 21 20 (.faddr 2 (.t 2)),
 oT 22 20 (.load none (.t 21)),
 oT 23 20 (.mv (.t 1)),
 oT 24 20 (.bin .sub (.t 23) (i64 1)),
 oT 25 20 (.call 81 [.t 22,(i64 0),.t 24] .borrow),
 o 26 (.pick (.t 20) (.t 25) (.c (.bool false))),
 o 27 (.mv (.t 26)),
 oT 28 27 (.faddr 3 (.t 2)),
 oT 29 27 (.load none (.t 28)),
 oT 30 27 (.mv (.t 1)),
 oT 31 27 (.bin .sub (.t 30) (i64 1)),
 oT 32 27 (.call 81 [.t 29,(i64 0),.t 31] .borrow),
 o 33 (.pick (.t 27) (.t 32) (.c (.bool false))),
 o 34 (.mv (.t 33)),
 oT 35 34 (.faddr 2 (.t 2)),
 oT 36 34 (.load none (.t 35)),
 oT 37 34 (.faddr 3 (.t 2)),
 oT 38 34 (.load none (.t 37)),
 oT 39 34 (.bin .neq (.t 36) (.t 38)),
 o 40 (.pick (.t 34) (.t 39) (.c (.bool false))),
 o 41 (.mv (.t 40)),
 oT 42 41 (.load (some 6) (.t 2)),
 oT 43 41 (.call 104 [.t 42] .borrow),
 o 44 (.pick (.t 41) (.t 43) (.c (.bool false))),
 o 4 (.mv (.t 44))]
def c82:ACode:=.seq (.reg r82_0) (.seq (.reg r82_1) (.seq (.reg r82_2) (.ret)))
def a82:AFunc:=⟨2,45,[.tmp 4],c82⟩
def r83_0:List AOper:=[o 2 (.box (.t 0)),
 o 4 (.mv (.c (.bool false)))]
def r83_1:List AOper:=[o 7 (.mv (.t 1)),
 o 8 (.len false (.t 7)),
 o 9 (.mv (i64 0))]
def r83_2:List AOper:=[o 10 (.bin .lss (.t 9) (.t 8))]
def r83_3:List AOper:=[o 11 (.iaddr 20 (.t 7) (.t 9)),
 o 12 (.load (some 20) (.t 11)),
 o 6 (.alloc [zi,zi,zi,zi,zi,zi,zi,.nils,zi,zi,zi,zi,.nils,zi,zi,zi,.nils,.nils,.nils,.nils]),
 oN (.store 20 (.t 6) (.t 12))]
def r83_4:List AOper:=[o 13 (.load (some 4) (.t 2)),
 o 14 (.load (some 20) (.t 6)),
 o 15 (.call 105 [.t 13,.t 14] .borrow),
 o 16 (.un .not (.t 15))]
def r83_5:List AOper:=[o 4 (.mv (.c (.bool false)))]
def r83_6:List AOper:=[o 17 (.bin .add (.t 9) (i64 1)),
 o 9 (.mv (.t 17))]
def l83_0:ACode:=.seq (.reg r83_2) (.seq (.cond (.t 10) (.skip) (.exit 0)) (.seq (.block 1 (.seq (.reg r83_3) (.seq (.reg r83_4) (.cond (.t 16) (.seq (.reg r83_5) (.ret)) (.skip))))) (.reg r83_6)))
def r83_7:List AOper:=[o 4 (.mv (.c (.bool true)))]
def c83:ACode:=.seq (.reg r83_0) (.seq (.seq (.reg r83_1) (.block 0 (.loop l83_0))) (.seq (.reg r83_7) (.ret)))
def a83:AFunc:=⟨2,18,[.tmp 4],c83⟩
def r99_0:List AOper:=[o 1 (.box (.t 0)),
 o 2 (.mv (.c (.bool false)))]
def r99_1:List AOper:=[o 5 (.faddr 2 (.t 1)),
 o 6 (.load none (.t 5)),
 o 7 (.len false (.t 6)),
 o 8 (.mv (i64 0))]
def r99_2:List AOper:=[o 9 (.bin .lss (.t 8) (.t 7))]
def r99_3:List AOper:=[o 10 (.mv (.t 8)),
 o 11 (.iaddr 1 (.t 6) (.t 8)),
 o 12 (.load none (.t 11)),
 o 3 (.mv (.t 10)),
 o 4 (.mv (.t 12))]
def r99_4:List AOper:=[o 13 (.mv (.t 4)),
 o 14 (.bin .lss (.t 13) (i64 0)),
 o 15 (.mv (.t 14)),
 oF 16 15 (.mv (.t 4)),
 oF 17 15 (.faddr 0 (.t 1)),
 oF 18 15 (.load none (.t 17)),
 oF 19 15 (.bin .geq (.t 16) (.t 18)),
 o 20 (.pick (.t 15) (.c (.bool true)) (.t 19)),
 o 21 (.mv (.t 20)),
 oF 22 21 (.mv (.t 3)),
 oF 23 21 (.bin .gtr (.t 22) (i64 0)),
 oF 24 21 (.mv (.t 23)),
 oT 25 24 (.faddr 2 (.t 1)),
 oT 26 24 (.load none (.t 25)),
 oT 27 24 (.mv (.t 3)),
 oT 28 24 (.bin .sub (.t 27) (i64 1)),
 oT 29 24 (.iaddr 1 (.t 26) (.t 28)),
 oT 30 24 (.load none (.t 29)),
 oT 31 24 (.mv (.t 4)),
 oT 32 24 (.bin .geq (.t 30) (.t 31)),
 oF 33 21 (.pick (.t 24) (.t 32) (.c (.bool false))),
 o 34 (.pick (.t 21) (.c (.bool true)) (.t 33))]
def r99_5:List AOper:=[o 2 (.mv (.c (.bool false)))]
def r99_6:List AOper:=[o 35 (.bin .add (.t 8) (i64 1)),
 o 8 (.mv (.t 35))]
def l99_0:ACode:=.seq (.reg r99_2) (.seq (.cond (.t 9) (.skip) (.exit 0)) (.seq (.block 1 (.seq (.reg r99_3) (.seq (.reg r99_4) (.cond (.t 34) (.seq (.reg r99_5) (.ret)) (.skip))))) (.reg r99_6)))
def r99_7:List AOper:=[o 2 (.mv (.c (.bool true)))]
def c99:ACode:=.seq (.reg r99_0) (.seq (.seq (.reg r99_1) (.block 0 (.loop l99_0))) (.seq (.reg r99_7) (.ret)))
def a99:AFunc:=⟨1,36,[.tmp 2],c99⟩
def r100_0:List AOper:=[o 4 (.box (.t 0)),
 o 6 (.box (.t 2)),
 o 7 (.box (.t 3)),
 o 8 (.mv (.c (.bool false)))]
def r100_1:List AOper:=[o 12 (.faddr 0 (.t 7)),
 o 13 (.load none (.t 12)),
 o 14 (.bin .lss (.t 13) (i64 0)),
 o 15 (.mv (.t 14)),
 oF 16 15 (.faddr 0 (.t 7)),
 oF 17 15 (.load none (.t 16)),
 oF 18 15 (.faddr 0 (.t 6)),
 oF 19 15 (.load none (.t 18)),
 oF 20 15 (.bin .geq (.t 17) (.t 19)),
 o 21 (.pick (.t 15) (.c (.bool true)) (.t 20)),
 o 22 (.mv (.t 21)),
 oF 23 22 (.faddr 1 (.t 7)),
 oF 24 22 (.load none (.t 23)),
 oF 25 22 (.bin .lss (.t 24) (i64 0)),
 o 26 (.pick (.t 22) (.c (.bool true)) (.t 25)),
 o 27 (.mv (.t 26)),
 oF 28 27 (.faddr 1 (.t 7)),
 oF 29 27 (.load none (.t 28)),
 oF 30 27 (.faddr 0 (.t 6)),
 oF 31 27 (.load none (.t 30)),
 oF 32 27 (.bin .geq (.t 29) (.t 31)),
 o 33 (.pick (.t 27) (.c (.bool true)) (.t 32))]
def r100_2:List AOper:=[o 8 (.mv (.c (.bool false)))]
def r100_3:List AOper:=[o 35 (.load (some 19) (.t 7)),
 o 36 (.call 136 [.t 35] .borrow),
 o 34 (.mv (.t 36)),
 o 37 (.ext 0 (.t 34)),
 o 38 (.ext 1 (.t 34)),
 o 9 (.mv (.t 37)),
 o 10 (.mv (.t 38))]
def r100_4:List AOper:=[o 39 (.mv (.t 10)),
 o 40 (.un .not (.t 39))]
def r100_5:List AOper:=[o 8 (.mv (.c (.bool false)))]
def r100_6:List AOper:=[o 41 (.faddr 1 (.t 4)),
 o 42 (.load none (.t 41)),
 o 43 (.call 137 [.t 42] .share),
 o 11 (.mv (.t 43))]
def r100_7:List AOper:=[o 44 (.mv (.t 11)),
 o 45 (.mv (.t 1)),
 o 46 (.mv (.t 9)),
 o 47 (.iaddr 2 (.t 44) (.t 45)),
 o 48 (.faddr 1 (.t 47)),
 oN (.store 1 (.t 48) (.t 46))]
def r100_8:List AOper:=[o 49 (.faddr 2 (.t 7)),
 o 50 (.load none (.t 49)),
 o 51 (.bin .eql (.t 50) (i64 0))]
def r100_9:List AOper:=[o 52 (.mv (.t 11)),
 o 53 (.mv (.t 1)),
 o 54 (.mv (.t 11)),
 o 55 (.mv (.t 1)),
 o 56 (.iaddr 2 (.t 54) (.t 55)),
 o 57 (.faddr 0 (.t 56)),
 o 58 (.load none (.t 57)),
 o 59 (.mnx true [.t 58,(i64 1)]),
 o 60 (.iaddr 2 (.t 52) (.t 53)),
 o 61 (.faddr 0 (.t 60)),
 oN (.store 1 (.t 61) (.t 59))]
def r100_10:List AOper:=[o 62 (.faddr 0 (.t 4)),
 o 63 (.load none (.t 62)),
 o 64 (.mv (.t 11)),
 o 65 (.build [.nils,.nils] [(0,1,(.t 63)),(1,1,(.t 64))]),
 o 66 (.call 60 [.t 65] .borrow),
 o 8 (.mv (.t 66))]
def c100:ACode:=.seq (.reg r100_0) (.seq (.seq (.reg r100_1) (.cond (.t 33) (.seq (.reg r100_2) (.ret)) (.skip))) (.seq (.reg r100_3) (.seq (.seq (.reg r100_4) (.cond (.t 40) (.seq (.reg r100_5) (.ret)) (.skip))) (.seq (.reg r100_6) (.seq (.reg r100_7) (.seq (.seq (.reg r100_8) (.cond (.t 51) (.reg r100_9) (.skip))) (.seq (.reg r100_10) (.ret))))))))
def a100:AFunc:=⟨4,67,[.tmp 8],c100⟩
def r101_0:List AOper:=[o 2 (.box (.t 0)),
 o 4 (.mv (.c (.bool false)))]
def r101_1:List AOper:=[o 5 (.mv (.c (.nils)))]
def r101_2:List AOper:=[o 8 (.load (some 3) (.t 2)),
 o 9 (.mv (.t 1)),
 o 10 (.call 50 [.t 8,.t 9] .borrow),
 o 11 (.len false (.t 10)),
 o 12 (.mv (i64 0))]
def r101_3:List AOper:=[o 13 (.bin .lss (.t 12) (.t 11))]
def r101_4:List AOper:=[o 14 (.iaddr 1 (.t 10) (.t 12)),
 o 15 (.load none (.t 14)),
 o 7 (.mv (.t 15))]
def r101_5:List AOper:=[o 16 (.mv (.t 5)),
 o 17 (.faddr 1 (.t 2)),
 o 18 (.load none (.t 17)),
 o 19 (.mv (.t 7)),
 o 20 (.iaddr 19 (.t 18) (.t 19)),
 o 21 (.load (some 19) (.t 20)),
 ⟨some 22,.islice 1 [zi,zi,zi,zi,zi,zi,zi,zi,zi,.nils,zi,zi,zi,zi,.nils,zi,zi,zi,.nils] [(0,19,(.t 21))],none,true⟩,
 o 23 (.app 19 200 (.t 16) (.t 22)),
 o 5 (.mv (.t 23))]
def r101_6:List AOper:=[o 24 (.bin .add (.t 12) (i64 1)),
 o 12 (.mv (.t 24))]
def l101_0:ACode:=.seq (.reg r101_3) (.seq (.cond (.t 13) (.skip) (.exit 0)) (.seq (.block 1 (.seq (.reg r101_4) (.reg r101_5))) (.reg r101_6)))
def r101_7:List AOper:=[o 26 (.mv (.t 5)),
 o 27 (.len false (.t 26)),
 o 28 (.bin .eql (.t 27) (i64 0)),
 o 25 (.mv (.t 28))]
def r101_8:List AOper:=[o 29 (.mv (.t 1)),
 o 30 (.bin .eql (.t 29) (i64 1)),
 o 4 (.mv (.t 30))]
def r101_9:List AOper:=[o 32 (.mv (.t 1)),
 o 33 (.bin .eql (.t 32) (i64 1)),
 o 31 (.mv (.t 33))]
def r101_10:List AOper:=[o 4 (.mv (.c (.bool false)))]
def r101_11:List AOper:=[o 35 (.mv (.t 5)),
 o 36 (.iaddr 19 (.t 35) (i64 0)),
 o 37 (.faddr 2 (.t 36)),
 o 38 (.load none (.t 37)),
 o 39 (.bin .eql (.t 38) (i64 4)),
 o 34 (.mv (.t 39))]
def r101_12:List AOper:=[o 40 (.mv (.t 5)),
 o 41 (.call 138 [.t 40] .borrow),
 o 4 (.mv (.t 41))]
def r101_13:List AOper:=[o 43 (.mv (.t 5)),
 o 44 (.iaddr 19 (.t 43) (i64 0)),
 o 45 (.faddr 2 (.t 44)),
 o 46 (.load none (.t 45)),
 o 47 (.bin .eql (.t 46) (i64 2)),
 o 42 (.mv (.t 47))]
def r101_14:List AOper:=[o 48 (.mv (.t 5)),
 o 49 (.len false (.t 48)),
 o 50 (.bin .eql (.t 49) (i64 2)),
 o 51 (.mv (.t 50)),
 oT 52 51 (.mv (.t 5)),
 oT 53 51 (.iaddr 19 (.t 52) (i64 0)),
 oT 54 51 (.load (some 19) (.t 53)),
 oT 55 51 (.mv (.t 5)),
 oT 56 51 (.iaddr 19 (.t 55) (i64 1)),
 oT 57 51 (.load (some 19) (.t 56)),
 oT 58 51 (.call 139 [.t 54,.t 57] .borrow),
 o 59 (.pick (.t 51) (.t 58) (.c (.bool false))),
 o 4 (.mv (.t 59))]
def b101_14:List (List Nat):=[[],[0],[0,1],[0,1,2],[0,1,2,3],[0,1,2,3,4],[0,1,2,3,4,5],[0,1,2,3],[0,1,2,3,7],[0,1,2,3,7,8],[0,1,2,3,4,5,6,7,8,9],[0,1,2,3,4,5,6,7,8,9,10],[0,1,2,3,4,5,6,7,8,9,10,11]]
def r101_15:List AOper:=[o 60 (.mv (.t 5)),
 o 61 (.len false (.t 60)),
 o 62 (.bin .eql (.t 61) (i64 1)),
 o 4 (.mv (.t 62))]
def c101:ACode:=.seq (.reg r101_0) (.seq (.reg r101_1) (.seq (.seq (.reg r101_2) (.block 0 (.loop l101_0))) (.seq (.block 2 (.seq (.reg r101_7) (.cond (.t 25) (.seq (.reg r101_8) (.ret)) (.seq (.reg r101_9) (.cond (.t 31) (.seq (.reg r101_10) (.ret)) (.seq (.reg r101_11) (.cond (.t 34) (.seq (.reg r101_12) (.ret)) (.seq (.reg r101_13) (.cond (.t 42) (.seq (.dreg r101_14 b101_14 []) (.ret)) (.skip)))))))))) (.seq (.reg r101_15) (.ret)))))
def a101:AFunc:=⟨2,63,[.tmp 4],c101⟩
def r102_0:List AOper:=[o 1 (.box (.t 0)),
 o 2 (.mv (.c (.bool false)))]
def r102_1:List AOper:=[o 14 (.faddr 0 (.t 1)),
 o 15 (.load none (.t 14)),
 o 16 (.mksl 1 8 [zi] (.t 15)),
 o 3 (.mv (.t 16))]
def r102_2:List AOper:=[o 17 (.faddr 1 (.t 1)),
 o 18 (.load none (.t 17)),
 o 19 (.len false (.t 18)),
 o 20 (.mv (i64 0))]
def r102_3:List AOper:=[o 21 (.bin .lss (.t 20) (.t 19))]
def r102_4:List AOper:=[o 22 (.iaddr 19 (.t 18) (.t 20)),
 o 23 (.load (some 19) (.t 22)),
 o 5 (.alloc [zi,zi,zi,zi,zi,zi,zi,zi,zi,.nils,zi,zi,zi,zi,.nils,zi,zi,zi,.nils]),
 oN (.store 19 (.t 5) (.t 23))]
def r102_5:List AOper:=[o 24 (.faddr 2 (.t 1)),
 o 25 (.load none (.t 24)),
 o 26 (.faddr 0 (.t 5)),
 o 27 (.load none (.t 26)),
 o 28 (.call 140 [.t 25,.t 27] .borrow),
 o 29 (.un .not (.t 28))]
def r102_6:List AOper:=[o 30 (.mv (.t 3)),
 o 31 (.faddr 1 (.t 5)),
 o 32 (.load none (.t 31)),
 o 33 (.iaddr 1 (.t 30) (.t 32)),
 o 34 (.load none (.t 33)),
 o 35 (.bin .add (.t 34) (i64 1)),
 o 36 (.iaddr 1 (.t 30) (.t 32)),
 oN (.store 1 (.t 36) (.t 35))]
def r102_7:List AOper:=[o 37 (.bin .add (.t 20) (i64 1)),
 o 20 (.mv (.t 37))]
def l102_0:ACode:=.seq (.reg r102_3) (.seq (.cond (.t 21) (.skip) (.exit 0)) (.seq (.block 1 (.seq (.reg r102_4) (.seq (.reg r102_5) (.cond (.t 29) (.reg r102_6) (.skip))))) (.reg r102_7)))
def r102_8:List AOper:=[o 6 (.mv (.c (.nils)))]
def r102_9:List AOper:=[o 7 (.mv (i64 0))]
def r102_10:List AOper:=[o 38 (.mv (.t 3)),
 o 39 (.len false (.t 38)),
 o 40 (.mv (i64 0))]
def r102_11:List AOper:=[o 41 (.bin .lss (.t 40) (.t 39))]
def r102_12:List AOper:=[o 42 (.mv (.t 40)),
 o 43 (.iaddr 1 (.t 38) (.t 40)),
 o 44 (.load none (.t 43)),
 o 8 (.mv (.t 42)),
 o 9 (.mv (.t 44))]
def r102_13:List AOper:=[o 45 (.mv (.t 9)),
 o 46 (.bin .eql (.t 45) (i64 0))]
def r102_14:List AOper:=[o 47 (.mv (.t 6)),
 o 48 (.mv (.t 8)),
 o 49 (.islice 1 [zi] [(0,1,(.t 48))]),
 o 50 (.app 1 8 (.t 47) (.t 49)),
 o 6 (.mv (.t 50))]
def r102_15:List AOper:=[o 51 (.bin .add (.t 40) (i64 1)),
 o 40 (.mv (.t 51))]
def l102_1:ACode:=.seq (.reg r102_11) (.seq (.cond (.t 41) (.skip) (.exit 2)) (.seq (.block 3 (.seq (.reg r102_12) (.seq (.reg r102_13) (.cond (.t 46) (.reg r102_14) (.skip))))) (.reg r102_15)))
def r102_16:List AOper:=[o 52 (.mv (.t 6)),
 o 53 (.len false (.t 52)),
 o 54 (.bin .gtr (.t 53) (i64 0))]
def r102_17:List AOper:=[o 55 (.mv (.t 6)),
 o 56 (.iaddr 1 (.t 55) (i64 0)),
 o 57 (.load none (.t 56)),
 o 10 (.mv (.t 57))]
def r102_18:List AOper:=[o 58 (.mv (.t 6)),
 o 59 (.slsl 1 (.t 58) (some (i64 1)) none none),
 o 6 (.mv (.t 59))]
def r102_19:List AOper:=[o 60 (.mv (.t 7)),
 o 61 (.bin .add (.t 60) (i64 1)),
 o 7 (.mv (.t 61))]
def r102_20:List AOper:=[o 62 (.faddr 2 (.t 1)),
 o 63 (.load none (.t 62)),
 o 64 (.mv (.t 10)),
 o 65 (.call 140 [.t 63,.t 64] .borrow)]
def r102_21:List AOper:=[o 66 (.load (some 3) (.t 1)),
 o 67 (.mv (.t 10)),
 o 68 (.call 50 [.t 66,.t 67] .borrow),
 o 69 (.len false (.t 68)),
 o 70 (.mv (i64 0))]
def r102_22:List AOper:=[o 71 (.bin .lss (.t 70) (.t 69))]
def r102_23:List AOper:=[o 72 (.iaddr 1 (.t 68) (.t 70)),
 o 73 (.load none (.t 72)),
 o 12 (.mv (.t 73))]
def r102_24:List AOper:=[o 74 (.faddr 1 (.t 1)),
 o 75 (.load none (.t 74)),
 o 76 (.mv (.t 12)),
 o 77 (.iaddr 19 (.t 75) (.t 76)),
 o 78 (.faddr 1 (.t 77)),
 o 79 (.load none (.t 78)),
 o 13 (.mv (.t 79))]
def r102_25:List AOper:=[o 80 (.mv (.t 3)),
 o 81 (.mv (.t 13)),
 o 82 (.iaddr 1 (.t 80) (.t 81)),
 o 83 (.load none (.t 82)),
 o 84 (.bin .sub (.t 83) (i64 1)),
 o 85 (.iaddr 1 (.t 80) (.t 81)),
 oN (.store 1 (.t 85) (.t 84))]
def r102_26:List AOper:=[o 86 (.mv (.t 3)),
 o 87 (.mv (.t 13)),
 o 88 (.iaddr 1 (.t 86) (.t 87)),
 o 89 (.load none (.t 88)),
 o 90 (.bin .eql (.t 89) (i64 0))]
def r102_27:List AOper:=[o 91 (.mv (.t 6)),
 o 92 (.mv (.t 13)),
 o 93 (.islice 1 [zi] [(0,1,(.t 92))]),
 o 94 (.app 1 8 (.t 91) (.t 93)),
 o 6 (.mv (.t 94))]
def r102_28:List AOper:=[o 95 (.bin .add (.t 70) (i64 1)),
 o 70 (.mv (.t 95))]
def l102_2:ACode:=.seq (.reg r102_22) (.seq (.cond (.t 71) (.skip) (.exit 6)) (.seq (.block 7 (.seq (.reg r102_23) (.seq (.reg r102_24) (.seq (.reg r102_25) (.seq (.reg r102_26) (.cond (.t 90) (.reg r102_27) (.skip))))))) (.reg r102_28)))
def l102_3:ACode:=.seq (.seq (.reg r102_16) (.cond (.t 54) (.skip) (.exit 4))) (.block 5 (.seq (.reg r102_17) (.seq (.reg r102_18) (.seq (.reg r102_19) (.seq (.seq (.reg r102_20) (.cond (.t 65) (.exit 5) (.skip))) (.seq (.reg r102_21) (.block 6 (.loop l102_2))))))))
def r102_29:List AOper:=[o 96 (.mv (.t 7)),
 o 97 (.faddr 0 (.t 1)),
 o 98 (.load none (.t 97)),
 o 99 (.bin .lss (.t 96) (.t 98)),
 o 2 (.mv (.t 99))]
def c102:ACode:=.seq (.reg r102_0) (.seq (.reg r102_1) (.seq (.seq (.reg r102_2) (.block 0 (.loop l102_0))) (.seq (.reg r102_8) (.seq (.reg r102_9) (.seq (.seq (.reg r102_10) (.block 2 (.loop l102_1))) (.seq (.block 4 (.loop l102_3)) (.seq (.reg r102_29) (.ret))))))))
def a102:AFunc:=⟨1,100,[.tmp 2],c102⟩
def r104_0:List AOper:=[o 1 (.box (.t 0)),
 o 2 (.mv (.c (.bool false)))]
def r104_1:List AOper:=[o 3 (.mv (i64 0))]
def r104_2:List AOper:=[o 8 (.faddr 5 (.t 1)),
 o 9 (.load none (.t 8)),
 o 10 (.len false (.t 9)),
 o 11 (.mv (i64 0))]
def r104_3:List AOper:=[o 12 (.bin .lss (.t 11) (.t 10))]
def r104_4:List AOper:=[o 13 (.mv (.t 11)),
 o 14 (.iaddr 1 (.t 9) (.t 11)),
 o 15 (.load none (.t 14)),
 o 4 (.mv (.t 13)),
 o 5 (.mv (.t 15))]
def r104_5:List AOper:=[o 16 (.mv (.t 5)),
 o 17 (.len false (.t 16)),
 o 18 (.faddr 4 (.t 1)),
 o 19 (.load none (.t 18)),
 o 20 (.bin .neq (.t 17) (.t 19))]
def r104_6:List AOper:=[o 2 (.mv (.c (.bool false)))]
def r104_7:List AOper:=[o 21 (.mv (.t 5)),
 o 22 (.len false (.t 21)),
 o 23 (.mv (i64 0))]
def r104_8:List AOper:=[o 24 (.bin .lss (.t 23) (.t 22))]
def r104_9:List AOper:=[o 25 (.iaddr 1 (.t 21) (.t 23)),
 o 26 (.load none (.t 25)),
 o 7 (.mv (.t 26))]
def r104_10:List AOper:=[o 27 (.mv (.t 7)),
 o 28 (.faddr 5 (.t 1)),
 o 29 (.load none (.t 28)),
 o 30 (.len false (.t 29)),
 o 31 (.bin .sub (.t 30) (i64 1)),
 o 32 (.call 81 [.t 27,(i64 (-1)),.t 31] .borrow),
 o 33 (.un .not (.t 32))]
def r104_11:List AOper:=[o 2 (.mv (.c (.bool false)))]
def r104_12:List AOper:=[o 34 (.mv (.t 7)),
 o 35 (.bin .neq (.t 34) (i64 (-1)))]
def r104_13:List AOper:=[o 36 (.mv (.t 3)),
 o 37 (.mv (.t 4)),
 o 38 (.mv (.t 7)),
 o 39 (.mnx true [.t 36,.t 37,.t 38]),
 o 3 (.mv (.t 39))]
def r104_14:List AOper:=[o 40 (.bin .add (.t 23) (i64 1)),
 o 23 (.mv (.t 40))]
def l104_0:ACode:=.seq (.reg r104_8) (.seq (.cond (.t 24) (.skip) (.exit 2)) (.seq (.block 3 (.seq (.reg r104_9) (.seq (.seq (.reg r104_10) (.cond (.t 33) (.seq (.reg r104_11) (.ret)) (.skip))) (.seq (.reg r104_12) (.cond (.t 35) (.reg r104_13) (.skip)))))) (.reg r104_14)))
def r104_15:List AOper:=[o 41 (.bin .add (.t 11) (i64 1)),
 o 11 (.mv (.t 41))]
def l104_1:ACode:=.seq (.reg r104_3) (.seq (.cond (.t 12) (.skip) (.exit 0)) (.seq (.block 1 (.seq (.reg r104_4) (.seq (.seq (.reg r104_5) (.cond (.t 20) (.seq (.reg r104_6) (.ret)) (.skip))) (.seq (.reg r104_7) (.block 2 (.loop l104_0)))))) (.reg r104_15)))
def r104_16:List AOper:=[o 42 (.faddr 5 (.t 1)),
 o 43 (.load none (.t 42)),
 o 44 (.len false (.t 43)),
 o 45 (.bin .eql (.t 44) (i64 0)),
 o 46 (.mv (.t 45)),
 oF 47 46 (.mv (.t 3)),
 oF 48 46 (.faddr 5 (.t 1)),
 oF 49 46 (.load none (.t 48)),
 oF 50 46 (.len false (.t 49)),
 oF 51 46 (.bin .sub (.t 50) (i64 1)),
 oF 52 46 (.bin .eql (.t 47) (.t 51)),
 oF 53 46 (.mv (.t 52)),
 oT 54 53 (.faddr 5 (.t 1)),
 oT 55 53 (.load none (.t 54)),
 oT 56 53 (.len false (.t 55)),
 oT 57 53 (.bin .leq (.t 56) (i64 8)),
 oF 58 46 (.pick (.t 53) (.t 57) (.c (.bool false))),
 o 59 (.pick (.t 46) (.c (.bool true)) (.t 58)),
 o 2 (.mv (.t 59))]
def c104:ACode:=.seq (.reg r104_0) (.seq (.reg r104_1) (.seq (.seq (.reg r104_2) (.block 0 (.loop l104_1))) (.seq (.reg r104_16) (.ret))))
def a104:AFunc:=⟨1,60,[.tmp 2],c104⟩
def r105_0:List AOper:=[o 2 (.box (.t 0)),
 o 3 (.box (.t 1)),
 o 4 (.mv (.c (.bool false)))]
def r105_1:List AOper:=[o 12 (.faddr 4 (.t 3)),
 o 13 (.load (some 4) (.t 12)),
 o 14 (.call 141 [.t 13] .borrow),
 o 15 (.faddr 8 (.t 3)),
 o 16 (.load (some 9) (.t 15)),
 o 17 (.call 142 [.t 16] .borrow),
 o 5 (.mv (.t 14)),
 o 6 (.mv (.t 17))]
def b105_1:List (List Nat):=[[],[0],[0,1],[],[3],[0,1,2,3,4],[0,1,2,3,4,5],[0,1,2,3,4,5,6]]
def r105_2:List AOper:=[o 18 (.faddr 17 (.t 3)),
 o 19 (.load none (.t 18)),
 o 20 (.len false (.t 19)),
 o 21 (.bin .eql (.t 20) (i64 0)),
 o 22 (.faddr 19 (.t 3)),
 o 23 (.load none (.t 22)),
 o 24 (.len false (.t 23)),
 o 25 (.bin .eql (.t 24) (i64 0)),
 o 7 (.mv (.t 21)),
 o 8 (.mv (.t 25))]
def b105_2:List (List Nat):=[[],[0],[0,1],[0,1,2],[],[4],[4,5],[4,5,6],[0,1,2,3],[0,1,2,3,4,5,6,7,8]]
def r105_3:List AOper:=[o 26 (.faddr 18 (.t 3)),
 o 27 (.load none (.t 26)),
 o 28 (.len false (.t 27)),
 o 29 (.bin .eql (.t 28) (i64 0)),
 o 30 (.faddr 1 (.t 3)),
 o 31 (.load none (.t 30)),
 o 32 (.bin .eql (.t 31) (i64 0)),
 o 9 (.mv (.t 29)),
 o 10 (.mv (.t 32))]
def b105_3:List (List Nat):=[[],[0],[0,1],[0,1,2],[],[4],[4,5],[0,1,2,3],[0,1,2,3,4,5,6,7]]
def r105_4:List AOper:=[o 33 (.faddr 2 (.t 3)),
 o 34 (.load none (.t 33)),
 o 35 (.bin .eql (.t 34) (i64 0)),
 o 36 (.mv (.t 35)),
 oT 37 36 (.faddr 3 (.t 3)),
 oT 38 36 (.load none (.t 37)),
 oT 39 36 (.bin .eql (.t 38) (i64 0)),
 o 40 (.pick (.t 36) (.t 39) (.c (.bool false))),
 o 11 (.mv (.t 40))]
def r105_5:List AOper:=[o 41 (.faddr 0 (.t 3)),
 o 42 (.load none (.t 41))]
def r105_6:List AOper:=[o 44 (.bin .eql (.t 42) (i64 1)),
 o 43 (.mv (.t 44))]
def r105_7:List AOper:=[o 45 (.mv (.t 6)),
 o 46 (.mv (.t 45)),
 oT 47 46 (.mv (.t 7)),
 o 48 (.pick (.t 46) (.t 47) (.c (.bool false))),
 o 49 (.mv (.t 48)),
 oT 50 49 (.mv (.t 9)),
 o 51 (.pick (.t 49) (.t 50) (.c (.bool false))),
 o 52 (.mv (.t 51)),
 oT 53 52 (.mv (.t 8)),
 o 54 (.pick (.t 52) (.t 53) (.c (.bool false))),
 o 55 (.mv (.t 54)),
 oT 56 55 (.mv (.t 11)),
 o 57 (.pick (.t 55) (.t 56) (.c (.bool false))),
 o 58 (.mv (.t 57)),
 oT 59 58 (.faddr 1 (.t 3)),
 oT 60 58 (.load none (.t 59)),
 oT 61 58 (.faddr 3 (.t 2)),
 oT 62 58 (.load none (.t 61)),
 oT 63 58 (.bin .sub (.t 62) (i64 1)),
 oT 64 58 (.call 81 [.t 60,(i64 0),.t 63] .borrow),
 o 65 (.pick (.t 58) (.t 64) (.c (.bool false))),
 o 66 (.mv (.t 65)),
 oT 67 66 (.faddr 4 (.t 3)),
 oT 68 66 (.load (some 4) (.t 67)),
 oT 69 66 (.faddr 3 (.t 2)),
 oT 70 66 (.load none (.t 69)),
 oT 71 66 (.call 143 [.t 68,.t 70] .borrow),
 o 72 (.pick (.t 66) (.t 71) (.c (.bool false))),
 o 4 (.mv (.t 72))]
def r105_8:List AOper:=[o 74 (.bin .eql (.t 42) (i64 7)),
 o 73 (.mv (.t 74))]
def r105_9:List AOper:=[o 75 (.mv (.t 5)),
 o 76 (.mv (.t 75)),
 oT 77 76 (.mv (.t 6)),
 o 78 (.pick (.t 76) (.t 77) (.c (.bool false))),
 o 79 (.mv (.t 78)),
 oT 80 79 (.mv (.t 7)),
 o 81 (.pick (.t 79) (.t 80) (.c (.bool false))),
 o 82 (.mv (.t 81)),
 oT 83 82 (.mv (.t 9)),
 o 84 (.pick (.t 82) (.t 83) (.c (.bool false))),
 o 85 (.mv (.t 84)),
 oT 86 85 (.mv (.t 8)),
 o 87 (.pick (.t 85) (.t 86) (.c (.bool false))),
 o 88 (.mv (.t 87)),
 oT 89 88 (.mv (.t 11)),
 o 90 (.pick (.t 88) (.t 89) (.c (.bool false))),
 o 91 (.mv (.t 90)),
 oT 92 91 (.faddr 1 (.t 3)),
 oT 93 91 (.load none (.t 92)),
 oT 94 91 (.faddr 3 (.t 2)),
 oT 95 91 (.load none (.t 94)),
 oT 96 91 (.bin .sub (.t 95) (i64 1)),
 oT 97 91 (.call 81 [.t 93,(i64 0),.t 96] .borrow),
 o 98 (.pick (.t 91) (.t 97) (.c (.bool false))),
 o 4 (.mv (.t 98))]
def r105_10:List AOper:=[o 100 (.bin .eql (.t 42) (i64 6)),
 o 99 (.mv (.t 100))]
def r105_11:List AOper:=[o 101 (.mv (.t 5)),
 o 102 (.mv (.t 101)),
 oT 103 102 (.mv (.t 7)),
 o 104 (.pick (.t 102) (.t 103) (.c (.bool false))),
 o 105 (.mv (.t 104)),
 oT 106 105 (.mv (.t 9)),
 o 107 (.pick (.t 105) (.t 106) (.c (.bool false))),
 o 108 (.mv (.t 107)),
 oT 109 108 (.mv (.t 8)),
 o 110 (.pick (.t 108) (.t 109) (.c (.bool false))),
 o 111 (.mv (.t 110)),
 oT 112 111 (.mv (.t 11)),
 o 113 (.pick (.t 111) (.t 112) (.c (.bool false))),
 o 114 (.mv (.t 113)),
 oT 115 114 (.mv (.t 10)),
 o 116 (.pick (.t 114) (.t 115) (.c (.bool false))),
 o 117 (.mv (.t 116)),
 oT 118 117 (.faddr 8 (.t 3)),
 oT 119 117 (.load (some 9) (.t 118)),
 oT 120 117 (.faddr 3 (.t 2)),
 oT 121 117 (.load none (.t 120)),
 oT 122 117 (.call 144 [.t 119,.t 121] .borrow),
 o 123 (.pick (.t 117) (.t 122) (.c (.bool false))),
 o 4 (.mv (.t 123))]
def r105_12:List AOper:=[o 125 (.bin .eql (.t 42) (i64 3)),
 o 124 (.mv (.t 125))]
def r105_13:List AOper:=[o 126 (.mv (.t 5)),
 o 127 (.mv (.t 126)),
 oT 128 127 (.mv (.t 9)),
 o 129 (.pick (.t 127) (.t 128) (.c (.bool false))),
 o 130 (.mv (.t 129)),
 oT 131 130 (.mv (.t 8)),
 o 132 (.pick (.t 130) (.t 131) (.c (.bool false))),
 o 133 (.mv (.t 132)),
 oT 134 133 (.mv (.t 11)),
 o 135 (.pick (.t 133) (.t 134) (.c (.bool false))),
 o 136 (.mv (.t 135)),
 oT 137 136 (.mv (.t 10)),
 o 138 (.pick (.t 136) (.t 137) (.c (.bool false))),
 o 139 (.mv (.t 138)),
 oT 140 139 (.faddr 8 (.t 3)),
 oT 141 139 (.load (some 9) (.t 140)),
 oT 142 139 (.faddr 3 (.t 2)),
 oT 143 139 (.load none (.t 142)),
 oT 144 139 (.call 144 [.t 141,.t 143] .borrow),
 o 145 (.pick (.t 139) (.t 144) (.c (.bool false))),
 o 146 (.mv (.t 145)),
 oT 147 146 (.load (some 4) (.t 2)),
 oT 148 146 (.faddr 17 (.t 3)),
 oT 149 146 (.load none (.t 148)),
 oT 150 146 (.call 83 [.t 147,.t 149] .borrow),
 o 151 (.pick (.t 146) (.t 150) (.c (.bool false))),
 o 4 (.mv (.t 151))]
def r105_14:List AOper:=[o 153 (.bin .eql (.t 42) (i64 2)),
 o 152 (.mv (.t 153))]
def r105_15:List AOper:=[o 154 (.mv (.t 5)),
 o 155 (.mv (.t 154)),
 oT 156 155 (.mv (.t 8)),
 o 157 (.pick (.t 155) (.t 156) (.c (.bool false))),
 o 158 (.mv (.t 157)),
 oT 159 158 (.mv (.t 11)),
 o 160 (.pick (.t 158) (.t 159) (.c (.bool false))),
 o 161 (.mv (.t 160)),
 oT 162 161 (.mv (.t 10)),
 o 163 (.pick (.t 161) (.t 162) (.c (.bool false))),
 o 164 (.mv (.t 163)),
 oT 165 164 (.faddr 8 (.t 3)),
 oT 166 164 (.load (some 9) (.t 165)),
 oT 167 164 (.faddr 3 (.t 2)),
 oT 168 164 (.load none (.t 167)),
 oT 169 164 (.call 144 [.t 166,.t 168] .borrow),
 o 170 (.pick (.t 164) (.t 169) (.c (.bool false))),
 o 171 (.mv (.t 170)),
 oT 172 171 (.load (some 4) (.t 2)),
 oT 173 171 (.faddr 17 (.t 3)),
 oT 174 171 (.load none (.t 173)),
 oT 175 171 (.call 83 [.t 172,.t 174] .borrow),
 o 176 (.pick (.t 171) (.t 175) (.c (.bool false))),
 o 177 (.mv (.t 176)),
 oT 178 177 (.load (some 4) (.t 2)),
 oT 179 177 (.faddr 18 (.t 3)),
 oT 180 177 (.load none (.t 179)),
 oT 181 177 (.call 83 [.t 178,.t 180] .borrow),
 o 182 (.pick (.t 177) (.t 181) (.c (.bool false))),
 o 4 (.mv (.t 182))]
def r105_16:List AOper:=[o 184 (.bin .eql (.t 42) (i64 4)),
 o 183 (.mv (.t 184))]
def r105_17:List AOper:=[o 185 (.mv (.t 6)),
 o 186 (.mv (.t 185)),
 oT 187 186 (.mv (.t 7)),
 o 188 (.pick (.t 186) (.t 187) (.c (.bool false))),
 o 189 (.mv (.t 188)),
 oT 190 189 (.mv (.t 9)),
 o 191 (.pick (.t 189) (.t 190) (.c (.bool false))),
 o 192 (.mv (.t 191)),
 oT 193 192 (.mv (.t 8)),
 o 194 (.pick (.t 192) (.t 193) (.c (.bool false))),
 o 195 (.mv (.t 194)),
 oT 196 195 (.mv (.t 10)),
 o 197 (.pick (.t 195) (.t 196) (.c (.bool false))),
 o 198 (.mv (.t 197)),
 oT 199 198 (.load (some 4) (.t 2)),
 oT 200 198 (.faddr 2 (.t 3)),
 oT 201 198 (.load none (.t 200)),
 oT 202 198 (.call 145 [.t 199,.t 201,(.c (.func 146))] .borrow),
 o 203 (.pick (.t 198) (.t 202) (.c (.bool false))),
 o 204 (.mv (.t 203)),
 oT 205 204 (.load (some 4) (.t 2)),
 oT 206 204 (.faddr 2 (.t 3)),
 oT 207 204 (.load none (.t 206)),
 oT 208 204 (.faddr 3 (.t 3)),
 oT 209 204 (.load none (.t 208)),
 oT 210 204 (.call 147 [.t 205,.t 207,.t 209] .borrow),
 o 211 (.pick (.t 204) (.t 210) (.c (.bool false))),
 o 212 (.mv (.t 211)),
 oT 213 212 (.faddr 4 (.t 3)),
 oT 214 212 (.load (some 4) (.t 213)),
 oT 215 212 (.faddr 3 (.t 2)),
 oT 216 212 (.load none (.t 215)),
 oT 217 212 (.call 143 [.t 214,.t 216] .borrow),
 o 218 (.pick (.t 212) (.t 217) (.c (.bool false))),
 o 4 (.mv (.t 218))]
def r105_18:List AOper:=[o 220 (.bin .eql (.t 42) (i64 5)),
 o 219 (.mv (.t 220))]
def r105_19:List AOper:=[o 221 (.mv (.t 5)),
 o 222 (.mv (.t 221)),
 oT 223 222 (.mv (.t 6)),
 o 224 (.pick (.t 222) (.t 223) (.c (.bool false))),
 o 225 (.mv (.t 224)),
 oT 226 225 (.mv (.t 7)),
 o 227 (.pick (.t 225) (.t 226) (.c (.bool false))),
 o 228 (.mv (.t 227)),
 oT 229 228 (.mv (.t 9)),
 o 230 (.pick (.t 228) (.t 229) (.c (.bool false))),
 o 231 (.mv (.t 230)),
 oT 232 231 (.mv (.t 10)),
 o 233 (.pick (.t 231) (.t 232) (.c (.bool false))),
 o 234 (.mv (.t 233)),
 oT 235 234 (.faddr 3 (.t 3)),
 oT 236 234 (.load none (.t 235)),
 oT 237 234 (.bin .eql (.t 236) (i64 0)),
 o 238 (.pick (.t 234) (.t 237) (.c (.bool false))),
 o 239 (.mv (.t 238)),
 oT 240 239 (.load (some 4) (.t 2)),
 oT 241 239 (.faddr 2 (.t 3)),
 oT 242 239 (.load none (.t 241)),
 oT 243 239 (.call 145 [.t 240,.t 242,(.c (.func 148))] .borrow),
 o 244 (.pick (.t 239) (.t 243) (.c (.bool false))),
 o 245 (.mv (.t 244)),
 oT 246 245 (.load (some 4) (.t 2)),
 oT 247 245 (.faddr 2 (.t 3)),
 oT 248 245 (.load none (.t 247)),
 oT 249 245 (.faddr 19 (.t 3)),
 oT 250 245 (.load none (.t 249)),
 oT 251 245 (.call 149 [.t 246,.t 248,.t 250] .borrow),
 o 252 (.pick (.t 245) (.t 251) (.c (.bool false))),
 o 4 (.mv (.t 252))]
def r105_20:List AOper:=[o 4 (.mv (.c (.bool false)))]
def c105:ACode:=.seq (.reg r105_0) (.seq (.dreg r105_1 b105_1 []) (.seq (.dreg r105_2 b105_2 []) (.seq (.dreg r105_3 b105_3 []) (.seq (.reg r105_4) (.seq (.seq (.reg r105_5) (.block 0 (.seq (.reg r105_6) (.cond (.t 43) (.seq (.reg r105_7) (.ret)) (.seq (.reg r105_8) (.cond (.t 73) (.seq (.reg r105_9) (.ret)) (.seq (.reg r105_10) (.cond (.t 99) (.seq (.reg r105_11) (.ret)) (.seq (.reg r105_12) (.cond (.t 124) (.seq (.reg r105_13) (.ret)) (.seq (.reg r105_14) (.cond (.t 152) (.seq (.reg r105_15) (.ret)) (.seq (.reg r105_16) (.cond (.t 183) (.seq (.reg r105_17) (.ret)) (.seq (.reg r105_18) (.cond (.t 219) (.seq (.reg r105_19) (.ret)) (.skip))))))))))))))))) (.seq (.reg r105_20) (.ret)))))))
def a105:AFunc:=⟨2,253,[.tmp 4],c105⟩
def r106_0:List AOper:=[o 1 (.box (.t 0)),
 o 2 (.alloc [zi,zi,zi,.nils])]
def r106_1:List AOper:=[o 6 (.faddr 3 (.t 1)),
 o 7 (.load none (.t 6)),
 o 3 (.mv (.t 7))]
def r106_2:List AOper:=[o 8 (.faddr 3 (.t 1)),
 oN (.store 1 (.t 8) (.c (.nils)))]
def r106_3:List AOper:=[o 9 (.mv (.t 3)),
 o 10 (.len false (.t 9)),
 o 11 (.mv (i64 0))]
def r106_4:List AOper:=[o 12 (.bin .lss (.t 11) (.t 10))]
def r106_5:List AOper:=[o 13 (.iaddr 4 (.t 9) (.t 11)),
 o 14 (.load (some 4) (.t 13)),
 o 5 (.alloc [zi,zi,zi,.nils]),
 oN (.store 4 (.t 5) (.t 14))]
def r106_6:List AOper:=[o 15 (.faddr 3 (.t 1)),
 o 16 (.load none (.t 15)),
 o 17 (.load (some 4) (.t 5)),
 o 18 (.call 106 [.t 17] .borrow),
 ⟨some 19,.islice 1 [zi,zi,zi,.nils] [(0,4,(.t 18))],none,true⟩,
 o 20 (.app 4 48 (.t 16) (.t 19)),
 o 21 (.faddr 3 (.t 1)),
 oN (.store 1 (.t 21) (.t 20))]
def b106_6:List (List Nat):=[[],[0],[],[2],[2,3],[0,1,2,3,4],[0,1,2,3,4,5],[0,1,2,3,4,5,6]]
def r106_7:List AOper:=[o 22 (.bin .add (.t 11) (i64 1)),
 o 11 (.mv (.t 22))]
def l106_0:ACode:=.seq (.reg r106_4) (.seq (.cond (.t 12) (.skip) (.exit 0)) (.seq (.block 1 (.seq (.reg r106_5) (.dreg r106_6 b106_6 [(1,4)]))) (.reg r106_7)))
def r106_8:List AOper:=[o 23 (.load (some 4) (.t 1)),
 oN (.store 4 (.t 2) (.t 23))]
def c106:ACode:=.seq (.reg r106_0) (.seq (.reg r106_1) (.seq (.reg r106_2) (.seq (.seq (.reg r106_3) (.block 0 (.loop l106_0))) (.seq (.reg r106_8) (.ret)))))
def a106:AFunc:=⟨1,24,[.cell 2 (some 4)],c106⟩
def r107_0:List AOper:=[o 1 (.box (.t 0)),
 o 2 (.alloc [zi,zi,zi,zi,.nils,zi,zi,zi,.nils])]
def r107_1:List AOper:=[o 3 (.faddr 0 (.t 1)),
 o 4 (.load none (.t 3)),
 o 5 (.faddr 1 (.t 1)),
 o 6 (.load (some 4) (.t 5)),
 o 7 (.call 106 [.t 6] .borrow),
 o 8 (.faddr 5 (.t 1)),
 o 9 (.load (some 4) (.t 8)),
 o 10 (.call 106 [.t 9] .borrow),
 o 11 (.build [zi,zi,zi,zi,.nils,zi,zi,zi,.nils] [(0,1,(.t 4)),(1,4,(.t 7)),(5,4,(.t 10))]),
 oN (.store 9 (.t 2) (.t 11))]
def b107_1:List (List Nat):=[[],[0],[],[2],[2,3],[],[5],[2,3,4,5,6],[0,1,2,3,4,5,6,7],[0,1,2,3,4,5,6,7,8]]
def c107:ACode:=.seq (.reg r107_0) (.seq (.dreg r107_1 b107_1 []) (.ret))
def a107:AFunc:=⟨1,12,[.cell 2 (some 9)],c107⟩
def r109_0:List AOper:=[o 1 (.box (.t 0)),
 o 2 (.alloc [zi,zi,zi,zi,.nils,zi,zi,zi,.nils])]
def r109_1:List AOper:=[o 4 (.load (some 9) (.t 1)),
 o 5 (.call 107 [.t 4] .borrow),
 o 3 (.alloc [zi,zi,zi,zi,.nils,zi,zi,zi,.nils]),
 oN (.store 9 (.t 3) (.t 5))]
def r109_2:List AOper:=[o 6 (.faddr 0 (.t 1)),
 o 7 (.load none (.t 6)),
 o 8 (.call 41 [.t 7] .borrow),
 o 9 (.faddr 0 (.t 3)),
 oN (.store 1 (.t 9) (.t 8))]
def r109_3:List AOper:=[o 10 (.load (some 9) (.t 3)),
 oN (.store 9 (.t 2) (.t 10))]
def c109:ACode:=.seq (.reg r109_0) (.seq (.reg r109_1) (.seq (.reg r109_2) (.seq (.reg r109_3) (.ret))))
def a109:AFunc:=⟨1,11,[.cell 2 (some 9)],c109⟩
def r136_0:List AOper:=[o 1 (.box (.t 0)),
 o 2 (.mv (.c (.nils))),
 o 3 (.mv (.c (.bool false)))]
def r136_1:List AOper:=[o 7 (.faddr 2 (.t 1)),
 o 8 (.load none (.t 7)),
 o 9 (.bin .eql (.t 8) (i64 0))]
def r136_2:List AOper:=[o 10 (.faddr 4 (.t 1)),
 o 11 (.load none (.t 10)),
 o 12 (.faddr 5 (.t 1)),
 o 13 (.load none (.t 12)),
 o 14 (.faddr 6 (.t 1)),
 o 15 (.load (some 4) (.t 14)),
 o 16 (.faddr 10 (.t 1)),
 o 17 (.load (some 9) (.t 16)),
 o 18 (.build [zi,zi,zi,zi,zi,zi,zi,.nils,zi,zi,zi,zi,.nils,zi,zi,zi,.nils,.nils,.nils,.nils] [(0,1,(i64 7)),(2,1,(.t 11)),(3,1,(.t 13)),(4,4,(.t 15)),(8,9,(.t 17))]),
 o 4 (.alloc [zi,zi,zi,zi,zi,zi,zi,.nils,zi,zi,zi,zi,.nils,zi,zi,zi,.nils,.nils,.nils,.nils]),
 oN (.store 20 (.t 4) (.t 18))]
def r136_3:List AOper:=[o 19 (.load (some 20) (.t 4)),
 ⟨some 20,.islice 1 [zi,zi,zi,zi,zi,zi,zi,.nils,zi,zi,zi,zi,.nils,zi,zi,zi,.nils,.nils,.nils,.nils] [(0,20,(.t 19))],none,true⟩,
 o 21 (.faddr 3 (.t 1)),
 o 22 (.load none (.t 21)),
 o 23 (.bin .eql (.t 22) (i64 0)),
 o 2 (.mv (.t 20)),
 o 3 (.mv (.t 23))]
def b136_3:List (List Nat):=[[],[0],[],[2],[2,3],[0,1],[0,1,2,3,4,5]]
def r136_4:List AOper:=[o 25 (.load (some 19) (.t 1)),
 o 26 (.call 163 [.t 25] .borrow),
 o 24 (.mv (.t 26)),
 o 27 (.ext 0 (.t 24)),
 o 28 (.ext 1 (.t 24)),
 o 5 (.alloc [zi,zi,zi,zi,zi,zi,zi,.nils,zi,zi,zi,zi,.nils,zi,zi,zi,.nils,.nils,.nils,.nils]),
 oN (.store 20 (.t 5) (.t 27)),
 o 6 (.mv (.t 28))]
def r136_5:List AOper:=[o 29 (.load (some 20) (.t 5)),
 ⟨some 30,.islice 1 [zi,zi,zi,zi,zi,zi,zi,.nils,zi,zi,zi,zi,.nils,zi,zi,zi,.nils,.nils,.nils,.nils] [(0,20,(.t 29))],none,true⟩,
 o 31 (.mv (.t 6)),
 o 2 (.mv (.t 30)),
 o 3 (.mv (.t 31))]
def c136:ACode:=.seq (.reg r136_0) (.seq (.seq (.reg r136_1) (.cond (.t 9) (.seq (.reg r136_2) (.seq (.dreg r136_3 b136_3 [(1,3)]) (.ret))) (.skip))) (.seq (.reg r136_4) (.seq (.reg r136_5) (.ret))))
def a136:AFunc:=⟨1,32,[.tmp 2,.tmp 3],c136⟩
def r137_0:List AOper:=[o 2 (.mv (.c (.nils)))]
def r137_1:List AOper:=[o 3 (.mv (.t 0)),
 o 4 (.eq .slice false (.t 3) (.c (.nils)))]
def r137_2:List AOper:=[o 2 (.mv (.c (.nils)))]
def r137_3:List AOper:=[o 5 (.islice 0 [] []),
 o 6 (.mv (.t 0)),
 o 7 (.app 2 32 (.t 5) (.t 6)),
 o 2 (.mv (.t 7))]
def c137:ACode:=.seq (.reg r137_0) (.seq (.seq (.reg r137_1) (.cond (.t 4) (.seq (.reg r137_2) (.ret)) (.skip))) (.seq (.reg r137_3) (.ret)))
def a137:AFunc:=⟨1,8,[.tmp 2],c137⟩
def r138_0:List AOper:=[o 2 (.mv (.c (.bool false)))]
def r138_1:List AOper:=[o 3 (.alloc [.bool false,.bool false,.bool false,.bool false])]
def r138_2:List AOper:=[o 6 (.mv (.t 0)),
 o 7 (.len false (.t 6)),
 o 8 (.mv (i64 0))]
def r138_3:List AOper:=[o 9 (.bin .lss (.t 8) (.t 7))]
def r138_4:List AOper:=[o 10 (.iaddr 19 (.t 6) (.t 8)),
 o 11 (.load (some 19) (.t 10)),
 o 5 (.alloc [zi,zi,zi,zi,zi,zi,zi,zi,zi,.nils,zi,zi,zi,zi,.nils,zi,zi,zi,.nils]),
 oN (.store 19 (.t 5) (.t 11))]
def r138_5:List AOper:=[o 12 (.faddr 2 (.t 5)),
 o 13 (.load none (.t 12)),
 o 14 (.bin .neq (.t 13) (i64 4)),
 o 15 (.mv (.t 14)),
 oF 16 15 (.faddr 4 (.t 5)),
 oF 17 15 (.load none (.t 16)),
 oF 18 15 (.mv (.t 0)),
 oF 19 15 (.iaddr 19 (.t 18) (i64 0)),
 oF 20 15 (.faddr 4 (.t 19)),
 oF 21 15 (.load none (.t 20)),
 oF 22 15 (.bin .neq (.t 17) (.t 21)),
 o 23 (.pick (.t 15) (.c (.bool true)) (.t 22)),
 o 24 (.mv (.t 23)),
 oF 25 24 (.faddr 5 (.t 5)),
 oF 26 24 (.load none (.t 25)),
 oF 27 24 (.iarr 4 1 (.t 3) (.t 26)),
 oF 28 24 (.load none (.t 27)),
 o 29 (.pick (.t 24) (.c (.bool true)) (.t 28))]
def b138_5:List (List Nat):=[[],[0],[0,1],[0,1,2],[0,1,2,3],[0,1,2,3,4],[0,1,2,3],[0,1,2,3,6],[0,1,2,3,6,7],[0,1,2,3,6,7,8],[0,1,2,3,4,5,6,7,8,9],[0,1,2,3,4,5,6,7,8,9,10],[0,1,2,3,4,5,6,7,8,9,10,11],[0,1,2,3,4,5,6,7,8,9,10,11,12],[0,1,2,3,4,5,6,7,8,9,10,11,12,13],[0,1,2,3,4,5,6,7,8,9,10,11,12,13,14],[0,1,2,3,4,5,6,7,8,9,10,11,12,13,14,15],[0,1,2,3,4,5,6,7,8,9,10,11,12,13,14,15,16]]
def r138_6:List AOper:=[o 2 (.mv (.c (.bool false)))]
def r138_7:List AOper:=[o 30 (.faddr 5 (.t 5)),
 o 31 (.load none (.t 30)),
 o 32 (.iarr 4 1 (.t 3) (.t 31)),
 oN (.store 1 (.t 32) (.c (.bool true)))]
def r138_8:List AOper:=[o 33 (.bin .add (.t 8) (i64 1)),
 o 8 (.mv (.t 33))]
def l138_0:ACode:=.seq (.reg r138_3) (.seq (.cond (.t 9) (.skip) (.exit 0)) (.seq (.block 1 (.seq (.reg r138_4) (.seq (.seq (.dreg r138_5 b138_5 []) (.cond (.t 29) (.seq (.reg r138_6) (.ret)) (.skip))) (.reg r138_7)))) (.reg r138_8)))
def r138_9:List AOper:=[o 2 (.mv (.c (.bool true)))]
def c138:ACode:=.seq (.reg r138_0) (.seq (.reg r138_1) (.seq (.seq (.reg r138_2) (.block 0 (.loop l138_0))) (.seq (.reg r138_9) (.ret))))
def a138:AFunc:=⟨1,34,[.tmp 2],c138⟩
def r139_0:List AOper:=[o 2 (.box (.t 0)),
 o 3 (.box (.t 1)),
 o 4 (.mv (.c (.bool false)))]
def r139_1:List AOper:=[o 6 (.faddr 10 (.t 2)),
 o 7 (.load (some 9) (.t 6)),
 o 8 (.call 109 [.t 7] .borrow),
 o 5 (.alloc [zi,zi,zi,zi,.nils,zi,zi,zi,.nils]),
 oN (.store 9 (.t 5) (.t 8))]
def r139_2:List AOper:=[o 9 (.faddr 2 (.t 2)),
 o 10 (.load none (.t 9)),
 o 11 (.bin .eql (.t 10) (i64 2)),
 o 12 (.mv (.t 11)),
 oT 13 12 (.faddr 2 (.t 3)),
 oT 14 12 (.load none (.t 13)),
 oT 15 12 (.bin .eql (.t 14) (i64 2)),
 o 16 (.pick (.t 12) (.t 15) (.c (.bool false))),
 o 17 (.mv (.t 16)),
 oT 18 17 (.faddr 0 (.t 5)),
 oT 19 17 (.load none (.t 18)),
 oT 20 17 (.faddr 10 (.t 3)),
 oT 21 17 (.faddr 0 (.t 20)),
 oT 22 17 (.load none (.t 21)),
 oT 23 17 (.bin .eql (.t 19) (.t 22)),
 o 24 (.pick (.t 17) (.t 23) (.c (.bool false))),
 o 25 (.mv (.t 24)),
 oT 26 25 (.faddr 1 (.t 5)),
 oT 27 25 (.load (some 4) (.t 26)),
 oT 28 25 (.faddr 10 (.t 3)),
 oT 29 25 (.faddr 1 (.t 28)),
 oT 30 25 (.load (some 4) (.t 29)),
 oT 31 25 (.call 164 [.t 27,.t 30] .borrow),
 o 32 (.pick (.t 25) (.t 31) (.c (.bool false))),
 o 33 (.mv (.t 32)),
 oT 34 33 (.faddr 5 (.t 5)),
 oT 35 33 (.load (some 4) (.t 34)),
 oT 36 33 (.faddr 10 (.t 3)),
 oT 37 33 (.faddr 5 (.t 36)),
 oT 38 33 (.load (some 4) (.t 37)),
 oT 39 33 (.call 164 [.t 35,.t 38] .borrow),
 o 40 (.pick (.t 33) (.t 39) (.c (.bool false))),
 o 4 (.mv (.t 40))]
def c139:ACode:=.seq (.reg r139_0) (.seq (.reg r139_1) (.seq (.reg r139_2) (.ret)))
def a139:AFunc:=⟨2,41,[.tmp 4],c139⟩
def r140_0:List AOper:=[o 4 (.mv (.c (.bool false)))]
def r140_1:List AOper:=[o 5 (.mv (.t 0)),
 o 6 (.mv (.t 1)),
 o 7 (.call 165 [.t 5,.t 6] .borrow),
 o 8 (.bin .geq (.t 7) (i64 0)),
 o 4 (.mv (.t 8))]
def c140:ACode:=.seq (.reg r140_0) (.seq (.reg r140_1) (.ret))
def a140:AFunc:=⟨2,9,[.tmp 4],c140⟩
def r141_0:List AOper:=[o 1 (.box (.t 0)),
 o 2 (.mv (.c (.bool false)))]
def r141_1:List AOper:=[o 3 (.faddr 0 (.t 1)),
 o 4 (.load none (.t 3)),
 o 5 (.bin .eql (.t 4) (i64 0)),
 o 6 (.mv (.t 5)),
 oT 7 6 (.faddr 1 (.t 1)),
 oT 8 6 (.load none (.t 7)),
 oT 9 6 (.bin .eql (.t 8) (i64 0)),
 o 10 (.pick (.t 6) (.t 9) (.c (.bool false))),
 o 11 (.mv (.t 10)),
 oT 12 11 (.faddr 2 (.t 1)),
 oT 13 11 (.load none (.t 12)),
 oT 14 11 (.bin .eql (.t 13) (i64 0)),
 o 15 (.pick (.t 11) (.t 14) (.c (.bool false))),
 o 16 (.mv (.t 15)),
 oT 17 16 (.faddr 3 (.t 1)),
 oT 18 16 (.load none (.t 17)),
 oT 19 16 (.len false (.t 18)),
 oT 20 16 (.bin .eql (.t 19) (i64 0)),
 o 21 (.pick (.t 16) (.t 20) (.c (.bool false))),
 o 2 (.mv (.t 21))]
def c141:ACode:=.seq (.reg r141_0) (.seq (.reg r141_1) (.ret))
def a141:AFunc:=⟨1,22,[.tmp 2],c141⟩
def r142_0:List AOper:=[o 1 (.box (.t 0)),
 o 2 (.mv (.c (.bool false)))]
def r142_1:List AOper:=[o 3 (.faddr 0 (.t 1)),
 o 4 (.load none (.t 3)),
 o 5 (.bin .eql (.t 4) (i64 0)),
 o 6 (.mv (.t 5)),
 oT 7 6 (.faddr 1 (.t 1)),
 oT 8 6 (.load (some 4) (.t 7)),
 oT 9 6 (.call 141 [.t 8] .borrow),
 o 10 (.pick (.t 6) (.t 9) (.c (.bool false))),
 o 11 (.mv (.t 10)),
 oT 12 11 (.faddr 5 (.t 1)),
 oT 13 11 (.load (some 4) (.t 12)),
 oT 14 11 (.call 141 [.t 13] .borrow),
 o 15 (.pick (.t 11) (.t 14) (.c (.bool false))),
 o 2 (.mv (.t 15))]
def c142:ACode:=.seq (.reg r142_0) (.seq (.reg r142_1) (.ret))
def a142:AFunc:=⟨1,16,[.tmp 2],c142⟩
def r143_0:List AOper:=[o 2 (.box (.t 0)),
 o 4 (.mv (.c (.bool false)))]
def r143_1:List AOper:=[o 7 (.faddr 3 (.t 2)),
 o 8 (.load none (.t 7)),
 o 9 (.len false (.t 8)),
 o 10 (.faddr 0 (.t 2)),
 o 11 (.load none (.t 10)),
 o 12 (.call 166 [.t 11] .borrow),
 o 13 (.bin .neq (.t 9) (.t 12))]
def b143_1:List (List Nat):=[[],[0],[0,1],[],[3],[3,4],[0,1,2,3,4,5]]
def r143_2:List AOper:=[o 4 (.mv (.c (.bool false)))]
def r143_3:List AOper:=[o 14 (.faddr 0 (.t 2)),
 o 15 (.load none (.t 14)),
 o 16 (.bin .neq (.t 15) (i64 1)),
 o 17 (.mv (.t 16)),
 oT 18 17 (.faddr 1 (.t 2)),
 oT 19 17 (.load none (.t 18)),
 oT 20 17 (.bin .neq (.t 19) (i64 0)),
 o 21 (.pick (.t 17) (.t 20) (.c (.bool false))),
 o 22 (.mv (.t 21)),
 oF 23 22 (.faddr 0 (.t 2)),
 oF 24 22 (.load none (.t 23)),
 oF 25 22 (.bin .neq (.t 24) (i64 2)),
 oF 26 22 (.mv (.t 25)),
 oT 27 26 (.faddr 2 (.t 2)),
 oT 28 26 (.load none (.t 27)),
 oT 29 26 (.bin .neq (.t 28) (i64 0)),
 oF 30 22 (.pick (.t 26) (.t 29) (.c (.bool false))),
 o 31 (.pick (.t 22) (.c (.bool true)) (.t 30)),
 o 32 (.mv (.t 31)),
 oF 33 32 (.faddr 0 (.t 2)),
 oF 34 32 (.load none (.t 33)),
 oF 35 32 (.bin .eql (.t 34) (i64 2)),
 oF 36 32 (.mv (.t 35)),
 oT 37 36 (.faddr 2 (.t 2)),
 oT 38 36 (.load none (.t 37)),
 oT 39 36 (.mv (.t 1)),
 oT 40 36 (.bin .sub (.t 39) (i64 1)),
 oT 41 36 (.call 81 [.t 38,(i64 0),.t 40] .borrow),
 oT 42 36 (.un .not (.t 41)),
 oF 43 32 (.pick (.t 36) (.t 42) (.c (.bool false))),
 o 44 (.pick (.t 32) (.c (.bool true)) (.t 43))]
def r143_4:List AOper:=[o 4 (.mv (.c (.bool false)))]
def r143_5:List AOper:=[o 45 (.faddr 3 (.t 2)),
 o 46 (.load none (.t 45)),
 o 47 (.len false (.t 46)),
 o 48 (.mv (i64 0))]
def r143_6:List AOper:=[o 49 (.bin .lss (.t 48) (.t 47))]
def r143_7:List AOper:=[o 50 (.iaddr 4 (.t 46) (.t 48)),
 o 51 (.load (some 4) (.t 50)),
 o 6 (.alloc [zi,zi,zi,.nils]),
 oN (.store 4 (.t 6) (.t 51))]
def r143_8:List AOper:=[o 52 (.load (some 4) (.t 6)),
 o 53 (.mv (.t 1)),
 o 54 (.call 143 [.t 52,.t 53] .borrow),
 o 55 (.un .not (.t 54))]
def r143_9:List AOper:=[o 4 (.mv (.c (.bool false)))]
def r143_10:List AOper:=[o 56 (.bin .add (.t 48) (i64 1)),
 o 48 (.mv (.t 56))]
def l143_0:ACode:=.seq (.reg r143_6) (.seq (.cond (.t 49) (.skip) (.exit 0)) (.seq (.block 1 (.seq (.reg r143_7) (.seq (.reg r143_8) (.cond (.t 55) (.seq (.reg r143_9) (.ret)) (.skip))))) (.reg r143_10)))
def r143_11:List AOper:=[o 57 (.faddr 1 (.t 2)),
 o 58 (.load none (.t 57)),
 o 59 (.call 81 [.t 58,(i64 0),(i64 2147483647)] .borrow),
 o 4 (.mv (.t 59))]
def c143:ACode:=.seq (.reg r143_0) (.seq (.seq (.dreg r143_1 b143_1 []) (.cond (.t 13) (.seq (.reg r143_2) (.ret)) (.skip))) (.seq (.seq (.reg r143_3) (.cond (.t 44) (.seq (.reg r143_4) (.ret)) (.skip))) (.seq (.seq (.reg r143_5) (.block 0 (.loop l143_0))) (.seq (.reg r143_11) (.ret)))))
def a143:AFunc:=⟨2,60,[.tmp 4],c143⟩
def r144_0:List AOper:=[o 2 (.box (.t 0)),
 o 4 (.mv (.c (.bool false)))]
def r144_1:List AOper:=[o 5 (.faddr 0 (.t 2)),
 o 6 (.load none (.t 5)),
 o 7 (.call 81 [.t 6,(i64 1),(i64 6)] .borrow),
 o 8 (.mv (.t 7)),
 oT 9 8 (.faddr 1 (.t 2)),
 oT 10 8 (.load (some 4) (.t 9)),
 oT 11 8 (.mv (.t 1)),
 oT 12 8 (.call 143 [.t 10,.t 11] .borrow),
 o 13 (.pick (.t 8) (.t 12) (.c (.bool false))),
 o 14 (.mv (.t 13)),
 oT 15 14 (.faddr 5 (.t 2)),
 oT 16 14 (.load (some 4) (.t 15)),
 oT 17 14 (.mv (.t 1)),
 oT 18 14 (.call 143 [.t 16,.t 17] .borrow),
 o 19 (.pick (.t 14) (.t 18) (.c (.bool false))),
 o 4 (.mv (.t 19))]
def c144:ACode:=.seq (.reg r144_0) (.seq (.reg r144_1) (.ret))
def a144:AFunc:=⟨2,20,[.tmp 4],c144⟩
def r145_0:List AOper:=[o 3 (.box (.t 0)),
 o 6 (.mv (.c (.bool false)))]
def r145_1:List AOper:=[o 7 (.mv (.t 1)),
 o 8 (.faddr 0 (.t 3)),
 o 9 (.faddr 0 (.t 8)),
 o 10 (.load none (.t 9)),
 o 11 (.len false (.t 10)),
 o 12 (.bin .sub (.t 11) (i64 1)),
 o 13 (.call 81 [.t 7,(i64 0),.t 12] .borrow),
 o 14 (.mv (.t 13)),
 oT 15 14 (.mv (.t 2)),
 oT 16 14 (.faddr 0 (.t 3)),
 oT 17 14 (.faddr 0 (.t 16)),
 oT 18 14 (.load none (.t 17)),
 oT 19 14 (.mv (.t 1)),
 oT 20 14 (.iaddr 6 (.t 18) (.t 19)),
 oT 21 14 (.load (some 6) (.t 20)),
 oT 22 14 (.callv (.t 15) [.t 21] .borrow),
 oT 23 14 (.faddr 2 (.t 3)),
 oT 24 14 (.load none (.t 23)),
 oT 25 14 (.bin .eql (.t 22) (.t 24)),
 o 26 (.pick (.t 14) (.t 25) (.c (.bool false))),
 o 6 (.mv (.t 26))]
def b145_1:List (List Nat):=[[],[],[1],[1,2],[1,2,3],[1,2,3,4],[0,1,2,3,4,5],[0,1,2,3,4,5,6],[0,1,2,3,4,5,6,7],[0,1,2,3,4,5,6,7],[0,1,2,3,4,5,6,7,9],[0,1,2,3,4,5,6,7,9,10],[0,1,2,3,4,5,6,7],[0,1,2,3,4,5,6,7,9,10,11,12],[0,1,2,3,4,5,6,7,9,10,11,12,13],[0,1,2,3,4,5,6,7,8,9,10,11,12,13,14],[0,1,2,3,4,5,6,7],[0,1,2,3,4,5,6,7,16],[0,1,2,3,4,5,6,7,8,9,10,11,12,13,14,15,16,17],[0,1,2,3,4,5,6,7,8,9,10,11,12,13,14,15,16,17,18],[0,1,2,3,4,5,6,7,8,9,10,11,12,13,14,15,16,17,18,19]]
def c145:ACode:=.seq (.reg r145_0) (.seq (.dreg r145_1 b145_1 []) (.ret))
def a145:AFunc:=⟨3,27,[.tmp 6],c145⟩
def r146_0:List AOper:=[o 1 (.box (.t 0)),
 o 2 (.mv (i64 0))]
def r146_1:List AOper:=[o 3 (.faddr 2 (.t 1)),
 o 4 (.load none (.t 3)),
 o 2 (.mv (.t 4))]
def c146:ACode:=.seq (.reg r146_0) (.seq (.reg r146_1) (.ret))
def a146:AFunc:=⟨1,5,[.tmp 2],c146⟩
def r147_0:List AOper:=[o 3 (.box (.t 0)),
 o 6 (.mv (.c (.bool false)))]
def r147_1:List AOper:=[o 7 (.mv (.t 2)),
 o 8 (.faddr 0 (.t 3)),
 o 9 (.faddr 0 (.t 8)),
 o 10 (.load none (.t 9)),
 o 11 (.mv (.t 1)),
 o 12 (.iaddr 6 (.t 10) (.t 11)),
 o 13 (.faddr 4 (.t 12)),
 o 14 (.load none (.t 13)),
 o 15 (.bin .sub (.t 14) (i64 1)),
 o 16 (.call 81 [.t 7,(i64 0),.t 15] .borrow),
 o 6 (.mv (.t 16))]
def c147:ACode:=.seq (.reg r147_0) (.seq (.reg r147_1) (.ret))
def a147:AFunc:=⟨3,17,[.tmp 6],c147⟩
def r148_0:List AOper:=[o 1 (.box (.t 0)),
 o 2 (.mv (i64 0))]
def r148_1:List AOper:=[o 3 (.faddr 3 (.t 1)),
 o 4 (.load none (.t 3)),
 o 2 (.mv (.t 4))]
def c148:ACode:=.seq (.reg r148_0) (.seq (.reg r148_1) (.ret))
def a148:AFunc:=⟨1,5,[.tmp 2],c148⟩
def r149_0:List AOper:=[o 3 (.box (.t 0)),
 o 6 (.mv (.c (.bool false)))]
def r149_1:List AOper:=[o 7 (.alloc [.bool false,.bool false,.bool false,.bool false])]
def r149_2:List AOper:=[o 10 (.mv (.t 2)),
 o 11 (.len false (.t 10)),
 o 12 (.mv (i64 0))]
def r149_3:List AOper:=[o 13 (.bin .lss (.t 12) (.t 11))]
def r149_4:List AOper:=[o 14 (.iaddr 3 (.t 10) (.t 12)),
 o 15 (.load (some 3) (.t 14)),
 o 9 (.alloc [zi,zi,.nils]),
 oN (.store 3 (.t 9) (.t 15))]
def r149_5:List AOper:=[o 16 (.load (some 4) (.t 3)),
 o 17 (.mv (.t 1)),
 o 18 (.faddr 0 (.t 9)),
 o 19 (.load none (.t 18)),
 o 20 (.call 147 [.t 16,.t 17,.t 19] .borrow),
 o 21 (.un .not (.t 20)),
 o 22 (.mv (.t 21)),
 oF 23 22 (.faddr 0 (.t 9)),
 oF 24 22 (.load none (.t 23)),
 oF 25 22 (.iarr 4 1 (.t 7) (.t 24)),
 oF 26 22 (.load none (.t 25)),
 o 27 (.pick (.t 22) (.c (.bool true)) (.t 26)),
 o 28 (.mv (.t 27)),
 oF 29 28 (.faddr 1 (.t 9)),
 oF 30 28 (.load none (.t 29)),
 oF 31 28 (.faddr 3 (.t 3)),
 oF 32 28 (.load none (.t 31)),
 oF 33 28 (.bin .sub (.t 32) (i64 1)),
 oF 34 28 (.call 81 [.t 30,(i64 0),.t 33] .borrow),
 oF 35 28 (.un .not (.t 34)),
 o 36 (.pick (.t 28) (.c (.bool true)) (.t 35)),
 o 37 (.mv (.t 36)),
 oF 38 37 (.load (some 4) (.t 3)),
 oF 39 37 (.faddr 2 (.t 9)),
 oF 40 37 (.load none (.t 39)),
 oF 41 37 (.call 83 [.t 38,.t 40] .borrow),
 oF 42 37 (.un .not (.t 41)),
 o 43 (.pick (.t 37) (.c (.bool true)) (.t 42))]
def r149_6:List AOper:=[o 6 (.mv (.c (.bool false)))]
def r149_7:List AOper:=[o 44 (.faddr 0 (.t 9)),
 o 45 (.load none (.t 44)),
 o 46 (.iarr 4 1 (.t 7) (.t 45)),
 oN (.store 1 (.t 46) (.c (.bool true)))]
def r149_8:List AOper:=[o 47 (.bin .add (.t 12) (i64 1)),
 o 12 (.mv (.t 47))]
def l149_0:ACode:=.seq (.reg r149_3) (.seq (.cond (.t 13) (.skip) (.exit 0)) (.seq (.block 1 (.seq (.reg r149_4) (.seq (.seq (.reg r149_5) (.cond (.t 43) (.seq (.reg r149_6) (.ret)) (.skip))) (.reg r149_7)))) (.reg r149_8)))
def r149_9:List AOper:=[o 48 (.mv (.t 2)),
 o 49 (.len false (.t 48)),
 o 50 (.bin .gtr (.t 49) (i64 0)),
 o 6 (.mv (.t 50))]
def c149:ACode:=.seq (.reg r149_0) (.seq (.reg r149_1) (.seq (.seq (.reg r149_2) (.block 0 (.loop l149_0))) (.seq (.reg r149_9) (.ret))))
def a149:AFunc:=⟨3,51,[.tmp 6],c149⟩
def r163_0:List AOper:=[o 1 (.box (.t 0)),
 o 2 (.alloc [zi,zi,zi,zi,zi,zi,zi,.nils,zi,zi,zi,zi,.nils,zi,zi,zi,.nils,.nils,.nils,.nils]),
 o 3 (.mv (.c (.bool false)))]
def r163_1:List AOper:=[o 5 (.faddr 3 (.t 1)),
 o 6 (.load none (.t 5)),
 o 7 (.faddr 4 (.t 1)),
 o 8 (.load none (.t 7)),
 o 9 (.faddr 5 (.t 1)),
 o 10 (.load none (.t 9)),
 o 11 (.faddr 6 (.t 1)),
 o 12 (.load (some 4) (.t 11)),
 o 13 (.faddr 10 (.t 1)),
 o 14 (.load (some 9) (.t 13)),
 o 15 (.build [zi,zi,zi,zi,zi,zi,zi,.nils,zi,zi,zi,zi,.nils,zi,zi,zi,.nils,.nils,.nils,.nils] [(1,1,(.t 6)),(2,1,(.t 8)),(3,1,(.t 10)),(4,4,(.t 12)),(8,9,(.t 14))]),
 o 4 (.alloc [zi,zi,zi,zi,zi,zi,zi,.nils,zi,zi,zi,zi,.nils,zi,zi,zi,.nils,.nils,.nils,.nils]),
 oN (.store 20 (.t 4) (.t 15))]
def r163_2:List AOper:=[o 16 (.faddr 2 (.t 1)),
 o 17 (.load none (.t 16))]
def r163_4:List AOper:=[o 20 (.bin .eql (.t 17) (i64 1)),
 o 19 (.mv (.t 20))]
def r163_5:List AOper:=[o 21 (.faddr 0 (.t 4)),
 oN (.store 1 (.t 21) (i64 1))]
def r163_6:List AOper:=[o 23 (.bin .eql (.t 17) (i64 2)),
 o 22 (.mv (.t 23))]
def r163_7:List AOper:=[o 24 (.bin .eql (.t 17) (i64 5)),
 o 22 (.mv (.t 24))]
def r163_8:List AOper:=[o 25 (.faddr 0 (.t 4)),
 oN (.store 1 (.t 25) (i64 6))]
def r163_9:List AOper:=[o 27 (.bin .eql (.t 17) (i64 3)),
 o 26 (.mv (.t 27))]
def r163_10:List AOper:=[o 28 (.faddr 0 (.t 4)),
 oN (.store 1 (.t 28) (i64 4))]
def r163_11:List AOper:=[o 30 (.bin .eql (.t 17) (i64 6)),
 o 29 (.mv (.t 30))]
def r163_12:List AOper:=[o 31 (.faddr 0 (.t 4)),
 oN (.store 1 (.t 31) (i64 7))]
def r163_13:List AOper:=[o 33 (.bin .eql (.t 17) (i64 4)),
 o 32 (.mv (.t 33))]
def r163_14:List AOper:=[o 34 (.faddr 0 (.t 4)),
 oN (.store 1 (.t 34) (i64 5))]
def r163_15:List AOper:=[o 35 (.faddr 5 (.t 1)),
 o 36 (.load none (.t 35)),
 o 37 (.faddr 3 (.t 1)),
 o 38 (.load none (.t 37)),
 o 39 (.build [zi,zi,.nils] [(0,1,(.t 36)),(1,1,(.t 38))]),
 ⟨some 40,.islice 1 [zi,zi,.nils] [(0,3,(.t 39))],none,true⟩,
 o 41 (.faddr 19 (.t 4)),
 oN (.store 1 (.t 41) (.t 40))]
def r163_16:List AOper:=[o 42 (.faddr 1 (.t 4)),
 oN (.store 1 (.t 42) (i64 0)),
 o 43 (.faddr 3 (.t 4)),
 oN (.store 1 (.t 43) (i64 0))]
def r163_3:List AOper:=[o 18 (.load (some 20) (.t 4)),
 oN (.store 20 (.t 2) (.t 18)),
 o 3 (.mv (.c (.bool false)))]
def r163_17:List AOper:=[o 44 (.load (some 20) (.t 4)),
 oN (.store 20 (.t 2) (.t 44)),
 o 3 (.mv (.c (.bool true)))]
def c163:ACode:=.seq (.reg r163_0) (.seq (.reg r163_1) (.seq (.seq (.reg r163_2) (.block 0 (.seq (.reg r163_4) (.cond (.t 19) (.reg r163_5) (.seq (.seq (.reg r163_6) (.cond (.t 22) (.skip) (.reg r163_7))) (.cond (.t 22) (.reg r163_8) (.seq (.reg r163_9) (.cond (.t 26) (.reg r163_10) (.seq (.reg r163_11) (.cond (.t 29) (.reg r163_12) (.seq (.reg r163_13) (.cond (.t 32) (.seq (.reg r163_14) (.seq (.reg r163_15) (.reg r163_16))) (.seq (.reg r163_3) (.ret)))))))))))))) (.seq (.reg r163_17) (.ret))))
def a163:AFunc:=⟨1,45,[.cell 2 (some 20),.tmp 3],c163⟩
def r164_0:List AOper:=[o 2 (.box (.t 0)),
 o 3 (.box (.t 1)),
 o 4 (.mv (.c (.bool false)))]
def r164_1:List AOper:=[o 5 (.faddr 0 (.t 2)),
 o 6 (.load none (.t 5)),
 o 7 (.faddr 0 (.t 3)),
 o 8 (.load none (.t 7)),
 o 9 (.bin .eql (.t 6) (.t 8)),
 o 10 (.mv (.t 9)),
 oT 11 10 (.faddr 1 (.t 2)),
 oT 12 10 (.load none (.t 11)),
 oT 13 10 (.faddr 1 (.t 3)),
 oT 14 10 (.load none (.t 13)),
 oT 15 10 (.bin .eql (.t 12) (.t 14)),
 o 16 (.pick (.t 10) (.t 15) (.c (.bool false))),
 o 17 (.mv (.t 16)),
 oT 18 17 (.faddr 2 (.t 2)),
 oT 19 17 (.load none (.t 18)),
 oT 20 17 (.faddr 2 (.t 3)),
 oT 21 17 (.load none (.t 20)),
 oT 22 17 (.bin .eql (.t 19) (.t 21)),
 o 23 (.pick (.t 17) (.t 22) (.c (.bool false))),
 o 24 (.mv (.t 23)),
 oT 25 24 (.faddr 3 (.t 2)),
 oT 26 24 (.load none (.t 25)),
 oT 27 24 (.faddr 3 (.t 3)),
 oT 28 24 (.load none (.t 27)),
 oT 29 24 (.call 169 [.t 26,.t 28,(.c (.func 164))] .borrow),
 o 30 (.pick (.t 24) (.t 29) (.c (.bool false))),
 o 4 (.mv (.t 30))]
def c164:ACode:=.seq (.reg r164_0) (.seq (.reg r164_1) (.ret))
def a164:AFunc:=⟨2,31,[.tmp 4],c164⟩
def r165_0:List AOper:=[o 4 (.mv (i64 0))]
def r165_1:List AOper:=[o 6 (.mv (.t 0)),
 o 7 (.len false (.t 6)),
 o 8 (.mv (i64 0))]
def r165_2:List AOper:=[o 9 (.bin .lss (.t 8) (.t 7))]
def r165_3:List AOper:=[o 10 (.mv (.t 8)),
 o 5 (.mv (.t 10))]
def r165_4:List AOper:=[o 11 (.mv (.t 1)),
 o 12 (.mv (.t 0)),
 o 13 (.mv (.t 5)),
 o 14 (.iaddr 1 (.t 12) (.t 13)),
 o 15 (.load none (.t 14)),
 o 16 (.bin .eql (.t 11) (.t 15))]
def r165_5:List AOper:=[o 17 (.mv (.t 5)),
 o 4 (.mv (.t 17))]
def r165_6:List AOper:=[o 18 (.bin .add (.t 8) (i64 1)),
 o 8 (.mv (.t 18))]
def l165_0:ACode:=.seq (.reg r165_2) (.seq (.cond (.t 9) (.skip) (.exit 0)) (.seq (.block 1 (.seq (.reg r165_3) (.seq (.reg r165_4) (.cond (.t 16) (.seq (.reg r165_5) (.ret)) (.skip))))) (.reg r165_6)))
def r165_7:List AOper:=[o 4 (.mv (i64 (-1)))]
def c165:ACode:=.seq (.reg r165_0) (.seq (.seq (.reg r165_1) (.block 0 (.loop l165_0))) (.seq (.reg r165_7) (.ret)))
def a165:AFunc:=⟨2,19,[.tmp 4],c165⟩
def r166_0:List AOper:=[o 2 (.mv (i64 0))]
def r166_1:List AOper:=[o 4 (.mv (.t 0)),
 o 5 (.bin .eql (.t 4) (i64 1)),
 o 6 (.mv (.t 5)),
 oF 7 6 (.mv (.t 0)),
 oF 8 6 (.bin .eql (.t 7) (i64 2)),
 o 9 (.pick (.t 6) (.c (.bool true)) (.t 8)),
 o 3 (.mv (.t 9))]
def r166_2:List AOper:=[o 2 (.mv (i64 0))]
def r166_3:List AOper:=[o 11 (.mv (.t 0)),
 o 12 (.bin .eql (.t 11) (i64 3)),
 o 10 (.mv (.t 12))]
def r166_4:List AOper:=[o 2 (.mv (i64 1))]
def r166_5:List AOper:=[o 14 (.mv (.t 0)),
 o 15 (.call 81 [.t 14,(i64 4),(i64 8)] .borrow),
 o 13 (.mv (.t 15))]
def r166_6:List AOper:=[o 2 (.mv (i64 2))]
def r166_7:List AOper:=[o 2 (.mv (i64 (-1)))]
def c166:ACode:=.seq (.reg r166_0) (.seq (.block 0 (.seq (.reg r166_1) (.cond (.t 3) (.seq (.reg r166_2) (.ret)) (.seq (.reg r166_3) (.cond (.t 10) (.seq (.reg r166_4) (.ret)) (.seq (.reg r166_5) (.cond (.t 13) (.seq (.reg r166_6) (.ret)) (.skip)))))))) (.seq (.reg r166_7) (.ret)))
def a166:AFunc:=⟨1,16,[.tmp 2],c166⟩
def r169_0:List AOper:=[o 6 (.mv (.c (.bool false)))]
def r169_1:List AOper:=[o 10 (.mv (.t 0)),
 o 11 (.len false (.t 10)),
 o 12 (.mv (.t 1)),
 o 13 (.len false (.t 12)),
 o 14 (.bin .neq (.t 11) (.t 13))]
def r169_2:List AOper:=[o 6 (.mv (.c (.bool false)))]
def r169_3:List AOper:=[o 15 (.mv (.t 0)),
 o 16 (.len false (.t 15)),
 o 17 (.mv (i64 0))]
def r169_4:List AOper:=[o 18 (.bin .lss (.t 17) (.t 16))]
def r169_5:List AOper:=[o 19 (.mv (.t 17)),
 o 20 (.iaddr 4 (.t 15) (.t 17)),
 o 21 (.load (some 4) (.t 20)),
 o 8 (.alloc [zi,zi,zi,.nils]),
 o 7 (.mv (.t 19)),
 oN (.store 4 (.t 8) (.t 21))]
def r169_6:List AOper:=[o 22 (.mv (.t 1)),
 o 23 (.mv (.t 7)),
 o 24 (.iaddr 4 (.t 22) (.t 23)),
 o 25 (.load (some 4) (.t 24)),
 o 9 (.alloc [zi,zi,zi,.nils]),
 oN (.store 4 (.t 9) (.t 25))]
def r169_7:List AOper:=[o 26 (.mv (.t 2)),
 o 27 (.load (some 4) (.t 8)),
 o 28 (.load (some 4) (.t 9)),
 o 29 (.callv (.t 26) [.t 27,.t 28] .borrow),
 o 30 (.un .not (.t 29))]
def r169_8:List AOper:=[o 6 (.mv (.c (.bool false)))]
def r169_9:List AOper:=[o 31 (.bin .add (.t 17) (i64 1)),
 o 17 (.mv (.t 31))]
def l169_0:ACode:=.seq (.reg r169_4) (.seq (.cond (.t 18) (.skip) (.exit 0)) (.seq (.block 1 (.seq (.reg r169_5) (.seq (.reg r169_6) (.seq (.reg r169_7) (.cond (.t 30) (.seq (.reg r169_8) (.ret)) (.skip)))))) (.reg r169_9)))
def r169_10:List AOper:=[o 6 (.mv (.c (.bool true)))]
def c169:ACode:=.seq (.reg r169_0) (.seq (.seq (.reg r169_1) (.cond (.t 14) (.seq (.reg r169_2) (.ret)) (.skip))) (.seq (.seq (.reg r169_3) (.block 0 (.loop l169_0))) (.seq (.reg r169_10) (.ret))))
def a169:AFunc:=⟨3,32,[.tmp 6],c169⟩
def prog:Map AFunc:=.node none (.node none (.node none (.node none (.node none (.node (some a31) (.leaf) (.leaf)) (.node none (.node (some a79) (.node (some a143) (.leaf) (.leaf)) (.leaf)) (.leaf))) (.leaf)) (.node none (.node none (.node none (.leaf) (.node (some a99) (.node (some a163) (.leaf) (.leaf)) (.leaf))) (.node none (.node (some a83) (.node (some a147) (.leaf) (.leaf)) (.leaf)) (.leaf))) (.node (some a27) (.node none (.node (some a75) (.node (some a139) (.leaf) (.leaf)) (.leaf)) (.node (some a107) (.leaf) (.leaf))) (.leaf)))) (.node none (.node none (.node none (.leaf) (.node none (.node (some a81) (.node (some a145) (.leaf) (.leaf)) (.leaf)) (.leaf))) (.node none (.node (some a41) (.node none (.node (some a137) (.leaf) (.leaf)) (.leaf)) (.node (some a105) (.node (some a169) (.leaf) (.leaf)) (.leaf))) (.node (some a57) (.leaf) (.leaf)))) (.node none (.node none (.node none (.leaf) (.node (some a101) (.node (some a165) (.leaf) (.leaf)) (.leaf))) (.node (some a53) (.node none (.node (some a149) (.leaf) (.leaf)) (.leaf)) (.leaf))) (.node (some a29) (.node none (.node (some a77) (.node (some a141) (.leaf) (.leaf)) (.leaf)) (.node (some a109) (.leaf) (.leaf))) (.leaf))))) (.node none (.node none (.node none (.node none (.leaf) (.node none (.node none (.node (some a144) (.leaf) (.leaf)) (.leaf)) (.leaf))) (.node none (.node none (.node none (.node (some a136) (.leaf) (.leaf)) (.leaf)) (.node (some a104) (.leaf) (.leaf))) (.node (some a56) (.leaf) (.leaf)))) (.node none (.node (some a20) (.node none (.leaf) (.node (some a100) (.node (some a164) (.leaf) (.leaf)) (.leaf))) (.node none (.node none (.node (some a148) (.leaf) (.leaf)) (.leaf)) (.leaf))) (.node (some a28) (.node none (.node (some a76) (.node (some a140) (.leaf) (.leaf)) (.leaf)) (.leaf)) (.node (some a60) (.leaf) (.leaf))))) (.node (some a6) (.node none (.node none (.leaf) (.node (some a50) (.node (some a82) (.node (some a146) (.leaf) (.leaf)) (.leaf)) (.leaf))) (.node (some a26) (.node none (.node (some a74) (.node (some a138) (.leaf) (.leaf)) (.leaf)) (.node (some a106) (.leaf) (.leaf))) (.leaf))) (.node none (.node (some a22) (.node none (.leaf) (.node (some a102) (.node (some a166) (.leaf) (.leaf)) (.leaf))) (.node (some a54) (.leaf) (.leaf))) (.node none (.node none (.node (some a78) (.node (some a142) (.leaf) (.leaf)) (.leaf)) (.leaf)) (.leaf)))))
end Go.Ax.TryLb
