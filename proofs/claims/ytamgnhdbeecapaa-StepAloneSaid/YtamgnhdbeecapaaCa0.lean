/- Part 0 of the proof: Ax0, Ax1. -/
import GoSem.Step
set_option linter.unusedSimpArgs false
set_option linter.unusedVariables false
noncomputable section
namespace Go.Ax
abbrev Ov:=@List.getElem?_eq_getElem
abbrev Ow:=@List.getElem?_eq_some_iff
abbrev Ox:=@List.getElem?_append_left
abbrev Oy:=@List.getElem?_append_right
abbrev Oz:=@List.getElem?_map
abbrev OA:=@List.getElem?_eq_none
abbrev OB:=@List.getElem?_take
abbrev OC:=@List.getElem?_drop
abbrev OD:=@List.mem_of_getElem?
abbrev OE:=@List.getElem_mem
abbrev OG:=@List.length_map
abbrev OH:=@List.length_append
abbrev OI:=@List.length_take
abbrev OJ:=@List.length_drop
abbrev OK:=@List.length_singleton
abbrev OL:=@List.length_cons
abbrev OM:=@List.length_set
abbrev ON:=@List.mem_cons_self
abbrev OO:=@List.mem_cons_of_mem
abbrev OP:=@List.mem_cons
abbrev OQ:=@List.mem_append
abbrev OS:=@List.mem_singleton
abbrev OT:=@List.mem_map
abbrev OU:=@List.all_eq_true
abbrev OV:=@Bool.and_eq_true
abbrev OW:=@Bool.or_eq_true
abbrev OX:=@Bool.not_eq_true'
abbrev OY:=@Nat.beq_eq
abbrev OZ:=@Nat.ble_eq
abbrev O0:=@Nat.blt_eq
abbrev O3:=@decide_eq_true_eq
abbrev O4:=@decide_eq_false_iff_not
abbrev O5:=@Nat.lt_of_lt_of_le
abbrev O6:=@List.length_eq_zero_iff
abbrev O7:=@List.take_of_length_le
abbrev O8:=@Option.some.inj
abbrev O9:=@Nat.le_trans
abbrev O_:=@Nat.zero_le
abbrev Pa:=@Nat.le_refl
inductive Map (α:Type) where
 |leaf
 |node (v:Option α) (l r:Map α)
namespace Map
variable {α:Type}
def get (m:Map α):Nat->Option α:=
 Map.rec (motive:=fun _=>Nat->Option α) (fun _=>none)
  (fun v _ _ l r i=>Bool.rec (Bool.rec (r (Nat.sub (Nat.div i 2) 1)) (l (Nat.div i 2)) (Nat.beq (Nat.mod i 2) 1)) v (Nat.beq i 0)) m
def one (v:Option α) (f:Nat):Nat->Map α:=
 Nat.rec (motive:=fun _=>Nat->Map α) (fun _=>.leaf)
  (fun _ ih i=>Bool.rec (Bool.rec (.node none .leaf (ih (Nat.sub (Nat.div i 2) 1))) (.node none (ih (Nat.div i 2)) .leaf) (Nat.beq (Nat.mod i 2) 1)) (.node v .leaf .leaf) (Nat.beq i 0)) f
def put (w:Option α) (m:Map α):Nat->Map α:=
 Map.rec (motive:=fun _=>Nat->Map α) (fun i=>one w (Nat.succ i) i)
  (fun v l0 r0 l r i=>Bool.rec (Bool.rec (.node v l0 (r (Nat.sub (Nat.div i 2) 1))) (.node v (l (Nat.div i 2)) r0) (Nat.beq (Nat.mod i 2) 1)) (.node w l0 r0) (Nat.beq i 0)) m
def upto (m:Map α):(Nat->Bool)->Map α:=
 Map.rec (motive:=fun _=>(Nat->Bool)->Map α) (fun _=>.leaf)
  (fun v _ _ l r p=>.node (Bool.rec none v (p 0)) (l fun k=>p (Nat.succ (Nat.mul 2 k))) (r fun k=>p (Nat.succ (Nat.succ (Nat.mul 2 k))))) m
def union (m:Map α):Map α->Map α:=
 Map.rec (motive:=fun _=>Map α->Map α) (fun m=>m)
  (fun v l0 r0 l r m=>match m with
   |.leaf=>.node v l0 r0
   |.node v' l' r'=>.node (match v with|some x=>some x|none=>v') (l l') (r r')) m
end Map
inductive AV where
 |bool (b:Bool)
 |int (k:IntKind) (n:Int)
 |str (s:ByteArray)
 |jm
 |ptr (id g off:Nat)
 |fj (cs:List AV) (off:Nat)
 |ak
 |b5 (cs:List AV) (n:Nat) (cap:Option Nat)
 |ref (id g off es len cap:Nat) (ex:Bool)
 |agg (cs:List AV)
 |dL (vs:List AV)
 |func (f:Nat)
 |j7 (id:Nat)
 deriving Inhabited
inductive dN where
 |row (g:Nat) (cells:List AV)
 |map (es:List (AV×AV))
 deriving Inhabited
abbrev av:=Map dN
abbrev Env:=Map AV
def c7:AV:=.dL []
def AV.flat:AV->Bool
 |.ref ..=>false
 |.ptr ..=>false
 |.j7 _=>false
 |.agg _=>false
 |.dL _=>false
 |_=>true
def bx {α:Type} (f:α->Bool) (l:List α):Bool:=List.rec (motive:=fun _=>Bool) true (fun x _ ih=>Bool.rec false ih (f x)) l
def AV.eJ:AV->Bool
 |.agg cs=>bx AV.flat cs
 |v=>v.flat
def AV.plain:AV->Bool
 |.dL vs=>bx AV.eJ vs
 |v=>v.eJ
def AV.Df:AV->Bool
 |.dL _=>true
 |_=>false
def AV.one:AV->Bool
 |.agg _=>false
 |.dL _=>false
 |_=>true
def AV.cells?:AV->Option (List AV)
 |.agg cs=>some cs
 |.dL _=>none
 |v=>some [v]
def cr {α β:Type} (f:α->Option β) (l:List α):Option (List β):=
 List.rec (motive:=fun _=>Option (List β)) (some [])
  (fun x _ ih=>match f x with
   |none=>none
   |some y=>match ih with
    |none=>none
    |some ys=>some (y::ys)) l
def first (cells:List AV):Nat->Option (List AV):=
 List.rec (motive:=fun _=>Nat->Option (List AV)) (fun n=>Bool.rec none (some []) (Nat.beq n 0))
  (fun x _ ih n=>Bool.rec (match ih (Nat.pred n) with|some l=>some (x::l)|none=>none) (some []) (Nat.beq n 0)) cells
def cut (cells:List AV):Nat->Nat->Option (List AV):=
 List.rec (motive:=fun _=>Nat->Nat->Option (List AV)) (fun off n=>Bool.rec none (first [] n) (Nat.beq off 0))
  (fun x xs ih off n=>Bool.rec (ih (Nat.pred off) n) (first (x::xs) n) (Nat.beq off 0)) cells
def ni (cs:List AV):List AV->Option (List AV):=
 List.rec (motive:=fun _=>List AV->Option (List AV)) (fun cells=>some cells)
  (fun y _ ih cells=>match cells with
   |[]=>none
   |_::xs=>match ih xs with
    |some l=>some (y::l)
    |none=>none) cs
def cO (cells:List AV):Nat->List AV->Option (List AV):=
 List.rec (motive:=fun _=>Nat->List AV->Option (List AV)) (fun off cs=>Bool.rec none (ni cs []) (Nat.beq off 0))
  (fun x xs ih off cs=>Bool.rec (match ih (Nat.pred off) cs with|some l=>some (x::l)|none=>none) (ni cs (x::xs)) (Nat.beq off 0)) cells
def rows (n:Nat) (zero:List AV):List AV:=(List.replicate n zero).flatten
def HJ (k:IntKind) (n:Int):Bool:=match n with
 |.ofNat m=>Nat.blt m (match k with|.i8=>128|.i16=>32768|.i32=>2147483648|.i64=>9223372036854775808|.u8=>256|.u16=>65536|.u32=>4294967296|.u64=>18446744073709551616)
 |.negSucc m=>Nat.blt m (match k with|.i8=>128|.i16=>32768|.i32=>2147483648|.i64=>9223372036854775808|_=>0)
def eY (k:IntKind) (n:Int):Int:=bif HJ k n then n else k.wrap n
def t_ (x y:Int):Bool:=match x,y with
 |.ofNat a,.ofNat b=>Nat.blt a b
 |.negSucc _,.ofNat _=>true
 |.ofNat _,.negSucc _=>false
 |.negSucc a,.negSucc b=>Nat.blt b a
def zm (x y:Int):Bool:=match x,y with
 |.ofNat a,.ofNat b=>Nat.beq a b
 |.negSucc a,.negSucc b=>Nat.beq a b
 |_,_=>false
def BK:IntKind->IntKind->Bool
 |.i8,.i8|.i16,.i16|.i32,.i32|.i64,.i64|.u8,.u8|.u16,.u16|.u32,.u32|.u64,.u64=>true
 |_,_=>false
def EZ (i:Int) (n:Nat):Option Nat:=match i with
 |.ofNat m=>bif Nat.blt m n then some m else none
 |.negSucc _=>none
def HM (i:Int) (n:Nat):Option Nat:=match i with
 |.ofNat m=>bif Nat.ble m n then some m else none
 |.negSucc _=>none
inductive iq where
 |int|bool|str
inductive yl where
 |one (l:iq)
 |slice
 |agg (ls:List iq)
def Dy (l:iq) (a b:AV):Option Bool:=match l with
 |.int=>match a with
  |.int k n=>match b with
   |.int k' m=>bif BK k k' then some (zm n m) else none
   |_=>none
  |_=>none
 |.bool=>match a with
  |.bool x=>match b with
   |.bool y=>some (x == y)
   |_=>none
  |_=>none
 |.str=>match a with
  |.str x=>match b with
   |.str y=>some (x == y)
   |_=>none
  |_=>none
def yj (ls:List iq):List AV->List AV->Option Bool:=
 List.rec (motive:=fun _=>List AV->List AV->Option Bool) (fun a b=>match a with|[]=>(match b with|[]=>some true|_::_=>none)|_::_=>none)
  (fun l _ ih a b=>match a with
   |[]=>none
   |x::xs=>match b with
    |[]=>none
    |y::ys=>match Dy l x y with
     |none=>none
     |some u=>match ih xs ys with
      |none=>none
      |some c=>some (u&&c)) ls
def Ea (t:yl) (x y:AV):Option Bool:=match t with
 |.one l=>Dy l x y
 |.agg ls=>match x with
  |.agg a=>match y with
   |.agg b=>yj ls a b
   |_=>none
  |_=>none
 |.slice=>match x with
  |.ak=>match y with
   |.ak=>some true
   |.b5 ..=>some false
   |.ref ..=>some false
   |_=>none
  |.b5 ..=>match y with
   |.ak=>some false
   |_=>none
  |.ref ..=>match y with
   |.ak=>some false
   |_=>none
  |_=>none
def aN (d:Nat):av->AV->Option AV:=
 Nat.rec (motive:=fun _=>av->AV->Option AV) (fun _ _=>none)
  (fun _ ih H v=>match v with
   |.ref id g off es len cap ex=>match H.get id with
    |some (.row g' cells)=>bif Nat.beq g' g then match cut cells off (Nat.mul len es) with
      |some cs=>match cr (ih H) cs with
       |some cs=>some (.b5 cs len (Bool.rec none (some cap) ex))
       |none=>none
      |none=>none
     else none
    |_=>none
   |.agg cs=>match cr (ih H) cs with
    |some cs=>some (.agg cs)
    |none=>none
   |.dL cs=>match cr (ih H) cs with
    |some cs=>some (.dL cs)
    |none=>none
   |.ptr ..=>none
   |.j7 _=>none
   |v=>some v) d
def bq (d:Nat):av->AV->List Nat:=
 Nat.rec (motive:=fun _=>av->AV->List Nat) (fun _ _=>[])
  (fun _ ih H v=>match v with
   |.ref id _ off es len _ _=>match H.get id with
    |some (.row _ cells)=>id::(match cut cells off (Nat.mul len es) with|some cs=>cs.flatMap (ih H)|none=>[])
    |_=>[id]
   |.agg cs=>cs.flatMap (ih H)
   |.dL cs=>cs.flatMap (ih H)
   |_=>[]) d
def own (d:Nat):av->AV->Bool:=
 Nat.rec (motive:=fun _=>av->AV->Bool) (fun _ _=>false)
  (fun _ ih H v=>match v with
   |.ref id _ off es len _ _=>match H.get id with
    |some (.row _ cells)=>match cut cells off (Nat.mul len es) with|some cs=>bx (ih H) cs|none=>false
    |_=>false
   |.agg cs=>bx (ih H) cs
   |.dL cs=>bx (ih H) cs
   |.b5 cs _ _=>match cs with|[]=>true|_::_=>false
   |.fj ..=>false
   |.ptr ..=>false
   |.j7 _=>false
   |_=>true) d
def deep:Nat:=30
inductive aH where
 |t (n:Nat)
 |c (v:AV)
 deriving Inhabited
inductive Mode where
 |share
 |borrow
inductive dR where
 |mv (x:aH)
 |pick (c a b:aH)
 |alloc (zero:List AV)
 |box (x:aH)
 |build (zero:List AV) (parts:List (Nat×Nat×aH))
 |eO (es len:Nat) (zero:List AV) (parts:List (Nat×Nat×aH))
 |aQ (len:Nat) (zero:List AV) (parts:List (Nat×Nat×aH))
 |load (sz:Option Nat) (a:aH)
 |store (sz:Nat) (a x:aH)
 |iT (x:aH)
 |bin (op:BinOp) (x y:aH)
 |eq (t:yl) (neg:Bool) (x y:aH)
 |un (op:UnOp) (x:aH)
 |conv (k:IntKind) (x:aH)
 |kF (es bytes:Nat) (zero:List AV) (n:aH)
 |j3 (x:aH) (lo hi:Option aH)
 |iX (es:Nat) (x:aH) (lo hi mx:Option aH)
 |iL (n es:Nat) (x:aH) (lo hi mx:Option aH)
 |gZ (off:Nat) (x:aH)
 |Bm (off:Nat) (sz:Option Nat) (x:aH)
 |bQ (es:Nat) (x i:aH)
 |kM (len es:Nat) (x i:aH)
 |idx (x i:aH)
 |ext (i:Nat) (x:aH)
 |app (es bytes:Nat) (s x:aH)
 |BM (es:Nat) (d s:aH)
 |Eb (es:Nat) (zero:List AV) (x:aH)
 |len (str:Bool) (x:aH)
 |yh (mx:Bool) (xs:List aH)
 |l9
 |l8 (t:yl) (zero:AV) (ok:Bool) (m k:aH)
 |vk (t:yl) (m k v:aH)
 |s9 (m:aH)
 |call (f:Nat) (args:List aH) (m:Mode)
 |cM (f:aH) (args:List aH) (m:Mode)
 deriving Inhabited
structure ax where
 dst:Option Nat
 op:dR
 gd:Option (Nat×Bool)
 fz:Bool
 deriving Inhabited
abbrev o (d:Nat) (op:dR):ax:=⟨some d,op,none,false⟩
abbrev i64 (n:Int):aH:=.c (.int .i64 n)
inductive bY where
 |skip
 |aa (ops:List ax)
 |aT (ops:List ax) (ahead:List (List Nat)) (pairs:List (Nat×Nat))
 |seq (a b:bY)
 |cond (c:aH) (a b:bY)
 |block (id:Nat) (c:bY)
 |loop (c:bY)
 |exit (id:Nat)
 |ret
 deriving Inhabited
inductive pg where
 |tmp (t:Nat)
 |cell (t:Nat) (sz:Option Nat)
structure aq where
 params:Nat
 nt:Nat
 res:List pg
 body:bY
structure ye where
 id:Nat
 g:Nat
 off:Nat
 len:Nat
structure Out where
 val:Nat->AV
 obj:Option dN
 new:Option dN
inductive aP where
 |val (v:AV)
 |new (val:Nat->AV) (o:dN)
 |look (q:Option ye) (u:Option Nat) (k:List AV->Option dN->Option Out)
abbrev di (v:AV):aP:=.val v
def dG (v:Option AV):Option aP:=match v with|some v=>some (.val v)|none=>none
abbrev C3 (val:Nat->AV) (o:dN):aP:=.new val o
def oh (g:Nat) (k:List AV->Option Out):Option dN->Option Out
 |some (.row g' cells)=>bif Nat.beq g' g then k cells else none
 |_=>none
def most:Nat:=70368744177664
def z6 (sz:Option Nat) (cs:List AV):Option AV:=match sz with
 |none=>match cs with|[v]=>some v|_=>none
 |some _=>some (.agg cs)
def fill (ρ:aH->AV) (parts:List (Nat×Nat×aH)):List AV->Option (List AV):=
 List.rec (motive:=fun _=>List AV->Option (List AV)) (fun cells=>some cells)
  (fun p _ ih cells=>match (ρ p.2.2).cells? with
   |none=>none
   |some cs=>bif Nat.beq cs.length p.2.1 then match cO cells p.1 cs with
     |some cells=>ih cells
     |none=>none
    else none) parts
def yE (op:BinOp) (k:IntKind) (x y:Int):Option AV:=
 bif t_ y 0 then none else match op with
  |.shl=>some (.int k (k.wrap (x*2 ^ min y.toNat k.bits)))
  |.shr=>some (.int k (x.fdiv (2 ^ min y.toNat k.bits)))
  |_=>none
def Di (op:BinOp) (k:IntKind) (x y:Int):Option AV:=
 match op with
 |.add=>some (.int k (eY k (x+y)))
 |.sub=>some (.int k (eY k (x - y)))
 |.mul=>some (.int k (eY k (x*y)))
 |.quo=>bif zm y 0 then none else some (.int k (eY k (x.tdiv y)))
 |.rem=>bif zm y 0 then none else some (.int k (x.tmod y))
 |.and=>some (.int k (k.wrap (BitVec.ofInt k.bits x&&& BitVec.ofInt k.bits y).toNat))
 |.or=>some (.int k (k.wrap (BitVec.ofInt k.bits x||| BitVec.ofInt k.bits y).toNat))
 |.xor=>some (.int k (k.wrap (BitVec.ofInt k.bits x ^^^ BitVec.ofInt k.bits y).toNat))
 |.andNot=>some (.int k (k.wrap (BitVec.ofInt k.bits x&&& ~~~BitVec.ofInt k.bits y).toNat))
 |.eql=>some (.bool (zm x y))
 |.neq=>some (.bool !(zm x y))
 |.lss=>some (.bool (t_ x y))
 |.leq=>some (.bool !(t_ y x))
 |.gtr=>some (.bool (t_ y x))
 |.geq=>some (.bool !(t_ x y))
 |.shl=>none
 |.shr=>none
def Ih (op:BinOp) (x y:ByteArray):Option AV:=
 match op with
 |.add=>bif Nat.ble (x.size+y.size) most then some (.str (x++y)) else none
 |.eql=>some (.bool (x.toList == y.toList))
 |.neq=>some (.bool !(x.toList == y.toList))
 |.lss=>some (.bool (Op.bytesLess x.toList y.toList))
 |.leq=>some (.bool (Op.bytesLess x.toList y.toList||x.toList == y.toList))
 |.gtr=>some (.bool !(Op.bytesLess x.toList y.toList||x.toList == y.toList))
 |.geq=>some (.bool !(Op.bytesLess x.toList y.toList))
 |_=>none
def ya (op:BinOp) (x y:AV):Option AV:=match x with
 |.int k a=>match y with
  |.int k' b=>match op with
   |.shl=>yE .shl k a b
   |.shr=>yE .shr k a b
   |op=>bif BK k k' then Di op k a b else none
  |_=>none
 |.str a=>match y with
  |.str b=>Ih op a b
  |_=>none
 |_=>none
def F7 (op:UnOp) (x:AV):Option AV:=match op with
 |.neg=>match x with|.int k n=>some (.int k (eY k (0 - n)))|_=>none
 |.not=>match x with|.bool b=>some (.bool !b)|_=>none
 |.xor=>match x with|.int k n=>Di .xor k (if k.signed then -1 else k.max) n|_=>none
 |.plus=>none
def HI (mx:Bool):AV->List AV->Option AV
 |v,[]=>some v
 |.int k a,.int _ b::rest=>HI mx (.int k (match mx with|true=>(bif t_ a b then b else a)|false=>(bif t_ b a then b else a))) rest
 |_,_=>none
def AF (ρ:aH->AV) (x:Option aH) (other y:Nat):Option Nat:=match x with
 |none=>some other
 |some o=>match ρ o with
  |.int _ i=>HM i y
  |_=>none
def jg (ρ:aH->AV) (lo hi mx:Option aH) (len cap:Nat):Option (Nat×Nat×Nat):=match AF ρ mx cap cap with
 |none=>none
 |some m=>match AF ρ hi len m with
  |none=>none
  |some h=>match AF ρ lo 0 h with
   |none=>none
   |some l=>some (l,h,m)
inductive Src where
 |list (cs:List AV)
 |qf (r:ye)
def cQ (es:Nat):AV->Option (Nat×Src)
 |.ak=>some (0,.list [])
 |.b5 cs n _=>bif Nat.beq (Nat.mul n es) cs.length then some (n,.list cs) else none
 |.ref id g off es' len _ _=>bif Nat.beq es' es then some (len,.qf ⟨id,g,off,Nat.mul len es⟩) else none
 |_=>none
def Src.q:Src->Option ye
 |.qf r=>some r
 |.list _=>none
def Src.cs:Src->List AV->List AV
 |.list cs,_=>cs
 |.qf _,a=>a
def vo:AV->Bool
 |.ak=>true
 |.b5 ..=>true
 |.ref ..=>true
 |_=>false
def sQ (es:Nat) (id g off len cap:Nat) (ex:Bool) (m:Nat) (src:Src):aP:=
 bif Nat.ble (Nat.add len m) cap then
  .look src.q (some id) (fun a=>oh g fun cells=>match cO cells (Nat.add off (Nat.mul len es)) (src.cs a) with
   |some cells'=>some ⟨fun _=>.ref id g off es (Nat.add len m) cap ex,some (.row g cells'),none⟩
   |none=>none)
 else bif ex then
  .look src.q (some id) (fun a=>oh g fun cells=>match cut cells off (Nat.mul len es) with
   |some cs=>some ⟨fun id=>.ref id 0 0 es (Nat.add len m) (Nat.add len m) false,none,some (.row 0 (cs++src.cs a))⟩
   |none=>none)
 else
  .look src.q (some id) (fun a=>oh g fun cells=>bif Nat.beq (Nat.add off (Nat.mul len es)) cells.length then
    some ⟨fun _=>.ref id (Nat.succ g) 0 es (Nat.add len m) (Nat.add len m) false,some (.row (Nat.succ g) (cells.drop off++src.cs a)),none⟩
   else none)
def lW (es bytes:Nat) (s x:AV):Option aP:=match cQ es x with
 |none=>none
 |some (m,src)=>bif Nat.beq m 0 then (bif vo s then some (di s) else none) else
  match s with
  |.ak=>bif Nat.ble (Nat.mul m bytes) most&&Nat.ble m most then
    some (.look src.q none fun a _=>some ⟨fun id=>.ref id 0 0 es m m false,none,some (.row 0 (src.cs a))⟩) else none
  |.b5 cs n (some c)=>bif Nat.blt c (Nat.add n m)&&Nat.beq (Nat.mul n es) cs.length&&Nat.ble (Nat.mul (Nat.add n m) bytes) most&&Nat.ble (Nat.add n m) most then
    some (.look src.q none fun a _=>some ⟨fun id=>.ref id 0 0 es (Nat.add n m) (Nat.add n m) false,none,some (.row 0 (cs++src.cs a))⟩) else none
  |.ref id g off es' len cap ex=>bif Nat.beq es' es&&Nat.ble (Nat.mul (Nat.add len m) bytes) most&&Nat.ble (Nat.add len m) most then
    some (sQ es id g off len cap ex m src) else none
  |_=>none
def xS (es:Nat) (d s:AV):Option aP:=match cQ es s with
 |none=>none
 |some (m,src)=>match d with
  |.ak=>some (di (.int .i64 0))
  |.ref id g off es' len _ _=>bif Nat.beq es' es then
    some (.look src.q (some id) fun a=>oh g fun cells=>match first (src.cs a) (Nat.mul (min m len) es) with
     |some cs=>match cO cells off cs with
      |some cells'=>some ⟨fun _=>.int .i64 (min m len),some (.row g cells'),none⟩
      |none=>none
     |none=>none) else none
  |_=>none
def yD (es:Nat) (ρ:aH->AV) (x:AV) (lo hi mx:Option aH):Option AV:=match x with
 |.ak=>match jg ρ lo hi mx 0 0 with
  |none=>none
  |some _=>some .ak
 |.b5 cs n cap=>bif Nat.beq (Nat.mul n es) cs.length then match jg ρ lo hi mx n n with
  |none=>none
  |some (l,h,m)=>match cut cs (Nat.mul l es) (Nat.mul (Nat.sub h l) es) with
   |some cs'=>some (.b5 cs' (Nat.sub h l) (match mx with|some _=>some (Nat.sub m l)|none=>match cap with|some c=>some (Nat.sub c l)|none=>none))
   |none=>none
  else none
 |.ref id g off es' len cap ex=>bif Nat.beq es' es then match jg ρ lo hi mx len cap with
  |none=>none
  |some (l,h,m)=>some (.ref id g (Nat.add off (Nat.mul l es)) es (Nat.sub h l) (Nat.sub m l) (match mx with|some _=>true|none=>ex))
  else none
 |_=>none
def FY (t:yl) (k:AV) (es:List (AV×AV)):Nat->Option (Option (Nat×AV)):=
 List.rec (motive:=fun _=>Nat->Option (Option (Nat×AV))) (fun _=>some none)
  (fun p _ ih i=>match Ea t k p.1 with
   |none=>none
   |some true=>some (some (i,p.2))
   |some false=>ih (Nat.succ i)) es
def bW (sz:Option Nat):Nat:=match sz with|none=>1|some n=>n
section
variable (ρ:aH->AV)
def ng (c a b:aH):Option aP:=match ρ c with
 |.bool t=>match t with
  |true=>some (di (ρ a))
  |false=>some (di (ρ b))
 |_=>none
def wU (x:aH):Option aP:=match (ρ x).cells? with
 |some cs=>some (C3 (fun id=>.ptr id 0 0) (.row 0 cs))
 |none=>none
def jN (zero:List AV) (parts:List (Nat×Nat×aH)):Option aP:=match fill ρ parts zero with
 |some cs=>some (di (.agg cs))
 |none=>none
def iQ (es len:Nat) (zero:List AV) (parts:List (Nat×Nat×aH)):Option aP:=match fill ρ parts zero with
 |some cs=>some (C3 (fun id=>.ref id 0 0 es len len false) (.row 0 cs))
 |none=>none
def c5 (len:Nat) (zero:List AV) (parts:List (Nat×Nat×aH)):Option aP:=match fill ρ parts zero with
 |some cs=>bif bx AV.flat cs then some (di (.b5 cs len (some len))) else none
 |none=>none
def iP (sz:Option Nat) (a:aH):Option aP:=match ρ a with
 |.ptr id g off=>some (.look (some ⟨id,g,off,bW sz⟩) none fun cs _=>match z6 sz cs with|some v=>some ⟨fun _=>v,none,none⟩|none=>none)
 |.fj cs off=>match cut cs off (bW sz) with
  |some cs=>dG (z6 sz cs)
  |none=>none
 |_=>none
def i_ (sz:Nat) (a x:aH):Option aP:=match ρ a with
 |.ptr id g off=>match (ρ x).cells? with
  |some cs=>bif Nat.beq cs.length sz then
    some (.look none (some id) fun _=>oh g fun cells=>match cO cells off cs with
     |some cells'=>some ⟨fun _=>c7,some (.row g cells'),none⟩
     |none=>none) else none
  |none=>none
 |_=>none
def gM (x:aH):Option aP:=match ρ x with
 |.ptr id g off=>some (di (.ptr id g off))
 |.fj cs off=>some (di (.fj cs off))
 |.func f=>some (di (.func f))
 |_=>none
def CP (t:yl) (neg:Bool) (x y:aH):Option aP:=match Ea t (ρ x) (ρ y) with
 |some b=>some (di (.bool (match neg with|true=>!b|false=>b)))
 |none=>none
def pE (k:IntKind) (x:aH):Option aP:=match ρ x with
 |.int _ n=>some (di (.int k (eY k n)))
 |_=>none
def pz (es bytes:Nat) (zero:List AV) (n:aH):Option aP:=match ρ n with
 |.int k m=>match HM m most with
  |some m=>bif BK k .i64&&Nat.ble (Nat.mul m bytes) most then some (C3 (fun id=>.ref id 0 0 es m m false) (.row 0 (rows m zero))) else none
  |none=>none
 |_=>none
def kr (x:aH) (lo hi:Option aH):Option aP:=match ρ x with
 |.str s=>match jg ρ lo hi none s.size s.size with
  |none=>none
  |some (l,h,_)=>some (di (.str (s.extract l h)))
 |_=>none
def ja (n es:Nat) (x:aH) (lo hi mx:Option aH):Option aP:=match ρ x with
 |.ptr id g off=>match jg ρ lo hi mx n n with
  |none=>none
  |some (l,h,m)=>some (.look (some ⟨id,g,off,Nat.mul n es⟩) none fun _ _=>some ⟨fun _=>.ref id g (Nat.add off (Nat.mul l es)) es (Nat.sub h l) (Nat.sub m l) true,none,none⟩)
 |_=>none
def gb (off:Nat) (x:aH):Option aP:=match ρ x with
 |.ptr id g o=>some (di (.ptr id g (Nat.add o off)))
 |.fj cs o=>some (di (.fj cs (Nat.add o off)))
 |_=>none
def wS (off:Nat) (sz:Option Nat) (x:aH):Option aP:=match ρ x with
 |.agg cs=>match cut cs off (bW sz) with
  |some cs=>dG (z6 sz cs)
  |none=>none
 |_=>none
def gN (es:Nat) (x i:aH):Option aP:=match ρ i with
 |.int _ i=>match ρ x with
  |.b5 cs n _=>match EZ i n with
   |some i=>match cs with
    |[]=>none
    |_::_=>some (di (.fj cs (Nat.mul i es)))
   |none=>none
  |.ref id g off es' len _ _=>bif Nat.beq es' es then match EZ i len with
   |some i=>some (di (.ptr id g (Nat.add off (Nat.mul i es))))
   |none=>none
   else none
  |_=>none
 |_=>none
def ku (len es:Nat) (x i:aH):Option aP:=match ρ i with
 |.int _ i=>match EZ i len with
  |some i=>match ρ x with
   |.ptr id g o=>some (di (.ptr id g (Nat.add o (Nat.mul i es))))
   |.fj cs o=>some (di (.fj cs (Nat.add o (Nat.mul i es))))
   |_=>none
  |none=>none
 |_=>none
def wR (x i:aH):Option aP:=match ρ x with
 |.str s=>match ρ i with
  |.int _ (.ofNat i)=>match s[i]? with
   |some b=>some (di (.int .u8 b.toNat))
   |none=>none
  |_=>none
 |_=>none
def wT (i:Nat) (x:aH):Option aP:=match ρ x with
 |.dL vs=>dG vs[i]?
 |_=>none
def EI (es:Nat) (zero:List AV) (x:aH):Option aP:=match ρ x with
 |.ak=>some (di c7)
 |.ref id g off es' len _ _=>bif Nat.beq es' es then
   some (.look none (some id) fun _=>oh g fun cells=>match cO cells off (rows len zero) with
    |some cells'=>some ⟨fun _=>c7,some (.row g cells'),none⟩
    |none=>none) else none
 |_=>none
def jb (str:Bool) (x:aH):Option aP:=match str with
 |true=>match ρ x with
  |.str s=>some (di (.int .i64 s.size))
  |_=>none
 |false=>match ρ x with
  |.ak=>some (di (.int .i64 0))
  |.b5 _ n _=>some (di (.int .i64 n))
  |.ref _ _ _ _ len _ _=>some (di (.int .i64 len))
  |_=>none
def vg (mx:Bool) (xs:List aH):Option aP:=match xs.map ρ with
 |v::vs=>dG (HI mx v vs)
 |[]=>none
def GK (k:List (AV×AV)->Option Out):Option dN->Option Out
 |some (.map es)=>k es
 |_=>none
def CO (t:yl) (zero:AV) (ok:Bool) (m k:aH):Option aP:=bif (ρ k).Df then none else match ρ m with
 |.j7 id=>some (.look none (some id) fun _=>GK fun es=>match FY t (ρ k) es 0 with
  |none=>none
  |some none=>some ⟨fun _=>match ok with|true=>.dL [zero,.bool false]|false=>zero,none,none⟩
  |some (some (_,v))=>some ⟨fun _=>match ok with|true=>.dL [v,.bool true]|false=>v,none,none⟩)
 |_=>none
def FQ (t:yl) (m k v:aH):Option aP:=bif (ρ k).Df||(ρ v).Df then none else match ρ m with
 |.j7 id=>some (.look none (some id) fun _=>GK fun es=>match FY t (ρ k) es 0 with
  |none=>none
  |some none=>some ⟨fun _=>c7,some (.map (es++[(ρ k,ρ v)])),none⟩
  |some (some (i,_))=>some ⟨fun _=>c7,some (.map (es.set i (ρ k,ρ v))),none⟩)
 |_=>none
def FR (m:aH):Option aP:=match ρ m with
 |.j7 id=>some (.look none (some id) fun _=>GK fun es=>some ⟨fun _=>.int .i64 es.length,none,none⟩)
 |_=>none
end
inductive Ou where
 |plan (p:(aH->AV)->Option aP)
 |call (f:Nat) (args:List aH) (m:Mode)
 |cM (f:aH) (args:List aH) (m:Mode)
def kind (op:dR):Ou:=match op with
 |.mv x=>.plan fun ρ=>some (di (ρ x))
 |.pick c a b=>.plan fun ρ=>ng ρ c a b
 |.alloc zero=>.plan fun _=>some (C3 (fun id=>.ptr id 0 0) (.row 0 zero))
 |.box x=>.plan fun ρ=>wU ρ x
 |.build zero parts=>.plan fun ρ=>jN ρ zero parts
 |.eO es len zero parts=>.plan fun ρ=>iQ ρ es len zero parts
 |.aQ len zero parts=>.plan fun ρ=>c5 ρ len zero parts
 |.load sz a=>.plan fun ρ=>iP ρ sz a
 |.store sz a x=>.plan fun ρ=>i_ ρ sz a x
 |.iT x=>.plan fun ρ=>gM ρ x
 |.bin op x y=>.plan fun ρ=>dG (ya op (ρ x) (ρ y))
 |.eq t neg x y=>.plan fun ρ=>CP ρ t neg x y
 |.un op x=>.plan fun ρ=>dG (F7 op (ρ x))
 |.conv k x=>.plan fun ρ=>pE ρ k x
 |.kF es bytes zero n=>.plan fun ρ=>pz ρ es bytes zero n
 |.j3 x lo hi=>.plan fun ρ=>kr ρ x lo hi
 |.iX es x lo hi mx=>.plan fun ρ=>dG (yD es ρ (ρ x) lo hi mx)
 |.iL n es x lo hi mx=>.plan fun ρ=>ja ρ n es x lo hi mx
 |.gZ off x=>.plan fun ρ=>gb ρ off x
 |.Bm off sz x=>.plan fun ρ=>wS ρ off sz x
 |.bQ es x i=>.plan fun ρ=>gN ρ es x i
 |.kM len es x i=>.plan fun ρ=>ku ρ len es x i
 |.idx x i=>.plan fun ρ=>wR ρ x i
 |.ext i x=>.plan fun ρ=>wT ρ i x
 |.app es bytes s x=>.plan fun ρ=>lW es bytes (ρ s) (ρ x)
 |.BM es d s=>.plan fun ρ=>xS es (ρ d) (ρ s)
 |.Eb es zero x=>.plan fun ρ=>EI ρ es zero x
 |.len str x=>.plan fun ρ=>jb ρ str x
 |.yh mx xs=>.plan fun ρ=>vg ρ mx xs
 |.l9=>.plan fun _=>some (C3 (fun id=>.j7 id) (.map []))
 |.l8 t zero ok m k=>.plan fun ρ=>CO ρ t zero ok m k
 |.vk t m k v=>.plan fun ρ=>FQ ρ t m k v
 |.s9 m=>.plan fun ρ=>FR ρ m
 |.call f args m=>.call f args m
 |.cM f args m=>.cM f args m
def cK (H:av):Option ye->Option (List AV)
 |none=>some []
 |some r=>match H.get r.id with
  |some (.row g cells)=>bif Nat.beq g r.g then cut cells r.off r.len else none
  |_=>none
def fI (H:av):Option Nat->Option (Option dN)
 |none=>some none
 |some id=>match H.get id with
  |some o=>some (some o)
  |none=>none
def od (H:av) (u:Option Nat) (ob:Option dN):av:=match ob with
 |none=>H
 |some ob=>match u with
  |some id=>H.put (some ob) id
  |none=>H
def dO (q:Option ye) (u:Option Nat) (k:List AV->Option dN->Option Out) (H:av) (nx:Nat):Option (AV×av×Nat):=match cK H q with
 |none=>none
 |some a=>match fI H u with
  |none=>none
  |some o=>match k a o with
   |none=>none
   |some out=>match out.new with
    |some ob=>some (out.val nx,(od H u out.obj).put (some ob) nx,Nat.succ nx)
    |none=>some (out.val nx,od H u out.obj,nx)
def bO (p:aP) (H:av) (nx:Nat):Option (AV×av×Nat):=match p with
 |.val v=>some (v,H,nx)
 |.new f o=>some (f nx,H.put (some o) nx,Nat.succ nx)
 |.look q u k=>dO q u k H nx
def ev (e:Env):aH->AV
 |.t n=>match e.get n with|some v=>v|none=>c7
 |.c v=>v
def dR.b8:dR->List aH
 |.mv x|.box x|.load _ x|.iT x|.un _ x|.conv _ x|.kF _ _ _ x|.gZ _ x|.Bm _ _ x|.ext _ x|.Eb _ _ x|.len _ x|.s9 x=>[x]
 |.pick c a b=>[c,a,b]
 |.alloc _|.l9=>[]
 |.build _ ps|.eO _ _ _ ps|.aQ _ _ ps=>ps.map (·.2.2)
 |.store _ a x|.bin _ a x|.eq _ _ a x|.bQ _ a x|.kM _ _ a x|.idx a x|.app _ _ a x|.BM _ a x|.l8 _ _ _ a x=>[a,x]
 |.j3 x l h=>x::(l.toList++h.toList)
 |.iX _ x l h m|.iL _ _ x l h m=>x::(l.toList++h.toList++m.toList)
 |.vk _ m k v=>[m,k,v]
 |.yh _ as=>as
 |.call _ as _=>as
 |.cM f as _=>f::as
def drop (H:av):List Nat->av
 |[]=>H
 |id::rest=>drop (H.put none id) rest
abbrev eF:=Nat->List AV->av->Nat->Option (AV×av×Nat)
def dY (r:Option (AV×av×Nat)) (must:Bool):Option AV:=match r with
 |none=>none
 |some (r,Hc,_)=>bif must then (bif own deep Hc r then aN deep Hc r else none) else (bif r.plain then some r else aN deep Hc r)
def bH (cf:eF) (f:Nat) (args:List AV) (m:Mode) (H:av) (nx:Nat):Option (AV×av×Nat):=match m with
 |.share=>cf f args H nx
 |.borrow=>bif bx AV.plain args then
   match dY (cf f args .leaf 0) false with
   |some r=>some (r,H,nx)
   |none=>none
  else match cr (aN deep H) args with
   |none=>none
   |some as=>match dY (cf f as .leaf 0) true with
    |some r=>some (r,H,nx)
    |none=>none
def fk (cf:eF) (op:dR) (ρ:aH->AV) (H:av) (nx:Nat):Option (AV×av×Nat):=match kind op with
 |.plan p=>match p ρ with
  |some p=>bO p H nx
  |none=>none
 |.call f args m=>bH cf f (args.map ρ) m H nx
 |.cM f args m=>match ρ f with
  |.func g=>bH cf g (args.map ρ) m H nx
  |_=>none
def mO (H:av) (ρ:aH->AV) (x:aH):AV:=match aN deep H (ρ x) with
 |some v=>v
 |none=>ρ x
def je (cf:eF) (o:ax) (ρ:aH->AV) (H:av) (nx:Nat):Option (AV×av×Nat):=
 bif o.fz then match o.op with
  |.aQ len zero parts=>match cr (aN deep H) (parts.map fun p=>ρ p.2.2) with
   |none=>none
   |some _=>match c5 (mO H ρ) len zero parts with
    |some (.val v)=>some (v,drop H ((parts.map fun p=>ρ p.2.2).flatMap (bq deep H)),nx)
    |_=>none
  |_=>none
 else fk cf o.op ρ H nx
structure St where
 env:Env
 H:av
 nx:Nat
def wanted (e:Env):Option (Nat×Bool)->Bool
 |none=>true
 |some (g,b)=>match e.get g with
  |some (.bool b')=>b' == b
  |_=>false
def rj (nt:Nat) (e:Env) (d:Option Nat) (v:AV):Option Env:=match d with
 |none=>some e
 |some d=>bif Nat.blt d nt then some (e.put (some v) d) else none
def eo (cf:eF) (nt:Nat) (o:ax) (st:St):Option St:=
 bif wanted st.env o.gd then
  match je cf o (ev st.env) st.H st.nx with
  |none=>none
  |some (v,H,nx)=>match rj nt st.env o.dst v with
   |some e=>some ⟨e,H,nx⟩
   |none=>none
 else match rj nt st.env o.dst c7 with
  |some e=>some ⟨e,st.H,st.nx⟩
  |none=>none
def dr (cf:eF) (nt:Nat) (l:List ax):St->Option St:=
 List.rec (motive:=fun _=>St->Option St) (fun st=>some st)
  (fun o _ ih st=>match eo cf nt o st with
   |some st=>ih st
   |none=>none) l
mutual
def gj:AV->AV->Bool
 |.bool a,.bool b=>a == b
 |.int k a,.int k' b=>BK k k'&&zm a b
 |.str a,.str b=>decide (a=b)
 |.jm,.jm=>true
 |.ak,.ak=>true
 |.ptr a b c,.ptr a' b' c'=>Nat.beq a a'&&Nat.beq b b'&&Nat.beq c c'
 |.fj cs o,.fj cs' o'=>kT cs cs'&&Nat.beq o o'
 |.b5 cs n c,.b5 cs' n' c'=>kT cs cs'&&Nat.beq n n'&&decide (c=c')
 |.ref a b c d e f x,.ref a' b' c' d' e' f' x'=>Nat.beq a a'&&Nat.beq b b'&&Nat.beq c c'&&Nat.beq d d'&&Nat.beq e e'&&Nat.beq f f'&&x == x'
 |.agg cs,.agg cs'=>kT cs cs'
 |.dL cs,.dL cs'=>kT cs cs'
 |.func f,.func f'=>Nat.beq f f'
 |.j7 f,.j7 f'=>Nat.beq f f'
 |_,_=>false
def kT:List AV->List AV->Bool
 |[],[]=>true
 |x::xs,y::ys=>gj x y&&kT xs ys
 |_,_=>false
end
inductive Rd where
 |qf (r:ye)
 |obj (id:Nat)
 |all
inductive HA where
 |ids (l:List Nat)
 |all
structure Rec where
 cR:List Rd
 bU:HA
 H0:av
 H1:av
 w7:Nat
 n9:Nat
def aP.cR:aP->List Rd
 |.look q u _=>(match q with|some r=>[.qf r]|none=>[])++(match u with|some id=>[.obj id]|none=>[])
 |_=>[]
def aP.bU:aP->List Nat
 |.look _ u _=>(match u with|some id=>[id]|none=>[])
 |_=>[]
abbrev Kx:=AV×av×Nat×List Rd×HA
def bR (cf:eF) (n0:Nat) (f:Nat) (args:List AV) (m:Mode) (H:av) (nx:Nat):Option Kx:=match m with
 |.share=>match cf f args (H.upto fun i=>Nat.blt i n0) nx with
  |some (v,H',nx')=>some (v,(H'.upto fun i=>Nat.blt i n0||(Nat.ble nx i&&Nat.blt i nx')).union (H.upto fun i=>!(Nat.blt i n0||(Nat.ble nx i&&Nat.blt i nx'))),nx',[.all],.all)
  |none=>none
 |.borrow=>bif bx AV.plain args then
   match bH cf f args .borrow H nx with
   |some (v,_,_)=>some (v,H,nx,[],.ids [])
   |none=>none
  else match bH cf f args .borrow (H.upto fun i=>Nat.blt i n0) nx with
   |some (v,_,_)=>some (v,H,nx,[.all],.ids [])
   |none=>none
def j5 (cf:eF) (n0:Nat) (op:dR) (ρ:aH->AV) (H:av) (nx:Nat):Option Kx:=match kind op with
 |.plan p=>match p ρ with
  |some p=>match bO p H nx with
   |some (v,H',nx')=>some (v,H',nx',p.cR,.ids p.bU)
   |none=>none
  |none=>none
 |.call f args m=>bR cf n0 f (args.map ρ) m H nx
 |.cM f args m=>match ρ f with
  |.func g=>bR cf n0 g (args.map ρ) m H nx
  |_=>none
def dZ (cf:eF) (n0:Nat) (o:ax) (ρ:aH->AV) (H:av) (nx:Nat):Option Kx:=
 bif o.fz then match o.op with
  |.aQ len zero parts=>match cr (aN deep H) (parts.map fun p=>ρ p.2.2) with
   |none=>none
   |some _=>match c5 (mO H ρ) len zero parts with
    |some (.val v)=>some (v,drop H ((parts.map fun p=>ρ p.2.2).flatMap (bq deep H)),nx,((parts.map fun p=>ρ p.2.2).flatMap (bq deep H)).map Rd.obj,.ids ((parts.map fun p=>ρ p.2.2).flatMap (bq deep H)))
    |_=>none
  |_=>none
 else j5 cf n0 o.op ρ H nx
def bz (cf:eF) (nt n0:Nat) (o:ax) (st:St):Option (St×Rec):=
 bif wanted st.env o.gd then
  match dZ cf n0 o (ev st.env) st.H st.nx with
  |none=>none
  |some (v,H,nx,cR,bU)=>match rj nt st.env o.dst v with
   |none=>none
   |some e=>some (⟨e,H,nx⟩,⟨cR,bU,st.H,H,st.nx,nx⟩)
 else match rj nt st.env o.dst c7 with
  |none=>none
  |some e=>some (⟨e,st.H,st.nx⟩,⟨[],.ids [],st.H,st.H,st.nx,st.nx⟩)
def cZ (cf:eF) (nt n0:Nat):List ax->St->Option (St×List Rec)
 |[],st=>some (st,[])
 |o::rest,st=>match bz cf nt n0 o st with
  |none=>none
  |some (st1,r)=>match cZ cf nt n0 rest st1 with
   |none=>none
   |some (st',l)=>some (st',r::l)
def tv (A B C:av) (r:ye):Bool:=match cK A (some r),cK B (some r),cK C (some r) with
 |some x,some y,some z=>kT x z&&kT y z
 |_,_,_=>false
def f_ (a b:Rec):Rd->Bool
 |.qf r=>match a.bU with
  |.ids l=>bif l.contains r.id then tv a.H0 a.H1 b.H0 r else true
  |.all=>tv a.H0 a.H1 b.H0 r
 |.obj id=>match a.bU with
  |.ids l=>!l.contains id
  |.all=>false
 |.all=>match a.bU with
  |.ids []=>true
  |_=>false
def still (a b:Rec):Bool:=bx (f_ a b) b.cR
def apart (a b:Rec):Bool:=match a.bU,b.bU with
 |.ids l,.ids l'=>l.all fun x=>!l'.contains x
 |.all,.ids []=>true
 |.ids [],.all=>true
 |_,_=>false
def gL (rs:List Rec) (p:Nat×Nat):Bool:=match rs[p.1]?,rs[p.2]? with
 |some a,some b=>still a b&&still b a&&apart a b
 |_,_=>false
def xz (n0:Nat) (rs:List Rec) (ahead:List Nat) (id:Nat):Bool:=
 Nat.blt id n0||ahead.any fun i=>match rs[i]? with|some a=>Nat.ble a.w7 id&&Nat.blt id a.n9|none=>false
def Cu (n0:Nat) (rs:List Rec) (ahead:List Nat):Rd->Bool
 |.qf x=>xz n0 rs ahead x.id
 |.obj id=>xz n0 rs ahead id
 |.all=>true
def tj (n0:Nat) (rs:List Rec) (ahead:List Nat):HA->Bool
 |.ids l=>l.all (xz n0 rs ahead)
 |.all=>true
def gW (n0:Nat) (rs:List Rec):List (List Nat)->List Rec->Bool
 |a::as,r::rest=>r.cR.all (Cu n0 rs a)&&tj n0 rs a r.bU&&gW n0 rs as rest
 |[],[]=>true
 |_,_=>false
def b7 (cf:eF) (nt:Nat) (ops:List ax) (ahead:List (List Nat)) (pairs:List (Nat×Nat)) (st:St):Option St:=
 match cZ cf nt st.nx ops st with
 |none=>none
 |some (st',rs)=>bif gW st.nx rs ahead rs&&bx (gL rs) pairs then some st' else none
inductive bG where
 |normal
 |exit (id:Nat)
 |ret
abbrev dj:=Nat->bY->St->Option (bG×St)
def br (ex:dj) (cf:eF) (nt:Nat) (c:bY) (st:St):Option (bG×St):=match c with
 |.skip=>some (.normal,st)
 |.aa ops=>match dr cf nt ops st with
  |some st=>some (.normal,st)
  |none=>none
 |.aT ops ahead pairs=>match b7 cf nt ops ahead pairs st with
  |some st=>some (.normal,st)
  |none=>none
 |.seq a b=>match ex nt a st with
  |some (.normal,st)=>ex nt b st
  |r=>r
 |.cond c a b=>match ev st.env c with
  |.bool true=>ex nt a st
  |.bool false=>ex nt b st
  |_=>none
 |.block id c=>match ex nt c st with
  |some (.exit i,st)=>bif Nat.beq i id then some (.normal,st) else some (.exit i,st)
  |r=>r
 |.loop c=>match ex nt c st with
  |some (.normal,st)=>ex nt (.loop c) st
  |r=>r
 |.exit id=>some (.exit id,st)
 |.ret=>some (.ret,st)
def cJ:List AV->Nat->Env->Env
 |[],_,e=>e
 |v::vs,i,e=>cJ vs (i+1) (e.put (some v) i)
def iY (e:Env) (H:av):pg->Option AV
 |.tmp t=>some (ev e (.t t))
 |.cell t sz=>match ev e (.t t) with
  |.ptr id g off=>match cK H (some ⟨id,g,off,bW sz⟩) with
   |some cs=>z6 sz cs
   |none=>none
  |_=>none
def ko (l:List pg) (st:St):Option (AV×av×Nat):=match cr (iY st.env st.H) l with
 |some [v]=>some (v,st.H,st.nx)
 |some vs=>some (.dL vs,st.H,st.nx)
 |none=>none
def gY (prog:Map aq) (ex:dj):eF:=fun f args H nx=>match prog.get f with
 |none=>none
 |some af=>bif Nat.beq args.length af.params then
   match ex af.nt af.body ⟨cJ args 0 .leaf,H,nx⟩ with
   |some (.normal,st)=>ko af.res st
   |some (.ret,st)=>ko af.res st
   |_=>none
  else none
structure Ku where
 code:dj
 fn:eF
def interp (prog:Map aq) (k:Nat):Ku:=
 Nat.rec (motive:=fun _=>Ku) ⟨fun _ _ _=>none,fun _ _ _ _=>none⟩ (fun _ p=>⟨br p.code p.fn,gY prog p.code⟩) k
end Go.Ax
namespace Go.Ax
theorem oW {α:Sort _} (c:Bool) (a b:α):(Bool.rec a b c:α)=if c=true then b else a:=by cases c<;>rfl
namespace Map
variable {α:Type}
theorem kO (i:Nat):(leaf:Map α).get i=none:=rfl
theorem bX (v:Option α) (l r:Map α) (i:Nat):(node v l r).get i=if i=0 then v else if i % 2=1 then l.get (i / 2) else r.get (i / 2 - 1):=by show (Bool.rec (Bool.rec (r.get (i / 2 - 1)) (l.get (i / 2)) (Nat.beq (i % 2) 1)) v (Nat.beq i 0):Option α)=_;simp only [oW,OY]
theorem CT (v:Option α) (f i:Nat):one v (f+1) i=if i=0 then .node v .leaf .leaf else if i % 2=1 then .node none (one v f (i / 2)) .leaf else .node none .leaf (one v f (i / 2 - 1)):=by show (Bool.rec (Bool.rec (.node none .leaf (one v f (i / 2 - 1))) (.node none (one v f (i / 2)) .leaf) (Nat.beq (i % 2) 1)) (.node v .leaf .leaf) (Nat.beq i 0):Map α)=_;simp only [oW,OY]
theorem CJ (v:Option α) (i:Nat):put v leaf i=one v (i+1) i:=rfl
theorem CI (w v:Option α) (l r:Map α) (i:Nat):put w (node v l r) i=if i=0 then .node w l r else if i % 2=1 then .node v (put w l (i / 2)) r else .node v l (put w r (i / 2 - 1)):=by show (Bool.rec (Bool.rec (.node v l (put w r (i / 2 - 1))) (.node v (put w l (i / 2)) r) (Nat.beq (i % 2) 1)) (.node w l r) (Nat.beq i 0):Map α)=_;simp only [oW,OY]
theorem E4 (v:Option α):∀(f i j:Nat),i < f->(one v f i).get j=if j=i then v else none:=by
 intro f
 induction f with
 |zero=>intro i j h;omega
 |succ f ih=>
  intro i j h;rw [CT];by_cases h0:i=0
  ·subst h0;simp only [if_true,bX,kO];split<;>simp_all
  ·rw [if_neg h0];by_cases h1:i % 2=1
   ·rw [if_pos h1,bX,ih _ _ (by omega)];by_cases hj:j=0
    ·subst hj;rw [if_pos rfl,if_neg (by omega)]
    ·rw [if_neg hj];by_cases hj1:j % 2=1
     ·rw [if_pos hj1];by_cases e:j=i
      ·subst e;simp
      ·rw [if_neg (by omega),if_neg e]
     ·rw [if_neg hj1,kO,if_neg (by rintro rfl;exact hj1 h1)]
   ·rw [if_neg h1,bX,ih _ _ (by omega)];by_cases hj:j=0
    ·subst hj;rw [if_pos rfl,if_neg (by omega)]
    ·rw [if_neg hj];by_cases hj1:j % 2=1
     ·rw [if_pos hj1,kO,if_neg (by rintro rfl;exact h1 hj1)]
     ·rw [if_neg hj1];by_cases e:j=i
      ·subst e;simp
      ·rw [if_neg (by omega),if_neg e]
theorem au (w:Option α) (m:Map α):∀(i j:Nat),(put w m i).get j=if j=i then w else m.get j:=by
 induction m with
 |leaf=>intro i j;rw [CJ,E4 _ _ _ _ (by omega),kO]
 |node v l r ihl ihr=>
  intro i j;rw [CI];by_cases h0:i=0
  ·subst h0;rw [if_pos rfl,bX,bX];split<;>rfl
  ·rw [if_neg h0];by_cases h1:i % 2=1
   ·rw [if_pos h1,bX,bX,ihl];by_cases hj:j=0
    ·subst hj;rw [if_pos rfl,if_neg (by omega),if_pos rfl]
    ·rw [if_neg hj,if_neg hj];by_cases hj1:j % 2=1
     ·rw [if_pos hj1,if_pos hj1];by_cases e:j=i
      ·subst e;simp
      ·rw [if_neg (by omega),if_neg e]
     ·rw [if_neg hj1,if_neg hj1,if_neg (by rintro rfl;exact hj1 h1)]
   ·rw [if_neg h1,bX,bX,ihr];by_cases hj:j=0
    ·subst hj;rw [if_pos rfl,if_neg (by omega),if_pos rfl]
    ·rw [if_neg hj,if_neg hj];by_cases hj1:j % 2=1
     ·rw [if_pos hj1,if_pos hj1,if_neg (by rintro rfl;exact h1 hj1)]
     ·rw [if_neg hj1,if_neg hj1];by_cases e:j=i
      ·subst e;simp
      ·rw [if_neg (by omega),if_neg e]
theorem fW (m:Map α):∀(p:Nat->Bool) (i:Nat),(m.upto p).get i=if p i=true then m.get i else none:=by
 induction m with
 |leaf=>intro p i;show none=_;rw [kO];split<;>rfl
 |node v l r ihl ihr=>
  intro p i;show (node _ (l.upto _) (r.upto _)).get i=_;rw [bX,bX,ihl,ihr,oW];by_cases h0:i=0
  ·subst h0;simp
  ·rw [if_neg h0,if_neg h0];by_cases h1:i % 2=1
   ·rw [if_pos h1,if_pos h1];have e:Nat.succ (Nat.mul 2 (i / 2))=i:=by simp only [Nat.succ_eq_add_one,Nat.mul_eq];omega
    rw [e]
   ·rw [if_neg h1,if_neg h1];have e:Nat.succ (Nat.succ (Nat.mul 2 (i / 2 - 1)))=i:=by simp only [Nat.succ_eq_add_one,Nat.mul_eq];omega
    rw [e]
theorem uu (a:Map α):∀(b:Map α) (i:Nat),(a.union b).get i=match a.get i with|some x=>some x|none=>b.get i:=by
 induction a with
 |leaf=>intro b i;rfl
 |node v l r ihl ihr=>
  intro b i;cases b with
  |leaf=>show (node v l r).get i=_;cases (node v l r).get i<;>rfl
  |node v' l' r'=>
   show (node _ (l.union l') (r.union r')).get i=_;rw [bX,bX,bX,ihl,ihr];by_cases h0:i=0
   ·simp only [if_pos h0];try (cases v<;>rfl)
   ·simp only [if_neg h0];by_cases h1:i % 2=1
    ·simp only [if_pos h1]
    ·simp only [if_neg h1]
end Map
theorem aJ {α:Type} {f:α->Bool} {l:List α}:bx f l=true↔∀x∈l,f x=true:=by
 induction l with
 |nil=>exact⟨fun _ _ h=>(by cases h),fun _=>rfl⟩
 |cons x l ih=>
  show (Bool.rec false (bx f l) (f x):Bool)=true↔_;rw [oW];split
  ·rename_i h;rw [ih];simp [h]
  ·rename_i h;simp [h]
theorem bZ {α β:Type} (f:α->Option β) (x:α) (l:List α):cr f (x::l)=match f x with|none=>none|some y=>match cr f l with|none=>none|some ys=>some (y::ys):=rfl
theorem C5 {α β:Type} (f:α->Option β):cr f []=some []:=rfl
theorem eU {α β:Type} {f:α->Option β} {l:List α} {r:List β} (h:cr f l=some r):l.length=r.length/\∀(j:Nat) (x:α),l[j]?=some x->∃y,r[j]?=some y/\f x=some y:=by
 induction l generalizing r with
 |nil=>rw [C5] at h;cases h;exact⟨rfl,fun j x hx=>by simp at hx⟩
 |cons a l ih=>
  rw [bZ] at h;cases ha:f a with
  |none=>rw [ha] at h;cases h
  |some y=>
   rw [ha] at h;cases hl:cr f l with
   |none=>rw [hl] at h;cases h
   |some ys=>
    rw [hl] at h;cases h;obtain⟨h1,h2⟩:=ih hl;refine⟨by simp [h1],fun j x hx=>?_⟩;cases j with
    |zero=>simp at hx;subst hx;exact⟨y,rfl,ha⟩
    |succ j=>simpa using h2 j x (by simpa using hx)
theorem Bn (n:Nat):first [] n=if n=0 then some [] else none:=by show (Bool.rec _ _ _:Option (List AV))=_;simp only [oW,OY]
theorem zf (x:AV) (l:List AV) (n:Nat):first (x::l) n=if n=0 then some [] else match first l (n - 1) with|some r=>some (x::r)|none=>none:=by show (Bool.rec (match first l (n - 1) with|some r=>some (x::r)|none=>none) (some []) (Nat.beq n 0):Option (List AV))=_;simp only [oW,OY]
theorem nN (cells:List AV):∀n,first cells n=if n<=cells.length then some (cells.take n) else none:=by
 induction cells with
 |nil=>intro n;rw [Bn];cases n<;>simp
 |cons x l ih=>
  intro n;rw [zf,ih];cases n with
  |zero=>simp
  |succ n=>simp only [Nat.add_one_ne_zero,if_false,Nat.add_sub_cancel,OL,Nat.add_le_add_iff_right];by_cases h:n<=l.length<;>simp [h]
theorem Fo (off n:Nat):cut [] off n=if off=0 then first [] n else none:=by show (Bool.rec _ _ _:Option (List AV))=_;simp only [oW,OY]
theorem DH (x:AV) (l:List AV) (off n:Nat):cut (x::l) off n=if off=0 then first (x::l) n else cut l (off - 1) n:=by show (Bool.rec (cut l (off - 1) n) (first (x::l) n) (Nat.beq off 0):Option (List AV))=_;simp only [oW,OY]
theorem cI (cells:List AV):∀off n,cut cells off n=if off+n<=cells.length then some ((cells.drop off).take n) else none:=by
 induction cells with
 |nil=>intro off n;rw [Fo,nN];cases off<;>simp
 |cons x l ih=>
  intro off n;rw [DH,ih,nN];cases off with
  |zero=>simp
  |succ off=>simp only [Nat.add_one_ne_zero,if_false,Nat.add_sub_cancel,OL,List.drop_succ_cons];simp only [Nat.add_right_comm off 1 n,Nat.add_le_add_iff_right]
theorem fl {cells cs:List AV} {off n:Nat} (h:cut cells off n=some cs):off+n<=cells.length/\cs=(cells.drop off).take n:=by
 rw [cI] at h;split at h
 ·rename_i hl;exact⟨hl,by injection h with h;exact h.symm⟩
 ·cases h
theorem vK {cells cs:List AV} {off n:Nat} (h:cut cells off n=some cs):cs.length=n/\∀j,j < n->cs[j]?=cells[off+j]?:=by obtain⟨hl,rfl⟩:=fl h;refine⟨by simp;omega,fun j hj=>by rw [List.getElem?_take_of_lt hj,OC]⟩
theorem A7 (cells:List AV):ni [] cells=some cells:=rfl
theorem yP (y:AV) (cs:List AV):∀cells,ni (y::cs) cells=match cells with|[]=>none|_::xs=>match ni cs xs with|some l=>some (y::l)|none=>none:=fun _=>rfl
theorem wW (cs:List AV):∀cells,ni cs cells=if cs.length<=cells.length then some (cs++cells.drop cs.length) else none:=by
 induction cs with
 |nil=>intro cells;simp [A7]
 |cons y cs ih=>
  intro cells;rw [yP];cases cells with
  |nil=>simp
  |cons x xs=>simp only [ih,OL,Nat.add_le_add_iff_right,List.drop_succ_cons,List.cons_append];by_cases h:cs.length<=xs.length<;>simp [h]
theorem CQ (off:Nat) (cs:List AV):cO [] off cs=if off=0 then ni cs [] else none:=by show (Bool.rec _ _ _:Option (List AV))=_;simp only [oW,OY]
theorem A6 (x:AV) (l:List AV) (off:Nat) (cs:List AV):cO (x::l) off cs=if off=0 then ni cs (x::l) else match cO l (off - 1) cs with|some r=>some (x::r)|none=>none:=by show (Bool.rec (match cO l (off - 1) cs with|some r=>some (x::r)|none=>none) (ni cs (x::l)) (Nat.beq off 0):Option (List AV))=_;simp only [oW,OY]
theorem fQ (cells:List AV):∀off cs,cO cells off cs=if off+cs.length<=cells.length then some (cells.take off++cs++cells.drop (off+cs.length)) else none:=by
 induction cells with
 |nil=>intro off cs;rw [CQ,wW];cases off<;>simp
 |cons x l ih=>
  intro off cs;rw [A6,ih,wW];cases off with
  |zero=>simp
  |succ off=>simp only [Nat.add_one_ne_zero,if_false,Nat.add_sub_cancel,OL,List.take_succ_cons,Nat.add_right_comm off 1 cs.length,Nat.add_le_add_iff_right,List.drop_succ_cons];by_cases h:off+cs.length<=l.length<;>simp [h]
theorem cP {cells cells' cs:List AV} {off:Nat} (h:cO cells off cs=some cells'):off+cs.length<=cells.length/\cells'=cells.take off++cs++cells.drop (off+cs.length):=by
 rw [fQ] at h;split at h
 ·rename_i hl;exact⟨hl,by injection h with h;exact h.symm⟩
 ·cases h
theorem dy {cells cells' cs:List AV} {off:Nat} (h:cO cells off cs=some cells'):cells'.length=cells.length/\∀j,cells'[j]?=if off<=j/\j < off+cs.length then cs[j - off]? else cells[j]?:=by
 obtain⟨hl,rfl⟩:=cP h;refine⟨by simp;omega,fun j=>?_⟩;by_cases h1:j < off
 ·rw [Ox (by simp;omega),Ox (by simp;omega),List.getElem?_take_of_lt h1,if_neg (by omega)]
 ·by_cases h2:j < off+cs.length
  ·rw [Ox (by simp;omega),Oy (by simp;omega),if_pos ⟨by omega,h2⟩];congr 1;simp;omega
  ·rw [Oy (by simp;omega),if_neg (by omega),OC];congr 1;simp;omega
theorem oQ {a b:IntKind} (h:BK a b=true):a=b:=by cases a<;>cases b<;>first|rfl|cases h
theorem Fb (a b:IntKind):BK a b=decide (a=b):=by cases a<;>cases b<;>rfl
theorem DP (a b:Nat):Nat.blt a b=decide (a < b):=by rw [Bool.eq_iff_iff];simp [O0]
theorem kG (x y:Int):t_ x y=decide (x < y):=by
 cases x<;>cases y<;>simp only [t_,DP]<;>first
  |(congr 1;simp only [Int.ofNat_eq_natCast,eq_iff_iff];omega)
  |(symm;rw [O3];simp only [Int.ofNat_eq_natCast];omega)
  |(symm;rw [O4];simp only [Int.ofNat_eq_natCast];omega)
theorem kS (x y:Int):zm x y=decide (x=y):=by
 cases x<;>cases y<;>simp only [zm]<;>first
  |(rw [Bool.eq_iff_iff,OY,O3];simp only [Int.ofNat_eq_natCast];omega)
  |(rw [Bool.eq_iff_iff,OY,O3,Int.negSucc.injEq])
  |(symm;rw [O4];simp only [Int.ofNat_eq_natCast];omega)
theorem nF {i:Int} {n m:Nat} (h:EZ i n=some m):i=(m:Int)/\m < n:=by
 cases i with
 |ofNat k=>
  simp only [EZ,DP,cond_eq_ite,O3] at h;split at h
  ·cases h;exact⟨rfl,by assumption⟩
  ·cases h
 |negSucc k=>cases h
theorem nY {i:Int} {n m:Nat} (h:HM i n=some m):i=(m:Int)/\m<=n:=by
 cases i with
 |ofNat k=>
  simp only [HM,cond_eq_ite,OZ] at h;split at h
  ·cases h;exact⟨rfl,by assumption⟩
  ·cases h
 |negSucc k=>cases h
theorem j_ (k:IntKind) (n:Int):eY k n=k.wrap n:=by
 unfold eY;rw [cond_eq_ite];split
 ·rename_i h;cases k<;>cases n<;>simp only [HJ,DP,O3] at h<;>simp only [IntKind.wrap,IntKind.bits,IntKind.signed,Int.ofNat_eq_natCast]<;>simp<;>omega
 ·rfl
end Go.Ax
end
