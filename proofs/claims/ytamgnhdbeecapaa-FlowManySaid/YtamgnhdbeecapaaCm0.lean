/- Part 0 of the proof: Ax0, Ax1. -/
import GoSem.Step
set_option linter.unusedSimpArgs false
set_option linter.unusedVariables false
noncomputable section
namespace Go.Ax
abbrev Un:=@List.getElem?_eq_getElem
abbrev Uo:=@List.getElem?_eq_some_iff
abbrev Uq:=@List.getElem?_append_left
abbrev Ur:=@List.getElem?_append_right
abbrev Us:=@List.getElem?_map
abbrev Ut:=@List.getElem?_eq_none
abbrev Uu:=@List.getElem?_take
abbrev Uv:=@List.getElem?_drop
abbrev Uw:=@List.mem_of_getElem?
abbrev Ux:=@List.getElem_mem
abbrev Uy:=@List.length_map
abbrev Uz:=@List.length_append
abbrev UA:=@List.length_take
abbrev UB:=@List.length_drop
abbrev UC:=@List.length_singleton
abbrev UD:=@List.length_cons
abbrev UE:=@List.length_set
abbrev UF:=@List.take_length
abbrev UG:=@List.mem_cons_self
abbrev UH:=@List.mem_cons_of_mem
abbrev UI:=@List.mem_cons
abbrev UJ:=@List.mem_append
abbrev UK:=@List.mem_singleton
abbrev UL:=@List.mem_map
abbrev UM:=@List.all_eq_true
abbrev UN:=@Bool.and_eq_true
abbrev UO:=@Bool.or_eq_true
abbrev UP:=@Bool.not_eq_true'
abbrev UQ:=@Nat.beq_eq
abbrev UR:=@Nat.ble_eq
abbrev US:=@Nat.blt_eq
abbrev UT:=@decide_eq_true_eq
abbrev UU:=@decide_eq_true
abbrev UW:=@decide_eq_false_iff_not
abbrev UX:=@Nat.lt_of_lt_of_le
abbrev UY:=@List.length_eq_zero_iff
abbrev UZ:=@List.take_of_length_le
abbrev U0:=@Option.some.inj
abbrev U1:=@Nat.le_trans
abbrev U2:=@Nat.zero_le
abbrev U3:=@Nat.le_refl
inductive Map (α:Type) where
 |leaf
 |node (v:Option α) (l r:Map α)
namespace Map
variable {α:Type}
def get (m:Map α):Nat->Option α:=
 Map.rec (motive:=fun _=>Nat->Option α) (fun _=>none)
  (fun v _ _ l r i=>Bool.rec (Bool.rec (r (Nat.sub (Nat.div i 2) 1)) (l (Nat.div i 2)) (Nat.beq (Nat.mod i 2) 1)) v (Nat.beq i 0)) m
def one (v:Option α) (f:Nat):Nat->Map α:=
 Nat.rec (motive:=fun _=>Nat->Map α) (fun _=>.leaf)
  (fun _ ih i=>Bool.rec (Bool.rec (.node none .leaf (ih (Nat.sub (Nat.div i 2) 1))) (.node none (ih (Nat.div i 2)) .leaf) (Nat.beq (Nat.mod i 2) 1)) (.node v .leaf .leaf) (Nat.beq i 0)) f
def put (w:Option α) (m:Map α):Nat->Map α:=
 Map.rec (motive:=fun _=>Nat->Map α) (fun i=>one w (Nat.succ i) i)
  (fun v l0 r0 l r i=>Bool.rec (Bool.rec (.node v l0 (r (Nat.sub (Nat.div i 2) 1))) (.node v (l (Nat.div i 2)) r0) (Nat.beq (Nat.mod i 2) 1)) (.node w l0 r0) (Nat.beq i 0)) m
def upto (m:Map α):(Nat->Bool)->Map α:=
 Map.rec (motive:=fun _=>(Nat->Bool)->Map α) (fun _=>.leaf)
  (fun v _ _ l r p=>.node (Bool.rec none v (p 0)) (l fun k=>p (Nat.succ (Nat.mul 2 k))) (r fun k=>p (Nat.succ (Nat.succ (Nat.mul 2 k))))) m
def union (m:Map α):Map α->Map α:=
 Map.rec (motive:=fun _=>Map α->Map α) (fun m=>m)
  (fun v l0 r0 l r m=>match m with
   |.leaf=>.node v l0 r0
   |.node v' l' r'=>.node (match v with|some x=>some x|none=>v') (l l') (r r')) m
end Map
inductive AV where
 |bool (b:Bool)
 |int (k:IntKind) (n:Int)
 |str (s:ByteArray)
 |qR
 |ptr (id g off:Nat)
 |ic (cs:List AV) (off:Nat)
 |ay
 |ei (cs:List AV) (n:Nat) (cap:Option Nat)
 |ref (id g off es len cap:Nat) (ex:Bool)
 |agg (cs:List AV)
 |iR (vs:List AV)
 |func (f:Nat)
 |nU (id:Nat)
 deriving Inhabited
inductive fZ where
 |row (g:Nat) (cells:List AV)
 |map (es:List (AV×AV))
 deriving Inhabited
abbrev aU:=Map fZ
abbrev Env:=Map AV
def dQ:AV:=.iR []
def AV.flat:AV->Bool
 |.ref ..=>false
 |.ptr ..=>false
 |.nU _=>false
 |.agg _=>false
 |.iR _=>false
 |_=>true
def cz {α:Type} (f:α->Bool) (l:List α):Bool:=List.rec (motive:=fun _=>Bool) true (fun x _ ih=>Bool.rec false ih (f x)) l
def AV.iS:AV->Bool
 |.agg cs=>cz AV.flat cs
 |v=>v.flat
def AV.plain:AV->Bool
 |.iR vs=>cz AV.iS vs
 |v=>v.iS
def AV.Ia:AV->Bool
 |.iR _=>true
 |_=>false
def AV.one:AV->Bool
 |.agg _=>false
 |.iR _=>false
 |_=>true
def AV.cells?:AV->Option (List AV)
 |.agg cs=>some cs
 |.iR _=>none
 |v=>some [v]
def fo {α β:Type} (f:α->Option β) (l:List α):Option (List β):=
 List.rec (motive:=fun _=>Option (List β)) (some [])
  (fun x _ ih=>match f x with
   |none=>none
   |some y=>match ih with
    |none=>none
    |some ys=>some (y::ys)) l
def first (cells:List AV):Nat->Option (List AV):=
 List.rec (motive:=fun _=>Nat->Option (List AV)) (fun n=>Bool.rec none (some []) (Nat.beq n 0))
  (fun x _ ih n=>Bool.rec (match ih (Nat.pred n) with|some l=>some (x::l)|none=>none) (some []) (Nat.beq n 0)) cells
def cut (cells:List AV):Nat->Nat->Option (List AV):=
 List.rec (motive:=fun _=>Nat->Nat->Option (List AV)) (fun off n=>Bool.rec none (first [] n) (Nat.beq off 0))
  (fun x xs ih off n=>Bool.rec (ih (Nat.pred off) n) (first (x::xs) n) (Nat.beq off 0)) cells
def tq (cs:List AV):List AV->Option (List AV):=
 List.rec (motive:=fun _=>List AV->Option (List AV)) (fun cells=>some cells)
  (fun y _ ih cells=>match cells with
   |[]=>none
   |_::xs=>match ih xs with
    |some l=>some (y::l)
    |none=>none) cs
def dz (cells:List AV):Nat->List AV->Option (List AV):=
 List.rec (motive:=fun _=>Nat->List AV->Option (List AV)) (fun off cs=>Bool.rec none (tq cs []) (Nat.beq off 0))
  (fun x xs ih off cs=>Bool.rec (match ih (Nat.pred off) cs with|some l=>some (x::l)|none=>none) (tq cs (x::xs)) (Nat.beq off 0)) cells
def rows (n:Nat) (zero:List AV):List AV:=(List.replicate n zero).flatten
def Nh (k:IntKind) (n:Int):Bool:=match n with
 |.ofNat m=>Nat.blt m (match k with|.i8=>128|.i16=>32768|.i32=>2147483648|.i64=>9223372036854775808|.u8=>256|.u16=>65536|.u32=>4294967296|.u64=>18446744073709551616)
 |.negSucc m=>Nat.blt m (match k with|.i8=>128|.i16=>32768|.i32=>2147483648|.i64=>9223372036854775808|_=>0)
def f_ (k:IntKind) (n:Int):Int:=bif Nh k n then n else k.wrap n
def wm (x y:Int):Bool:=match x,y with
 |.ofNat a,.ofNat b=>Nat.blt a b
 |.negSucc _,.ofNat _=>true
 |.ofNat _,.negSucc _=>false
 |.negSucc a,.negSucc b=>Nat.blt b a
def Gb (x y:Int):Bool:=match x,y with
 |.ofNat a,.ofNat b=>Nat.beq a b
 |.negSucc a,.negSucc b=>Nat.beq a b
 |_,_=>false
def Jc:IntKind->IntKind->Bool
 |.i8,.i8|.i16,.i16|.i32,.i32|.i64,.i64|.u8,.u8|.u16,.u16|.u32,.u32|.u64,.u64=>true
 |_,_=>false
def H9 (i:Int) (n:Nat):Option Nat:=match i with
 |.ofNat m=>bif Nat.blt m n then some m else none
 |.negSucc _=>none
def MA (i:Int) (n:Nat):Option Nat:=match i with
 |.ofNat m=>bif Nat.ble m n then some m else none
 |.negSucc _=>none
inductive kV where
 |int|bool|str
inductive Dn where
 |one (l:kV)
 |slice
 |agg (ls:List kV)
def Iv (l:kV) (a b:AV):Option Bool:=match l with
 |.int=>match a with
  |.int k n=>match b with
   |.int k' m=>bif Jc k k' then some (Gb n m) else none
   |_=>none
  |_=>none
 |.bool=>match a with
  |.bool x=>match b with
   |.bool y=>some (x == y)
   |_=>none
  |_=>none
 |.str=>match a with
  |.str x=>match b with
   |.str y=>some (x == y)
   |_=>none
  |_=>none
def Dl (ls:List kV):List AV->List AV->Option Bool:=
 List.rec (motive:=fun _=>List AV->List AV->Option Bool) (fun a b=>match a with|[]=>(match b with|[]=>some true|_::_=>none)|_::_=>none)
  (fun l _ ih a b=>match a with
   |[]=>none
   |x::xs=>match b with
    |[]=>none
    |y::ys=>match Iv l x y with
     |none=>none
     |some u=>match ih xs ys with
      |none=>none
      |some c=>some (u&&c)) ls
def Jb (t:Dn) (x y:AV):Option Bool:=match t with
 |.one l=>Iv l x y
 |.agg ls=>match x with
  |.agg a=>match y with
   |.agg b=>Dl ls a b
   |_=>none
  |_=>none
 |.slice=>match x with
  |.ay=>match y with
   |.ay=>some true
   |.ei ..=>some false
   |.ref ..=>some false
   |_=>none
  |.ei ..=>match y with
   |.ay=>some false
   |_=>none
  |.ref ..=>match y with
   |.ay=>some false
   |_=>none
  |_=>none
def bk (d:Nat):aU->AV->Option AV:=
 Nat.rec (motive:=fun _=>aU->AV->Option AV) (fun _ _=>none)
  (fun _ ih H v=>match v with
   |.ref id g off es len cap ex=>match H.get id with
    |some (.row g' cells)=>bif Nat.beq g' g then match cut cells off (Nat.mul len es) with
      |some cs=>match fo (ih H) cs with
       |some cs=>some (.ei cs len (Bool.rec none (some cap) ex))
       |none=>none
      |none=>none
     else none
    |_=>none
   |.agg cs=>match fo (ih H) cs with
    |some cs=>some (.agg cs)
    |none=>none
   |.iR cs=>match fo (ih H) cs with
    |some cs=>some (.iR cs)
    |none=>none
   |.ptr ..=>none
   |.nU _=>none
   |v=>some v) d
def bx (d:Nat):aU->AV->List Nat:=
 Nat.rec (motive:=fun _=>aU->AV->List Nat) (fun _ _=>[])
  (fun _ ih H v=>match v with
   |.ref id _ off es len _ _=>match H.get id with
    |some (.row _ cells)=>id::(match cut cells off (Nat.mul len es) with|some cs=>cs.flatMap (ih H)|none=>[])
    |_=>[id]
   |.agg cs=>cs.flatMap (ih H)
   |.iR cs=>cs.flatMap (ih H)
   |_=>[]) d
def own (d:Nat):aU->AV->Bool:=
 Nat.rec (motive:=fun _=>aU->AV->Bool) (fun _ _=>false)
  (fun _ ih H v=>match v with
   |.ref id _ off es len _ _=>match H.get id with
    |some (.row _ cells)=>match cut cells off (Nat.mul len es) with|some cs=>cz (ih H) cs|none=>false
    |_=>false
   |.agg cs=>cz (ih H) cs
   |.iR cs=>cz (ih H) cs
   |.ei cs _ _=>match cs with|[]=>true|_::_=>false
   |.ic ..=>false
   |.ptr ..=>false
   |.nU _=>false
   |_=>true) d
def deep:Nat:=30
inductive aR where
 |t (n:Nat)
 |c (v:AV)
 deriving Inhabited
inductive Mode where
 |share
 |borrow
inductive fO where
 |mv (x:aR)
 |pick (c a b:aR)
 |alloc (zero:List AV)
 |box (x:aR)
 |build (zero:List AV) (parts:List (Nat×Nat×aR))
 |jd (es len:Nat) (zero:List AV) (parts:List (Nat×Nat×aR))
 |b6 (len:Nat) (zero:List AV) (parts:List (Nat×Nat×aR))
 |load (sz:Option Nat) (a:aR)
 |store (sz:Nat) (a x:aR)
 |lW (x:aR)
 |bin (op:BinOp) (x y:aR)
 |eq (t:Dn) (neg:Bool) (x y:aR)
 |un (op:UnOp) (x:aR)
 |conv (k:IntKind) (x:aR)
 |vg (es bytes:Nat) (zero:List AV) (n:aR)
 |nO (x:aR) (lo hi:Option aR)
 |n_ (es:Nat) (x:aR) (lo hi mx:Option aR)
 |k9 (n es:Nat) (x:aR) (lo hi mx:Option aR)
 |kO (off:Nat) (x:aR)
 |F5 (off:Nat) (sz:Option Nat) (x:aR)
 |dP (es:Nat) (x i:aR)
 |oM (len es:Nat) (x i:aR)
 |idx (x i:aR)
 |ext (i:Nat) (x:aR)
 |app (es bytes:Nat) (s x:aR)
 |Gv (es:Nat) (d s:aR)
 |Kw (es:Nat) (zero:List AV) (x:aR)
 |len (str:Bool) (x:aR)
 |DR (mx:Bool) (xs:List aR)
 |ri
 |q_ (t:Dn) (zero:AV) (ok:Bool) (m k:aR)
 |Bh (t:Dn) (m k v:aR)
 |zm (m:aR)
 |call (f:Nat) (args:List aR) (m:Mode)
 |eP (f:aR) (args:List aR) (m:Mode)
 deriving Inhabited
structure aq where
 dst:Option Nat
 op:fO
 gd:Option (Nat×Bool)
 fz:Bool
 deriving Inhabited
abbrev o (d:Nat) (op:fO):aq:=⟨some d,op,none,false⟩
abbrev i64 (n:Int):aR:=.c (.int .i64 n)
inductive c8 where
 |skip
 |aQ (ops:List aq)
 |cj (ops:List aq) (ahead:List (List Nat)) (pairs:List (Nat×Nat))
 |seq (a b:c8)
 |cond (c:aR) (a b:c8)
 |block (id:Nat) (c:c8)
 |loop (c:c8)
 |exit (id:Nat)
 |ret
 deriving Inhabited
inductive ny where
 |tmp (t:Nat)
 |cell (t:Nat) (sz:Option Nat)
structure ak where
 params:Nat
 nt:Nat
 res:List ny
 body:c8
structure Di where
 id:Nat
 g:Nat
 off:Nat
 len:Nat
structure Out where
 val:Nat->AV
 obj:Option fZ
 new:Option fZ
inductive bg where
 |val (v:AV)
 |new (val:Nat->AV) (o:fZ)
 |look (q:Option Di) (u:Option Nat) (k:List AV->Option fZ->Option Out)
abbrev eV (v:AV):bg:=.val v
def fe (v:Option AV):Option bg:=match v with|some v=>some (.val v)|none=>none
abbrev HQ (val:Nat->AV) (o:fZ):bg:=.new val o
def uX (g:Nat) (k:List AV->Option Out):Option fZ->Option Out
 |some (.row g' cells)=>bif Nat.beq g' g then k cells else none
 |_=>none
def most:Nat:=70368744177664
def DS (sz:Option Nat) (cs:List AV):Option AV:=match sz with
 |none=>match cs with|[v]=>some v|_=>none
 |some _=>some (.agg cs)
def fill (ρ:aR->AV) (parts:List (Nat×Nat×aR)):List AV->Option (List AV):=
 List.rec (motive:=fun _=>List AV->Option (List AV)) (fun cells=>some cells)
  (fun p _ ih cells=>match (ρ p.2.2).cells? with
   |none=>none
   |some cs=>bif Nat.beq cs.length p.2.1 then match dz cells p.1 cs with
     |some cells=>ih cells
     |none=>none
    else none) parts
def Dz (op:BinOp) (k:IntKind) (x y:Int):Option AV:=
 bif wm y 0 then none else match op with
  |.shl=>some (.int k (k.wrap (x*2 ^ min y.toNat k.bits)))
  |.shr=>some (.int k (x.fdiv (2 ^ min y.toNat k.bits)))
  |_=>none
def Ie (op:BinOp) (k:IntKind) (x y:Int):Option AV:=
 match op with
 |.add=>some (.int k (f_ k (x+y)))
 |.sub=>some (.int k (f_ k (x - y)))
 |.mul=>some (.int k (f_ k (x*y)))
 |.quo=>bif Gb y 0 then none else some (.int k (f_ k (x.tdiv y)))
 |.rem=>bif Gb y 0 then none else some (.int k (x.tmod y))
 |.and=>some (.int k (k.wrap (BitVec.ofInt k.bits x&&& BitVec.ofInt k.bits y).toNat))
 |.or=>some (.int k (k.wrap (BitVec.ofInt k.bits x||| BitVec.ofInt k.bits y).toNat))
 |.xor=>some (.int k (k.wrap (BitVec.ofInt k.bits x ^^^ BitVec.ofInt k.bits y).toNat))
 |.andNot=>some (.int k (k.wrap (BitVec.ofInt k.bits x&&& ~~~BitVec.ofInt k.bits y).toNat))
 |.eql=>some (.bool (Gb x y))
 |.neq=>some (.bool !(Gb x y))
 |.lss=>some (.bool (wm x y))
 |.leq=>some (.bool !(wm y x))
 |.gtr=>some (.bool (wm y x))
 |.geq=>some (.bool !(wm x y))
 |.shl=>none
 |.shr=>none
def N6 (op:BinOp) (x y:ByteArray):Option AV:=
 match op with
 |.add=>bif Nat.ble (x.size+y.size) most then some (.str (x++y)) else none
 |.eql=>some (.bool (x.toList == y.toList))
 |.neq=>some (.bool !(x.toList == y.toList))
 |.lss=>some (.bool (Op.bytesLess x.toList y.toList))
 |.leq=>some (.bool (Op.bytesLess x.toList y.toList||x.toList == y.toList))
 |.gtr=>some (.bool !(Op.bytesLess x.toList y.toList||x.toList == y.toList))
 |.geq=>some (.bool !(Op.bytesLess x.toList y.toList))
 |_=>none
def Dc (op:BinOp) (x y:AV):Option AV:=match x with
 |.int k a=>match y with
  |.int k' b=>match op with
   |.shl=>Dz .shl k a b
   |.shr=>Dz .shr k a b
   |op=>bif Jc k k' then Ie op k a b else none
  |_=>none
 |.str a=>match y with
  |.str b=>N6 op a b
  |_=>none
 |_=>none
def Lf (op:UnOp) (x:AV):Option AV:=match op with
 |.neg=>match x with|.int k n=>some (.int k (f_ k (0 - n)))|_=>none
 |.not=>match x with|.bool b=>some (.bool !b)|_=>none
 |.xor=>match x with|.int k n=>Ie .xor k (if k.signed then -1 else k.max) n|_=>none
 |.plus=>none
def Ng (mx:Bool):AV->List AV->Option AV
 |v,[]=>some v
 |.int k a,.int _ b::rest=>Ng mx (.int k (match mx with|true=>(bif wm a b then b else a)|false=>(bif wm b a then b else a))) rest
 |_,_=>none
def Fv (ρ:aR->AV) (x:Option aR) (other y:Nat):Option Nat:=match x with
 |none=>some other
 |some o=>match ρ o with
  |.int _ i=>MA i y
  |_=>none
def lM (ρ:aR->AV) (lo hi mx:Option aR) (len cap:Nat):Option (Nat×Nat×Nat):=match Fv ρ mx cap cap with
 |none=>none
 |some m=>match Fv ρ hi len m with
  |none=>none
  |some h=>match Fv ρ lo 0 h with
   |none=>none
   |some l=>some (l,h,m)
inductive Src where
 |list (cs:List AV)
 |w7 (r:Di)
def dU (es:Nat):AV->Option (Nat×Src)
 |.ay=>some (0,.list [])
 |.ei cs n _=>bif Nat.beq (Nat.mul n es) cs.length then some (n,.list cs) else none
 |.ref id g off es' len _ _=>bif Nat.beq es' es then some (len,.w7 ⟨id,g,off,Nat.mul len es⟩) else none
 |_=>none
def Src.q:Src->Option Di
 |.w7 r=>some r
 |.list _=>none
def Src.cs:Src->List AV->List AV
 |.list cs,_=>cs
 |.w7 _,a=>a
def Bn:AV->Bool
 |.ay=>true
 |.ei ..=>true
 |.ref ..=>true
 |_=>false
def y_ (es:Nat) (id g off len cap:Nat) (ex:Bool) (m:Nat) (src:Src):bg:=
 bif Nat.ble (Nat.add len m) cap then
  .look src.q (some id) (fun a=>uX g fun cells=>match dz cells (Nat.add off (Nat.mul len es)) (src.cs a) with
   |some cells'=>some ⟨fun _=>.ref id g off es (Nat.add len m) cap ex,some (.row g cells'),none⟩
   |none=>none)
 else bif ex then
  .look src.q (some id) (fun a=>uX g fun cells=>match cut cells off (Nat.mul len es) with
   |some cs=>some ⟨fun id=>.ref id 0 0 es (Nat.add len m) (Nat.add len m) false,none,some (.row 0 (cs++src.cs a))⟩
   |none=>none)
 else
  .look src.q (some id) (fun a=>uX g fun cells=>bif Nat.beq (Nat.add off (Nat.mul len es)) cells.length then
    some ⟨fun _=>.ref id (Nat.succ g) 0 es (Nat.add len m) (Nat.add len m) false,some (.row (Nat.succ g) (cells.drop off++src.cs a)),none⟩
   else none)
def qW (es bytes:Nat) (s x:AV):Option bg:=match dU es x with
 |none=>none
 |some (m,src)=>bif Nat.beq m 0 then (bif Bn s then some (eV s) else none) else
  match s with
  |.ay=>bif Nat.ble (Nat.mul m bytes) most&&Nat.ble m most then
    some (.look src.q none fun a _=>some ⟨fun id=>.ref id 0 0 es m m false,none,some (.row 0 (src.cs a))⟩) else none
  |.ei cs n (some c)=>bif Nat.blt c (Nat.add n m)&&Nat.beq (Nat.mul n es) cs.length&&Nat.ble (Nat.mul (Nat.add n m) bytes) most&&Nat.ble (Nat.add n m) most then
    some (.look src.q none fun a _=>some ⟨fun id=>.ref id 0 0 es (Nat.add n m) (Nat.add n m) false,none,some (.row 0 (cs++src.cs a))⟩) else none
  |.ref id g off es' len cap ex=>bif Nat.beq es' es&&Nat.ble (Nat.mul (Nat.add len m) bytes) most&&Nat.ble (Nat.add len m) most then
    some (y_ es id g off len cap ex m src) else none
  |_=>none
def C3 (es:Nat) (d s:AV):Option bg:=match dU es s with
 |none=>none
 |some (m,src)=>match d with
  |.ay=>some (eV (.int .i64 0))
  |.ref id g off es' len _ _=>bif Nat.beq es' es then
    some (.look src.q (some id) fun a=>uX g fun cells=>match first (src.cs a) (Nat.mul (min m len) es) with
     |some cs=>match dz cells off cs with
      |some cells'=>some ⟨fun _=>.int .i64 (min m len),some (.row g cells'),none⟩
      |none=>none
     |none=>none) else none
  |_=>none
def Dy (es:Nat) (ρ:aR->AV) (x:AV) (lo hi mx:Option aR):Option AV:=match x with
 |.ay=>match lM ρ lo hi mx 0 0 with
  |none=>none
  |some _=>some .ay
 |.ei cs n cap=>bif Nat.beq (Nat.mul n es) cs.length then match lM ρ lo hi mx n n with
  |none=>none
  |some (l,h,m)=>match cut cs (Nat.mul l es) (Nat.mul (Nat.sub h l) es) with
   |some cs'=>some (.ei cs' (Nat.sub h l) (match mx with|some _=>some (Nat.sub m l)|none=>match cap with|some c=>some (Nat.sub c l)|none=>none))
   |none=>none
  else none
 |.ref id g off es' len cap ex=>bif Nat.beq es' es then match lM ρ lo hi mx len cap with
  |none=>none
  |some (l,h,m)=>some (.ref id g (Nat.add off (Nat.mul l es)) es (Nat.sub h l) (Nat.sub m l) (match mx with|some _=>true|none=>ex))
  else none
 |_=>none
def KY (t:Dn) (k:AV) (es:List (AV×AV)):Nat->Option (Option (Nat×AV)):=
 List.rec (motive:=fun _=>Nat->Option (Option (Nat×AV))) (fun _=>some none)
  (fun p _ ih i=>match Jb t k p.1 with
   |none=>none
   |some true=>some (some (i,p.2))
   |some false=>ih (Nat.succ i)) es
def cP (sz:Option Nat):Nat:=match sz with|none=>1|some n=>n
section
variable (ρ:aR->AV)
def tj (c a b:aR):Option bg:=match ρ c with
 |.bool t=>match t with
  |true=>some (eV (ρ a))
  |false=>some (eV (ρ b))
 |_=>none
def Cv (x:aR):Option bg:=match (ρ x).cells? with
 |some cs=>some (HQ (fun id=>.ptr id 0 0) (.row 0 cs))
 |none=>none
def mZ (zero:List AV) (parts:List (Nat×Nat×aR)):Option bg:=match fill ρ parts zero with
 |some cs=>some (eV (.agg cs))
 |none=>none
def lq (es len:Nat) (zero:List AV) (parts:List (Nat×Nat×aR)):Option bg:=match fill ρ parts zero with
 |some cs=>some (HQ (fun id=>.ref id 0 0 es len len false) (.row 0 cs))
 |none=>none
def ep (len:Nat) (zero:List AV) (parts:List (Nat×Nat×aR)):Option bg:=match fill ρ parts zero with
 |some cs=>bif cz AV.flat cs then some (eV (.ei cs len (some len))) else none
 |none=>none
def lp (sz:Option Nat) (a:aR):Option bg:=match ρ a with
 |.ptr id g off=>some (.look (some ⟨id,g,off,cP sz⟩) none fun cs _=>match DS sz cs with|some v=>some ⟨fun _=>v,none,none⟩|none=>none)
 |.ic cs off=>match cut cs off (cP sz) with
  |some cs=>fe (DS sz cs)
  |none=>none
 |_=>none
def lF (sz:Nat) (a x:aR):Option bg:=match ρ a with
 |.ptr id g off=>match (ρ x).cells? with
  |some cs=>bif Nat.beq cs.length sz then
    some (.look none (some id) fun _=>uX g fun cells=>match dz cells off cs with
     |some cells'=>some ⟨fun _=>dQ,some (.row g cells'),none⟩
     |none=>none) else none
  |none=>none
 |_=>none
def j_ (x:aR):Option bg:=match ρ x with
 |.ptr id g off=>some (eV (.ptr id g off))
 |.ic cs off=>some (eV (.ic cs off))
 |.func f=>some (eV (.func f))
 |_=>none
def HB (t:Dn) (neg:Bool) (x y:aR):Option bg:=match Jb t (ρ x) (ρ y) with
 |some b=>some (eV (.bool (match neg with|true=>!b|false=>b)))
 |none=>none
def wj (k:IntKind) (x:aR):Option bg:=match ρ x with
 |.int _ n=>some (eV (.int k (f_ k n)))
 |_=>none
def wh (es bytes:Nat) (zero:List AV) (n:aR):Option bg:=match ρ n with
 |.int k m=>match MA m most with
  |some m=>bif Jc k .i64&&Nat.ble (Nat.mul m bytes) most then some (HQ (fun id=>.ref id 0 0 es m m false) (.row 0 (rows m zero))) else none
  |none=>none
 |_=>none
def oh (x:aR) (lo hi:Option aR):Option bg:=match ρ x with
 |.str s=>match lM ρ lo hi none s.size s.size with
  |none=>none
  |some (l,h,_)=>some (eV (.str (s.extract l h)))
 |_=>none
def lG (n es:Nat) (x:aR) (lo hi mx:Option aR):Option bg:=match ρ x with
 |.ptr id g off=>match lM ρ lo hi mx n n with
  |none=>none
  |some (l,h,m)=>some (.look (some ⟨id,g,off,Nat.mul n es⟩) none fun _ _=>some ⟨fun _=>.ref id g (Nat.add off (Nat.mul l es)) es (Nat.sub h l) (Nat.sub m l) true,none,none⟩)
 |_=>none
def ju (off:Nat) (x:aR):Option bg:=match ρ x with
 |.ptr id g o=>some (eV (.ptr id g (Nat.add o off)))
 |.ic cs o=>some (eV (.ic cs (Nat.add o off)))
 |_=>none
def Ct (off:Nat) (sz:Option Nat) (x:aR):Option bg:=match ρ x with
 |.agg cs=>match cut cs off (cP sz) with
  |some cs=>fe (DS sz cs)
  |none=>none
 |_=>none
def ke (es:Nat) (x i:aR):Option bg:=match ρ i with
 |.int _ i=>match ρ x with
  |.ei cs n _=>match H9 i n with
   |some i=>match cs with
    |[]=>none
    |_::_=>some (eV (.ic cs (Nat.mul i es)))
   |none=>none
  |.ref id g off es' len _ _=>bif Nat.beq es' es then match H9 i len with
   |some i=>some (eV (.ptr id g (Nat.add off (Nat.mul i es))))
   |none=>none
   else none
  |_=>none
 |_=>none
def om (len es:Nat) (x i:aR):Option bg:=match ρ i with
 |.int _ i=>match H9 i len with
  |some i=>match ρ x with
   |.ptr id g o=>some (eV (.ptr id g (Nat.add o (Nat.mul i es))))
   |.ic cs o=>some (eV (.ic cs (Nat.add o (Nat.mul i es))))
   |_=>none
  |none=>none
 |_=>none
def Cs (x i:aR):Option bg:=match ρ x with
 |.str s=>match ρ i with
  |.int _ (.ofNat i)=>match s[i]? with
   |some b=>some (eV (.int .u8 b.toNat))
   |none=>none
  |_=>none
 |_=>none
def Cu (i:Nat) (x:aR):Option bg:=match ρ x with
 |.iR vs=>fe vs[i]?
 |_=>none
def JG (es:Nat) (zero:List AV) (x:aR):Option bg:=match ρ x with
 |.ay=>some (eV dQ)
 |.ref id g off es' len _ _=>bif Nat.beq es' es then
   some (.look none (some id) fun _=>uX g fun cells=>match dz cells off (rows len zero) with
    |some cells'=>some ⟨fun _=>dQ,some (.row g cells'),none⟩
    |none=>none) else none
 |_=>none
def lH (str:Bool) (x:aR):Option bg:=match str with
 |true=>match ρ x with
  |.str s=>some (eV (.int .i64 s.size))
  |_=>none
 |false=>match ρ x with
  |.ay=>some (eV (.int .i64 0))
  |.ei _ n _=>some (eV (.int .i64 n))
  |.ref _ _ _ _ len _ _=>some (eV (.int .i64 len))
  |_=>none
def Ba (mx:Bool) (xs:List aR):Option bg:=match xs.map ρ with
 |v::vs=>fe (Ng mx v vs)
 |[]=>none
def L2 (k:List (AV×AV)->Option Out):Option fZ->Option Out
 |some (.map es)=>k es
 |_=>none
def HA (t:Dn) (zero:AV) (ok:Bool) (m k:aR):Option bg:=bif (ρ k).Ia then none else match ρ m with
 |.nU id=>some (.look none (some id) fun _=>L2 fun es=>match KY t (ρ k) es 0 with
  |none=>none
  |some none=>some ⟨fun _=>match ok with|true=>.iR [zero,.bool false]|false=>zero,none,none⟩
  |some (some (_,v))=>some ⟨fun _=>match ok with|true=>.iR [v,.bool true]|false=>v,none,none⟩)
 |_=>none
def KQ (t:Dn) (m k v:aR):Option bg:=bif (ρ k).Ia||(ρ v).Ia then none else match ρ m with
 |.nU id=>some (.look none (some id) fun _=>L2 fun es=>match KY t (ρ k) es 0 with
  |none=>none
  |some none=>some ⟨fun _=>dQ,some (.map (es++[(ρ k,ρ v)])),none⟩
  |some (some (i,_))=>some ⟨fun _=>dQ,some (.map (es.set i (ρ k,ρ v))),none⟩)
 |_=>none
def KR (m:aR):Option bg:=match ρ m with
 |.nU id=>some (.look none (some id) fun _=>L2 fun es=>some ⟨fun _=>.int .i64 es.length,none,none⟩)
 |_=>none
end
inductive Um where
 |plan (p:(aR->AV)->Option bg)
 |call (f:Nat) (args:List aR) (m:Mode)
 |eP (f:aR) (args:List aR) (m:Mode)
def kind (op:fO):Um:=match op with
 |.mv x=>.plan fun ρ=>some (eV (ρ x))
 |.pick c a b=>.plan fun ρ=>tj ρ c a b
 |.alloc zero=>.plan fun _=>some (HQ (fun id=>.ptr id 0 0) (.row 0 zero))
 |.box x=>.plan fun ρ=>Cv ρ x
 |.build zero parts=>.plan fun ρ=>mZ ρ zero parts
 |.jd es len zero parts=>.plan fun ρ=>lq ρ es len zero parts
 |.b6 len zero parts=>.plan fun ρ=>ep ρ len zero parts
 |.load sz a=>.plan fun ρ=>lp ρ sz a
 |.store sz a x=>.plan fun ρ=>lF ρ sz a x
 |.lW x=>.plan fun ρ=>j_ ρ x
 |.bin op x y=>.plan fun ρ=>fe (Dc op (ρ x) (ρ y))
 |.eq t neg x y=>.plan fun ρ=>HB ρ t neg x y
 |.un op x=>.plan fun ρ=>fe (Lf op (ρ x))
 |.conv k x=>.plan fun ρ=>wj ρ k x
 |.vg es bytes zero n=>.plan fun ρ=>wh ρ es bytes zero n
 |.nO x lo hi=>.plan fun ρ=>oh ρ x lo hi
 |.n_ es x lo hi mx=>.plan fun ρ=>fe (Dy es ρ (ρ x) lo hi mx)
 |.k9 n es x lo hi mx=>.plan fun ρ=>lG ρ n es x lo hi mx
 |.kO off x=>.plan fun ρ=>ju ρ off x
 |.F5 off sz x=>.plan fun ρ=>Ct ρ off sz x
 |.dP es x i=>.plan fun ρ=>ke ρ es x i
 |.oM len es x i=>.plan fun ρ=>om ρ len es x i
 |.idx x i=>.plan fun ρ=>Cs ρ x i
 |.ext i x=>.plan fun ρ=>Cu ρ i x
 |.app es bytes s x=>.plan fun ρ=>qW es bytes (ρ s) (ρ x)
 |.Gv es d s=>.plan fun ρ=>C3 es (ρ d) (ρ s)
 |.Kw es zero x=>.plan fun ρ=>JG ρ es zero x
 |.len str x=>.plan fun ρ=>lH ρ str x
 |.DR mx xs=>.plan fun ρ=>Ba ρ mx xs
 |.ri=>.plan fun _=>some (HQ (fun id=>.nU id) (.map []))
 |.q_ t zero ok m k=>.plan fun ρ=>HA ρ t zero ok m k
 |.Bh t m k v=>.plan fun ρ=>KQ ρ t m k v
 |.zm m=>.plan fun ρ=>KR ρ m
 |.call f args m=>.call f args m
 |.eP f args m=>.eP f args m
def dr (H:aU):Option Di->Option (List AV)
 |none=>some []
 |some r=>match H.get r.id with
  |some (.row g cells)=>bif Nat.beq g r.g then cut cells r.off r.len else none
  |_=>none
def i_ (H:aU):Option Nat->Option (Option fZ)
 |none=>some none
 |some id=>match H.get id with
  |some o=>some (some o)
  |none=>none
def uT (H:aU) (u:Option Nat) (ob:Option fZ):aU:=match ob with
 |none=>H
 |some ob=>match u with
  |some id=>H.put (some ob) id
  |none=>H
def fq (q:Option Di) (u:Option Nat) (k:List AV->Option fZ->Option Out) (H:aU) (nx:Nat):Option (AV×aU×Nat):=match dr H q with
 |none=>none
 |some a=>match i_ H u with
  |none=>none
  |some o=>match k a o with
   |none=>none
   |some out=>match out.new with
    |some ob=>some (out.val nx,(uT H u out.obj).put (some ob) nx,Nat.succ nx)
    |none=>some (out.val nx,uT H u out.obj,nx)
def cO (p:bg) (H:aU) (nx:Nat):Option (AV×aU×Nat):=match p with
 |.val v=>some (v,H,nx)
 |.new f o=>some (f nx,H.put (some o) nx,Nat.succ nx)
 |.look q u k=>fq q u k H nx
def ev (e:Env):aR->AV
 |.t n=>match e.get n with|some v=>v|none=>dQ
 |.c v=>v
def fO.c4:fO->List aR
 |.mv x|.box x|.load _ x|.lW x|.un _ x|.conv _ x|.vg _ _ _ x|.kO _ x|.F5 _ _ x|.ext _ x|.Kw _ _ x|.len _ x|.zm x=>[x]
 |.pick c a b=>[c,a,b]
 |.alloc _|.ri=>[]
 |.build _ ps|.jd _ _ _ ps|.b6 _ _ ps=>ps.map (·.2.2)
 |.store _ a x|.bin _ a x|.eq _ _ a x|.dP _ a x|.oM _ _ a x|.idx a x|.app _ _ a x|.Gv _ a x|.q_ _ _ _ a x=>[a,x]
 |.nO x l h=>x::(l.toList++h.toList)
 |.n_ _ x l h m|.k9 _ _ x l h m=>x::(l.toList++h.toList++m.toList)
 |.Bh _ m k v=>[m,k,v]
 |.DR _ as=>as
 |.call _ as _=>as
 |.eP f as _=>f::as
def drop (H:aU):List Nat->aU
 |[]=>H
 |id::rest=>drop (H.put none id) rest
abbrev iy:=Nat->List AV->aU->Nat->Option (AV×aU×Nat)
def fU (r:Option (AV×aU×Nat)) (must:Bool):Option AV:=match r with
 |none=>none
 |some (r,Hc,_)=>bif must then (bif own deep Hc r then bk deep Hc r else none) else (bif r.plain then some r else bk deep Hc r)
def cR (cf:iy) (f:Nat) (args:List AV) (m:Mode) (H:aU) (nx:Nat):Option (AV×aU×Nat):=match m with
 |.share=>cf f args H nx
 |.borrow=>bif cz AV.plain args then
   match fU (cf f args .leaf 0) false with
   |some r=>some (r,H,nx)
   |none=>none
  else match fo (bk deep H) args with
   |none=>none
   |some as=>match fU (cf f as .leaf 0) true with
    |some r=>some (r,H,nx)
    |none=>none
def iO (cf:iy) (op:fO) (ρ:aR->AV) (H:aU) (nx:Nat):Option (AV×aU×Nat):=match kind op with
 |.plan p=>match p ρ with
  |some p=>cO p H nx
  |none=>none
 |.call f args m=>cR cf f (args.map ρ) m H nx
 |.eP f args m=>match ρ f with
  |.func g=>cR cf g (args.map ρ) m H nx
  |_=>none
def sx (H:aU) (ρ:aR->AV) (x:aR):AV:=match bk deep H (ρ x) with
 |some v=>v
 |none=>ρ x
def nW (cf:iy) (o:aq) (ρ:aR->AV) (H:aU) (nx:Nat):Option (AV×aU×Nat):=
 bif o.fz then match o.op with
  |.b6 len zero parts=>match fo (bk deep H) (parts.map fun p=>ρ p.2.2) with
   |none=>none
   |some _=>match ep (sx H ρ) len zero parts with
    |some (.val v)=>some (v,drop H ((parts.map fun p=>ρ p.2.2).flatMap (bx deep H)),nx)
    |_=>none
  |_=>none
 else iO cf o.op ρ H nx
structure St where
 env:Env
 H:aU
 nx:Nat
def wanted (e:Env):Option (Nat×Bool)->Bool
 |none=>true
 |some (g,b)=>match e.get g with
  |some (.bool b')=>b' == b
  |_=>false
def u5 (nt:Nat) (e:Env) (d:Option Nat) (v:AV):Option Env:=match d with
 |none=>some e
 |some d=>bif Nat.blt d nt then some (e.put (some v) d) else none
def dV (cf:iy) (nt:Nat) (o:aq) (st:St):Option St:=
 bif wanted st.env o.gd then
  match nW cf o (ev st.env) st.H st.nx with
  |none=>none
  |some (v,H,nx)=>match u5 nt st.env o.dst v with
   |some e=>some ⟨e,H,nx⟩
   |none=>none
 else match u5 nt st.env o.dst dQ with
  |some e=>some ⟨e,st.H,st.nx⟩
  |none=>none
def eY (cf:iy) (nt:Nat) (l:List aq):St->Option St:=
 List.rec (motive:=fun _=>St->Option St) (fun st=>some st)
  (fun o _ ih st=>match dV cf nt o st with
   |some st=>ih st
   |none=>none) l
mutual
def jx:AV->AV->Bool
 |.bool a,.bool b=>a == b
 |.int k a,.int k' b=>Jc k k'&&Gb a b
 |.str a,.str b=>decide (a=b)
 |.qR,.qR=>true
 |.ay,.ay=>true
 |.ptr a b c,.ptr a' b' c'=>Nat.beq a a'&&Nat.beq b b'&&Nat.beq c c'
 |.ic cs o,.ic cs' o'=>oU cs cs'&&Nat.beq o o'
 |.ei cs n c,.ei cs' n' c'=>oU cs cs'&&Nat.beq n n'&&decide (c=c')
 |.ref a b c d e f x,.ref a' b' c' d' e' f' x'=>Nat.beq a a'&&Nat.beq b b'&&Nat.beq c c'&&Nat.beq d d'&&Nat.beq e e'&&Nat.beq f f'&&x == x'
 |.agg cs,.agg cs'=>oU cs cs'
 |.iR cs,.iR cs'=>oU cs cs'
 |.func f,.func f'=>Nat.beq f f'
 |.nU f,.nU f'=>Nat.beq f f'
 |_,_=>false
def oU:List AV->List AV->Bool
 |[],[]=>true
 |x::xs,y::ys=>jx x y&&oU xs ys
 |_,_=>false
end
inductive Rd where
 |w7 (r:Di)
 |obj (id:Nat)
 |all
inductive M4 where
 |ids (l:List Nat)
 |all
structure Rec where
 dW:List Rd
 cW:M4
 H0:aU
 H1:aU
 CC:Nat
 uN:Nat
def bg.dW:bg->List Rd
 |.look q u _=>(match q with|some r=>[.w7 r]|none=>[])++(match u with|some id=>[.obj id]|none=>[])
 |_=>[]
def bg.cW:bg->List Nat
 |.look _ u _=>(match u with|some id=>[id]|none=>[])
 |_=>[]
abbrev Qp:=AV×aU×Nat×List Rd×M4
def dm (cf:iy) (n0:Nat) (f:Nat) (args:List AV) (m:Mode) (H:aU) (nx:Nat):Option Qp:=match m with
 |.share=>match cf f args (H.upto fun i=>Nat.blt i n0) nx with
  |some (v,H',nx')=>some (v,(H'.upto fun i=>Nat.blt i n0||(Nat.ble nx i&&Nat.blt i nx')).union (H.upto fun i=>!(Nat.blt i n0||(Nat.ble nx i&&Nat.blt i nx'))),nx',[.all],.all)
  |none=>none
 |.borrow=>bif cz AV.plain args then
   match cR cf f args .borrow H nx with
   |some (v,_,_)=>some (v,H,nx,[],.ids [])
   |none=>none
  else match cR cf f args .borrow (H.upto fun i=>Nat.blt i n0) nx with
   |some (v,_,_)=>some (v,H,nx,[.all],.ids [])
   |none=>none
def o_ (cf:iy) (n0:Nat) (op:fO) (ρ:aR->AV) (H:aU) (nx:Nat):Option Qp:=match kind op with
 |.plan p=>match p ρ with
  |some p=>match cO p H nx with
   |some (v,H',nx')=>some (v,H',nx',p.dW,.ids p.cW)
   |none=>none
  |none=>none
 |.call f args m=>dm cf n0 f (args.map ρ) m H nx
 |.eP f args m=>match ρ f with
  |.func g=>dm cf n0 g (args.map ρ) m H nx
  |_=>none
def gP (cf:iy) (n0:Nat) (o:aq) (ρ:aR->AV) (H:aU) (nx:Nat):Option Qp:=
 bif o.fz then match o.op with
  |.b6 len zero parts=>match fo (bk deep H) (parts.map fun p=>ρ p.2.2) with
   |none=>none
   |some _=>match ep (sx H ρ) len zero parts with
    |some (.val v)=>some (v,drop H ((parts.map fun p=>ρ p.2.2).flatMap (bx deep H)),nx,((parts.map fun p=>ρ p.2.2).flatMap (bx deep H)).map Rd.obj,.ids ((parts.map fun p=>ρ p.2.2).flatMap (bx deep H)))
    |_=>none
  |_=>none
 else o_ cf n0 o.op ρ H nx
def cq (cf:iy) (nt n0:Nat) (o:aq) (st:St):Option (St×Rec):=
 bif wanted st.env o.gd then
  match gP cf n0 o (ev st.env) st.H st.nx with
  |none=>none
  |some (v,H,nx,dW,cW)=>match u5 nt st.env o.dst v with
   |none=>none
   |some e=>some (⟨e,H,nx⟩,⟨dW,cW,st.H,H,st.nx,nx⟩)
 else match u5 nt st.env o.dst dQ with
  |none=>none
  |some e=>some (⟨e,st.H,st.nx⟩,⟨[],.ids [],st.H,st.H,st.nx,st.nx⟩)
def e8 (cf:iy) (nt n0:Nat):List aq->St->Option (St×List Rec)
 |[],st=>some (st,[])
 |o::rest,st=>match cq cf nt n0 o st with
  |none=>none
  |some (st1,r)=>match e8 cf nt n0 rest st1 with
   |none=>none
   |some (st',l)=>some (st',r::l)
def zQ (A B C:aU) (r:Di):Bool:=match dr A (some r),dr B (some r),dr C (some r) with
 |some x,some y,some z=>oU x z&&oU y z
 |_,_,_=>false
def js (a b:Rec):Rd->Bool
 |.w7 r=>match a.cW with
  |.ids l=>bif l.contains r.id then zQ a.H0 a.H1 b.H0 r else true
  |.all=>zQ a.H0 a.H1 b.H0 r
 |.obj id=>match a.cW with
  |.ids l=>!l.contains id
  |.all=>false
 |.all=>match a.cW with
  |.ids []=>true
  |_=>false
def still (a b:Rec):Bool:=cz (js a b) b.dW
def apart (a b:Rec):Bool:=match a.cW,b.cW with
 |.ids l,.ids l'=>l.all fun x=>!l'.contains x
 |.all,.ids []=>true
 |.ids [],.all=>true
 |_,_=>false
def j9 (rs:List Rec) (p:Nat×Nat):Bool:=match rs[p.1]?,rs[p.2]? with
 |some a,some b=>still a b&&still b a&&apart a b
 |_,_=>false
def CP (n0:Nat) (rs:List Rec) (ahead:List Nat) (id:Nat):Bool:=
 Nat.blt id n0||ahead.any fun i=>match rs[i]? with|some a=>Nat.ble a.CC id&&Nat.blt id a.uN|none=>false
def Hj (n0:Nat) (rs:List Rec) (ahead:List Nat):Rd->Bool
 |.w7 x=>CP n0 rs ahead x.id
 |.obj id=>CP n0 rs ahead id
 |.all=>true
def zw (n0:Nat) (rs:List Rec) (ahead:List Nat):M4->Bool
 |.ids l=>l.all (CP n0 rs ahead)
 |.all=>true
def kr (n0:Nat) (rs:List Rec):List (List Nat)->List Rec->Bool
 |a::as,r::rest=>r.dW.all (Hj n0 rs a)&&zw n0 rs a r.cW&&kr n0 rs as rest
 |[],[]=>true
 |_,_=>false
def eZ (cf:iy) (nt:Nat) (ops:List aq) (ahead:List (List Nat)) (pairs:List (Nat×Nat)) (st:St):Option St:=
 match e8 cf nt st.nx ops st with
 |none=>none
 |some (st',rs)=>bif kr st.nx rs ahead rs&&cz (j9 rs) pairs then some st' else none
inductive bY where
 |normal
 |exit (id:Nat)
 |ret
abbrev fW:=Nat->c8->St->Option (bY×St)
def bp (ex:fW) (cf:iy) (nt:Nat) (c:c8) (st:St):Option (bY×St):=match c with
 |.skip=>some (.normal,st)
 |.aQ ops=>match eY cf nt ops st with
  |some st=>some (.normal,st)
  |none=>none
 |.cj ops ahead pairs=>match eZ cf nt ops ahead pairs st with
  |some st=>some (.normal,st)
  |none=>none
 |.seq a b=>match ex nt a st with
  |some (.normal,st)=>ex nt b st
  |r=>r
 |.cond c a b=>match ev st.env c with
  |.bool true=>ex nt a st
  |.bool false=>ex nt b st
  |_=>none
 |.block id c=>match ex nt c st with
  |some (.exit i,st)=>bif Nat.beq i id then some (.normal,st) else some (.exit i,st)
  |r=>r
 |.loop c=>match ex nt c st with
  |some (.normal,st)=>ex nt (.loop c) st
  |r=>r
 |.exit id=>some (.exit id,st)
 |.ret=>some (.ret,st)
def dO:List AV->Nat->Env->Env
 |[],_,e=>e
 |v::vs,i,e=>dO vs (i+1) (e.put (some v) i)
def gi (e:Env) (H:aU):ny->Option AV
 |.tmp t=>some (ev e (.t t))
 |.cell t sz=>match ev e (.t t) with
  |.ptr id g off=>match dr H (some ⟨id,g,off,cP sz⟩) with
   |some cs=>DS sz cs
   |none=>none
  |_=>none
def kW (l:List ny) (st:St):Option (AV×aU×Nat):=match fo (gi st.env st.H) l with
 |some [v]=>some (v,st.H,st.nx)
 |some vs=>some (.iR vs,st.H,st.nx)
 |none=>none
def kz (prog:Map ak) (ex:fW):iy:=fun f args H nx=>match prog.get f with
 |none=>none
 |some af=>bif Nat.beq args.length af.params then
   match ex af.nt af.body ⟨dO args 0 .leaf,H,nx⟩ with
   |some (.normal,st)=>kW af.res st
   |some (.ret,st)=>kW af.res st
   |_=>none
  else none
structure Qk where
 code:fW
 fn:iy
def interp (prog:Map ak) (k:Nat):Qk:=
 Nat.rec (motive:=fun _=>Qk) ⟨fun _ _ _=>none,fun _ _ _ _=>none⟩ (fun _ p=>⟨bp p.code p.fn,kz prog p.code⟩) k
end Go.Ax
namespace Go.Ax
theorem uo {α:Sort _} (c:Bool) (a b:α):(Bool.rec a b c:α)=if c=true then b else a:=by cases c<;>rfl
namespace Map
variable {α:Type}
theorem oP (i:Nat):(leaf:Map α).get i=none:=rfl
theorem cQ (v:Option α) (l r:Map α) (i:Nat):(node v l r).get i=if i=0 then v else if i % 2=1 then l.get (i / 2) else r.get (i / 2 - 1):=by show (Bool.rec (Bool.rec (r.get (i / 2 - 1)) (l.get (i / 2)) (Nat.beq (i % 2) 1)) v (Nat.beq i 0):Option α)=_;simp only [uo,UQ]
theorem HF (v:Option α) (f i:Nat):one v (f+1) i=if i=0 then .node v .leaf .leaf else if i % 2=1 then .node none (one v f (i / 2)) .leaf else .node none .leaf (one v f (i / 2 - 1)):=by show (Bool.rec (Bool.rec (.node none .leaf (one v f (i / 2 - 1))) (.node none (one v f (i / 2)) .leaf) (Nat.beq (i % 2) 1)) (.node v .leaf .leaf) (Nat.beq i 0):Map α)=_;simp only [uo,UQ]
theorem Hv (v:Option α) (i:Nat):put v leaf i=one v (i+1) i:=rfl
theorem Hu (w v:Option α) (l r:Map α) (i:Nat):put w (node v l r) i=if i=0 then .node w l r else if i % 2=1 then .node v (put w l (i / 2)) r else .node v l (put w r (i / 2 - 1)):=by show (Bool.rec (Bool.rec (.node v l (put w r (i / 2 - 1))) (.node v (put w l (i / 2)) r) (Nat.beq (i % 2) 1)) (.node w l r) (Nat.beq i 0):Map α)=_;simp only [uo,UQ]
theorem J4 (v:Option α):∀(f i j:Nat),i < f->(one v f i).get j=if j=i then v else none:=by
 intro f
 induction f with
 |zero=>intro i j h;omega
 |succ f ih=>
  intro i j h;rw [HF];by_cases h0:i=0
  ·subst h0;simp only [if_true,cQ,oP];split<;>simp_all
  ·rw [if_neg h0];by_cases h1:i % 2=1
   ·rw [if_pos h1,cQ,ih _ _ (by omega)];by_cases hj:j=0
    ·subst hj;rw [if_pos rfl,if_neg (by omega)]
    ·rw [if_neg hj];by_cases hj1:j % 2=1
     ·rw [if_pos hj1];by_cases e:j=i
      ·subst e;simp
      ·rw [if_neg (by omega),if_neg e]
     ·rw [if_neg hj1,oP,if_neg (by rintro rfl;exact hj1 h1)]
   ·rw [if_neg h1,cQ,ih _ _ (by omega)];by_cases hj:j=0
    ·subst hj;rw [if_pos rfl,if_neg (by omega)]
    ·rw [if_neg hj];by_cases hj1:j % 2=1
     ·rw [if_pos hj1,oP,if_neg (by rintro rfl;exact h1 hj1)]
     ·rw [if_neg hj1];by_cases e:j=i
      ·subst e;simp
      ·rw [if_neg (by omega),if_neg e]
theorem aa (w:Option α) (m:Map α):∀(i j:Nat),(put w m i).get j=if j=i then w else m.get j:=by
 induction m with
 |leaf=>intro i j;rw [Hv,J4 _ _ _ _ (by omega),oP]
 |node v l r ihl ihr=>
  intro i j;rw [Hu];by_cases h0:i=0
  ·subst h0;rw [if_pos rfl,cQ,cQ];split<;>rfl
  ·rw [if_neg h0];by_cases h1:i % 2=1
   ·rw [if_pos h1,cQ,cQ,ihl];by_cases hj:j=0
    ·subst hj;rw [if_pos rfl,if_neg (by omega),if_pos rfl]
    ·rw [if_neg hj,if_neg hj];by_cases hj1:j % 2=1
     ·rw [if_pos hj1,if_pos hj1];by_cases e:j=i
      ·subst e;simp
      ·rw [if_neg (by omega),if_neg e]
     ·rw [if_neg hj1,if_neg hj1,if_neg (by rintro rfl;exact hj1 h1)]
   ·rw [if_neg h1,cQ,cQ,ihr];by_cases hj:j=0
    ·subst hj;rw [if_pos rfl,if_neg (by omega),if_pos rfl]
    ·rw [if_neg hj,if_neg hj];by_cases hj1:j % 2=1
     ·rw [if_pos hj1,if_pos hj1,if_neg (by rintro rfl;exact h1 hj1)]
     ·rw [if_neg hj1,if_neg hj1];by_cases e:j=i
      ·subst e;simp
      ·rw [if_neg (by omega),if_neg e]
theorem ij (m:Map α):∀(p:Nat->Bool) (i:Nat),(m.upto p).get i=if p i=true then m.get i else none:=by
 induction m with
 |leaf=>intro p i;show none=_;rw [oP];split<;>rfl
 |node v l r ihl ihr=>
  intro p i;show (node _ (l.upto _) (r.upto _)).get i=_;rw [cQ,cQ,ihl,ihr,uo];by_cases h0:i=0
  ·subst h0;simp
  ·rw [if_neg h0,if_neg h0];by_cases h1:i % 2=1
   ·rw [if_pos h1,if_pos h1];have e:Nat.succ (Nat.mul 2 (i / 2))=i:=by simp only [Nat.succ_eq_add_one,Nat.mul_eq];omega
    rw [e]
   ·rw [if_neg h1,if_neg h1];have e:Nat.succ (Nat.succ (Nat.mul 2 (i / 2 - 1)))=i:=by simp only [Nat.succ_eq_add_one,Nat.mul_eq];omega
    rw [e]
theorem Am (a:Map α):∀(b:Map α) (i:Nat),(a.union b).get i=match a.get i with|some x=>some x|none=>b.get i:=by
 induction a with
 |leaf=>intro b i;rfl
 |node v l r ihl ihr=>
  intro b i;cases b with
  |leaf=>show (node v l r).get i=_;cases (node v l r).get i<;>rfl
  |node v' l' r'=>
   show (node _ (l.union l') (r.union r')).get i=_;rw [cQ,cQ,cQ,ihl,ihr];by_cases h0:i=0
   ·simp only [if_pos h0];try (cases v<;>rfl)
   ·simp only [if_neg h0];by_cases h1:i % 2=1
    ·simp only [if_pos h1]
    ·simp only [if_neg h1]
end Map
theorem aX {α:Type} {f:α->Bool} {l:List α}:cz f l=true↔∀x∈l,f x=true:=by
 induction l with
 |nil=>exact⟨fun _ _ h=>(by cases h),fun _=>rfl⟩
 |cons x l ih=>
  show (Bool.rec false (cz f l) (f x):Bool)=true↔_;rw [uo];split
  ·rename_i h;rw [ih];simp [h]
  ·rename_i h;simp [h]
theorem cx {α β:Type} (f:α->Option β) (x:α) (l:List α):fo f (x::l)=match f x with|none=>none|some y=>match fo f l with|none=>none|some ys=>some (y::ys):=rfl
theorem CH {α β:Type} (f:α->Option β):fo f []=some []:=rfl
theorem iU {α β:Type} {f:α->Option β} {l:List α} {r:List β} (h:fo f l=some r):l.length=r.length/\∀(j:Nat) (x:α),l[j]?=some x->∃y,r[j]?=some y/\f x=some y:=by
 induction l generalizing r with
 |nil=>rw [CH] at h;cases h;exact⟨rfl,fun j x hx=>by simp at hx⟩
 |cons a l ih=>
  rw [cx] at h;cases ha:f a with
  |none=>rw [ha] at h;cases h
  |some y=>
   rw [ha] at h;cases hl:fo f l with
   |none=>rw [hl] at h;cases h
   |some ys=>
    rw [hl] at h;cases h;obtain⟨h1,h2⟩:=ih hl;refine⟨by simp [h1],fun j x hx=>?_⟩;cases j with
    |zero=>simp at hx;subst hx;exact⟨y,rfl,ha⟩
    |succ j=>simpa using h2 j x (by simpa using hx)
theorem F6 (n:Nat):first [] n=if n=0 then some [] else none:=by show (Bool.rec _ _ _:Option (List AV))=_;simp only [uo,UQ]
theorem Ea (x:AV) (l:List AV) (n:Nat):first (x::l) n=if n=0 then some [] else match first l (n - 1) with|some r=>some (x::r)|none=>none:=by show (Bool.rec (match first l (n - 1) with|some r=>some (x::r)|none=>none) (some []) (Nat.beq n 0):Option (List AV))=_;simp only [uo,UQ]
theorem uc (cells:List AV):∀n,first cells n=if n<=cells.length then some (cells.take n) else none:=by
 induction cells with
 |nil=>intro n;rw [F6];cases n<;>simp
 |cons x l ih=>
  intro n;rw [Ea,ih];cases n with
  |zero=>simp
  |succ n=>simp only [Nat.add_one_ne_zero,if_false,Nat.add_sub_cancel,UD,Nat.add_le_add_iff_right];by_cases h:n<=l.length<;>simp [h]
theorem Kt (off n:Nat):cut [] off n=if off=0 then first [] n else none:=by show (Bool.rec _ _ _:Option (List AV))=_;simp only [uo,UQ]
theorem Iz (x:AV) (l:List AV) (off n:Nat):cut (x::l) off n=if off=0 then first (x::l) n else cut l (off - 1) n:=by show (Bool.rec (cut l (off - 1) n) (first (x::l) n) (Nat.beq off 0):Option (List AV))=_;simp only [uo,UQ]
theorem dy (cells:List AV):∀off n,cut cells off n=if off+n<=cells.length then some ((cells.drop off).take n) else none:=by
 induction cells with
 |nil=>intro off n;rw [Kt,uc];cases off<;>simp
 |cons x l ih=>
  intro off n;rw [Iz,ih,uc];cases off with
  |zero=>simp
  |succ off=>simp only [Nat.add_one_ne_zero,if_false,Nat.add_sub_cancel,UD,List.drop_succ_cons];simp only [Nat.add_right_comm off 1 n,Nat.add_le_add_iff_right]
theorem iu {cells cs:List AV} {off n:Nat} (h:cut cells off n=some cs):off+n<=cells.length/\cs=(cells.drop off).take n:=by
 rw [dy] at h;split at h
 ·rename_i hl;exact⟨hl,by injection h with h;exact h.symm⟩
 ·cases h
theorem BB {cells cs:List AV} {off n:Nat} (h:cut cells off n=some cs):cs.length=n/\∀j,j < n->cs[j]?=cells[off+j]?:=by obtain⟨hl,rfl⟩:=iu h;refine⟨by simp;omega,fun j hj=>by rw [List.getElem?_take_of_lt hj,Uv]⟩
theorem FQ (cells:List AV):tq [] cells=some cells:=rfl
theorem DL (y:AV) (cs:List AV):∀cells,tq (y::cs) cells=match cells with|[]=>none|_::xs=>match tq cs xs with|some l=>some (y::l)|none=>none:=fun _=>rfl
theorem Cx (cs:List AV):∀cells,tq cs cells=if cs.length<=cells.length then some (cs++cells.drop cs.length) else none:=by
 induction cs with
 |nil=>intro cells;simp [FQ]
 |cons y cs ih=>
  intro cells;rw [DL];cases cells with
  |nil=>simp
  |cons x xs=>simp only [ih,UD,Nat.add_le_add_iff_right,List.drop_succ_cons,List.cons_append];by_cases h:cs.length<=xs.length<;>simp [h]
theorem HC (off:Nat) (cs:List AV):dz [] off cs=if off=0 then tq cs [] else none:=by show (Bool.rec _ _ _:Option (List AV))=_;simp only [uo,UQ]
theorem FP (x:AV) (l:List AV) (off:Nat) (cs:List AV):dz (x::l) off cs=if off=0 then tq cs (x::l) else match dz l (off - 1) cs with|some r=>some (x::r)|none=>none:=by show (Bool.rec (match dz l (off - 1) cs with|some r=>some (x::r)|none=>none) (tq cs (x::l)) (Nat.beq off 0):Option (List AV))=_;simp only [uo,UQ]
theorem jg (cells:List AV):∀off cs,dz cells off cs=if off+cs.length<=cells.length then some (cells.take off++cs++cells.drop (off+cs.length)) else none:=by
 induction cells with
 |nil=>intro off cs;rw [HC,Cx];cases off<;>simp
 |cons x l ih=>
  intro off cs;rw [FP,ih,Cx];cases off with
  |zero=>simp
  |succ off=>simp only [Nat.add_one_ne_zero,if_false,Nat.add_sub_cancel,UD,List.take_succ_cons,Nat.add_right_comm off 1 cs.length,Nat.add_le_add_iff_right,List.drop_succ_cons];by_cases h:off+cs.length<=l.length<;>simp [h]
theorem dR {cells cells' cs:List AV} {off:Nat} (h:dz cells off cs=some cells'):off+cs.length<=cells.length/\cells'=cells.take off++cs++cells.drop (off+cs.length):=by
 rw [jg] at h;split at h
 ·rename_i hl;exact⟨hl,by injection h with h;exact h.symm⟩
 ·cases h
theorem e9 {cells cells' cs:List AV} {off:Nat} (h:dz cells off cs=some cells'):cells'.length=cells.length/\∀j,cells'[j]?=if off<=j/\j < off+cs.length then cs[j - off]? else cells[j]?:=by
 obtain⟨hl,rfl⟩:=dR h;refine⟨by simp;omega,fun j=>?_⟩;by_cases h1:j < off
 ·rw [Uq (by simp;omega),Uq (by simp;omega),List.getElem?_take_of_lt h1,if_neg (by omega)]
 ·by_cases h2:j < off+cs.length
  ·rw [Uq (by simp;omega),Ur (by simp;omega),if_pos ⟨by omega,h2⟩];congr 1;simp;omega
  ·rw [Ur (by simp;omega),if_neg (by omega),Uv];congr 1;simp;omega
theorem vN {a b:IntKind} (h:Jc a b=true):a=b:=by cases a<;>cases b<;>first|rfl|cases h
theorem Ki (a b:IntKind):Jc a b=decide (a=b):=by cases a<;>cases b<;>rfl
theorem II (a b:Nat):Nat.blt a b=decide (a < b):=by rw [Bool.eq_iff_iff];simp [US]
theorem oz (x y:Int):wm x y=decide (x < y):=by
 cases x<;>cases y<;>simp only [wm,II]<;>first
  |(congr 1;simp only [Int.ofNat_eq_natCast,eq_iff_iff];omega)
  |(symm;rw [UT];simp only [Int.ofNat_eq_natCast];omega)
  |(symm;rw [UW];simp only [Int.ofNat_eq_natCast];omega)
theorem sy (x y:Int):Gb x y=decide (x=y):=by
 cases x<;>cases y<;>simp only [Gb]<;>first
  |(rw [Bool.eq_iff_iff,UQ,UT];simp only [Int.ofNat_eq_natCast];omega)
  |(rw [Bool.eq_iff_iff,UQ,UT,Int.negSucc.injEq])
  |(symm;rw [UW];simp only [Int.ofNat_eq_natCast];omega)
theorem tV {i:Int} {n m:Nat} (h:H9 i n=some m):i=(m:Int)/\m < n:=by
 cases i with
 |ofNat k=>
  simp only [H9,II,cond_eq_ite,UT] at h;split at h
  ·cases h;exact⟨rfl,by assumption⟩
  ·cases h
 |negSucc k=>cases h
theorem uq {i:Int} {n m:Nat} (h:MA i n=some m):i=(m:Int)/\m<=n:=by
 cases i with
 |ofNat k=>
  simp only [MA,cond_eq_ite,UR] at h;split at h
  ·cases h;exact⟨rfl,by assumption⟩
  ·cases h
 |negSucc k=>cases h
theorem nY (k:IntKind) (n:Int):f_ k n=k.wrap n:=by
 unfold f_;rw [cond_eq_ite];split
 ·rename_i h;cases k<;>cases n<;>simp only [Nh,II,UT] at h<;>simp only [IntKind.wrap,IntKind.bits,IntKind.signed,Int.ofNat_eq_natCast]<;>simp<;>omega
 ·rfl
end Go.Ax
end
