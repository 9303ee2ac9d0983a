/- Part 0 of the proof: Ax0, Ax1. -/
import GoSem.Step
set_option linter.unusedSimpArgs false
set_option linter.unusedVariables false
noncomputable section
namespace Go.Ax
abbrev PU:=@List.getElem?_eq_getElem
abbrev PV:=@List.getElem?_eq_some_iff
abbrev PW:=@List.getElem?_append_left
abbrev PX:=@List.getElem?_append_right
abbrev PY:=@List.getElem?_map
abbrev PZ:=@List.getElem?_eq_none
abbrev P0:=@List.getElem?_take
abbrev P3:=@List.getElem?_drop
abbrev P4:=@List.mem_of_getElem?
abbrev P5:=@List.getElem_mem
abbrev P6:=@List.length_map
abbrev P7:=@List.length_append
abbrev P8:=@List.length_take
abbrev P9:=@List.length_drop
abbrev P_:=@List.length_singleton
abbrev Qa:=@List.length_cons
abbrev Qb:=@List.length_set
abbrev Qc:=@List.mem_cons_self
abbrev Qd:=@List.mem_cons_of_mem
abbrev Qf:=@List.mem_cons
abbrev Qg:=@List.mem_append
abbrev Qh:=@List.mem_singleton
abbrev Qi:=@List.mem_map
abbrev Qj:=@List.all_eq_true
abbrev Qk:=@Bool.and_eq_true
abbrev Ql:=@Bool.or_eq_true
abbrev Qm:=@Bool.not_eq_true'
abbrev Qn:=@Nat.beq_eq
abbrev Qo:=@Nat.ble_eq
abbrev Qp:=@Nat.blt_eq
abbrev Qq:=@decide_eq_true_eq
abbrev Qr:=@decide_eq_false_iff_not
abbrev Qs:=@Nat.lt_of_lt_of_le
abbrev Qt:=@List.length_eq_zero_iff
abbrev Qu:=@List.take_of_length_le
abbrev Qv:=@Option.some.inj
abbrev Qw:=@Nat.le_trans
abbrev Qx:=@Nat.zero_le
abbrev Qy:=@Nat.le_refl
inductive Map (α:Type) where
 |leaf
 |node (v:Option α) (l r:Map α)
namespace Map
variable {α:Type}
def get (m:Map α):Nat->Option α:=
 Map.rec (motive:=fun _=>Nat->Option α) (fun _=>none)
  (fun v _ _ l r i=>Bool.rec (Bool.rec (r (Nat.sub (Nat.div i 2) 1)) (l (Nat.div i 2)) (Nat.beq (Nat.mod i 2) 1)) v (Nat.beq i 0)) m
def one (v:Option α) (f:Nat):Nat->Map α:=
 Nat.rec (motive:=fun _=>Nat->Map α) (fun _=>.leaf)
  (fun _ ih i=>Bool.rec (Bool.rec (.node none .leaf (ih (Nat.sub (Nat.div i 2) 1))) (.node none (ih (Nat.div i 2)) .leaf) (Nat.beq (Nat.mod i 2) 1)) (.node v .leaf .leaf) (Nat.beq i 0)) f
def put (w:Option α) (m:Map α):Nat->Map α:=
 Map.rec (motive:=fun _=>Nat->Map α) (fun i=>one w (Nat.succ i) i)
  (fun v l0 r0 l r i=>Bool.rec (Bool.rec (.node v l0 (r (Nat.sub (Nat.div i 2) 1))) (.node v (l (Nat.div i 2)) r0) (Nat.beq (Nat.mod i 2) 1)) (.node w l0 r0) (Nat.beq i 0)) m
def upto (m:Map α):(Nat->Bool)->Map α:=
 Map.rec (motive:=fun _=>(Nat->Bool)->Map α) (fun _=>.leaf)
  (fun v _ _ l r p=>.node (Bool.rec none v (p 0)) (l fun k=>p (Nat.succ (Nat.mul 2 k))) (r fun k=>p (Nat.succ (Nat.succ (Nat.mul 2 k))))) m
def union (m:Map α):Map α->Map α:=
 Map.rec (motive:=fun _=>Map α->Map α) (fun m=>m)
  (fun v l0 r0 l r m=>match m with
   |.leaf=>.node v l0 r0
   |.node v' l' r'=>.node (match v with|some x=>some x|none=>v') (l l') (r r')) m
end Map
inductive AV where
 |bool (b:Bool)
 |int (k:IntKind) (n:Int)
 |str (s:ByteArray)
 |jj
 |ptr (id g off:Nat)
 |fh (cs:List AV) (off:Nat)
 |ak
 |b6 (cs:List AV) (n:Nat) (cap:Option Nat)
 |ref (id g off es len cap:Nat) (ex:Bool)
 |agg (cs:List AV)
 |dM (vs:List AV)
 |func (f:Nat)
 |j5 (id:Nat)
 deriving Inhabited
inductive dU where
 |row (g:Nat) (cells:List AV)
 |map (es:List (AV×AV))
 deriving Inhabited
abbrev ay:=Map dU
abbrev Env:=Map AV
def c8:AV:=.dM []
def AV.flat:AV->Bool
 |.ref ..=>false
 |.ptr ..=>false
 |.j5 _=>false
 |.agg _=>false
 |.dM _=>false
 |_=>true
def bz {α:Type} (f:α->Bool) (l:List α):Bool:=List.rec (motive:=fun _=>Bool) true (fun x _ ih=>Bool.rec false ih (f x)) l
def AV.eN:AV->Bool
 |.agg cs=>bz AV.flat cs
 |v=>v.flat
def AV.plain:AV->Bool
 |.dM vs=>bz AV.eN vs
 |v=>v.eN
def AV.DQ:AV->Bool
 |.dM _=>true
 |_=>false
def AV.one:AV->Bool
 |.agg _=>false
 |.dM _=>false
 |_=>true
def AV.cells?:AV->Option (List AV)
 |.agg cs=>some cs
 |.dM _=>none
 |v=>some [v]
def cw {α β:Type} (f:α->Option β) (l:List α):Option (List β):=
 List.rec (motive:=fun _=>Option (List β)) (some [])
  (fun x _ ih=>match f x with
   |none=>none
   |some y=>match ih with
    |none=>none
    |some ys=>some (y::ys)) l
def first (cells:List AV):Nat->Option (List AV):=
 List.rec (motive:=fun _=>Nat->Option (List AV)) (fun n=>Bool.rec none (some []) (Nat.beq n 0))
  (fun x _ ih n=>Bool.rec (match ih (Nat.pred n) with|some l=>some (x::l)|none=>none) (some []) (Nat.beq n 0)) cells
def cut (cells:List AV):Nat->Nat->Option (List AV):=
 List.rec (motive:=fun _=>Nat->Nat->Option (List AV)) (fun off n=>Bool.rec none (first [] n) (Nat.beq off 0))
  (fun x xs ih off n=>Bool.rec (ih (Nat.pred off) n) (first (x::xs) n) (Nat.beq off 0)) cells
def nq (cs:List AV):List AV->Option (List AV):=
 List.rec (motive:=fun _=>List AV->Option (List AV)) (fun cells=>some cells)
  (fun y _ ih cells=>match cells with
   |[]=>none
   |_::xs=>match ih xs with
    |some l=>some (y::l)
    |none=>none) cs
def cO (cells:List AV):Nat->List AV->Option (List AV):=
 List.rec (motive:=fun _=>Nat->List AV->Option (List AV)) (fun off cs=>Bool.rec none (nq cs []) (Nat.beq off 0))
  (fun x xs ih off cs=>Bool.rec (match ih (Nat.pred off) cs with|some l=>some (x::l)|none=>none) (nq cs (x::xs)) (Nat.beq off 0)) cells
def rows (n:Nat) (zero:List AV):List AV:=(List.replicate n zero).flatten
def IC (k:IntKind) (n:Int):Bool:=match n with
 |.ofNat m=>Nat.blt m (match k with|.i8=>128|.i16=>32768|.i32=>2147483648|.i64=>9223372036854775808|.u8=>256|.u16=>65536|.u32=>4294967296|.u64=>18446744073709551616)
 |.negSucc m=>Nat.blt m (match k with|.i8=>128|.i16=>32768|.i32=>2147483648|.i64=>9223372036854775808|_=>0)
def cG (k:IntKind) (n:Int):Int:=bif IC k n then n else k.wrap n
def od (x y:Int):Bool:=match x,y with
 |.ofNat a,.ofNat b=>Nat.blt a b
 |.negSucc _,.ofNat _=>true
 |.ofNat _,.negSucc _=>false
 |.negSucc a,.negSucc b=>Nat.blt b a
def AR (x y:Int):Bool:=match x,y with
 |.ofNat a,.ofNat b=>Nat.beq a b
 |.negSucc a,.negSucc b=>Nat.beq a b
 |_,_=>false
def ET:IntKind->IntKind->Bool
 |.i8,.i8|.i16,.i16|.i32,.i32|.i64,.i64|.u8,.u8|.u16,.u16|.u32,.u32|.u64,.u64=>true
 |_,_=>false
def DO (i:Int) (n:Nat):Option Nat:=match i with
 |.ofNat m=>bif Nat.blt m n then some m else none
 |.negSucc _=>none
def IE (i:Int) (n:Nat):Option Nat:=match i with
 |.ofNat m=>bif Nat.ble m n then some m else none
 |.negSucc _=>none
inductive h_ where
 |int|bool|str
inductive yD where
 |one (l:h_)
 |slice
 |agg (ls:List h_)
def D9 (l:h_) (a b:AV):Option Bool:=match l with
 |.int=>match a with
  |.int k n=>match b with
   |.int k' m=>bif ET k k' then some (AR n m) else none
   |_=>none
  |_=>none
 |.bool=>match a with
  |.bool x=>match b with
   |.bool y=>some (x == y)
   |_=>none
  |_=>none
 |.str=>match a with
  |.str x=>match b with
   |.str y=>some (x == y)
   |_=>none
  |_=>none
def yz (ls:List h_):List AV->List AV->Option Bool:=
 List.rec (motive:=fun _=>List AV->List AV->Option Bool) (fun a b=>match a with|[]=>(match b with|[]=>some true|_::_=>none)|_::_=>none)
  (fun l _ ih a b=>match a with
   |[]=>none
   |x::xs=>match b with
    |[]=>none
    |y::ys=>match D9 l x y with
     |none=>none
     |some u=>match ih xs ys with
      |none=>none
      |some c=>some (u&&c)) ls
def ES (t:yD) (x y:AV):Option Bool:=match t with
 |.one l=>D9 l x y
 |.agg ls=>match x with
  |.agg a=>match y with
   |.agg b=>yz ls a b
   |_=>none
  |_=>none
 |.slice=>match x with
  |.ak=>match y with
   |.ak=>some true
   |.b6 ..=>some false
   |.ref ..=>some false
   |_=>none
  |.b6 ..=>match y with
   |.ak=>some false
   |_=>none
  |.ref ..=>match y with
   |.ak=>some false
   |_=>none
  |_=>none
def aP (d:Nat):ay->AV->Option AV:=
 Nat.rec (motive:=fun _=>ay->AV->Option AV) (fun _ _=>none)
  (fun _ ih H v=>match v with
   |.ref id g off es len cap ex=>match H.get id with
    |some (.row g' cells)=>bif Nat.beq g' g then match cut cells off (Nat.mul len es) with
      |some cs=>match cw (ih H) cs with
       |some cs=>some (.b6 cs len (Bool.rec none (some cap) ex))
       |none=>none
      |none=>none
     else none
    |_=>none
   |.agg cs=>match cw (ih H) cs with
    |some cs=>some (.agg cs)
    |none=>none
   |.dM cs=>match cw (ih H) cs with
    |some cs=>some (.dM cs)
    |none=>none
   |.ptr ..=>none
   |.j5 _=>none
   |v=>some v) d
def bt (d:Nat):ay->AV->List Nat:=
 Nat.rec (motive:=fun _=>ay->AV->List Nat) (fun _ _=>[])
  (fun _ ih H v=>match v with
   |.ref id _ off es len _ _=>match H.get id with
    |some (.row _ cells)=>id::(match cut cells off (Nat.mul len es) with|some cs=>cs.flatMap (ih H)|none=>[])
    |_=>[id]
   |.agg cs=>cs.flatMap (ih H)
   |.dM cs=>cs.flatMap (ih H)
   |_=>[]) d
def own (d:Nat):ay->AV->Bool:=
 Nat.rec (motive:=fun _=>ay->AV->Bool) (fun _ _=>false)
  (fun _ ih H v=>match v with
   |.ref id _ off es len _ _=>match H.get id with
    |some (.row _ cells)=>match cut cells off (Nat.mul len es) with|some cs=>bz (ih H) cs|none=>false
    |_=>false
   |.agg cs=>bz (ih H) cs
   |.dM cs=>bz (ih H) cs
   |.b6 cs _ _=>match cs with|[]=>true|_::_=>false
   |.fh ..=>false
   |.ptr ..=>false
   |.j5 _=>false
   |_=>true) d
def deep:Nat:=30
inductive aH where
 |t (n:Nat)
 |c (v:AV)
 deriving Inhabited
inductive Mode where
 |share
 |borrow
inductive dV where
 |mv (x:aH)
 |pick (c a b:aH)
 |alloc (zero:List AV)
 |box (x:aH)
 |build (zero:List AV) (parts:List (Nat×Nat×aH))
 |eR (es len:Nat) (zero:List AV) (parts:List (Nat×Nat×aH))
 |aQ (len:Nat) (zero:List AV) (parts:List (Nat×Nat×aH))
 |load (sz:Option Nat) (a:aH)
 |store (sz:Nat) (a x:aH)
 |iN (x:aH)
 |bin (op:BinOp) (x y:aH)
 |eq (t:yD) (neg:Bool) (x y:aH)
 |un (op:UnOp) (x:aH)
 |conv (k:IntKind) (x:aH)
 |kG (es bytes:Nat) (zero:List AV) (n:aH)
 |jY (x:aH) (lo hi:Option aH)
 |iR (es:Nat) (x:aH) (lo hi mx:Option aH)
 |iE (n es:Nat) (x:aH) (lo hi mx:Option aH)
 |gR (off:Nat) (x:aH)
 |Bz (off:Nat) (sz:Option Nat) (x:aH)
 |bL (es:Nat) (x i:aH)
 |kO (len es:Nat) (x i:aH)
 |idx (x i:aH)
 |ext (i:Nat) (x:aH)
 |app (es bytes:Nat) (s x:aH)
 |BY (es:Nat) (d s:aH)
 |EU (es:Nat) (zero:List AV) (x:aH)
 |len (str:Bool) (x:aH)
 |yw (mx:Bool) (xs:List aH)
 |mc
 |mb (t:yD) (zero:AV) (ok:Bool) (m k:aH)
 |vp (t:yD) (m k v:aH)
 |tE (m:aH)
 |call (f:Nat) (args:List aH) (m:Mode)
 |cN (f:aH) (args:List aH) (m:Mode)
 deriving Inhabited
structure av where
 dst:Option Nat
 op:dV
 gd:Option (Nat×Bool)
 fz:Bool
 deriving Inhabited
abbrev o (d:Nat) (op:dV):av:=⟨some d,op,none,false⟩
abbrev i64 (n:Int):aH:=.c (.int .i64 n)
inductive bR where
 |skip
 |aa (ops:List av)
 |aT (ops:List av) (ahead:List (List Nat)) (pairs:List (Nat×Nat))
 |seq (a b:bR)
 |cond (c:aH) (a b:bR)
 |block (id:Nat) (c:bR)
 |loop (c:bR)
 |exit (id:Nat)
 |ret
 deriving Inhabited
inductive pq where
 |tmp (t:Nat)
 |cell (t:Nat) (sz:Option Nat)
structure aq where
 params:Nat
 nt:Nat
 res:List pq
 body:bR
structure yp where
 id:Nat
 g:Nat
 off:Nat
 len:Nat
structure Out where
 val:Nat->AV
 obj:Option dU
 new:Option dU
inductive aO where
 |val (v:AV)
 |new (val:Nat->AV) (o:dU)
 |look (q:Option yp) (u:Option Nat) (k:List AV->Option dU->Option Out)
abbrev dj (v:AV):aO:=.val v
def dI (v:Option AV):Option aO:=match v with|some v=>some (.val v)|none=>none
abbrev DC (val:Nat->AV) (o:dU):aO:=.new val o
def ot (g:Nat) (k:List AV->Option Out):Option dU->Option Out
 |some (.row g' cells)=>bif Nat.beq g' g then k cells else none
 |_=>none
def most:Nat:=70368744177664
def Ak (sz:Option Nat) (cs:List AV):Option AV:=match sz with
 |none=>match cs with|[v]=>some v|_=>none
 |some _=>some (.agg cs)
def fill (ρ:aH->AV) (parts:List (Nat×Nat×aH)):List AV->Option (List AV):=
 List.rec (motive:=fun _=>List AV->Option (List AV)) (fun cells=>some cells)
  (fun p _ ih cells=>match (ρ p.2.2).cells? with
   |none=>none
   |some cs=>bif Nat.beq cs.length p.2.1 then match cO cells p.1 cs with
     |some cells=>ih cells
     |none=>none
    else none) parts
def yO (op:BinOp) (k:IntKind) (x y:Int):Option AV:=
 bif od y 0 then none else match op with
  |.shl=>some (.int k (k.wrap (x*2 ^ min y.toNat k.bits)))
  |.shr=>some (.int k (x.fdiv (2 ^ min y.toNat k.bits)))
  |_=>none
def DT (op:BinOp) (k:IntKind) (x y:Int):Option AV:=
 match op with
 |.add=>some (.int k (cG k (x+y)))
 |.sub=>some (.int k (cG k (x - y)))
 |.mul=>some (.int k (cG k (x*y)))
 |.quo=>bif AR y 0 then none else some (.int k (cG k (x.tdiv y)))
 |.rem=>bif AR y 0 then none else some (.int k (x.tmod y))
 |.and=>some (.int k (k.wrap (BitVec.ofInt k.bits x&&& BitVec.ofInt k.bits y).toNat))
 |.or=>some (.int k (k.wrap (BitVec.ofInt k.bits x||| BitVec.ofInt k.bits y).toNat))
 |.xor=>some (.int k (k.wrap (BitVec.ofInt k.bits x ^^^ BitVec.ofInt k.bits y).toNat))
 |.andNot=>some (.int k (k.wrap (BitVec.ofInt k.bits x&&& ~~~BitVec.ofInt k.bits y).toNat))
 |.eql=>some (.bool (AR x y))
 |.neq=>some (.bool !(AR x y))
 |.lss=>some (.bool (od x y))
 |.leq=>some (.bool !(od y x))
 |.gtr=>some (.bool (od y x))
 |.geq=>some (.bool !(od x y))
 |.shl=>none
 |.shr=>none
def IY (op:BinOp) (x y:ByteArray):Option AV:=
 match op with
 |.add=>bif Nat.ble (x.size+y.size) most then some (.str (x++y)) else none
 |.eql=>some (.bool (x.toList == y.toList))
 |.neq=>some (.bool !(x.toList == y.toList))
 |.lss=>some (.bool (Op.bytesLess x.toList y.toList))
 |.leq=>some (.bool (Op.bytesLess x.toList y.toList||x.toList == y.toList))
 |.gtr=>some (.bool !(Op.bytesLess x.toList y.toList||x.toList == y.toList))
 |.geq=>some (.bool !(Op.bytesLess x.toList y.toList))
 |_=>none
def yj (op:BinOp) (x y:AV):Option AV:=match x with
 |.int k a=>match y with
  |.int k' b=>match op with
   |.shl=>yO .shl k a b
   |.shr=>yO .shr k a b
   |op=>bif ET k k' then DT op k a b else none
  |_=>none
 |.str a=>match y with
  |.str b=>IY op a b
  |_=>none
 |_=>none
def GO (op:UnOp) (x:AV):Option AV:=match op with
 |.neg=>match x with|.int k n=>some (.int k (cG k (0 - n)))|_=>none
 |.not=>match x with|.bool b=>some (.bool !b)|_=>none
 |.xor=>match x with|.int k n=>DT .xor k (if k.signed then -1 else k.max) n|_=>none
 |.plus=>none
def IB (mx:Bool):AV->List AV->Option AV
 |v,[]=>some v
 |.int k a,.int _ b::rest=>IB mx (.int k (match mx with|true=>(bif od a b then b else a)|false=>(bif od b a then b else a))) rest
 |_,_=>none
def AZ (ρ:aH->AV) (x:Option aH) (other y:Nat):Option Nat:=match x with
 |none=>some other
 |some o=>match ρ o with
  |.int _ i=>IE i y
  |_=>none
def jd (ρ:aH->AV) (lo hi mx:Option aH) (len cap:Nat):Option (Nat×Nat×Nat):=match AZ ρ mx cap cap with
 |none=>none
 |some m=>match AZ ρ hi len m with
  |none=>none
  |some h=>match AZ ρ lo 0 h with
   |none=>none
   |some l=>some (l,h,m)
inductive Src where
 |list (cs:List AV)
 |qh (r:yp)
def cQ (es:Nat):AV->Option (Nat×Src)
 |.ak=>some (0,.list [])
 |.b6 cs n _=>bif Nat.beq (Nat.mul n es) cs.length then some (n,.list cs) else none
 |.ref id g off es' len _ _=>bif Nat.beq es' es then some (len,.qh ⟨id,g,off,Nat.mul len es⟩) else none
 |_=>none
def Src.q:Src->Option yp
 |.qh r=>some r
 |.list _=>none
def Src.cs:Src->List AV->List AV
 |.list cs,_=>cs
 |.qh _,a=>a
def vz:AV->Bool
 |.ak=>true
 |.b6 ..=>true
 |.ref ..=>true
 |_=>false
def s6 (es:Nat) (id g off len cap:Nat) (ex:Bool) (m:Nat) (src:Src):aO:=
 bif Nat.ble (Nat.add len m) cap then
  .look src.q (some id) (fun a=>ot g fun cells=>match cO cells (Nat.add off (Nat.mul len es)) (src.cs a) with
   |some cells'=>some ⟨fun _=>.ref id g off es (Nat.add len m) cap ex,some (.row g cells'),none⟩
   |none=>none)
 else bif ex then
  .look src.q (some id) (fun a=>ot g fun cells=>match cut cells off (Nat.mul len es) with
   |some cs=>some ⟨fun id=>.ref id 0 0 es (Nat.add len m) (Nat.add len m) false,none,some (.row 0 (cs++src.cs a))⟩
   |none=>none)
 else
  .look src.q (some id) (fun a=>ot g fun cells=>bif Nat.beq (Nat.add off (Nat.mul len es)) cells.length then
    some ⟨fun _=>.ref id (Nat.succ g) 0 es (Nat.add len m) (Nat.add len m) false,some (.row (Nat.succ g) (cells.drop off++src.cs a)),none⟩
   else none)
def lX (es bytes:Nat) (s x:AV):Option aO:=match cQ es x with
 |none=>none
 |some (m,src)=>bif Nat.beq m 0 then (bif vz s then some (dj s) else none) else
  match s with
  |.ak=>bif Nat.ble (Nat.mul m bytes) most&&Nat.ble m most then
    some (.look src.q none fun a _=>some ⟨fun id=>.ref id 0 0 es m m false,none,some (.row 0 (src.cs a))⟩) else none
  |.b6 cs n (some c)=>bif Nat.blt c (Nat.add n m)&&Nat.beq (Nat.mul n es) cs.length&&Nat.ble (Nat.mul (Nat.add n m) bytes) most&&Nat.ble (Nat.add n m) most then
    some (.look src.q none fun a _=>some ⟨fun id=>.ref id 0 0 es (Nat.add n m) (Nat.add n m) false,none,some (.row 0 (cs++src.cs a))⟩) else none
  |.ref id g off es' len cap ex=>bif Nat.beq es' es&&Nat.ble (Nat.mul (Nat.add len m) bytes) most&&Nat.ble (Nat.add len m) most then
    some (s6 es id g off len cap ex m src) else none
  |_=>none
def x4 (es:Nat) (d s:AV):Option aO:=match cQ es s with
 |none=>none
 |some (m,src)=>match d with
  |.ak=>some (dj (.int .i64 0))
  |.ref id g off es' len _ _=>bif Nat.beq es' es then
    some (.look src.q (some id) fun a=>ot g fun cells=>match first (src.cs a) (Nat.mul (min m len) es) with
     |some cs=>match cO cells off cs with
      |some cells'=>some ⟨fun _=>.int .i64 (min m len),some (.row g cells'),none⟩
      |none=>none
     |none=>none) else none
  |_=>none
def yN (es:Nat) (ρ:aH->AV) (x:AV) (lo hi mx:Option aH):Option AV:=match x with
 |.ak=>match jd ρ lo hi mx 0 0 with
  |none=>none
  |some _=>some .ak
 |.b6 cs n cap=>bif Nat.beq (Nat.mul n es) cs.length then match jd ρ lo hi mx n n with
  |none=>none
  |some (l,h,m)=>match cut cs (Nat.mul l es) (Nat.mul (Nat.sub h l) es) with
   |some cs'=>some (.b6 cs' (Nat.sub h l) (match mx with|some _=>some (Nat.sub m l)|none=>match cap with|some c=>some (Nat.sub c l)|none=>none))
   |none=>none
  else none
 |.ref id g off es' len cap ex=>bif Nat.beq es' es then match jd ρ lo hi mx len cap with
  |none=>none
  |some (l,h,m)=>some (.ref id g (Nat.add off (Nat.mul l es)) es (Nat.sub h l) (Nat.sub m l) (match mx with|some _=>true|none=>ex))
  else none
 |_=>none
def GD (t:yD) (k:AV) (es:List (AV×AV)):Nat->Option (Option (Nat×AV)):=
 List.rec (motive:=fun _=>Nat->Option (Option (Nat×AV))) (fun _=>some none)
  (fun p _ ih i=>match ES t k p.1 with
   |none=>none
   |some true=>some (some (i,p.2))
   |some false=>ih (Nat.succ i)) es
def bZ (sz:Option Nat):Nat:=match sz with|none=>1|some n=>n
section
variable (ρ:aH->AV)
def nj (c a b:aH):Option aO:=match ρ c with
 |.bool t=>match t with
  |true=>some (dj (ρ a))
  |false=>some (dj (ρ b))
 |_=>none
def xb (x:aH):Option aO:=match (ρ x).cells? with
 |some cs=>some (DC (fun id=>.ptr id 0 0) (.row 0 cs))
 |none=>none
def jJ (zero:List AV) (parts:List (Nat×Nat×aH)):Option aO:=match fill ρ parts zero with
 |some cs=>some (dj (.agg cs))
 |none=>none
def iK (es len:Nat) (zero:List AV) (parts:List (Nat×Nat×aH)):Option aO:=match fill ρ parts zero with
 |some cs=>some (DC (fun id=>.ref id 0 0 es len len false) (.row 0 cs))
 |none=>none
def c5 (len:Nat) (zero:List AV) (parts:List (Nat×Nat×aH)):Option aO:=match fill ρ parts zero with
 |some cs=>bif bz AV.flat cs then some (dj (.b6 cs len (some len))) else none
 |none=>none
def iJ (sz:Option Nat) (a:aH):Option aO:=match ρ a with
 |.ptr id g off=>some (.look (some ⟨id,g,off,bZ sz⟩) none fun cs _=>match Ak sz cs with|some v=>some ⟨fun _=>v,none,none⟩|none=>none)
 |.fh cs off=>match cut cs off (bZ sz) with
  |some cs=>dI (Ak sz cs)
  |none=>none
 |_=>none
def iV (sz:Nat) (a x:aH):Option aO:=match ρ a with
 |.ptr id g off=>match (ρ x).cells? with
  |some cs=>bif Nat.beq cs.length sz then
    some (.look none (some id) fun _=>ot g fun cells=>match cO cells off cs with
     |some cells'=>some ⟨fun _=>c8,some (.row g cells'),none⟩
     |none=>none) else none
  |none=>none
 |_=>none
def gG (x:aH):Option aO:=match ρ x with
 |.ptr id g off=>some (dj (.ptr id g off))
 |.fh cs off=>some (dj (.fh cs off))
 |.func f=>some (dj (.func f))
 |_=>none
def Dn (t:yD) (neg:Bool) (x y:aH):Option aO:=match ES t (ρ x) (ρ y) with
 |some b=>some (dj (.bool (match neg with|true=>!b|false=>b)))
 |none=>none
def pG (k:IntKind) (x:aH):Option aO:=match ρ x with
 |.int _ n=>some (dj (.int k (cG k n)))
 |_=>none
def pE (es bytes:Nat) (zero:List AV) (n:aH):Option aO:=match ρ n with
 |.int k m=>match IE m most with
  |some m=>bif ET k .i64&&Nat.ble (Nat.mul m bytes) most then some (DC (fun id=>.ref id 0 0 es m m false) (.row 0 (rows m zero))) else none
  |none=>none
 |_=>none
def ku (x:aH) (lo hi:Option aH):Option aO:=match ρ x with
 |.str s=>match jd ρ lo hi none s.size s.size with
  |none=>none
  |some (l,h,_)=>some (dj (.str (s.extract l h)))
 |_=>none
def iW (n es:Nat) (x:aH) (lo hi mx:Option aH):Option aO:=match ρ x with
 |.ptr id g off=>match jd ρ lo hi mx n n with
  |none=>none
  |some (l,h,m)=>some (.look (some ⟨id,g,off,Nat.mul n es⟩) none fun _ _=>some ⟨fun _=>.ref id g (Nat.add off (Nat.mul l es)) es (Nat.sub h l) (Nat.sub m l) true,none,none⟩)
 |_=>none
def fY (off:Nat) (x:aH):Option aO:=match ρ x with
 |.ptr id g o=>some (dj (.ptr id g (Nat.add o off)))
 |.fh cs o=>some (dj (.fh cs (Nat.add o off)))
 |_=>none
def w9 (off:Nat) (sz:Option Nat) (x:aH):Option aO:=match ρ x with
 |.agg cs=>match cut cs off (bZ sz) with
  |some cs=>dI (Ak sz cs)
  |none=>none
 |_=>none
def gH (es:Nat) (x i:aH):Option aO:=match ρ i with
 |.int _ i=>match ρ x with
  |.b6 cs n _=>match DO i n with
   |some i=>match cs with
    |[]=>none
    |_::_=>some (dj (.fh cs (Nat.mul i es)))
   |none=>none
  |.ref id g off es' len _ _=>bif Nat.beq es' es then match DO i len with
   |some i=>some (dj (.ptr id g (Nat.add off (Nat.mul i es))))
   |none=>none
   else none
  |_=>none
 |_=>none
def kz (len es:Nat) (x i:aH):Option aO:=match ρ i with
 |.int _ i=>match DO i len with
  |some i=>match ρ x with
   |.ptr id g o=>some (dj (.ptr id g (Nat.add o (Nat.mul i es))))
   |.fh cs o=>some (dj (.fh cs (Nat.add o (Nat.mul i es))))
   |_=>none
  |none=>none
 |_=>none
def w8 (x i:aH):Option aO:=match ρ x with
 |.str s=>match ρ i with
  |.int _ (.ofNat i)=>match s[i]? with
   |some b=>some (dj (.int .u8 b.toNat))
   |none=>none
  |_=>none
 |_=>none
def w_ (i:Nat) (x:aH):Option aO:=match ρ x with
 |.dM vs=>dI vs[i]?
 |_=>none
def Fm (es:Nat) (zero:List AV) (x:aH):Option aO:=match ρ x with
 |.ak=>some (dj c8)
 |.ref id g off es' len _ _=>bif Nat.beq es' es then
   some (.look none (some id) fun _=>ot g fun cells=>match cO cells off (rows len zero) with
    |some cells'=>some ⟨fun _=>c8,some (.row g cells'),none⟩
    |none=>none) else none
 |_=>none
def iX (str:Bool) (x:aH):Option aO:=match str with
 |true=>match ρ x with
  |.str s=>some (dj (.int .i64 s.size))
  |_=>none
 |false=>match ρ x with
  |.ak=>some (dj (.int .i64 0))
  |.b6 _ n _=>some (dj (.int .i64 n))
  |.ref _ _ _ _ len _ _=>some (dj (.int .i64 len))
  |_=>none
def vl (mx:Bool) (xs:List aH):Option aO:=match xs.map ρ with
 |v::vs=>dI (IB mx v vs)
 |[]=>none
def HD (k:List (AV×AV)->Option Out):Option dU->Option Out
 |some (.map es)=>k es
 |_=>none
def Dm (t:yD) (zero:AV) (ok:Bool) (m k:aH):Option aO:=bif (ρ k).DQ then none else match ρ m with
 |.j5 id=>some (.look none (some id) fun _=>HD fun es=>match GD t (ρ k) es 0 with
  |none=>none
  |some none=>some ⟨fun _=>match ok with|true=>.dM [zero,.bool false]|false=>zero,none,none⟩
  |some (some (_,v))=>some ⟨fun _=>match ok with|true=>.dM [v,.bool true]|false=>v,none,none⟩)
 |_=>none
def Gv (t:yD) (m k v:aH):Option aO:=bif (ρ k).DQ||(ρ v).DQ then none else match ρ m with
 |.j5 id=>some (.look none (some id) fun _=>HD fun es=>match GD t (ρ k) es 0 with
  |none=>none
  |some none=>some ⟨fun _=>c8,some (.map (es++[(ρ k,ρ v)])),none⟩
  |some (some (i,_))=>some ⟨fun _=>c8,some (.map (es.set i (ρ k,ρ v))),none⟩)
 |_=>none
def Gw (m:aH):Option aO:=match ρ m with
 |.j5 id=>some (.look none (some id) fun _=>HD fun es=>some ⟨fun _=>.int .i64 es.length,none,none⟩)
 |_=>none
end
inductive PR where
 |plan (p:(aH->AV)->Option aO)
 |call (f:Nat) (args:List aH) (m:Mode)
 |cN (f:aH) (args:List aH) (m:Mode)
def kind (op:dV):PR:=match op with
 |.mv x=>.plan fun ρ=>some (dj (ρ x))
 |.pick c a b=>.plan fun ρ=>nj ρ c a b
 |.alloc zero=>.plan fun _=>some (DC (fun id=>.ptr id 0 0) (.row 0 zero))
 |.box x=>.plan fun ρ=>xb ρ x
 |.build zero parts=>.plan fun ρ=>jJ ρ zero parts
 |.eR es len zero parts=>.plan fun ρ=>iK ρ es len zero parts
 |.aQ len zero parts=>.plan fun ρ=>c5 ρ len zero parts
 |.load sz a=>.plan fun ρ=>iJ ρ sz a
 |.store sz a x=>.plan fun ρ=>iV ρ sz a x
 |.iN x=>.plan fun ρ=>gG ρ x
 |.bin op x y=>.plan fun ρ=>dI (yj op (ρ x) (ρ y))
 |.eq t neg x y=>.plan fun ρ=>Dn ρ t neg x y
 |.un op x=>.plan fun ρ=>dI (GO op (ρ x))
 |.conv k x=>.plan fun ρ=>pG ρ k x
 |.kG es bytes zero n=>.plan fun ρ=>pE ρ es bytes zero n
 |.jY x lo hi=>.plan fun ρ=>ku ρ x lo hi
 |.iR es x lo hi mx=>.plan fun ρ=>dI (yN es ρ (ρ x) lo hi mx)
 |.iE n es x lo hi mx=>.plan fun ρ=>iW ρ n es x lo hi mx
 |.gR off x=>.plan fun ρ=>fY ρ off x
 |.Bz off sz x=>.plan fun ρ=>w9 ρ off sz x
 |.bL es x i=>.plan fun ρ=>gH ρ es x i
 |.kO len es x i=>.plan fun ρ=>kz ρ len es x i
 |.idx x i=>.plan fun ρ=>w8 ρ x i
 |.ext i x=>.plan fun ρ=>w_ ρ i x
 |.app es bytes s x=>.plan fun ρ=>lX es bytes (ρ s) (ρ x)
 |.BY es d s=>.plan fun ρ=>x4 es (ρ d) (ρ s)
 |.EU es zero x=>.plan fun ρ=>Fm ρ es zero x
 |.len str x=>.plan fun ρ=>iX ρ str x
 |.yw mx xs=>.plan fun ρ=>vl ρ mx xs
 |.mc=>.plan fun _=>some (DC (fun id=>.j5 id) (.map []))
 |.mb t zero ok m k=>.plan fun ρ=>Dm ρ t zero ok m k
 |.vp t m k v=>.plan fun ρ=>Gv ρ t m k v
 |.tE m=>.plan fun ρ=>Gw ρ m
 |.call f args m=>.call f args m
 |.cN f args m=>.cN f args m
def cM (H:ay):Option yp->Option (List AV)
 |none=>some []
 |some r=>match H.get r.id with
  |some (.row g cells)=>bif Nat.beq g r.g then cut cells r.off r.len else none
  |_=>none
def fH (H:ay):Option Nat->Option (Option dU)
 |none=>some none
 |some id=>match H.get id with
  |some o=>some (some o)
  |none=>none
def om (H:ay) (u:Option Nat) (ob:Option dU):ay:=match ob with
 |none=>H
 |some ob=>match u with
  |some id=>H.put (some ob) id
  |none=>H
def dO (q:Option yp) (u:Option Nat) (k:List AV->Option dU->Option Out) (H:ay) (nx:Nat):Option (AV×ay×Nat):=match cM H q with
 |none=>none
 |some a=>match fH H u with
  |none=>none
  |some o=>match k a o with
   |none=>none
   |some out=>match out.new with
    |some ob=>some (out.val nx,(om H u out.obj).put (some ob) nx,Nat.succ nx)
    |none=>some (out.val nx,om H u out.obj,nx)
def bS (p:aO) (H:ay) (nx:Nat):Option (AV×ay×Nat):=match p with
 |.val v=>some (v,H,nx)
 |.new f o=>some (f nx,H.put (some o) nx,Nat.succ nx)
 |.look q u k=>dO q u k H nx
def ev (e:Env):aH->AV
 |.t n=>match e.get n with|some v=>v|none=>c8
 |.c v=>v
def dV.cg:dV->List aH
 |.mv x|.box x|.load _ x|.iN x|.un _ x|.conv _ x|.kG _ _ _ x|.gR _ x|.Bz _ _ x|.ext _ x|.EU _ _ x|.len _ x|.tE x=>[x]
 |.pick c a b=>[c,a,b]
 |.alloc _|.mc=>[]
 |.build _ ps|.eR _ _ _ ps|.aQ _ _ ps=>ps.map (·.2.2)
 |.store _ a x|.bin _ a x|.eq _ _ a x|.bL _ a x|.kO _ _ a x|.idx a x|.app _ _ a x|.BY _ a x|.mb _ _ _ a x=>[a,x]
 |.jY x l h=>x::(l.toList++h.toList)
 |.iR _ x l h m|.iE _ _ x l h m=>x::(l.toList++h.toList++m.toList)
 |.vp _ m k v=>[m,k,v]
 |.yw _ as=>as
 |.call _ as _=>as
 |.cN f as _=>f::as
def drop (H:ay):List Nat->ay
 |[]=>H
 |id::rest=>drop (H.put none id) rest
abbrev eI:=Nat->List AV->ay->Nat->Option (AV×ay×Nat)
def d_ (r:Option (AV×ay×Nat)) (must:Bool):Option AV:=match r with
 |none=>none
 |some (r,Hc,_)=>bif must then (bif own deep Hc r then aP deep Hc r else none) else (bif r.plain then some r else aP deep Hc r)
def bK (cf:eI) (f:Nat) (args:List AV) (m:Mode) (H:ay) (nx:Nat):Option (AV×ay×Nat):=match m with
 |.share=>cf f args H nx
 |.borrow=>bif bz AV.plain args then
   match d_ (cf f args .leaf 0) false with
   |some r=>some (r,H,nx)
   |none=>none
  else match cw (aP deep H) args with
   |none=>none
   |some as=>match d_ (cf f as .leaf 0) true with
    |some r=>some (r,H,nx)
    |none=>none
def fj (cf:eI) (op:dV) (ρ:aH->AV) (H:ay) (nx:Nat):Option (AV×ay×Nat):=match kind op with
 |.plan p=>match p ρ with
  |some p=>bS p H nx
  |none=>none
 |.call f args m=>bK cf f (args.map ρ) m H nx
 |.cN f args m=>match ρ f with
  |.func g=>bK cf g (args.map ρ) m H nx
  |_=>none
def mR (H:ay) (ρ:aH->AV) (x:aH):AV:=match aP deep H (ρ x) with
 |some v=>v
 |none=>ρ x
def jb (cf:eI) (o:av) (ρ:aH->AV) (H:ay) (nx:Nat):Option (AV×ay×Nat):=
 bif o.fz then match o.op with
  |.aQ len zero parts=>match cw (aP deep H) (parts.map fun p=>ρ p.2.2) with
   |none=>none
   |some _=>match c5 (mR H ρ) len zero parts with
    |some (.val v)=>some (v,drop H ((parts.map fun p=>ρ p.2.2).flatMap (bt deep H)),nx)
    |_=>none
  |_=>none
 else fj cf o.op ρ H nx
structure St where
 env:Env
 H:ay
 nx:Nat
def wanted (e:Env):Option (Nat×Bool)->Bool
 |none=>true
 |some (g,b)=>match e.get g with
  |some (.bool b')=>b' == b
  |_=>false
def rz (nt:Nat) (e:Env) (d:Option Nat) (v:AV):Option Env:=match d with
 |none=>some e
 |some d=>bif Nat.blt d nt then some (e.put (some v) d) else none
def er (cf:eI) (nt:Nat) (o:av) (st:St):Option St:=
 bif wanted st.env o.gd then
  match jb cf o (ev st.env) st.H st.nx with
  |none=>none
  |some (v,H,nx)=>match rz nt st.env o.dst v with
   |some e=>some ⟨e,H,nx⟩
   |none=>none
 else match rz nt st.env o.dst c8 with
  |some e=>some ⟨e,st.H,st.nx⟩
  |none=>none
def dy (cf:eI) (nt:Nat) (l:List av):St->Option St:=
 List.rec (motive:=fun _=>St->Option St) (fun st=>some st)
  (fun o _ ih st=>match er cf nt o st with
   |some st=>ih st
   |none=>none) l
mutual
def gb:AV->AV->Bool
 |.bool a,.bool b=>a == b
 |.int k a,.int k' b=>ET k k'&&AR a b
 |.str a,.str b=>decide (a=b)
 |.jj,.jj=>true
 |.ak,.ak=>true
 |.ptr a b c,.ptr a' b' c'=>Nat.beq a a'&&Nat.beq b b'&&Nat.beq c c'
 |.fh cs o,.fh cs' o'=>kU cs cs'&&Nat.beq o o'
 |.b6 cs n c,.b6 cs' n' c'=>kU cs cs'&&Nat.beq n n'&&decide (c=c')
 |.ref a b c d e f x,.ref a' b' c' d' e' f' x'=>Nat.beq a a'&&Nat.beq b b'&&Nat.beq c c'&&Nat.beq d d'&&Nat.beq e e'&&Nat.beq f f'&&x == x'
 |.agg cs,.agg cs'=>kU cs cs'
 |.dM cs,.dM cs'=>kU cs cs'
 |.func f,.func f'=>Nat.beq f f'
 |.j5 f,.j5 f'=>Nat.beq f f'
 |_,_=>false
def kU:List AV->List AV->Bool
 |[],[]=>true
 |x::xs,y::ys=>gb x y&&kU xs ys
 |_,_=>false
end
inductive Rd where
 |qh (r:yp)
 |obj (id:Nat)
 |all
inductive Ip where
 |ids (l:List Nat)
 |all
structure Rec where
 cR:List Rd
 bX:Ip
 H0:ay
 H1:ay
 xk:Nat
 oc:Nat
def aO.cR:aO->List Rd
 |.look q u _=>(match q with|some r=>[.qh r]|none=>[])++(match u with|some id=>[.obj id]|none=>[])
 |_=>[]
def aO.bX:aO->List Nat
 |.look _ u _=>(match u with|some id=>[id]|none=>[])
 |_=>[]
abbrev Ln:=AV×ay×Nat×List Rd×Ip
def bU (cf:eI) (n0:Nat) (f:Nat) (args:List AV) (m:Mode) (H:ay) (nx:Nat):Option Ln:=match m with
 |.share=>match cf f args (H.upto fun i=>Nat.blt i n0) nx with
  |some (v,H',nx')=>some (v,(H'.upto fun i=>Nat.blt i n0||(Nat.ble nx i&&Nat.blt i nx')).union (H.upto fun i=>!(Nat.blt i n0||(Nat.ble nx i&&Nat.blt i nx'))),nx',[.all],.all)
  |none=>none
 |.borrow=>bif bz AV.plain args then
   match bK cf f args .borrow H nx with
   |some (v,_,_)=>some (v,H,nx,[],.ids [])
   |none=>none
  else match bK cf f args .borrow (H.upto fun i=>Nat.blt i n0) nx with
   |some (v,_,_)=>some (v,H,nx,[.all],.ids [])
   |none=>none
def j3 (cf:eI) (n0:Nat) (op:dV) (ρ:aH->AV) (H:ay) (nx:Nat):Option Ln:=match kind op with
 |.plan p=>match p ρ with
  |some p=>match bS p H nx with
   |some (v,H',nx')=>some (v,H',nx',p.cR,.ids p.bX)
   |none=>none
  |none=>none
 |.call f args m=>bU cf n0 f (args.map ρ) m H nx
 |.cN f args m=>match ρ f with
  |.func g=>bU cf n0 g (args.map ρ) m H nx
  |_=>none
def ee (cf:eI) (n0:Nat) (o:av) (ρ:aH->AV) (H:ay) (nx:Nat):Option Ln:=
 bif o.fz then match o.op with
  |.aQ len zero parts=>match cw (aP deep H) (parts.map fun p=>ρ p.2.2) with
   |none=>none
   |some _=>match c5 (mR H ρ) len zero parts with
    |some (.val v)=>some (v,drop H ((parts.map fun p=>ρ p.2.2).flatMap (bt deep H)),nx,((parts.map fun p=>ρ p.2.2).flatMap (bt deep H)).map Rd.obj,.ids ((parts.map fun p=>ρ p.2.2).flatMap (bt deep H)))
    |_=>none
  |_=>none
 else j3 cf n0 o.op ρ H nx
def bE (cf:eI) (nt n0:Nat) (o:av) (st:St):Option (St×Rec):=
 bif wanted st.env o.gd then
  match ee cf n0 o (ev st.env) st.H st.nx with
  |none=>none
  |some (v,H,nx,cR,bX)=>match rz nt st.env o.dst v with
   |none=>none
   |some e=>some (⟨e,H,nx⟩,⟨cR,bX,st.H,H,st.nx,nx⟩)
 else match rz nt st.env o.dst c8 with
  |none=>none
  |some e=>some (⟨e,st.H,st.nx⟩,⟨[],.ids [],st.H,st.H,st.nx,st.nx⟩)
def cZ (cf:eI) (nt n0:Nat):List av->St->Option (St×List Rec)
 |[],st=>some (st,[])
 |o::rest,st=>match bE cf nt n0 o st with
  |none=>none
  |some (st1,r)=>match cZ cf nt n0 rest st1 with
   |none=>none
   |some (st',l)=>some (st',r::l)
def tM (A B C:ay) (r:yp):Bool:=match cM A (some r),cM B (some r),cM C (some r) with
 |some x,some y,some z=>kU x z&&kU y z
 |_,_,_=>false
def fX (a b:Rec):Rd->Bool
 |.qh r=>match a.bX with
  |.ids l=>bif l.contains r.id then tM a.H0 a.H1 b.H0 r else true
  |.all=>tM a.H0 a.H1 b.H0 r
 |.obj id=>match a.bX with
  |.ids l=>!l.contains id
  |.all=>false
 |.all=>match a.bX with
  |.ids []=>true
  |_=>false
def still (a b:Rec):Bool:=bz (fX a b) b.cR
def apart (a b:Rec):Bool:=match a.bX,b.bX with
 |.ids l,.ids l'=>l.all fun x=>!l'.contains x
 |.all,.ids []=>true
 |.ids [],.all=>true
 |_,_=>false
def gE (rs:List Rec) (p:Nat×Nat):Bool:=match rs[p.1]?,rs[p.2]? with
 |some a,some b=>still a b&&still b a&&apart a b
 |_,_=>false
def xM (n0:Nat) (rs:List Rec) (ahead:List Nat) (id:Nat):Bool:=
 Nat.blt id n0||ahead.any fun i=>match rs[i]? with|some a=>Nat.ble a.xk id&&Nat.blt id a.oc|none=>false
def CI (n0:Nat) (rs:List Rec) (ahead:List Nat):Rd->Bool
 |.qh x=>xM n0 rs ahead x.id
 |.obj id=>xM n0 rs ahead id
 |.all=>true
def tI (n0:Nat) (rs:List Rec) (ahead:List Nat):Ip->Bool
 |.ids l=>l.all (xM n0 rs ahead)
 |.all=>true
def gN (n0:Nat) (rs:List Rec):List (List Nat)->List Rec->Bool
 |a::as,r::rest=>r.cR.all (CI n0 rs a)&&tI n0 rs a r.bX&&gN n0 rs as rest
 |[],[]=>true
 |_,_=>false
def b_ (cf:eI) (nt:Nat) (ops:List av) (ahead:List (List Nat)) (pairs:List (Nat×Nat)) (st:St):Option St:=
 match cZ cf nt st.nx ops st with
 |none=>none
 |some (st',rs)=>bif gN st.nx rs ahead rs&&bz (gE rs) pairs then some st' else none
inductive bJ where
 |normal
 |exit (id:Nat)
 |ret
abbrev dm:=Nat->bR->St->Option (bJ×St)
def bu (ex:dm) (cf:eI) (nt:Nat) (c:bR) (st:St):Option (bJ×St):=match c with
 |.skip=>some (.normal,st)
 |.aa ops=>match dy cf nt ops st with
  |some st=>some (.normal,st)
  |none=>none
 |.aT ops ahead pairs=>match b_ cf nt ops ahead pairs st with
  |some st=>some (.normal,st)
  |none=>none
 |.seq a b=>match ex nt a st with
  |some (.normal,st)=>ex nt b st
  |r=>r
 |.cond c a b=>match ev st.env c with
  |.bool true=>ex nt a st
  |.bool false=>ex nt b st
  |_=>none
 |.block id c=>match ex nt c st with
  |some (.exit i,st)=>bif Nat.beq i id then some (.normal,st) else some (.exit i,st)
  |r=>r
 |.loop c=>match ex nt c st with
  |some (.normal,st)=>ex nt (.loop c) st
  |r=>r
 |.exit id=>some (.exit id,st)
 |.ret=>some (.ret,st)
def cI:List AV->Nat->Env->Env
 |[],_,e=>e
 |v::vs,i,e=>cI vs (i+1) (e.put (some v) i)
def iS (e:Env) (H:ay):pq->Option AV
 |.tmp t=>some (ev e (.t t))
 |.cell t sz=>match ev e (.t t) with
  |.ptr id g off=>match cM H (some ⟨id,g,off,bZ sz⟩) with
   |some cs=>Ak sz cs
   |none=>none
  |_=>none
def ko (l:List pq) (st:St):Option (AV×ay×Nat):=match cw (iS st.env st.H) l with
 |some [v]=>some (v,st.H,st.nx)
 |some vs=>some (.dM vs,st.H,st.nx)
 |none=>none
def gQ (prog:Map aq) (ex:dm):eI:=fun f args H nx=>match prog.get f with
 |none=>none
 |some af=>bif Nat.beq args.length af.params then
   match ex af.nt af.body ⟨cI args 0 .leaf,H,nx⟩ with
   |some (.normal,st)=>ko af.res st
   |some (.ret,st)=>ko af.res st
   |_=>none
  else none
structure Li where
 code:dm
 fn:eI
def interp (prog:Map aq) (k:Nat):Li:=
 Nat.rec (motive:=fun _=>Li) ⟨fun _ _ _=>none,fun _ _ _ _=>none⟩ (fun _ p=>⟨bu p.code p.fn,gQ prog p.code⟩) k
end Go.Ax
namespace Go.Ax
theorem o6 {α:Sort _} (c:Bool) (a b:α):(Bool.rec a b c:α)=if c=true then b else a:=by cases c<;>rfl
namespace Map
variable {α:Type}
theorem kQ (i:Nat):(leaf:Map α).get i=none:=rfl
theorem b5 (v:Option α) (l r:Map α) (i:Nat):(node v l r).get i=if i=0 then v else if i % 2=1 then l.get (i / 2) else r.get (i / 2 - 1):=by show (Bool.rec (Bool.rec (r.get (i / 2 - 1)) (l.get (i / 2)) (Nat.beq (i % 2) 1)) v (Nat.beq i 0):Option α)=_;simp only [o6,Qn]
theorem Ds (v:Option α) (f i:Nat):one v (f+1) i=if i=0 then .node v .leaf .leaf else if i % 2=1 then .node none (one v f (i / 2)) .leaf else .node none .leaf (one v f (i / 2 - 1)):=by show (Bool.rec (Bool.rec (.node none .leaf (one v f (i / 2 - 1))) (.node none (one v f (i / 2)) .leaf) (Nat.beq (i % 2) 1)) (.node v .leaf .leaf) (Nat.beq i 0):Map α)=_;simp only [o6,Qn]
theorem Df (v:Option α) (i:Nat):put v leaf i=one v (i+1) i:=rfl
theorem De (w v:Option α) (l r:Map α) (i:Nat):put w (node v l r) i=if i=0 then .node w l r else if i % 2=1 then .node v (put w l (i / 2)) r else .node v l (put w r (i / 2 - 1)):=by show (Bool.rec (Bool.rec (.node v l (put w r (i / 2 - 1))) (.node v (put w l (i / 2)) r) (Nat.beq (i % 2) 1)) (.node w l r) (Nat.beq i 0):Map α)=_;simp only [o6,Qn]
theorem FH (v:Option α):∀(f i j:Nat),i < f->(one v f i).get j=if j=i then v else none:=by
 intro f
 induction f with
 |zero=>intro i j h;omega
 |succ f ih=>
  intro i j h;rw [Ds];by_cases h0:i=0
  ·subst h0;simp only [if_true,b5,kQ];split<;>simp_all
  ·rw [if_neg h0];by_cases h1:i % 2=1
   ·rw [if_pos h1,b5,ih _ _ (by omega)];by_cases hj:j=0
    ·subst hj;rw [if_pos rfl,if_neg (by omega)]
    ·rw [if_neg hj];by_cases hj1:j % 2=1
     ·rw [if_pos hj1];by_cases e:j=i
      ·subst e;simp
      ·rw [if_neg (by omega),if_neg e]
     ·rw [if_neg hj1,kQ,if_neg (by rintro rfl;exact hj1 h1)]
   ·rw [if_neg h1,b5,ih _ _ (by omega)];by_cases hj:j=0
    ·subst hj;rw [if_pos rfl,if_neg (by omega)]
    ·rw [if_neg hj];by_cases hj1:j % 2=1
     ·rw [if_pos hj1,kQ,if_neg (by rintro rfl;exact h1 hj1)]
     ·rw [if_neg hj1];by_cases e:j=i
      ·subst e;simp
      ·rw [if_neg (by omega),if_neg e]
theorem au (w:Option α) (m:Map α):∀(i j:Nat),(put w m i).get j=if j=i then w else m.get j:=by
 induction m with
 |leaf=>intro i j;rw [Df,FH _ _ _ _ (by omega),kQ]
 |node v l r ihl ihr=>
  intro i j;rw [De];by_cases h0:i=0
  ·subst h0;rw [if_pos rfl,b5,b5];split<;>rfl
  ·rw [if_neg h0];by_cases h1:i % 2=1
   ·rw [if_pos h1,b5,b5,ihl];by_cases hj:j=0
    ·subst hj;rw [if_pos rfl,if_neg (by omega),if_pos rfl]
    ·rw [if_neg hj,if_neg hj];by_cases hj1:j % 2=1
     ·rw [if_pos hj1,if_pos hj1];by_cases e:j=i
      ·subst e;simp
      ·rw [if_neg (by omega),if_neg e]
     ·rw [if_neg hj1,if_neg hj1,if_neg (by rintro rfl;exact hj1 h1)]
   ·rw [if_neg h1,b5,b5,ihr];by_cases hj:j=0
    ·subst hj;rw [if_pos rfl,if_neg (by omega),if_pos rfl]
    ·rw [if_neg hj,if_neg hj];by_cases hj1:j % 2=1
     ·rw [if_pos hj1,if_pos hj1,if_neg (by rintro rfl;exact h1 hj1)]
     ·rw [if_neg hj1,if_neg hj1];by_cases e:j=i
      ·subst e;simp
      ·rw [if_neg (by omega),if_neg e]
theorem fT (m:Map α):∀(p:Nat->Bool) (i:Nat),(m.upto p).get i=if p i=true then m.get i else none:=by
 induction m with
 |leaf=>intro p i;show none=_;rw [kQ];split<;>rfl
 |node v l r ihl ihr=>
  intro p i;show (node _ (l.upto _) (r.upto _)).get i=_;rw [b5,b5,ihl,ihr,o6];by_cases h0:i=0
  ·subst h0;simp
  ·rw [if_neg h0,if_neg h0];by_cases h1:i % 2=1
   ·rw [if_pos h1,if_pos h1];have e:Nat.succ (Nat.mul 2 (i / 2))=i:=by simp only [Nat.succ_eq_add_one,Nat.mul_eq];omega
    rw [e]
   ·rw [if_neg h1,if_neg h1];have e:Nat.succ (Nat.succ (Nat.mul 2 (i / 2 - 1)))=i:=by simp only [Nat.succ_eq_add_one,Nat.mul_eq];omega
    rw [e]
theorem uH (a:Map α):∀(b:Map α) (i:Nat),(a.union b).get i=match a.get i with|some x=>some x|none=>b.get i:=by
 induction a with
 |leaf=>intro b i;rfl
 |node v l r ihl ihr=>
  intro b i;cases b with
  |leaf=>show (node v l r).get i=_;cases (node v l r).get i<;>rfl
  |node v' l' r'=>
   show (node _ (l.union l') (r.union r')).get i=_;rw [b5,b5,b5,ihl,ihr];by_cases h0:i=0
   ·simp only [if_pos h0];try (cases v<;>rfl)
   ·simp only [if_neg h0];by_cases h1:i % 2=1
    ·simp only [if_pos h1]
    ·simp only [if_neg h1]
end Map
theorem aJ {α:Type} {f:α->Bool} {l:List α}:bz f l=true↔∀x∈l,f x=true:=by
 induction l with
 |nil=>exact⟨fun _ _ h=>(by cases h),fun _=>rfl⟩
 |cons x l ih=>
  show (Bool.rec false (bz f l) (f x):Bool)=true↔_;rw [o6];split
  ·rename_i h;rw [ih];simp [h]
  ·rename_i h;simp [h]
theorem b7 {α β:Type} (f:α->Option β) (x:α) (l:List α):cw f (x::l)=match f x with|none=>none|some y=>match cw f l with|none=>none|some ys=>some (y::ys):=rfl
theorem DE {α β:Type} (f:α->Option β):cw f []=some []:=rfl
theorem eY {α β:Type} {f:α->Option β} {l:List α} {r:List β} (h:cw f l=some r):l.length=r.length/\∀(j:Nat) (x:α),l[j]?=some x->∃y,r[j]?=some y/\f x=some y:=by
 induction l generalizing r with
 |nil=>rw [DE] at h;cases h;exact⟨rfl,fun j x hx=>by simp at hx⟩
 |cons a l ih=>
  rw [b7] at h;cases ha:f a with
  |none=>rw [ha] at h;cases h
  |some y=>
   rw [ha] at h;cases hl:cw f l with
   |none=>rw [hl] at h;cases h
   |some ys=>
    rw [hl] at h;cases h;obtain⟨h1,h2⟩:=ih hl;refine⟨by simp [h1],fun j x hx=>?_⟩;cases j with
    |zero=>simp at hx;subst hx;exact⟨y,rfl,ha⟩
    |succ j=>simpa using h2 j x (by simpa using hx)
theorem BA (n:Nat):first [] n=if n=0 then some [] else none:=by show (Bool.rec _ _ _:Option (List AV))=_;simp only [o6,Qn]
theorem zw (x:AV) (l:List AV) (n:Nat):first (x::l) n=if n=0 then some [] else match first l (n - 1) with|some r=>some (x::r)|none=>none:=by show (Bool.rec (match first l (n - 1) with|some r=>some (x::r)|none=>none) (some []) (Nat.beq n 0):Option (List AV))=_;simp only [o6,Qn]
theorem nR (cells:List AV):∀n,first cells n=if n<=cells.length then some (cells.take n) else none:=by
 induction cells with
 |nil=>intro n;rw [BA];cases n<;>simp
 |cons x l ih=>
  intro n;rw [zw,ih];cases n with
  |zero=>simp
  |succ n=>simp only [Nat.add_one_ne_zero,if_false,Nat.add_sub_cancel,Qa,Nat.add_le_add_iff_right];by_cases h:n<=l.length<;>simp [h]
theorem F4 (off n:Nat):cut [] off n=if off=0 then first [] n else none:=by show (Bool.rec _ _ _:Option (List AV))=_;simp only [o6,Qn]
theorem Ei (x:AV) (l:List AV) (off n:Nat):cut (x::l) off n=if off=0 then first (x::l) n else cut l (off - 1) n:=by show (Bool.rec (cut l (off - 1) n) (first (x::l) n) (Nat.beq off 0):Option (List AV))=_;simp only [o6,Qn]
theorem cJ (cells:List AV):∀off n,cut cells off n=if off+n<=cells.length then some ((cells.drop off).take n) else none:=by
 induction cells with
 |nil=>intro off n;rw [F4,nR];cases off<;>simp
 |cons x l ih=>
  intro off n;rw [Ei,ih,nR];cases off with
  |zero=>simp
  |succ off=>simp only [Nat.add_one_ne_zero,if_false,Nat.add_sub_cancel,Qa,List.drop_succ_cons];simp only [Nat.add_right_comm off 1 n,Nat.add_le_add_iff_right]
theorem fk {cells cs:List AV} {off n:Nat} (h:cut cells off n=some cs):off+n<=cells.length/\cs=(cells.drop off).take n:=by
 rw [cJ] at h;split at h
 ·rename_i hl;exact⟨hl,by injection h with h;exact h.symm⟩
 ·cases h
theorem vR {cells cs:List AV} {off n:Nat} (h:cut cells off n=some cs):cs.length=n/\∀j,j < n->cs[j]?=cells[off+j]?:=by obtain⟨hl,rfl⟩:=fk h;refine⟨by simp;omega,fun j hj=>by rw [List.getElem?_take_of_lt hj,P3]⟩
theorem Bk (cells:List AV):nq [] cells=some cells:=rfl
theorem yZ (y:AV) (cs:List AV):∀cells,nq (y::cs) cells=match cells with|[]=>none|_::xs=>match nq cs xs with|some l=>some (y::l)|none=>none:=fun _=>rfl
theorem xe (cs:List AV):∀cells,nq cs cells=if cs.length<=cells.length then some (cs++cells.drop cs.length) else none:=by
 induction cs with
 |nil=>intro cells;simp [Bk]
 |cons y cs ih=>
  intro cells;rw [yZ];cases cells with
  |nil=>simp
  |cons x xs=>simp only [ih,Qa,Nat.add_le_add_iff_right,List.drop_succ_cons,List.cons_append];by_cases h:cs.length<=xs.length<;>simp [h]
theorem Dp (off:Nat) (cs:List AV):cO [] off cs=if off=0 then nq cs [] else none:=by show (Bool.rec _ _ _:Option (List AV))=_;simp only [o6,Qn]
theorem Bj (x:AV) (l:List AV) (off:Nat) (cs:List AV):cO (x::l) off cs=if off=0 then nq cs (x::l) else match cO l (off - 1) cs with|some r=>some (x::r)|none=>none:=by show (Bool.rec (match cO l (off - 1) cs with|some r=>some (x::r)|none=>none) (nq cs (x::l)) (Nat.beq off 0):Option (List AV))=_;simp only [o6,Qn]
theorem fN (cells:List AV):∀off cs,cO cells off cs=if off+cs.length<=cells.length then some (cells.take off++cs++cells.drop (off+cs.length)) else none:=by
 induction cells with
 |nil=>intro off cs;rw [Dp,xe];cases off<;>simp
 |cons x l ih=>
  intro off cs;rw [Bj,ih,xe];cases off with
  |zero=>simp
  |succ off=>simp only [Nat.add_one_ne_zero,if_false,Nat.add_sub_cancel,Qa,List.take_succ_cons,Nat.add_right_comm off 1 cs.length,Nat.add_le_add_iff_right,List.drop_succ_cons];by_cases h:off+cs.length<=l.length<;>simp [h]
theorem cP {cells cells' cs:List AV} {off:Nat} (h:cO cells off cs=some cells'):off+cs.length<=cells.length/\cells'=cells.take off++cs++cells.drop (off+cs.length):=by
 rw [fN] at h;split at h
 ·rename_i hl;exact⟨hl,by injection h with h;exact h.symm⟩
 ·cases h
theorem dG {cells cells' cs:List AV} {off:Nat} (h:cO cells off cs=some cells'):cells'.length=cells.length/\∀j,cells'[j]?=if off<=j/\j < off+cs.length then cs[j - off]? else cells[j]?:=by
 obtain⟨hl,rfl⟩:=cP h;refine⟨by simp;omega,fun j=>?_⟩;by_cases h1:j < off
 ·rw [PW (by simp;omega),PW (by simp;omega),List.getElem?_take_of_lt h1,if_neg (by omega)]
 ·by_cases h2:j < off+cs.length
  ·rw [PW (by simp;omega),PX (by simp;omega),if_pos ⟨by omega,h2⟩];congr 1;simp;omega
  ·rw [PX (by simp;omega),if_neg (by omega),P3];congr 1;simp;omega
theorem oU {a b:IntKind} (h:ET a b=true):a=b:=by cases a<;>cases b<;>first|rfl|cases h
theorem FP (a b:IntKind):ET a b=decide (a=b):=by cases a<;>cases b<;>rfl
theorem Er (a b:Nat):Nat.blt a b=decide (a < b):=by rw [Bool.eq_iff_iff];simp [Qp]
theorem iZ (x y:Int):od x y=decide (x < y):=by
 cases x<;>cases y<;>simp only [od,Er]<;>first
  |(congr 1;simp only [Int.ofNat_eq_natCast,eq_iff_iff];omega)
  |(symm;rw [Qq];simp only [Int.ofNat_eq_natCast];omega)
  |(symm;rw [Qr];simp only [Int.ofNat_eq_natCast];omega)
theorem mS (x y:Int):AR x y=decide (x=y):=by
 cases x<;>cases y<;>simp only [AR]<;>first
  |(rw [Bool.eq_iff_iff,Qn,Qq];simp only [Int.ofNat_eq_natCast];omega)
  |(rw [Bool.eq_iff_iff,Qn,Qq,Int.negSucc.injEq])
  |(symm;rw [Qr];simp only [Int.ofNat_eq_natCast];omega)
theorem nJ {i:Int} {n m:Nat} (h:DO i n=some m):i=(m:Int)/\m < n:=by
 cases i with
 |ofNat k=>
  simp only [DO,Er,cond_eq_ite,Qq] at h;split at h
  ·cases h;exact⟨rfl,by assumption⟩
  ·cases h
 |negSucc k=>cases h
theorem n6 {i:Int} {n m:Nat} (h:IE i n=some m):i=(m:Int)/\m<=n:=by
 cases i with
 |ofNat k=>
  simp only [IE,cond_eq_ite,Qo] at h;split at h
  ·cases h;exact⟨rfl,by assumption⟩
  ·cases h
 |negSucc k=>cases h
theorem je (k:IntKind) (n:Int):cG k n=k.wrap n:=by
 unfold cG;rw [cond_eq_ite];split
 ·rename_i h;cases k<;>cases n<;>simp only [IC,Er,Qq] at h<;>simp only [IntKind.wrap,IntKind.bits,IntKind.signed,Int.ofNat_eq_natCast]<;>simp<;>omega
 ·rfl
end Go.Ax
end
