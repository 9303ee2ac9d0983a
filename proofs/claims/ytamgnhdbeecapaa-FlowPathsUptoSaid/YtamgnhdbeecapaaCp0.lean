/- Part 0 of the proof: Ax0, Ax1. -/
import GoSem.Step

namespace Go.Ax
inductive Map (α:Type) where
 |leaf
 |node (v:Option α) (l r:Map α)
namespace Map
variable {α:Type}
noncomputable def get (m:Map α):Nat->Option α:=
 Map.rec (motive:=fun _=>Nat->Option α) (fun _=>none)
  (fun v _ _ l r i=>Bool.rec (Bool.rec (r (Nat.sub (Nat.div i 2) 1)) (l (Nat.div i 2)) (Nat.beq (Nat.mod i 2) 1)) v (Nat.beq i 0)) m
noncomputable def one (v:Option α) (f:Nat):Nat->Map α:=
 Nat.rec (motive:=fun _=>Nat->Map α) (fun _=>.leaf)
  (fun _ ih i=>Bool.rec (Bool.rec (.node none .leaf (ih (Nat.sub (Nat.div i 2) 1))) (.node none (ih (Nat.div i 2)) .leaf) (Nat.beq (Nat.mod i 2) 1)) (.node v .leaf .leaf) (Nat.beq i 0)) f
noncomputable def put (w:Option α) (m:Map α):Nat->Map α:=
 Map.rec (motive:=fun _=>Nat->Map α) (fun i=>one w (Nat.succ i) i)
  (fun v l0 r0 l r i=>Bool.rec (Bool.rec (.node v l0 (r (Nat.sub (Nat.div i 2) 1))) (.node v (l (Nat.div i 2)) r0) (Nat.beq (Nat.mod i 2) 1)) (.node w l0 r0) (Nat.beq i 0)) m
noncomputable def upto (m:Map α):(Nat->Bool)->Map α:=
 Map.rec (motive:=fun _=>(Nat->Bool)->Map α) (fun _=>.leaf)
  (fun v _ _ l r p=>.node (Bool.rec none v (p 0)) (l fun k=>p (Nat.succ (Nat.mul 2 k))) (r fun k=>p (Nat.succ (Nat.succ (Nat.mul 2 k))))) m
noncomputable def union (m:Map α):Map α->Map α:=
 Map.rec (motive:=fun _=>Map α->Map α) (fun m=>m)
  (fun v l0 r0 l r m=>match m with
   |.leaf=>.node v l0 r0
   |.node v' l' r'=>.node (match v with|some x=>some x|none=>v') (l l') (r r')) m
end Map
inductive AV where
 |bool (b:Bool)
 |int (k:IntKind) (n:Int)
 |str (s:ByteArray)
 |Bi
 |ptr (id g off:Nat)
 |oV (cs:List AV) (off:Nat)
 |aq
 |jq (cs:List AV) (n:Nat) (cap:Option Nat)
 |ref (id g off es len cap:Nat) (ex:Bool)
 |agg (cs:List AV)
 |qd (vs:List AV)
 |func (f:Nat)
 |zg (id:Nat)
 deriving Inhabited
inductive n9 where
 |row (g:Nat) (cells:List AV)
 |map (es:List (AV×AV))
 deriving Inhabited
abbrev cw:=Map n9
abbrev Env:=Map AV
def j7:AV:=.qd []
def AV.flat:AV->Bool
 |.ref ..=>false
 |.ptr ..=>false
 |.zg _=>false
 |.agg _=>false
 |.qd _=>false
 |_=>true
noncomputable def gJ {α:Type} (f:α->Bool) (l:List α):Bool:=List.rec (motive:=fun _=>Bool) true (fun x _ ih=>Bool.rec false ih (f x)) l
noncomputable def AV.qg:AV->Bool
 |.agg cs=>gJ AV.flat cs
 |v=>v.flat
noncomputable def AV.plain:AV->Bool
 |.qd vs=>gJ AV.qg vs
 |v=>v.qg
def AV.P5:AV->Bool
 |.qd _=>true
 |_=>false
def AV.one:AV->Bool
 |.agg _=>false
 |.qd _=>false
 |_=>true
def AV.cells?:AV->Option (List AV)
 |.agg cs=>some cs
 |.qd _=>none
 |v=>some [v]
noncomputable def lN {α β:Type} (f:α->Option β) (l:List α):Option (List β):=
 List.rec (motive:=fun _=>Option (List β)) (some [])
  (fun x _ ih=>match f x with
   |none=>none
   |some y=>match ih with
    |none=>none
    |some ys=>some (y::ys)) l
noncomputable def first (cells:List AV):Nat->Option (List AV):=
 List.rec (motive:=fun _=>Nat->Option (List AV)) (fun n=>Bool.rec none (some []) (Nat.beq n 0))
  (fun x _ ih n=>Bool.rec (match ih (Nat.pred n) with|some l=>some (x::l)|none=>none) (some []) (Nat.beq n 0)) cells
noncomputable def cut (cells:List AV):Nat->Nat->Option (List AV):=
 List.rec (motive:=fun _=>Nat->Nat->Option (List AV)) (fun off n=>Bool.rec none (first [] n) (Nat.beq off 0))
  (fun x xs ih off n=>Bool.rec (ih (Nat.pred off) n) (first (x::xs) n) (Nat.beq off 0)) cells
noncomputable def Cp (cs:List AV):List AV->Option (List AV):=
 List.rec (motive:=fun _=>List AV->Option (List AV)) (fun cells=>some cells)
  (fun y _ ih cells=>match cells with
   |[]=>none
   |_::xs=>match ih xs with
    |some l=>some (y::l)
    |none=>none) cs
noncomputable def jm (cells:List AV):Nat->List AV->Option (List AV):=
 List.rec (motive:=fun _=>Nat->List AV->Option (List AV)) (fun off cs=>Bool.rec none (Cp cs []) (Nat.beq off 0))
  (fun x xs ih off cs=>Bool.rec (match ih (Nat.pred off) cs with|some l=>some (x::l)|none=>none) (Cp cs (x::xs)) (Nat.beq off 0)) cells
def rows (n:Nat) (zero:List AV):List AV:=(List.replicate n zero).flatten
def S2 (k:IntKind) (n:Int):Bool:=match n with
 |.ofNat m=>Nat.blt m (match k with|.i8=>128|.i16=>32768|.i32=>2147483648|.i64=>9223372036854775808|.u8=>256|.u16=>65536|.u32=>4294967296|.u64=>18446744073709551616)
 |.negSucc m=>Nat.blt m (match k with|.i8=>128|.i16=>32768|.i32=>2147483648|.i64=>9223372036854775808|_=>0)
def oJ (k:IntKind) (n:Int):Int:=bif S2 k n then n else k.wrap n
def sw (x y:Int):Bool:=match x,y with
 |.ofNat a,.ofNat b=>Nat.blt a b
 |.negSucc _,.ofNat _=>true
 |.ofNat _,.negSucc _=>false
 |.negSucc a,.negSucc b=>Nat.blt b a
def mh (x y:Int):Bool:=match x,y with
 |.ofNat a,.ofNat b=>Nat.beq a b
 |.negSucc a,.negSucc b=>Nat.beq a b
 |_,_=>false
def Qo:IntKind->IntKind->Bool
 |.i8,.i8|.i16,.i16|.i32,.i32|.i64,.i64|.u8,.u8|.u16,.u16|.u32,.u32|.u64,.u64=>true
 |_,_=>false
def Rn (i:Int) (n:Nat):Option Nat:=match i with
 |.ofNat m=>bif Nat.blt m n then some m else none
 |.negSucc _=>none
def Rr (i:Int) (n:Nat):Option Nat:=match i with
 |.ofNat m=>bif Nat.ble m n then some m else none
 |.negSucc _=>none
inductive vf where
 |int|bool|str
inductive KF where
 |one (l:vf)
 |slice
 |agg (ls:List vf)
def Qn (l:vf) (a b:AV):Option Bool:=match l with
 |.int=>match a with
  |.int k n=>match b with
   |.int k' m=>bif Qo k k' then some (mh n m) else none
   |_=>none
  |_=>none
 |.bool=>match a with
  |.bool x=>match b with
   |.bool y=>some (x == y)
   |_=>none
  |_=>none
 |.str=>match a with
  |.str x=>match b with
   |.str y=>some (x == y)
   |_=>none
  |_=>none
noncomputable def KE (ls:List vf):List AV->List AV->Option Bool:=
 List.rec (motive:=fun _=>List AV->List AV->Option Bool) (fun a b=>match a with|[]=>(match b with|[]=>some true|_::_=>none)|_::_=>none)
  (fun l _ ih a b=>match a with
   |[]=>none
   |x::xs=>match b with
    |[]=>none
    |y::ys=>match Qn l x y with
     |none=>none
     |some u=>match ih xs ys with
      |none=>none
      |some c=>some (u&&c)) ls
noncomputable def Rp (t:KF) (x y:AV):Option Bool:=match t with
 |.one l=>Qn l x y
 |.agg ls=>match x with
  |.agg a=>match y with
   |.agg b=>KE ls a b
   |_=>none
  |_=>none
 |.slice=>match x with
  |.aq=>match y with
   |.aq=>some true
   |.jq ..=>some false
   |.ref ..=>some false
   |_=>none
  |.jq ..=>match y with
   |.aq=>some false
   |_=>none
  |.ref ..=>match y with
   |.aq=>some false
   |_=>none
  |_=>none
noncomputable def dw (d:Nat):cw->AV->Option AV:=
 Nat.rec (motive:=fun _=>cw->AV->Option AV) (fun _ _=>none)
  (fun _ ih H v=>match v with
   |.ref id g off es len cap ex=>match H.get id with
    |some (.row g' cells)=>bif Nat.beq g' g then match cut cells off (Nat.mul len es) with
      |some cs=>match lN (ih H) cs with
       |some cs=>some (.jq cs len (Bool.rec none (some cap) ex))
       |none=>none
      |none=>none
     else none
    |_=>none
   |.agg cs=>match lN (ih H) cs with
    |some cs=>some (.agg cs)
    |none=>none
   |.qd cs=>match lN (ih H) cs with
    |some cs=>some (.qd cs)
    |none=>none
   |.ptr ..=>none
   |.zg _=>none
   |v=>some v) d
noncomputable def ff (d:Nat):cw->AV->List Nat:=
 Nat.rec (motive:=fun _=>cw->AV->List Nat) (fun _ _=>[])
  (fun _ ih H v=>match v with
   |.ref id _ off es len _ _=>match H.get id with
    |some (.row _ cells)=>id::(match cut cells off (Nat.mul len es) with|some cs=>cs.flatMap (ih H)|none=>[])
    |_=>[id]
   |.agg cs=>cs.flatMap (ih H)
   |.qd cs=>cs.flatMap (ih H)
   |_=>[]) d
noncomputable def own (d:Nat):cw->AV->Bool:=
 Nat.rec (motive:=fun _=>cw->AV->Bool) (fun _ _=>false)
  (fun _ ih H v=>match v with
   |.ref id _ off es len _ _=>match H.get id with
    |some (.row _ cells)=>match cut cells off (Nat.mul len es) with|some cs=>gJ (ih H) cs|none=>false
    |_=>false
   |.agg cs=>gJ (ih H) cs
   |.qd cs=>gJ (ih H) cs
   |.jq cs _ _=>match cs with|[]=>true|_::_=>false
   |.oV ..=>false
   |.ptr ..=>false
   |.zg _=>false
   |_=>true) d
def deep:Nat:=30
inductive ct where
 |t (n:Nat)
 |c (v:AV)
 deriving Inhabited
inductive Mode where
 |share
 |borrow
inductive lX where
 |mv (x:ct)
 |pick (c a b:ct)
 |alloc (zero:List AV)
 |box (x:ct)
 |build (zero:List AV) (parts:List (Nat×Nat×ct))
 |sj (es len:Nat) (zero:List AV) (parts:List (Nat×Nat×ct))
 |de (len:Nat) (zero:List AV) (parts:List (Nat×Nat×ct))
 |load (sz:Option Nat) (a:ct)
 |store (sz:Nat) (a x:ct)
 |we (x:ct)
 |bin (op:BinOp) (x y:ct)
 |eq (t:KF) (neg:Bool) (x y:ct)
 |un (op:UnOp) (x:ct)
 |conv (k:IntKind) (x:ct)
 |Cx (es bytes:Nat) (zero:List AV) (n:ct)
 |sn (x:ct) (lo hi:Option ct)
 |zb (es:Nat) (x:ct) (lo hi mx:Option ct)
 |Br (n es:Nat) (x:ct) (lo hi mx:Option ct)
 |uu (off:Nat) (x:ct)
 |NN (off:Nat) (sz:Option Nat) (x:ct)
 |jg (es:Nat) (x i:ct)
 |uo (len es:Nat) (x i:ct)
 |idx (x i:ct)
 |ext (i:Nat) (x:ct)
 |app (es bytes:Nat) (s x:ct)
 |SF (es:Nat) (d s:ct)
 |SH (es:Nat) (zero:List AV) (x:ct)
 |len (str:Bool) (x:ct)
 |KC (mx:Bool) (xs:List ct)
 |Bw
 |Bv (t:KF) (zero:AV) (ok:Bool) (m k:ct)
 |H8 (t:KF) (m k v:ct)
 |Gi (m:ct)
 |call (f:Nat) (args:List ct) (m:Mode)
 |kn (f:ct) (args:List ct) (m:Mode)
 deriving Inhabited
structure cj where
 dst:Option Nat
 op:lX
 gd:Option (Nat×Bool)
 fz:Bool
 deriving Inhabited
abbrev o (d:Nat) (op:lX):cj:=⟨some d,op,none,false⟩
abbrev i64 (n:Int):ct:=.c (.int .i64 n)
inductive ku where
 |skip
 |cr (ops:List cj)
 |d_ (ops:List cj) (ahead:List (List Nat)) (pairs:List (Nat×Nat))
 |seq (a b:ku)
 |cond (c:ct) (a b:ku)
 |block (id:Nat) (c:ku)
 |loop (c:ku)
 |exit (id:Nat)
 |ret
 deriving Inhabited
inductive wz where
 |tmp (t:Nat)
 |cell (t:Nat) (sz:Option Nat)
structure bk where
 params:Nat
 nt:Nat
 res:List wz
 body:ku
structure Kv where
 id:Nat
 g:Nat
 off:Nat
 len:Nat
structure Out where
 val:Nat->AV
 obj:Option n9
 new:Option n9
inductive dg where
 |val (v:AV)
 |new (val:Nat->AV) (o:n9)
 |look (q:Option Kv) (u:Option Nat) (k:List AV->Option n9->Option Out)
abbrev kr (v:AV):dg:=.val v
def lq (v:Option AV):Option dg:=match v with|some v=>some (.val v)|none=>none
abbrev PG (val:Nat->AV) (o:n9):dg:=.new val o
def D7 (g:Nat) (k:List AV->Option Out):Option n9->Option Out
 |some (.row g' cells)=>bif Nat.beq g' g then k cells else none
 |_=>none
def most:Nat:=70368744177664
def Lf (sz:Option Nat) (cs:List AV):Option AV:=match sz with
 |none=>match cs with|[v]=>some v|_=>none
 |some _=>some (.agg cs)
noncomputable def fill (ρ:ct->AV) (parts:List (Nat×Nat×ct)):List AV->Option (List AV):=
 List.rec (motive:=fun _=>List AV->Option (List AV)) (fun cells=>some cells)
  (fun p _ ih cells=>match (ρ p.2.2).cells? with
   |none=>none
   |some cs=>bif Nat.beq cs.length p.2.1 then match jm cells p.1 cs with
     |some cells=>ih cells
     |none=>none
    else none) parts
def KP (op:BinOp) (k:IntKind) (x y:Int):Option AV:=
 bif sw y 0 then none else match op with
  |.shl=>some (.int k (k.wrap (x*2 ^ min y.toNat k.bits)))
  |.shr=>some (.int k (x.fdiv (2 ^ min y.toNat k.bits)))
  |_=>none
def P9 (op:BinOp) (k:IntKind) (x y:Int):Option AV:=
 match op with
 |.add=>some (.int k (oJ k (x+y)))
 |.sub=>some (.int k (oJ k (x - y)))
 |.mul=>some (.int k (oJ k (x*y)))
 |.quo=>bif mh y 0 then none else some (.int k (oJ k (x.tdiv y)))
 |.rem=>bif mh y 0 then none else some (.int k (x.tmod y))
 |.and=>some (.int k (k.wrap (BitVec.ofInt k.bits x&&& BitVec.ofInt k.bits y).toNat))
 |.or=>some (.int k (k.wrap (BitVec.ofInt k.bits x||| BitVec.ofInt k.bits y).toNat))
 |.xor=>some (.int k (k.wrap (BitVec.ofInt k.bits x ^^^ BitVec.ofInt k.bits y).toNat))
 |.andNot=>some (.int k (k.wrap (BitVec.ofInt k.bits x&&& ~~~BitVec.ofInt k.bits y).toNat))
 |.eql=>some (.bool (mh x y))
 |.neq=>some (.bool !(mh x y))
 |.lss=>some (.bool (sw x y))
 |.leq=>some (.bool !(sw y x))
 |.gtr=>some (.bool (sw y x))
 |.geq=>some (.bool !(sw x y))
 |.shl=>none
 |.shr=>none
def XQ (op:BinOp) (x y:ByteArray):Option AV:=
 match op with
 |.add=>bif Nat.ble (x.size+y.size) most then some (.str (x++y)) else none
 |.eql=>some (.bool (x.toList == y.toList))
 |.neq=>some (.bool !(x.toList == y.toList))
 |.lss=>some (.bool (Op.bytesLess x.toList y.toList))
 |.leq=>some (.bool (Op.bytesLess x.toList y.toList||x.toList == y.toList))
 |.gtr=>some (.bool !(Op.bytesLess x.toList y.toList||x.toList == y.toList))
 |.geq=>some (.bool !(Op.bytesLess x.toList y.toList))
 |_=>none
def Ko (op:BinOp) (x y:AV):Option AV:=match x with
 |.int k a=>match y with
  |.int k' b=>match op with
   |.shl=>KP .shl k a b
   |.shr=>KP .shr k a b
   |op=>bif Qo k k' then P9 op k a b else none
  |_=>none
 |.str a=>match y with
  |.str b=>XQ op a b
  |_=>none
 |_=>none
def Th (op:UnOp) (x:AV):Option AV:=match op with
 |.neg=>match x with|.int k n=>some (.int k (oJ k (0 - n)))|_=>none
 |.not=>match x with|.bool b=>some (.bool !b)|_=>none
 |.xor=>match x with|.int k n=>P9 .xor k (if k.signed then -1 else k.max) n|_=>none
 |.plus=>none
def VN (mx:Bool):AV->List AV->Option AV
 |v,[]=>some v
 |.int k a,.int _ b::rest=>VN mx (.int k (match mx with|true=>(bif sw a b then b else a)|false=>(bif sw b a then b else a))) rest
 |_,_=>none
def N4 (ρ:ct->AV) (x:Option ct) (other y:Nat):Option Nat:=match x with
 |none=>some other
 |some o=>match ρ o with
  |.int _ i=>Rr i y
  |_=>none
def y8 (ρ:ct->AV) (lo hi mx:Option ct) (len cap:Nat):Option (Nat×Nat×Nat):=match N4 ρ mx cap cap with
 |none=>none
 |some m=>match N4 ρ hi len m with
  |none=>none
  |some h=>match N4 ρ lo 0 h with
   |none=>none
   |some l=>some (l,h,m)
inductive Src where
 |list (cs:List AV)
 |El (r:Kv)
def lH (es:Nat):AV->Option (Nat×Src)
 |.aq=>some (0,.list [])
 |.jq cs n _=>bif Nat.beq (Nat.mul n es) cs.length then some (n,.list cs) else none
 |.ref id g off es' len _ _=>bif Nat.beq es' es then some (len,.El ⟨id,g,off,Nat.mul len es⟩) else none
 |_=>none
def Src.q:Src->Option Kv
 |.El r=>some r
 |.list _=>none
def Src.cs:Src->List AV->List AV
 |.list cs,_=>cs
 |.El _,a=>a
def Ib:AV->Bool
 |.aq=>true
 |.jq ..=>true
 |.ref ..=>true
 |_=>false
noncomputable def F1 (es:Nat) (id g off len cap:Nat) (ex:Bool) (m:Nat) (src:Src):dg:=
 bif Nat.ble (Nat.add len m) cap then
  .look src.q (some id) (fun a=>D7 g fun cells=>match jm cells (Nat.add off (Nat.mul len es)) (src.cs a) with
   |some cells'=>some ⟨fun _=>.ref id g off es (Nat.add len m) cap ex,some (.row g cells'),none⟩
   |none=>none)
 else bif ex then
  .look src.q (some id) (fun a=>D7 g fun cells=>match cut cells off (Nat.mul len es) with
   |some cs=>some ⟨fun id=>.ref id 0 0 es (Nat.add len m) (Nat.add len m) false,none,some (.row 0 (cs++src.cs a))⟩
   |none=>none)
 else
  .look src.q (some id) (fun a=>D7 g fun cells=>bif Nat.beq (Nat.add off (Nat.mul len es)) cells.length then
    some ⟨fun _=>.ref id (Nat.succ g) 0 es (Nat.add len m) (Nat.add len m) false,some (.row (Nat.succ g) (cells.drop off++src.cs a)),none⟩
   else none)
noncomputable def Bm (es bytes:Nat) (s x:AV):Option dg:=match lH es x with
 |none=>none
 |some (m,src)=>bif Nat.beq m 0 then (bif Ib s then some (kr s) else none) else
  match s with
  |.aq=>bif Nat.ble (Nat.mul m bytes) most&&Nat.ble m most then
    some (.look src.q none fun a _=>some ⟨fun id=>.ref id 0 0 es m m false,none,some (.row 0 (src.cs a))⟩) else none
  |.jq cs n (some c)=>bif Nat.blt c (Nat.add n m)&&Nat.beq (Nat.mul n es) cs.length&&Nat.ble (Nat.mul (Nat.add n m) bytes) most&&Nat.ble (Nat.add n m) most then
    some (.look src.q none fun a _=>some ⟨fun id=>.ref id 0 0 es (Nat.add n m) (Nat.add n m) false,none,some (.row 0 (cs++src.cs a))⟩) else none
  |.ref id g off es' len cap ex=>bif Nat.beq es' es&&Nat.ble (Nat.mul (Nat.add len m) bytes) most&&Nat.ble (Nat.add len m) most then
    some (F1 es id g off len cap ex m src) else none
  |_=>none
noncomputable def Ux (es:Nat) (d s:AV):Option dg:=match lH es s with
 |none=>none
 |some (m,src)=>match d with
  |.aq=>some (kr (.int .i64 0))
  |.ref id g off es' len _ _=>bif Nat.beq es' es then
    some (.look src.q (some id) fun a=>D7 g fun cells=>match first (src.cs a) (Nat.mul (min m len) es) with
     |some cs=>match jm cells off cs with
      |some cells'=>some ⟨fun _=>.int .i64 (min m len),some (.row g cells'),none⟩
      |none=>none
     |none=>none) else none
  |_=>none
noncomputable def KO (es:Nat) (ρ:ct->AV) (x:AV) (lo hi mx:Option ct):Option AV:=match x with
 |.aq=>match y8 ρ lo hi mx 0 0 with
  |none=>none
  |some _=>some .aq
 |.jq cs n cap=>bif Nat.beq (Nat.mul n es) cs.length then match y8 ρ lo hi mx n n with
  |none=>none
  |some (l,h,m)=>match cut cs (Nat.mul l es) (Nat.mul (Nat.sub h l) es) with
   |some cs'=>some (.jq cs' (Nat.sub h l) (match mx with|some _=>some (Nat.sub m l)|none=>match cap with|some c=>some (Nat.sub c l)|none=>none))
   |none=>none
  else none
 |.ref id g off es' len cap ex=>bif Nat.beq es' es then match y8 ρ lo hi mx len cap with
  |none=>none
  |some (l,h,m)=>some (.ref id g (Nat.add off (Nat.mul l es)) es (Nat.sub h l) (Nat.sub m l) (match mx with|some _=>true|none=>ex))
  else none
 |_=>none
noncomputable def S5 (t:KF) (k:AV) (es:List (AV×AV)):Nat->Option (Option (Nat×AV)):=
 List.rec (motive:=fun _=>Nat->Option (Option (Nat×AV))) (fun _=>some none)
  (fun p _ ih i=>match Rp t k p.1 with
   |none=>none
   |some true=>some (some (i,p.2))
   |some false=>ih (Nat.succ i)) es
def gC (sz:Option Nat):Nat:=match sz with|none=>1|some n=>n
section
variable (ρ:ct->AV)
def Cl (c a b:ct):Option dg:=match ρ c with
 |.bool t=>match t with
  |true=>some (kr (ρ a))
  |false=>some (kr (ρ b))
 |_=>none
def Jn (x:ct):Option dg:=match (ρ x).cells? with
 |some cs=>some (PG (fun id=>.ptr id 0 0) (.row 0 cs))
 |none=>none
noncomputable def yj (zero:List AV) (parts:List (Nat×Nat×ct)):Option dg:=match fill ρ parts zero with
 |some cs=>some (kr (.agg cs))
 |none=>none
noncomputable def vw (es len:Nat) (zero:List AV) (parts:List (Nat×Nat×ct)):Option dg:=match fill ρ parts zero with
 |some cs=>some (PG (fun id=>.ref id 0 0 es len len false) (.row 0 cs))
 |none=>none
noncomputable def jy (len:Nat) (zero:List AV) (parts:List (Nat×Nat×ct)):Option dg:=match fill ρ parts zero with
 |some cs=>bif gJ AV.flat cs then some (kr (.jq cs len (some len))) else none
 |none=>none
noncomputable def vu (sz:Option Nat) (a:ct):Option dg:=match ρ a with
 |.ptr id g off=>some (.look (some ⟨id,g,off,gC sz⟩) none fun cs _=>match Lf sz cs with|some v=>some ⟨fun _=>v,none,none⟩|none=>none)
 |.oV cs off=>match cut cs off (gC sz) with
  |some cs=>lq (Lf sz cs)
  |none=>none
 |_=>none
noncomputable def wk (sz:Nat) (a x:ct):Option dg:=match ρ a with
 |.ptr id g off=>match (ρ x).cells? with
  |some cs=>bif Nat.beq cs.length sz then
    some (.look none (some id) fun _=>D7 g fun cells=>match jm cells off cs with
     |some cells'=>some ⟨fun _=>j7,some (.row g cells'),none⟩
     |none=>none) else none
  |none=>none
 |_=>none
def uc (x:ct):Option dg:=match ρ x with
 |.ptr id g off=>some (kr (.ptr id g off))
 |.oV cs off=>some (kr (.oV cs off))
 |.func f=>some (kr (.func f))
 |_=>none
noncomputable def Pp (t:KF) (neg:Bool) (x y:ct):Option dg:=match Rp t (ρ x) (ρ y) with
 |some b=>some (kr (.bool (match neg with|true=>!b|false=>b)))
 |none=>none
def DO (k:IntKind) (x:ct):Option dg:=match ρ x with
 |.int _ n=>some (kr (.int k (oJ k n)))
 |_=>none
def DN (es bytes:Nat) (zero:List AV) (n:ct):Option dg:=match ρ n with
 |.int k m=>match Rr m most with
  |some m=>bif Qo k .i64&&Nat.ble (Nat.mul m bytes) most then some (PG (fun id=>.ref id 0 0 es m m false) (.row 0 (rows m zero))) else none
  |none=>none
 |_=>none
def z6 (x:ct) (lo hi:Option ct):Option dg:=match ρ x with
 |.str s=>match y8 ρ lo hi none s.size s.size with
  |none=>none
  |some (l,h,_)=>some (kr (.str (s.extract l h)))
 |_=>none
def Fb (n es:Nat) (x:ct) (lo hi mx:Option ct):Option dg:=match ρ x with
 |.ptr id g off=>match y8 ρ lo hi mx n n with
  |none=>none
  |some (l,h,m)=>some (.look (some ⟨id,g,off,Nat.mul n es⟩) none fun _ _=>some ⟨fun _=>.ref id g (Nat.add off (Nat.mul l es)) es (Nat.sub h l) (Nat.sub m l) true,none,none⟩)
 |_=>none
def rq (off:Nat) (x:ct):Option dg:=match ρ x with
 |.ptr id g o=>some (kr (.ptr id g (Nat.add o off)))
 |.oV cs o=>some (kr (.oV cs (Nat.add o off)))
 |_=>none
noncomputable def Jl (off:Nat) (sz:Option Nat) (x:ct):Option dg:=match ρ x with
 |.agg cs=>match cut cs off (gC sz) with
  |some cs=>lq (Lf sz cs)
  |none=>none
 |_=>none
def ud (es:Nat) (x i:ct):Option dg:=match ρ i with
 |.int _ i=>match ρ x with
  |.jq cs n _=>match Rn i n with
   |some i=>match cs with
    |[]=>none
    |_::_=>some (kr (.oV cs (Nat.mul i es)))
   |none=>none
  |.ref id g off es' len _ _=>bif Nat.beq es' es then match Rn i len with
   |some i=>some (kr (.ptr id g (Nat.add off (Nat.mul i es))))
   |none=>none
   else none
  |_=>none
 |_=>none
def z7 (len es:Nat) (x i:ct):Option dg:=match ρ i with
 |.int _ i=>match Rn i len with
  |some i=>match ρ x with
   |.ptr id g o=>some (kr (.ptr id g (Nat.add o (Nat.mul i es))))
   |.oV cs o=>some (kr (.oV cs (Nat.add o (Nat.mul i es))))
   |_=>none
  |none=>none
 |_=>none
def Jk (x i:ct):Option dg:=match ρ x with
 |.str s=>match ρ i with
  |.int _ (.ofNat i)=>match s[i]? with
   |some b=>some (kr (.int .u8 b.toNat))
   |none=>none
  |_=>none
 |_=>none
def Jm (i:Nat) (x:ct):Option dg:=match ρ x with
 |.qd vs=>lq vs[i]?
 |_=>none
noncomputable def RZ (es:Nat) (zero:List AV) (x:ct):Option dg:=match ρ x with
 |.aq=>some (kr j7)
 |.ref id g off es' len _ _=>bif Nat.beq es' es then
   some (.look none (some id) fun _=>D7 g fun cells=>match jm cells off (rows len zero) with
    |some cells'=>some ⟨fun _=>j7,some (.row g cells'),none⟩
    |none=>none) else none
 |_=>none
def wm (str:Bool) (x:ct):Option dg:=match str with
 |true=>match ρ x with
  |.str s=>some (kr (.int .i64 s.size))
  |_=>none
 |false=>match ρ x with
  |.aq=>some (kr (.int .i64 0))
  |.jq _ n _=>some (kr (.int .i64 n))
  |.ref _ _ _ _ len _ _=>some (kr (.int .i64 len))
  |_=>none
def HZ (mx:Bool) (xs:List ct):Option dg:=match xs.map ρ with
 |v::vs=>lq (VN mx v vs)
 |[]=>none
def T0 (k:List (AV×AV)->Option Out):Option n9->Option Out
 |some (.map es)=>k es
 |_=>none
noncomputable def Po (t:KF) (zero:AV) (ok:Bool) (m k:ct):Option dg:=bif (ρ k).P5 then none else match ρ m with
 |.zg id=>some (.look none (some id) fun _=>T0 fun es=>match S5 t (ρ k) es 0 with
  |none=>none
  |some none=>some ⟨fun _=>match ok with|true=>.qd [zero,.bool false]|false=>zero,none,none⟩
  |some (some (_,v))=>some ⟨fun _=>match ok with|true=>.qd [v,.bool true]|false=>v,none,none⟩)
 |_=>none
noncomputable def SY (t:KF) (m k v:ct):Option dg:=bif (ρ k).P5||(ρ v).P5 then none else match ρ m with
 |.zg id=>some (.look none (some id) fun _=>T0 fun es=>match S5 t (ρ k) es 0 with
  |none=>none
  |some none=>some ⟨fun _=>j7,some (.map (es++[(ρ k,ρ v)])),none⟩
  |some (some (i,_))=>some ⟨fun _=>j7,some (.map (es.set i (ρ k,ρ v))),none⟩)
 |_=>none
def SZ (m:ct):Option dg:=match ρ m with
 |.zg id=>some (.look none (some id) fun _=>T0 fun es=>some ⟨fun _=>.int .i64 es.length,none,none⟩)
 |_=>none
end
inductive OpK where
 |plan (p:(ct->AV)->Option dg)
 |call (f:Nat) (args:List ct) (m:Mode)
 |kn (f:ct) (args:List ct) (m:Mode)
noncomputable def kind (op:lX):OpK:=match op with
 |.mv x=>.plan fun ρ=>some (kr (ρ x))
 |.pick c a b=>.plan fun ρ=>Cl ρ c a b
 |.alloc zero=>.plan fun _=>some (PG (fun id=>.ptr id 0 0) (.row 0 zero))
 |.box x=>.plan fun ρ=>Jn ρ x
 |.build zero parts=>.plan fun ρ=>yj ρ zero parts
 |.sj es len zero parts=>.plan fun ρ=>vw ρ es len zero parts
 |.de len zero parts=>.plan fun ρ=>jy ρ len zero parts
 |.load sz a=>.plan fun ρ=>vu ρ sz a
 |.store sz a x=>.plan fun ρ=>wk ρ sz a x
 |.we x=>.plan fun ρ=>uc ρ x
 |.bin op x y=>.plan fun ρ=>lq (Ko op (ρ x) (ρ y))
 |.eq t neg x y=>.plan fun ρ=>Pp ρ t neg x y
 |.un op x=>.plan fun ρ=>lq (Th op (ρ x))
 |.conv k x=>.plan fun ρ=>DO ρ k x
 |.Cx es bytes zero n=>.plan fun ρ=>DN ρ es bytes zero n
 |.sn x lo hi=>.plan fun ρ=>z6 ρ x lo hi
 |.zb es x lo hi mx=>.plan fun ρ=>lq (KO es ρ (ρ x) lo hi mx)
 |.Br n es x lo hi mx=>.plan fun ρ=>Fb ρ n es x lo hi mx
 |.uu off x=>.plan fun ρ=>rq ρ off x
 |.NN off sz x=>.plan fun ρ=>Jl ρ off sz x
 |.jg es x i=>.plan fun ρ=>ud ρ es x i
 |.uo len es x i=>.plan fun ρ=>z7 ρ len es x i
 |.idx x i=>.plan fun ρ=>Jk ρ x i
 |.ext i x=>.plan fun ρ=>Jm ρ i x
 |.app es bytes s x=>.plan fun ρ=>Bm es bytes (ρ s) (ρ x)
 |.SF es d s=>.plan fun ρ=>Ux es (ρ d) (ρ s)
 |.SH es zero x=>.plan fun ρ=>RZ ρ es zero x
 |.len str x=>.plan fun ρ=>wm ρ str x
 |.KC mx xs=>.plan fun ρ=>HZ ρ mx xs
 |.Bw=>.plan fun _=>some (PG (fun id=>.zg id) (.map []))
 |.Bv t zero ok m k=>.plan fun ρ=>Po ρ t zero ok m k
 |.H8 t m k v=>.plan fun ρ=>SY ρ t m k v
 |.Gi m=>.plan fun ρ=>SZ ρ m
 |.call f args m=>.call f args m
 |.kn f args m=>.kn f args m
noncomputable def jf (H:cw):Option Kv->Option (List AV)
 |none=>some []
 |some r=>match H.get r.id with
  |some (.row g cells)=>bif Nat.beq g r.g then cut cells r.off r.len else none
  |_=>none
noncomputable def ur (H:cw):Option Nat->Option (Option n9)
 |none=>some none
 |some id=>match H.get id with
  |some o=>some (some o)
  |none=>none
noncomputable def EP (H:cw) (u:Option Nat) (ob:Option n9):cw:=match ob with
 |none=>H
 |some ob=>match u with
  |some id=>H.put (some ob) id
  |none=>H
noncomputable def oa (q:Option Kv) (u:Option Nat) (k:List AV->Option n9->Option Out) (H:cw) (nx:Nat):Option (AV×cw×Nat):=match jf H q with
 |none=>none
 |some a=>match ur H u with
  |none=>none
  |some o=>match k a o with
   |none=>none
   |some out=>match out.new with
    |some ob=>some (out.val nx,(EP H u out.obj).put (some ob) nx,Nat.succ nx)
    |none=>some (out.val nx,EP H u out.obj,nx)
noncomputable def gU (p:dg) (H:cw) (nx:Nat):Option (AV×cw×Nat):=match p with
 |.val v=>some (v,H,nx)
 |.new f o=>some (f nx,H.put (some o) nx,Nat.succ nx)
 |.look q u k=>oa q u k H nx
noncomputable def ev (e:Env):ct->AV
 |.t n=>match e.get n with|some v=>v|none=>j7
 |.c v=>v
def lX.gY:lX->List ct
 |.mv x|.box x|.load _ x|.we x|.un _ x|.conv _ x|.Cx _ _ _ x|.uu _ x|.NN _ _ x|.ext _ x|.SH _ _ x|.len _ x|.Gi x=>[x]
 |.pick c a b=>[c,a,b]
 |.alloc _|.Bw=>[]
 |.build _ ps|.sj _ _ _ ps|.de _ _ ps=>ps.map (·.2.2)
 |.store _ a x|.bin _ a x|.eq _ _ a x|.jg _ a x|.uo _ _ a x|.idx a x|.app _ _ a x|.SF _ a x|.Bv _ _ _ a x=>[a,x]
 |.sn x l h=>x::(l.toList++h.toList)
 |.zb _ x l h m|.Br _ _ x l h m=>x::(l.toList++h.toList++m.toList)
 |.H8 _ m k v=>[m,k,v]
 |.KC _ as=>as
 |.call _ as _=>as
 |.kn f as _=>f::as
noncomputable def drop (H:cw):List Nat->cw
 |[]=>H
 |id::rest=>drop (H.put none id) rest
abbrev qc:=Nat->List AV->cw->Nat->Option (AV×cw×Nat)
noncomputable def oY (r:Option (AV×cw×Nat)) (must:Bool):Option AV:=match r with
 |none=>none
 |some (r,Hc,_)=>bif must then (bif own deep Hc r then dw deep Hc r else none) else (bif r.plain then some r else dw deep Hc r)
noncomputable def h_ (cf:qc) (f:Nat) (args:List AV) (m:Mode) (H:cw) (nx:Nat):Option (AV×cw×Nat):=match m with
 |.share=>cf f args H nx
 |.borrow=>bif gJ AV.plain args then
   match oY (cf f args .leaf 0) false with
   |some r=>some (r,H,nx)
   |none=>none
  else match lN (dw deep H) args with
   |none=>none
   |some as=>match oY (cf f as .leaf 0) true with
    |some r=>some (r,H,nx)
    |none=>none
noncomputable def q9 (cf:qc) (op:lX) (ρ:ct->AV) (H:cw) (nx:Nat):Option (AV×cw×Nat):=match kind op with
 |.plan p=>match p ρ with
  |some p=>gU p H nx
  |none=>none
 |.call f args m=>h_ cf f (args.map ρ) m H nx
 |.kn f args m=>match ρ f with
  |.func g=>h_ cf g (args.map ρ) m H nx
  |_=>none
noncomputable def BU (H:cw) (ρ:ct->AV) (x:ct):AV:=match dw deep H (ρ x) with
 |some v=>v
 |none=>ρ x
noncomputable def zh (cf:qc) (o:cj) (ρ:ct->AV) (H:cw) (nx:Nat):Option (AV×cw×Nat):=
 bif o.fz then match o.op with
  |.de len zero parts=>match lN (dw deep H) (parts.map fun p=>ρ p.2.2) with
   |none=>none
   |some _=>match jy (BU H ρ) len zero parts with
    |some (.val v)=>some (v,drop H ((parts.map fun p=>ρ p.2.2).flatMap (ff deep H)),nx)
    |_=>none
  |_=>none
 else q9 cf o.op ρ H nx
structure St where
 env:Env
 H:cw
 nx:Nat
noncomputable def wanted (e:Env):Option (Nat×Bool)->Bool
 |none=>true
 |some (g,b)=>match e.get g with
  |some (.bool b')=>b' == b
  |_=>false
noncomputable def C9 (nt:Nat) (e:Env) (d:Option Nat) (v:AV):Option Env:=match d with
 |none=>some e
 |some d=>bif Nat.blt d nt then some (e.put (some v) d) else none
noncomputable def qa (cf:qc) (nt:Nat) (o:cj) (st:St):Option St:=
 bif wanted st.env o.gd then
  match zh cf o (ev st.env) st.H st.nx with
  |none=>none
  |some (v,H,nx)=>match C9 nt st.env o.dst v with
   |some e=>some ⟨e,H,nx⟩
   |none=>none
 else match C9 nt st.env o.dst j7 with
  |some e=>some ⟨e,st.H,st.nx⟩
  |none=>none
noncomputable def oP (cf:qc) (nt:Nat) (l:List cj):St->Option St:=
 List.rec (motive:=fun _=>St->Option St) (fun st=>some st)
  (fun o _ ih st=>match qa cf nt o st with
   |some st=>ih st
   |none=>none) l
mutual
def si:AV->AV->Bool
 |.bool a,.bool b=>a == b
 |.int k a,.int k' b=>Qo k k'&&mh a b
 |.str a,.str b=>decide (a=b)
 |.Bi,.Bi=>true
 |.aq,.aq=>true
 |.ptr a b c,.ptr a' b' c'=>Nat.beq a a'&&Nat.beq b b'&&Nat.beq c c'
 |.oV cs o,.oV cs' o'=>Al cs cs'&&Nat.beq o o'
 |.jq cs n c,.jq cs' n' c'=>Al cs cs'&&Nat.beq n n'&&decide (c=c')
 |.ref a b c d e f x,.ref a' b' c' d' e' f' x'=>Nat.beq a a'&&Nat.beq b b'&&Nat.beq c c'&&Nat.beq d d'&&Nat.beq e e'&&Nat.beq f f'&&x == x'
 |.agg cs,.agg cs'=>Al cs cs'
 |.qd cs,.qd cs'=>Al cs cs'
 |.func f,.func f'=>Nat.beq f f'
 |.zg f,.zg f'=>Nat.beq f f'
 |_,_=>false
def Al:List AV->List AV->Bool
 |[],[]=>true
 |x::xs,y::ys=>si x y&&Al xs ys
 |_,_=>false
end
inductive Rd where
 |El (r:Kv)
 |obj (id:Nat)
 |all
inductive Vy where
 |ids (l:List Nat)
 |all
structure Rec where
 jx:List Rd
 gN:Vy
 H0:cw
 H1:cw
 Jx:Nat
 CY:Nat
def dg.jx:dg->List Rd
 |.look q u _=>(match q with|some r=>[.El r]|none=>[])++(match u with|some id=>[.obj id]|none=>[])
 |_=>[]
def dg.gN:dg->List Nat
 |.look _ u _=>(match u with|some id=>[id]|none=>[])
 |_=>[]
abbrev ZY:=AV×cw×Nat×List Rd×Vy
noncomputable def i_ (cf:qc) (n0:Nat) (f:Nat) (args:List AV) (m:Mode) (H:cw) (nx:Nat):Option ZY:=match m with
 |.share=>match cf f args (H.upto fun i=>Nat.blt i n0) nx with
  |some (v,H',nx')=>some (v,(H'.upto fun i=>Nat.blt i n0||(Nat.ble nx i&&Nat.blt i nx')).union (H.upto fun i=>!(Nat.blt i n0||(Nat.ble nx i&&Nat.blt i nx'))),nx',[.all],.all)
  |none=>none
 |.borrow=>bif gJ AV.plain args then
   match h_ cf f args .borrow H nx with
   |some (v,_,_)=>some (v,H,nx,[],.ids [])
   |none=>none
  else match h_ cf f args .borrow (H.upto fun i=>Nat.blt i n0) nx with
   |some (v,_,_)=>some (v,H,nx,[.all],.ids [])
   |none=>none
noncomputable def Ap (cf:qc) (n0:Nat) (op:lX) (ρ:ct->AV) (H:cw) (nx:Nat):Option ZY:=match kind op with
 |.plan p=>match p ρ with
  |some p=>match gU p H nx with
   |some (v,H',nx')=>some (v,H',nx',p.jx,.ids p.gN)
   |none=>none
  |none=>none
 |.call f args m=>i_ cf n0 f (args.map ρ) m H nx
 |.kn f args m=>match ρ f with
  |.func g=>i_ cf n0 g (args.map ρ) m H nx
  |_=>none
noncomputable def oD (cf:qc) (n0:Nat) (o:cj) (ρ:ct->AV) (H:cw) (nx:Nat):Option ZY:=
 bif o.fz then match o.op with
  |.de len zero parts=>match lN (dw deep H) (parts.map fun p=>ρ p.2.2) with
   |none=>none
   |some _=>match jy (BU H ρ) len zero parts with
    |some (.val v)=>some (v,drop H ((parts.map fun p=>ρ p.2.2).flatMap (ff deep H)),nx,((parts.map fun p=>ρ p.2.2).flatMap (ff deep H)).map Rd.obj,.ids ((parts.map fun p=>ρ p.2.2).flatMap (ff deep H)))
    |_=>none
  |_=>none
 else Ap cf n0 o.op ρ H nx
noncomputable def gp (cf:qc) (nt n0:Nat) (o:cj) (st:St):Option (St×Rec):=
 bif wanted st.env o.gd then
  match oD cf n0 o (ev st.env) st.H st.nx with
  |none=>none
  |some (v,H,nx,jx,gN)=>match C9 nt st.env o.dst v with
   |none=>none
   |some e=>some (⟨e,H,nx⟩,⟨jx,gN,st.H,H,st.nx,nx⟩)
 else match C9 nt st.env o.dst j7 with
  |none=>none
  |some e=>some (⟨e,st.H,st.nx⟩,⟨[],.ids [],st.H,st.H,st.nx,st.nx⟩)
noncomputable def k9 (cf:qc) (nt n0:Nat):List cj->St->Option (St×List Rec)
 |[],st=>some (st,[])
 |o::rest,st=>match gp cf nt n0 o st with
  |none=>none
  |some (st1,r)=>match k9 cf nt n0 rest st1 with
   |none=>none
   |some (st',l)=>some (st',r::l)
noncomputable def GD (A B C:cw) (r:Kv):Bool:=match jf A (some r),jf B (some r),jf C (some r) with
 |some x,some y,some z=>Al x z&&Al y z
 |_,_,_=>false
noncomputable def rj (a b:Rec):Rd->Bool
 |.El r=>match a.gN with
  |.ids l=>bif l.contains r.id then GD a.H0 a.H1 b.H0 r else true
  |.all=>GD a.H0 a.H1 b.H0 r
 |.obj id=>match a.gN with
  |.ids l=>!l.contains id
  |.all=>false
 |.all=>match a.gN with
  |.ids []=>true
  |_=>false
noncomputable def still (a b:Rec):Bool:=gJ (rj a b) b.jx
def apart (a b:Rec):Bool:=match a.gN,b.gN with
 |.ids l,.ids l'=>l.all fun x=>!l'.contains x
 |.all,.ids []=>true
 |.ids [],.all=>true
 |_,_=>false
noncomputable def ua (rs:List Rec) (p:Nat×Nat):Bool:=match rs[p.1]?,rs[p.2]? with
 |some a,some b=>still a b&&still b a&&apart a b
 |_,_=>false
def JO (n0:Nat) (rs:List Rec) (ahead:List Nat) (id:Nat):Bool:=
 Nat.blt id n0||ahead.any fun i=>match rs[i]? with|some a=>Nat.ble a.Jx id&&Nat.blt id a.CY|none=>false
def Pe (n0:Nat) (rs:List Rec) (ahead:List Nat):Rd->Bool
 |.El x=>JO n0 rs ahead x.id
 |.obj id=>JO n0 rs ahead id
 |.all=>true
def Gv (n0:Nat) (rs:List Rec) (ahead:List Nat):Vy->Bool
 |.ids l=>l.all (JO n0 rs ahead)
 |.all=>true
def um (n0:Nat) (rs:List Rec):List (List Nat)->List Rec->Bool
 |a::as,r::rest=>r.jx.all (Pe n0 rs a)&&Gv n0 rs a r.gN&&um n0 rs as rest
 |[],[]=>true
 |_,_=>false
noncomputable def k8 (cf:qc) (nt:Nat) (ops:List cj) (ahead:List (List Nat)) (pairs:List (Nat×Nat)) (st:St):Option St:=
 match k9 cf nt st.nx ops st with
 |none=>none
 |some (st',rs)=>bif um st.nx rs ahead rs&&gJ (ua rs) pairs then some st' else none
inductive gS where
 |normal
 |exit (id:Nat)
 |ret
abbrev mq:=Nat->ku->St->Option (gS×St)
noncomputable def dr (ex:mq) (cf:qc) (nt:Nat) (c:ku) (st:St):Option (gS×St):=match c with
 |.skip=>some (.normal,st)
 |.cr ops=>match oP cf nt ops st with
  |some st=>some (.normal,st)
  |none=>none
 |.d_ ops ahead pairs=>match k8 cf nt ops ahead pairs st with
  |some st=>some (.normal,st)
  |none=>none
 |.seq a b=>match ex nt a st with
  |some (.normal,st)=>ex nt b st
  |r=>r
 |.cond c a b=>match ev st.env c with
  |.bool true=>ex nt a st
  |.bool false=>ex nt b st
  |_=>none
 |.block id c=>match ex nt c st with
  |some (.exit i,st)=>bif Nat.beq i id then some (.normal,st) else some (.exit i,st)
  |r=>r
 |.loop c=>match ex nt c st with
  |some (.normal,st)=>ex nt (.loop c) st
  |r=>r
 |.exit id=>some (.exit id,st)
 |.ret=>some (.ret,st)
noncomputable def je:List AV->Nat->Env->Env
 |[],_,e=>e
 |v::vs,i,e=>je vs (i+1) (e.put (some v) i)
noncomputable def mz (e:Env) (H:cw):wz->Option AV
 |.tmp t=>some (ev e (.t t))
 |.cell t sz=>match ev e (.t t) with
  |.ptr id g off=>match jf H (some ⟨id,g,off,gC sz⟩) with
   |some cs=>Lf sz cs
   |none=>none
  |_=>none
noncomputable def zd (l:List wz) (st:St):Option (AV×cw×Nat):=match lN (mz st.env st.H) l with
 |some [v]=>some (v,st.H,st.nx)
 |some vs=>some (.qd vs,st.H,st.nx)
 |none=>none
noncomputable def rz (prog:Map bk) (ex:mq):qc:=fun f args H nx=>match prog.get f with
 |none=>none
 |some af=>bif Nat.beq args.length af.params then
   match ex af.nt af.body ⟨je args 0 .leaf,H,nx⟩ with
   |some (.normal,st)=>zd af.res st
   |some (.ret,st)=>zd af.res st
   |_=>none
  else none
structure ZS where
 code:mq
 fn:qc
noncomputable def interp (prog:Map bk) (k:Nat):ZS:=
 Nat.rec (motive:=fun _=>ZS) ⟨fun _ _ _=>none,fun _ _ _ _=>none⟩ (fun _ p=>⟨dr p.code p.fn,rz prog p.code⟩) k
end Go.Ax

namespace Go.Ax
theorem FY {α:Sort _} (c:Bool) (a b:α):(Bool.rec a b c:α)=if c=true then b else a:=by cases c<;>rfl
namespace Map
variable {α:Type}
theorem Ag (i:Nat):(leaf:Map α).get i=none:=rfl
theorem g_ (v:Option α) (l r:Map α) (i:Nat):(node v l r).get i=if i=0 then v else if i % 2=1 then l.get (i / 2) else r.get (i / 2 - 1):=by
 show (Bool.rec (Bool.rec (r.get (i / 2 - 1)) (l.get (i / 2)) (Nat.beq (i % 2) 1)) v (Nat.beq i 0):Option α)=_
 simp only [FY,Nat.beq_eq]
theorem Pw (v:Option α) (f i:Nat):one v (f+1) i=if i=0 then .node v .leaf .leaf else if i % 2=1 then .node none (one v f (i / 2)) .leaf else .node none .leaf (one v f (i / 2 - 1)):=by
 show (Bool.rec (Bool.rec (.node none .leaf (one v f (i / 2 - 1))) (.node none (one v f (i / 2)) .leaf) (Nat.beq (i % 2) 1)) (.node v .leaf .leaf) (Nat.beq i 0):Map α)=_
 simp only [FY,Nat.beq_eq]
theorem Ph (v:Option α) (i:Nat):put v leaf i=one v (i+1) i:=rfl
theorem Pf (w v:Option α) (l r:Map α) (i:Nat):put w (node v l r) i=if i=0 then .node w l r else if i % 2=1 then .node v (put w l (i / 2)) r else .node v l (put w r (i / 2 - 1)):=by
 show (Bool.rec (Bool.rec (.node v l (put w r (i / 2 - 1))) (.node v (put w l (i / 2)) r) (Nat.beq (i % 2) 1)) (.node w l r) (Nat.beq i 0):Map α)=_
 simp only [FY,Nat.beq_eq]
theorem Sn (v:Option α):∀(f i j:Nat),i < f->(one v f i).get j=if j=i then v else none:=by
 intro f
 induction f with
 |zero=>intro i j h;omega
 |succ f ih=>
  intro i j h
  rw [Pw]
  by_cases h0:i=0
  ·subst h0
   simp only [if_true,g_,Ag]
   split<;>simp_all
  ·rw [if_neg h0]
   by_cases h1:i % 2=1
   ·rw [if_pos h1,g_,ih _ _ (by omega)]
    by_cases hj:j=0
    ·subst hj;rw [if_pos rfl,if_neg (by omega)]
    ·rw [if_neg hj]
     by_cases hj1:j % 2=1
     ·rw [if_pos hj1]
      by_cases e:j=i
      ·subst e;simp
      ·rw [if_neg (by omega),if_neg e]
     ·rw [if_neg hj1,Ag,if_neg (by rintro rfl;exact hj1 h1)]
   ·rw [if_neg h1,g_,ih _ _ (by omega)]
    by_cases hj:j=0
    ·subst hj;rw [if_pos rfl,if_neg (by omega)]
    ·rw [if_neg hj]
     by_cases hj1:j % 2=1
     ·rw [if_pos hj1,Ag,if_neg (by rintro rfl;exact h1 hj1)]
     ·rw [if_neg hj1]
      by_cases e:j=i
      ·subst e;simp
      ·rw [if_neg (by omega),if_neg e]
theorem bt (w:Option α) (m:Map α):∀(i j:Nat),(put w m i).get j=if j=i then w else m.get j:=by
 induction m with
 |leaf=>intro i j;rw [Ph,Sn _ _ _ _ (by omega),Ag]
 |node v l r ihl ihr=>
  intro i j
  rw [Pf]
  by_cases h0:i=0
  ·subst h0
   rw [if_pos rfl,g_,g_]
   split<;>rfl
  ·rw [if_neg h0]
   by_cases h1:i % 2=1
   ·rw [if_pos h1,g_,g_,ihl]
    by_cases hj:j=0
    ·subst hj;rw [if_pos rfl,if_neg (by omega),if_pos rfl]
    ·rw [if_neg hj,if_neg hj]
     by_cases hj1:j % 2=1
     ·rw [if_pos hj1,if_pos hj1]
      by_cases e:j=i
      ·subst e;simp
      ·rw [if_neg (by omega),if_neg e]
     ·rw [if_neg hj1,if_neg hj1,if_neg (by rintro rfl;exact hj1 h1)]
   ·rw [if_neg h1,g_,g_,ihr]
    by_cases hj:j=0
    ·subst hj;rw [if_pos rfl,if_neg (by omega),if_pos rfl]
    ·rw [if_neg hj,if_neg hj]
     by_cases hj1:j % 2=1
     ·rw [if_pos hj1,if_pos hj1,if_neg (by rintro rfl;exact h1 hj1)]
     ·rw [if_neg hj1,if_neg hj1]
      by_cases e:j=i
      ·subst e;simp
      ·rw [if_neg (by omega),if_neg e]
theorem oX (m:Map α):∀(p:Nat->Bool) (i:Nat),(m.upto p).get i=if p i=true then m.get i else none:=by
 induction m with
 |leaf=>intro p i;show none=_;rw [Ag];split<;>rfl
 |node v l r ihl ihr=>
  intro p i
  show (node _ (l.upto _) (r.upto _)).get i=_
  rw [g_,g_,ihl,ihr,FY]
  by_cases h0:i=0
  ·subst h0;simp
  ·rw [if_neg h0,if_neg h0]
   by_cases h1:i % 2=1
   ·rw [if_pos h1,if_pos h1]
    have e:Nat.succ (Nat.mul 2 (i / 2))=i:=by simp only [Nat.succ_eq_add_one,Nat.mul_eq];omega
    rw [e]
   ·rw [if_neg h1,if_neg h1]
    have e:Nat.succ (Nat.succ (Nat.mul 2 (i / 2 - 1)))=i:=by simp only [Nat.succ_eq_add_one,Nat.mul_eq];omega
    rw [e]
theorem Hi (a:Map α):∀(b:Map α) (i:Nat),(a.union b).get i=match a.get i with|some x=>some x|none=>b.get i:=by
 induction a with
 |leaf=>intro b i;rfl
 |node v l r ihl ihr=>
  intro b i
  cases b with
  |leaf=>show (node v l r).get i=_;cases (node v l r).get i<;>rfl
  |node v' l' r'=>
   show (node _ (l.union l') (r.union r')).get i=_
   rw [g_,g_,g_,ihl,ihr]
   by_cases h0:i=0
   ·simp only [if_pos h0];try (cases v<;>rfl)
   ·simp only [if_neg h0]
    by_cases h1:i % 2=1
    ·simp only [if_pos h1]
    ·simp only [if_neg h1]
end Map
theorem cx {α:Type} {f:α->Bool} {l:List α}:gJ f l=true↔∀x∈l,f x=true:=by
 induction l with
 |nil=>exact⟨fun _ _ h=>(by cases h),fun _=>rfl⟩
 |cons x l ih=>
  show (Bool.rec false (gJ f l) (f x):Bool)=true↔_
  rw [FY]
  split
  ·rename_i h;rw [ih];simp [h]
  ·rename_i h;simp [h]
theorem ic {α β:Type} (f:α->Option β) (x:α) (l:List α):lN f (x::l)=match f x with|none=>none|some y=>match lN f l with|none=>none|some ys=>some (y::ys):=rfl
theorem PJ {α β:Type} (f:α->Option β):lN f []=some []:=rfl
theorem qh {α β:Type} {f:α->Option β} {l:List α} {r:List β} (h:lN f l=some r):l.length=r.length/\∀(j:Nat) (x:α),l[j]?=some x->∃y,r[j]?=some y/\f x=some y:=by
 induction l generalizing r with
 |nil=>rw [PJ] at h;cases h;exact⟨rfl,fun j x hx=>by simp at hx⟩
 |cons a l ih=>
  rw [ic] at h
  cases ha:f a with
  |none=>rw [ha] at h;cases h
  |some y=>
   rw [ha] at h
   cases hl:lN f l with
   |none=>rw [hl] at h;cases h
   |some ys=>
    rw [hl] at h
    cases h
    obtain⟨h1,h2⟩:=ih hl
    refine⟨by simp [h1],fun j x hx=>?_⟩
    cases j with
    |zero=>simp at hx;subst hx;exact⟨y,rfl,ha⟩
    |succ j=>simpa using h2 j x (by simpa using hx)
theorem NO (n:Nat):first [] n=if n=0 then some [] else none:=by
 show (Bool.rec _ _ _:Option (List AV))=_;simp only [FY,Nat.beq_eq]
theorem Lz (x:AV) (l:List AV) (n:Nat):first (x::l) n=if n=0 then some [] else match first l (n - 1) with|some r=>some (x::r)|none=>none:=by
 show (Bool.rec (match first l (n - 1) with|some r=>some (x::r)|none=>none) (some []) (Nat.beq n 0):Option (List AV))=_;simp only [FY,Nat.beq_eq]
theorem FF (cells:List AV):∀n,first cells n=if n<=cells.length then some (cells.take n) else none:=by
 induction cells with
 |nil=>intro n;rw [NO];cases n<;>simp
 |cons x l ih=>
  intro n
  rw [Lz,ih]
  cases n with
  |zero=>simp
  |succ n=>simp only [Nat.add_one_ne_zero,if_false,Nat.add_sub_cancel,List.length_cons,Nat.add_le_add_iff_right];by_cases h:n<=l.length<;>simp [h]
theorem SE (off n:Nat):cut [] off n=if off=0 then first [] n else none:=by
 show (Bool.rec _ _ _:Option (List AV))=_;simp only [FY,Nat.beq_eq]
theorem Qz (x:AV) (l:List AV) (off n:Nat):cut (x::l) off n=if off=0 then first (x::l) n else cut l (off - 1) n:=by
 show (Bool.rec (cut l (off - 1) n) (first (x::l) n) (Nat.beq off 0):Option (List AV))=_;simp only [FY,Nat.beq_eq]
theorem js (cells:List AV):∀off n,cut cells off n=if off+n<=cells.length then some ((cells.drop off).take n) else none:=by
 induction cells with
 |nil=>intro off n;rw [SE,FF];cases off<;>simp
 |cons x l ih=>
  intro off n
  rw [Qz,ih,FF]
  cases off with
  |zero=>simp
  |succ off=>simp only [Nat.add_one_ne_zero,if_false,Nat.add_sub_cancel,List.length_cons,List.drop_succ_cons];simp only [Nat.add_right_comm off 1 n,Nat.add_le_add_iff_right]
theorem pe {cells cs:List AV} {off n:Nat} (h:cut cells off n=some cs):off+n<=cells.length/\cs=(cells.drop off).take n:=by
 rw [js] at h
 split at h
 ·rename_i hl;exact⟨hl,by injection h with h;exact h.symm⟩
 ·cases h
theorem It {cells cs:List AV} {off n:Nat} (h:cut cells off n=some cs):cs.length=n/\∀j,j < n->cs[j]?=cells[off+j]?:=by
 obtain⟨hl,rfl⟩:=pe h
 refine⟨by simp;omega,fun j hj=>by rw [List.getElem?_take_of_lt hj,List.getElem?_drop]⟩
theorem Nu (cells:List AV):Cp [] cells=some cells:=rfl
theorem K8 (y:AV) (cs:List AV):∀cells,Cp (y::cs) cells=match cells with|[]=>none|_::xs=>match Cp cs xs with|some l=>some (y::l)|none=>none:=fun _=>rfl
theorem Jq (cs:List AV):∀cells,Cp cs cells=if cs.length<=cells.length then some (cs++cells.drop cs.length) else none:=by
 induction cs with
 |nil=>intro cells;simp [Nu]
 |cons y cs ih=>
  intro cells
  rw [K8]
  cases cells with
  |nil=>simp
  |cons x xs=>simp only [ih,List.length_cons,Nat.add_le_add_iff_right,List.drop_succ_cons,List.cons_append];by_cases h:cs.length<=xs.length<;>simp [h]
theorem Fe (off:Nat) (cs:List AV):jm [] off cs=if off=0 then Cp cs [] else none:=by
 show (Bool.rec _ _ _:Option (List AV))=_;simp only [FY,Nat.beq_eq]
theorem Nt (x:AV) (l:List AV) (off:Nat) (cs:List AV):jm (x::l) off cs=if off=0 then Cp cs (x::l) else match jm l (off - 1) cs with|some r=>some (x::r)|none=>none:=by
 show (Bool.rec (match jm l (off - 1) cs with|some r=>some (x::r)|none=>none) (Cp cs (x::l)) (Nat.beq off 0):Option (List AV))=_;simp only [FY,Nat.beq_eq]
theorem v7 (cells:List AV):∀off cs,jm cells off cs=if off+cs.length<=cells.length then some (cells.take off++cs++cells.drop (off+cs.length)) else none:=by
 induction cells with
 |nil=>intro off cs;rw [Fe,Jq];cases off<;>simp
 |cons x l ih=>
  intro off cs
  rw [Nt,ih,Jq]
  cases off with
  |zero=>simp
  |succ off=>
   simp only [Nat.add_one_ne_zero,if_false,Nat.add_sub_cancel,List.length_cons,List.take_succ_cons,Nat.add_right_comm off 1 cs.length,Nat.add_le_add_iff_right,List.drop_succ_cons]
   by_cases h:off+cs.length<=l.length<;>simp [h]
theorem lD {cells cells' cs:List AV} {off:Nat} (h:jm cells off cs=some cells'):off+cs.length<=cells.length/\cells'=cells.take off++cs++cells.drop (off+cs.length):=by
 rw [v7] at h
 split at h
 ·rename_i hl;exact⟨hl,by injection h with h;exact h.symm⟩
 ·cases h
theorem oc {cells cells' cs:List AV} {off:Nat} (h:jm cells off cs=some cells'):cells'.length=cells.length/\∀j,cells'[j]?=if off<=j/\j < off+cs.length then cs[j - off]? else cells[j]?:=by
 obtain⟨hl,rfl⟩:=lD h
 refine⟨by simp;omega,fun j=>?_⟩
 by_cases h1:j < off
 ·rw [List.getElem?_append_left (by simp;omega),List.getElem?_append_left (by simp;omega),List.getElem?_take_of_lt h1,if_neg (by omega)]
 ·by_cases h2:j < off+cs.length
  ·rw [List.getElem?_append_left (by simp;omega),List.getElem?_append_right (by simp;omega),if_pos ⟨by omega,h2⟩]
   congr 1
   simp
   omega
  ·rw [List.getElem?_append_right (by simp;omega),if_neg (by omega),List.getElem?_drop]
   congr 1
   simp
   omega
theorem Dt {a b:IntKind} (h:Qo a b=true):a=b:=by cases a<;>cases b<;>first|rfl|cases h
theorem Sx (a b:IntKind):Qo a b=decide (a=b):=by cases a<;>cases b<;>rfl
theorem QG (a b:Nat):Nat.blt a b=decide (a < b):=by rw [Bool.eq_iff_iff];simp [Nat.blt_eq]
theorem z_ (x y:Int):sw x y=decide (x < y):=by
 cases x<;>cases y<;>simp only [sw,QG]<;>first
  |(congr 1;simp only [Int.ofNat_eq_natCast,eq_iff_iff];omega)
  |(symm;rw [decide_eq_true_eq];simp only [Int.ofNat_eq_natCast];omega)
  |(symm;rw [decide_eq_false_iff_not];simp only [Int.ofNat_eq_natCast];omega)
theorem BV (x y:Int):mh x y=decide (x=y):=by
 cases x<;>cases y<;>simp only [mh]<;>first
  |(rw [Bool.eq_iff_iff,Nat.beq_eq,decide_eq_true_eq];simp only [Int.ofNat_eq_natCast];omega)
  |(rw [Bool.eq_iff_iff,Nat.beq_eq,decide_eq_true_eq,Int.negSucc.injEq])
  |(symm;rw [decide_eq_false_iff_not];simp only [Int.ofNat_eq_natCast];omega)
theorem CC {i:Int} {n m:Nat} (h:Rn i n=some m):i=(m:Int)/\m < n:=by
 cases i with
 |ofNat k=>
  simp only [Rn,QG,cond_eq_ite,decide_eq_true_eq] at h
  split at h
  ·cases h;exact⟨rfl,by assumption⟩
  ·cases h
 |negSucc k=>cases h
theorem CT {i:Int} {n m:Nat} (h:Rr i n=some m):i=(m:Int)/\m<=n:=by
 cases i with
 |ofNat k=>
  simp only [Rr,cond_eq_ite,Nat.ble_eq] at h
  split at h
  ·cases h;exact⟨rfl,by assumption⟩
  ·cases h
 |negSucc k=>cases h
theorem B1 (k:IntKind) (n:Int):oJ k n=k.wrap n:=by
 unfold oJ
 rw [cond_eq_ite]
 split
 ·rename_i h
  cases k<;>cases n<;>simp only [S2,QG,decide_eq_true_eq] at h<;>simp only [IntKind.wrap,IntKind.bits,IntKind.signed,Int.ofNat_eq_natCast]<;>simp<;>omega
 ·rfl
end Go.Ax
