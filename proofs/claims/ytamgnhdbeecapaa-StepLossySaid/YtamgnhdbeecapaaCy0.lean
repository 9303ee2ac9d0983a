/- Part 0 of the proof: Ax0, Ax1. -/
import GoSem.Step
set_option linter.unusedSimpArgs false
set_option linter.unusedVariables false
noncomputable section
namespace Go.Ax
abbrev KX:=@List.getElem?_eq_getElem
abbrev KY:=@List.getElem?_eq_some_iff
abbrev KZ:=@List.getElem?_append_left
abbrev K3:=@List.getElem?_append_right
abbrev K4:=@List.getElem?_map
abbrev K5:=@List.getElem?_eq_none
abbrev K6:=@List.getElem?_take
abbrev K7:=@List.getElem?_drop
abbrev K8:=@List.mem_of_getElem?
abbrev K9:=@List.length_map
abbrev K_:=@List.length_append
abbrev La:=@List.length_take
abbrev Lb:=@List.length_drop
abbrev Lc:=@List.length_singleton
abbrev Ld:=@List.length_cons
abbrev Le:=@List.length_set
abbrev Lf:=@List.mem_cons_self
abbrev Lg:=@List.mem_cons_of_mem
abbrev Lh:=@List.mem_cons
abbrev Li:=@List.mem_append
abbrev Lj:=@List.mem_singleton
abbrev Lk:=@List.mem_map
abbrev Ll:=@List.all_eq_true
abbrev Lm:=@Bool.and_eq_true
abbrev Ln:=@Bool.or_eq_true
abbrev Lp:=@Bool.not_eq_true'
abbrev Lq:=@Nat.beq_eq
abbrev Lr:=@Nat.ble_eq
abbrev Ls:=@Nat.blt_eq
abbrev Lt:=@decide_eq_true_eq
abbrev Lu:=@decide_eq_false_iff_not
abbrev Lv:=@Nat.lt_of_lt_of_le
abbrev Lw:=@List.length_eq_zero_iff
abbrev Lx:=@List.take_of_length_le
abbrev Ly:=@Option.some.inj
abbrev Lz:=@Nat.le_trans
abbrev LA:=@Nat.zero_le
abbrev LB:=@Nat.le_refl
inductive Map (α:Type) where
 |leaf
 |node (v:Option α) (l r:Map α)
namespace Map
variable {α:Type}
def get (m:Map α):Nat->Option α:=
 Map.rec (motive:=fun _=>Nat->Option α) (fun _=>none)
  (fun v _ _ l r i=>Bool.rec (Bool.rec (r (Nat.sub (Nat.div i 2) 1)) (l (Nat.div i 2)) (Nat.beq (Nat.mod i 2) 1)) v (Nat.beq i 0)) m
def one (v:Option α) (f:Nat):Nat->Map α:=
 Nat.rec (motive:=fun _=>Nat->Map α) (fun _=>.leaf)
  (fun _ ih i=>Bool.rec (Bool.rec (.node none .leaf (ih (Nat.sub (Nat.div i 2) 1))) (.node none (ih (Nat.div i 2)) .leaf) (Nat.beq (Nat.mod i 2) 1)) (.node v .leaf .leaf) (Nat.beq i 0)) f
def put (w:Option α) (m:Map α):Nat->Map α:=
 Map.rec (motive:=fun _=>Nat->Map α) (fun i=>one w (Nat.succ i) i)
  (fun v l0 r0 l r i=>Bool.rec (Bool.rec (.node v l0 (r (Nat.sub (Nat.div i 2) 1))) (.node v (l (Nat.div i 2)) r0) (Nat.beq (Nat.mod i 2) 1)) (.node w l0 r0) (Nat.beq i 0)) m
def upto (m:Map α):(Nat->Bool)->Map α:=
 Map.rec (motive:=fun _=>(Nat->Bool)->Map α) (fun _=>.leaf)
  (fun v _ _ l r p=>.node (Bool.rec none v (p 0)) (l fun k=>p (Nat.succ (Nat.mul 2 k))) (r fun k=>p (Nat.succ (Nat.succ (Nat.mul 2 k))))) m
def union (m:Map α):Map α->Map α:=
 Map.rec (motive:=fun _=>Map α->Map α) (fun m=>m)
  (fun v l0 r0 l r m=>match m with
   |.leaf=>.node v l0 r0
   |.node v' l' r'=>.node (match v with|some x=>some x|none=>v') (l l') (r r')) m
end Map
inductive AV where
 |bool (b:Bool)
 |int (k:IntKind) (n:Int)
 |str (s:ByteArray)
 |iM
 |ptr (id g off:Nat)
 |ej (cs:List AV) (off:Nat)
 |ak
 |bO (cs:List AV) (n:Nat) (cap:Option Nat)
 |ref (id g off es len cap:Nat) (ex:Bool)
 |agg (cs:List AV)
 |dc (vs:List AV)
 |func (f:Nat)
 |iZ (id:Nat)
 deriving Inhabited
inductive c9 where
 |row (g:Nat) (cells:List AV)
 |map (es:List (AV×AV))
 deriving Inhabited
abbrev aE:=Map c9
abbrev Env:=Map AV
def cH:AV:=.dc []
def AV.flat:AV->Bool
 |.ref ..=>false
 |.ptr ..=>false
 |.iZ _=>false
 |.agg _=>false
 |.dc _=>false
 |_=>true
def bn {α:Type} (f:α->Bool) (l:List α):Bool:=List.rec (motive:=fun _=>Bool) true (fun x _ ih=>Bool.rec false ih (f x)) l
def AV.dP:AV->Bool
 |.agg cs=>bn AV.flat cs
 |v=>v.flat
def AV.plain:AV->Bool
 |.dc vs=>bn AV.dP vs
 |v=>v.dP
def AV.AW:AV->Bool
 |.dc _=>true
 |_=>false
def AV.one:AV->Bool
 |.agg _=>false
 |.dc _=>false
 |_=>true
def AV.cells?:AV->Option (List AV)
 |.agg cs=>some cs
 |.dc _=>none
 |v=>some [v]
def ck {α β:Type} (f:α->Option β) (l:List α):Option (List β):=
 List.rec (motive:=fun _=>Option (List β)) (some [])
  (fun x _ ih=>match f x with
   |none=>none
   |some y=>match ih with
    |none=>none
    |some ys=>some (y::ys)) l
def first (cells:List AV):Nat->Option (List AV):=
 List.rec (motive:=fun _=>Nat->Option (List AV)) (fun n=>Bool.rec none (some []) (Nat.beq n 0))
  (fun x _ ih n=>Bool.rec (match ih (Nat.pred n) with|some l=>some (x::l)|none=>none) (some []) (Nat.beq n 0)) cells
def cut (cells:List AV):Nat->Nat->Option (List AV):=
 List.rec (motive:=fun _=>Nat->Nat->Option (List AV)) (fun off n=>Bool.rec none (first [] n) (Nat.beq off 0))
  (fun x xs ih off n=>Bool.rec (ih (Nat.pred off) n) (first (x::xs) n) (Nat.beq off 0)) cells
def lE (cs:List AV):List AV->Option (List AV):=
 List.rec (motive:=fun _=>List AV->Option (List AV)) (fun cells=>some cells)
  (fun y _ ih cells=>match cells with
   |[]=>none
   |_::xs=>match ih xs with
    |some l=>some (y::l)
    |none=>none) cs
def cj (cells:List AV):Nat->List AV->Option (List AV):=
 List.rec (motive:=fun _=>Nat->List AV->Option (List AV)) (fun off cs=>Bool.rec none (lE cs []) (Nat.beq off 0))
  (fun x xs ih off cs=>Bool.rec (match ih (Nat.pred off) cs with|some l=>some (x::l)|none=>none) (lE cs (x::xs)) (Nat.beq off 0)) cells
def rows (n:Nat) (zero:List AV):List AV:=(List.replicate n zero).flatten
def EL (k:IntKind) (n:Int):Bool:=match n with
 |.ofNat m=>Nat.blt m (match k with|.i8=>128|.i16=>32768|.i32=>2147483648|.i64=>9223372036854775808|.u8=>256|.u16=>65536|.u32=>4294967296|.u64=>18446744073709551616)
 |.negSucc m=>Nat.blt m (match k with|.i8=>128|.i16=>32768|.i32=>2147483648|.i64=>9223372036854775808|_=>0)
def cD (k:IntKind) (n:Int):Int:=bif EL k n then n else k.wrap n
def wB (x y:Int):Bool:=match x,y with
 |.ofNat a,.ofNat b=>Nat.blt a b
 |.negSucc _,.ofNat _=>true
 |.ofNat _,.negSucc _=>false
 |.negSucc a,.negSucc b=>Nat.blt b a
def yT (x y:Int):Bool:=match x,y with
 |.ofNat a,.ofNat b=>Nat.beq a b
 |.negSucc a,.negSucc b=>Nat.beq a b
 |_,_=>false
def zb:IntKind->IntKind->Bool
 |.i8,.i8|.i16,.i16|.i32,.i32|.i64,.i64|.u8,.u8|.u16,.u16|.u32,.u32|.u64,.u64=>true
 |_,_=>false
def Cy (i:Int) (n:Nat):Option Nat:=match i with
 |.ofNat m=>bif Nat.blt m n then some m else none
 |.negSucc _=>none
def EN (i:Int) (n:Nat):Option Nat:=match i with
 |.ofNat m=>bif Nat.ble m n then some m else none
 |.negSucc _=>none
inductive gj where
 |int|bool|str
inductive vC where
 |one (l:gj)
 |slice
 |agg (ls:List gj)
def Bk (l:gj) (a b:AV):Option Bool:=match l with
 |.int=>match a with
  |.int k n=>match b with
   |.int k' m=>bif zb k k' then some (yT n m) else none
   |_=>none
  |_=>none
 |.bool=>match a with
  |.bool x=>match b with
   |.bool y=>some (x == y)
   |_=>none
  |_=>none
 |.str=>match a with
  |.str x=>match b with
   |.str y=>some (x == y)
   |_=>none
  |_=>none
def vz (ls:List gj):List AV->List AV->Option Bool:=
 List.rec (motive:=fun _=>List AV->List AV->Option Bool) (fun a b=>match a with|[]=>(match b with|[]=>some true|_::_=>none)|_::_=>none)
  (fun l _ ih a b=>match a with
   |[]=>none
   |x::xs=>match b with
    |[]=>none
    |y::ys=>match Bk l x y with
     |none=>none
     |some u=>match ih xs ys with
      |none=>none
      |some c=>some (u&&c)) ls
def BR (t:vC) (x y:AV):Option Bool:=match t with
 |.one l=>Bk l x y
 |.agg ls=>match x with
  |.agg a=>match y with
   |.agg b=>vz ls a b
   |_=>none
  |_=>none
 |.slice=>match x with
  |.ak=>match y with
   |.ak=>some true
   |.bO ..=>some false
   |.ref ..=>some false
   |_=>none
  |.bO ..=>match y with
   |.ak=>some false
   |_=>none
  |.ref ..=>match y with
   |.ak=>some false
   |_=>none
  |_=>none
def aL (d:Nat):aE->AV->Option AV:=
 Nat.rec (motive:=fun _=>aE->AV->Option AV) (fun _ _=>none)
  (fun _ ih H v=>match v with
   |.ref id g off es len cap ex=>match H.get id with
    |some (.row g' cells)=>bif Nat.beq g' g then match cut cells off (Nat.mul len es) with
      |some cs=>match ck (ih H) cs with
       |some cs=>some (.bO cs len (Bool.rec none (some cap) ex))
       |none=>none
      |none=>none
     else none
    |_=>none
   |.agg cs=>match ck (ih H) cs with
    |some cs=>some (.agg cs)
    |none=>none
   |.dc cs=>match ck (ih H) cs with
    |some cs=>some (.dc cs)
    |none=>none
   |.ptr ..=>none
   |.iZ _=>none
   |v=>some v) d
def bf (d:Nat):aE->AV->List Nat:=
 Nat.rec (motive:=fun _=>aE->AV->List Nat) (fun _ _=>[])
  (fun _ ih H v=>match v with
   |.ref id _ off es len _ _=>match H.get id with
    |some (.row _ cells)=>id::(match cut cells off (Nat.mul len es) with|some cs=>cs.flatMap (ih H)|none=>[])
    |_=>[id]
   |.agg cs=>cs.flatMap (ih H)
   |.dc cs=>cs.flatMap (ih H)
   |_=>[]) d
def own (d:Nat):aE->AV->Bool:=
 Nat.rec (motive:=fun _=>aE->AV->Bool) (fun _ _=>false)
  (fun _ ih H v=>match v with
   |.ref id _ off es len _ _=>match H.get id with
    |some (.row _ cells)=>match cut cells off (Nat.mul len es) with|some cs=>bn (ih H) cs|none=>false
    |_=>false
   |.agg cs=>bn (ih H) cs
   |.dc cs=>bn (ih H) cs
   |.bO cs _ _=>match cs with|[]=>true|_::_=>false
   |.ej ..=>false
   |.ptr ..=>false
   |.iZ _=>false
   |_=>true) d
def deep:Nat:=30
inductive aD where
 |t (n:Nat)
 |c (v:AV)
 deriving Inhabited
inductive Mode where
 |share
 |borrow
inductive c_ where
 |mv (x:aD)
 |pick (c a b:aD)
 |alloc (zero:List AV)
 |box (x:aD)
 |build (zero:List AV) (parts:List (Nat×Nat×aD))
 |dS (es len:Nat) (zero:List AV) (parts:List (Nat×Nat×aD))
 |aK (len:Nat) (zero:List AV) (parts:List (Nat×Nat×aD))
 |load (sz:Option Nat) (a:aD)
 |store (sz:Nat) (a x:aD)
 |gI (x:aD)
 |bin (op:BinOp) (x y:aD)
 |eq (t:vC) (neg:Bool) (x y:aD)
 |un (op:UnOp) (x:aD)
 |conv (k:IntKind) (x:aD)
 |jr (es bytes:Nat) (zero:List AV) (n:aD)
 |iX (x:aD) (lo hi:Option aD)
 |gK (es:Nat) (x:aD) (lo hi mx:Option aD)
 |gy (n es:Nat) (x:aD) (lo hi mx:Option aD)
 |fW (off:Nat) (x:aD)
 |yO (off:Nat) (sz:Option Nat) (x:aD)
 |b_ (es:Nat) (x i:aD)
 |jx (len es:Nat) (x i:aD)
 |idx (x i:aD)
 |ext (i:Nat) (x:aD)
 |app (es bytes:Nat) (s x:aD)
 |zc (es:Nat) (d s:aD)
 |BS (es:Nat) (zero:List AV) (x:aD)
 |len (str:Bool) (x:aD)
 |vv (mx:Bool) (xs:List aD)
 |kE
 |kD (t:vC) (zero:AV) (ok:Bool) (m k:aD)
 |sS (t:vC) (m k v:aD)
 |qj (m:aD)
 |call (f:Nat) (args:List aD) (m:Mode)
 |cO (f:aD) (args:List aD) (m:Mode)
 deriving Inhabited
structure ax where
 dst:Option Nat
 op:c_
 gd:Option (Nat×Bool)
 fz:Bool
 deriving Inhabited
abbrev o (d:Nat) (op:c_):ax:=⟨some d,op,none,false⟩
abbrev i64 (n:Int):aD:=.c (.int .i64 n)
inductive bS where
 |skip
 |aa (ops:List ax)
 |aP (ops:List ax) (ahead:List (List Nat)) (pairs:List (Nat×Nat))
 |seq (a b:bS)
 |cond (c:aD) (a b:bS)
 |block (id:Nat) (c:bS)
 |loop (c:bS)
 |exit (id:Nat)
 |ret
 deriving Inhabited
inductive nk where
 |tmp (t:Nat)
 |cell (t:Nat) (sz:Option Nat)
structure aq where
 params:Nat
 nt:Nat
 res:List nk
 body:bS
structure vr where
 id:Nat
 g:Nat
 off:Nat
 len:Nat
structure Out where
 val:Nat->AV
 obj:Option c9
 new:Option c9
inductive aJ where
 |val (v:AV)
 |new (val:Nat->AV) (o:c9)
 |look (q:Option vr) (u:Option Nat) (k:List AV->Option c9->Option Out)
abbrev cQ (v:AV):aJ:=.val v
def cV (v:Option AV):Option aJ:=match v with|some v=>some (.val v)|none=>none
abbrev AE (val:Nat->AV) (o:c9):aJ:=.new val o
def mD (g:Nat) (k:List AV->Option Out):Option c9->Option Out
 |some (.row g' cells)=>bif Nat.beq g' g then k cells else none
 |_=>none
def most:Nat:=70368744177664
def xB (sz:Option Nat) (cs:List AV):Option AV:=match sz with
 |none=>match cs with|[v]=>some v|_=>none
 |some _=>some (.agg cs)
def fill (ρ:aD->AV) (parts:List (Nat×Nat×aD)):List AV->Option (List AV):=
 List.rec (motive:=fun _=>List AV->Option (List AV)) (fun cells=>some cells)
  (fun p _ ih cells=>match (ρ p.2.2).cells? with
   |none=>none
   |some cs=>bif Nat.beq cs.length p.2.1 then match cj cells p.1 cs with
     |some cells=>ih cells
     |none=>none
    else none) parts
def vN (op:BinOp) (k:IntKind) (x y:Int):Option AV:=
 bif wB y 0 then none else match op with
  |.shl=>some (.int k (k.wrap (x*2 ^ min y.toNat k.bits)))
  |.shr=>some (.int k (x.fdiv (2 ^ min y.toNat k.bits)))
  |_=>none
def AZ (op:BinOp) (k:IntKind) (x y:Int):Option AV:=
 match op with
 |.add=>some (.int k (cD k (x+y)))
 |.sub=>some (.int k (cD k (x - y)))
 |.mul=>some (.int k (cD k (x*y)))
 |.quo=>bif yT y 0 then none else some (.int k (cD k (x.tdiv y)))
 |.rem=>bif yT y 0 then none else some (.int k (x.tmod y))
 |.and=>some (.int k (k.wrap (BitVec.ofInt k.bits x&&& BitVec.ofInt k.bits y).toNat))
 |.or=>some (.int k (k.wrap (BitVec.ofInt k.bits x||| BitVec.ofInt k.bits y).toNat))
 |.xor=>some (.int k (k.wrap (BitVec.ofInt k.bits x ^^^ BitVec.ofInt k.bits y).toNat))
 |.andNot=>some (.int k (k.wrap (BitVec.ofInt k.bits x&&& ~~~BitVec.ofInt k.bits y).toNat))
 |.eql=>some (.bool (yT x y))
 |.neq=>some (.bool !(yT x y))
 |.lss=>some (.bool (wB x y))
 |.leq=>some (.bool !(wB y x))
 |.gtr=>some (.bool (wB y x))
 |.geq=>some (.bool !(wB x y))
 |.shl=>none
 |.shr=>none
def E2 (op:BinOp) (x y:ByteArray):Option AV:=
 match op with
 |.add=>bif Nat.ble (x.size+y.size) most then some (.str (x++y)) else none
 |.eql=>some (.bool (x.toList == y.toList))
 |.neq=>some (.bool !(x.toList == y.toList))
 |.lss=>some (.bool (Op.bytesLess x.toList y.toList))
 |.leq=>some (.bool (Op.bytesLess x.toList y.toList||x.toList == y.toList))
 |.gtr=>some (.bool !(Op.bytesLess x.toList y.toList||x.toList == y.toList))
 |.geq=>some (.bool !(Op.bytesLess x.toList y.toList))
 |_=>none
def vo (op:BinOp) (x y:AV):Option AV:=match x with
 |.int k a=>match y with
  |.int k' b=>match op with
   |.shl=>vN .shl k a b
   |.shr=>vN .shr k a b
   |op=>bif zb k k' then AZ op k a b else none
  |_=>none
 |.str a=>match y with
  |.str b=>E2 op a b
  |_=>none
 |_=>none
def Du (op:UnOp) (x:AV):Option AV:=match op with
 |.neg=>match x with|.int k n=>some (.int k (cD k (0 - n)))|_=>none
 |.not=>match x with|.bool b=>some (.bool !b)|_=>none
 |.xor=>match x with|.int k n=>AZ .xor k (if k.signed then -1 else k.max) n|_=>none
 |.plus=>none
def EK (mx:Bool):AV->List AV->Option AV
 |v,[]=>some v
 |.int k a,.int _ b::rest=>EK mx (.int k (match mx with|true=>(bif wB a b then b else a)|false=>(bif wB b a then b else a))) rest
 |_,_=>none
def yb (ρ:aD->AV) (x:Option aD) (other y:Nat):Option Nat:=match x with
 |none=>some other
 |some o=>match ρ o with
  |.int _ i=>EN i y
  |_=>none
def gW (ρ:aD->AV) (lo hi mx:Option aD) (len cap:Nat):Option (Nat×Nat×Nat):=match yb ρ mx cap cap with
 |none=>none
 |some m=>match yb ρ hi len m with
  |none=>none
  |some h=>match yb ρ lo 0 h with
   |none=>none
   |some l=>some (l,h,m)
inductive Src where
 |list (cs:List AV)
 |nU (r:vr)
def cq (es:Nat):AV->Option (Nat×Src)
 |.ak=>some (0,.list [])
 |.bO cs n _=>bif Nat.beq (Nat.mul n es) cs.length then some (n,.list cs) else none
 |.ref id g off es' len _ _=>bif Nat.beq es' es then some (len,.nU ⟨id,g,off,Nat.mul len es⟩) else none
 |_=>none
def Src.q:Src->Option vr
 |.nU r=>some r
 |.list _=>none
def Src.cs:Src->List AV->List AV
 |.list cs,_=>cs
 |.nU _,a=>a
def sW:AV->Bool
 |.ak=>true
 |.bO ..=>true
 |.ref ..=>true
 |_=>false
def pV (es:Nat) (id g off len cap:Nat) (ex:Bool) (m:Nat) (src:Src):aJ:=
 bif Nat.ble (Nat.add len m) cap then
  .look src.q (some id) (fun a=>mD g fun cells=>match cj cells (Nat.add off (Nat.mul len es)) (src.cs a) with
   |some cells'=>some ⟨fun _=>.ref id g off es (Nat.add len m) cap ex,some (.row g cells'),none⟩
   |none=>none)
 else bif ex then
  .look src.q (some id) (fun a=>mD g fun cells=>match cut cells off (Nat.mul len es) with
   |some cs=>some ⟨fun id=>.ref id 0 0 es (Nat.add len m) (Nat.add len m) false,none,some (.row 0 (cs++src.cs a))⟩
   |none=>none)
 else
  .look src.q (some id) (fun a=>mD g fun cells=>bif Nat.beq (Nat.add off (Nat.mul len es)) cells.length then
    some ⟨fun _=>.ref id (Nat.succ g) 0 es (Nat.add len m) (Nat.add len m) false,some (.row (Nat.succ g) (cells.drop off++src.cs a)),none⟩
   else none)
def kr (es bytes:Nat) (s x:AV):Option aJ:=match cq es x with
 |none=>none
 |some (m,src)=>bif Nat.beq m 0 then (bif sW s then some (cQ s) else none) else
  match s with
  |.ak=>bif Nat.ble (Nat.mul m bytes) most&&Nat.ble m most then
    some (.look src.q none fun a _=>some ⟨fun id=>.ref id 0 0 es m m false,none,some (.row 0 (src.cs a))⟩) else none
  |.bO cs n (some c)=>bif Nat.blt c (Nat.add n m)&&Nat.beq (Nat.mul n es) cs.length&&Nat.ble (Nat.mul (Nat.add n m) bytes) most&&Nat.ble (Nat.add n m) most then
    some (.look src.q none fun a _=>some ⟨fun id=>.ref id 0 0 es (Nat.add n m) (Nat.add n m) false,none,some (.row 0 (cs++src.cs a))⟩) else none
  |.ref id g off es' len cap ex=>bif Nat.beq es' es&&Nat.ble (Nat.mul (Nat.add len m) bytes) most&&Nat.ble (Nat.add len m) most then
    some (pV es id g off len cap ex m src) else none
  |_=>none
def va (es:Nat) (d s:AV):Option aJ:=match cq es s with
 |none=>none
 |some (m,src)=>match d with
  |.ak=>some (cQ (.int .i64 0))
  |.ref id g off es' len _ _=>bif Nat.beq es' es then
    some (.look src.q (some id) fun a=>mD g fun cells=>match first (src.cs a) (Nat.mul (min m len) es) with
     |some cs=>match cj cells off cs with
      |some cells'=>some ⟨fun _=>.int .i64 (min m len),some (.row g cells'),none⟩
      |none=>none
     |none=>none) else none
  |_=>none
def vM (es:Nat) (ρ:aD->AV) (x:AV) (lo hi mx:Option aD):Option AV:=match x with
 |.ak=>match gW ρ lo hi mx 0 0 with
  |none=>none
  |some _=>some .ak
 |.bO cs n cap=>bif Nat.beq (Nat.mul n es) cs.length then match gW ρ lo hi mx n n with
  |none=>none
  |some (l,h,m)=>match cut cs (Nat.mul l es) (Nat.mul (Nat.sub h l) es) with
   |some cs'=>some (.bO cs' (Nat.sub h l) (match mx with|some _=>some (Nat.sub m l)|none=>match cap with|some c=>some (Nat.sub c l)|none=>none))
   |none=>none
  else none
 |.ref id g off es' len cap ex=>bif Nat.beq es' es then match gW ρ lo hi mx len cap with
  |none=>none
  |some (l,h,m)=>some (.ref id g (Nat.add off (Nat.mul l es)) es (Nat.sub h l) (Nat.sub m l) (match mx with|some _=>true|none=>ex))
  else none
 |_=>none
def Dm (t:vC) (k:AV) (es:List (AV×AV)):Nat->Option (Option (Nat×AV)):=
 List.rec (motive:=fun _=>Nat->Option (Option (Nat×AV))) (fun _=>some none)
  (fun p _ ih i=>match BR t k p.1 with
   |none=>none
   |some true=>some (some (i,p.2))
   |some false=>ih (Nat.succ i)) es
def bK (sz:Option Nat):Nat:=match sz with|none=>1|some n=>n
section
variable (ρ:aD->AV)
def lC (c a b:aD):Option aJ:=match ρ c with
 |.bool t=>match t with
  |true=>some (cQ (ρ a))
  |false=>some (cQ (ρ b))
 |_=>none
def ur (x:aD):Option aJ:=match (ρ x).cells? with
 |some cs=>some (AE (fun id=>.ptr id 0 0) (.row 0 cs))
 |none=>none
def iK (zero:List AV) (parts:List (Nat×Nat×aD)):Option aJ:=match fill ρ parts zero with
 |some cs=>some (cQ (.agg cs))
 |none=>none
def gF (es len:Nat) (zero:List AV) (parts:List (Nat×Nat×aD)):Option aJ:=match fill ρ parts zero with
 |some cs=>some (AE (fun id=>.ref id 0 0 es len len false) (.row 0 cs))
 |none=>none
def cF (len:Nat) (zero:List AV) (parts:List (Nat×Nat×aD)):Option aJ:=match fill ρ parts zero with
 |some cs=>bif bn AV.flat cs then some (cQ (.bO cs len (some len))) else none
 |none=>none
def gE (sz:Option Nat) (a:aD):Option aJ:=match ρ a with
 |.ptr id g off=>some (.look (some ⟨id,g,off,bK sz⟩) none fun cs _=>match xB sz cs with|some v=>some ⟨fun _=>v,none,none⟩|none=>none)
 |.ej cs off=>match cut cs off (bK sz) with
  |some cs=>cV (xB sz cs)
  |none=>none
 |_=>none
def gN (sz:Nat) (a x:aD):Option aJ:=match ρ a with
 |.ptr id g off=>match (ρ x).cells? with
  |some cs=>bif Nat.beq cs.length sz then
    some (.look none (some id) fun _=>mD g fun cells=>match cj cells off cs with
     |some cells'=>some ⟨fun _=>cH,some (.row g cells'),none⟩
     |none=>none) else none
  |none=>none
 |_=>none
def fM (x:aD):Option aJ:=match ρ x with
 |.ptr id g off=>some (cQ (.ptr id g off))
 |.ej cs off=>some (cQ (.ej cs off))
 |.func f=>some (cQ (.func f))
 |_=>none
def Ap (t:vC) (neg:Bool) (x y:aD):Option aJ:=match BR t (ρ x) (ρ y) with
 |some b=>some (cQ (.bool (match neg with|true=>!b|false=>b)))
 |none=>none
def nv (k:IntKind) (x:aD):Option aJ:=match ρ x with
 |.int _ n=>some (cQ (.int k (cD k n)))
 |_=>none
def nu (es bytes:Nat) (zero:List AV) (n:aD):Option aJ:=match ρ n with
 |.int k m=>match EN m most with
  |some m=>bif zb k .i64&&Nat.ble (Nat.mul m bytes) most then some (AE (fun id=>.ref id 0 0 es m m false) (.row 0 (rows m zero))) else none
  |none=>none
 |_=>none
def jm (x:aD) (lo hi:Option aD):Option aJ:=match ρ x with
 |.str s=>match gW ρ lo hi none s.size s.size with
  |none=>none
  |some (l,h,_)=>some (cQ (.str (s.extract l h)))
 |_=>none
def gP (n es:Nat) (x:aD) (lo hi mx:Option aD):Option aJ:=match ρ x with
 |.ptr id g off=>match gW ρ lo hi mx n n with
  |none=>none
  |some (l,h,m)=>some (.look (some ⟨id,g,off,Nat.mul n es⟩) none fun _ _=>some ⟨fun _=>.ref id g (Nat.add off (Nat.mul l es)) es (Nat.sub h l) (Nat.sub m l) true,none,none⟩)
 |_=>none
def fe (off:Nat) (x:aD):Option aJ:=match ρ x with
 |.ptr id g o=>some (cQ (.ptr id g (Nat.add o off)))
 |.ej cs o=>some (cQ (.ej cs (Nat.add o off)))
 |_=>none
def uo (off:Nat) (sz:Option Nat) (x:aD):Option aJ:=match ρ x with
 |.agg cs=>match cut cs off (bK sz) with
  |some cs=>cV (xB sz cs)
  |none=>none
 |_=>none
def fN (es:Nat) (x i:aD):Option aJ:=match ρ i with
 |.int _ i=>match ρ x with
  |.bO cs n _=>match Cy i n with
   |some i=>match cs with
    |[]=>none
    |_::_=>some (cQ (.ej cs (Nat.mul i es)))
   |none=>none
  |.ref id g off es' len _ _=>bif Nat.beq es' es then match Cy i len with
   |some i=>some (cQ (.ptr id g (Nat.add off (Nat.mul i es))))
   |none=>none
   else none
  |_=>none
 |_=>none
def jn (len es:Nat) (x i:aD):Option aJ:=match ρ i with
 |.int _ i=>match Cy i len with
  |some i=>match ρ x with
   |.ptr id g o=>some (cQ (.ptr id g (Nat.add o (Nat.mul i es))))
   |.ej cs o=>some (cQ (.ej cs (Nat.add o (Nat.mul i es))))
   |_=>none
  |none=>none
 |_=>none
def um (x i:aD):Option aJ:=match ρ x with
 |.str s=>match ρ i with
  |.int _ (.ofNat i)=>match s[i]? with
   |some b=>some (cQ (.int .u8 b.toNat))
   |none=>none
  |_=>none
 |_=>none
def uq (i:Nat) (x:aD):Option aJ:=match ρ x with
 |.dc vs=>cV vs[i]?
 |_=>none
def Ci (es:Nat) (zero:List AV) (x:aD):Option aJ:=match ρ x with
 |.ak=>some (cQ cH)
 |.ref id g off es' len _ _=>bif Nat.beq es' es then
   some (.look none (some id) fun _=>mD g fun cells=>match cj cells off (rows len zero) with
    |some cells'=>some ⟨fun _=>cH,some (.row g cells'),none⟩
    |none=>none) else none
 |_=>none
def gQ (str:Bool) (x:aD):Option aJ:=match str with
 |true=>match ρ x with
  |.str s=>some (cQ (.int .i64 s.size))
  |_=>none
 |false=>match ρ x with
  |.ak=>some (cQ (.int .i64 0))
  |.bO _ n _=>some (cQ (.int .i64 n))
  |.ref _ _ _ _ len _ _=>some (cQ (.int .i64 len))
  |_=>none
def sP (mx:Bool) (xs:List aD):Option aJ:=match xs.map ρ with
 |v::vs=>cV (EK mx v vs)
 |[]=>none
def D2 (k:List (AV×AV)->Option Out):Option c9->Option Out
 |some (.map es)=>k es
 |_=>none
def Ao (t:vC) (zero:AV) (ok:Bool) (m k:aD):Option aJ:=bif (ρ k).AW then none else match ρ m with
 |.iZ id=>some (.look none (some id) fun _=>D2 fun es=>match Dm t (ρ k) es 0 with
  |none=>none
  |some none=>some ⟨fun _=>match ok with|true=>.dc [zero,.bool false]|false=>zero,none,none⟩
  |some (some (_,v))=>some ⟨fun _=>match ok with|true=>.dc [v,.bool true]|false=>v,none,none⟩)
 |_=>none
def Dg (t:vC) (m k v:aD):Option aJ:=bif (ρ k).AW||(ρ v).AW then none else match ρ m with
 |.iZ id=>some (.look none (some id) fun _=>D2 fun es=>match Dm t (ρ k) es 0 with
  |none=>none
  |some none=>some ⟨fun _=>cH,some (.map (es++[(ρ k,ρ v)])),none⟩
  |some (some (i,_))=>some ⟨fun _=>cH,some (.map (es.set i (ρ k,ρ v))),none⟩)
 |_=>none
def Dh (m:aD):Option aJ:=match ρ m with
 |.iZ id=>some (.look none (some id) fun _=>D2 fun es=>some ⟨fun _=>.int .i64 es.length,none,none⟩)
 |_=>none
end
inductive KV where
 |plan (p:(aD->AV)->Option aJ)
 |call (f:Nat) (args:List aD) (m:Mode)
 |cO (f:aD) (args:List aD) (m:Mode)
def kind (op:c_):KV:=match op with
 |.mv x=>.plan fun ρ=>some (cQ (ρ x))
 |.pick c a b=>.plan fun ρ=>lC ρ c a b
 |.alloc zero=>.plan fun _=>some (AE (fun id=>.ptr id 0 0) (.row 0 zero))
 |.box x=>.plan fun ρ=>ur ρ x
 |.build zero parts=>.plan fun ρ=>iK ρ zero parts
 |.dS es len zero parts=>.plan fun ρ=>gF ρ es len zero parts
 |.aK len zero parts=>.plan fun ρ=>cF ρ len zero parts
 |.load sz a=>.plan fun ρ=>gE ρ sz a
 |.store sz a x=>.plan fun ρ=>gN ρ sz a x
 |.gI x=>.plan fun ρ=>fM ρ x
 |.bin op x y=>.plan fun ρ=>cV (vo op (ρ x) (ρ y))
 |.eq t neg x y=>.plan fun ρ=>Ap ρ t neg x y
 |.un op x=>.plan fun ρ=>cV (Du op (ρ x))
 |.conv k x=>.plan fun ρ=>nv ρ k x
 |.jr es bytes zero n=>.plan fun ρ=>nu ρ es bytes zero n
 |.iX x lo hi=>.plan fun ρ=>jm ρ x lo hi
 |.gK es x lo hi mx=>.plan fun ρ=>cV (vM es ρ (ρ x) lo hi mx)
 |.gy n es x lo hi mx=>.plan fun ρ=>gP ρ n es x lo hi mx
 |.fW off x=>.plan fun ρ=>fe ρ off x
 |.yO off sz x=>.plan fun ρ=>uo ρ off sz x
 |.b_ es x i=>.plan fun ρ=>fN ρ es x i
 |.jx len es x i=>.plan fun ρ=>jn ρ len es x i
 |.idx x i=>.plan fun ρ=>um ρ x i
 |.ext i x=>.plan fun ρ=>uq ρ i x
 |.app es bytes s x=>.plan fun ρ=>kr es bytes (ρ s) (ρ x)
 |.zc es d s=>.plan fun ρ=>va es (ρ d) (ρ s)
 |.BS es zero x=>.plan fun ρ=>Ci ρ es zero x
 |.len str x=>.plan fun ρ=>gQ ρ str x
 |.vv mx xs=>.plan fun ρ=>sP ρ mx xs
 |.kE=>.plan fun _=>some (AE (fun id=>.iZ id) (.map []))
 |.kD t zero ok m k=>.plan fun ρ=>Ao ρ t zero ok m k
 |.sS t m k v=>.plan fun ρ=>Dg ρ t m k v
 |.qj m=>.plan fun ρ=>Dh ρ m
 |.call f args m=>.call f args m
 |.cO f args m=>.cO f args m
def cg (H:aE):Option vr->Option (List AV)
 |none=>some []
 |some r=>match H.get r.id with
  |some (.row g cells)=>bif Nat.beq g r.g then cut cells r.off r.len else none
  |_=>none
def eG (H:aE):Option Nat->Option (Option c9)
 |none=>some none
 |some id=>match H.get id with
  |some o=>some (some o)
  |none=>none
def mz (H:aE) (u:Option Nat) (ob:Option c9):aE:=match ob with
 |none=>H
 |some ob=>match u with
  |some id=>H.put (some ob) id
  |none=>H
def c5 (q:Option vr) (u:Option Nat) (k:List AV->Option c9->Option Out) (H:aE) (nx:Nat):Option (AV×aE×Nat):=match cg H q with
 |none=>none
 |some a=>match eG H u with
  |none=>none
  |some o=>match k a o with
   |none=>none
   |some out=>match out.new with
    |some ob=>some (out.val nx,(mz H u out.obj).put (some ob) nx,Nat.succ nx)
    |none=>some (out.val nx,mz H u out.obj,nx)
def bD (p:aJ) (H:aE) (nx:Nat):Option (AV×aE×Nat):=match p with
 |.val v=>some (v,H,nx)
 |.new f o=>some (f nx,H.put (some o) nx,Nat.succ nx)
 |.look q u k=>c5 q u k H nx
def ev (e:Env):aD->AV
 |.t n=>match e.get n with|some v=>v|none=>cH
 |.c v=>v
def c_.bP:c_->List aD
 |.mv x|.box x|.load _ x|.gI x|.un _ x|.conv _ x|.jr _ _ _ x|.fW _ x|.yO _ _ x|.ext _ x|.BS _ _ x|.len _ x|.qj x=>[x]
 |.pick c a b=>[c,a,b]
 |.alloc _|.kE=>[]
 |.build _ ps|.dS _ _ _ ps|.aK _ _ ps=>ps.map (·.2.2)
 |.store _ a x|.bin _ a x|.eq _ _ a x|.b_ _ a x|.jx _ _ a x|.idx a x|.app _ _ a x|.zc _ a x|.kD _ _ _ a x=>[a,x]
 |.iX x l h=>x::(l.toList++h.toList)
 |.gK _ x l h m|.gy _ _ x l h m=>x::(l.toList++h.toList++m.toList)
 |.sS _ m k v=>[m,k,v]
 |.vv _ as=>as
 |.call _ as _=>as
 |.cO f as _=>f::as
def drop (H:aE):List Nat->aE
 |[]=>H
 |id::rest=>drop (H.put none id) rest
abbrev eC:=Nat->List AV->aE->Nat->Option (AV×aE×Nat)
def di (r:Option (AV×aE×Nat)) (must:Bool):Option AV:=match r with
 |none=>none
 |some (r,Hc,_)=>bif must then (bif own deep Hc r then aL deep Hc r else none) else (bif r.plain then some r else aL deep Hc r)
def bF (cf:eC) (f:Nat) (args:List AV) (m:Mode) (H:aE) (nx:Nat):Option (AV×aE×Nat):=match m with
 |.share=>cf f args H nx
 |.borrow=>bif bn AV.plain args then
   match di (cf f args .leaf 0) false with
   |some r=>some (r,H,nx)
   |none=>none
  else match ck (aL deep H) args with
   |none=>none
   |some as=>match di (cf f as .leaf 0) true with
    |some r=>some (r,H,nx)
    |none=>none
def eu (cf:eC) (op:c_) (ρ:aD->AV) (H:aE) (nx:Nat):Option (AV×aE×Nat):=match kind op with
 |.plan p=>match p ρ with
  |some p=>bD p H nx
  |none=>none
 |.call f args m=>bF cf f (args.map ρ) m H nx
 |.cO f args m=>match ρ f with
  |.func g=>bF cf g (args.map ρ) m H nx
  |_=>none
def kY (H:aE) (ρ:aD->AV) (x:aD):AV:=match aL deep H (ρ x) with
 |some v=>v
 |none=>ρ x
def ja (cf:eC) (o:ax) (ρ:aD->AV) (H:aE) (nx:Nat):Option (AV×aE×Nat):=
 bif o.fz then match o.op with
  |.aK len zero parts=>match ck (aL deep H) (parts.map fun p=>ρ p.2.2) with
   |none=>none
   |some _=>match cF (kY H ρ) len zero parts with
    |some (.val v)=>some (v,drop H ((parts.map fun p=>ρ p.2.2).flatMap (bf deep H)),nx)
    |_=>none
  |_=>none
 else eu cf o.op ρ H nx
structure St where
 env:Env
 H:aE
 nx:Nat
def wanted (e:Env):Option (Nat×Bool)->Bool
 |none=>true
 |some (g,b)=>match e.get g with
  |some (.bool b')=>b' == b
  |_=>false
def oD (nt:Nat) (e:Env) (d:Option Nat) (v:AV):Option Env:=match d with
 |none=>some e
 |some d=>bif Nat.blt d nt then some (e.put (some v) d) else none
def fk (cf:eC) (nt:Nat) (o:ax) (st:St):Option St:=
 bif wanted st.env o.gd then
  match ja cf o (ev st.env) st.H st.nx with
  |none=>none
  |some (v,H,nx)=>match oD nt st.env o.dst v with
   |some e=>some ⟨e,H,nx⟩
   |none=>none
 else match oD nt st.env o.dst cH with
  |some e=>some ⟨e,st.H,st.nx⟩
  |none=>none
def eD (cf:eC) (nt:Nat) (l:List ax):St->Option St:=
 List.rec (motive:=fun _=>St->Option St) (fun st=>some st)
  (fun o _ ih st=>match fk cf nt o st with
   |some st=>ih st
   |none=>none) l
mutual
def fj:AV->AV->Bool
 |.bool a,.bool b=>a == b
 |.int k a,.int k' b=>zb k k'&&yT a b
 |.str a,.str b=>decide (a=b)
 |.iM,.iM=>true
 |.ak,.ak=>true
 |.ptr a b c,.ptr a' b' c'=>Nat.beq a a'&&Nat.beq b b'&&Nat.beq c c'
 |.ej cs o,.ej cs' o'=>jE cs cs'&&Nat.beq o o'
 |.bO cs n c,.bO cs' n' c'=>jE cs cs'&&Nat.beq n n'&&decide (c=c')
 |.ref a b c d e f x,.ref a' b' c' d' e' f' x'=>Nat.beq a a'&&Nat.beq b b'&&Nat.beq c c'&&Nat.beq d d'&&Nat.beq e e'&&Nat.beq f f'&&x == x'
 |.agg cs,.agg cs'=>jE cs cs'
 |.dc cs,.dc cs'=>jE cs cs'
 |.func f,.func f'=>Nat.beq f f'
 |.iZ f,.iZ f'=>Nat.beq f f'
 |_,_=>false
def jE:List AV->List AV->Bool
 |[],[]=>true
 |x::xs,y::ys=>fj x y&&jE xs ys
 |_,_=>false
end
inductive Rd where
 |nU (r:vr)
 |obj (id:Nat)
 |all
inductive EB where
 |ids (l:List Nat)
 |all
structure Rec where
 cr:List Rd
 bI:EB
 H0:aE
 H1:aE
 uz:Nat
 mm:Nat
def aJ.cr:aJ->List Rd
 |.look q u _=>(match q with|some r=>[.nU r]|none=>[])++(match u with|some id=>[.obj id]|none=>[])
 |_=>[]
def aJ.bI:aJ->List Nat
 |.look _ u _=>(match u with|some id=>[id]|none=>[])
 |_=>[]
abbrev G2:=AV×aE×Nat×List Rd×EB
def b5 (cf:eC) (n0:Nat) (f:Nat) (args:List AV) (m:Mode) (H:aE) (nx:Nat):Option G2:=match m with
 |.share=>match cf f args (H.upto fun i=>Nat.blt i n0) nx with
  |some (v,H',nx')=>some (v,(H'.upto fun i=>Nat.blt i n0||(Nat.ble nx i&&Nat.blt i nx')).union (H.upto fun i=>!(Nat.blt i n0||(Nat.ble nx i&&Nat.blt i nx'))),nx',[.all],.all)
  |none=>none
 |.borrow=>bif bn AV.plain args then
   match bF cf f args .borrow H nx with
   |some (v,_,_)=>some (v,H,nx,[],.ids [])
   |none=>none
  else match bF cf f args .borrow (H.upto fun i=>Nat.blt i n0) nx with
   |some (v,_,_)=>some (v,H,nx,[.all],.ids [])
   |none=>none
def jG (cf:eC) (n0:Nat) (op:c_) (ρ:aD->AV) (H:aE) (nx:Nat):Option G2:=match kind op with
 |.plan p=>match p ρ with
  |some p=>match bD p H nx with
   |some (v,H',nx')=>some (v,H',nx',p.cr,.ids p.bI)
   |none=>none
  |none=>none
 |.call f args m=>b5 cf n0 f (args.map ρ) m H nx
 |.cO f args m=>match ρ f with
  |.func g=>b5 cf n0 g (args.map ρ) m H nx
  |_=>none
def dY (cf:eC) (n0:Nat) (o:ax) (ρ:aD->AV) (H:aE) (nx:Nat):Option G2:=
 bif o.fz then match o.op with
  |.aK len zero parts=>match ck (aL deep H) (parts.map fun p=>ρ p.2.2) with
   |none=>none
   |some _=>match cF (kY H ρ) len zero parts with
    |some (.val v)=>some (v,drop H ((parts.map fun p=>ρ p.2.2).flatMap (bf deep H)),nx,((parts.map fun p=>ρ p.2.2).flatMap (bf deep H)).map Rd.obj,.ids ((parts.map fun p=>ρ p.2.2).flatMap (bf deep H)))
    |_=>none
  |_=>none
 else jG cf n0 o.op ρ H nx
def bC (cf:eC) (nt n0:Nat) (o:ax) (st:St):Option (St×Rec):=
 bif wanted st.env o.gd then
  match dY cf n0 o (ev st.env) st.H st.nx with
  |none=>none
  |some (v,H,nx,cr,bI)=>match oD nt st.env o.dst v with
   |none=>none
   |some e=>some (⟨e,H,nx⟩,⟨cr,bI,st.H,H,st.nx,nx⟩)
 else match oD nt st.env o.dst cH with
  |none=>none
  |some e=>some (⟨e,st.H,st.nx⟩,⟨[],.ids [],st.H,st.H,st.nx,st.nx⟩)
def dw (cf:eC) (nt n0:Nat):List ax->St->Option (St×List Rec)
 |[],st=>some (st,[])
 |o::rest,st=>match bC cf nt n0 o st with
  |none=>none
  |some (st1,r)=>match dw cf nt n0 rest st1 with
   |none=>none
   |some (st',l)=>some (st',r::l)
def qv (A B C:aE) (r:vr):Bool:=match cg A (some r),cg B (some r),cg C (some r) with
 |some x,some y,some z=>jE x z&&jE y z
 |_,_,_=>false
def fc (a b:Rec):Rd->Bool
 |.nU r=>match a.bI with
  |.ids l=>bif l.contains r.id then qv a.H0 a.H1 b.H0 r else true
  |.all=>qv a.H0 a.H1 b.H0 r
 |.obj id=>match a.bI with
  |.ids l=>!l.contains id
  |.all=>false
 |.all=>match a.bI with
  |.ids []=>true
  |_=>false
def still (a b:Rec):Bool:=bn (fc a b) b.cr
def apart (a b:Rec):Bool:=match a.bI,b.bI with
 |.ids l,.ids l'=>l.all fun x=>!l'.contains x
 |.all,.ids []=>true
 |.ids [],.all=>true
 |_,_=>false
def fL (rs:List Rec) (p:Nat×Nat):Bool:=match rs[p.1]?,rs[p.2]? with
 |some a,some b=>still a b&&still b a&&apart a b
 |_,_=>false
def uR (n0:Nat) (rs:List Rec) (ahead:List Nat) (id:Nat):Bool:=
 Nat.blt id n0||ahead.any fun i=>match rs[i]? with|some a=>Nat.ble a.uz id&&Nat.blt id a.mm|none=>false
def zX (n0:Nat) (rs:List Rec) (ahead:List Nat):Rd->Bool
 |.nU x=>uR n0 rs ahead x.id
 |.obj id=>uR n0 rs ahead id
 |.all=>true
def qp (n0:Nat) (rs:List Rec) (ahead:List Nat):EB->Bool
 |.ids l=>l.all (uR n0 rs ahead)
 |.all=>true
def fT (n0:Nat) (rs:List Rec):List (List Nat)->List Rec->Bool
 |a::as,r::rest=>r.cr.all (zX n0 rs a)&&qp n0 rs a r.bI&&fT n0 rs as rest
 |[],[]=>true
 |_,_=>false
def c6 (cf:eC) (nt:Nat) (ops:List ax) (ahead:List (List Nat)) (pairs:List (Nat×Nat)) (st:St):Option St:=
 match dw cf nt st.nx ops st with
 |none=>none
 |some (st',rs)=>bif fT st.nx rs ahead rs&&bn (fL rs) pairs then some st' else none
inductive bU where
 |normal
 |exit (id:Nat)
 |ret
abbrev dr:=Nat->bS->St->Option (bU×St)
def bg (ex:dr) (cf:eC) (nt:Nat) (c:bS) (st:St):Option (bU×St):=match c with
 |.skip=>some (.normal,st)
 |.aa ops=>match eD cf nt ops st with
  |some st=>some (.normal,st)
  |none=>none
 |.aP ops ahead pairs=>match c6 cf nt ops ahead pairs st with
  |some st=>some (.normal,st)
  |none=>none
 |.seq a b=>match ex nt a st with
  |some (.normal,st)=>ex nt b st
  |r=>r
 |.cond c a b=>match ev st.env c with
  |.bool true=>ex nt a st
  |.bool false=>ex nt b st
  |_=>none
 |.block id c=>match ex nt c st with
  |some (.exit i,st)=>bif Nat.beq i id then some (.normal,st) else some (.exit i,st)
  |r=>r
 |.loop c=>match ex nt c st with
  |some (.normal,st)=>ex nt (.loop c) st
  |r=>r
 |.exit id=>some (.exit id,st)
 |.ret=>some (.ret,st)
def cW:List AV->Nat->Env->Env
 |[],_,e=>e
 |v::vs,i,e=>cW vs (i+1) (e.put (some v) i)
def gM (e:Env) (H:aE):nk->Option AV
 |.tmp t=>some (ev e (.t t))
 |.cell t sz=>match ev e (.t t) with
  |.ptr id g off=>match cg H (some ⟨id,g,off,bK sz⟩) with
   |some cs=>xB sz cs
   |none=>none
  |_=>none
def lA (l:List nk) (st:St):Option (AV×aE×Nat):=match ck (gM st.env st.H) l with
 |some [v]=>some (v,st.H,st.nx)
 |some vs=>some (.dc vs,st.H,st.nx)
 |none=>none
def fV (prog:Map aq) (ex:dr):eC:=fun f args H nx=>match prog.get f with
 |none=>none
 |some af=>bif Nat.beq args.length af.params then
   match ex af.nt af.body ⟨cW args 0 .leaf,H,nx⟩ with
   |some (.normal,st)=>lA af.res st
   |some (.ret,st)=>lA af.res st
   |_=>none
  else none
structure GZ where
 code:dr
 fn:eC
def interp (prog:Map aq) (k:Nat):GZ:=
 Nat.rec (motive:=fun _=>GZ) ⟨fun _ _ _=>none,fun _ _ _ _=>none⟩ (fun _ p=>⟨bg p.code p.fn,fV prog p.code⟩) k
end Go.Ax
namespace Go.Ax
theorem m8 {α:Sort _} (c:Bool) (a b:α):(Bool.rec a b c:α)=if c=true then b else a:=by cases c<;>rfl
namespace Map
variable {α:Type}
theorem jz (i:Nat):(leaf:Map α).get i=none:=rfl
theorem bL (v:Option α) (l r:Map α) (i:Nat):(node v l r).get i=if i=0 then v else if i % 2=1 then l.get (i / 2) else r.get (i / 2 - 1):=by show (Bool.rec (Bool.rec (r.get (i / 2 - 1)) (l.get (i / 2)) (Nat.beq (i % 2) 1)) v (Nat.beq i 0):Option α)=_;simp only [m8,Lq]
theorem Au (v:Option α) (f i:Nat):one v (f+1) i=if i=0 then .node v .leaf .leaf else if i % 2=1 then .node none (one v f (i / 2)) .leaf else .node none .leaf (one v f (i / 2 - 1)):=by show (Bool.rec (Bool.rec (.node none .leaf (one v f (i / 2 - 1))) (.node none (one v f (i / 2)) .leaf) (Nat.beq (i % 2) 1)) (.node v .leaf .leaf) (Nat.beq i 0):Map α)=_;simp only [m8,Lq]
theorem Ai (v:Option α) (i:Nat):put v leaf i=one v (i+1) i:=rfl
theorem Ag (w v:Option α) (l r:Map α) (i:Nat):put w (node v l r) i=if i=0 then .node w l r else if i % 2=1 then .node v (put w l (i / 2)) r else .node v l (put w r (i / 2 - 1)):=by show (Bool.rec (Bool.rec (.node v l (put w r (i / 2 - 1))) (.node v (put w l (i / 2)) r) (Nat.beq (i % 2) 1)) (.node w l r) (Nat.beq i 0):Map α)=_;simp only [m8,Lq]
theorem CC (v:Option α):∀(f i j:Nat),i < f->(one v f i).get j=if j=i then v else none:=by
 intro f
 induction f with
 |zero=>intro i j h;omega
 |succ f ih=>
  intro i j h;rw [Au];by_cases h0:i=0
  ·subst h0;simp only [if_true,bL,jz];split<;>simp_all
  ·rw [if_neg h0];by_cases h1:i % 2=1
   ·rw [if_pos h1,bL,ih _ _ (by omega)];by_cases hj:j=0
    ·subst hj;rw [if_pos rfl,if_neg (by omega)]
    ·rw [if_neg hj];by_cases hj1:j % 2=1
     ·rw [if_pos hj1];by_cases e:j=i
      ·subst e;simp
      ·rw [if_neg (by omega),if_neg e]
     ·rw [if_neg hj1,jz,if_neg (by rintro rfl;exact hj1 h1)]
   ·rw [if_neg h1,bL,ih _ _ (by omega)];by_cases hj:j=0
    ·subst hj;rw [if_pos rfl,if_neg (by omega)]
    ·rw [if_neg hj];by_cases hj1:j % 2=1
     ·rw [if_pos hj1,jz,if_neg (by rintro rfl;exact h1 hj1)]
     ·rw [if_neg hj1];by_cases e:j=i
      ·subst e;simp
      ·rw [if_neg (by omega),if_neg e]
theorem au (w:Option α) (m:Map α):∀(i j:Nat),(put w m i).get j=if j=i then w else m.get j:=by
 induction m with
 |leaf=>intro i j;rw [Ai,CC _ _ _ _ (by omega),jz]
 |node v l r ihl ihr=>
  intro i j;rw [Ag];by_cases h0:i=0
  ·subst h0;rw [if_pos rfl,bL,bL];split<;>rfl
  ·rw [if_neg h0];by_cases h1:i % 2=1
   ·rw [if_pos h1,bL,bL,ihl];by_cases hj:j=0
    ·subst hj;rw [if_pos rfl,if_neg (by omega),if_pos rfl]
    ·rw [if_neg hj,if_neg hj];by_cases hj1:j % 2=1
     ·rw [if_pos hj1,if_pos hj1];by_cases e:j=i
      ·subst e;simp
      ·rw [if_neg (by omega),if_neg e]
     ·rw [if_neg hj1,if_neg hj1,if_neg (by rintro rfl;exact hj1 h1)]
   ·rw [if_neg h1,bL,bL,ihr];by_cases hj:j=0
    ·subst hj;rw [if_pos rfl,if_neg (by omega),if_pos rfl]
    ·rw [if_neg hj,if_neg hj];by_cases hj1:j % 2=1
     ·rw [if_pos hj1,if_pos hj1,if_neg (by rintro rfl;exact h1 hj1)]
     ·rw [if_neg hj1,if_neg hj1];by_cases e:j=i
      ·subst e;simp
      ·rw [if_neg (by omega),if_neg e]
theorem eY (m:Map α):∀(p:Nat->Bool) (i:Nat),(m.upto p).get i=if p i=true then m.get i else none:=by
 induction m with
 |leaf=>intro p i;show none=_;rw [jz];split<;>rfl
 |node v l r ihl ihr=>
  intro p i;show (node _ (l.upto _) (r.upto _)).get i=_;rw [bL,bL,ihl,ihr,m8];by_cases h0:i=0
  ·subst h0;simp
  ·rw [if_neg h0,if_neg h0];by_cases h1:i % 2=1
   ·rw [if_pos h1,if_pos h1];have e:Nat.succ (Nat.mul 2 (i / 2))=i:=by simp only [Nat.succ_eq_add_one,Nat.mul_eq];omega
    rw [e]
   ·rw [if_neg h1,if_neg h1];have e:Nat.succ (Nat.succ (Nat.mul 2 (i / 2 - 1)))=i:=by simp only [Nat.succ_eq_add_one,Nat.mul_eq];omega
    rw [e]
theorem rQ (a:Map α):∀(b:Map α) (i:Nat),(a.union b).get i=match a.get i with|some x=>some x|none=>b.get i:=by
 induction a with
 |leaf=>intro b i;rfl
 |node v l r ihl ihr=>
  intro b i;cases b with
  |leaf=>show (node v l r).get i=_;cases (node v l r).get i<;>rfl
  |node v' l' r'=>
   show (node _ (l.union l') (r.union r')).get i=_;rw [bL,bL,bL,ihl,ihr];by_cases h0:i=0
   ·simp only [if_pos h0];try (cases v<;>rfl)
   ·simp only [if_neg h0];by_cases h1:i % 2=1
    ·simp only [if_pos h1]
    ·simp only [if_neg h1]
end Map
theorem aF {α:Type} {f:α->Bool} {l:List α}:bn f l=true↔∀x∈l,f x=true:=by
 induction l with
 |nil=>exact⟨fun _ _ h=>(by cases h),fun _=>rfl⟩
 |cons x l ih=>
  show (Bool.rec false (bn f l) (f x):Bool)=true↔_;rw [m8];split
  ·rename_i h;rw [ih];simp [h]
  ·rename_i h;simp [h]
theorem b6 {α β:Type} (f:α->Option β) (x:α) (l:List α):ck f (x::l)=match f x with|none=>none|some y=>match ck f l with|none=>none|some ys=>some (y::ys):=rfl
theorem AF {α β:Type} (f:α->Option β):ck f []=some []:=rfl
theorem fC {α β:Type} {f:α->Option β} {l:List α} {r:List β} (h:ck f l=some r):l.length=r.length/\∀(j:Nat) (x:α),l[j]?=some x->∃y,r[j]?=some y/\f x=some y:=by
 induction l generalizing r with
 |nil=>rw [AF] at h;cases h;exact⟨rfl,fun j x hx=>by simp at hx⟩
 |cons a l ih=>
  rw [b6] at h;cases ha:f a with
  |none=>rw [ha] at h;cases h
  |some y=>
   rw [ha] at h;cases hl:ck f l with
   |none=>rw [hl] at h;cases h
   |some ys=>
    rw [hl] at h;cases h;obtain⟨h1,h2⟩:=ih hl;refine⟨by simp [h1],fun j x hx=>?_⟩;cases j with
    |zero=>simp at hx;subst hx;exact⟨y,rfl,ha⟩
    |succ j=>simpa using h2 j x (by simpa using hx)
theorem yP (n:Nat):first [] n=if n=0 then some [] else none:=by show (Bool.rec _ _ _:Option (List AV))=_;simp only [m8,Lq]
theorem wL (x:AV) (l:List AV) (n:Nat):first (x::l) n=if n=0 then some [] else match first l (n - 1) with|some r=>some (x::r)|none=>none:=by show (Bool.rec (match first l (n - 1) with|some r=>some (x::r)|none=>none) (some []) (Nat.beq n 0):Option (List AV))=_;simp only [m8,Lq]
theorem lV (cells:List AV):∀n,first cells n=if n<=cells.length then some (cells.take n) else none:=by
 induction cells with
 |nil=>intro n;rw [yP];cases n<;>simp
 |cons x l ih=>
  intro n;rw [wL,ih];cases n with
  |zero=>simp
  |succ n=>simp only [Nat.add_one_ne_zero,if_false,Nat.add_sub_cancel,Ld,Nat.add_le_add_iff_right];by_cases h:n<=l.length<;>simp [h]
theorem CS (off n:Nat):cut [] off n=if off=0 then first [] n else none:=by show (Bool.rec _ _ _:Option (List AV))=_;simp only [m8,Lq]
theorem Bo (x:AV) (l:List AV) (off n:Nat):cut (x::l) off n=if off=0 then first (x::l) n else cut l (off - 1) n:=by show (Bool.rec (cut l (off - 1) n) (first (x::l) n) (Nat.beq off 0):Option (List AV))=_;simp only [m8,Lq]
theorem b8 (cells:List AV):∀off n,cut cells off n=if off+n<=cells.length then some ((cells.drop off).take n) else none:=by
 induction cells with
 |nil=>intro off n;rw [CS,lV];cases off<;>simp
 |cons x l ih=>
  intro off n;rw [Bo,ih,lV];cases off with
  |zero=>simp
  |succ off=>simp only [Nat.add_one_ne_zero,if_false,Nat.add_sub_cancel,Ld,List.drop_succ_cons];simp only [Nat.add_right_comm off 1 n,Nat.add_le_add_iff_right]
theorem ek {cells cs:List AV} {off n:Nat} (h:cut cells off n=some cs):off+n<=cells.length/\cs=(cells.drop off).take n:=by
 rw [b8] at h;split at h
 ·rename_i hl;exact⟨hl,by injection h with h;exact h.symm⟩
 ·cases h
theorem tg {cells cs:List AV} {off n:Nat} (h:cut cells off n=some cs):cs.length=n/\∀j,j < n->cs[j]?=cells[off+j]?:=by obtain⟨hl,rfl⟩:=ek h;refine⟨by simp;omega,fun j hj=>by rw [List.getElem?_take_of_lt hj,K7]⟩
theorem yw (cells:List AV):lE [] cells=some cells:=rfl
theorem vZ (y:AV) (cs:List AV):∀cells,lE (y::cs) cells=match cells with|[]=>none|_::xs=>match lE cs xs with|some l=>some (y::l)|none=>none:=fun _=>rfl
theorem uv (cs:List AV):∀cells,lE cs cells=if cs.length<=cells.length then some (cs++cells.drop cs.length) else none:=by
 induction cs with
 |nil=>intro cells;simp [yw]
 |cons y cs ih=>
  intro cells;rw [vZ];cases cells with
  |nil=>simp
  |cons x xs=>simp only [ih,Ld,Nat.add_le_add_iff_right,List.drop_succ_cons,List.cons_append];by_cases h:cs.length<=xs.length<;>simp [h]
theorem Aq (off:Nat) (cs:List AV):cj [] off cs=if off=0 then lE cs [] else none:=by show (Bool.rec _ _ _:Option (List AV))=_;simp only [m8,Lq]
theorem yu (x:AV) (l:List AV) (off:Nat) (cs:List AV):cj (x::l) off cs=if off=0 then lE cs (x::l) else match cj l (off - 1) cs with|some r=>some (x::r)|none=>none:=by show (Bool.rec (match cj l (off - 1) cs with|some r=>some (x::r)|none=>none) (lE cs (x::l)) (Nat.beq off 0):Option (List AV))=_;simp only [m8,Lq]
theorem eR (cells:List AV):∀off cs,cj cells off cs=if off+cs.length<=cells.length then some (cells.take off++cs++cells.drop (off+cs.length)) else none:=by
 induction cells with
 |nil=>intro off cs;rw [Aq,uv];cases off<;>simp
 |cons x l ih=>
  intro off cs;rw [yu,ih,uv];cases off with
  |zero=>simp
  |succ off=>simp only [Nat.add_one_ne_zero,if_false,Nat.add_sub_cancel,Ld,List.take_succ_cons,Nat.add_right_comm off 1 cs.length,Nat.add_le_add_iff_right,List.drop_succ_cons];by_cases h:off+cs.length<=l.length<;>simp [h]
theorem cm {cells cells' cs:List AV} {off:Nat} (h:cj cells off cs=some cells'):off+cs.length<=cells.length/\cells'=cells.take off++cs++cells.drop (off+cs.length):=by
 rw [eR] at h;split at h
 ·rename_i hl;exact⟨hl,by injection h with h;exact h.symm⟩
 ·cases h
theorem cT {cells cells' cs:List AV} {off:Nat} (h:cj cells off cs=some cells'):cells'.length=cells.length/\∀j,cells'[j]?=if off<=j/\j < off+cs.length then cs[j - off]? else cells[j]?:=by
 obtain⟨hl,rfl⟩:=cm h;refine⟨by simp;omega,fun j=>?_⟩;by_cases h1:j < off
 ·rw [KZ (by simp;omega),KZ (by simp;omega),List.getElem?_take_of_lt h1,if_neg (by omega)]
 ·by_cases h2:j < off+cs.length
  ·rw [KZ (by simp;omega),K3 (by simp;omega),if_pos ⟨by omega,h2⟩];congr 1;simp;omega
  ·rw [K3 (by simp;omega),if_neg (by omega),K7];congr 1;simp;omega
theorem mZ {a b:IntKind} (h:zb a b=true):a=b:=by cases a<;>cases b<;>first|rfl|cases h
theorem CK (a b:IntKind):zb a b=decide (a=b):=by cases a<;>cases b<;>rfl
theorem Bx (a b:Nat):Nat.blt a b=decide (a < b):=by rw [Bool.eq_iff_iff];simp [Ls]
theorem oS (x y:Int):wB x y=decide (x < y):=by
 cases x<;>cases y<;>simp only [wB,Bx]<;>first
  |(congr 1;simp only [Int.ofNat_eq_natCast,eq_iff_iff];omega)
  |(symm;rw [Lt];simp only [Int.ofNat_eq_natCast];omega)
  |(symm;rw [Lu];simp only [Int.ofNat_eq_natCast];omega)
theorem kZ (x y:Int):yT x y=decide (x=y):=by
 cases x<;>cases y<;>simp only [yT]<;>first
  |(rw [Bool.eq_iff_iff,Lq,Lt];simp only [Int.ofNat_eq_natCast];omega)
  |(rw [Bool.eq_iff_iff,Lq,Lt,Int.negSucc.injEq])
  |(symm;rw [Lu];simp only [Int.ofNat_eq_natCast];omega)
theorem lP {i:Int} {n m:Nat} (h:Cy i n=some m):i=(m:Int)/\m < n:=by
 cases i with
 |ofNat k=>
  simp only [Cy,Bx,cond_eq_ite,Lt] at h;split at h
  ·cases h;exact⟨rfl,by assumption⟩
  ·cases h
 |negSucc k=>cases h
theorem l_ {i:Int} {n m:Nat} (h:EN i n=some m):i=(m:Int)/\m<=n:=by
 cases i with
 |ofNat k=>
  simp only [EN,cond_eq_ite,Lr] at h;split at h
  ·cases h;exact⟨rfl,by assumption⟩
  ·cases h
 |negSucc k=>cases h
theorem je (k:IntKind) (n:Int):cD k n=k.wrap n:=by
 unfold cD;rw [cond_eq_ite];split
 ·rename_i h;cases k<;>cases n<;>simp only [EL,Bx,Lt] at h<;>simp only [IntKind.wrap,IntKind.bits,IntKind.signed,Int.ofNat_eq_natCast]<;>simp<;>omega
 ·rfl
end Go.Ax
end
