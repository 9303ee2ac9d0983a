/- Part 0 of the proof: Ax0, Ax1. -/
import GoSem.Step
set_option linter.unusedSimpArgs false
set_option linter.unusedVariables false
noncomputable section
namespace Go.Ax
abbrev qqa:=@List.getElem?_eq_getElem
abbrev qqb:=@List.getElem?_eq_some_iff
abbrev qqc:=@List.getElem?_append_left
abbrev qqd:=@List.getElem?_append_right
abbrev qqe:=@List.getElem?_map
abbrev qqf:=@List.getElem?_eq_none
abbrev qqg:=@List.getElem?_take
abbrev qqh:=@List.getElem?_drop
abbrev qqi:=@List.mem_of_getElem?
abbrev qqj:=@List.getElem_mem
abbrev qqk:=@List.getElem?_replicate
abbrev qql:=@List.length_map
abbrev qqm:=@List.length_append
abbrev qqn:=@List.length_take
abbrev qqo:=@List.length_drop
abbrev qqp:=@List.length_replicate
abbrev qqq:=@List.length_singleton
abbrev qqr:=@List.length_cons
abbrev qqs:=@List.length_set
abbrev qqt:=@List.take_length
abbrev qqu:=@List.mem_cons_self
abbrev qqv:=@List.mem_cons_of_mem
abbrev qqw:=@List.mem_cons
abbrev qqx:=@List.mem_append
abbrev qqy:=@List.mem_singleton
abbrev qqz:=@List.mem_map
abbrev qqA:=@List.all_eq_true
abbrev qqB:=@Bool.and_eq_true
abbrev qqC:=@Bool.or_eq_true
abbrev qqD:=@Bool.not_eq_true'
abbrev qqE:=@Nat.beq_eq
abbrev qqF:=@Nat.ble_eq
abbrev qqG:=@Nat.blt_eq
abbrev qqH:=@decide_eq_true_eq
abbrev qqI:=@decide_eq_true
abbrev qqJ:=@decide_eq_false_iff_not
abbrev qqK:=@decide_eq_false
abbrev qqL:=@Nat.lt_of_lt_of_le
abbrev qqM:=@List.length_eq_zero_iff
abbrev qqN:=@List.take_of_length_le
abbrev qqO:=@Option.some.inj
abbrev qqP:=@Int.toNat_of_nonneg
abbrev qqQ:=@List.map_replicate
abbrev qqR:=@Nat.le_trans
abbrev qqS:=@Nat.zero_le
abbrev qqT:=@Nat.le_refl
inductive Map (α:Type) where
 |leaf
 |node (v:Option α) (l r:Map α)
namespace Map
variable {α:Type}
def get (m:Map α):Nat->Option α:=
 Map.rec (motive:=fun _=>Nat->Option α) (fun _=>none)
  (fun v _ _ l r i=>Bool.rec (Bool.rec (r (Nat.sub (Nat.div i 2) 1)) (l (Nat.div i 2)) (Nat.beq (Nat.mod i 2) 1)) v (Nat.beq i 0)) m
def one (v:Option α) (f:Nat):Nat->Map α:=
 Nat.rec (motive:=fun _=>Nat->Map α) (fun _=>.leaf)
  (fun _ ih i=>Bool.rec (Bool.rec (.node none .leaf (ih (Nat.sub (Nat.div i 2) 1))) (.node none (ih (Nat.div i 2)) .leaf) (Nat.beq (Nat.mod i 2) 1)) (.node v .leaf .leaf) (Nat.beq i 0)) f
def put (w:Option α) (m:Map α):Nat->Map α:=
 Map.rec (motive:=fun _=>Nat->Map α) (fun i=>one w (Nat.succ i) i)
  (fun v l0 r0 l r i=>Bool.rec (Bool.rec (.node v l0 (r (Nat.sub (Nat.div i 2) 1))) (.node v (l (Nat.div i 2)) r0) (Nat.beq (Nat.mod i 2) 1)) (.node w l0 r0) (Nat.beq i 0)) m
def upto (m:Map α):(Nat->Bool)->Map α:=
 Map.rec (motive:=fun _=>(Nat->Bool)->Map α) (fun _=>.leaf)
  (fun v _ _ l r p=>.node (Bool.rec none v (p 0)) (l fun k=>p (Nat.succ (Nat.mul 2 k))) (r fun k=>p (Nat.succ (Nat.succ (Nat.mul 2 k))))) m
def union (m:Map α):Map α->Map α:=
 Map.rec (motive:=fun _=>Map α->Map α) (fun m=>m)
  (fun v l0 r0 l r m=>match m with
   |.leaf=>.node v l0 r0
   |.node v' l' r'=>.node (match v with|some x=>some x|none=>v') (l l') (r r')) m
end Map
inductive AV where
 |bool (b:Bool)
 |int (k:IntKind) (n:Int)
 |str (s:ByteArray)
 |BS
 |ptr (id g off:Nat)
 |qc (cs:List AV) (off:Nat)
 |av
 |ju (cs:List AV) (n:Nat) (cap:Option Nat)
 |ref (id g off es len cap:Nat) (ex:Bool)
 |agg (cs:List AV)
 |qo (vs:List AV)
 |func (f:Nat)
 |Am (id:Nat)
 deriving Inhabited
inductive oz where
 |row (g:Nat) (cells:List AV)
 |map (es:List (AV×AV))
 deriving Inhabited
abbrev ck:=Map oz
abbrev Env:=Map AV
def kr:AV:=.qo []
def AV.flat:AV->Bool
 |.ref ..=>false
 |.ptr ..=>false
 |.Am _=>false
 |.agg _=>false
 |.qo _=>false
 |_=>true
def gE {α:Type} (f:α->Bool) (l:List α):Bool:=List.rec (motive:=fun _=>Bool) true (fun x _ ih=>Bool.rec false ih (f x)) l
def AV.qq:AV->Bool
 |.agg cs=>gE AV.flat cs
 |v=>v.flat
def AV.plain:AV->Bool
 |.qo vs=>gE AV.qq vs
 |v=>v.qq
def AV.QX:AV->Bool
 |.qo _=>true
 |_=>false
def AV.one:AV->Bool
 |.agg _=>false
 |.qo _=>false
 |_=>true
def AV.cells?:AV->Option (List AV)
 |.agg cs=>some cs
 |.qo _=>none
 |v=>some [v]
def lX {α β:Type} (f:α->Option β) (l:List α):Option (List β):=
 List.rec (motive:=fun _=>Option (List β)) (some [])
  (fun x _ ih=>match f x with
   |none=>none
   |some y=>match ih with
    |none=>none
    |some ys=>some (y::ys)) l
def first (cells:List AV):Nat->Option (List AV):=
 List.rec (motive:=fun _=>Nat->Option (List AV)) (fun n=>Bool.rec none (some []) (Nat.beq n 0))
  (fun x _ ih n=>Bool.rec (match ih (Nat.pred n) with|some l=>some (x::l)|none=>none) (some []) (Nat.beq n 0)) cells
def cut (cells:List AV):Nat->Nat->Option (List AV):=
 List.rec (motive:=fun _=>Nat->Nat->Option (List AV)) (fun off n=>Bool.rec none (first [] n) (Nat.beq off 0))
  (fun x xs ih off n=>Bool.rec (ih (Nat.pred off) n) (first (x::xs) n) (Nat.beq off 0)) cells
def CV (cs:List AV):List AV->Option (List AV):=
 List.rec (motive:=fun _=>List AV->Option (List AV)) (fun cells=>some cells)
  (fun y _ ih cells=>match cells with
   |[]=>none
   |_::xs=>match ih xs with
    |some l=>some (y::l)
    |none=>none) cs
def jl (cells:List AV):Nat->List AV->Option (List AV):=
 List.rec (motive:=fun _=>Nat->List AV->Option (List AV)) (fun off cs=>Bool.rec none (CV cs []) (Nat.beq off 0))
  (fun x xs ih off cs=>Bool.rec (match ih (Nat.pred off) cs with|some l=>some (x::l)|none=>none) (CV cs (x::xs)) (Nat.beq off 0)) cells
def rows (n:Nat) (zero:List AV):List AV:=(List.replicate n zero).flatten
def WZ (k:IntKind) (n:Int):Bool:=match n with
 |.ofNat m=>Nat.blt m (match k with|.i8=>128|.i16=>32768|.i32=>2147483648|.i64=>9223372036854775808|.u8=>256|.u16=>65536|.u32=>4294967296|.u64=>18446744073709551616)
 |.negSucc m=>Nat.blt m (match k with|.i8=>128|.i16=>32768|.i32=>2147483648|.i64=>9223372036854775808|_=>0)
def wj (k:IntKind) (n:Int):Int:=bif WZ k n then n else k.wrap n
def n8 (x y:Int):Bool:=match x,y with
 |.ofNat a,.ofNat b=>Nat.blt a b
 |.negSucc _,.ofNat _=>true
 |.ofNat _,.negSucc _=>false
 |.negSucc a,.negSucc b=>Nat.blt b a
def nk (x y:Int):Bool:=match x,y with
 |.ofNat a,.ofNat b=>Nat.beq a b
 |.negSucc a,.negSucc b=>Nat.beq a b
 |_,_=>false
def Rq:IntKind->IntKind->Bool
 |.i8,.i8|.i16,.i16|.i32,.i32|.i64,.i64|.u8,.u8|.u16,.u16|.u32,.u32|.u64,.u64=>true
 |_,_=>false
def Se (i:Int) (n:Nat):Option Nat:=match i with
 |.ofNat m=>bif Nat.blt m n then some m else none
 |.negSucc _=>none
def Si (i:Int) (n:Nat):Option Nat:=match i with
 |.ofNat m=>bif Nat.ble m n then some m else none
 |.negSucc _=>none
inductive v8 where
 |int|bool|str
inductive Lz where
 |one (l:v8)
 |slice
 |agg (ls:List v8)
def Rp (l:v8) (a b:AV):Option Bool:=match l with
 |.int=>match a with
  |.int k n=>match b with
   |.int k' m=>bif Rq k k' then some (nk n m) else none
   |_=>none
  |_=>none
 |.bool=>match a with
  |.bool x=>match b with
   |.bool y=>some (x == y)
   |_=>none
  |_=>none
 |.str=>match a with
  |.str x=>match b with
   |.str y=>some (x == y)
   |_=>none
  |_=>none
def Lv (ls:List v8):List AV->List AV->Option Bool:=
 List.rec (motive:=fun _=>List AV->List AV->Option Bool) (fun a b=>match a with|[]=>(match b with|[]=>some true|_::_=>none)|_::_=>none)
  (fun l _ ih a b=>match a with
   |[]=>none
   |x::xs=>match b with
    |[]=>none
    |y::ys=>match Rp l x y with
     |none=>none
     |some u=>match ih xs ys with
      |none=>none
      |some c=>some (u&&c)) ls
def Sg (t:Lz) (x y:AV):Option Bool:=match t with
 |.one l=>Rp l x y
 |.agg ls=>match x with
  |.agg a=>match y with
   |.agg b=>Lv ls a b
   |_=>none
  |_=>none
 |.slice=>match x with
  |.av=>match y with
   |.av=>some true
   |.ju ..=>some false
   |.ref ..=>some false
   |_=>none
  |.ju ..=>match y with
   |.av=>some false
   |_=>none
  |.ref ..=>match y with
   |.av=>some false
   |_=>none
  |_=>none
def dh (d:Nat):ck->AV->Option AV:=
 Nat.rec (motive:=fun _=>ck->AV->Option AV) (fun _ _=>none)
  (fun _ ih H v=>match v with
   |.ref id g off es len cap ex=>match H.get id with
    |some (.row g' cells)=>bif Nat.beq g' g then match cut cells off (Nat.mul len es) with
      |some cs=>match lX (ih H) cs with
       |some cs=>some (.ju cs len (Bool.rec none (some cap) ex))
       |none=>none
      |none=>none
     else none
    |_=>none
   |.agg cs=>match lX (ih H) cs with
    |some cs=>some (.agg cs)
    |none=>none
   |.qo cs=>match lX (ih H) cs with
    |some cs=>some (.qo cs)
    |none=>none
   |.ptr ..=>none
   |.Am _=>none
   |v=>some v) d
def fh (d:Nat):ck->AV->List Nat:=
 Nat.rec (motive:=fun _=>ck->AV->List Nat) (fun _ _=>[])
  (fun _ ih H v=>match v with
   |.ref id _ off es len _ _=>match H.get id with
    |some (.row _ cells)=>id::(match cut cells off (Nat.mul len es) with|some cs=>cs.flatMap (ih H)|none=>[])
    |_=>[id]
   |.agg cs=>cs.flatMap (ih H)
   |.qo cs=>cs.flatMap (ih H)
   |_=>[]) d
def own (d:Nat):ck->AV->Bool:=
 Nat.rec (motive:=fun _=>ck->AV->Bool) (fun _ _=>false)
  (fun _ ih H v=>match v with
   |.ref id _ off es len _ _=>match H.get id with
    |some (.row _ cells)=>match cut cells off (Nat.mul len es) with|some cs=>gE (ih H) cs|none=>false
    |_=>false
   |.agg cs=>gE (ih H) cs
   |.qo cs=>gE (ih H) cs
   |.ju cs _ _=>match cs with|[]=>true|_::_=>false
   |.qc ..=>false
   |.ptr ..=>false
   |.Am _=>false
   |_=>true) d
def deep:Nat:=30
inductive b_ where
 |t (n:Nat)
 |c (v:AV)
 deriving Inhabited
inductive Mode where
 |share
 |borrow
inductive mj where
 |mv (x:b_)
 |pick (c a b:b_)
 |alloc (zero:List AV)
 |box (x:b_)
 |build (zero:List AV) (parts:List (Nat×Nat×b_))
 |tj (es len:Nat) (zero:List AV) (parts:List (Nat×Nat×b_))
 |bx (len:Nat) (zero:List AV) (parts:List (Nat×Nat×b_))
 |load (sz:Option Nat) (a:b_)
 |store (sz:Nat) (a x:b_)
 |xj (x:b_)
 |bin (op:BinOp) (x y:b_)
 |eq (t:Lz) (neg:Bool) (x y:b_)
 |un (op:UnOp) (x:b_)
 |conv (k:IntKind) (x:b_)
 |Al (es bytes:Nat) (zero:List AV) (n:b_)
 |tn (x:b_) (lo hi:Option b_)
 |zm (es:Nat) (x:b_) (lo hi mx:Option b_)
 |nw (n es:Nat) (x:b_) (lo hi mx:Option b_)
 |vl (off:Nat) (x:b_)
 |Nz (off:Nat) (sz:Option Nat) (x:b_)
 |jv (es:Nat) (x i:b_)
 |oD (len es:Nat) (x i:b_)
 |idx (x i:b_)
 |ext (i:Nat) (x:b_)
 |app (es bytes:Nat) (s x:b_)
 |Lw (es:Nat) (d s:b_)
 |Ty (es:Nat) (zero:List AV) (x:b_)
 |len (str:Bool) (x:b_)
 |GL (mx:Bool) (xs:List b_)
 |B9
 |B8 (t:Lz) (zero:AV) (ok:Bool) (m k:b_)
 |IP (t:Lz) (m k v:b_)
 |GW (m:b_)
 |call (f:Nat) (args:List b_) (m:Mode)
 |lA (f:b_) (args:List b_) (m:Mode)
 deriving Inhabited
structure br where
 dst:Option Nat
 op:mj
 gd:Option (Nat×Bool)
 fz:Bool
 deriving Inhabited
abbrev o (d:Nat) (op:mj):br:=⟨some d,op,none,false⟩
abbrev i64 (n:Int):b_:=.c (.int .i64 n)
inductive lF where
 |skip
 |er (ops:List br)
 |dz (ops:List br) (ahead:List (List Nat)) (pairs:List (Nat×Nat))
 |seq (a b:lF)
 |cond (c:b_) (a b:lF)
 |block (id:Nat) (c:lF)
 |loop (c:lF)
 |exit (id:Nat)
 |ret
 deriving Inhabited
inductive wh where
 |tmp (t:Nat)
 |cell (t:Nat) (sz:Option Nat)
structure ay where
 params:Nat
 nt:Nat
 res:List wh
 body:lF
structure Lm where
 id:Nat
 g:Nat
 off:Nat
 len:Nat
structure Out where
 val:Nat->AV
 obj:Option oz
 new:Option oz
inductive c9 where
 |val (v:AV)
 |new (val:Nat->AV) (o:oz)
 |look (q:Option Lm) (u:Option Nat) (k:List AV->Option oz->Option Out)
abbrev lE (v:AV):c9:=.val v
def lR (v:Option AV):Option c9:=match v with|some v=>some (.val v)|none=>none
abbrev QE (val:Nat->AV) (o:oz):c9:=.new val o
def DI (g:Nat) (k:List AV->Option Out):Option oz->Option Out
 |some (.row g' cells)=>bif Nat.beq g' g then k cells else none
 |_=>none
def most:Nat:=70368744177664
def Mb (sz:Option Nat) (cs:List AV):Option AV:=match sz with
 |none=>match cs with|[v]=>some v|_=>none
 |some _=>some (.agg cs)
def fill (ρ:b_->AV) (parts:List (Nat×Nat×b_)):List AV->Option (List AV):=
 List.rec (motive:=fun _=>List AV->Option (List AV)) (fun cells=>some cells)
  (fun p _ ih cells=>match (ρ p.2.2).cells? with
   |none=>none
   |some cs=>bif Nat.beq cs.length p.2.1 then match jl cells p.1 cs with
     |some cells=>ih cells
     |none=>none
    else none) parts
def LN (op:BinOp) (k:IntKind) (x y:Int):Option AV:=
 bif n8 y 0 then none else match op with
  |.shl=>some (.int k (k.wrap (x*2 ^ min y.toNat k.bits)))
  |.shr=>some (.int k (x.fdiv (2 ^ min y.toNat k.bits)))
  |_=>none
def Q1 (op:BinOp) (k:IntKind) (x y:Int):Option AV:=
 match op with
 |.add=>some (.int k (wj k (x+y)))
 |.sub=>some (.int k (wj k (x - y)))
 |.mul=>some (.int k (wj k (x*y)))
 |.quo=>bif nk y 0 then none else some (.int k (wj k (x.tdiv y)))
 |.rem=>bif nk y 0 then none else some (.int k (x.tmod y))
 |.and=>some (.int k (k.wrap (BitVec.ofInt k.bits x&&& BitVec.ofInt k.bits y).toNat))
 |.or=>some (.int k (k.wrap (BitVec.ofInt k.bits x||| BitVec.ofInt k.bits y).toNat))
 |.xor=>some (.int k (k.wrap (BitVec.ofInt k.bits x ^^^ BitVec.ofInt k.bits y).toNat))
 |.andNot=>some (.int k (k.wrap (BitVec.ofInt k.bits x&&& ~~~BitVec.ofInt k.bits y).toNat))
 |.eql=>some (.bool (nk x y))
 |.neq=>some (.bool !(nk x y))
 |.lss=>some (.bool (n8 x y))
 |.leq=>some (.bool !(n8 y x))
 |.gtr=>some (.bool (n8 y x))
 |.geq=>some (.bool !(n8 x y))
 |.shl=>none
 |.shr=>none
def YM (op:BinOp) (x y:ByteArray):Option AV:=
 match op with
 |.add=>bif Nat.ble (x.size+y.size) most then some (.str (x++y)) else none
 |.eql=>some (.bool (x.toList == y.toList))
 |.neq=>some (.bool !(x.toList == y.toList))
 |.lss=>some (.bool (Op.bytesLess x.toList y.toList))
 |.leq=>some (.bool (Op.bytesLess x.toList y.toList||x.toList == y.toList))
 |.gtr=>some (.bool !(Op.bytesLess x.toList y.toList||x.toList == y.toList))
 |.geq=>some (.bool !(Op.bytesLess x.toList y.toList))
 |_=>none
def Ld (op:BinOp) (x y:AV):Option AV:=match x with
 |.int k a=>match y with
  |.int k' b=>match op with
   |.shl=>LN .shl k a b
   |.shr=>LN .shr k a b
   |op=>bif Rq k k' then Q1 op k a b else none
  |_=>none
 |.str a=>match y with
  |.str b=>YM op a b
  |_=>none
 |_=>none
def Um (op:UnOp) (x:AV):Option AV:=match op with
 |.neg=>match x with|.int k n=>some (.int k (wj k (0 - n)))|_=>none
 |.not=>match x with|.bool b=>some (.bool !b)|_=>none
 |.xor=>match x with|.int k n=>Q1 .xor k (if k.signed then -1 else k.max) n|_=>none
 |.plus=>none
def WY (mx:Bool):AV->List AV->Option AV
 |v,[]=>some v
 |.int k a,.int _ b::rest=>WY mx (.int k (match mx with|true=>(bif n8 a b then b else a)|false=>(bif n8 b a then b else a))) rest
 |_,_=>none
def NX (ρ:b_->AV) (x:Option b_) (other y:Nat):Option Nat:=match x with
 |none=>some other
 |some o=>match ρ o with
  |.int _ i=>Si i y
  |_=>none
def xy (ρ:b_->AV) (lo hi mx:Option b_) (len cap:Nat):Option (Nat×Nat×Nat):=match NX ρ mx cap cap with
 |none=>none
 |some m=>match NX ρ hi len m with
  |none=>none
  |some h=>match NX ρ lo 0 h with
   |none=>none
   |some l=>some (l,h,m)
inductive Src where
 |list (cs:List AV)
 |CA (r:Lm)
def js (es:Nat):AV->Option (Nat×Src)
 |.av=>some (0,.list [])
 |.ju cs n _=>bif Nat.beq (Nat.mul n es) cs.length then some (n,.list cs) else none
 |.ref id g off es' len _ _=>bif Nat.beq es' es then some (len,.CA ⟨id,g,off,Nat.mul len es⟩) else none
 |_=>none
def Src.q:Src->Option Lm
 |.CA r=>some r
 |.list _=>none
def Src.cs:Src->List AV->List AV
 |.list cs,_=>cs
 |.CA _,a=>a
def IV:AV->Bool
 |.av=>true
 |.ju ..=>true
 |.ref ..=>true
 |_=>false
def GA (es:Nat) (id g off len cap:Nat) (ex:Bool) (m:Nat) (src:Src):c9:=
 bif Nat.ble (Nat.add len m) cap then
  .look src.q (some id) (fun a=>DI g fun cells=>match jl cells (Nat.add off (Nat.mul len es)) (src.cs a) with
   |some cells'=>some ⟨fun _=>.ref id g off es (Nat.add len m) cap ex,some (.row g cells'),none⟩
   |none=>none)
 else bif ex then
  .look src.q (some id) (fun a=>DI g fun cells=>match cut cells off (Nat.mul len es) with
   |some cs=>some ⟨fun id=>.ref id 0 0 es (Nat.add len m) (Nat.add len m) false,none,some (.row 0 (cs++src.cs a))⟩
   |none=>none)
 else
  .look src.q (some id) (fun a=>DI g fun cells=>bif Nat.beq (Nat.add off (Nat.mul len es)) cells.length then
    some ⟨fun _=>.ref id (Nat.succ g) 0 es (Nat.add len m) (Nat.add len m) false,some (.row (Nat.succ g) (cells.drop off++src.cs a)),none⟩
   else none)
def BY (es bytes:Nat) (s x:AV):Option c9:=match js es x with
 |none=>none
 |some (m,src)=>bif Nat.beq m 0 then (bif IV s then some (lE s) else none) else
  match s with
  |.av=>bif Nat.ble (Nat.mul m bytes) most&&Nat.ble m most then
    some (.look src.q none fun a _=>some ⟨fun id=>.ref id 0 0 es m m false,none,some (.row 0 (src.cs a))⟩) else none
  |.ju cs n (some c)=>bif Nat.blt c (Nat.add n m)&&Nat.beq (Nat.mul n es) cs.length&&Nat.ble (Nat.mul (Nat.add n m) bytes) most&&Nat.ble (Nat.add n m) most then
    some (.look src.q none fun a _=>some ⟨fun id=>.ref id 0 0 es (Nat.add n m) (Nat.add n m) false,none,some (.row 0 (cs++src.cs a))⟩) else none
  |.ref id g off es' len cap ex=>bif Nat.beq es' es&&Nat.ble (Nat.mul (Nat.add len m) bytes) most&&Nat.ble (Nat.add len m) most then
    some (GA es id g off len cap ex m src) else none
  |_=>none
def KX (es:Nat) (d s:AV):Option c9:=match js es s with
 |none=>none
 |some (m,src)=>match d with
  |.av=>some (lE (.int .i64 0))
  |.ref id g off es' len _ _=>bif Nat.beq es' es then
    some (.look src.q (some id) fun a=>DI g fun cells=>match first (src.cs a) (Nat.mul (min m len) es) with
     |some cs=>match jl cells off cs with
      |some cells'=>some ⟨fun _=>.int .i64 (min m len),some (.row g cells'),none⟩
      |none=>none
     |none=>none) else none
  |_=>none
def LM (es:Nat) (ρ:b_->AV) (x:AV) (lo hi mx:Option b_):Option AV:=match x with
 |.av=>match xy ρ lo hi mx 0 0 with
  |none=>none
  |some _=>some .av
 |.ju cs n cap=>bif Nat.beq (Nat.mul n es) cs.length then match xy ρ lo hi mx n n with
  |none=>none
  |some (l,h,m)=>match cut cs (Nat.mul l es) (Nat.mul (Nat.sub h l) es) with
   |some cs'=>some (.ju cs' (Nat.sub h l) (match mx with|some _=>some (Nat.sub m l)|none=>match cap with|some c=>some (Nat.sub c l)|none=>none))
   |none=>none
  else none
 |.ref id g off es' len cap ex=>bif Nat.beq es' es then match xy ρ lo hi mx len cap with
  |none=>none
  |some (l,h,m)=>some (.ref id g (Nat.add off (Nat.mul l es)) es (Nat.sub h l) (Nat.sub m l) (match mx with|some _=>true|none=>ex))
  else none
 |_=>none
def T8 (t:Lz) (k:AV) (es:List (AV×AV)):Nat->Option (Option (Nat×AV)):=
 List.rec (motive:=fun _=>Nat->Option (Option (Nat×AV))) (fun _=>some none)
  (fun p _ ih i=>match Sg t k p.1 with
   |none=>none
   |some true=>some (some (i,p.2))
   |some false=>ih (Nat.succ i)) es
def gH (sz:Option Nat):Nat:=match sz with|none=>1|some n=>n
section
variable (ρ:b_->AV)
def CT (c a b:b_):Option c9:=match ρ c with
 |.bool t=>match t with
  |true=>some (lE (ρ a))
  |false=>some (lE (ρ b))
 |_=>none
def J9 (x:b_):Option c9:=match (ρ x).cells? with
 |some cs=>some (QE (fun id=>.ptr id 0 0) (.row 0 cs))
 |none=>none
def zu (zero:List AV) (parts:List (Nat×Nat×b_)):Option c9:=match fill ρ parts zero with
 |some cs=>some (lE (.agg cs))
 |none=>none
def xd (es len:Nat) (zero:List AV) (parts:List (Nat×Nat×b_)):Option c9:=match fill ρ parts zero with
 |some cs=>some (QE (fun id=>.ref id 0 0 es len len false) (.row 0 cs))
 |none=>none
def ko (len:Nat) (zero:List AV) (parts:List (Nat×Nat×b_)):Option c9:=match fill ρ parts zero with
 |some cs=>bif gE AV.flat cs then some (lE (.ju cs len (some len))) else none
 |none=>none
def xb (sz:Option Nat) (a:b_):Option c9:=match ρ a with
 |.ptr id g off=>some (.look (some ⟨id,g,off,gH sz⟩) none fun cs _=>match Mb sz cs with|some v=>some ⟨fun _=>v,none,none⟩|none=>none)
 |.qc cs off=>match cut cs off (gH sz) with
  |some cs=>lR (Mb sz cs)
  |none=>none
 |_=>none
def xm (sz:Nat) (a x:b_):Option c9:=match ρ a with
 |.ptr id g off=>match (ρ x).cells? with
  |some cs=>bif Nat.beq cs.length sz then
    some (.look none (some id) fun _=>DI g fun cells=>match jl cells off cs with
     |some cells'=>some ⟨fun _=>kr,some (.row g cells'),none⟩
     |none=>none) else none
  |none=>none
 |_=>none
def uw (x:b_):Option c9:=match ρ x with
 |.ptr id g off=>some (lE (.ptr id g off))
 |.qc cs off=>some (lE (.qc cs off))
 |.func f=>some (lE (.func f))
 |_=>none
def Qr (t:Lz) (neg:Bool) (x y:b_):Option c9:=match Sg t (ρ x) (ρ y) with
 |some b=>some (lE (.bool (match neg with|true=>!b|false=>b)))
 |none=>none
def Er (k:IntKind) (x:b_):Option c9:=match ρ x with
 |.int _ n=>some (lE (.int k (wj k n)))
 |_=>none
def Ep (es bytes:Nat) (zero:List AV) (n:b_):Option c9:=match ρ n with
 |.int k m=>match Si m most with
  |some m=>bif Rq k .i64&&Nat.ble (Nat.mul m bytes) most then some (QE (fun id=>.ref id 0 0 es m m false) (.row 0 (rows m zero))) else none
  |none=>none
 |_=>none
def AM (x:b_) (lo hi:Option b_):Option c9:=match ρ x with
 |.str s=>match xy ρ lo hi none s.size s.size with
  |none=>none
  |some (l,h,_)=>some (lE (.str (s.extract l h)))
 |_=>none
def xp (n es:Nat) (x:b_) (lo hi mx:Option b_):Option c9:=match ρ x with
 |.ptr id g off=>match xy ρ lo hi mx n n with
  |none=>none
  |some (l,h,m)=>some (.look (some ⟨id,g,off,Nat.mul n es⟩) none fun _ _=>some ⟨fun _=>.ref id g (Nat.add off (Nat.mul l es)) es (Nat.sub h l) (Nat.sub m l) true,none,none⟩)
 |_=>none
def s6 (off:Nat) (x:b_):Option c9:=match ρ x with
 |.ptr id g o=>some (lE (.ptr id g (Nat.add o off)))
 |.qc cs o=>some (lE (.qc cs (Nat.add o off)))
 |_=>none
def J7 (off:Nat) (sz:Option Nat) (x:b_):Option c9:=match ρ x with
 |.agg cs=>match cut cs off (gH sz) with
  |some cs=>lR (Mb sz cs)
  |none=>none
 |_=>none
def ux (es:Nat) (x i:b_):Option c9:=match ρ i with
 |.int _ i=>match ρ x with
  |.ju cs n _=>match Se i n with
   |some i=>match cs with
    |[]=>none
    |_::_=>some (lE (.qc cs (Nat.mul i es)))
   |none=>none
  |.ref id g off es' len _ _=>bif Nat.beq es' es then match Se i len with
   |some i=>some (lE (.ptr id g (Nat.add off (Nat.mul i es))))
   |none=>none
   else none
  |_=>none
 |_=>none
def AO (len es:Nat) (x i:b_):Option c9:=match ρ i with
 |.int _ i=>match Se i len with
  |some i=>match ρ x with
   |.ptr id g o=>some (lE (.ptr id g (Nat.add o (Nat.mul i es))))
   |.qc cs o=>some (lE (.qc cs (Nat.add o (Nat.mul i es))))
   |_=>none
  |none=>none
 |_=>none
def J6 (x i:b_):Option c9:=match ρ x with
 |.str s=>match ρ i with
  |.int _ (.ofNat i)=>match s[i]? with
   |some b=>some (lE (.int .u8 b.toNat))
   |none=>none
  |_=>none
 |_=>none
def J8 (i:Nat) (x:b_):Option c9:=match ρ x with
 |.qo vs=>lR vs[i]?
 |_=>none
def SR (es:Nat) (zero:List AV) (x:b_):Option c9:=match ρ x with
 |.av=>some (lE kr)
 |.ref id g off es' len _ _=>bif Nat.beq es' es then
   some (.look none (some id) fun _=>DI g fun cells=>match jl cells off (rows len zero) with
    |some cells'=>some ⟨fun _=>kr,some (.row g cells'),none⟩
    |none=>none) else none
 |_=>none
def xq (str:Bool) (x:b_):Option c9:=match str with
 |true=>match ρ x with
  |.str s=>some (lE (.int .i64 s.size))
  |_=>none
 |false=>match ρ x with
  |.av=>some (lE (.int .i64 0))
  |.ju _ n _=>some (lE (.int .i64 n))
  |.ref _ _ _ _ len _ _=>some (lE (.int .i64 len))
  |_=>none
def IK (mx:Bool) (xs:List b_):Option c9:=match xs.map ρ with
 |v::vs=>lR (WY mx v vs)
 |[]=>none
def U5 (k:List (AV×AV)->Option Out):Option oz->Option Out
 |some (.map es)=>k es
 |_=>none
def Qq (t:Lz) (zero:AV) (ok:Bool) (m k:b_):Option c9:=bif (ρ k).QX then none else match ρ m with
 |.Am id=>some (.look none (some id) fun _=>U5 fun es=>match T8 t (ρ k) es 0 with
  |none=>none
  |some none=>some ⟨fun _=>match ok with|true=>.qo [zero,.bool false]|false=>zero,none,none⟩
  |some (some (_,v))=>some ⟨fun _=>match ok with|true=>.qo [v,.bool true]|false=>v,none,none⟩)
 |_=>none
def TZ (t:Lz) (m k v:b_):Option c9:=bif (ρ k).QX||(ρ v).QX then none else match ρ m with
 |.Am id=>some (.look none (some id) fun _=>U5 fun es=>match T8 t (ρ k) es 0 with
  |none=>none
  |some none=>some ⟨fun _=>kr,some (.map (es++[(ρ k,ρ v)])),none⟩
  |some (some (i,_))=>some ⟨fun _=>kr,some (.map (es.set i (ρ k,ρ v))),none⟩)
 |_=>none
def T0 (m:b_):Option c9:=match ρ m with
 |.Am id=>some (.look none (some id) fun _=>U5 fun es=>some ⟨fun _=>.int .i64 es.length,none,none⟩)
 |_=>none
end
inductive OpK where
 |plan (p:(b_->AV)->Option c9)
 |call (f:Nat) (args:List b_) (m:Mode)
 |lA (f:b_) (args:List b_) (m:Mode)
def kind (op:mj):OpK:=match op with
 |.mv x=>.plan fun ρ=>some (lE (ρ x))
 |.pick c a b=>.plan fun ρ=>CT ρ c a b
 |.alloc zero=>.plan fun _=>some (QE (fun id=>.ptr id 0 0) (.row 0 zero))
 |.box x=>.plan fun ρ=>J9 ρ x
 |.build zero parts=>.plan fun ρ=>zu ρ zero parts
 |.tj es len zero parts=>.plan fun ρ=>xd ρ es len zero parts
 |.bx len zero parts=>.plan fun ρ=>ko ρ len zero parts
 |.load sz a=>.plan fun ρ=>xb ρ sz a
 |.store sz a x=>.plan fun ρ=>xm ρ sz a x
 |.xj x=>.plan fun ρ=>uw ρ x
 |.bin op x y=>.plan fun ρ=>lR (Ld op (ρ x) (ρ y))
 |.eq t neg x y=>.plan fun ρ=>Qr ρ t neg x y
 |.un op x=>.plan fun ρ=>lR (Um op (ρ x))
 |.conv k x=>.plan fun ρ=>Er ρ k x
 |.Al es bytes zero n=>.plan fun ρ=>Ep ρ es bytes zero n
 |.tn x lo hi=>.plan fun ρ=>AM ρ x lo hi
 |.zm es x lo hi mx=>.plan fun ρ=>lR (LM es ρ (ρ x) lo hi mx)
 |.nw n es x lo hi mx=>.plan fun ρ=>xp ρ n es x lo hi mx
 |.vl off x=>.plan fun ρ=>s6 ρ off x
 |.Nz off sz x=>.plan fun ρ=>J7 ρ off sz x
 |.jv es x i=>.plan fun ρ=>ux ρ es x i
 |.oD len es x i=>.plan fun ρ=>AO ρ len es x i
 |.idx x i=>.plan fun ρ=>J6 ρ x i
 |.ext i x=>.plan fun ρ=>J8 ρ i x
 |.app es bytes s x=>.plan fun ρ=>BY es bytes (ρ s) (ρ x)
 |.Lw es d s=>.plan fun ρ=>KX es (ρ d) (ρ s)
 |.Ty es zero x=>.plan fun ρ=>SR ρ es zero x
 |.len str x=>.plan fun ρ=>xq ρ str x
 |.GL mx xs=>.plan fun ρ=>IK ρ mx xs
 |.B9=>.plan fun _=>some (QE (fun id=>.Am id) (.map []))
 |.B8 t zero ok m k=>.plan fun ρ=>Qq ρ t zero ok m k
 |.IP t m k v=>.plan fun ρ=>TZ ρ t m k v
 |.GW m=>.plan fun ρ=>T0 ρ m
 |.call f args m=>.call f args m
 |.lA f args m=>.lA f args m
def jg (H:ck):Option Lm->Option (List AV)
 |none=>some []
 |some r=>match H.get r.id with
  |some (.row g cells)=>bif Nat.beq g r.g then cut cells r.off r.len else none
  |_=>none
def qx (H:ck):Option Nat->Option (Option oz)
 |none=>some none
 |some id=>match H.get id with
  |some o=>some (some o)
  |none=>none
def DE (H:ck) (u:Option Nat) (ob:Option oz):ck:=match ob with
 |none=>H
 |some ob=>match u with
  |some id=>H.put (some ob) id
  |none=>H
def lY (q:Option Lm) (u:Option Nat) (k:List AV->Option oz->Option Out) (H:ck) (nx:Nat):Option (AV×ck×Nat):=match jg H q with
 |none=>none
 |some a=>match qx H u with
  |none=>none
  |some o=>match k a o with
   |none=>none
   |some out=>match out.new with
    |some ob=>some (out.val nx,(DE H u out.obj).put (some ob) nx,Nat.succ nx)
    |none=>some (out.val nx,DE H u out.obj,nx)
def gG (p:c9) (H:ck) (nx:Nat):Option (AV×ck×Nat):=match p with
 |.val v=>some (v,H,nx)
 |.new f o=>some (f nx,H.put (some o) nx,Nat.succ nx)
 |.look q u k=>lY q u k H nx
def ev (e:Env):b_->AV
 |.t n=>match e.get n with|some v=>v|none=>kr
 |.c v=>v
def mj.g_:mj->List b_
 |.mv x|.box x|.load _ x|.xj x|.un _ x|.conv _ x|.Al _ _ _ x|.vl _ x|.Nz _ _ x|.ext _ x|.Ty _ _ x|.len _ x|.GW x=>[x]
 |.pick c a b=>[c,a,b]
 |.alloc _|.B9=>[]
 |.build _ ps|.tj _ _ _ ps|.bx _ _ ps=>ps.map (·.2.2)
 |.store _ a x|.bin _ a x|.eq _ _ a x|.jv _ a x|.oD _ _ a x|.idx a x|.app _ _ a x|.Lw _ a x|.B8 _ _ _ a x=>[a,x]
 |.tn x l h=>x::(l.toList++h.toList)
 |.zm _ x l h m|.nw _ _ x l h m=>x::(l.toList++h.toList++m.toList)
 |.IP _ m k v=>[m,k,v]
 |.GL _ as=>as
 |.call _ as _=>as
 |.lA f as _=>f::as
def drop (H:ck):List Nat->ck
 |[]=>H
 |id::rest=>drop (H.put none id) rest
abbrev qn:=Nat->List AV->ck->Nat->Option (AV×ck×Nat)
def m9 (r:Option (AV×ck×Nat)) (must:Bool):Option AV:=match r with
 |none=>none
 |some (r,Hc,_)=>bif must then (bif own deep Hc r then dh deep Hc r else none) else (bif r.plain then some r else dh deep Hc r)
def gL (cf:qn) (f:Nat) (args:List AV) (m:Mode) (H:ck) (nx:Nat):Option (AV×ck×Nat):=match m with
 |.share=>cf f args H nx
 |.borrow=>bif gE AV.plain args then
   match m9 (cf f args .leaf 0) false with
   |some r=>some (r,H,nx)
   |none=>none
  else match lX (dh deep H) args with
   |none=>none
   |some as=>match m9 (cf f as .leaf 0) true with
    |some r=>some (r,H,nx)
    |none=>none
def qj (cf:qn) (op:mj) (ρ:b_->AV) (H:ck) (nx:Nat):Option (AV×ck×Nat):=match kind op with
 |.plan p=>match p ρ with
  |some p=>gG p H nx
  |none=>none
 |.call f args m=>gL cf f (args.map ρ) m H nx
 |.lA f args m=>match ρ f with
  |.func g=>gL cf g (args.map ρ) m H nx
  |_=>none
def Cw (H:ck) (ρ:b_->AV) (x:b_):AV:=match dh deep H (ρ x) with
 |some v=>v
 |none=>ρ x
def Ao (cf:qn) (o:br) (ρ:b_->AV) (H:ck) (nx:Nat):Option (AV×ck×Nat):=
 bif o.fz then match o.op with
  |.bx len zero parts=>match lX (dh deep H) (parts.map fun p=>ρ p.2.2) with
   |none=>none
   |some _=>match ko (Cw H ρ) len zero parts with
    |some (.val v)=>some (v,drop H ((parts.map fun p=>ρ p.2.2).flatMap (fh deep H)),nx)
    |_=>none
  |_=>none
 else qj cf o.op ρ H nx
structure St where
 env:Env
 H:ck
 nx:Nat
def wanted (e:Env):Option (Nat×Bool)->Bool
 |none=>true
 |some (g,b)=>match e.get g with
  |some (.bool b')=>b' == b
  |_=>false
def DK (nt:Nat) (e:Env) (d:Option Nat) (v:AV):Option Env:=match d with
 |none=>some e
 |some d=>bif Nat.blt d nt then some (e.put (some v) d) else none
def ql (cf:qn) (nt:Nat) (o:br) (st:St):Option St:=
 bif wanted st.env o.gd then
  match Ao cf o (ev st.env) st.H st.nx with
  |none=>none
  |some (v,H,nx)=>match DK nt st.env o.dst v with
   |some e=>some ⟨e,H,nx⟩
   |none=>none
 else match DK nt st.env o.dst kr with
  |some e=>some ⟨e,st.H,st.nx⟩
  |none=>none
def pg (cf:qn) (nt:Nat) (l:List br):St->Option St:=
 List.rec (motive:=fun _=>St->Option St) (fun st=>some st)
  (fun o _ ih st=>match ql cf nt o st with
   |some st=>ih st
   |none=>none) l
mutual
def tf:AV->AV->Bool
 |.bool a,.bool b=>a == b
 |.int k a,.int k' b=>Rq k k'&&nk a b
 |.str a,.str b=>decide (a=b)
 |.BS,.BS=>true
 |.av,.av=>true
 |.ptr a b c,.ptr a' b' c'=>Nat.beq a a'&&Nat.beq b b'&&Nat.beq c c'
 |.qc cs o,.qc cs' o'=>A9 cs cs'&&Nat.beq o o'
 |.ju cs n c,.ju cs' n' c'=>A9 cs cs'&&Nat.beq n n'&&decide (c=c')
 |.ref a b c d e f x,.ref a' b' c' d' e' f' x'=>Nat.beq a a'&&Nat.beq b b'&&Nat.beq c c'&&Nat.beq d d'&&Nat.beq e e'&&Nat.beq f f'&&x == x'
 |.agg cs,.agg cs'=>A9 cs cs'
 |.qo cs,.qo cs'=>A9 cs cs'
 |.func f,.func f'=>Nat.beq f f'
 |.Am f,.Am f'=>Nat.beq f f'
 |_,_=>false
def A9:List AV->List AV->Bool
 |[],[]=>true
 |x::xs,y::ys=>tf x y&&A9 xs ys
 |_,_=>false
end
inductive Rd where
 |CA (r:Lm)
 |obj (id:Nat)
 |all
inductive WH where
 |ids (l:List Nat)
 |all
structure Rec where
 jt:List Rd
 gQ:WH
 H0:ck
 H1:ck
 Kh:Nat
 Dw:Nat
def c9.jt:c9->List Rd
 |.look q u _=>(match q with|some r=>[.CA r]|none=>[])++(match u with|some id=>[.obj id]|none=>[])
 |_=>[]
def c9.gQ:c9->List Nat
 |.look _ u _=>(match u with|some id=>[id]|none=>[])
 |_=>[]
abbrev Eff:=AV×ck×Nat×List Rd×WH
def je (cf:qn) (n0:Nat) (f:Nat) (args:List AV) (m:Mode) (H:ck) (nx:Nat):Option Eff:=match m with
 |.share=>match cf f args (H.upto fun i=>Nat.blt i n0) nx with
  |some (v,H',nx')=>some (v,(H'.upto fun i=>Nat.blt i n0||(Nat.ble nx i&&Nat.blt i nx')).union (H.upto fun i=>!(Nat.blt i n0||(Nat.ble nx i&&Nat.blt i nx'))),nx',[.all],.all)
  |none=>none
 |.borrow=>bif gE AV.plain args then
   match gL cf f args .borrow H nx with
   |some (v,_,_)=>some (v,H,nx,[],.ids [])
   |none=>none
  else match gL cf f args .borrow (H.upto fun i=>Nat.blt i n0) nx with
   |some (v,_,_)=>some (v,H,nx,[.all],.ids [])
   |none=>none
def Bb (cf:qn) (n0:Nat) (op:mj) (ρ:b_->AV) (H:ck) (nx:Nat):Option Eff:=match kind op with
 |.plan p=>match p ρ with
  |some p=>match gG p H nx with
   |some (v,H',nx')=>some (v,H',nx',p.jt,.ids p.gQ)
   |none=>none
  |none=>none
 |.call f args m=>je cf n0 f (args.map ρ) m H nx
 |.lA f args m=>match ρ f with
  |.func g=>je cf n0 g (args.map ρ) m H nx
  |_=>none
def oR (cf:qn) (n0:Nat) (o:br) (ρ:b_->AV) (H:ck) (nx:Nat):Option Eff:=
 bif o.fz then match o.op with
  |.bx len zero parts=>match lX (dh deep H) (parts.map fun p=>ρ p.2.2) with
   |none=>none
   |some _=>match ko (Cw H ρ) len zero parts with
    |some (.val v)=>some (v,drop H ((parts.map fun p=>ρ p.2.2).flatMap (fh deep H)),nx,((parts.map fun p=>ρ p.2.2).flatMap (fh deep H)).map Rd.obj,.ids ((parts.map fun p=>ρ p.2.2).flatMap (fh deep H)))
    |_=>none
  |_=>none
 else Bb cf n0 o.op ρ H nx
def gv (cf:qn) (nt n0:Nat) (o:br) (st:St):Option (St×Rec):=
 bif wanted st.env o.gd then
  match oR cf n0 o (ev st.env) st.H st.nx with
  |none=>none
  |some (v,H,nx,jt,gQ)=>match DK nt st.env o.dst v with
   |none=>none
   |some e=>some (⟨e,H,nx⟩,⟨jt,gQ,st.H,H,st.nx,nx⟩)
 else match DK nt st.env o.dst kr with
  |none=>none
  |some e=>some (⟨e,st.H,st.nx⟩,⟨[],.ids [],st.H,st.H,st.nx,st.nx⟩)
def lJ (cf:qn) (nt n0:Nat):List br->St->Option (St×List Rec)
 |[],st=>some (st,[])
 |o::rest,st=>match gv cf nt n0 o st with
  |none=>none
  |some (st1,r)=>match lJ cf nt n0 rest st1 with
   |none=>none
   |some (st',l)=>some (st',r::l)
def Hf (A B C:ck) (r:Lm):Bool:=match jg A (some r),jg B (some r),jg C (some r) with
 |some x,some y,some z=>A9 x z&&A9 y z
 |_,_,_=>false
def sx (a b:Rec):Rd->Bool
 |.CA r=>match a.gQ with
  |.ids l=>bif l.contains r.id then Hf a.H0 a.H1 b.H0 r else true
  |.all=>Hf a.H0 a.H1 b.H0 r
 |.obj id=>match a.gQ with
  |.ids l=>!l.contains id
  |.all=>false
 |.all=>match a.gQ with
  |.ids []=>true
  |_=>false
def still (a b:Rec):Bool:=gE (sx a b) b.jt
def apart (a b:Rec):Bool:=match a.gQ,b.gQ with
 |.ids l,.ids l'=>l.all fun x=>!l'.contains x
 |.all,.ids []=>true
 |.ids [],.all=>true
 |_,_=>false
def uv (rs:List Rec) (p:Nat×Nat):Bool:=match rs[p.1]?,rs[p.2]? with
 |some a,some b=>still a b&&still b a&&apart a b
 |_,_=>false
def Kz (n0:Nat) (rs:List Rec) (ahead:List Nat) (id:Nat):Bool:=
 Nat.blt id n0||ahead.any fun i=>match rs[i]? with|some a=>Nat.ble a.Kh id&&Nat.blt id a.Dw|none=>false
def Qj (n0:Nat) (rs:List Rec) (ahead:List Nat):Rd->Bool
 |.CA x=>Kz n0 rs ahead x.id
 |.obj id=>Kz n0 rs ahead id
 |.all=>true
def G7 (n0:Nat) (rs:List Rec) (ahead:List Nat):WH->Bool
 |.ids l=>l.all (Kz n0 rs ahead)
 |.all=>true
def vg (n0:Nat) (rs:List Rec):List (List Nat)->List Rec->Bool
 |a::as,r::rest=>r.jt.all (Qj n0 rs a)&&G7 n0 rs a r.gQ&&vg n0 rs as rest
 |[],[]=>true
 |_,_=>false
def lI (cf:qn) (nt:Nat) (ops:List br) (ahead:List (List Nat)) (pairs:List (Nat×Nat)) (st:St):Option St:=
 match lJ cf nt st.nx ops st with
 |none=>none
 |some (st',rs)=>bif vg st.nx rs ahead rs&&gE (uv rs) pairs then some st' else none
inductive gX where
 |normal
 |exit (id:Nat)
 |ret
abbrev oa:=Nat->lF->St->Option (gX×St)
def d_ (ex:oa) (cf:qn) (nt:Nat) (c:lF) (st:St):Option (gX×St):=match c with
 |.skip=>some (.normal,st)
 |.er ops=>match pg cf nt ops st with
  |some st=>some (.normal,st)
  |none=>none
 |.dz ops ahead pairs=>match lI cf nt ops ahead pairs st with
  |some st=>some (.normal,st)
  |none=>none
 |.seq a b=>match ex nt a st with
  |some (.normal,st)=>ex nt b st
  |r=>r
 |.cond c a b=>match ev st.env c with
  |.bool true=>ex nt a st
  |.bool false=>ex nt b st
  |_=>none
 |.block id c=>match ex nt c st with
  |some (.exit i,st)=>bif Nat.beq i id then some (.normal,st) else some (.exit i,st)
  |r=>r
 |.loop c=>match ex nt c st with
  |some (.normal,st)=>ex nt (.loop c) st
  |r=>r
 |.exit id=>some (.exit id,st)
 |.ret=>some (.ret,st)
def jj:List AV->Nat->Env->Env
 |[],_,e=>e
 |v::vs,i,e=>jj vs (i+1) (e.put (some v) i)
def oc (e:Env) (H:ck):wh->Option AV
 |.tmp t=>some (ev e (.t t))
 |.cell t sz=>match ev e (.t t) with
  |.ptr id g off=>match jg H (some ⟨id,g,off,gH sz⟩) with
   |some cs=>Mb sz cs
   |none=>none
  |_=>none
def zn (l:List wh) (st:St):Option (AV×ck×Nat):=match lX (oc st.env st.H) l with
 |some [v]=>some (v,st.H,st.nx)
 |some vs=>some (.qo vs,st.H,st.nx)
 |none=>none
def ta (prog:Map ay) (ex:oa):qn:=fun f args H nx=>match prog.get f with
 |none=>none
 |some af=>bif Nat.beq args.length af.params then
   match ex af.nt af.body ⟨jj args 0 .leaf,H,nx⟩ with
   |some (.normal,st)=>zn af.res st
   |some (.ret,st)=>zn af.res st
   |_=>none
  else none
structure Sems where
 code:oa
 fn:qn
def interp (prog:Map ay) (k:Nat):Sems:=
 Nat.rec (motive:=fun _=>Sems) ⟨fun _ _ _=>none,fun _ _ _ _=>none⟩ (fun _ p=>⟨d_ p.code p.fn,ta prog p.code⟩) k
end Go.Ax
namespace Go.Ax
theorem Gx {α:Sort _} (c:Bool) (a b:α):(Bool.rec a b c:α)=if c=true then b else a:=by cases c<;>rfl
namespace Map
variable {α:Type}
theorem A4 (i:Nat):(leaf:Map α).get i=none:=rfl
theorem ia (v:Option α) (l r:Map α) (i:Nat):(node v l r).get i=if i=0 then v else if i % 2=1 then l.get (i / 2) else r.get (i / 2 - 1):=by show (Bool.rec (Bool.rec (r.get (i / 2 - 1)) (l.get (i / 2)) (Nat.beq (i % 2) 1)) v (Nat.beq i 0):Option α)=_;simp only [Gx,qqE]
theorem Qw (v:Option α) (f i:Nat):one v (f+1) i=if i=0 then .node v .leaf .leaf else if i % 2=1 then .node none (one v f (i / 2)) .leaf else .node none .leaf (one v f (i / 2 - 1)):=by show (Bool.rec (Bool.rec (.node none .leaf (one v f (i / 2 - 1))) (.node none (one v f (i / 2)) .leaf) (Nat.beq (i % 2) 1)) (.node v .leaf .leaf) (Nat.beq i 0):Map α)=_;simp only [Gx,qqE]
theorem Ql (v:Option α) (i:Nat):put v leaf i=one v (i+1) i:=rfl
theorem Qk (w v:Option α) (l r:Map α) (i:Nat):put w (node v l r) i=if i=0 then .node w l r else if i % 2=1 then .node v (put w l (i / 2)) r else .node v l (put w r (i / 2 - 1)):=by show (Bool.rec (Bool.rec (.node v l (put w r (i / 2 - 1))) (.node v (put w l (i / 2)) r) (Nat.beq (i % 2) 1)) (.node w l r) (Nat.beq i 0):Map α)=_;simp only [Gx,qqE]
theorem Tc (v:Option α):∀(f i j:Nat),i < f->(one v f i).get j=if j=i then v else none:=by
 intro f
 induction f with
 |zero=>intro i j h;omega
 |succ f ih=>
  intro i j h;rw [Qw];by_cases h0:i=0
  ·subst h0;simp only [if_true,ia,A4];split<;>simp_all
  ·rw [if_neg h0];by_cases h1:i % 2=1
   ·rw [if_pos h1,ia,ih _ _ (by omega)];by_cases hj:j=0
    ·subst hj;rw [if_pos rfl,if_neg (by omega)]
    ·rw [if_neg hj];by_cases hj1:j % 2=1
     ·rw [if_pos hj1];by_cases e:j=i
      ·subst e;simp
      ·rw [if_neg (by omega),if_neg e]
     ·rw [if_neg hj1,A4,if_neg (by rintro rfl;exact hj1 h1)]
   ·rw [if_neg h1,ia,ih _ _ (by omega)];by_cases hj:j=0
    ·subst hj;rw [if_pos rfl,if_neg (by omega)]
    ·rw [if_neg hj];by_cases hj1:j % 2=1
     ·rw [if_pos hj1,A4,if_neg (by rintro rfl;exact h1 hj1)]
     ·rw [if_neg hj1];by_cases e:j=i
      ·subst e;simp
      ·rw [if_neg (by omega),if_neg e]
theorem bk (w:Option α) (m:Map α):∀(i j:Nat),(put w m i).get j=if j=i then w else m.get j:=by
 induction m with
 |leaf=>intro i j;rw [Ql,Tc _ _ _ _ (by omega),A4]
 |node v l r ihl ihr=>
  intro i j;rw [Qk];by_cases h0:i=0
  ·subst h0;rw [if_pos rfl,ia,ia];split<;>rfl
  ·rw [if_neg h0];by_cases h1:i % 2=1
   ·rw [if_pos h1,ia,ia,ihl];by_cases hj:j=0
    ·subst hj;rw [if_pos rfl,if_neg (by omega),if_pos rfl]
    ·rw [if_neg hj,if_neg hj];by_cases hj1:j % 2=1
     ·rw [if_pos hj1,if_pos hj1];by_cases e:j=i
      ·subst e;simp
      ·rw [if_neg (by omega),if_neg e]
     ·rw [if_neg hj1,if_neg hj1,if_neg (by rintro rfl;exact hj1 h1)]
   ·rw [if_neg h1,ia,ia,ihr];by_cases hj:j=0
    ·subst hj;rw [if_pos rfl,if_neg (by omega),if_pos rfl]
    ·rw [if_neg hj,if_neg hj];by_cases hj1:j % 2=1
     ·rw [if_pos hj1,if_pos hj1,if_neg (by rintro rfl;exact h1 hj1)]
     ·rw [if_neg hj1,if_neg hj1];by_cases e:j=i
      ·subst e;simp
      ·rw [if_neg (by omega),if_neg e]
theorem qd (m:Map α):∀(p:Nat->Bool) (i:Nat),(m.upto p).get i=if p i=true then m.get i else none:=by
 induction m with
 |leaf=>intro p i;show none=_;rw [A4];split<;>rfl
 |node v l r ihl ihr=>
  intro p i;show (node _ (l.upto _) (r.upto _)).get i=_;rw [ia,ia,ihl,ihr,Gx];by_cases h0:i=0
  ·subst h0;simp
  ·rw [if_neg h0,if_neg h0];by_cases h1:i % 2=1
   ·rw [if_pos h1,if_pos h1];have e:Nat.succ (Nat.mul 2 (i / 2))=i:=by simp only [Nat.succ_eq_add_one,Nat.mul_eq];omega
    rw [e]
   ·rw [if_neg h1,if_neg h1];have e:Nat.succ (Nat.succ (Nat.mul 2 (i / 2 - 1)))=i:=by simp only [Nat.succ_eq_add_one,Nat.mul_eq];omega
    rw [e]
theorem HU (a:Map α):∀(b:Map α) (i:Nat),(a.union b).get i=match a.get i with|some x=>some x|none=>b.get i:=by
 induction a with
 |leaf=>intro b i;rfl
 |node v l r ihl ihr=>
  intro b i;cases b with
  |leaf=>show (node v l r).get i=_;cases (node v l r).get i<;>rfl
  |node v' l' r'=>
   show (node _ (l.union l') (r.union r')).get i=_;rw [ia,ia,ia,ihl,ihr];by_cases h0:i=0
   ·simp only [if_pos h0];try (cases v<;>rfl)
   ·simp only [if_neg h0];by_cases h1:i % 2=1
    ·simp only [if_pos h1]
    ·simp only [if_neg h1]
end Map
theorem cj {α:Type} {f:α->Bool} {l:List α}:gE f l=true↔∀x∈l,f x=true:=by
 induction l with
 |nil=>exact⟨fun _ _ h=>(by cases h),fun _=>rfl⟩
 |cons x l ih=>
  show (Bool.rec false (gE f l) (f x):Bool)=true↔_;rw [Gx];split
  ·rename_i h;rw [ih];simp [h]
  ·rename_i h;simp [h]
theorem iq {α β:Type} (f:α->Option β) (x:α) (l:List α):lX f (x::l)=match f x with|none=>none|some y=>match lX f l with|none=>none|some ys=>some (y::ys):=rfl
theorem QF {α β:Type} (f:α->Option β):lX f []=some []:=rfl
theorem qu {α β:Type} {f:α->Option β} {l:List α} {r:List β} (h:lX f l=some r):l.length=r.length/\∀(j:Nat) (x:α),l[j]?=some x->∃y,r[j]?=some y/\f x=some y:=by
 induction l generalizing r with
 |nil=>rw [QF] at h;cases h;exact⟨rfl,fun j x hx=>by simp at hx⟩
 |cons a l ih=>
  rw [iq] at h;cases ha:f a with
  |none=>rw [ha] at h;cases h
  |some y=>
   rw [ha] at h;cases hl:lX f l with
   |none=>rw [hl] at h;cases h
   |some ys=>
    rw [hl] at h;cases h;obtain⟨h1,h2⟩:=ih hl;refine⟨by simp [h1],fun j x hx=>?_⟩;cases j with
    |zero=>simp at hx;subst hx;exact⟨y,rfl,ha⟩
    |succ j=>simpa using h2 j x (by simpa using hx)
theorem OJ (n:Nat):first [] n=if n=0 then some [] else none:=by show (Bool.rec _ _ _:Option (List AV))=_;simp only [Gx,qqE]
theorem Mv (x:AV) (l:List AV) (n:Nat):first (x::l) n=if n=0 then some [] else match first l (n - 1) with|some r=>some (x::r)|none=>none:=by show (Bool.rec (match first l (n - 1) with|some r=>some (x::r)|none=>none) (some []) (Nat.beq n 0):Option (List AV))=_;simp only [Gx,qqE]
theorem Dd (cells:List AV):∀n,first cells n=if n<=cells.length then some (cells.take n) else none:=by
 induction cells with
 |nil=>intro n;rw [OJ];cases n<;>simp
 |cons x l ih=>
  intro n;rw [Mv,ih];cases n with
  |zero=>simp
  |succ n=>simp only [Nat.add_one_ne_zero,if_false,Nat.add_sub_cancel,qqr,Nat.add_le_add_iff_right];by_cases h:n<=l.length<;>simp [h]
theorem Tw (off n:Nat):cut [] off n=if off=0 then first [] n else none:=by show (Bool.rec _ _ _:Option (List AV))=_;simp only [Gx,qqE]
theorem RE (x:AV) (l:List AV) (off n:Nat):cut (x::l) off n=if off=0 then first (x::l) n else cut l (off - 1) n:=by show (Bool.rec (cut l (off - 1) n) (first (x::l) n) (Nat.beq off 0):Option (List AV))=_;simp only [Gx,qqE]
theorem jf (cells:List AV):∀off n,cut cells off n=if off+n<=cells.length then some ((cells.drop off).take n) else none:=by
 induction cells with
 |nil=>intro off n;rw [Tw,Dd];cases off<;>simp
 |cons x l ih=>
  intro off n;rw [RE,ih,Dd];cases off with
  |zero=>simp
  |succ off=>simp only [Nat.add_one_ne_zero,if_false,Nat.add_sub_cancel,qqr,List.drop_succ_cons];simp only [Nat.add_right_comm off 1 n,Nat.add_le_add_iff_right]
theorem qg {cells cs:List AV} {off n:Nat} (h:cut cells off n=some cs):off+n<=cells.length/\cs=(cells.drop off).take n:=by
 rw [jf] at h;split at h
 ·rename_i hl;exact⟨hl,by injection h with h;exact h.symm⟩
 ·cases h
theorem Ja {cells cs:List AV} {off n:Nat} (h:cut cells off n=some cs):cs.length=n/\∀j,j < n->cs[j]?=cells[off+j]?:=by obtain⟨hl,rfl⟩:=qg h;refine⟨by simp;omega,fun j hj=>by rw [List.getElem?_take_of_lt hj,qqh]⟩
theorem Ou (cells:List AV):CV [] cells=some cells:=rfl
theorem L6 (y:AV) (cs:List AV):∀cells,CV (y::cs) cells=match cells with|[]=>none|_::xs=>match CV cs xs with|some l=>some (y::l)|none=>none:=fun _=>rfl
theorem Kb (cs:List AV):∀cells,CV cs cells=if cs.length<=cells.length then some (cs++cells.drop cs.length) else none:=by
 induction cs with
 |nil=>intro cells;simp [Ou]
 |cons y cs ih=>
  intro cells;rw [L6];cases cells with
  |nil=>simp
  |cons x xs=>simp only [ih,qqr,Nat.add_le_add_iff_right,List.drop_succ_cons,List.cons_append];by_cases h:cs.length<=xs.length<;>simp [h]
theorem FP (off:Nat) (cs:List AV):jl [] off cs=if off=0 then CV cs [] else none:=by show (Bool.rec _ _ _:Option (List AV))=_;simp only [Gx,qqE]
theorem Ot (x:AV) (l:List AV) (off:Nat) (cs:List AV):jl (x::l) off cs=if off=0 then CV cs (x::l) else match jl l (off - 1) cs with|some r=>some (x::r)|none=>none:=by show (Bool.rec (match jl l (off - 1) cs with|some r=>some (x::r)|none=>none) (CV cs (x::l)) (Nat.beq off 0):Option (List AV))=_;simp only [Gx,qqE]
theorem rj (cells:List AV):∀off cs,jl cells off cs=if off+cs.length<=cells.length then some (cells.take off++cs++cells.drop (off+cs.length)) else none:=by
 induction cells with
 |nil=>intro off cs;rw [FP,Kb];cases off<;>simp
 |cons x l ih=>
  intro off cs;rw [Ot,ih,Kb];cases off with
  |zero=>simp
  |succ off=>simp only [Nat.add_one_ne_zero,if_false,Nat.add_sub_cancel,qqr,List.take_succ_cons,Nat.add_right_comm off 1 cs.length,Nat.add_le_add_iff_right,List.drop_succ_cons];by_cases h:off+cs.length<=l.length<;>simp [h]
theorem jq {cells cells' cs:List AV} {off:Nat} (h:jl cells off cs=some cells'):off+cs.length<=cells.length/\cells'=cells.take off++cs++cells.drop (off+cs.length):=by
 rw [rj] at h;split at h
 ·rename_i hl;exact⟨hl,by injection h with h;exact h.symm⟩
 ·cases h
theorem lK {cells cells' cs:List AV} {off:Nat} (h:jl cells off cs=some cells'):cells'.length=cells.length/\∀j,cells'[j]?=if off<=j/\j < off+cs.length then cs[j - off]? else cells[j]?:=by
 obtain⟨hl,rfl⟩:=jq h;refine⟨by simp;omega,fun j=>?_⟩;by_cases h1:j < off
 ·rw [qqc (by simp;omega),qqc (by simp;omega),List.getElem?_take_of_lt h1,if_neg (by omega)]
 ·by_cases h2:j < off+cs.length
  ·rw [qqc (by simp;omega),qqd (by simp;omega),if_pos ⟨by omega,h2⟩];congr 1;simp;omega
  ·rw [qqd (by simp;omega),if_neg (by omega),qqh];congr 1;simp;omega
theorem D5 {a b:IntKind} (h:Rq a b=true):a=b:=by cases a<;>cases b<;>first|rfl|cases h
theorem Tl (a b:IntKind):Rq a b=decide (a=b):=by cases a<;>cases b<;>rfl
theorem RQ (a b:Nat):Nat.blt a b=decide (a < b):=by rw [Bool.eq_iff_iff];simp [qqG]
theorem AR (x y:Int):n8 x y=decide (x < y):=by
 cases x<;>cases y<;>simp only [n8,RQ]<;>first
  |(congr 1;simp only [Int.ofNat_eq_natCast,eq_iff_iff];omega)
  |(symm;rw [qqH];simp only [Int.ofNat_eq_natCast];omega)
  |(symm;rw [qqJ];simp only [Int.ofNat_eq_natCast];omega)
theorem D6 (x y:Int):nk x y=decide (x=y):=by
 cases x<;>cases y<;>simp only [nk]<;>first
  |(rw [Bool.eq_iff_iff,qqE,qqH];simp only [Int.ofNat_eq_natCast];omega)
  |(rw [Bool.eq_iff_iff,qqE,qqH,Int.negSucc.injEq])
  |(symm;rw [qqJ];simp only [Int.ofNat_eq_natCast];omega)
theorem C8 {i:Int} {n m:Nat} (h:Se i n=some m):i=(m:Int)/\m < n:=by
 cases i with
 |ofNat k=>
  simp only [Se,RQ,cond_eq_ite,qqH] at h;split at h
  ·cases h;exact⟨rfl,by assumption⟩
  ·cases h
 |negSucc k=>cases h
theorem Dr {i:Int} {n m:Nat} (h:Si i n=some m):i=(m:Int)/\m<=n:=by
 cases i with
 |ofNat k=>
  simp only [Si,cond_eq_ite,qqF] at h;split at h
  ·cases h;exact⟨rfl,by assumption⟩
  ·cases h
 |negSucc k=>cases h
theorem CC (k:IntKind) (n:Int):wj k n=k.wrap n:=by
 unfold wj;rw [cond_eq_ite];split
 ·rename_i h;cases k<;>cases n<;>simp only [WZ,RQ,qqH] at h<;>simp only [IntKind.wrap,IntKind.bits,IntKind.signed,Int.ofNat_eq_natCast]<;>simp<;>omega
 ·rfl
end Go.Ax
end
