/- Part 11 of the proof: LqQb. -/
import Derived.Test.YtamgnhdbeecapaaCq6
import Derived.Test.YtamgnhdbeecapaaCq10
set_option linter.unusedSimpArgs false
set_option linter.unusedVariables false
noncomputable section
set_option maxRecDepth 100000
namespace Go.Ax.dR
open Go Go.Ax Go.Ax.V
abbrev zI (n:Int):AV:=.int .i64 n
abbrev zN (n:Nat):AV:=.int .i64 (.ofNat n)
def GK:List AV:=[zI 0,zI 0,zI 0,.ak]
def EX:List AV:=[zI 1,zI 1,zI 0,.ak]
def GJ:List AV:=[zI 2,zI 0,zI 0,.ak]
def EY:List AV:=zI 0::(GK++GK)
def Ix (a b k:Int) (e c:List AV):List AV:=[zI a,zI b,zI k,zI 0,zI 0,zI 0]++(e++c)
def NC:List AV:=Ix 0 2 2 GK (zI 1::(EX++EX))++Ix 0 1 2 GK (zI 2::(EX++EX))
def Lt (k:Nat):AV:=.b6 [zI 0,zN k,zI 0,zI 1,zI 1,.ak] 1 none
def Ls:AV:=.b6 [zI 4,.b6 (NC++(Ix 2 3 6 GK EY++Ix 3 0 3 GJ EY)) 4 none,.b6 [zI 0] 1 none,zI 4,.b6 (NC++(Ix 2 3 4 GK EY++Ix 3 0 0 GK EY)) 4 none,.b6 [zI 0] 1 none] 2 none
def Lr:AV:=.b6 [zI 1,zI 1] 2 none
def sA (k:Nat):AV:=.agg [Lt k,Ls,Lr]
def PE (q:List Int):List AV:=List.rec (motive:=fun _=>List AV) [] (fun v _ l=>zI 0::zI v::l) q
def PM:Nat->AV
 |0=>.ak
 |1=>.b6 [] 0 none
 |_=>.b6 [] 0 (some 0)
def nE:Nat->Nat
 |0=>0
 |_=>2
def OI (e:Nat) (q:List Int):AV:=match q with
 |[]=>PM e
 |v::r=>.b6 (PE (v::r)) (List.length (v::r)) none
def Kh (x y:Int):AV:=.b6 [zI x,zI y] 2 none
def ID (a b:Int):AV:=.b6 [.b6 [zI a] 1 none,.b6 [zI b] 1 none] 2 none
def Ih (e:Nat) (q:List Int):AV:=.b6 [OI e q] 1 none
def Kg:AV:=.b6 [zI 0] 1 none
def cA (e:Nat) (x y a b:Int) (q:List Int):AV:=.agg [Kh x y,ID a b,Ih e q,Kg]
def pA (p n:Int):AV:=.agg [zI p,.bool false,zI n]
def dA (t:Bool):AV:=.agg [.bool t,zI 0,zI 0,zI 0]
def wI (n:Int):Int:=cG .i64 (cG .i32 n)
def sk (n m:Nat):Nat:=Nat.rec (motive:=fun _=>Nat) m (fun _ i=>Nat.succ i) n
theorem I3 (n m:Nat):sk n m=n+m:=by
 induction n with
 |zero=>exact(Nat.zero_add m).symm
 |succ n ih=>show Nat.succ (sk n m)=_;rw [ih];omega
def HC (v:Int):TV:=.a [.i .i64 0,.i .i64 v]
theorem GB:∀(e:Nat) (q:List Int),e<=2->q.length<=16->∀(_:Unit),pQ 20 (Ih e q)=true
 |0,[],_,_=>fun _=>by kernel_rfl
 |1,[],_,_=>fun _=>by kernel_rfl
 |2,[],_,_=>fun _=>by kernel_rfl
 |e+3,[],h,_=>by omega
 |e,[v0],_,_=>fun _=>by kernel_rfl
 |e,[v0,v1],_,_=>fun _=>by kernel_rfl
 |e,[v0,v1,v2],_,_=>fun _=>by kernel_rfl
 |e,[v0,v1,v2,v3],_,_=>fun _=>by kernel_rfl
 |e,[v0,v1,v2,v3,v4],_,_=>fun _=>by kernel_rfl
 |e,[v0,v1,v2,v3,v4,v5],_,_=>fun _=>by kernel_rfl
 |e,[v0,v1,v2,v3,v4,v5,v6],_,_=>fun _=>by kernel_rfl
 |e,[v0,v1,v2,v3,v4,v5,v6,v7],_,_=>fun _=>by kernel_rfl
 |e,[v0,v1,v2,v3,v4,v5,v6,v7,v8],_,_=>fun _=>by kernel_rfl
 |e,[v0,v1,v2,v3,v4,v5,v6,v7,v8,v9],_,_=>fun _=>by kernel_rfl
 |e,[v0,v1,v2,v3,v4,v5,v6,v7,v8,v9,v10],_,_=>fun _=>by kernel_rfl
 |e,[v0,v1,v2,v3,v4,v5,v6,v7,v8,v9,v10,v11],_,_=>fun _=>by kernel_rfl
 |e,[v0,v1,v2,v3,v4,v5,v6,v7,v8,v9,v10,v11,v12],_,_=>fun _=>by kernel_rfl
 |e,[v0,v1,v2,v3,v4,v5,v6,v7,v8,v9,v10,v11,v12,v13],_,_=>fun _=>by kernel_rfl
 |e,[v0,v1,v2,v3,v4,v5,v6,v7,v8,v9,v10,v11,v12,v13,v14],_,_=>fun _=>by kernel_rfl
 |e,[v0,v1,v2,v3,v4,v5,v6,v7,v8,v9,v10,v11,v12,v13,v14,v15],_,_=>fun _=>by kernel_rfl
 |e,_::_::_::_::_::_::_::_::_::_::_::_::_::_::_::_::_::q,_,h=>by simp at h<;>omega
theorem NK:∀(e:Nat) (q:List Int),e<=2->q.length<=16->∀(_:Unit),B9 20 (Ih e q)=.l [.l (q.map HC)]
 |0,[],_,_=>fun _=>by kernel_rfl
 |1,[],_,_=>fun _=>by kernel_rfl
 |2,[],_,_=>fun _=>by kernel_rfl
 |e+3,[],h,_=>by omega
 |e,[v0],_,_=>fun _=>by kernel_rfl
 |e,[v0,v1],_,_=>fun _=>by kernel_rfl
 |e,[v0,v1,v2],_,_=>fun _=>by kernel_rfl
 |e,[v0,v1,v2,v3],_,_=>fun _=>by kernel_rfl
 |e,[v0,v1,v2,v3,v4],_,_=>fun _=>by kernel_rfl
 |e,[v0,v1,v2,v3,v4,v5],_,_=>fun _=>by kernel_rfl
 |e,[v0,v1,v2,v3,v4,v5,v6],_,_=>fun _=>by kernel_rfl
 |e,[v0,v1,v2,v3,v4,v5,v6,v7],_,_=>fun _=>by kernel_rfl
 |e,[v0,v1,v2,v3,v4,v5,v6,v7,v8],_,_=>fun _=>by kernel_rfl
 |e,[v0,v1,v2,v3,v4,v5,v6,v7,v8,v9],_,_=>fun _=>by kernel_rfl
 |e,[v0,v1,v2,v3,v4,v5,v6,v7,v8,v9,v10],_,_=>fun _=>by kernel_rfl
 |e,[v0,v1,v2,v3,v4,v5,v6,v7,v8,v9,v10,v11],_,_=>fun _=>by kernel_rfl
 |e,[v0,v1,v2,v3,v4,v5,v6,v7,v8,v9,v10,v11,v12],_,_=>fun _=>by kernel_rfl
 |e,[v0,v1,v2,v3,v4,v5,v6,v7,v8,v9,v10,v11,v12,v13],_,_=>fun _=>by kernel_rfl
 |e,[v0,v1,v2,v3,v4,v5,v6,v7,v8,v9,v10,v11,v12,v13,v14],_,_=>fun _=>by kernel_rfl
 |e,[v0,v1,v2,v3,v4,v5,v6,v7,v8,v9,v10,v11,v12,v13,v14,v15],_,_=>fun _=>by kernel_rfl
 |e,_::_::_::_::_::_::_::_::_::_::_::_::_::_::_::_::_::q,_,h=>by simp at h<;>omega
theorem Jv:fQ prog 1000 53 [sA (Nat.succ 0)]=some (.bool true):=by kernel_rfl
theorem Ju:fQ prog 1000 53 [sA (Nat.succ 1)]=some (.bool true):=by kernel_rfl
theorem Jt:fQ prog 1000 53 [sA (Nat.succ 2)]=some (.bool true):=by kernel_rfl
theorem Js:fQ prog 1000 53 [sA (Nat.succ 3)]=some (.bool true):=by kernel_rfl
theorem Jr:fQ prog 1000 53 [sA (Nat.succ 4)]=some (.bool true):=by kernel_rfl
theorem Jq:fQ prog 1000 53 [sA (Nat.succ 5)]=some (.bool true):=by kernel_rfl
theorem Jp:fQ prog 1000 53 [sA (Nat.succ 6)]=some (.bool true):=by kernel_rfl
theorem Jo:fQ prog 1000 53 [sA (Nat.succ 7)]=some (.bool true):=by kernel_rfl
theorem Jn:fQ prog 1000 53 [sA (Nat.succ 8)]=some (.bool true):=by kernel_rfl
theorem Jm:fQ prog 1000 53 [sA (Nat.succ 9)]=some (.bool true):=by kernel_rfl
theorem Hs:fQ prog 1000 53 [sA (Nat.succ 10)]=some (.bool true):=by kernel_rfl
theorem Hr:fQ prog 1000 53 [sA (Nat.succ 11)]=some (.bool true):=by kernel_rfl
theorem Hq:fQ prog 1000 53 [sA (Nat.succ 12)]=some (.bool true):=by kernel_rfl
theorem Hp:fQ prog 1000 53 [sA (Nat.succ 13)]=some (.bool true):=by kernel_rfl
theorem Ho:fQ prog 1000 53 [sA (Nat.succ 14)]=some (.bool true):=by kernel_rfl
theorem Hl:fQ prog 1000 53 [sA (Nat.succ 15)]=some (.bool true):=by kernel_rfl
theorem PC:∀(j:Nat),j<=15->fQ prog 1000 53 [sA (Nat.succ j)]=some (.bool true)
 |0,_=>Jv
 |1,_=>Ju
 |2,_=>Jt
 |3,_=>Js
 |4,_=>Jr
 |5,_=>Jq
 |6,_=>Jp
 |7,_=>Jo
 |8,_=>Jn
 |9,_=>Jm
 |10,_=>Hs
 |11,_=>Hr
 |12,_=>Hq
 |13,_=>Hp
 |14,_=>Ho
 |15,_=>Hl
 |j+16,h=>by omega
end Go.Ax.dR
end
