/- Part 10 of the proof: LyLa, LyYb, LyYd, LyYe, LyYf, LyYc. -/
import Derived.Test.YtamgnhdbeecapaaCy6
import Derived.Test.YtamgnhdbeecapaaCy7
import Derived.Test.YtamgnhdbeecapaaCy9
set_option linter.unusedSimpArgs false
set_option linter.unusedVariables false
noncomputable section
set_option maxRecDepth 100000
namespace Go.Ax.eB
open Go Go.Ax Go.Ax.V
theorem EX {f:Nat} {ts:List TV} {c:TV} (h:VS prog f ts (fun r=>r=c)):VS prog f ts (fun r'=>r'=c/\qf true c):=h.mono fun r hr=>⟨hr,trivial⟩
theorem Fj {s0 s1 s2 c0 c1 c2 c3:TV} (h53:VS prog 53 [.a [s0,s1,s2]] (fun r=>r=.b true)) (h54:VS prog 54 [.a [s0,s1,s2],.a [c0,c1,c2,c3]] (fun r=>r=.b true)):VS prog 22 [.a [s0,s1,s2],.a [c0,c1,c2,c3]] (fun r=>r=.b true):=by refine Hs _ _ _ ?_;unfold JR;exact⟨rfl,rfl,_,rfl,tK h53 (dD rfl rfl (dD rfl rfl (dD rfl (EX h54) ⟨_,rfl,trivial,trivial,rfl⟩)))⟩
theorem Fi {s0 s1 s2 c0 c1 c2 c3 p0 p1 p2 e0 e1 e2 e3 d0 d1 d2 d3:TV} (h22:VS prog 22 [.a [s0,s1,s2],.a [c0,c1,c2,c3]] (fun r=>r=.b true))
  (h73:VS prog 73 [.a [s0,s1,s2],.a [c0,c1,c2,c3],.a [p0,p1,p2]] (fun r=>r=.tp [.a [e0,e1,e2,e3],.a [d0,d1,d2,d3]])):VS prog 52 [.a [s0,s1,s2],.a [c0,c1,c2,c3],.a [p0,p1,p2]] (fun r=>r=.tp [.a [e0,e1,e2,e3],.a [d0,d1,d2,d3],.i .i64 0]):=by
 refine Hr _ _ _ _ ?_;unfold JQ;exact⟨rfl,rfl,rfl,_,rfl,_,rfl,tK h22 ⟨_,rfl,gJ rfl ⟨_,rfl,_,rfl,_,rfl,tK h73 ⟨_,rfl,_,rfl,_,rfl,_,rfl,_,rfl,_,rfl,_,rfl,_,rfl,trivial,_,rfl,_,rfl,⟨rfl,rfl,rfl,trivial⟩,rfl⟩⟩⟩⟩
end Go.Ax.eB
set_option maxRecDepth 100000
namespace Go.Ax.eB
open Go Go.Ax Go.Ax.V
abbrev zI (n:Int):AV:=.int .i64 n
abbrev zN (n:Nat):AV:=.int .i64 (.ofNat n)
def ET:List AV:=[zI 0,zI 0,zI 0,.ak]
def BV:List AV:=[zI 1,zI 1,zI 0,.ak]
def Hp:List AV:=[zI 2,zI 0,zI 0,.ak]
def ES:List AV:=zI 0::(ET++ET)
def G3 (a b k:Int) (e c:List AV):List AV:=[zI a,zI b,zI k,zI 0,zI 0,zI 0]++(e++c)
def He (k:Nat):AV:=.bO [zI 2,zN k,zI 0,zI 1,zI 1,.bO [.bO [zI 1] 1 none,.bO [zI 0] 1 none] 2 none] 1 none
def G_:AV:=.bO [zI 3,.bO (G3 0 2 2 ET (zI 1::(BV++BV))++(G3 0 1 2 ET (zI 2::(BV++BV))++G3 2 0 3 Hp ES)) 3 none,.bO [zI 0] 1 none,zI 2,.bO (G3 0 1 0 ET ES) 1 none,.ak] 2 none
def G9:AV:=.bO [zI 1,zI 0] 2 none
def sA (k:Nat):AV:=.agg [He k,G_,G9]
def msgs (n:Nat):List AV:=Nat.rec (motive:=fun _=>List AV) [] (fun _ l=>zI 0::zI 0::l) n
def JX (n:Nat):AV:=match n with
 |0=>.ak
 |n+1=>.bO (msgs (n+1)) (n+1) none
def Hl (p:Nat):AV:=.bO [zN p,zI 0] 2 none
def Hj (b:Bool):AV:=.bO [.bO [zI 0] 1 none,.bO [] 0 (match b with|true=>none|false=>some 0)] 2 none
def Ew (n:Nat):AV:=.bO [JX n] 1 none
def FY (st:Nat):AV:=.bO [zN st] 1 none
def cA (b:Bool) (p n st:Nat):AV:=.agg [Hl p,Hj b,Ew n,FY st]
def pA (l:Bool):AV:=.agg [zI 0,.bool l,zI 0]
def dA:AV:=.agg [.bool true,zI 0,zI 0,zI 0]
def sk (n m:Nat):Nat:=Nat.rec (motive:=fun _=>Nat) m (fun _ i=>Nat.succ i) n
theorem zv (n m:Nat):sk n m=n+m:=by
 induction n with
 |zero=>exact(Nat.zero_add m).symm
 |succ n ih=>show Nat.succ (sk n m)=_;rw [ih];omega
theorem KN:∀(n:Nat),n<=15->gL prog 1000 53 [sA (Nat.succ n)]=some (.bool true)
 |0,_=>by kernel_rfl
 |1,_=>by kernel_rfl
 |2,_=>by kernel_rfl
 |3,_=>by kernel_rfl
 |4,_=>by kernel_rfl
 |5,_=>by kernel_rfl
 |6,_=>by kernel_rfl
 |7,_=>by kernel_rfl
 |8,_=>by kernel_rfl
 |9,_=>by kernel_rfl
 |10,_=>by kernel_rfl
 |11,_=>by kernel_rfl
 |12,_=>by kernel_rfl
 |13,_=>by kernel_rfl
 |14,_=>by kernel_rfl
 |15,_=>by kernel_rfl
 |n+16,h=>by omega
end Go.Ax.eB
set_option maxRecDepth 100000
namespace Go.Ax.eB
open Go Go.Ax Go.Ax.V
theorem i54 (m:Nat):gL prog 1000 54 [sA (Nat.succ m),cA true 0 0 0]=some (.bool true):=by kernel_rfl
theorem i0 (k:Nat) (l:Bool):gL prog 1000 73 [sA k,cA true 0 0 0,pA l]=some (.dc [cA false 2 0 0,dA]):=by kernel_rfl
theorem IL:∀(n:Nat),n<=16->∀(k:Nat) (l:Bool),gL prog 1000 73 [sA k,cA false 0 n 0,pA l]=some (.dc [cA false 2 n 0,dA])
 |0,_=>fun k l=>by kernel_rfl
 |1,_=>fun k l=>by kernel_rfl
 |2,_=>fun k l=>by kernel_rfl
 |3,_=>fun k l=>by kernel_rfl
 |4,_=>fun k l=>by kernel_rfl
 |5,_=>fun k l=>by kernel_rfl
 |6,_=>fun k l=>by kernel_rfl
 |7,_=>fun k l=>by kernel_rfl
 |8,_=>fun k l=>by kernel_rfl
 |9,_=>fun k l=>by kernel_rfl
 |10,_=>fun k l=>by kernel_rfl
 |11,_=>fun k l=>by kernel_rfl
 |12,_=>fun k l=>by kernel_rfl
 |13,_=>fun k l=>by kernel_rfl
 |14,_=>fun k l=>by kernel_rfl
 |15,_=>fun k l=>by kernel_rfl
 |16,_=>fun k l=>by kernel_rfl
 |n+17,h=>by omega
theorem IK:∀(n:Nat),n<=16->∀(k:Nat) (l:Bool),gL prog 1000 73 [sA k,cA false 0 n 1,pA l]=some (.dc [cA false 2 n 1,dA])
 |0,_=>fun k l=>by kernel_rfl
 |1,_=>fun k l=>by kernel_rfl
 |2,_=>fun k l=>by kernel_rfl
 |3,_=>fun k l=>by kernel_rfl
 |4,_=>fun k l=>by kernel_rfl
 |5,_=>fun k l=>by kernel_rfl
 |6,_=>fun k l=>by kernel_rfl
 |7,_=>fun k l=>by kernel_rfl
 |8,_=>fun k l=>by kernel_rfl
 |9,_=>fun k l=>by kernel_rfl
 |10,_=>fun k l=>by kernel_rfl
 |11,_=>fun k l=>by kernel_rfl
 |12,_=>fun k l=>by kernel_rfl
 |13,_=>fun k l=>by kernel_rfl
 |14,_=>fun k l=>by kernel_rfl
 |15,_=>fun k l=>by kernel_rfl
 |16,_=>fun k l=>by kernel_rfl
 |n+17,h=>by omega
theorem DR:∀(n:Nat),n<=16->∀(m:Nat),gL prog 1000 54 [sA (sk n m),cA false 0 n 0]=some (.bool true)
 |0,_=>fun m=>by kernel_rfl
 |1,_=>fun m=>by kernel_rfl
 |2,_=>fun m=>by kernel_rfl
 |3,_=>fun m=>by kernel_rfl
 |4,_=>fun m=>by kernel_rfl
 |5,_=>fun m=>by kernel_rfl
 |6,_=>fun m=>by kernel_rfl
 |7,_=>fun m=>by kernel_rfl
 |8,_=>fun m=>by kernel_rfl
 |9,_=>fun m=>by kernel_rfl
 |10,_=>fun m=>by kernel_rfl
 |11,_=>fun m=>by kernel_rfl
 |12,_=>fun m=>by kernel_rfl
 |13,_=>fun m=>by kernel_rfl
 |14,_=>fun m=>by kernel_rfl
 |15,_=>fun m=>by kernel_rfl
 |16,_=>fun m=>by kernel_rfl
 |n+17,h=>by omega
theorem DQ:∀(n:Nat),n<=16->∀(m:Nat),gL prog 1000 54 [sA (sk n m),cA false 0 n 1]=some (.bool true)
 |0,_=>fun m=>by kernel_rfl
 |1,_=>fun m=>by kernel_rfl
 |2,_=>fun m=>by kernel_rfl
 |3,_=>fun m=>by kernel_rfl
 |4,_=>fun m=>by kernel_rfl
 |5,_=>fun m=>by kernel_rfl
 |6,_=>fun m=>by kernel_rfl
 |7,_=>fun m=>by kernel_rfl
 |8,_=>fun m=>by kernel_rfl
 |9,_=>fun m=>by kernel_rfl
 |10,_=>fun m=>by kernel_rfl
 |11,_=>fun m=>by kernel_rfl
 |12,_=>fun m=>by kernel_rfl
 |13,_=>fun m=>by kernel_rfl
 |14,_=>fun m=>by kernel_rfl
 |15,_=>fun m=>by kernel_rfl
 |16,_=>fun m=>by kernel_rfl
 |n+17,h=>by omega
theorem DP:∀(n:Nat),n<=16->∀(m:Nat),gL prog 1000 54 [sA (sk n m),cA false 2 n 0]=some (.bool true)
 |0,_=>fun m=>by kernel_rfl
 |1,_=>fun m=>by kernel_rfl
 |2,_=>fun m=>by kernel_rfl
 |3,_=>fun m=>by kernel_rfl
 |4,_=>fun m=>by kernel_rfl
 |5,_=>fun m=>by kernel_rfl
 |6,_=>fun m=>by kernel_rfl
 |7,_=>fun m=>by kernel_rfl
 |8,_=>fun m=>by kernel_rfl
 |9,_=>fun m=>by kernel_rfl
 |10,_=>fun m=>by kernel_rfl
 |11,_=>fun m=>by kernel_rfl
 |12,_=>fun m=>by kernel_rfl
 |13,_=>fun m=>by kernel_rfl
 |14,_=>fun m=>by kernel_rfl
 |15,_=>fun m=>by kernel_rfl
 |16,_=>fun m=>by kernel_rfl
 |n+17,h=>by omega
theorem DO:∀(n:Nat),n<=16->∀(m:Nat),gL prog 1000 54 [sA (sk n m),cA false 2 n 1]=some (.bool true)
 |0,_=>fun m=>by kernel_rfl
 |1,_=>fun m=>by kernel_rfl
 |2,_=>fun m=>by kernel_rfl
 |3,_=>fun m=>by kernel_rfl
 |4,_=>fun m=>by kernel_rfl
 |5,_=>fun m=>by kernel_rfl
 |6,_=>fun m=>by kernel_rfl
 |7,_=>fun m=>by kernel_rfl
 |8,_=>fun m=>by kernel_rfl
 |9,_=>fun m=>by kernel_rfl
 |10,_=>fun m=>by kernel_rfl
 |11,_=>fun m=>by kernel_rfl
 |12,_=>fun m=>by kernel_rfl
 |13,_=>fun m=>by kernel_rfl
 |14,_=>fun m=>by kernel_rfl
 |15,_=>fun m=>by kernel_rfl
 |16,_=>fun m=>by kernel_rfl
 |n+17,h=>by omega
end Go.Ax.eB
set_option maxRecDepth 100000
namespace Go.Ax.eB
open Go Go.Ax Go.Ax.V
theorem KQ:∀(n:Nat),n<=15->∀(m:Nat),gL prog 1000 73 [sA (sk (Nat.succ n) m),cA false 2 n 0,pA true]=some (.dc [cA false 0 n 1,dA])
 |0,_=>fun m=>by kernel_rfl
 |1,_=>fun m=>by kernel_rfl
 |2,_=>fun m=>by kernel_rfl
 |3,_=>fun m=>by kernel_rfl
 |4,_=>fun m=>by kernel_rfl
 |5,_=>fun m=>by kernel_rfl
 |6,_=>fun m=>by kernel_rfl
 |7,_=>fun m=>by kernel_rfl
 |8,_=>fun m=>by kernel_rfl
 |9,_=>fun m=>by kernel_rfl
 |10,_=>fun m=>by kernel_rfl
 |11,_=>fun m=>by kernel_rfl
 |12,_=>fun m=>by kernel_rfl
 |13,_=>fun m=>by kernel_rfl
 |14,_=>fun m=>by kernel_rfl
 |15,_=>fun m=>by kernel_rfl
 |n+16,h=>by omega
theorem KR:∀(n:Nat),n<=15->∀(m:Nat),gL prog 1000 73 [sA (sk (Nat.succ n) m),cA false 2 n 0,pA false]=some (.dc [cA false 0 (Nat.succ n) 1,dA])
 |0,_=>fun m=>by kernel_rfl
 |1,_=>fun m=>by kernel_rfl
 |2,_=>fun m=>by kernel_rfl
 |3,_=>fun m=>by kernel_rfl
 |4,_=>fun m=>by kernel_rfl
 |5,_=>fun m=>by kernel_rfl
 |6,_=>fun m=>by kernel_rfl
 |7,_=>fun m=>by kernel_rfl
 |8,_=>fun m=>by kernel_rfl
 |9,_=>fun m=>by kernel_rfl
 |10,_=>fun m=>by kernel_rfl
 |11,_=>fun m=>by kernel_rfl
 |12,_=>fun m=>by kernel_rfl
 |13,_=>fun m=>by kernel_rfl
 |14,_=>fun m=>by kernel_rfl
 |15,_=>fun m=>by kernel_rfl
 |n+16,h=>by omega
theorem f0:∀(n:Nat),n<=16->∀(l:Bool),gL prog 1000 73 [sA n,cA false 2 n 0,pA l]=some (.dc [cA false 0 n 1,dA])
 |0,_=>fun l=>by kernel_rfl
 |1,_=>fun l=>by kernel_rfl
 |2,_=>fun l=>by kernel_rfl
 |3,_=>fun l=>by kernel_rfl
 |4,_=>fun l=>by kernel_rfl
 |5,_=>fun l=>by kernel_rfl
 |6,_=>fun l=>by kernel_rfl
 |7,_=>fun l=>by kernel_rfl
 |8,_=>fun l=>by kernel_rfl
 |9,_=>fun l=>by kernel_rfl
 |10,_=>fun l=>by kernel_rfl
 |11,_=>fun l=>by kernel_rfl
 |12,_=>fun l=>by kernel_rfl
 |13,_=>fun l=>by kernel_rfl
 |14,_=>fun l=>by kernel_rfl
 |15,_=>fun l=>by kernel_rfl
 |16,_=>fun l=>by kernel_rfl
 |n+17,h=>by omega
theorem KO:∀(n:Nat),n<=15->∀(m:Nat),gL prog 1000 73 [sA (sk (Nat.succ n) m),cA false 2 n 1,pA true]=some (.dc [cA false 0 n 0,dA])
 |0,_=>fun m=>by kernel_rfl
 |1,_=>fun m=>by kernel_rfl
 |2,_=>fun m=>by kernel_rfl
 |3,_=>fun m=>by kernel_rfl
 |4,_=>fun m=>by kernel_rfl
 |5,_=>fun m=>by kernel_rfl
 |6,_=>fun m=>by kernel_rfl
 |7,_=>fun m=>by kernel_rfl
 |8,_=>fun m=>by kernel_rfl
 |9,_=>fun m=>by kernel_rfl
 |10,_=>fun m=>by kernel_rfl
 |11,_=>fun m=>by kernel_rfl
 |12,_=>fun m=>by kernel_rfl
 |13,_=>fun m=>by kernel_rfl
 |14,_=>fun m=>by kernel_rfl
 |15,_=>fun m=>by kernel_rfl
 |n+16,h=>by omega
theorem KP:∀(n:Nat),n<=15->∀(m:Nat),gL prog 1000 73 [sA (sk (Nat.succ n) m),cA false 2 n 1,pA false]=some (.dc [cA false 0 (Nat.succ n) 0,dA])
 |0,_=>fun m=>by kernel_rfl
 |1,_=>fun m=>by kernel_rfl
 |2,_=>fun m=>by kernel_rfl
 |3,_=>fun m=>by kernel_rfl
 |4,_=>fun m=>by kernel_rfl
 |5,_=>fun m=>by kernel_rfl
 |6,_=>fun m=>by kernel_rfl
 |7,_=>fun m=>by kernel_rfl
 |8,_=>fun m=>by kernel_rfl
 |9,_=>fun m=>by kernel_rfl
 |10,_=>fun m=>by kernel_rfl
 |11,_=>fun m=>by kernel_rfl
 |12,_=>fun m=>by kernel_rfl
 |13,_=>fun m=>by kernel_rfl
 |14,_=>fun m=>by kernel_rfl
 |15,_=>fun m=>by kernel_rfl
 |n+16,h=>by omega
theorem f1:∀(n:Nat),n<=16->∀(l:Bool),gL prog 1000 73 [sA n,cA false 2 n 1,pA l]=some (.dc [cA false 0 n 0,dA])
 |0,_=>fun l=>by kernel_rfl
 |1,_=>fun l=>by kernel_rfl
 |2,_=>fun l=>by kernel_rfl
 |3,_=>fun l=>by kernel_rfl
 |4,_=>fun l=>by kernel_rfl
 |5,_=>fun l=>by kernel_rfl
 |6,_=>fun l=>by kernel_rfl
 |7,_=>fun l=>by kernel_rfl
 |8,_=>fun l=>by kernel_rfl
 |9,_=>fun l=>by kernel_rfl
 |10,_=>fun l=>by kernel_rfl
 |11,_=>fun l=>by kernel_rfl
 |12,_=>fun l=>by kernel_rfl
 |13,_=>fun l=>by kernel_rfl
 |14,_=>fun l=>by kernel_rfl
 |15,_=>fun l=>by kernel_rfl
 |16,_=>fun l=>by kernel_rfl
 |n+17,h=>by omega
end Go.Ax.eB
set_option maxRecDepth 100000
namespace Go.Ax.eB
open Go Go.Ax Go.Ax.V
abbrev jj (n:Nat):TV:=.i .i64 (Int.ofNat n)
abbrev pn (x:AV):TV:=.nM x (B3 20 x)
def l6 (b:Bool) (p n st:Nat):TV:=.a [pn (Hl p),pn (Hj b),pn (Ew n),pn (FY st)]
def tO (k:Nat):TV:=.a [pn (He k),pn G_,pn G9]
def Jb (l:Bool):TV:=.a [.i .i64 0,.b l,.i .i64 0]
def FV:TV:=.a [.b true,.i .i64 0,.i .i64 0,.i .i64 0]
def Hi:TV:=.a [.i .i64 0,.i .i64 0]
theorem tq {ts:List TV} {bs:List AV} (h:ep ts bs) (hf:bs.all AV.flat=true):V.Can (.a ts) (.agg bs):=.a ts bs h.1 (fun x hx=>Ll.1 hf x hx) h.2
theorem k4 {x:AV} (hr:zO x=true) (hg:o_ 20 x=true):V.Can (pn x) x:=CW hr hg rfl
theorem FM:∀(n:Nat),n<=16->o_ 20 (Ew n)=true
 |0,_=>by kernel_rfl
 |1,_=>by kernel_rfl
 |2,_=>by kernel_rfl
 |3,_=>by kernel_rfl
 |4,_=>by kernel_rfl
 |5,_=>by kernel_rfl
 |6,_=>by kernel_rfl
 |7,_=>by kernel_rfl
 |8,_=>by kernel_rfl
 |9,_=>by kernel_rfl
 |10,_=>by kernel_rfl
 |11,_=>by kernel_rfl
 |12,_=>by kernel_rfl
 |13,_=>by kernel_rfl
 |14,_=>by kernel_rfl
 |15,_=>by kernel_rfl
 |16,_=>by kernel_rfl
 |n+17,h=>by omega
theorem JV:∀(n:Nat),n<=16->B3 20 (Ew n)=.l [.l (List.replicate n Hi)]
 |0,_=>by kernel_rfl
 |1,_=>by kernel_rfl
 |2,_=>by kernel_rfl
 |3,_=>by kernel_rfl
 |4,_=>by kernel_rfl
 |5,_=>by kernel_rfl
 |6,_=>by kernel_rfl
 |7,_=>by kernel_rfl
 |8,_=>by kernel_rfl
 |9,_=>by kernel_rfl
 |10,_=>by kernel_rfl
 |11,_=>by kernel_rfl
 |12,_=>by kernel_rfl
 |13,_=>by kernel_rfl
 |14,_=>by kernel_rfl
 |15,_=>by kernel_rfl
 |16,_=>by kernel_rfl
 |n+17,h=>by omega
theorem x_ (b:Bool) (p n st:Nat) (hn:n<=16):V.Can (l6 b p n st) (cA b p n st):=
 tq (bM (k4 rfl (by kernel_rfl)) (bM (k4 rfl (by cases b<;>kernel_rfl)) (bM (k4 rfl (FM n hn)) (bM (k4 rfl (by kernel_rfl)) gh)))) rfl
theorem CV (k:Nat):V.Can (tO k) (sA k):=tq (bM (k4 rfl (by kernel_rfl)) (bM (k4 rfl (by kernel_rfl)) (bM (k4 rfl (by kernel_rfl)) gh))) rfl
theorem Eu:V.Can FV dA:=tq (bM (.b _) (bM (.i _ _) (bM (.i _ _) (bM (.i _ _) gh)))) rfl
theorem ya (b:Bool) (p n st:Nat) (hn:n<=16):V.Can (.tp [l6 b p n st,FV]) (.dc [cA b p n st,dA]):=
 have h:ep [l6 b p n st,FV] [cA b p n st,dA]:=bM (x_ b p n st hn) (bM Eu gh)
 .tp _ _ h.1 (fun x hx=>by
  rcases Lh.1 hx with rfl|hx
  ·rfl
  ·rw [Lj.1 hx];rfl) h.2
def nx (k n:Nat) (l:Bool):Nat:=bif l then n else bif Nat.blt n k then n+1 else n
theorem EH {k:Nat} (h0:1<=k) (h1:k<=16):VS prog 53 [tO k] (fun r=>r=.b true):=by obtain⟨n,rfl⟩:∃n,k=n+1:=⟨k - 1,by omega⟩;exact n9 (k:=1000) (args:=[sA (n+1)]) rfl (KN n (by omega)) (.b true) rfl
theorem vA {k n st:Nat} {b l:Bool} (h0:1<=k) (h1:k<=16) (hn:n<=k) (hst:st < 2) (hb:b=true->n=0/\st=0):VS prog 52 [tO k,l6 b 0 n st,Jb l] (fun r=>r=.tp [l6 false 2 n st,FV,.i .i64 0]):=by
 refine Fi (Fj (EH h0 h1) ?_) ?_
 ·have key:gL prog 1000 54 [sA k,cA b 0 n st]=some (.bool true):=by
   cases b with
   |true=>obtain⟨rfl,rfl⟩:=hb rfl;obtain⟨m,rfl⟩:∃m,k=m+1:=⟨k - 1,by omega⟩;exact i54 m
   |false=>
    have e:sk n (k - n)=k:=by rw [zv];omega
    rcases(show st=0\/st=1 by omega) with rfl|rfl
    ·exact e▸DR n (by omega) (k - n)
    ·exact e▸DQ n (by omega) (k - n)
  exact n9 (k:=1000) (args:=[sA k,cA b 0 n st]) rfl key (.b true) rfl
 ·have key:gL prog 1000 73 [sA k,cA b 0 n st,pA l]=some (.dc [cA false 2 n st,dA]):=by
   cases b with
   |true=>obtain⟨rfl,rfl⟩:=hb rfl;exact i0 k l
   |false=>
    rcases(show st=0\/st=1 by omega) with rfl|rfl
    ·exact IL n (by omega) k l
    ·exact IK n (by omega) k l
  exact n9 (k:=1000) (args:=[sA k,cA b 0 n st,pA l]) rfl key (ya false 2 n st (by omega)) rfl
theorem vB {k n st:Nat} {l:Bool} (h0:1<=k) (h1:k<=16) (hn:n<=k) (hst:st < 2):VS prog 52 [tO k,l6 false 2 n st,Jb l] (fun r=>r=.tp [l6 false 0 (nx k n l) (1 - st),FV,.i .i64 0]):=by
 refine Fi (Fj (EH h0 h1) ?_) ?_
 ·have key:gL prog 1000 54 [sA k,cA false 2 n st]=some (.bool true):=by
   have e:sk n (k - n)=k:=by rw [zv];omega
   rcases(show st=0\/st=1 by omega) with rfl|rfl
   ·exact e▸DP n (by omega) (k - n)
   ·exact e▸DO n (by omega) (k - n)
  exact n9 (k:=1000) (args:=[sA k,cA false 2 n st]) rfl key (.b true) rfl
 ·have key:gL prog 1000 73 [sA k,cA false 2 n st,pA l]=some (.dc [cA false 0 (nx k n l) (1 - st),dA]):=by
   by_cases hf:n=k
   ·subst hf;have e:nx n n l=n:=by
     unfold nx;have:Nat.blt n n=false:=by cases h:Nat.blt n n with|false=>rfl|true=>have:=Ls.mp h;omega
     rw [this];cases l<;>rfl
    rw [e];rcases(show st=0\/st=1 by omega) with rfl|rfl
    ·exact f0 n (by omega) l
    ·exact f1 n (by omega) l
   ·have e:sk (Nat.succ n) (k - (n+1))=k:=by rw [zv];omega
    have hlt:Nat.blt n k=true:=Ls.mpr (by omega);have e1:nx k n l=bif l then n else n+1:=by unfold nx;rw [hlt];cases l<;>rfl
    rw [e1];rcases(show st=0\/st=1 by omega) with rfl|rfl<;>cases l
    ·exact e▸KR n (by omega) (k - (n+1))
    ·exact e▸KQ n (by omega) (k - (n+1))
    ·exact e▸KP n (by omega) (k - (n+1))
    ·exact e▸KO n (by omega) (k - (n+1))
  have hle:nx k n l<=16:=by
   unfold nx;cases l with
   |true=>simp only [cond_true];omega
   |false=>
    simp only [cond_false];cases h:Nat.blt n k with
    |true=>have:=Ls.mp h;simp only [cond_true];omega
    |false=>simp only [cond_false];omega
  exact n9 (k:=1000) (args:=[sA k,cA false 2 n st,pA l]) rfl key (ya false 0 (nx k n l) (1 - st) hle) rfl
theorem xE (a b:Int):eN .lss (.i .i64 a) (.i .i64 b)=some (.b (wB a b)):=rfl
theorem Cw {i n:Nat} (h:wB (i:Int) (n:Int)=true):i < n:=by rw [oS] at h;simpa using h
theorem FP {i n:Nat} (h:wB (i:Int) (n:Int)=false):n<=i:=by rw [oS] at h;simpa using h
theorem pY {i:Nat} (hi:i < 4611686018427387904):eN .add (jj i) (.i .i64 1)=some (jj (i+1)):=by have:=F0 (a:=(i:Int)) (b:=1) (by omega) (by omega);exact this
theorem q9 {a b:Nat} (h:a=b):eN .neq (jj a) (jj b)=some (.b false):=by subst h;show some (TV.b (!yT a a))=_;rw [I0 rfl];rfl
theorem A6 {n:Nat} (hn:n<=16):o8 (B3 20 (Ew n)) (.i .i64 0)=some (.l (List.replicate n Hi)):=by rw [JV n hn];rfl
theorem A5 (st:Nat):o8 (B3 20 (FY st)) (.i .i64 0)=some (jj st):=by kernel_rfl
theorem AP (n:Nat):AQ (.l (List.replicate n Hi))=some (jj n):=by show some (TV.i .i64 ((List.replicate n Hi).length:Int))=_;rw [List.length_replicate];rfl
theorem zU (i:Nat):eN .rem (jj (i+1)) (.i .i64 2)=some (jj (1 - i % 2)):=by
 have h:=Fp (k:=.i64) (a:=((i+1:Nat):Int)) (b:=2) (by decide);have e:((i+1:Nat):Int).tmod 2=((1 - i % 2:Nat):Int):=by rw [Int.tmod_eq_emod_of_nonneg (by omega)];omega
 rw [e] at h;exact h
def ph (k:Nat) (b:Bool) (n st:Nat) (l:Bool):Nat->TV
 |0=>l6 b 0 n st
 |1=>l6 false 2 n st
 |_=>l6 false 0 (nx k n l) (1 - st)
theorem nY {k:Nat} (h0:1<=k) (h1:k<=16) (bs:List Bool):CZ (tO k) (l6 true 0 0 0) (.l (bs.map TV.b)) (jj k) (jj 0) (fun r=>r=.b true):=by
 unfold CZ;refine⟨fun m o4 o5 x6 x7 x8 x9=>∃(i n:Nat) (b:Bool),m=40 - i/\i<=40/\n<=k/\(b=true->n=0/\i % 2=0)/\o4=tO k/\o5=l6 b 0 n (i % 2)/\x6=.l (bs.map TV.b)/\x7=jj k/\x8=jj n/\x9=jj i,
  ⟨40,0,0,true,rfl,by omega,by omega,fun _=>⟨rfl,rfl⟩,rfl,rfl,rfl,rfl,rfl,rfl⟩,?_⟩
 rintro m o4 o5 x6 x7 x8 x9 ⟨i,n,b,rfl,hi,hn,hb,rfl,rfl,rfl,rfl,rfl,rfl⟩;have hml:(bs.map TV.b).length=bs.length:=K9 _;refine⟨jj bs.length,by show some (TV.i .i64 ((bs.map TV.b).length:Int))=_;rw [hml];rfl,_,xE _ _,?_⟩;have qzv:True/\gX [(TV.b true)]/\(TV.b true)=.b true:=⟨trivial,trivial,rfl⟩;cases ht:wB (Int.ofNat i) (Int.ofNat bs.length) with
 |false=>exact Be rfl (Be rfl ⟨_,rfl,gJ rfl qzv⟩)
 |true=>
  refine dD rfl rfl (dD rfl (xE _ _) ⟨_,rfl,pM (fun h40=>?_) (fun _=>qzv)⟩);have hil:i < bs.length:=Cw ht;have hi40:i < 40:=Cw (n:=40) h40;obtain⟨l,hl⟩:∃l,bs[i]?=some l:=⟨_,KX hil⟩;have hl':(bs.map TV.b)[i]?=some (.b l):=by rw [K4,hl];rfl
  have hst:i % 2 < 2:=Nat.mod_lt _ (by omega);have hA:=vA (l:=l) h0 h1 hn hst hb;have hB:=vB (l:=l) h0 h1 hn hst;refine⟨fun m o18 o19 x20 x21 x22 x23 x24=>∃j:Nat,j<=2/\m=2 - j/\o18=tO k/\o19=ph k b n (i % 2) l j/\x20=.l (bs.map TV.b)/\x21=jj k/\x22=jj n/\x23=jj i/\x24=jj j,
   ⟨2,0,by omega,rfl,rfl,rfl,rfl,rfl,rfl,rfl,rfl⟩,?_⟩
  rintro m o18 o19 x20 x21 x22 x23 x24 ⟨j,hj,rfl,rfl,rfl,rfl,rfl,rfl,rfl,rfl⟩;refine⟨_,xE _ _,pM (fun h2=>?_) (fun h2=>?_)⟩
  ·have hj2:j < 2:=Cw (n:=2) h2;rcases(show j=0\/j=1 by omega) with rfl|rfl
   ·exact⟨_,rfl,_,rfl,_,⟨A7 hl',rfl⟩,_,rfl,_,rfl,tK hA ⟨_,rfl,_,rfl,_,rfl,_,rfl,_,rfl,_,rfl,rfl,dD rfl rfl (dD rfl rfl ⟨_,rfl,gJ rfl ⟨_,rfl,_,rfl,_,rfl,1,by omega,1,by omega,rfl,rfl,rfl,rfl,rfl,rfl,rfl,rfl⟩⟩)⟩⟩
   ·exact⟨_,rfl,_,rfl,_,⟨A7 hl',rfl⟩,_,rfl,_,rfl,tK hB ⟨_,rfl,_,rfl,_,rfl,_,rfl,_,rfl,_,rfl,rfl,dD rfl rfl (dD rfl rfl ⟨_,rfl,gJ rfl ⟨_,rfl,_,rfl,_,rfl,0,by omega,2,by omega,rfl,rfl,rfl,rfl,rfl,rfl,rfl,rfl⟩⟩)⟩⟩
  ·have hj2:2<=j:=FP (n:=2) h2;obtain rfl:j=2:=by omega
   have e2:(i+1) % 2=1 - i % 2:=by omega
   refine⟨_,⟨A7 hl',rfl⟩,_,rfl,_,(show C6 .not (.b l)=some (.b (!l)) by cases l<;>rfl),?_⟩;cases l with
   |true=>have en:nx k n true=n:=rfl;refine Be rfl (Be rfl (Be rfl ⟨_,rfl,gJ rfl ?_⟩));refine⟨_,rfl,_,⟨A6 (n:=nx k n true) (by rw [en];omega),rfl⟩,_,rfl,_,AP _,_,q9 en,rfl,dD rfl rfl (dD rfl ⟨A5 _,rfl⟩ ⟨rfl,dD rfl rfl (dD rfl rfl (dD rfl (pY (by omega)) (dD rfl (zU i) (dD rfl (q9 rfl) ⟨_,rfl,gJ rfl ?_⟩))))⟩)⟩;exact⟨_,pY (by omega),40 - (i+1),by omega,i+1,n,false,rfl,by omega,hn,fun h=>(by cases h),rfl,by rw [e2];rfl,rfl,rfl,rfl,rfl⟩
   |false=>
    refine dD rfl rfl (dD rfl rfl (dD rfl (xE _ _) ⟨_,rfl,pM (fun h=>?_) (fun h=>?_)⟩))
    ·have hlt:n < k:=Cw h;have en:nx k n false=n+1:=by unfold nx;rw [Ls.mpr hlt];rfl
     refine⟨_,pY (by omega),_,rfl,_,⟨A6 (n:=nx k n false) (by rw [en];omega),rfl⟩,_,rfl,_,AP _,_,q9 en,rfl,dD rfl rfl (dD rfl ⟨A5 _,rfl⟩ ⟨rfl,dD rfl rfl (dD rfl rfl (dD rfl (pY (by omega)) (dD rfl (zU i) (dD rfl (q9 rfl) ⟨_,rfl,gJ rfl ?_⟩))))⟩)⟩;exact⟨_,pY (by omega),40 - (i+1),by omega,i+1,n+1,false,rfl,by omega,hlt,fun h=>(by cases h),rfl,by rw [e2,←en];rfl,rfl,rfl,rfl,rfl⟩
    ·have hge:k<=n:=FP h;have en:nx k n false=n:=by
      unfold nx;have:Nat.blt n k=false:=by cases h:Nat.blt n k with|false=>rfl|true=>have:=Ls.mp h;omega
      rw [this];rfl
     refine⟨_,rfl,_,⟨A6 (n:=nx k n false) (by rw [en];omega),rfl⟩,_,rfl,_,AP _,_,q9 en,rfl,dD rfl rfl (dD rfl ⟨A5 _,rfl⟩ ⟨rfl,dD rfl rfl (dD rfl rfl (dD rfl (pY (by omega)) (dD rfl (zU i) (dD rfl (q9 rfl) ⟨_,rfl,gJ rfl ?_⟩))))⟩)⟩;exact⟨_,pY (by omega),40 - (i+1),by omega,i+1,n,false,rfl,by omega,hn,fun h=>(by cases h),rfl,by rw [e2];show l6 false 0 (nx k n false) (1 - i % 2)=_;rw [en],rfl,rfl,rfl,rfl⟩
end Go.Ax.eB
set_option maxRecDepth 100000
namespace Go.Ax.eB
open Go Go.Ax Go.Ax.V
theorem DJ (n:Int):∃j:Nat,j < 16/\cD .i64 (1+cD .i64 ((cD .u64 n).tmod 16))=Int.ofNat (Nat.succ j):=by have h1:=wf_wrap .u64 n;rw [←je] at h1;have h2:=bounds_u64 h1;have h3:=Int.tmod_nonneg 16 (show (0:Int)<=cD .u64 n by omega);have h4:=Int.tmod_lt_of_pos (cD .u64 n) (show (0:Int) < 16 by decide);refine⟨((cD .u64 n).tmod 16).toNat,by omega,?_⟩;rw [sx (n:=(cD .u64 n).tmod 16) (by omega) (by omega),sx (by omega) (by omega)];show _=((Nat.succ ((cD .u64 n).tmod 16).toNat:Nat):Int);omega
def DL:List bS:=[.aa Df,.aa De]
def preB:List bS:=[.aa Dd,.aa Dc,.aa Db,.aa Da,.aa C_,.seq (.aa C9) (.cond (.t 63) (.seq (.aa C8) .ret) .skip),.aa C7]
def E1 (n:Int) (a:AV) (k:Int):St:=⟨(((((((cW [zI n,a] 0 .leaf).put (some (.bool false)) 4).put (some (zI n)) 19).put (some (.int .u64 (cD .u64 n))) 20).put (some (.int .u64 ((cD .u64 n).tmod 16))) 21).put (some (zI (cD .i64 ((cD .u64 n).tmod 16)))) 22).put (some (zI k)) 23).put (some (zI k)) 5,.leaf,0⟩
theorem KC (n:Int) (a:AV):cu (interp prog 1000).code 127 DL ⟨cW [zI n,a] 0 .leaf,.leaf,0⟩=some (E1 n a (cD .i64 (1+cD .i64 ((cD .u64 n).tmod 16)))):=by kernel_rfl
structure zd where
 e9:Option AV
 I4:Option AV
 e1:Option AV
 e5:Option AV
 I3:Option AV
 h3:Option c9
 h4:Option c9
 old:Bool
def obs (st:St):zd:=⟨st.env.get 9,st.env.get 11,st.env.get 1,st.env.get 5,st.env.get 13,st.H.get 3,st.H.get 4,v9 st.H fun i=>Nat.blt i st.nx⟩
def want (a:AV) (k:Nat):zd:=⟨some (.ptr 3 0 0),some (.ptr 4 0 0),some a,some (zN k),some (zI 0),some (.row 0 [He k,G_,G9]),some (.row 0 [Hl 0,Hj true,Ew 0,FY 0]),true⟩
def i_ (o:Option St):Option zd:=match o with
 |some st=>some (obs st)
 |none=>none
theorem KM (n:Int) (a:AV):i_ (cu (interp prog 1000).code 127 preB (E1 n a (Int.ofNat (Nat.succ 0))))=some (want a (Nat.succ 0)):=by kernel_rfl
theorem KL (n:Int) (a:AV):i_ (cu (interp prog 1000).code 127 preB (E1 n a (Int.ofNat (Nat.succ 1))))=some (want a (Nat.succ 1)):=by kernel_rfl
theorem KK (n:Int) (a:AV):i_ (cu (interp prog 1000).code 127 preB (E1 n a (Int.ofNat (Nat.succ 2))))=some (want a (Nat.succ 2)):=by kernel_rfl
theorem KJ (n:Int) (a:AV):i_ (cu (interp prog 1000).code 127 preB (E1 n a (Int.ofNat (Nat.succ 3))))=some (want a (Nat.succ 3)):=by kernel_rfl
theorem KI (n:Int) (a:AV):i_ (cu (interp prog 1000).code 127 preB (E1 n a (Int.ofNat (Nat.succ 4))))=some (want a (Nat.succ 4)):=by kernel_rfl
theorem KH (n:Int) (a:AV):i_ (cu (interp prog 1000).code 127 preB (E1 n a (Int.ofNat (Nat.succ 5))))=some (want a (Nat.succ 5)):=by kernel_rfl
theorem KG (n:Int) (a:AV):i_ (cu (interp prog 1000).code 127 preB (E1 n a (Int.ofNat (Nat.succ 6))))=some (want a (Nat.succ 6)):=by kernel_rfl
theorem KF (n:Int) (a:AV):i_ (cu (interp prog 1000).code 127 preB (E1 n a (Int.ofNat (Nat.succ 7))))=some (want a (Nat.succ 7)):=by kernel_rfl
theorem KE (n:Int) (a:AV):i_ (cu (interp prog 1000).code 127 preB (E1 n a (Int.ofNat (Nat.succ 8))))=some (want a (Nat.succ 8)):=by kernel_rfl
theorem KD (n:Int) (a:AV):i_ (cu (interp prog 1000).code 127 preB (E1 n a (Int.ofNat (Nat.succ 9))))=some (want a (Nat.succ 9)):=by kernel_rfl
theorem IJ (n:Int) (a:AV):i_ (cu (interp prog 1000).code 127 preB (E1 n a (Int.ofNat (Nat.succ 10))))=some (want a (Nat.succ 10)):=by kernel_rfl
theorem II (n:Int) (a:AV):i_ (cu (interp prog 1000).code 127 preB (E1 n a (Int.ofNat (Nat.succ 11))))=some (want a (Nat.succ 11)):=by kernel_rfl
theorem IG (n:Int) (a:AV):i_ (cu (interp prog 1000).code 127 preB (E1 n a (Int.ofNat (Nat.succ 12))))=some (want a (Nat.succ 12)):=by kernel_rfl
theorem IF (n:Int) (a:AV):i_ (cu (interp prog 1000).code 127 preB (E1 n a (Int.ofNat (Nat.succ 13))))=some (want a (Nat.succ 13)):=by kernel_rfl
theorem IE (n:Int) (a:AV):i_ (cu (interp prog 1000).code 127 preB (E1 n a (Int.ofNat (Nat.succ 14))))=some (want a (Nat.succ 14)):=by kernel_rfl
theorem ID (n:Int) (a:AV):i_ (cu (interp prog 1000).code 127 preB (E1 n a (Int.ofNat (Nat.succ 15))))=some (want a (Nat.succ 15)):=by kernel_rfl
theorem pf:∀(j:Nat),j<=15->∀(n:Int) (a:AV),i_ (cu (interp prog 1000).code 127 preB (E1 n a (Int.ofNat (Nat.succ j))))=some (want a (Nat.succ j))
 |0,_=>KM
 |1,_=>KL
 |2,_=>KK
 |3,_=>KJ
 |4,_=>KI
 |5,_=>KH
 |6,_=>KG
 |7,_=>KF
 |8,_=>KE
 |9,_=>KD
 |10,_=>IJ
 |11,_=>II
 |12,_=>IG
 |13,_=>IF
 |14,_=>IE
 |15,_=>ID
 |j+16,h=>by omega
theorem yE {o:Option St} {x:zd} (h:i_ o=some x):∃st,o=some st/\obs st=x:=by
 cases o with
 |none=>cases h
 |some st=>exact⟨st,rfl,by injection h⟩
theorem law (n:Int) (bs:List Bool) (a:AV) (ha:V.Can (.l (bs.map TV.b)) a):isTrue (aX prog 18 [zI n,a] .leaf 0)=true:=by
 obtain⟨j,hj,e⟩:=DJ n;obtain⟨st,h1,h2⟩:=yE (pf j (by omega) n a);have hL:=KC n a;rw [e] at hL;have e9:st.env.get 9=some (.ptr 3 0 0):=congrArg zd.e9 h2;have I4:st.env.get 11=some (.ptr 4 0 0):=congrArg zd.I4 h2;have e1:st.env.get 1=some a:=congrArg zd.e1 h2;have e5:st.env.get 5=some (zN (j+1)):=congrArg zd.e5 h2;have I3:st.env.get 13=some (zI 0):=congrArg zd.I3 h2;have q3:st.H.get 3=some (.row 0 [He (j+1),G_,G9]):=congrArg zd.h3 h2;have q4:st.H.get 4=some (.row 0 [Hl 0,Hj true,Ew 0,FY 0]):=congrArg zd.h4 h2;have hold:v9 st.H (fun i=>Nat.blt i st.nx)=true:=congrArg zd.old h2;refine Ed (k:=1000) (l:=DL++preB) (vc:=B0) (st:=st) (lo:=[(9,tO (j+1),3),(11,l6 true 0 0 0,4)]) (live:=[(1,.l (bs.map TV.b)),(5,jj (j+1)),(13,jj 0)]) (r:=.tmp 4) (af:=Ey) (by kernel_rfl) rfl (by kernel_rfl) rfl (by kernel_rfl) Dz ?_ ?_ ?_ (show ([9,11]:List Nat).Nodup by decide) (show ([3,4]:List Nat).Nodup by decide) hold
  (Hq _ _ _ _ _ 3 4 (fun r=>r=.b true) (nY (by omega) (by omega) bs))
 ·intro x hx;exact oh (k:=1000) (l:=DL) (suf:=zy preB B0.code) hL (oh (k:=1000) h1 hx)
 ·intro p hp;rcases Lh.1 hp with rfl|hp
  ·exact⟨a,e1,ha⟩
  ·rcases Lh.1 hp with rfl|hp
   ·exact⟨_,e5,.i _ _⟩
   ·rw [Lj.1 hp];exact⟨_,I3,.i _ _⟩
 ·intro p hp;rcases Lh.1 hp with rfl|hp
  ·exact⟨e9,_,_,rfl,q3,CV (j+1)⟩
  ·rw [Lj.1 hp];exact⟨I4,_,_,rfl,q4,x_ true 0 0 0 (by omega)⟩
end Go.Ax.eB
end
