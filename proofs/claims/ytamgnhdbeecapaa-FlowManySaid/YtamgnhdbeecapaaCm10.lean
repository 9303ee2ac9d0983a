/- Part 10 of the proof: LmMb, LmMc. -/
import Derived.Test.YtamgnhdbeecapaaCm5
import Derived.Test.YtamgnhdbeecapaaCm7
import Derived.Test.YtamgnhdbeecapaaCm9
set_option linter.unusedSimpArgs false
set_option linter.unusedVariables false
noncomputable section
set_option maxRecDepth 100000
namespace Go.Ax.ek
open Go Go.Ax Go.Ax.V Go.Ax.Ft
abbrev PP:Program:=Go.Proofs.Try.prog
abbrev zI (n:Int):AV:=.int .i64 n
def sL:Code->Code
 |.seq a _=>a
 |c=>c
def sR:Code->Code
 |.seq _ b=>b
 |c=>c
def bC:Code->Code
 |.block _ c=>c
 |.loop c=>c
 |c=>c
def rO:Code->Array Oper
 |.region _ ops _=>ops
 |_=>#[]
def cG:Code:=match Go.Proofs.Try.f13.body with
 |some c=>c
 |none=>.skip
def k1:Code:=sR cG
def k2:Code:=sR k1
def k3:Code:=sR k2
def FW:Code:=bC (bC (sR (sL k3)))
def rC:Code:=sR k3
def bB:Code:=bC (sL (sR FW))
theorem KP:mz PP (a_ prog):=GZ SC
theorem KO:nw (a_ prog):=by intro f args H nx v H' nx' hr;obtain⟨k0,hk⟩:=xS prog f args H nx _ hr;exact(vl prog k0).2 f args H nx v H' nx' (hk k0 (U3 _))
theorem Kv:pX PP (bn prog):=by intro nt ac st x st' h c hm;obtain⟨k0,hk⟩:=mU prog nt ac st _ h;exact codeOk k0 nt ac st x st' (hk k0 (U3 _)) c hm
theorem yQ {ac:c8} {st st':St} {x:bY} {c:Code} (h:qt (a_ prog) (bn prog) 96 ac st=some (x,st')) (hm:ff PP c ac=true):EX 96 (cw PP c) st (tN x st'):=uf Kv (xl prog 96 ac st _ h) hm
def q8 (ac:c8) (st:St):Option St:=match (interp prog 1000).code 96 ac st with
 |some (.normal,s)=>some s
 |_=>none
theorem mT {ac:c8} {st s:St} (h:q8 ac st=some s):(interp prog 1000).code 96 ac st=some (.normal,s):=by
 unfold q8 at h;split at h
 ·rename_i s' h1;cases h;exact h1
 ·cases h
def T0 (n:Int):St:=⟨dO [zI n] 0 .leaf,.leaf,0⟩
def T1 (n:Int):St:=(q8 (.aQ EP) (T0 n)).getD (T0 n)
def T2 (n:Int):St:=(q8 (.aQ EO) (T1 n)).getD (T0 n)
def T3 (n:Int):St:=(q8 (.aQ EN) (T2 n)).getD (T0 n)
def T4 (n:Int):St:=(q8 (.aQ EM) (T3 n)).getD (T0 n)
theorem xb {α:Type} {x:Option α} {d:α} (h:x.isSome=true):x=some (x.getD d):=by obtain⟨y,rfl⟩:=Option.isSome_iff_exists.1 h;rfl
theorem t1 (n:Int):(q8 (.aQ EP) (T0 n)).isSome=true:=by kernel_rfl
theorem t2 (n:Int):(q8 (.aQ EO) (T1 n)).isSome=true:=by kernel_rfl
theorem t3 (n:Int):(q8 (.aQ EN) (T2 n)).isSome=true:=by kernel_rfl
theorem t4 (n:Int):(q8 (.aQ EM) (T3 n)).isSome=true:=by kernel_rfl
def kI (n:Int):Int:=f_ .i64 (395+f_ .i64 ((f_ .u64 n).tmod 10))
theorem e3 (n:Int):(T4 n).env.get 3=some (zI (kI n)):=by kernel_rfl
theorem e4 (n:Int):(T4 n).env.get 4=some (.ptr 1 0 0):=by kernel_rfl
theorem e5 (n:Int):(T4 n).env.get 5=some (zI 0):=by kernel_rfl
theorem h0 (n:Int):(T4 n).H.get 0=some (.row 0 [zI 1,.ay]):=by kernel_rfl
theorem h1 (n:Int):(T4 n).H.get 1=some (.row 0 [.ay,.ref 0 0 0 2 1 1 false]):=by kernel_rfl
theorem ho (n:Int):HH (T4 n).H (fun i=>Nat.blt i (T4 n).nx)=true:=by kernel_rfl
theorem LJ (n:Int):∃k:Nat,395<=k/\k<=404/\kI n=k:=by have h1:=wf_wrap .u64 n;rw [←nY] at h1;have h2:=bounds_u64 h1;have h3:=Int.tmod_nonneg 10 (show (0:Int)<=f_ .u64 n by omega);have h4:=Int.tmod_lt_of_pos (f_ .u64 n) (show (0:Int) < 10 by decide);refine⟨395+((f_ .u64 n).tmod 10).toNat,by omega,by omega,?_⟩;unfold kI;rw [sU (n:=(f_ .u64 n).tmod 10) (by omega) (by omega),sU (by omega) (by omega)];omega
def vM (jk:TV):au:=⟨(((Map.leaf.put (some ⟨none,.ptr 4 0⟩) 4).put (some ⟨none,.tr jk⟩) 3).put (some ⟨none,.tr (ii 0)⟩) 5),((Map.leaf.put (some (.ob pO [(1,.sl 1153)])) 4).put (some (.gn 1153 2 1 20 0 none [e0 0])) 1153),((Map.leaf.put (some ()) 4).put (some ()) 1153)⟩
def n8:bt:=fun n=>match n with
 |.s O=>if O=4 then some (.ptr 1 0 0) else if O=1153 then some (.ref 0 0 0 2 1 1 false) else none
 |.i K v j=>if K=1153/\v=0/\j=0 then some .ay else none
theorem Jj {jk:TV} {O:Nat} {o:VO} (h:(vM jk).H.get O=some o):(O=4/\o=.ob pO [(1,.sl 1153)])\/(O=1153/\o=.gn 1153 2 1 20 0 none [e0 0]):=by
 have h':((Map.leaf.put (some (VO.ob pO [(1,.sl 1153)])) 4).put (some (.gn 1153 2 1 20 0 none [e0 0])) 1153).get O=some o:=h;rw [Map.aa,Map.aa] at h';split at h'
 ·rename_i e;cases h';exact .inr ⟨e,rfl⟩
 ·split at h'
  ·rename_i e;cases h';exact .inl ⟨e,rfl⟩
  ·cases h'
theorem rM {st:St} {k:Int} (g3:st.env.get 3=some (zI k)) (g4:st.env.get 4=some (.ptr 1 0 0)) (g5:st.env.get 5=some (zI 0)) (q0:st.H.get 0=some (.row 0 [zI 1,.ay])) (q1:st.H.get 1=some (.row 0 [.ay,.ref 0 0 0 2 1 1 false]))
  (hf:HH st.H (fun i=>Nat.blt i st.nx)=true):R n8 (vM (ii k)) st:=by
 have a4:n8 (TN.s 4)=some (.ptr 1 0 0):=rfl;have aT:n8 (TN.s 1153)=some (.ref 0 0 0 2 1 1 false):=rfl;have aI:n8 (.i 1153 0 0)=some .ay:=rfl;have hi:∀j x,n8 (.i 1153 0 j)=some x->j=0/\x=.ay:=by
  intro j x h;unfold n8 at h;simp only [true_and] at h;split at h
  ·rename_i e;cases h;exact⟨e,rfl⟩
  ·cases h
 have hG:Gp n8 st.H 1153 2 1 20 0 none [e0 0] [zI 1,.ay]:=by
  refine⟨rfl,fun j e he=>?_⟩;cases j with
  |succ j=>simp at he
  |zero=>
   simp at he;subst he;refine⟨[ii 1,.l []],rfl,rfl,fun o t x ho ht hx=>?_,.ay,rfl,aI,fun _=>⟨[],rfl,by decide,.inl ⟨rfl,.inl rfl⟩⟩⟩
   match o,ho with
   |0,_=>simp at ht hx;subst ht;subst hx;exact⟨.i _ _,rfl⟩
   |o+2,_=>simp at ht
 refine⟨fun t e he=>?_,fun O o hO=>?_,fun O O' o o' a a' id p1 p2 p3 p4 p5 p6=>?_,fun n hn=>?_,fun n a ha=>?_,fun id o ho'=>?_,fun O o a hO ha=>?_⟩
 ·have he':(((Map.leaf.put (some (VE.mk none (.ptr 4 0))) 4).put (some ⟨none,.tr (ii k)⟩) 3).put (some ⟨none,.tr (ii 0)⟩) 5).get t=some e:=he;rw [Map.aa,Map.aa,Map.aa] at he';split at he'
  ·rename_i e1;subst e1;cases he';exact⟨_,g5,fun _=>.tr (.i _ _)⟩
  ·split at he'
   ·rename_i e1;subst e1;cases he';exact⟨_,g3,fun _=>.tr (.i _ _)⟩
   ·split at he'
    ·rename_i e1;subst e1;cases he';exact⟨_,g4,fun _=>.ptr a4⟩
    ·cases he'
 ·rcases Jj hO with ⟨rfl,rfl⟩|⟨rfl,rfl⟩
  ·refine⟨_,a4,1,[.ay,.ref 0 0 0 2 1 1 false],[.l [],.l []],rfl,q1,rfl,rfl,fun j w hw=>?_,fun j t x ht hx=>?_⟩
   ·match j with
    |0=>cases hw
    |1=>decide
    |j+2=>exact absurd (show (none:Option VV)=some w from hw) (by simp)
   ·match j with
    |0=>simp at ht hx;subst ht;subst hx;exact⟨.nil,rfl⟩
    |1=>simp at ht hx;subst ht;subst hx;exact aT
    |j+2=>simp at ht
  ·exact⟨_,aT,by decide,by decide,by decide,.inr ⟨0,0,0,[zI 1,.ay],rfl,q0,by decide,hG⟩⟩
 ·have qjj:∀y id,n8 (TN.s 4)=some y->dX n8 (.ob pO [(1,.sl 1153)]) y id->id=1:=by
   intro y id h1 h2;rw [a4] at h1;cases h1;rcases h2 with h2|h2
   ·injection h2 with h2;exact h2.symm
   ·cases h2
  have idsT:∀y id,n8 (TN.s 1153)=some y->dX n8 (.gn 1153 2 1 20 0 none [e0 0]) y id->id=0:=by
   intro y id h1 h2;rw [aT] at h1;cases h1;rcases h2 with h2|⟨j,x,_,h3,h4⟩
   ·injection h2 with h2;exact h2.symm
   ·obtain⟨_,rfl⟩:=hi j x h3;cases h4
  rcases Jj p1 with ⟨rfl,rfl⟩|⟨rfl,rfl⟩<;>rcases Jj p2 with ⟨rfl,rfl⟩|⟨rfl,rfl⟩
  ·rfl
  ·have:=qjj a id p3 p5;have:=idsT a' id p4 p6;omega
  ·have:=idsT a id p3 p5;have:=qjj a' id p4 p6;omega
  ·rfl
 ·have hus:∀O,(vM (ii k)).us.get O=none->O≠4/\O≠1153:=by
   intro O h;have h':((Map.leaf.put (some ()) 4).put (some ()) 1153).get O=none:=h;rw [Map.aa,Map.aa] at h';split at h'
   ·cases h'
   ·split at h'
    ·cases h'
    ·exact⟨by assumption,by assumption⟩
  cases n with
  |s O=>have:=hus O hn;unfold n8;simp only;rw [if_neg this.1,if_neg this.2]
  |i K v j=>have:=hus K hn;unfold n8;simp only;rw [if_neg (fun h=>this.2 h.1)]
 ·cases n with
  |s O=>
   unfold n8 at ha;simp only at ha;split at ha
   ·cases ha;rfl
   ·split at ha
    ·cases ha;rfl
    ·cases ha
  |i K v j=>
   unfold n8 at ha;simp only at ha;split at ha
   ·cases ha;rfl
   ·cases ha
 ·exact US.mp (HG st.H _ id o hf ho')
 ·rcases Jj hO with ⟨rfl,rfl⟩|⟨rfl,rfl⟩
  ·trivial
  ·refine⟨rfl,fun v j hv=>?_,fun j x hx=>?_,fun j j' x x' id _ _ h1 h2 h3 h4=>?_,fun j x id _ h1 h2=>?_⟩
   ·unfold n8;simp only;rw [if_neg (fun h=>by omega)]
   ·rw [(hi j x hx).1];decide
   ·rw [(hi j x h1).1,(hi j' x' h2).1]
   ·rw [(hi j x h1).2] at h2;cases h2
def I_ (k i:Nat) (st:St):Prop:=∃A V,R A V st/\nT uO V (sQ k i)
theorem Ul (n:Int) {k:Nat} (hk:kI n=k):I_ k 0 (T4 n):=by have g3:=e3 n;rw [hk] at g3;exact⟨n8,vM (ii k),rM g3 (e4 n) (e5 n) (h0 n) (h1 n) (ho n),((show sQ k 0 pO [e0 0] (ii k) (ii 0)=nT uO (vM (ii k)) (sQ k 0) by kernel_rfl)▸(⟨rfl,rfl,rfl,rfl⟩:sQ k 0 pO [e0 0] (ii k) (ii 0)))⟩
theorem way {I0:JT uO Prop} {c:bh} {K:bY->au->Prop} (hok:c.ok=true) (h:gU uO V0 I0 (fun V=>wV sh prog 96 c V K)) {st:St} (hs:∃A V,R A V st/\nT uO V I0) :
  ∃x st',qt (a_ prog) (bn prog) 96 c.code st=some (x,st')/\∃V' A',R A' V' st'/\K x V':=by
 obtain⟨A,V,hR,hp⟩:=hs;obtain⟨Vc,A',h2,h3,_⟩:=ou hR (J:=uO) rfl hp h;obtain⟨x,st',g1,V',A2,g2,_,g3⟩:=xk fm (nt:=96) c Vc A' st K hok h3 h2;exact⟨x,st',g1,V',A2,g2,g3⟩
theorem AQ {a b:c8} {st st':St} (h:qt (a_ prog) (bn prog) 96 (.seq a b) st=some (.normal,st')):∃s1,qt (a_ prog) (bn prog) 96 a st=some (.normal,s1)/\qt (a_ prog) (bn prog) 96 b s1=some (.normal,st'):=by
 have h':(match qt (a_ prog) (bn prog) 96 a st with|some (.normal,st)=>qt (a_ prog) (bn prog) 96 b st|r=>r)=some (.normal,st'):=h;split at h'
 ·rename_i s1 h1;exact⟨s1,h1,h'⟩
 ·rename_i hne;exact absurd h' (hne st')
theorem u0 {ops:List aq} {st st':St} {x:bY} (h:qt (a_ prog) (bn prog) 96 (.aQ ops) st=some (x,st')):x=.normal/\eY (a_ prog) 96 ops st=some st':=by
 have h':(match eY (a_ prog) 96 ops st with|some st=>some (bY.normal,st)|none=>none)=some (x,st'):=h;split at h'
 ·rename_i s1 h1;cases h';exact⟨rfl,h1⟩
 ·cases h'
theorem m8 {o:aq} {l:List aq} {st st':St} (h:eY (a_ prog) 96 (o::l) st=some st'):∃s1,dV (a_ prog) 96 o st=some s1/\eY (a_ prog) 96 l s1=some st':=by
 rw [fQ] at h;split at h
 ·rename_i s1 h1;exact⟨s1,h1,h⟩
 ·cases h
theorem GC {A:bt} {V:au} {st:St} (hR:R A V st) {t:Nat} {b:Bool} (h:uY V [.tmp t] (fun rs=>match rs with|[a]=>a=.b b|_=>False)):ev st.env (.t t)=.bool b:=by
 obtain⟨v,u,a,h1,h2,h3,h4⟩:=rY hR (k:=fun a=>a=.b b) h 26;subst h4;cases h3;have e:=tX (d:=29) h2 (fun _ _ _ h=>by cases h) (fun _ h=>by cases h) (fun _ h=>by cases h);have h1':some (ev st.env (.t t))=some v:=h1;injection h1' with h1'
 rw [h1',e]
end Go.Ax.ek
set_option maxRecDepth 100000
namespace Go.Ax.ek
open Go Go.Ax Go.Ax.V Go.Ax.Ft
def ID:Code->Nat
 |.region i _ _=>i
 |.block i _=>i
 |_=>0
def cC:Code->Operand
 |.cond c _ _=>c
 |_=>.const (.bool false)
abbrev P:=PP
theorem Lt:cG=.seq (sL cG) k1:=by kernel_rfl
theorem Ls:k1=.seq (sL k1) k2:=by kernel_rfl
theorem Lr:k2=.seq (sL k2) k3:=by kernel_rfl
theorem Lq:k3=.seq (.seq (sL (sL k3)) (.block 0 (.loop FW))) rC:=by kernel_rfl
theorem GJ:FW=.seq (sL FW) (.seq (.block 1 (.seq (sL bB) (sR bB))) (sR (sR FW))):=by kernel_rfl
theorem Lp:sL bB=.region (ID (sL bB)) (rO (sL bB)) true:=by kernel_rfl
theorem Ln:rC=.seq (.region (ID (sL rC)) (rO (sL rC)) false) (sR rC):=by kernel_rfl
theorem m0:ff P (sL cG) (.aQ EP)=true:=by kernel_rfl
theorem m1:ff P (sL k1) (.aQ EO)=true:=by kernel_rfl
theorem m2:ff P (sL k2) (.aQ EN)=true:=by kernel_rfl
theorem m3:ff P (sL (sL k3)) (.aQ EM)=true:=by kernel_rfl
theorem mA:ff P (sL FW) BV.code=true:=by kernel_rfl
theorem mD:ff P (sR bB) (.cond (.t 22) (.seq (.aQ Hp) (.aQ Ho)) (.cj Hl IM [(1,8),(3,8),(6,8),(1,9)]))=true:=by kernel_rfl
theorem m5:ff P (sR (sR FW)) (.aQ zW)=true:=by kernel_rfl
def q0:aq:=o 21 (.alloc [.bool false])
def q1:aq:=⟨none,.store 1 (.t 21) (.c (.bool true)),none,false⟩
def q2:aq:=⟨none,.store 1 (.t 21) (.c (.bool false)),none,false⟩
def q3:aq:=o 22 (.load none (.t 21))
theorem m6:iV P (rO (sL bB)) (rO (sL bB)).toList [q0,q1,q2,q3]=true:=by kernel_rfl
theorem z6:(rO (sL bB)).size=4:=by kernel_rfl
theorem y0:Region.ready .any (rO (sL bB)) #[false,false,false,false]=[0]:=by kernel_rfl
theorem y1:Region.ready .any (rO (sL bB)) #[true,false,false,false]=[1,2]:=by kernel_rfl
theorem y2:Region.ready .any (rO (sL bB)) #[true,true,false,false]=[2]:=by kernel_rfl
theorem y3:Region.ready .any (rO (sL bB)) #[true,false,true,false]=[1]:=by kernel_rfl
theorem y4:Region.ready .any (rO (sL bB)) #[true,true,true,false]=[3]:=by kernel_rfl
theorem y5:Region.ready .any (rO (sL bB)) #[true,true,true,true]=[]:=by kernel_rfl
theorem Sp {α:Type}:∀{l:List α},l.length=4->∃a b c d,l=[a,b,c,d]
 |[a,b,c,d],_=>⟨a,b,c,d,rfl⟩
theorem opers {ops:Array Oper} (hz:ops.size=4) (h:iV P ops ops.toList [q0,q1,q2,q3]=true):∃p0 p1 p2 p3,ops[0]?=some p0/\ops[1]?=some p1/\ops[2]?=some p2/\ops[3]?=some p3/\jJ P ops p0 q0=true/\jJ P ops p1 q1=true/\jJ P ops p2 q2=true/\jJ P ops p3 q3=true:=by
 have hl:ops.toList.length=4:=by rw [Array.length_toList];exact hz
 obtain⟨p0,p1,p2,p3,hm⟩:=Sp hl;have hg:∀j:Nat,ops[j]?=ops.toList[j]?:=fun j=>(Array.getElem?_toList).symm
 rw [hm] at h;simp only [iV,UN] at h;refine⟨p0,p1,p2,p3,?_,?_,?_,?_,h.1,h.2.1,h.2.2.1,h.2.2.2.1⟩<;>rw [hg,hm]<;>rfl
theorem Fp {a b:c8} {st:St} {t:Bool} {r:Option (bY×St)} (h:ev st.env (.t 22)=.bool t) (h2:qt (a_ prog) (bn prog) 96 (bif t then a else b) st=r):qt (a_ prog) (bn prog) 96 (.cond (.t 22) a b) st=r:=by
 show (match ev st.env (.t 22) with|.bool true=>qt (a_ prog) (bn prog) 96 a st|.bool false=>qt (a_ prog) (bn prog) 96 b st|_=>none)=r;rw [h];cases t with
 |true=>exact h2
 |false=>exact h2
theorem ahead {k i:Nat} (hi:i < k) {st:St} (hs:I_ k i st):∃s1,qt (a_ prog) (bn prog) 96 BV.code st=some (.normal,s1)/\I_ k i s1:=by
 obtain⟨x,s1,g1,V',A',g2,g3⟩:=way (c:=BV) rfl (Nn (sQ k i) (sQ k i) (fun _ _ _ _=>False) (by rintro o1 l2 x3 x4 ⟨rfl,rfl,rfl,rfl⟩;exact⟨_,rfl,uk (OX (by omega)) ⟨rfl,rfl,rfl,rfl⟩⟩)) hs
 cases x with
 |normal=>exact⟨s1,g1,A',V',g2,g3⟩
 |exit _=>exfalso;obtain⟨Vc,A2,h2,_,_⟩:=ou g2 (J:=uO) (k:=fun _=>False) rfl g3 (show ∀_ _ _ _,False->False from fun _ _ _ _ h=>h);exact h2
 |ret=>exact g3.elim
theorem behind {k:Nat} {st:St} (hs:I_ k k st):∃i s1,qt (a_ prog) (bn prog) 96 BV.code st=some (.exit i,s1)/\I_ k k s1:=by
 obtain⟨x,s1,g1,V',A',g2,g3⟩:=way (c:=BV) rfl (Nn (sQ k k) (fun _ _ _ _=>False) (sQ k k) (by rintro o1 l2 x3 x4 ⟨rfl,rfl,rfl,rfl⟩;exact⟨_,rfl,jh (OY (by omega)) ⟨rfl,rfl,rfl,rfl⟩⟩)) hs
 cases x with
 |normal=>exfalso;obtain⟨Vc,A2,h2,_,_⟩:=ou g2 (J:=uO) (k:=fun _=>False) rfl g3 (show ∀_ _ _ _,False->False from fun _ _ _ _ h=>h);exact h2
 |exit i=>exact⟨i,s1,g1,A',V',g2,g3⟩
 |ret=>exact g3.elim
theorem round {k i:Nat} (hi:i < 404) {st:St} (hs:I_ k i st):∃s1 s2,EX 96 (cw P (.seq (.block 1 (.seq (sL bB) (sR bB))) (sR (sR FW)))) st (two s1 s2)/\I_ k (i+1) s1/\I_ k (i+1) s2:=by
 obtain⟨x,e1,g1,V1,A1,R1,K1⟩:=way (c:=Ld) rfl (QE _ _ _ (QI (k:=k) hi)) hs;obtain⟨x',e2,g2,V2,A2,R2,K2⟩:=way (c:=Lc) rfl (QD _ _ _ (QH (k:=k) hi)) hs;obtain⟨x3,e3,g3,V3,A3,R3,K3⟩:=way (c:=Lb) rfl (QC (sQ k i) (fun a=>a=.b false) (by rintro o1 l2 x3 x4 ⟨rfl,rfl,rfl,rfl⟩;exact⟨_,rfl,_,rfl,_,rfl,rfl⟩)) hs
 obtain⟨x4,e4,g4,V4,A4,R4,K4⟩:=way (c:=La) rfl (QB (sQ k i) (fun a=>a=.b true) (by rintro o1 l2 x3 x4 ⟨rfl,rfl,rfl,rfl⟩;exact⟨_,rfl,_,rfl,_,rfl,rfl⟩)) hs
 cases x with
 |exit _=>exact K1.elim
 |ret=>exact K1.elim
 |normal=>
 cases x' with
 |exit _=>exact K2.elim
 |ret=>exact K2.elim
 |normal=>
 cases x3 with
 |exit _=>exact K3.elim
 |ret=>exact K3.elim
 |normal=>
 cases x4 with
 |exit _=>exact K4.elim
 |ret=>exact K4.elim
 |normal=>
 have t3:=GC R3 K3;have t4:=GC R4 K4;obtain⟨sA,gA,gA2⟩:=AQ (a:=.aQ EL) g1;obtain⟨uA,gA3,gA4⟩:=AQ (b:=.aQ zW) gA2;obtain⟨sB,gB,gB2⟩:=AQ (a:=.aQ DI) g2;obtain⟨uB,gB3,gB4⟩:=AQ (b:=.aQ zW) gB2;have eA:e3=sA:=by have h:some (bY.normal,e3)=some (.normal,sA):=g3.symm.trans gA;injection h with h;injection h
 have eB:e4=sB:=by have h:some (bY.normal,e4)=some (.normal,sB):=g4.symm.trans gB;injection h with h;injection h
 subst eA;subst eB;have oA:=(u0 gA).2;have oB:=(u0 gB).2;obtain⟨a0,c0,oA1⟩:=m8 (o:=q0) oA;obtain⟨a1,c1,oA2⟩:=m8 (o:=q1) oA1;obtain⟨a2,c2,oA3⟩:=m8 (o:=q2) oA2;obtain⟨a3,c3,oA4⟩:=m8 (o:=q3) oA3;obtain⟨b0,d0,oB1⟩:=m8 (o:=q0) oB;obtain⟨b1,d1,oB2⟩:=m8 (o:=q2) oB1;obtain⟨b2,d2,oB3⟩:=m8 (o:=q1) oB2;obtain⟨b3,d3,oB4⟩:=m8 (o:=q3) oB3;have f0:b0=a0:=by rw [c0] at d0;injection d0 with d0;exact d0.symm
 subst f0;have f3:a3=e3:=by have h:some a3=some e3:=oA4;injection h
 have f4:b3=e4:=by have h:some b3=some e4:=oB4;injection h
 subst f3;subst f4;obtain⟨p0,p1,p2,p3,w0,w1,w2,w3,n0,n1,n2,n3⟩:=opers z6 m6;have X1:EX 96 (cw P (sL bB)) st (two a3 b3):=by rw [Lp];exact Mr xh KP KO z6 w0 w1 w2 w3 n0 n1 n2 n3 y0 y1 y2 y3 y4 y5 c0 c1 c2 c3 d1 d2 d3
 have X2:EX 96 (cw P (sR bB)) a3 (tN .normal uA):=yQ (Fp t3 gA3) mD;have X3:EX 96 (cw P (sR bB)) b3 (tN .normal uB):=yQ (Fp t4 gB3) mD;have X4:EX 96 (cw P (.block 1 (.seq (sL bB) (sR bB)))) st (two uA uB):=It (Eb X1 (X2.mono fun _ x s h=>⟨h.1,.inl h.2⟩) (X3.mono fun _ x s h=>⟨h.1,.inr h.2⟩));have X5:EX 96 (cw P (sR (sR FW))) uA (tN .normal e1):=yQ gA4 m5;have X6:EX 96 (cw P (sR (sR FW))) uB (tN .normal e2):=yQ gB4 m5;exact⟨e1,e2,Eb X4 (X5.mono fun _ x s h=>⟨h.1,.inl h.2⟩) (X6.mono fun _ x s h=>⟨h.1,.inr h.2⟩),⟨A1,V1,R1,K1⟩,⟨A2,V2,R2,K2⟩⟩
theorem Pb {st s1:St} {i:Nat} (h:qt (a_ prog) (bn prog) 96 BV.code st=some (.exit i,s1)):i=0:=by
 have h':(match qt (a_ prog) (bn prog) 96 (.aQ Hq) st with
  |some (.normal,st)=>(match ev st.env (.t 18) with|.bool true=>some (bY.normal,st)|.bool false=>some (.exit 0,st)|_=>none)
  |r=>r)=some (.exit i,s1):=h
 split at h'
 ·split at h'
  ·cases h'
  ·cases h';rfl
  ·cases h'
 ·have:=u0 h';cases this.1
theorem rounds {k:Nat} (hk:k<=404) {F:Nat->bY->St->Prop} (qxb:∀st,I_ k k st->EX 96 (cw P rC) st F):∀m i,i+m=k->∀st,I_ k i st->EX 96 (Nc P FW (m+1)) st (fun top y s=>y=.exit 0/\HX 96 top (cw P rC) s (F top))
 |0,i,hi,st,hs=>by
  obtain rfl:i=k:=by omega
  obtain⟨j,s1,g1,hs1⟩:=behind hs;obtain rfl:=Pb g1;have X:EX 96 (cw P FW) st (tN (.exit 0) s1):=by rw [GJ];exact J8 (yQ g1 mA)
  exact J_ X (qxb s1 hs1)
 |m+1,i,hi,st,hs=>by
  obtain⟨s1,g1,hs1⟩:=ahead (by omega) hs;obtain⟨u1,u2,hX,hu1,hu2⟩:=round (by omega) hs1;have X:EX 96 (cw P FW) st (two u1 u2):=by rw [GJ];exact ue (yQ g1 mA) hX
  exact Ir X (rounds hk qxb m (i+1) (by omega) u1 hu1) (rounds hk qxb m (i+1) (by omega) u2 hu2)
theorem mE:ff P (sR rC) (match GA.code with|.seq _ b=>b|c=>c)=true:=by kernel_rfl
theorem mL:iV P (rO (sL rC)) (rO (sL rC)).toList (A5++AZ)=true:=by kernel_rfl
theorem JZ {l:List (Nat×TV)} {st:St} (hl:∀p∈l,∃a,st.env.get p.1=some a/\V.Can p.2 a) (hf:∀id o,st.H.get id=some o->id < st.nx):R (N2 []) (lB [] l) st:=by
 refine⟨fun t e he=>?_,fun O o ho'=>?_,fun O O' o o' a a' id h1=>?_,fun n hn=>?_,fun n a ha=>?_,hf,fun O o a ho'=>?_⟩
 ·rcases CJ he with ⟨v,h1,rfl⟩|⟨v,id,h1,rfl⟩
  ·obtain⟨a,h2,h3⟩:=hl _ h1;exact⟨a,h2,fun _=>.tr h3⟩
  ·cases h1
 ·obtain⟨v,id,h1,_⟩:=Bk ho';cases h1
 ·obtain⟨v,id,h1,_⟩:=Bk h1;cases h1
 ·cases n<;>rfl
 ·cases n<;>cases ha
 ·obtain⟨v,id,h1,_⟩:=Bk ho';cases h1
def FF:Nat->bY->St->Prop:=fun _ x st=>(x=.normal\/x=.ret)/\∃H nx,kW Qx.res st=some (.bool true,H,nx)
theorem F2 {e:Env} {t:Nat} {n:Int} (h:ev e (.t t)=zI n):e.get t=some (zI n):=by
 have h':(match e.get t with|some v=>v|none=>dQ)=zI n:=h;split at h'
 ·rename_i v hv;rw [hv,h']
 ·cases h'
theorem rest {k:Nat} (h0:1<=k) (h1:k<=404) {st:St} (hs:I_ k k st):EX 96 (cw P rC) st FF:=by
 obtain⟨x,s1,g1,V1,A1,R1,K1⟩:=way (c:=Le) rfl (QF (sQ k k) (fun a b=>a=oX (gL k)/\b=ii k) (by rintro o1 l2 x3 x4 ⟨rfl,rfl,rfl,rfl⟩;exact⟨_,rfl,_,rfl,rfl,rfl⟩)) hs
 cases x with
 |exit _=>exact K1.elim
 |ret=>exact K1.elim
 |normal=>
 obtain⟨c1,o1⟩:∃c1,dV (a_ prog) 96 (o 48 (.load (some 2) (.t 4))) st=some c1/\c1=s1:=by
  have h:=(u0 (ops:=A5) g1).2;obtain⟨c1,h2,h3⟩:=m8 (o:=o 48 (.load (some 2) (.t 4))) h;have h3':some c1=some s1:=h3;injection h3' with h3'
  exact⟨c1,h2,h3'⟩
 obtain⟨o1,rfl⟩:=o1;obtain⟨vs,ts,as',p1,p2,p3,p4⟩:=td R1 26 [.tmp 48,.tmp 3] (fun rs=>match rs with|[a,b]=>a=oX (gL k)/\b=ii k|_=>False) K1;have hvs:vs=[ev c1.env (.t 48),ev c1.env (.t 3)]:=by have h:some [ev c1.env (.t 48),ev c1.env (.t 3)]=some vs:=p1;injection h with h;exact h.symm
 subst hvs;rw [cx,cx,CH] at p2;cases i48:bk (26+4) c1.H (ev c1.env (.t 48)) with
 |none=>rw [i48] at p2;cases p2
 |some a48=>
 cases i3:bk (26+4) c1.H (ev c1.env (.t 3)) with
 |none=>rw [i48,i3] at p2;cases p2
 |some a3=>
 rw [i48,i3] at p2;have e2:as'=[a48,a3]:=by injection p2 with p2;exact p2.symm
 subst e2
 match ts,p3,p4 with
 |[],_,h=>exact h.elim
 |[_],_,h=>exact h.elim
 |_::_::_::_,_,h=>exact h.elim
 |[u,w],p3,⟨hu,hw⟩=>
 subst hu;subst hw;have c48:V.Can (oX (gL k)) a48:=p3.2 0 _ _ rfl rfl;have c3:V.Can (ii k) a3:=p3.2 1 _ _ rfl rfl;cases c3;have e3:=tX (d:=29) i3 (fun _ _ _ h=>by cases h) (fun _ h=>by cases h) (fun _ h=>by cases h);have g3:=F2 e3;have hR2:R (N2 []) (lB [] [(3,ii k),(48,oX (gL k))]) ⟨c1.env.put (some a48) 48,drop c1.H (bx deep c1.H (ev c1.env (.t 48))),c1.nx⟩:=by
  refine JZ (fun p hp=>?_) (fun id o ho=>?_)
  ·rcases UI.1 hp with rfl|hp
   ·exact⟨zI k,by rw [Map.aa,if_neg (show ¬(3:Nat)=48 by decide)];exact g3,.i _ _⟩
   ·rw [UK.1 hp];exact⟨a48,by rw [Map.aa,if_pos rfl],c48⟩
  ·have ho':(drop c1.H (bx deep c1.H (ev c1.env (.t 48)))).get id=some o:=ho;rw [iq] at ho';split at ho'
   ·cases ho'
   ·exact R1.fresh id o ho'
 obtain⟨y,s2,g4,V2,A2,R2,_,K2⟩:=xk fm (nt:=96) GA _ _ _ _ (by kernel_rfl) hR2 (QG (ii k) (oX (gL k)) (fun r=>r=.b true) (SG h0 h1));obtain⟨v,q5,a,q6,t,q7,rfl⟩:=Kl (Q:=fun t=>t=.b true) R2 K2.2;cases q7;have ev1:=tX (d:=29) q6 (fun _ _ _ h=>by cases h) (fun _ h=>by cases h) (fun _ h=>by cases h);have hF:FF 0 y s2:=by
  refine⟨?_,v.2.1,v.2.2,?_⟩
  ·cases y with
   |exit _=>exact K2.1.elim
   |normal=>exact .inl rfl
   |ret=>exact .inr rfl
  ·show kW [.tmp 2] s2=_;rw [q5];obtain⟨v1,v2,v3⟩:=v;have e':v1=.bool true:=ev1;rw [e']
 have g5:(match qt (a_ prog) (bn prog) 96 (.aQ AZ) ⟨c1.env.put (some a48) 48,drop c1.H (bx deep c1.H (ev c1.env (.t 48))),c1.nx⟩ with
  |some (.normal,st)=>qt (a_ prog) (bn prog) 96 (match GA.code with|.seq _ b=>b|c=>c) st
  |r=>r)=some (y,s2):=g4
 split at g5
 ·rename_i s3 h3;have h4:=(u0 h3).2;rw [Ln];obtain⟨oo,ol,hol⟩:∃oo ol,(rO (sL rC)).toList=oo::ol:=by
   cases h:(rO (sL rC)).toList with
   |nil=>have hm:=mL;rw [h] at hm;cases hm
   |cons oo ol=>exact⟨oo,ol,rfl⟩
  have hm:=mL;rw [hol] at hm;refine ue (F8 KP KO hol hm o1 rfl i48 h4) ?_;exact(yQ g5 mE).mono fun _ x s h=>by obtain⟨rfl,rfl⟩:=h;exact hF
 ·rename_i hne;have:=u0 g5;obtain⟨rfl,h⟩:=this;exact absurd g5 (hne s2)
theorem body (n:Int):EX 96 (cw P cG) (T0 n) FF:=by obtain⟨k,hk1,hk2,hk⟩:=LJ n;rw [Lt];refine ue (uf (codeOk 1000) (mT (xb (d:=T0 n) (t1 n))) m0) ?_;rw [Ls];refine ue (uf (codeOk 1000) (mT (xb (d:=T0 n) (t2 n))) m1) ?_;rw [Lr];refine ue (uf (codeOk 1000) (mT (xb (d:=T0 n) (t3 n))) m2) ?_;rw [Lq];exact J9 (uf (codeOk 1000) (mT (xb (d:=T0 n) (t4 n))) m3) (rounds hk2 (fun st hs=>rest (by omega) hk2 hs) k 0 (by omega) (T4 n) (Ul n hk))
end Go.Ax.ek
end
