/- Part 10 of the proof: LaLa, LaEa, LaAb, LaCa, LaAc, LaAd. -/
import Derived.Test.YtamgnhdbeecapaaCa6
import Derived.Test.YtamgnhdbeecapaaCa7
import Derived.Test.YtamgnhdbeecapaaCa9
set_option linter.unusedSimpArgs false
set_option linter.unusedVariables false
noncomputable section
set_option maxRecDepth 100000
namespace Go.Ax.fE
open Go Go.Ax Go.Ax.V
theorem HU {f:Nat} {ts:List TV} {c:TV} (h:VS prog f ts (fun r=>r=c)):VS prog f ts (fun r'=>r'=c/\lT true c):=h.mono fun r hr=>⟨hr,trivial⟩
theorem Gm {s0 s1 s2 c0 c1 c2 c3:TV} (h53:VS prog 53 [.a [s0,s1,s2]] (fun r=>r=.b true)) (h54:VS prog 54 [.a [s0,s1,s2],.a [c0,c1,c2,c3]] (fun r=>r=.b true)):VS prog 22 [.a [s0,s1,s2],.a [c0,c1,c2,c3]] (fun r=>r=.b true):=by refine KV _ _ _ ?_;unfold Nv;exact⟨rfl,rfl,_,rfl,eZ h53 (bf rfl rfl (bf rfl rfl (bf rfl (HU h54) ⟨_,rfl,trivial,trivial,rfl⟩)))⟩
theorem Gl {s0 s1 s2 c0 c1 c2 c3 p0 p1 p2 e0 e1 e2 e3 d0 d1 d2 d3:TV} (h22:VS prog 22 [.a [s0,s1,s2],.a [c0,c1,c2,c3]] (fun r=>r=.b true))
  (h73:VS prog 73 [.a [s0,s1,s2],.a [c0,c1,c2,c3],.a [p0,p1,p2]] (fun r=>r=.tp [.a [e0,e1,e2,e3],.a [d0,d1,d2,d3]])):VS prog 52 [.a [s0,s1,s2],.a [c0,c1,c2,c3],.a [p0,p1,p2]] (fun r=>r=.tp [.a [e0,e1,e2,e3],.a [d0,d1,d2,d3],.i .i64 0]):=by
 refine KT _ _ _ _ ?_;unfold Nt;exact⟨rfl,rfl,rfl,_,rfl,_,rfl,eZ h22 ⟨_,rfl,cy rfl ⟨_,rfl,_,rfl,_,rfl,eZ h73 ⟨_,rfl,_,rfl,_,rfl,_,rfl,_,rfl,_,rfl,_,rfl,_,rfl,trivial,_,rfl,_,rfl,⟨rfl,rfl,rfl,trivial⟩,rfl⟩⟩⟩⟩
end Go.Ax.fE
set_option maxRecDepth 100000
namespace Go.Ax.fE
open Go Go.Ax Go.Ax.V
def MN (v:Int):TV:=.a [.i .i64 2,.i .i64 0,.i .i64 v,.l []]
def MR (c:Int):TV:=.a [.i .i64 1,.i .i64 c,.i .i64 0,.l []]
def uV (a b:Int):TV:=.tp [.i .i64 a,.i .i64 b]
def small (n:Int):Prop:=-2147483648<=n/\n<=2147483647
theorem K7 {e vs:TV} {e':TV} (n:Int) (hn:small n) (ht:e.iy=false) (hs:cG e 0 4=some e') (h:VS prog 58 [e',vs] (fun r=>r=uV n 0)):VS prog 35 [e,vs] (fun r=>r=uV n 0):=by
 refine KU _ _ _ ?_;unfold Nu;have h1:¬n < -2147483648:=by unfold small at hn;omega
 have h2:¬2147483647 < n:=by unfold small at hn;omega
 refine⟨ht,_,hs,eZ h ⟨_,rfl,_,rfl,_,rfl,cy rfl ⟨_,rfl,bf (EX h1) rfl (bf (EX h1) rfl ⟨_,(show fe (.b (t_ n (-2147483648))) _ _=some _ by rw [EX h1];rfl),cy (EX h2) ⟨trivial,AS rfl rfl,rfl⟩⟩)⟩⟩⟩
theorem K5 (x:Int) (r:List TV) (hx:small x):VS prog 35 [MN 0,.l (.i .i64 x::r)] (fun t=>t=uV x 0):=by refine K7 x hx rfl rfl ?_;refine F6 _ _ _ ?_;unfold KH;exact⟨rfl,_,rfl,_,rfl,cy rfl ⟨_,rfl,_,rfl,rfl,_,rfl,_,rfl,_,rfl,rfl,_,rfl,_,rfl,_,rfl,_,rfl,_,rfl,iV rfl ⟨_,rfl,_,⟨rfl,rfl⟩,_,rfl,⟨trivial,AS rfl rfl,rfl⟩⟩⟩⟩
theorem K6 (c:Int) (hc:small c) (vs:TV):VS prog 35 [MR c,vs] (fun t=>t=uV c 0):=by refine K7 c hc rfl rfl ?_;refine F6 _ _ _ ?_;unfold KH;exact⟨rfl,_,rfl,_,rfl,iV rfl ⟨_,rfl,trivial,AS rfl rfl,rfl⟩⟩
def KD:TV:=.a [.i .i64 8,.i .i64 0,.i .i64 0,.l [MN 0,MR 7]]
theorem K8 (a:Int):VS prog 103 [.i .i64 8,.i .i64 a,.i .i64 7] (fun r=>r=uV (a.tmod 7) 0):=by refine HR _ _ _ _ ?_;unfold Ks;exact⟨_,rfl,cy rfl ⟨_,rfl,cy rfl ⟨_,rfl,cy rfl ⟨_,rfl,cy rfl ⟨_,rfl,cy rfl ⟨_,IJ (by decide),trivial,AS rfl rfl,rfl⟩⟩⟩⟩⟩⟩
theorem ID (x:Int) (r:List TV) (hx:small x):VS prog 35 [KD,.l (.i .i64 x::r)] (fun t=>t=uV (x.tmod 7) 0):=by
 have hm:small (x.tmod 7):=by
  have h1:(x.tmod 7).natAbs < 7:=by rw [Int.natAbs_tmod];exact Nat.mod_lt _ (by decide)
  unfold small;omega
 have h80:VS prog 80 [KD,.l (.i .i64 x::r)] (fun t=>t=uV (x.tmod 7) 0):=by refine KN _ _ _ ?_;unfold Nn;exact⟨rfl,_,rfl,_,⟨rfl,rfl⟩,_,rfl,eZ (K5 x r hx) ⟨_,rfl,_,rfl,_,rfl,cy rfl ⟨_,rfl,_,⟨rfl,rfl⟩,_,rfl,eZ (K6 7 (by unfold small;omega) _) ⟨_,rfl,_,rfl,_,rfl,cy rfl ⟨_,rfl,eZ (K8 x) ⟨_,rfl,_,rfl,trivial,AS rfl rfl,rfl⟩⟩⟩⟩⟩⟩
 refine K7 _ hm rfl rfl ?_;refine F6 _ _ _ ?_;unfold KH;exact⟨rfl,_,rfl,_,rfl,cy rfl ⟨_,rfl,_,rfl,rfl,_,rfl,_,rfl,_,rfl,rfl,_,rfl,_,rfl,_,rfl,_,rfl,_,rfl,cy rfl ⟨_,rfl,_,rfl,rfl,_,rfl,_,rfl,_,rfl,_,rfl,cy rfl ⟨_,rfl,_,rfl,rfl,_,rfl,_,rfl,_,rfl,rfl,_,rfl,_,rfl,_,rfl,_,rfl,iV rfl ⟨_,rfl,eZ h80 ⟨_,rfl,_,rfl,trivial,AS rfl rfl,rfl⟩⟩⟩⟩⟩⟩
theorem FF {e:TV} {vs:TV} {args:List AV} {n:Int} (h:VS prog 35 [e,vs] (fun t=>t=uV n 0)) (hc:eC [e,vs] args):∃H nx,aM prog 35 args .leaf 0=some (.dL [.int .i64 n,.int .i64 0],H,nx):=by
 obtain⟨v,H,nx,h1,a,h2,r,h3,rfl⟩:=h args hc;have ha:a=.dL [.int .i64 n,.int .i64 0]:=oP 9 (uV n 0) (.dL [.int .i64 n,.int .i64 0]) a rfl h3;subst ha;have hv:v=.dL [.int .i64 n,.int .i64 0]:=by
  have h2':aN (29+1) H v=some (.dL [.int .i64 n,.int .i64 0]):=h2;cases v with
  |dL cs=>
   rw [fF] at h2';cases hm:cr (aN 29 H) cs with
   |none=>rw [hm] at h2';cases h2'
   |some zs=>
    rw [hm] at h2';have e:zs=[.int .i64 n,.int .i64 0]:=by injection h2' with h2';injection h2'
    subst e;have hl:=(eU hm).1;have hg:=(eU hm).2
    match cs,hl,hm with
    |[x,y],_,hm=>
     rw [bZ,bZ] at hm;cases hx:aN 29 H x with
     |none=>rw [hx] at hm;cases hm
     |some x'=>
      cases hy:aN 29 H y with
      |none=>rw [hx,hy] at hm;cases hm
      |some y'=>
       rw [hx,hy] at hm;have e:[x',y']=[.int .i64 n,.int .i64 0]:=by injection hm
       injection e with e1 e2
       injection e2 with e2 _
       subst e1;subst e2;rw [nH (d:=28) hx (fun _ _ _ h=>by cases h) (fun _ h=>by cases h) (fun _ h=>by cases h),nH (d:=28) hy (fun _ _ _ h=>by cases h) (fun _ h=>by cases h) (fun _ h=>by cases h)]
  |ref id g off es len cap ex=>
   rw [ei] at h2';exfalso;simp only [cond_eq_ite] at h2'
   repeat' split at h2'
   all_goals simp at h2'
  |agg cs=>exfalso;have h3':(match cr (aN 29 H) cs with|some cs=>some (AV.agg cs)|none=>none)=some (.dL [.int .i64 n,.int .i64 0]):=h2';split at h3'<;>cases h3'
  |_=>first|(cases h2';done)|(injection h2' with h2';cases h2')
 subst hv;exact⟨H,nx,h1⟩
end Go.Ax.fE
set_option maxRecDepth 100000
namespace Go.Ax.fE
open Go Go.Ax Go.Ax.V
abbrev zI (n:Int):AV:=.int .i64 n
def HP:List AV:=[zI 0,zI 0,zI 0,.ak]
def Eh:List AV:=[zI 1,zI 1,zI 0,.ak]
def BQ:List AV:=[zI 8,zI 0,zI 0,.b5 [zI 2,zI 0,zI 0,.ak,zI 1,zI 7,zI 0,.ak] 2 none]
def HO:List AV:=zI 0::(HP++HP)
def KA (a b k v:Int) (e c:List AV):List AV:=[zI a,zI b,zI k,zI v,zI 0,zI 0]++(e++c)
def MV:AV:=.b5 (KA 0 2 2 0 HP (zI 1::(Eh++Eh))++(KA 0 1 2 0 HP (zI 2::(Eh++Eh))++(KA 2 3 6 0 HP HO++KA 3 0 1 1 BQ HO))) 4 none
def KC:AV:=.b5 [zI 4,MV,.b5 [zI 0] 1 none,zI 4,MV,.b5 [zI 0] 1 none] 2 none
def KB:AV:=.b5 [zI 2,zI 2] 2 none
def sA:AV:=.agg [.ak,KC,KB]
def F0 (x y:Int):AV:=.b5 [zI x,zI y] 2 none
def Hu (a b c d:Int):AV:=.b5 [.b5 [zI a,zI b] 2 none,.b5 [zI c,zI d] 2 none] 2 none
def HL (f:Bool):AV:=match f with|true=>.b5 [] 0 none|false=>.ak
def HK (f:Bool):AV:=match f with|true=>.b5 [] 0 none|false=>.b5 [] 0 (some 0)
def cA (f:Bool) (x y a b c d:Int):AV:=.agg [F0 x y,Hu a b c d,HL f,HK f]
def pA (p n:Int):AV:=.agg [zI p,.bool false,zI n]
def dA:AV:=.agg [.bool true,zI 0,zI 0,zI 0]
def wI (n:Int):Int:=eY .i64 (eY .i32 n)
theorem Oi:u7 prog 1000 53 [sA]=some (.bool true):=by kernel_rfl
theorem Ml (y a b c d n:Int):u7 prog 1000 73 [sA,cA true 0 y a b c d,pA 0 n]=some (.dL [cA false 2 y a b c d,dA]):=by kernel_rfl
theorem Mm (y a b c d n:Int):u7 prog 1000 73 [sA,cA false 0 y a b c d,pA 0 n]=some (.dL [cA false 2 y a b c d,dA]):=by kernel_rfl
theorem Om (y a b c d n:Int):u7 prog 1000 73 [sA,cA false 2 y a b c d,pA 0 n]=some (.dL [cA false 3 y (wI n) b c d,dA]):=by kernel_rfl
theorem Mj (x a b c d n:Int):u7 prog 1000 73 [sA,cA true x 0 a b c d,pA 1 n]=some (.dL [cA false x 2 a b c d,dA]):=by kernel_rfl
theorem Mk (x a b c d n:Int):u7 prog 1000 73 [sA,cA false x 0 a b c d,pA 1 n]=some (.dL [cA false x 2 a b c d,dA]):=by kernel_rfl
theorem Ok (x a b c d n:Int):u7 prog 1000 73 [sA,cA false x 2 a b c d,pA 1 n]=some (.dL [cA false x 3 a b (wI n) d,dA]):=by kernel_rfl
def BL:AV×av×Nat:=(.jm,.leaf,0)
def eg (args:List AV):fO:=Mo (fR prog 1000 98 BL Ef args .leaf 0)
def cS (q:fO):fO:=Mo (fR prog 1000 130 BL Ee q.args q.H q.nx)
def AK (q:fO):fO:=Mo (fR prog 1000 35 BL ta q.args q.H q.nx)
def qc (q:fO) (ans:AV×av×Nat):AV×av×Nat:=(fo prog 1000 35 ans ta q.args q.H q.nx).getD BL
def F1 (q:fO) (ans:AV×av×Nat):AV×av×Nat:=(fo prog 1000 130 ans Ee q.args q.H q.nx).getD BL
def KI (args:List AV) (ans:AV×av×Nat):AV×av×Nat:=(fo prog 1000 98 ans Ef args .leaf 0).getD BL
abbrev aE (z:Int) (H:av) (m:Nat):AV×av×Nat:=(.dL [zI z,zI 0],H,m)
def A0 (y a b c d n:Int):List AV:=[sA,cA false 3 y a b c d,pA 0 n]
theorem IL (y a b c d n:Int):(AK (cS (eg (A0 y a b c d n))))=⟨35,[.agg BQ,.b5 [zI a,zI b] 2 none],.leaf,0⟩:=by kernel_rfl
theorem Hf (y a b c d n:Int):(cS (eg (A0 y a b c d n))).f=130:=by kernel_rfl
theorem Jo (y a b c d n:Int):(eg (A0 y a b c d n)).f=98:=by kernel_rfl
theorem G0 (y a b c d n:Int):(cS (eg (A0 y a b c d n))).args.length=1:=by kernel_rfl
theorem Jc (y a b c d n:Int):(eg (A0 y a b c d n)).args.length=1:=by kernel_rfl
theorem Ji (y a b c d n z:Int) (H:av) (m:Nat):fR prog 1000 35 (aE z H m) ta (cS (eg (A0 y a b c d n))).args (cS (eg (A0 y a b c d n))).H (cS (eg (A0 y a b c d n))).nx=[(AK (cS (eg (A0 y a b c d n))))]:=by kernel_rfl
theorem Gp (y a b c d n z:Int) (H:av) (m:Nat):(fo prog 1000 35 (aE z H m) ta (cS (eg (A0 y a b c d n))).args (cS (eg (A0 y a b c d n))).H (cS (eg (A0 y a b c d n))).nx).isSome=true:=by kernel_rfl
theorem G7 (y a b c d n z:Int) (H:av) (m:Nat):fR prog 1000 130 (qc (cS (eg (A0 y a b c d n))) (aE z H m)) Ee (eg (A0 y a b c d n)).args (eg (A0 y a b c d n)).H (eg (A0 y a b c d n)).nx=[(cS (eg (A0 y a b c d n)))]:=by kernel_rfl
theorem IA (y a b c d n z:Int) (H:av) (m:Nat):(fo prog 1000 130 (qc (cS (eg (A0 y a b c d n))) (aE z H m)) Ee (eg (A0 y a b c d n)).args (eg (A0 y a b c d n)).H (eg (A0 y a b c d n)).nx).isSome=true:=by kernel_rfl
theorem Jg (y a b c d n z:Int) (H:av) (m:Nat):fR prog 1000 98 (F1 (eg (A0 y a b c d n)) (qc (cS (eg (A0 y a b c d n))) (aE z H m))) Ef (A0 y a b c d n) .leaf 0=[(eg (A0 y a b c d n))]:=by kernel_rfl
theorem IC (y a b c d n z:Int) (H:av) (m:Nat):(fo prog 1000 98 (F1 (eg (A0 y a b c d n)) (qc (cS (eg (A0 y a b c d n))) (aE z H m))) Ef (A0 y a b c d n) .leaf 0).isSome=true:=by kernel_rfl
theorem Ie (y a b c d n z:Int) (H:av) (m:Nat):aN deep (KI (A0 y a b c d n) (F1 (eg (A0 y a b c d n)) (qc (cS (eg (A0 y a b c d n))) (aE z H m)))).2.1 (KI (A0 y a b c d n) (F1 (eg (A0 y a b c d n)) (qc (cS (eg (A0 y a b c d n))) (aE z H m)))).1=some (.dL [cA false 0 y a z c d,dA]):=by kernel_rfl
def A1 (x a b c d n:Int):List AV:=[sA,cA false x 3 a b c d,pA 1 n]
theorem IK (x a b c d n:Int):(AK (cS (eg (A1 x a b c d n))))=⟨35,[.agg BQ,.b5 [zI c,zI d] 2 none],.leaf,0⟩:=by kernel_rfl
theorem He (x a b c d n:Int):(cS (eg (A1 x a b c d n))).f=130:=by kernel_rfl
theorem Jn (x a b c d n:Int):(eg (A1 x a b c d n)).f=98:=by kernel_rfl
theorem GZ (x a b c d n:Int):(cS (eg (A1 x a b c d n))).args.length=1:=by kernel_rfl
theorem Jb (x a b c d n:Int):(eg (A1 x a b c d n)).args.length=1:=by kernel_rfl
theorem Jh (x a b c d n z:Int) (H:av) (m:Nat):fR prog 1000 35 (aE z H m) ta (cS (eg (A1 x a b c d n))).args (cS (eg (A1 x a b c d n))).H (cS (eg (A1 x a b c d n))).nx=[(AK (cS (eg (A1 x a b c d n))))]:=by kernel_rfl
theorem Gn (x a b c d n z:Int) (H:av) (m:Nat):(fo prog 1000 35 (aE z H m) ta (cS (eg (A1 x a b c d n))).args (cS (eg (A1 x a b c d n))).H (cS (eg (A1 x a b c d n))).nx).isSome=true:=by kernel_rfl
theorem G6 (x a b c d n z:Int) (H:av) (m:Nat):fR prog 1000 130 (qc (cS (eg (A1 x a b c d n))) (aE z H m)) Ee (eg (A1 x a b c d n)).args (eg (A1 x a b c d n)).H (eg (A1 x a b c d n)).nx=[(cS (eg (A1 x a b c d n)))]:=by kernel_rfl
theorem Iz (x a b c d n z:Int) (H:av) (m:Nat):(fo prog 1000 130 (qc (cS (eg (A1 x a b c d n))) (aE z H m)) Ee (eg (A1 x a b c d n)).args (eg (A1 x a b c d n)).H (eg (A1 x a b c d n)).nx).isSome=true:=by kernel_rfl
theorem Jf (x a b c d n z:Int) (H:av) (m:Nat):fR prog 1000 98 (F1 (eg (A1 x a b c d n)) (qc (cS (eg (A1 x a b c d n))) (aE z H m))) Ef (A1 x a b c d n) .leaf 0=[(eg (A1 x a b c d n))]:=by kernel_rfl
theorem IB (x a b c d n z:Int) (H:av) (m:Nat):(fo prog 1000 98 (F1 (eg (A1 x a b c d n)) (qc (cS (eg (A1 x a b c d n))) (aE z H m))) Ef (A1 x a b c d n) .leaf 0).isSome=true:=by kernel_rfl
theorem Ic (x a b c d n z:Int) (H:av) (m:Nat):aN deep (KI (A1 x a b c d n) (F1 (eg (A1 x a b c d n)) (qc (cS (eg (A1 x a b c d n))) (aE z H m)))).2.1 (KI (A1 x a b c d n) (F1 (eg (A1 x a b c d n)) (qc (cS (eg (A1 x a b c d n))) (aE z H m)))).1=some (.dL [cA false x 0 a b c z,dA]):=by kernel_rfl
end Go.Ax.fE
set_option maxRecDepth 100000
namespace Go.Ax.fE
open Go Go.Ax Go.Ax.V Go.Ax.Ft
theorem K4 (a n:Int):VS prog 77 [ii a,ii n] (fun r=>r=.b (wi a n)):=by
 refine KQ _ _ _ ?_;unfold Nq
 (repeat (first|refine Gc ?_|refine Gb ?_))
 refine⟨trivial,trivial,?_⟩;simp only [z9,wi,C1]
theorem MP (a:Int):VS prog 78 [ii a] (fun r=>r=.b (ga a)):=by
 refine KP _ _ ?_;unfold Np
 (repeat (first|refine Gc ?_|refine Gb ?_))
 refine⟨trivial,trivial,?_⟩;simp only [z9,ga,C1]
theorem NB (cs:List Ch) (gs:List Gr) (vs:List Int) (c:Cf):VS prog 76 [mP cs gs vs,nS c] (fun r=>r=.b (iU cs.length gs.length c)):=by
 refine KR _ _ _ ?_;unfold Nr
 (repeat (first|refine Gc ?_|refine Gb ?_))
 refine⟨trivial,trivial,?_⟩;simp only [Dz,iU,OG]
theorem NA (x:Ch) (q:List (Int×Int)) (hq:q.length<=4194304):VS prog 79 [uz x,Ff q] (fun r=>r=.b (mG x q)):=by
 have hml:(q.map DB).length=q.length:=OG _;refine KO _ _ _ ?_;unfold No;refine⟨rfl,_,rfl,fun n o5 x6 x7 x8 x9=>∃i:Nat,i<=q.length/\n=q.length - i/\o5=uz x/\x6=Ff q/\x7=.l (q.map DB)/\x8=ii q.length/\x9=ii i/\(q.take i).all (Bb x)=true,⟨_,0,by omega,rfl,rfl,rfl,rfl,by rw [hml],rfl,rfl⟩,?_⟩;rintro n o5 x6 x7 x8 x9 ⟨i,hi,rfl,rfl,rfl,rfl,rfl,rfl,hall⟩;refine⟨_,rfl,d_ (fun h3=>?_) (fun h3=>?_)⟩
 ·replace h3:=vm h3;obtain⟨m,hx⟩:∃m,q[i]?=some m:=⟨_,Ov h3⟩;have hx':(q.map DB)[i]?=some (DB m):=by rw [Oz,hx];rfl
  have h77:=K4 m.1 x.tags;have h78:=MP m.2;refine⟨_,⟨js hx',rfl⟩,_,rfl,_,rfl,_,rfl,_,rfl,eZ h77 ⟨_,l7 _,?_⟩⟩;have bad:∀t:Bool,Bb x m=false->mG x q=false:=fun t h=>by unfold mG;rw [qj hx h];rfl
  cases hw:wi m.1 x.tags with
  |false=>refine⟨rfl,gq rfl (gq rfl (gq rfl ⟨_,rfl,iV rfl ⟨trivial,trivial,?_⟩⟩))⟩;rw [bad true (by unfold Bb;rw [hw];rfl)]
  |true=>
   refine⟨rfl,bf rfl rfl (bf rfl (AP h78) (bf rfl (l7 _) ⟨_,rfl,d_ (fun h=>?_) (fun h=>?_)⟩))⟩
   ·have h':ga m.2=false:=by simpa using h
    refine⟨trivial,trivial,?_⟩;rw [bad true (by unfold Bb;rw [hw,h'];rfl)]
   ·have h':ga m.2=true:=by simpa using h
    exact⟨_,vi h3 (by omega),_,by omega,i+1,by omega,rfl,rfl,rfl,rfl,rfl,rfl,m4 hx hall (by unfold Bb;rw [hw,h'];rfl)⟩
 ·obtain rfl:=vr hi h3;rw [List.take_length] at hall;refine⟨_,rfl,_,rfl,_,rfl,trivial,trivial,?_⟩;rw [hml,z9,C1];unfold mG;rw [hall];rfl
theorem NC (cs:List Ch) (gs:List Gr) (vs:List Int) (c:Cf) (hv:gs.length<=vs.length) (hc:cs.length<=4194304) (hg:gs.length<=4194304) (hz:Ga c):VS prog 54 [mP cs gs vs,nS c] (fun r=>r=.b (j4 cs gs vs c)):=by
 have h76:=NB cs gs vs c;have hml:(gs.map xQ).length=gs.length:=OG _;have hmc:(cs.map uz).length=cs.length:=OG _;refine KS _ _ _ ?_;unfold Ns;refine⟨rfl,rfl,_,rfl,_,rfl,eZ h76 ⟨_,l7 _,d_ (fun h=>?_) (fun h=>?_)⟩⟩
 ·have h':iU cs.length gs.length c=false:=by simpa using h
  refine⟨trivial,trivial,?_⟩;unfold j4;rw [h'];rfl
 have hcn:iU cs.length gs.length c=true:=by simpa using h
 obtain⟨⟨⟨l1,l2⟩,l3⟩,l4⟩:(((c.pos.length:Int)=gs.length/\(c.vars.length:Int)=gs.length)/\(c.iZ.length:Int)=cs.length)/\(c.states.length:Int)=cs.length:=by simpa [iU] using hcn
 refine⟨_,rfl,_,rfl,?_⟩;refine⟨fun n o10 o11 x12 x13 x14=>∃i:Nat,i<=gs.length/\n=gs.length - i/\o10=mP cs gs vs/\o11=nS c/\x12=.l (gs.map xQ)/\x13=ii gs.length/\x14=ii i/\((List.range gs.length).take i).all (rm gs vs c)=true,⟨_,0,by omega,rfl,rfl,rfl,rfl,by rw [hml],rfl,rfl⟩,?_⟩;rintro n o10 o11 x12 x13 x14 ⟨i,hi,rfl,rfl,rfl,rfl,rfl,rfl,hall⟩;refine⟨_,rfl,d_ (fun h3=>?_) (fun h3=>?_)⟩
 ·replace h3:=vm h3;have hr:=tI h3;have bad:rm gs vs c i=false->j4 cs gs vs c=false:=fun h=>by unfold j4;rw [qj hr h];simp
  have hx:=get_map (f:=xQ) Mp h3;have hp:=get_map (f:=ii) (0:Int) (l:=c.pos) (i:=i) (by omega);have hvr:=get_map (f:=DA) ([]:List Int) (l:=c.vars) (i:=i) (by omega);have hvs:=get_map (f:=ii) (0:Int) (l:=vs) (i:=i) (by omega);have hlen:(c.vars.getD i []).length<=4194304:=hz.var _ (xH (by omega));generalize hG:gs.getD i Mp=G at hx;generalize hP:c.pos.getD i 0=P at hp;generalize hV:c.vars.getD i []=Vr at hvr hlen;generalize hN:vs.getD i 0=N at hvs;have hpb:rm gs vs c i=(wi P G.nodes&&decide ((Vr.length:Int)=N)&&Vr.all ga):=by unfold rm;rw [hG,hP,hV,hN]
  rw [hpb] at bad;have h77:=K4 P G.nodes;have hmv:(Vr.map ii).length=Vr.length:=OG _;refine⟨_,⟨js hx,rfl⟩,_,rfl,_,rfl,_,rfl,_,⟨js hp,rfl⟩,_,rfl,_,rfl,eZ h77 ⟨_,l7 _,?_⟩⟩;cases hw:wi P G.nodes with
  |false=>refine⟨rfl,gq rfl (gq rfl (gq rfl ⟨rfl,gq rfl (gq rfl ⟨rfl,gq rfl (gq rfl (gq rfl ⟨rfl,gq rfl (gq rfl ⟨_,rfl,iV rfl ⟨trivial,trivial,?_⟩⟩)⟩))⟩)⟩))⟩;rw [bad (by rw [hw];rfl)]
  |true=>
   refine⟨rfl,bf rfl rfl (bf rfl rfl (bf rfl ⟨js hvr,rfl⟩ ⟨rfl,bf rfl rfl (bf rfl rfl ⟨rfl,bf rfl rfl (bf rfl rfl (bf rfl ⟨js hvs,rfl⟩ ⟨rfl,bf rfl rfl (bf rfl (I7 _ _) ⟨_,rfl,d_ (fun h=>?_) (fun h=>?_)⟩)⟩))⟩)⟩))⟩
   ·have h':decide ((Vr.length:Int)=N)=false:=by rw [hmv,Dz] at h;simpa using h
    refine⟨trivial,trivial,?_⟩;rw [bad (by rw [hw,h'];rfl)]
   ·have h':decide ((Vr.length:Int)=N)=true:=by rw [hmv,Dz] at h;simpa using h
    refine⟨_,rfl,_,⟨js hvr,rfl⟩,_,rfl,_,rfl,?_⟩;refine⟨fun n o43 o44 x45 x46 x47 x48 x49 x50=>∃j:Nat,j<=Vr.length/\n=Vr.length - j/\o43=mP cs gs vs/\o44=nS c/\x45=.l (gs.map xQ)/\x46=ii gs.length/\x47=ii i/\x48=.l (Vr.map ii)/\x49=ii Vr.length/\x50=ii j/\(Vr.take j).all ga=true,⟨_,0,by omega,rfl,rfl,rfl,rfl,rfl,rfl,rfl,by rw [hmv],rfl,rfl⟩,?_⟩;rintro n o43 o44 x45 x46 x47 x48 x49 x50 ⟨j,hj,rfl,rfl,rfl,rfl,rfl,rfl,rfl,rfl,rfl,qxw⟩;refine⟨_,rfl,d_ (fun h5=>?_) (fun h5=>?_)⟩
    ·replace h5:=vm h5;obtain⟨m,hy⟩:∃m,Vr[j]?=some m:=⟨_,Ov h5⟩;have hy':(Vr.map ii)[j]?=some (ii m):=by rw [Oz,hy];rfl
     refine⟨_,⟨js hy',rfl⟩,_,rfl,eZ (MP m) ⟨_,l7 _,d_ (fun h=>?_) (fun h=>?_)⟩⟩
     ·have h6:ga m=false:=by simpa using h
      refine⟨trivial,trivial,?_⟩;rw [bad (by rw [qj hy h6];simp)]
     ·have h6:ga m=true:=by simpa using h
      exact⟨_,vi h5 (by omega),_,by omega,j+1,by omega,rfl,rfl,rfl,rfl,rfl,rfl,rfl,rfl,rfl,m4 hy qxw h6⟩
    ·obtain rfl:=vr hj h5;rw [List.take_length] at qxw;exact⟨_,vi h3 (by omega),_,by omega,i+1,by omega,rfl,rfl,rfl,rfl,rfl,rfl,m4 hr hall (by rw [hpb,hw,h',qxw];rfl)⟩
 ·obtain rfl:=vr hi h3;rw [ri] at hall;refine⟨_,rfl,_,rfl,?_⟩;refine⟨fun n o63 x64 x65 x66=>∃i:Nat,i<=cs.length/\n=cs.length - i/\o63=nS c/\x64=.l (cs.map uz)/\x65=ii cs.length/\x66=ii i/\((List.range cs.length).take i).all (xY cs c)=true,⟨_,0,by omega,rfl,rfl,rfl,by rw [hmc],rfl,rfl⟩,?_⟩;rintro n o63 x64 x65 x66 ⟨i,hi,rfl,rfl,rfl,rfl,rfl,qxw⟩;refine⟨_,rfl,d_ (fun h3=>?_) (fun h3=>?_)⟩
  ·replace h3:=vm h3;have hr:=tI h3;have bad:xY cs c i=false->j4 cs gs vs c=false:=fun h=>by unfold j4;rw [qj hr h];simp
   have hx:=get_map (f:=uz) KG h3;have hq:=get_map (f:=Ff) ([]:List (Int×Int)) (l:=c.iZ) (i:=i) (by omega);have hs:=get_map (f:=ii) (0:Int) (l:=c.states) (i:=i) (by omega);have hlen:(c.iZ.getD i []).length<=4194304:=hz.queue _ (xH (by omega));generalize hG:cs.getD i KG=X at hx;generalize hP:c.iZ.getD i []=Qe at hq hlen;generalize hV:c.states.getD i 0=S at hs;have hpb:xY cs c i=(mG X Qe&&wi S (max (X.rule.length:Int) 1)):=by unfold xY;rw [hG,hP,hV]
   rw [hpb] at bad;have h79:=NA X Qe hlen;have h77:=K4 S (max (X.rule.length:Int) 1);have hmr:(X.rule.map DA).length=X.rule.length:=OG _;have sY:C4 true [ii (X.rule.map DA).length,ii 1]=some (ii (max (X.rule.length:Int) 1)):=by
    rw [hmr];show some (TV.i .i64 (bif t_ (X.rule.length:Int) 1 then 1 else (X.rule.length:Int)))=_;rw [z9];by_cases h:(X.rule.length:Int) < 1
    ·rw [decide_eq_true h];simp only [cond_true];congr 2;omega
    ·rw [decide_eq_false h];simp only [cond_false];congr 2;omega
   refine⟨_,⟨js hx,rfl⟩,_,rfl,_,rfl,_,rfl,_,rfl,_,⟨js hq,rfl⟩,_,rfl,eZ h79 ⟨_,l7 _,?_⟩⟩;cases hw:mG X Qe with
   |false=>refine⟨rfl,gq rfl (gq rfl (gq rfl ⟨rfl,gq rfl ⟨rfl,gq rfl (gq rfl (gq rfl (gq rfl (gq rfl ⟨_,rfl,iV rfl ⟨trivial,trivial,?_⟩⟩))))⟩⟩))⟩;rw [bad (by rw [hw];rfl)]
   |true=>
    refine⟨rfl,bf rfl rfl (bf rfl rfl (bf rfl ⟨js hs,rfl⟩ ⟨rfl,bf rfl rfl ⟨rfl,bf rfl rfl (bf rfl rfl (bf rfl sY (bf rfl (AP h77) (bf rfl (l7 _) ⟨_,rfl,d_ (fun h=>?_) (fun h=>?_)⟩))))⟩⟩))⟩
    ·have h':wi S (max (X.rule.length:Int) 1)=false:=by simpa using h
     refine⟨trivial,trivial,?_⟩;rw [bad (by rw [hw,h'];rfl)]
    ·have h':wi S (max (X.rule.length:Int) 1)=true:=by simpa using h
     exact⟨_,vi h3 (by omega),_,by omega,i+1,by omega,rfl,rfl,rfl,rfl,rfl,m4 hr qxw (by rw [hpb,hw,h'];rfl)⟩
  ·obtain rfl:=vr hi h3;rw [ri] at qxw;refine⟨trivial,trivial,?_⟩;unfold j4;rw [hcn,hall,qxw];rfl
end Go.Ax.fE
set_option maxRecDepth 100000
namespace Go.Ax.fE
open Go Go.Ax Go.Ax.V
open Go.Ax.Ft (Gr Ed Ex Co Cf mP nS Ba GG j4 iU rm wi ga Ga)
abbrev jn (n:Int):TV:=.i .i64 n
abbrev pn (x:AV):TV:=.pW x (AR 20 x)
def fK (f:Bool) (x y a b c d:Int):TV:=.a [pn (F0 x y),pn (Hu a b c d),pn (HL f),pn (HK f)]
def m5:TV:=.a [pn .ak,pn KC,pn KB]
def IM (p n:Int):TV:=.a [jn p,.b false,jn n]
def Hr:TV:=.a [.b true,jn 0,jn 0,jn 0]
theorem vO {ts:List TV} {bs:List AV} (h:eC ts bs) (hf:bs.all AV.flat=true):V.Can (.a ts) (.agg bs):=.a ts bs h.1 (fun x hx=>OU.1 hf x hx) h.2
theorem mR {x:AV} (hr:Ck x=true) (hg:r_ 20 x=true):V.Can (pn x) x:=Fu hr hg rfl
theorem vN (f:Bool) (x y a b c d:Int):V.Can (fK f x y a b c d) (cA f x y a b c d):=
 vO (bw (mR rfl (by kernel_rfl)) (bw (mR rfl (by kernel_rfl)) (bw (mR (by cases f<;>rfl) (by cases f<;>kernel_rfl)) (bw (mR (by cases f<;>rfl) (by cases f<;>kernel_rfl)) ey)))) (by cases f<;>rfl)
theorem Fv {x:AV} {t:TV} (hg:r_ 20 x=true) (he:AR 20 x=t):V.Can t x:=he▸nV 20 x hg
theorem Fs:V.Can m5 sA:=vO (bw (mR rfl rfl) (bw (mR rfl (by kernel_rfl)) (bw (mR rfl (by kernel_rfl)) ey))) rfl
theorem Ht:V.Can Hr dA:=vO (bw (.b _) (bw (.i _ _) (bw (.i _ _) (bw (.i _ _) ey)))) rfl
theorem iW (f:Bool) (x y a b c d:Int):V.Can (.tp [fK f x y a b c d,Hr]) (.dL [cA f x y a b c d,dA]):=
 have h:eC [fK f x y a b c d,Hr] [cA f x y a b c d,dA]:=bw (vN f x y a b c d) (bw Ht ey)
 .tp _ _ h.1 (fun z hz=>by
  rcases OP.1 hz with rfl|hz
  ·cases f<;>rfl
  ·rw [OS.1 hz];rfl) h.2
def Ao:Ex:=.mk 1 1 0 []
def Jp:Ex:=.mk 8 0 0 [.mk 2 0 0 [],.mk 1 7 0 []]
def gA:Gr:=⟨4,[⟨0,2,2,0,0,0,Ba,⟨1,Ao,Ao⟩⟩,⟨0,1,2,0,0,0,Ba,⟨2,Ao,Ao⟩⟩,⟨2,3,6,0,0,0,Ba,GG⟩,⟨3,0,1,1,0,0,Jp,GG⟩],[0]⟩
def cF (x y a b c d:Int):Cf:=⟨[x,y],[[a,b],[c,d]],[],[]⟩
theorem Mz:V.Can (mP [] [gA,gA] [2,2]) sA:=by
 have h:=nV 20 sA (by kernel_rfl);have e:AR 20 sA=mP [] [gA,gA] [2,2]:=by kernel_rfl
 exact e▸h
theorem MA:∀(f:Bool) (x y a b c d:Int),V.Can (nS (cF x y a b c d)) (cA f x y a b c d)
 |true,x,y,a,b,c,d=>by
  have h:=nV 20 (cA true x y a b c d) (by kernel_rfl);have e:AR 20 (cA true x y a b c d)=nS (cF x y a b c d):=by kernel_rfl
  exact e▸h
 |false,x,y,a,b,c,d=>by
  have h:=nV 20 (cA false x y a b c d) (by kernel_rfl);have e:AR 20 (cA false x y a b c d)=nS (cF x y a b c d):=by kernel_rfl
  exact e▸h
def BG (x:Int):Prop:=x=0\/x=2\/x=3
def nX (x:Int):Int:=if x=0 then 2 else if x=2 then 3 else 0
def nA (n x a:Int):Int:=if x=2 then wI n else a
def nB (x a b:Int):Int:=if x=3 then a.tmod 7 else b
theorem BT (n:Int):small (wI n):=by have h1:=wf_wrap .i32 n;rw [←j_] at h1;have h2:=bounds_i32 h1;unfold wI;rw [uS (by omega) (by omega)];exact h2
theorem Cl (a:Int):small (a.tmod 7):=by
 have h1:(a.tmod 7).natAbs < 7:=by rw [Int.natAbs_tmod];exact Nat.mod_lt _ (by decide)
 unfold small;omega
theorem CV {x:Int} (h:BG x):BG (nX x):=by
 rcases h with rfl|rfl|rfl
 ·exact .inr (.inl rfl)
 ·exact .inr (.inr rfl)
 ·exact .inl rfl
theorem xe {n x a:Int} (h:small a):small (nA n x a):=by
 unfold nA;split
 ·exact BT n
 ·exact h
theorem xd {x a b:Int} (h:small b):small (nB x a b):=by
 unfold nB;split
 ·exact Cl a
 ·exact h
theorem like {x y a b c d:Int} (hx:BG x) (hy:BG y) (ha:small a) (hb:small b) (hc:small c) (hd:small d):j4 [] [gA,gA] [2,2] (cF x y a b c d)=true:=by
 unfold small at ha hb hc hd;have hx':0<=x/\x < 4:=by rcases hx with rfl|rfl|rfl<;>omega
 have hy':0<=y/\y < 4:=by rcases hy with rfl|rfl|rfl<;>omega
 simp [j4,iU,rm,wi,ga,cF,gA,List.range,List.range.loop];omega
theorem KL:VS prog 53 [m5] (fun r=>r=.b true):=mc (k:=1000) (args:=[sA]) rfl Oi (.b true) rfl
theorem KK {f:Bool} {x y a b c d:Int} (hl:j4 [] [gA,gA] [2,2] (cF x y a b c d)=true):VS prog 54 [m5,fK f x y a b c d] (fun r=>r=.b true):=by intro zs ha;have e:zs=[sA,cA f x y a b c d]:=ux (oP 9) rfl ha.1 ha.2;subst e;have hz:Ga (cF x y a b c d):=⟨by simp [cF],by simp [cF],by simp [cF],by simp [cF],by simp [cF],by simp [cF]⟩;have h:=NC [] [gA,gA] [2,2] (cF x y a b c d) (by simp) (by simp) (by simp) hz [sA,cA f x y a b c d] (bw Mz (bw (MA f x y a b c d) ey));rw [hl] at h;exact h
theorem Ol (y a b c d n:Int) (hs:small a):VS prog 73 [m5,fK false 3 y a b c d,IM 0 n] (fun r=>r=.tp [fK false 0 y a (a.tmod 7) c d,Hr]):=by
 have hc:eC [KD,.l (jn a::[jn b])] [.agg BQ,.b5 [zI a,zI b] 2 none]:=bw (Fv (by kernel_rfl) (by kernel_rfl)) (bw (Fv (by kernel_rfl) (by kernel_rfl)) ey);obtain⟨H,m,h35⟩:=FF (ID a [jn b] hs) hc;have e35:=IL y a b c d n;have hX:aM prog (AK (cS (eg (A0 y a b c d n)))).f (AK (cS (eg (A0 y a b c d n)))).args (AK (cS (eg (A0 y a b c d n)))).H (AK (cS (eg (A0 y a b c d n)))).nx=some (aE (a.tmod 7) H m):=by rw [e35];exact h35
 rw [show (AK (cS (eg (A0 y a b c d n)))).f=35 by rw [e35]] at hX;have qjn:=oJ (prog:=prog) (k:=1000) (f:=130) (g:=35) (af:=ta) (by kernel_rfl) (G0 y a b c d n) hX (by rw [e35]) (Ji y a b c d n (a.tmod 7) H m) (jl (d:=BL) (Gp y a b c d n (a.tmod 7) H m));have h98:=oJ (prog:=prog) (k:=1000) (f:=98) (g:=130) (af:=Ee) (by kernel_rfl) (Jc y a b c d n) qjn (Hf y a b c d n) (G7 y a b c d n (a.tmod 7) H m) (jl (d:=BL) (IA y a b c d n (a.tmod 7) H m));have h73:=oJ (prog:=prog) (k:=1000) (f:=73) (g:=98) (af:=Ef) (by kernel_rfl) rfl h98 (Jo y a b c d n) (Jg y a b c d n (a.tmod 7) H m) (jl (d:=BL) (IC y a b c d n (a.tmod 7) H m));exact zK (args:=(A0 y a b c d n)) rfl h73 (Ie y a b c d n (a.tmod 7) H m) (iW false 0 y a (a.tmod 7) c d) rfl
theorem Oj (x a b c d n:Int) (hs:small c):VS prog 73 [m5,fK false x 3 a b c d,IM 1 n] (fun r=>r=.tp [fK false x 0 a b c (c.tmod 7),Hr]):=by
 have hc:eC [KD,.l (jn c::[jn d])] [.agg BQ,.b5 [zI c,zI d] 2 none]:=bw (Fv (by kernel_rfl) (by kernel_rfl)) (bw (Fv (by kernel_rfl) (by kernel_rfl)) ey);obtain⟨H,m,h35⟩:=FF (ID c [jn d] hs) hc;have e35:=IK x a b c d n;have hX:aM prog (AK (cS (eg (A1 x a b c d n)))).f (AK (cS (eg (A1 x a b c d n)))).args (AK (cS (eg (A1 x a b c d n)))).H (AK (cS (eg (A1 x a b c d n)))).nx=some (aE (c.tmod 7) H m):=by rw [e35];exact h35
 rw [show (AK (cS (eg (A1 x a b c d n)))).f=35 by rw [e35]] at hX;have qjn:=oJ (prog:=prog) (k:=1000) (f:=130) (g:=35) (af:=ta) (by kernel_rfl) (GZ x a b c d n) hX (by rw [e35]) (Jh x a b c d n (c.tmod 7) H m) (jl (d:=BL) (Gn x a b c d n (c.tmod 7) H m));have h98:=oJ (prog:=prog) (k:=1000) (f:=98) (g:=130) (af:=Ee) (by kernel_rfl) (Jb x a b c d n) qjn (He x a b c d n) (G6 x a b c d n (c.tmod 7) H m) (jl (d:=BL) (Iz x a b c d n (c.tmod 7) H m));have h73:=oJ (prog:=prog) (k:=1000) (f:=73) (g:=98) (af:=Ef) (by kernel_rfl) rfl h98 (Jn x a b c d n) (Jf x a b c d n (c.tmod 7) H m) (jl (d:=BL) (IB x a b c d n (c.tmod 7) H m));exact zK (args:=(A1 x a b c d n)) rfl h73 (Ic x a b c d n (c.tmod 7) H m) (iW false x 0 a b c (c.tmod 7)) rfl
theorem w0 {f:Bool} {x y a b c d n:Int} (hx:BG x) (hf:f=true->x=0) (ha:small a):VS prog 73 [m5,fK f x y a b c d,IM 0 n] (fun r=>r=.tp [fK false (nX x) y (nA n x a) (nB x a b) c d,Hr]):=by
 rcases hx with rfl|rfl|rfl
 ·cases f with
  |true=>exact mc (k:=1000) (args:=[sA,cA true 0 y a b c d,pA 0 n]) rfl (Ml y a b c d n) (iW false 2 y a b c d) rfl
  |false=>exact mc (k:=1000) (args:=[sA,cA false 0 y a b c d,pA 0 n]) rfl (Mm y a b c d n) (iW false 2 y a b c d) rfl
 ·cases f with
  |true=>exact absurd (hf rfl) (by decide)
  |false=>exact mc (k:=1000) (args:=[sA,cA false 2 y a b c d,pA 0 n]) rfl (Om y a b c d n) (iW false 3 y (wI n) b c d) rfl
 ·cases f with
  |true=>exact absurd (hf rfl) (by decide)
  |false=>exact Ol y a b c d n ha
theorem w1 {f:Bool} {x y a b c d n:Int} (hy:BG y) (hf:f=true->y=0) (hc:small c):VS prog 73 [m5,fK f x y a b c d,IM 1 n] (fun r=>r=.tp [fK false x (nX y) a b (nA n y c) (nB y c d),Hr]):=by
 rcases hy with rfl|rfl|rfl
 ·cases f with
  |true=>exact mc (k:=1000) (args:=[sA,cA true x 0 a b c d,pA 1 n]) rfl (Mj x a b c d n) (iW false x 2 a b c d) rfl
  |false=>exact mc (k:=1000) (args:=[sA,cA false x 0 a b c d,pA 1 n]) rfl (Mk x a b c d n) (iW false x 2 a b c d) rfl
 ·cases f with
  |true=>exact absurd (hf rfl) (by decide)
  |false=>exact mc (k:=1000) (args:=[sA,cA false x 2 a b c d,pA 1 n]) rfl (Ok x a b c d n) (iW false x 3 a b (wI n) d) rfl
 ·cases f with
  |true=>exact absurd (hf rfl) (by decide)
  |false=>exact Oj x a b c d n hc
theorem Dc (a b:Int):cz .lss (.i .i64 a) (.i .i64 b)=some (.b (t_ a b)):=rfl
theorem GW {i n:Nat} (h:t_ (i:Int) (n:Int)=true):i < n:=by rw [kG] at h;simpa using h
theorem uO {i:Nat} (hi:i < 4611686018427387904):cz .add (jn i) (.i .i64 1)=some (jn ((i+1:Nat):Int)):=by have:=D2 (a:=(i:Int)) (b:=1) (by omega) (by omega);exact this
theorem jo (a:Int):cz .neq (jn a) (jn a)=some (.b false):=by show some (TV.b (!zm a a))=_;rw [Mt rfl];rfl
theorem E0 (x y:Int):dH (AR 20 (F0 x y)) (.i .i64 0)=some (jn x):=by kernel_rfl
theorem Je (x y:Int):dH (AR 20 (F0 x y)) (.i .i64 1)=some (jn y):=by kernel_rfl
theorem xy (a b c d:Int):dH (AR 20 (Hu a b c d)) (.i .i64 0)=some (.l [jn a,jn b]):=by kernel_rfl
theorem qk (ms:List Int) (bs:List Bool):Fy m5 (fK true 0 0 0 0 0 0) (fK true 0 0 0 0 0 0) (.l (ms.map (TV.i .i32))) (.l (bs.map TV.b)) (jn 0) (fun r=>r=.b true):=by
 have z0:small 0:=by unfold small;omega
 unfold Fy;refine⟨fun m o4 o5 o6 x7 x8 x9 x10=>∃(i at':Nat) (f g:Bool) (x y a b c d:Int),m=40 - i/\i<=40/\at'<=i/\BG x/\BG y/\small a/\small b/\small c/\small d/\(f=true->x=0/\y=0)/\(g=true->x=0)/\
  o4=m5/\o5=fK f x y a b c d/\o6=fK g x 0 a b 0 0/\x7=.l (ms.map (TV.i .i32))/\x8=.l (bs.map TV.b)/\x9=jn at'/\x10=jn i,
  ⟨40,0,0,true,true,0,0,0,0,0,0,rfl,by omega,by omega,.inl rfl,.inl rfl,z0,z0,z0,z0,fun _=>⟨rfl,rfl⟩,fun _=>rfl,rfl,rfl,rfl,rfl,rfl,rfl,rfl⟩,?_⟩
 rintro m o4 o5 o6 x7 x8 x9 x10 ⟨i,at',f,g0,x,y,a,b,c,d,rfl,hi,hat,hx,hy,ha,hb,hc,hd,hf,hg,rfl,rfl,rfl,rfl,rfl,rfl,rfl⟩;have hml:(bs.map TV.b).length=bs.length:=OG _;have hmm:(ms.map (TV.i .i32)).length=ms.length:=OG _;refine⟨jn bs.length,by show some (TV.i .i64 ((bs.map TV.b).length:Int))=_;rw [hml],_,Dc _ _,?_⟩;have qzI:∃qzi,eP (cu (fK g0 x 0 a b 0 0) 0)=some qzi/\∃qx2,(dH qzi (TV.i .i64 1)=some qx2/\dg 1 qx2)/\∃qzh,jF qx2 0 none=some qzh/\∃qx1,cz .eql qzh (TV.i .i64 0)=some qx1/\True/\gH [qx1]/\qx1=.b true:=
  ⟨_,rfl,_,⟨Je _ _,rfl⟩,_,rfl,_,rfl,trivial,trivial,rfl⟩
 cases ht:t_ (i:Int) (bs.length:Int) with
 |false=>exact gq rfl (gq rfl ⟨_,rfl,cy rfl qzI⟩)
 |true=>
  refine bf rfl rfl (bf rfl (Dc _ _) ⟨_,rfl,d_ (fun h40=>?_) (fun _=>qzI)⟩);have hil:i < bs.length:=GW ht;have hi40:i < 40:=GW (n:=40) h40;obtain⟨l,hl⟩:∃l,bs[i]?=some l:=⟨_,Ov hil⟩;have hl':(bs.map TV.b)[i]?=some (.b l):=by rw [Oz,hl];rfl
  have z1:=like hx hy ha hb hc hd;have z2:j4 [] [gA,gA] [2,2] (cF x 0 a b 0 0)=true:=like hx (.inl rfl) ha hb z0 z0;have hc1:=Gl (Gm KL (KK (f:=f) z1)) (w1 (n:=i) (d:=d) hy (fun h=>(hf h).2) hc);have hc0:=fun n=>Gl (Gm KL (KK (f:=f) z1)) (w0 (n:=n) (b:=b) (y:=y) (c:=c) (d:=d) hx (fun h=>(hf h).1) ha)
  have hd0:=fun n=>Gl (Gm KL (KK (f:=g0) z2)) (w0 (n:=n) (b:=b) (y:=0) (c:=0) (d:=0) hx hg ha)
  have qzm:∀n:Int,∃m3,m3 < 40 - i/\∃(i' at2:Nat) (f g:Bool) (x' y' a' b' c' d':Int),m3=40 - i'/\i'<=40/\at2<=i'/\BG x'/\BG y'/\small a'/\small b'/\small c'/\small d'/\(f=true->x'=0/\y'=0)/\(g=true->x'=0)/\
    m5=m5/\fK false (nX x) y (nA n x a) (nB x a b) c d=fK f x' y' a' b' c' d'/\fK false (nX x) 0 (nA n x a) (nB x a b) 0 0=fK g x' 0 a' b' 0 0/\TV.l (ms.map (TV.i .i32))=.l (ms.map (TV.i .i32))/\TV.l (bs.map TV.b)=.l (bs.map TV.b)/\jn ((at'+1:Nat):Int)=jn at2/\jn ((i+1:Nat):Int)=jn i':=fun n=>
   ⟨40 - (i+1),by omega,i+1,at'+1,false,false,nX x,y,nA n x a,nB x a b,c,d,rfl,by omega,by omega,CV hx,hy,xe ha,xd hb,hc,hd,fun h=>(by cases h),fun h=>(by cases h),rfl,rfl,rfl,rfl,rfl,rfl,rfl⟩
  have qzl:∃m3,m3 < 40 - i/\∃(i' at2:Nat) (f g:Bool) (x' y' a' b' c' d':Int),m3=40 - i'/\i'<=40/\at2<=i'/\BG x'/\BG y'/\small a'/\small b'/\small c'/\small d'/\(f=true->x'=0/\y'=0)/\(g=true->x'=0)/\
    m5=m5/\fK false x (nX y) a b (nA i y c) (nB y c d)=fK f x' y' a' b' c' d'/\fK g0 x 0 a b 0 0=fK g x' 0 a' b' 0 0/\TV.l (ms.map (TV.i .i32))=.l (ms.map (TV.i .i32))/\TV.l (bs.map TV.b)=.l (bs.map TV.b)/\jn at'=jn at2/\jn ((i+1:Nat):Int)=jn i':=
   ⟨40 - (i+1),by omega,i+1,at',false,g0,x,nX y,a,b,nA i y c,nB y c d,rfl,by omega,by omega,hx,CV hy,ha,hb,xe hc,xd hd,fun h=>(by cases h),hg,rfl,rfl,rfl,rfl,rfl,rfl,rfl⟩
  refine⟨jn ms.length,by show some (TV.i .i64 ((ms.map (TV.i .i32)).length:Int))=_;rw [hmm],_,Dc _ _,d_ (fun h3=>?_) (fun h3=>?_)⟩
  ·have hal:at' < ms.length:=GW h3;obtain⟨v,hv⟩:∃v,ms[at']?=some v:=⟨_,Ov hal⟩;have hv':(ms.map (TV.i .i32))[at']?=some (.i .i32 v):=by rw [Oz,hv];rfl
   refine⟨_,⟨js hv',rfl⟩,_,rfl,_,rfl,_,⟨js hl',rfl⟩,_,rfl,?_⟩;cases l with
   |true=>exact iV rfl ⟨_,rfl,_,rfl,_,rfl,_,rfl,eZ hc1 ⟨_,rfl,_,rfl,_,rfl,_,rfl,_,uO (by omega),qzl⟩⟩
   |false=>refine cy rfl ⟨_,uO (by omega),_,rfl,_,rfl,_,rfl,eZ (hc0 (eY .i64 v)) ⟨_,rfl,_,rfl,_,rfl,_,rfl,_,rfl,_,rfl,_,rfl,eZ (hd0 (eY .i64 v)) ⟨_,rfl,_,rfl,_,rfl,_,rfl,?_⟩⟩⟩;refine⟨_,rfl,rfl,bf rfl rfl (bf rfl ⟨E0 _ _,rfl⟩ ⟨rfl,bf rfl rfl ⟨rfl,bf rfl rfl (bf rfl ⟨E0 _ _,rfl⟩ ⟨rfl,bf rfl rfl (bf rfl (jo _) ⟨_,rfl,rfl,bf rfl rfl (bf rfl ⟨xy _ _ _ _,rfl⟩ ⟨rfl,bf rfl rfl (bf rfl ⟨rfl,rfl⟩ ⟨rfl,bf rfl rfl ⟨rfl,bf rfl rfl (bf rfl ⟨xy _ _ _ _,rfl⟩ ⟨rfl,bf rfl rfl (bf rfl ⟨rfl,rfl⟩ ⟨rfl,bf rfl rfl (bf rfl (jo _) ⟨_,rfl,rfl,bf rfl rfl (bf rfl ⟨xy _ _ _ _,rfl⟩ ⟨rfl,bf rfl rfl (bf rfl ⟨rfl,rfl⟩ ⟨rfl,bf rfl rfl ⟨rfl,bf rfl rfl (bf rfl ⟨xy _ _ _ _,rfl⟩ ⟨rfl,bf rfl rfl (bf rfl ⟨rfl,rfl⟩ ⟨rfl,bf rfl rfl (bf rfl (jo _) ⟨_,rfl,cy rfl ?_⟩)⟩)⟩)⟩⟩)⟩)⟩)⟩)⟩)⟩⟩)⟩)⟩)⟩)⟩⟩)⟩;exact⟨_,uO (by omega),qzm (eY .i64 v)⟩
  ·refine⟨_,⟨js hl',rfl⟩,_,rfl,?_⟩;cases l with
   |true=>exact iV rfl ⟨_,rfl,_,rfl,_,rfl,_,rfl,eZ hc1 ⟨_,rfl,_,rfl,_,rfl,_,rfl,_,uO (by omega),qzl⟩⟩
   |false=>refine cy rfl ⟨_,uO (by omega),_,rfl,_,rfl,_,rfl,eZ (hc0 0) ⟨_,rfl,_,rfl,_,rfl,_,rfl,_,rfl,_,rfl,_,rfl,eZ (hd0 0) ⟨_,rfl,_,rfl,_,rfl,_,rfl,?_⟩⟩⟩;refine⟨_,rfl,rfl,bf rfl rfl (bf rfl ⟨E0 _ _,rfl⟩ ⟨rfl,bf rfl rfl ⟨rfl,bf rfl rfl (bf rfl ⟨E0 _ _,rfl⟩ ⟨rfl,bf rfl rfl (bf rfl (jo _) ⟨_,rfl,rfl,bf rfl rfl (bf rfl ⟨xy _ _ _ _,rfl⟩ ⟨rfl,bf rfl rfl (bf rfl ⟨rfl,rfl⟩ ⟨rfl,bf rfl rfl ⟨rfl,bf rfl rfl (bf rfl ⟨xy _ _ _ _,rfl⟩ ⟨rfl,bf rfl rfl (bf rfl ⟨rfl,rfl⟩ ⟨rfl,bf rfl rfl (bf rfl (jo _) ⟨_,rfl,rfl,bf rfl rfl (bf rfl ⟨xy _ _ _ _,rfl⟩ ⟨rfl,bf rfl rfl (bf rfl ⟨rfl,rfl⟩ ⟨rfl,bf rfl rfl ⟨rfl,bf rfl rfl (bf rfl ⟨xy _ _ _ _,rfl⟩ ⟨rfl,bf rfl rfl (bf rfl ⟨rfl,rfl⟩ ⟨rfl,bf rfl rfl (bf rfl (jo _) ⟨_,rfl,cy rfl ?_⟩)⟩)⟩)⟩⟩)⟩)⟩)⟩)⟩)⟩⟩)⟩)⟩)⟩)⟩⟩)⟩;exact⟨_,uO (by omega),qzm 0⟩
end Go.Ax.fE
set_option maxRecDepth 100000
namespace Go.Ax.fE
open Go Go.Ax Go.Ax.V
def Gu:List bY:=[.aa FP,.aa FO,.aa FN,.aa FM,.aa FL,.aa FK,.aa FJ,.seq (.aa FI) (.cond (.t 54) (.seq (.aa FH) .ret) .skip)]
structure AL where
 e7:Option AV
 e9:Option AV
 Mx:Option AV
 e0:Option AV
 e1:Option AV
 Mw:Option AV
 h2:Option dN
 h3:Option dN
 h4:Option dN
 old:Bool
def obs (st:St):AL:=⟨st.env.get 7,st.env.get 9,st.env.get 11,st.env.get 0,st.env.get 1,st.env.get 12,st.H.get 2,st.H.get 3,st.H.get 4,yT st.H fun i=>Nat.blt i st.nx⟩
def want (a b:AV):AL:=⟨some (.ptr 2 0 0),some (.ptr 3 0 0),some (.ptr 4 0 0),some a,some b,some (zI 0),some (.row 0 [.ak,KC,KB]),some (.row 0 [F0 0 0,Hu 0 0 0 0,HL true,HK true]),some (.row 0 [F0 0 0,Hu 0 0 0 0,HL true,HK true]),true⟩
def I8 (o:Option St):Option AL:=match o with
 |some st=>some (obs st)
 |none=>none
theorem pf (a b:AV):I8 (u6 (interp prog 1000).code 155 Gu ⟨cJ [a,b] 0 .leaf,.leaf,0⟩)=some (want a b):=by kernel_rfl
theorem Bc {o:Option St} {x:AL} (h:I8 o=some x):∃st,o=some st/\obs st=x:=by
 cases o with
 |none=>cases h
 |some st=>exact⟨st,rfl,by injection h⟩
theorem law (ms:List Int) (bs:List Bool) (a b:AV) (ha:V.Can (.l (ms.map (TV.i .i32))) a) (hb:V.Can (.l (bs.map TV.b)) b):isTrue (aM prog 17 [a,b] .leaf 0)=true:=by
 obtain⟨st,h1,h2⟩:=Bc (pf a b);have e7:st.env.get 7=some (.ptr 2 0 0):=congrArg AL.e7 h2;have e9:st.env.get 9=some (.ptr 3 0 0):=congrArg AL.e9 h2;have Mx:st.env.get 11=some (.ptr 4 0 0):=congrArg AL.Mx h2;have e0:st.env.get 0=some a:=congrArg AL.e0 h2;have e1:st.env.get 1=some b:=congrArg AL.e1 h2;have Mw:st.env.get 12=some (zI 0):=congrArg AL.Mw h2;have q2:st.H.get 2=some (.row 0 [.ak,KC,KB]):=congrArg AL.h2 h2;have q3:st.H.get 3=some (.row 0 [F0 0 0,Hu 0 0 0 0,HL true,HK true]):=congrArg AL.h3 h2;have q4:st.H.get 4=some (.row 0 [F0 0 0,Hu 0 0 0 0,HL true,HK true]):=congrArg AL.h4 h2;have hold:yT st.H (fun i=>Nat.blt i st.nx)=true:=congrArg AL.old h2;refine GY (k:=1000) (l:=Gu) (vc:=Em) (st:=st) (lo:=[(7,m5,2),(9,fK true 0 0 0 0 0 0,3),(11,fK true 0 0 0 0 0 0,4)]) (live:=[(0,.l (ms.map (TV.i .i32))),(1,.l (bs.map TV.b)),(12,jn 0)]) (r:=.tmp 4) (af:=Hw) (by kernel_rfl) rfl (by kernel_rfl) rfl (by kernel_rfl) pS ?_ ?_ ?_ (show ([7,9,11]:List Nat).Nodup by decide) (show ([2,3,4]:List Nat).Nodup by decide) hold
  (KM _ _ _ _ _ _ 2 3 4 (fun r=>r=.b true) (qk ms bs))
 ·intro x hx;exact wm (k:=1000) (l:=Gu) (suf:=Em.code) h1 hx
 ·intro p hp;rcases OP.1 hp with rfl|hp
  ·exact⟨a,e0,ha⟩
  ·rcases OP.1 hp with rfl|hp
   ·exact⟨b,e1,hb⟩
   ·rw [OS.1 hp];exact⟨_,Mw,.i _ _⟩
 ·intro p hp;rcases OP.1 hp with rfl|hp
  ·exact⟨e7,_,_,rfl,q2,Fs⟩
  ·rcases OP.1 hp with rfl|hp
   ·exact⟨e9,_,_,rfl,q3,vN true 0 0 0 0 0 0⟩
   ·rw [OS.1 hp];exact⟨Mx,_,_,rfl,q4,vN true 0 0 0 0 0 0⟩
end Go.Ax.fE
end
