/- Part 10 of the proof: LqLa, LqEa. -/
import Derived.Test.YtamgnhdbeecapaaCq6
import Derived.Test.YtamgnhdbeecapaaCq7
import Derived.Test.YtamgnhdbeecapaaCq9
set_option linter.unusedSimpArgs false
set_option linter.unusedVariables false
set_option maxRecDepth 100000
namespace Go.Ax.dR
open Go Go.Ax Go.Ax.V
theorem IM {f:Nat} {ts:List TV} {c:TV} (h:VS prog f ts (fun r=>r=c)):VS prog f ts (fun r'=>r'=c/\qR true c):=h.mono fun r hr=>⟨hr,trivial⟩
theorem Jf {s0 s1 s2 c0 c1 c2 c3:TV} (h53:VS prog 53 [.a [s0,s1,s2]] (fun r=>r=.b true)) (h54:VS prog 54 [.a [s0,s1,s2],.a [c0,c1,c2,c3]] (fun r=>r=.b true)):VS prog 22 [.a [s0,s1,s2],.a [c0,c1,c2,c3]] (fun r=>r=.b true):=by refine LI _ _ _ ?_;unfold Ou;exact⟨rfl,rfl,_,rfl,l6 h53 (aR rfl rfl (aR rfl rfl (aR rfl (IM h54) ⟨_,rfl,trivial,trivial,rfl⟩)))⟩
theorem wH {s0 s1 s2 c0 c1 c2 c3 p0 p1 p2 e0 e1 e2 e3 d0 d1 d2 d3:TV} (h22:VS prog 22 [.a [s0,s1,s2],.a [c0,c1,c2,c3]] (fun r=>r=.b true))
  (h73:VS prog 73 [.a [s0,s1,s2],.a [c0,c1,c2,c3],.a [p0,p1,p2]] (fun r=>r=.tp [.a [e0,e1,e2,e3],.a [d0,d1,d2,d3]])):VS prog 52 [.a [s0,s1,s2],.a [c0,c1,c2,c3],.a [p0,p1,p2]] (fun r=>r=.tp [.a [e0,e1,e2,e3],.a [d0,d1,d2,d3],.i .i64 0]):=by
 refine LG _ _ _ _ ?_;unfold Oq;exact⟨rfl,rfl,rfl,_,rfl,_,rfl,l6 h22 ⟨_,rfl,c7 rfl ⟨_,rfl,_,rfl,_,rfl,l6 h73 ⟨_,rfl,_,rfl,_,rfl,_,rfl,_,rfl,_,rfl,_,rfl,_,rfl,trivial,_,rfl,_,rfl,⟨rfl,rfl,rfl,trivial⟩,rfl⟩⟩⟩⟩
end Go.Ax.dR
set_option maxRecDepth 100000
namespace Go.Ax.dR
open Go Go.Ax Go.Ax.V
def ND (v:Int):TV:=.a [.i .i64 2,.i .i64 0,.i .i64 v,.l []]
def B8 (a b:Int):TV:=.tp [.i .i64 a,.i .i64 b]
def small (n:Int):Prop:=-2147483648<=n/\n<=2147483647
theorem OH {e vs:TV} {e':TV} (n:Int) (hn:small n) (ht:e.ja=false) (hs:dr e 0 4=some e') (h:VS prog 58 [e',vs] (fun r=>r=B8 n 0)):VS prog 35 [e,vs] (fun r=>r=B8 n 0):=by
 refine LH _ _ _ ?_;unfold Ot;have h1:¬n < -2147483648:=by unfold small at hn;omega
 have h2:¬2147483647 < n:=by unfold small at hn;omega
 refine⟨ht,_,hs,l6 h ⟨_,rfl,_,rfl,_,rfl,c7 rfl ⟨_,rfl,aR (DM h1) rfl (aR (DM h1) rfl ⟨_,(show c_ (.b (od n (-2147483648))) _ _=some _ by rw [DM h1];rfl),c7 (DM h2) ⟨trivial,IS rfl rfl,rfl⟩⟩)⟩⟩⟩
theorem LU (x:Int) (r:List TV) (hx:small x):VS prog 35 [ND 0,.l (.i .i64 x::r)] (fun t=>t=B8 x 0):=by refine OH x hx rfl rfl ?_;refine LD _ _ _ ?_;unfold On;exact⟨rfl,_,rfl,_,rfl,c7 rfl ⟨_,rfl,_,rfl,rfl,_,rfl,_,rfl,_,rfl,rfl,_,rfl,_,rfl,_,rfl,_,rfl,_,rfl,nY rfl ⟨_,rfl,_,⟨rfl,rfl⟩,_,rfl,⟨trivial,IS rfl rfl,rfl⟩⟩⟩⟩
theorem Ji {e:TV} {vs:TV} {args:List AV} {n:Int} (h:VS prog 35 [e,vs] (fun t=>t=B8 n 0)) (hc:eT [e,vs] args):∃H nx,aN prog 35 args .leaf 0=some (.dM [.int .i64 n,.int .i64 0],H,nx):=by
 obtain⟨v,H,nx,h1,a,h2,r,h3,rfl⟩:=h args hc;have ha:a=.dM [.int .i64 n,.int .i64 0]:=oS 9 (B8 n 0) (.dM [.int .i64 n,.int .i64 0]) a rfl h3;subst ha;have hv:v=.dM [.int .i64 n,.int .i64 0]:=by
  have h2':aP (29+1) H v=some (.dM [.int .i64 n,.int .i64 0]):=h2;cases v with
  |dM cs=>
   rw [fy] at h2';cases hm:cw (aP 29 H) cs with
   |none=>rw [hm] at h2';cases h2'
   |some zs=>
    rw [hm] at h2';have e:zs=[.int .i64 n,.int .i64 0]:=by injection h2' with h2';injection h2'
    subst e;have hl:=(eY hm).1;have hg:=(eY hm).2
    match cs,hl,hm with
    |[x,y],_,hm=>
     rw [b7,b7] at hm;cases hx:aP 29 H x with
     |none=>rw [hx] at hm;cases hm
     |some x'=>
      cases hy:aP 29 H y with
      |none=>rw [hx,hy] at hm;cases hm
      |some y'=>
       rw [hx,hy] at hm;have e:[x',y']=[.int .i64 n,.int .i64 0]:=by injection hm
       injection e with e1 e2
       injection e2 with e2 _
       subst e1;subst e2;rw [nM (d:=28) hx (fun _ _ _ h=>by cases h) (fun _ h=>by cases h) (fun _ h=>by cases h),nM (d:=28) hy (fun _ _ _ h=>by cases h) (fun _ h=>by cases h) (fun _ h=>by cases h)]
  |ref id g off es len cap ex=>
   rw [ei] at h2';exfalso;simp only [cond_eq_ite] at h2'
   repeat' split at h2'
   all_goals simp at h2'
  |agg cs=>exfalso;have h3':(match cw (aP 29 H) cs with|some cs=>some (AV.agg cs)|none=>none)=some (.dM [.int .i64 n,.int .i64 0]):=h2';split at h3'<;>cases h3'
  |_=>first|(cases h2';done)|(injection h2' with h2';cases h2')
 subst hv;exact⟨H,nx,h1⟩
end Go.Ax.dR
