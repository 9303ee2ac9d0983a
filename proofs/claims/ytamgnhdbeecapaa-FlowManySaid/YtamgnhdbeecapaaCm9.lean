/- Part 9 of the proof: LmFc, LmFd, LmFa, LmFj, LmFe, LmFg, LmFh, LmFi, LmMa. -/
import Derived.Test.YtamgnhdbeecapaaCm6
import Derived.Test.YtamgnhdbeecapaaCm8
import Derived.KernelRfl
set_option linter.unusedSimpArgs false
set_option linter.unusedVariables false
set_option maxRecDepth 100000
namespace Go.Ax.ek
open Go Go.Ax Go.Ax.V Go.Ax.Ft
theorem gJ (n lo hi:Int):VS prog 81 [ii n,ii lo,ii hi] (fun r=>r=.b (within n lo hi)):=by refine QM _ _ _ _ ?_;unfold Tw;refine⟨_,O9 _ _,?_⟩;refine gB _ (fun h=>by rfl) ?_;refine gB _ (fun h=>by rfl) ?_;refine gB _ (fun h=>by rw [h];exact OZ _ _) (Qt ⟨trivial,trivial,?_⟩);rw [oC,oC,HO,HO];rfl
theorem fX {α:Type} (l:List α):decide ((l.length:Int)=0)=l.isEmpty:=by cases l<;>simp<;>omega
theorem mg (l:List Ex):(rq l).length=l.length:=by rw [mc,Uy]
theorem dS (l:List Sm):(cZ l).length=l.length:=by rw [gN,Uy]
theorem fl (l:List Ar):(o8 l).length=l.length:=by rw [qu,Uy]
theorem LD (e:Ex):VS prog 141 [qV e] (fun r=>r=.b (JW e)):=by
 cases e with
 |mk k n v ks=>
 refine Ny _ _ ?_;unfold Qb
 (repeat (first|refine cU ?_|refine cT ?_))
 refine⟨trivial,trivial,?_⟩;simp only [br,mg,fX];rfl
theorem Ri (c:Co):VS prog 142 [Eh c] (fun r=>r=.b (Nf c)):=by
 obtain⟨op,l,r⟩:=c;have hl:=LD l;have hr:=LD r;obtain⟨k1,n1,v1,ks1⟩:=l;obtain⟨k2,n2,v2,ks2⟩:=r;refine Nx _ _ ?_;unfold Qa
 (repeat (first|refine cU ?_|refine cT ?_|refine jl ?_))
 refine⟨trivial,trivial,?_⟩;simp only [br];rfl
theorem GX (k:Int):VS prog 166 [ii k] (fun r=>r=ii (yq k)):=by
 refine Np _ _ ?_;unfold P3
 (repeat (first|refine cU ?_|refine cT ?_))
 refine aS (fun h=>?_) (fun h=>?_)
 ·refine⟨trivial,trivial,?_⟩;simp only [br,UO,UT] at h;simp [yq,h]
 simp only [br,Bool.or_eq_false_iff,UW] at h
 (repeat (first|refine cU ?_|refine cT ?_))
 refine aS (fun h2=>?_) (fun h2=>?_)
 ·refine⟨trivial,trivial,?_⟩;simp only [br,UT] at h2;simp [yq,h,h2]
 simp only [br,UW] at h2
 (repeat (first|refine cU ?_|refine cT ?_|refine eu (gJ _ _ _) ?_|refine gB _ (fun h=>by first|exact cy (gJ _ _ _)|(rw [h];exact cy (gJ _ _ _))) ?_|refine gO _ (fun h=>by first|exact cy (gJ _ _ _)|(rw [h];exact cy (gJ _ _ _))) ?_))
 refine aS (fun h3=>?_) (fun h3=>?_)
 ·refine⟨trivial,trivial,?_⟩;simp only [within,UN,UT] at h3;simp [yq,h,h2,h3]
 ·refine⟨trivial,trivial,?_⟩;have h4:¬(4<=k/\k<=8):=by intro hc;simp [within,hc.1,hc.2] at h3
  simp [yq,h,h2,h4]
theorem Jx (vars:Int) (hv:0<=vars/\vars<=6):∀(e:Ex),Gs e<=4194304->VS prog 143 [qV e,ii vars] (fun r=>r=.b (EV vars e))
 |.mk k n v ks,hB=>by
  have hks:BZ ks<=4194304:=by simp only [Gs] at hB;omega
  have hk:=U1 (xN ks) hks;have ih:∀e∈ks,VS prog 143 [qV e,ii vars] (fun r=>r=.b (EV vars e)):=fun e he=>Jx vars hv e (U1 (xz he) hks)
  refine Nw _ _ _ ?_;unfold P_
  (repeat (first|refine cU ?_|refine cT ?_|refine eu (GX _) ?_|refine gB _ (fun h=>by first|exact cy (GX _)|(rw [h];exact cy (GX _))) ?_|refine gO _ (fun h=>by first|exact cy (GX _)|(rw [h];exact cy (GX _))) ?_))
  refine aS (fun h=>?_) (fun h=>?_)
  ·refine⟨trivial,trivial,?_⟩;simp only [br,mg,UP,UW] at h;have h':¬yq k=ks.length:=fun hc=>h hc.symm
   simp [EV,h']
  simp only [br,mg,Bool.not_eq_false',UT] at h
  (repeat (first|refine⟨rfl,?_⟩|refine⟨_,jy,?_⟩|refine⟨_,nS,?_⟩|refine⟨_,rfl,?_⟩|refine⟨_,nP _,?_⟩|refine⟨_,⟨rfl,rfl⟩,?_⟩|refine Sy ?_|refine Su ?_|refine Sg ?_|refine Sd ?_|refine Qt ?_|refine Se ?_|refine eu (gJ _ _ _) ?_|refine Sz ?_|refine gB _ (fun h=>by first|exact cy (gJ _ _ _)|(rw [h];exact cy (gJ _ _ _))) ?_|refine Sv ?_|refine gO _ (fun h=>by first|exact cy (gJ _ _ _)|(rw [h];exact cy (gJ _ _ _))) ?_|refine Mn ?_|refine Sx _ (fun h h'=>by rw [h,h'];exact cy (gJ _ _ _)) ?_|refine Mm ?_|refine Sw _ (fun h h'=>by rw [h,h'];exact cy (gJ _ _ _)) ?_|refine Mp ?_|refine SB _ (fun h h'=>by rw [h,h'];exact cy (gJ _ _ _)) ?_|refine Mo ?_|refine SA _ (fun h h'=>by rw [h,h'];exact cy (gJ _ _ _)) ?_))
  refine aS (fun h2=>?_) (fun h2=>?_)
  ·refine⟨trivial,trivial,?_⟩;congr 1;simp only [br,within,UO,UN,UP,UT,UW,Bool.and_eq_false_iff] at h2;unfold EV;symm;simp only [within,Bool.and_eq_false_iff,Bool.or_eq_false_iff,UW,Bool.not_eq_false',UT];omega
  (repeat (first|refine cU ?_|refine cT ?_))
  refine⟨fun m o x34 x36 x37 x38=>∃i:Nat,i<=ks.length/\m=ks.length - i/\o=qV (.mk k n v ks)/\x34=ii vars/\x36=.l (rq ks)/\x37=ii ks.length/\x38=ii i/\(ks.take i).all (EV vars)=true,
   ⟨_,0,by omega,rfl,rfl,rfl,rfl,by rw [mg],rfl,rfl⟩,?_⟩
  rintro m o x34 x36 x37 x38 ⟨i,hi,rfl,rfl,rfl,rfl,rfl,rfl,hall⟩;refine⟨_,rfl,aS (fun h3=>?_) (fun h3=>?_)⟩
  ·replace h3:=iW h3;obtain⟨x,hx⟩:∃x,ks[i]?=some x:=⟨_,Un h3⟩;have hx':(rq ks)[i]?=some (qV x):=by rw [mc,Us,hx];rfl
   refine⟨_,⟨jO hx',Fm x⟩,?_⟩;have hih:=ih x (Uw hx);obtain⟨k',n',v',ks'⟩:=x
   (repeat (first|refine cU ?_|refine cT ?_|refine jl ?_))
   refine aS (fun h4=>?_) (fun h4=>?_)
   ·refine⟨trivial,trivial,?_⟩;have:=xd (f:=EV vars) hx (by simpa using h4);rw [EV,yd,this];simp
   ·refine⟨_,gj h3 (by omega),_,by omega,i+1,by omega,rfl,rfl,rfl,rfl,rfl,rfl,sY hx hall (by simpa using h4)⟩
  ·obtain rfl:=iY hi h3;rw [UF] at hall
   (repeat (first|refine⟨rfl,?_⟩|refine⟨_,jy,?_⟩|refine⟨_,nS,?_⟩|refine⟨_,rfl,?_⟩|refine⟨_,nP _,?_⟩|refine⟨_,⟨rfl,rfl⟩,?_⟩|refine Sy ?_|refine Su ?_|refine Sg ?_|refine Sd ?_|refine Qt ?_|refine Se ?_|refine eu (gJ _ _ _) ?_|refine Sz ?_|refine gB _ (fun h=>by first|exact cy (gJ _ _ _)|(rw [h];exact cy (gJ _ _ _))) ?_|refine Sv ?_|refine gO _ (fun h=>by first|exact cy (gJ _ _ _)|(rw [h];exact cy (gJ _ _ _))) ?_|refine Mn ?_|refine Sx _ (fun h h'=>by rw [h,h'];exact cy (gJ _ _ _)) ?_|refine Mm ?_|refine Sw _ (fun h h'=>by rw [h,h'];exact cy (gJ _ _ _)) ?_|refine Mp ?_|refine SB _ (fun h h'=>by rw [h,h'];exact cy (gJ _ _ _)) ?_|refine Mo ?_|refine SA _ (fun h h'=>by rw [h,h'];exact cy (gJ _ _ _)) ?_))
   refine⟨trivial,trivial,?_⟩;congr 1;rw [EV,yd,hall,h];simp only [br,Bool.or_eq_false_iff,Bool.and_eq_false_iff,Bool.not_eq_false',UT,UW,UP] at h2;obtain⟨⟨h5,h6⟩,h7⟩:=h2;simp [h5,h6,h7]
theorem Rh (vars:Int) (hv:0<=vars/\vars<=6) (c:Co) (hB:KN c<=4194304):VS prog 144 [Eh c,ii vars] (fun r=>r=.b (Qv vars c)):=by
 obtain⟨op,l,r⟩:=c;simp only [KN] at hB;have hl:=Jx vars hv l (by omega);have hr:=Jx vars hv r (by omega);obtain⟨k1,n1,v1,ks1⟩:=l;obtain⟨k2,n2,v2,ks2⟩:=r;refine Nv _ _ _ ?_;unfold P9
 (repeat (first|refine cU ?_|refine cT ?_|refine jl ?_|refine eu (gJ _ _ _) ?_|refine gB _ (fun h=>by first|exact cy (gJ _ _ _)|(rw [h];exact cy (gJ _ _ _))) ?_|refine gO _ (fun h=>by first|exact cy (gJ _ _ _)|(rw [h];exact cy (gJ _ _ _))) ?_))
 exact⟨trivial,trivial,rfl⟩
theorem Tk (a b:Int):(bif wm a b then b else a)=max a b:=by
 rw [oC,Int.max_def];by_cases h:a < b
 ·simp [h];omega
 ·simp [h];omega
theorem Uf (a b c:Int):HR true [ii a,ii b,ii c]=some (ii (max (max a b) c)):=by show some (ii (bif wm (bif wm a b then b else a) c then c else (bif wm a b then b else a)))=_;rw [Tk,Tk]
theorem drop_cons {α:Type} {l:List α} {i:Nat} {x:α} (h:l[i]?=some x):l.drop i=x::l.drop (i+1):=by obtain⟨h1,h2⟩:=Uo.1 h;rw [←h2];exact List.drop_eq_getElem_cons h1
theorem Rk (c:Ch) (hl:c.rule.length<=4194304) (hr:∀r∈c.rule,r.length<=4194304):VS prog 104 [dg c] (fun r=>r=.b (zS c)):=by
 refine NF _ _ ?_;unfold Qh
 (repeat (first|refine cU ?_|refine cT ?_))
 refine⟨fun m o x8 x9 x10 x11=>∃(i:Nat) (T:Int),i<=c.rule.length/\m=c.rule.length - i/\o=dg c/\x8=ii T/\x9=.l (c.rule.map sN)/\x10=ii c.rule.length/\x11=ii i/\
   zu c.rule.length c.tags 0 c.rule 0=zu c.rule.length c.tags i (c.rule.drop i) T,⟨_,0,0,by omega,rfl,rfl,rfl,rfl,by rw [Uy],rfl,rfl⟩,?_⟩
 rintro m o x8 x9 x10 x11 ⟨i,T,hi,rfl,rfl,rfl,rfl,rfl,rfl,qxe⟩;refine⟨_,rfl,aS (fun h3=>?_) (fun h3=>?_)⟩
 ·replace h3:=iW h3;obtain⟨row,hx⟩:∃x,c.rule[i]?=some x:=⟨_,Un h3⟩;have hrow:=hr row (Uw hx);have hx':(c.rule.map sN)[i]?=some (sN row):=by rw [Us,hx];rfl
  rw [drop_cons hx,zu] at qxe;refine⟨_,⟨jO hx',rfl⟩,?_⟩
  (repeat (first|refine cU ?_|refine cT ?_))
  refine aS (fun h4=>?_) (fun h4=>?_)
  ·refine⟨trivial,trivial,?_⟩;simp only [br,UP,UW,Uy] at h4;rw [if_neg h4] at qxe;congr 1;unfold zS;rw [qxe]
  simp only [br,Bool.not_eq_false',UT,Uy] at h4;rw [if_pos h4] at qxe
  (repeat (first|refine cU ?_|refine cT ?_))
  refine⟨fun m o x24 x25 x27 x28 x29 x37 x38 x39=>∃(j:Nat) (U:Int),j<=row.length/\m=row.length - j/\o=dg c/\x24=ii U/\x25=ii i/\x27=.l (c.rule.map sN)/\x28=ii c.rule.length/\x29=ii i/\
   x37=sN row/\x38=ii row.length/\x39=ii j/\FE c.rule.length i row T=FE c.rule.length i (row.drop j) U,⟨_,0,T,by omega,rfl,rfl,rfl,rfl,rfl,rfl,rfl,rfl,by rw [Uy],rfl,rfl⟩,?_⟩
  rintro m o x24 x25 x27 x28 x29 x37 x38 x39 ⟨j,U,hj,rfl,rfl,rfl,rfl,rfl,rfl,rfl,rfl,rfl,rfl,hin⟩;refine⟨_,rfl,aS (fun h5=>?_) (fun h5=>?_)⟩
  ·replace h5:=iW h5;obtain⟨x,hy⟩:∃x,row[j]?=some x:=⟨_,Un h5⟩;have hy':(row.map ii)[j]?=some (ii x):=by rw [Us,hy];rfl
   rw [drop_cons hy,FE] at hin;refine⟨_,⟨jO hy',rfl⟩,?_⟩;refine⟨_,rfl,_,rfl,_,rfl,?_⟩;rw [Uy];refine⟨_,jy,eu (gJ _ _ _) ?_⟩
   (repeat (first|refine cU ?_|refine cT ?_))
   refine aS (fun h6=>?_) (fun h6=>?_)
   ·refine⟨trivial,trivial,?_⟩;rw [if_neg (by simpa using h6)] at hin;rw [hin] at qxe;congr 1;unfold zS;rw [qxe]
   rw [if_pos (by simpa using h6)] at hin;refine⟨_,OU _ _,aS (fun h7=>?_) (fun h7=>?_)⟩
   ·simp only [br,UP,UW] at h7;rw [if_neg h7] at hin;exact⟨_,Uf _ _ _,_,gj h5 (by omega),_,by omega,j+1,_,by omega,rfl,rfl,rfl,rfl,rfl,rfl,rfl,rfl,rfl,rfl,hin⟩
   ·simp only [br,Bool.not_eq_false',UT] at h7;rw [if_pos h7] at hin;exact⟨_,gj h5 (by omega),_,by omega,j+1,_,by omega,rfl,rfl,rfl,rfl,rfl,rfl,rfl,rfl,rfl,rfl,hin⟩
  ·obtain rfl:=iY hj h5;rw [List.drop_length,FE] at hin;rw [hin] at qxe;exact⟨_,gj h3 (by omega),_,by omega,i+1,U,by omega,rfl,rfl,rfl,rfl,rfl,rfl,qxe⟩
 ·obtain rfl:=iY hi h3;rw [List.drop_length,zu] at qxe
  (repeat (first|refine⟨rfl,?_⟩|refine⟨_,jy,?_⟩|refine⟨_,nS,?_⟩|refine⟨_,rfl,?_⟩|refine⟨_,nP _,?_⟩|refine⟨_,⟨rfl,rfl⟩,?_⟩|refine Sy ?_|refine Su ?_|refine Sg ?_|refine Sd ?_|refine Qt ?_|refine Se ?_|refine Sz ?_|refine Sv ?_|refine Mn ?_|refine Mm ?_|refine Mp ?_|refine Mo ?_))
  refine⟨trivial,trivial,?_⟩;congr 1;unfold zS;rw [qxe];simp only [Uy,oC,br,HO,fX];rw [sU (by omega) (by omega)]
theorem TI (c:Ch) (procs:Int) (hp:0<=procs/\procs<=4194304) (hl:c.rule.length<=4194304) (hr:∀r∈c.rule,r.length<=4194304):VS prog 82 [dg c,ii procs] (fun r=>r=.b (FT procs c)):=by
 have h104:=Rk c hl hr;refine QL _ _ _ ?_;unfold Tv
 (repeat (first|refine cU ?_|refine cT ?_|refine jl ?_|refine eu (gJ _ _ _) ?_|refine gB _ (fun h=>by first|exact cy (gJ _ _ _)|(rw [h];exact cy (gJ _ _ _))) ?_|refine gO _ (fun h=>by first|exact cy (gJ _ _ _)|(rw [h];exact cy (gJ _ _ _))) ?_))
 refine⟨trivial,trivial,?_⟩;simp only [br];rfl
theorem Rg (c:Ch):VS prog 146 [dg c] (fun r=>r=ii c.src):=by
 refine Nt _ _ ?_;unfold P7
 (repeat (first|refine cU ?_|refine cT ?_))
 exact⟨trivial,trivial,rfl⟩
theorem Rf (c:Ch):VS prog 148 [dg c] (fun r=>r=ii c.dst):=by
 refine Nr _ _ ?_;unfold P5
 (repeat (first|refine cU ?_|refine cT ?_))
 exact⟨trivial,trivial,rfl⟩
def oY (p:Pg) (proc vars:Int):TV:=.a [.l (p.aO.map dg),.l (p.procs.map rm),ii proc,ii vars]
theorem Mv {aO:List Ch} {proc c:Int} {dst:Bool} (h:within c 0 (aO.length - 1)=true):∃(k:Nat) (x:Ch),c=k/\aO[k]?=some x/\zo aO proc dst c=decide ((bif dst then x.dst else x.src)=proc):=by
 simp only [within,UN,UT] at h;obtain⟨k,rfl⟩:=Int.eq_ofNat_of_zero_le h.1;have hk:k < aO.length:=by omega
 refine⟨k,aO[k],rfl,Un hk,?_⟩;show (match aO[k]? with|some x=>_|none=>false)=_;rw [Un hk]
theorem Kk {aO:List Ch} {proc c:Int} {dst:Bool} (h:within c 0 (aO.length - 1)=false):zo aO proc dst c=false:=by
 unfold zo;split
 ·rename_i k;split
  ·rename_i x hx;have:=(Uo.1 hx).1;simp [within] at h;omega
  ·rfl
 ·rfl
theorem Ov (p:Pg) (proc vars c:Int) (dst:Bool) (hl:p.aO.length<=4194304):VS prog 145 [oY p proc vars,ii c,.f (bif dst then 148 else 146)] (fun r=>r=.b (zo p.aO proc dst c)):=by
 have hend:∀x,VS prog (bif dst then 148 else 146) [dg x] (fun r=>r=ii (bif dst then x.dst else x.src)):=by
  cases dst
  ·exact Rg
  ·exact Rf
 refine Nu _ _ _ _ ?_;unfold P8;have hl':(p.aO.map dg).length<=4194304:=by rw [Uy];exact hl
 (repeat (first|refine cU ?_|refine cT ?_))
 rw [Uy];refine eu (gJ _ _ _) ?_;cases hw:within c 0 (p.aO.length - 1) with
 |false=>
  (repeat (first|refine cU ?_|refine cT ?_))
  refine⟨0,fun h=>(by cases h),?_⟩
  (repeat (first|refine cU ?_|refine cT ?_))
  refine⟨trivial,trivial,?_⟩;rw [Kk hw]
 |true=>
  obtain⟨k,x,rfl,hx,he⟩:=Mv (proc:=proc) (dst:=dst) hw;have hx':(p.aO.map dg)[k]?=some (dg x):=by rw [Us,hx];rfl
  (repeat (first|refine cU ?_|refine cT ?_))
  refine gB _ (fun _=>⟨jO hx',C1 x⟩) ?_
  (repeat (first|refine cU ?_|refine cT ?_))
  refine⟨_,fun _=>rfl,gB _ (fun _=>cy (hend x)) ?_⟩
  (repeat (first|refine cU ?_|refine cT ?_))
  refine⟨trivial,trivial,?_⟩;rw [he,br]
theorem Ou (p:Pg) (proc vars tag:Int) {k:Nat} {x:Ch} (hx:p.aO[k]?=some x) (ht:1<=x.tags/\x.tags<=4):VS prog 147 [oY p proc vars,ii k,ii tag] (fun r=>r=.b (GD p.aO k tag)):=by
 have hx':(p.aO.map dg)[k]?=some (dg x):=by rw [Us,hx];rfl
 refine Ns _ _ _ _ ?_;unfold P6;refine⟨rfl,_,rfl,_,⟨jO hx',C1 x⟩,?_⟩
 (repeat (first|refine cU ?_|refine cT ?_|refine eu (gJ _ _ _) ?_|refine gB _ (fun h=>by first|exact cy (gJ _ _ _)|(rw [h];exact cy (gJ _ _ _))) ?_|refine gO _ (fun h=>by first|exact cy (gJ _ _ _)|(rw [h];exact cy (gJ _ _ _))) ?_))
 refine⟨trivial,trivial,?_⟩;show _=TV.b (match p.aO[(k:Int).toNat]? with|some x=>within tag 0 (x.tags - 1)|none=>false);rw [Int.toNat_natCast,hx]
def O4 (had:List Int):TV:=.a [.b (had.contains 0),.b (had.contains 1),.b (had.contains 2),.b (had.contains 3)]
theorem Re (p:Pg) (proc vars:Int) (hv:0<=vars/\vars<=6) {k:Nat} {x:Ch} (hx:p.aO[k]?=some x) (ht:1<=x.tags/\x.tags<=4) (l:List Ar) (hl:l.length<=4194304)
  (ih:∀tag var body,Ar.mk tag var body∈l->VS prog 83 [oY p proc vars,.l (cZ body)] (fun r=>r=.b (si p.aO proc vars body))) :
  VS prog 149 [oY p proc vars,ii k,.l (o8 l)] (fun r=>r=.b (DP p.aO proc vars k [] l&&!l.isEmpty)):=by
 refine Nq _ _ _ _ ?_;unfold P4
 (repeat (first|refine cU ?_|refine cT ?_))
 refine⟨fun m o5 o6 x7 x8 x10 x11 x12=>∃(i:Nat) (had:List Int),i<=l.length/\m=l.length - i/\o5=oY p proc vars/\o6=O4 had/\x7=ii k/\x8=.l (o8 l)/\x10=.l (o8 l)/\x11=ii l.length/\x12=ii i/\
   DP p.aO proc vars k [] l=DP p.aO proc vars k had (l.drop i),⟨_,0,[],by omega,rfl,rfl,rfl,rfl,rfl,rfl,by rw [fl],rfl,rfl⟩,?_⟩
 rintro m o5 o6 x7 x8 x10 x11 x12 ⟨i,had,hi,rfl,rfl,rfl,rfl,rfl,rfl,rfl,rfl,hok⟩;refine⟨_,rfl,aS (fun h3=>?_) (fun h3=>?_)⟩
 ·replace h3:=iW h3;obtain⟨y,hy⟩:∃x,l[i]?=some x:=⟨_,Un h3⟩;have hy':(o8 l)[i]?=some (Km y):=by rw [qu,Us,hy];rfl
  rw [drop_cons hy] at hok;obtain⟨tag,var,body⟩:=y;have hb:=ih tag var body (Uw hy);rw [DP] at hok;refine⟨_,⟨jO hy',rfl⟩,?_⟩;have qjg:=Ou p proc vars tag hx ht;cases qzG:GD p.aO k tag with
  |false=>
   rw [qzG] at qjg hok
   (repeat (first|refine cU ?_|refine cT ?_|refine jl ?_))
   refine⟨0,fun h=>(by cases h),?_⟩
   (repeat (first|refine cU ?_|refine cT ?_|refine jl ?_))
   refine uk rfl ⟨trivial,trivial,?_⟩;rw [hok];rfl
  |true=>
   rw [qzG] at qjg hok;have htb:0<=tag/\tag<=3:=by have h:GD p.aO (k:Int) tag=(match p.aO[(k:Int).toNat]? with|some x=>within tag 0 (x.tags - 1)|none=>false):=rfl;rw [Int.toNat_natCast,hx] at h;rw [h] at qzG;simp only [within,UN,UT] at qzG;omega
   obtain rfl|rfl|rfl|rfl:tag=0\/tag=1\/tag=2\/tag=3:=by omega
   all_goals
    (repeat (first|refine cU ?_|refine cT ?_|refine jl ?_))
    refine⟨_,fun _=>rfl,?_⟩
    (repeat (first|refine cU ?_|refine cT ?_|refine jl ?_|refine eu (gJ _ _ _) ?_|refine gB _ (fun h=>by first|exact cy (gJ _ _ _)|(rw [h];exact cy (gJ _ _ _))) ?_|refine gO _ (fun h=>by first|exact cy (gJ _ _ _)|(rw [h];exact cy (gJ _ _ _))) ?_))
    refine aS (fun h4=>?_) (fun h4=>?_)
    ·refine⟨trivial,trivial,?_⟩;rw [hok];simp only [UO,UP] at h4;rcases h4 with (h|h)|h<;>(rw [h];simp)
    ·simp only [Bool.or_eq_false_iff,Bool.not_eq_false'] at h4;obtain⟨⟨h5,h6⟩,h7⟩:=h4;refine⟨_,rfl,_,rfl,_,rfl,_,gj h3 (by omega),_,by omega,i+1,_,by omega,rfl,rfl,?_,rfl,rfl,rfl,rfl,rfl,by rw [hok,h5,h6,h7];rfl⟩;simp [O4]
 ·obtain rfl:=iY hi h3;rw [List.drop_length,DP] at hok
  (repeat (first|refine cU ?_|refine cT ?_))
  refine⟨trivial,trivial,?_⟩;rw [hok,fl,oC];cases l<;>simp
end Go.Ax.ek
set_option maxRecDepth 100000
namespace Go.Ax.ek
open Go Go.Ax Go.Ax.V Go.Ax.Ft
theorem Qs (p:Pg) (proc vars:Int) (l:List Sm) (hl:l.length<=4194304) (ih:∀s∈l,VS prog 105 [oY p proc vars,nV s] (fun r=>r=.b (BP p.aO proc vars s))) :
  VS prog 83 [oY p proc vars,.l (cZ l)] (fun r=>r=.b (si p.aO proc vars l)):=by
 refine QK _ _ _ ?_;unfold Tu
 (repeat (first|refine cU ?_|refine cT ?_))
 refine⟨fun m o5 x7 x8 x9=>∃i:Nat,i<=l.length/\m=l.length - i/\o5=oY p proc vars/\x7=.l (cZ l)/\x8=ii l.length/\x9=ii i/\(l.take i).all (BP p.aO proc vars)=true,
  ⟨_,0,by omega,rfl,rfl,rfl,by rw [dS],rfl,rfl⟩,?_⟩
 rintro m o5 x7 x8 x9 ⟨i,hi,rfl,rfl,rfl,rfl,rfl,hall⟩;refine⟨_,rfl,aS (fun h3=>?_) (fun h3=>?_)⟩
 ·replace h3:=iW h3;obtain⟨y,hy⟩:∃x,l[i]?=some x:=⟨_,Un h3⟩;have hy':(cZ l)[i]?=some (nV y):=by rw [gN,Us,hy];rfl
  have hih:=ih y (Uw hy);refine⟨_,⟨jO hy',xp y⟩,?_⟩;obtain⟨kind,var,chan,tag,⟨k1,n1,v1,ks1⟩,⟨op,⟨k2,n2,v2,ks2⟩,⟨k3,n3,v3,ks3⟩⟩,body,els,arms⟩:=y
  (repeat (first|refine cU ?_|refine cT ?_|refine jl ?_))
  refine aS (fun h4=>?_) (fun h4=>?_)
  ·refine⟨trivial,trivial,?_⟩;rw [tO,xd (f:=BP p.aO proc vars) hy (by simpa using h4)]
  ·exact⟨_,gj h3 (by omega),_,by omega,i+1,by omega,rfl,rfl,rfl,rfl,rfl,sY hy hall (by simpa using h4)⟩
 ·obtain rfl:=iY hi h3;rw [UF] at hall;refine⟨trivial,trivial,?_⟩;rw [tO,hall]
theorem CZ {aO:List Ch} {proc c:Int} {dst:Bool} (h:zo aO proc dst c=true):∃(k:Nat) (x:Ch),c=k/\aO[k]?=some x:=by
 unfold zo at h;split at h
 ·rename_i k;split at h
  ·rename_i x hx;exact⟨k,x,rfl,hx⟩
  ·cases h
 ·cases h
theorem Rj (p:Pg) (proc:Int) (vars:Int) (hv:0<=vars/\vars<=6) (hc:p.aO.length<=4194304) (ht:∀x∈p.aO,1<=x.tags/\x.tags<=4) :
  ∀(n:Nat) (s:Sm),BN s<=n->n<=4194304->VS prog 105 [oY p proc vars,nV s] (fun r=>r=.b (BP p.aO proc vars s)):=by
 intro n
 induction n with
 |zero=>intro s hs;have:=sZ s;omega
 |succ n ih=>
  intro s hs hn;obtain⟨kind,var,chan,tag,e,c,body,els,arms⟩:=s;simp only [BN] at hs;have hbody:VS prog 83 [oY p proc vars,.l (cZ body)] (fun r=>r=.b (si p.aO proc vars body)):=
   Qs p proc vars body (by have:=lS body;omega) (fun s hs'=>ih s (by have:=gX hs';omega) (by omega))
  have qjs:VS prog 83 [oY p proc vars,.l (cZ els)] (fun r=>r=.b (si p.aO proc vars els)):=
   Qs p proc vars els (by have:=lS els;omega) (fun s hs'=>ih s (by have:=gX hs';omega) (by omega))
  have h141:=LD e;have h142:=Ri c;have h143:=Jx vars hv e (by omega);have h144:=Rh vars hv c (by omega);have hsrc:=Ov p proc vars chan false hc;have qxw:=Ov p proc vars chan true hc;obtain⟨k1,n1,v1,ks1⟩:=e;obtain⟨op,⟨k2,n2,v2,ks2⟩,⟨k3,n3,v3,ks3⟩⟩:=c;refine ND _ _ _ ?_;unfold Qg
  (repeat (first|refine cU ?_|refine cT ?_|refine jl ?_))
  refine aS (fun h=>?_) (fun h=>?_)
  ·obtain rfl:kind=1:=by simpa [br] using h
   (repeat (first|refine cU ?_|refine cT ?_|refine jl ?_|refine eu (gJ _ _ _) ?_|refine gB _ (fun h=>by first|exact cy (gJ _ _ _)|(rw [h];exact cy (gJ _ _ _))) ?_|refine gO _ (fun h=>by first|exact cy (gJ _ _ _)|(rw [h];exact cy (gJ _ _ _))) ?_))
   refine⟨trivial,trivial,?_⟩;congr 1;unfold BP;simp only [br,dS,fl,fX,Bool.and_assoc,reduceIte,Int.reduceEq]
  have n1:¬kind=1:=by simpa [br] using h
  refine⟨_,rfl,aS (fun h=>?_) (fun h=>?_)⟩
  ·obtain rfl:kind=7:=by simpa [br] using h
   (repeat (first|refine cU ?_|refine cT ?_|refine eu (gJ _ _ _) ?_|refine gB _ (fun h=>by first|exact cy (gJ _ _ _)|(rw [h];exact cy (gJ _ _ _))) ?_|refine gO _ (fun h=>by first|exact cy (gJ _ _ _)|(rw [h];exact cy (gJ _ _ _))) ?_))
   refine⟨trivial,trivial,?_⟩;congr 1;unfold BP;simp only [br,dS,fl,fX,Bool.and_assoc,reduceIte,Int.reduceEq]
  have n7:¬kind=7:=by simpa [br] using h
  refine⟨_,rfl,aS (fun h=>?_) (fun h=>?_)⟩
  ·obtain rfl:kind=6:=by simpa [br] using h
   (repeat (first|refine cU ?_|refine cT ?_|refine jl ?_))
   refine⟨trivial,trivial,?_⟩;congr 1;unfold BP;simp only [br,dS,fl,fX,Bool.and_assoc,reduceIte,Int.reduceEq]
  have n6:¬kind=6:=by simpa [br] using h
  refine⟨_,rfl,aS (fun h=>?_) (fun h=>?_)⟩
  ·obtain rfl:kind=3:=by simpa [br] using h
   (repeat (first|refine cU ?_|refine cT ?_|refine jl ?_))
   refine⟨trivial,trivial,?_⟩;congr 1;unfold BP;simp only [br,dS,fl,fX,Bool.and_assoc,reduceIte,Int.reduceEq]
  have n3:¬kind=3:=by simpa [br] using h
  refine⟨_,rfl,aS (fun h=>?_) (fun h=>?_)⟩
  ·obtain rfl:kind=2:=by simpa [br] using h
   (repeat (first|refine cU ?_|refine cT ?_|refine jl ?_))
   refine⟨trivial,trivial,?_⟩;congr 1;unfold BP;simp only [br,dS,fl,fX,Bool.and_assoc,reduceIte,Int.reduceEq]
  have n2:¬kind=2:=by simpa [br] using h
  refine⟨_,rfl,aS (fun h=>?_) (fun h=>?_)⟩
  ·obtain rfl:kind=4:=by simpa [br] using h
   cases hE:zo p.aO proc false chan with
   |false=>
    rw [hE] at hsrc
    (repeat (first|refine cU ?_|refine cT ?_|refine jl ?_))
    refine⟨trivial,trivial,?_⟩;congr 1;unfold BP;simp [hE]
   |true=>
    rw [hE] at hsrc;obtain⟨k,x,rfl,hx⟩:=CZ hE;have qjg:=Ou p proc vars tag hx (ht x (Uw hx))
    (repeat (first|refine cU ?_|refine cT ?_|refine jl ?_))
    refine⟨trivial,trivial,?_⟩;congr 1;unfold BP;simp only [br,dS,fl,fX,Bool.and_assoc,reduceIte,Int.reduceEq,hE]
  have n4:¬kind=4:=by simpa [br] using h
  refine⟨_,rfl,aS (fun h=>?_) (fun h=>?_)⟩
  ·obtain rfl:kind=5:=by simpa [br] using h
   cases hE:zo p.aO proc true chan with
   |false=>
    rw [hE] at qxw
    (repeat (first|refine cU ?_|refine cT ?_|refine jl ?_))
    refine⟨trivial,trivial,?_⟩;congr 1;unfold BP;simp [hE]
   |true=>
    rw [hE] at qxw;obtain⟨k,x,rfl,hx⟩:=CZ hE;have h149:=Re p proc vars hv hx (ht x (Uw hx)) arms (by have:=xO arms;omega) (fun tag var body hm=>Qs p proc vars body (by
     have:=s5 hm;simp only [Jn] at this;have:=lS body;omega) (fun s hs'=>ih s (by
     have:=s5 hm;simp only [Jn] at this;have:=gX hs';omega) (by omega)))
    (repeat (first|refine cU ?_|refine cT ?_|refine jl ?_))
    refine⟨trivial,trivial,?_⟩;congr 1;unfold BP;simp only [br,dS,fl,fX,Bool.and_assoc,reduceIte,Int.reduceEq,hE]
  have n5:¬kind=5:=by simpa [br] using h
  refine⟨trivial,trivial,?_⟩;congr 1;unfold BP;simp [n1,n2,n3,n4,n5,n6,n7]
theorem TK (p:Pg) (hz:Ll p):VS prog 60 [oX p] (fun r=>r=.b (Bb p)):=by
 have hlc:=hz.aO;have hlp:=hz.procs;have hl1:(p.aO.map dg).length=p.aO.length:=Uy _;have hl2:(p.procs.map rm).length=p.procs.length:=Uy _;refine QO _ _ ?_;unfold Ty
 (repeat (first|refine cU ?_|refine cT ?_|refine eu (gJ _ _ _) ?_|refine gB _ (fun h=>by first|exact cy (gJ _ _ _)|(rw [h];exact cy (gJ _ _ _))) ?_|refine gO _ (fun h=>by first|exact cy (gJ _ _ _)|(rw [h];exact cy (gJ _ _ _))) ?_))
 rw [hl1,hl2];refine aS (fun h=>?_) (fun h=>?_)
 ·refine⟨trivial,trivial,?_⟩;congr 1;unfold Bb;simp only [oC,within,UO,UP,UT,Bool.and_eq_false_iff,UW] at h;symm;simp only [Bool.and_eq_false_iff,UW];omega
 simp only [oC,within,Bool.or_eq_false_iff,Bool.not_eq_false',UN,UT,UW] at h;obtain⟨hc4,hp1,hp4⟩:=h;have hok:Bb p=(p.aO.all (FT p.procs.length)&&zk p.aO 0 p.procs):=by unfold Bb;rw [UU (show p.aO.length<=4 by omega),UU (show 1<=p.procs.length by omega),UU (show p.procs.length<=4 by omega)];simp
 (repeat (first|refine cU ?_|refine cT ?_))
 refine⟨fun m o14 x16 x17 x18=>∃i:Nat,i<=p.aO.length/\m=p.aO.length - i/\o14=oX p/\x16=.l (p.aO.map dg)/\x17=ii p.aO.length/\x18=ii i/\(p.aO.take i).all (FT p.procs.length)=true,
  ⟨_,0,by omega,rfl,rfl,rfl,by rw [hl1],rfl,rfl⟩,?_⟩
 rintro m o14 x16 x17 x18 ⟨i,hi,rfl,rfl,rfl,rfl,rfl,hall⟩;refine⟨_,rfl,aS (fun h3=>?_) (fun h3=>?_)⟩
 ·replace h3:=iW h3;obtain⟨y,hy⟩:∃x,p.aO[i]?=some x:=⟨_,Un h3⟩;have hy':(p.aO.map dg)[i]?=some (dg y):=by rw [Us,hy];rfl
  have hym:=Uw hy;have h82:=TI y p.procs.length (by omega) (hz.rules y hym) (hz.rows y hym);rw [←hl2] at h82;refine⟨_,⟨jO hy',rfl⟩,?_⟩
  (repeat (first|refine cU ?_|refine cT ?_|refine jl ?_))
  rw [hl2];refine aS (fun h4=>?_) (fun h4=>?_)
  ·refine⟨trivial,trivial,?_⟩;rw [hok,xd (f:=FT p.procs.length) hy (by simpa using h4)];rfl
  ·exact⟨_,gj h3 (by omega),_,by omega,i+1,by omega,rfl,rfl,rfl,rfl,rfl,sY hy hall (by simpa using h4)⟩
 obtain rfl:=iY hi h3;rw [UF] at hall;rw [hall,Bool.true_and] at hok;have qzR:∀x∈p.aO,1<=x.tags/\x.tags<=4:=fun x hx=>by have:=UM.1 hall x hx;simp only [FT,within,UN,UT] at this;omega
 (repeat (first|refine cU ?_|refine cT ?_))
 refine⟨fun m o34 x36 x37 x38=>∃i:Nat,i<=p.procs.length/\m=p.procs.length - i/\o34=oX p/\x36=.l (p.procs.map rm)/\x37=ii p.procs.length/\x38=ii i/\zk p.aO 0 p.procs=zk p.aO i (p.procs.drop i),
  ⟨_,0,by omega,rfl,rfl,rfl,by rw [hl2],rfl,rfl⟩,?_⟩
 rintro m o34 x36 x37 x38 ⟨i,hi,rfl,rfl,rfl,rfl,rfl,hps⟩;refine⟨_,rfl,aS (fun h3=>?_) (fun h3=>?_)⟩
 ·replace h3:=iW h3;obtain⟨y,hy⟩:∃x,p.procs[i]?=some x:=⟨_,Un h3⟩;have hy':(p.procs.map rm)[i]?=some (rm y):=by rw [Us,hy];rfl
  have hym:=Uw hy;rw [drop_cons hy,zk] at hps;refine⟨_,⟨jO hy',rfl⟩,?_⟩;have hstep:∀(h:(!within y.vars 0 6||!si p.aO i y.vars y.body)=false),zk p.aO 0 p.procs=zk p.aO ((i+1:Nat):Int) (p.procs.drop (i+1)):=fun h=>by simp only [Bool.or_eq_false_iff,Bool.not_eq_false'] at h;rw [hps,h.1,h.2];simp
  cases hw:within y.vars 0 6 with
  |false=>
   have h81:=gJ y.vars 0 6;rw [hw] at h81
   (repeat (first|refine cU ?_|refine cT ?_|refine jl ?_))
   refine uk rfl ⟨trivial,trivial,?_⟩;rw [hok,hps,hw];rfl
  |true=>
   have h81:=gJ y.vars 0 6;rw [hw] at h81;have hv:0<=y.vars/\y.vars<=6:=by simpa [within] using hw
   have h83:=Qs p i y.vars y.body (by have:=hz.body y hym;have:=lS y.body;omega) (fun s hs=>Rj p i y.vars hv (by omega) qzR 4194304 s (U1 (gX hs) (hz.body y hym)) (U3 _))
   (repeat (first|refine cU ?_|refine cT ?_|refine jl ?_))
   refine aS (fun h4=>?_) (fun h4=>?_)
   ·refine⟨trivial,trivial,?_⟩;rw [hok,hps,hw];have h5:si p.aO i y.vars y.body=false:=by simpa using h4
    rw [h5];rfl
   ·exact⟨_,gj h3 (by omega),_,by omega,i+1,by omega,rfl,rfl,rfl,rfl,rfl,hstep (by rw [hw];exact h4)⟩
 ·obtain rfl:=iY hi h3;rw [List.drop_length,zk] at hps;refine⟨trivial,trivial,?_⟩;rw [hok,hps]
end Go.Ax.ek
set_option maxRecDepth 100000
namespace Go.Ax.ek
open Go Go.Ax Go.Ax.V Go.Ax.Ft
theorem Ot (op:Int):VS prog 41 [ii op] (fun r=>r=ii (LX op)):=by
 refine QU _ _ ?_;unfold TB;refine⟨_,rfl,aS (fun h=>?_) (fun h=>?_)⟩
 ·obtain rfl:op=1:=by simpa [br] using h
  exact⟨trivial,trivial,rfl⟩
 have n1:¬op=1:=by simpa [br] using h
 refine⟨_,rfl,aS (fun h=>?_) (fun h=>?_)⟩
 ·obtain rfl:op=2:=by simpa [br] using h
  exact⟨trivial,trivial,rfl⟩
 have n2:¬op=2:=by simpa [br] using h
 refine⟨_,rfl,aS (fun h=>?_) (fun h=>?_)⟩
 ·obtain rfl:op=3:=by simpa [br] using h
  exact⟨trivial,trivial,rfl⟩
 have n3:¬op=3:=by simpa [br] using h
 refine⟨_,rfl,aS (fun h=>?_) (fun h=>?_)⟩
 ·obtain rfl:op=4:=by simpa [br] using h
  exact⟨trivial,trivial,rfl⟩
 have n4:¬op=4:=by simpa [br] using h
 refine⟨_,rfl,aS (fun h=>?_) (fun h=>?_)⟩
 ·obtain rfl:op=5:=by simpa [br] using h
  exact⟨trivial,trivial,rfl⟩
 have n5:¬op=5:=by simpa [br] using h
 refine⟨_,rfl,aS (fun h=>?_) (fun h=>?_)⟩
 ·obtain rfl:op=6:=by simpa [br] using h
  exact⟨trivial,trivial,rfl⟩
 have n6:¬op=6:=by simpa [br] using h
 refine⟨trivial,trivial,?_⟩;simp [LX,n1,n2,n3,n4,n5,n6]
theorem n9 {α β:Type} {l:List α} {f:α->β} {i:Nat} {x:α} (hx:l[i]?=some x):(l.take i).map f++[f x]=(l.take (i+1)).map f:=by rw [←zx hx];simp
theorem Jy:∀(e:Ex),Gs e<=4194304->VS prog 106 [qV e] (fun r=>r=qV e)
 |.mk k n v ks,hB=>by
  have hks:BZ ks<=4194304:=by simp only [Gs] at hB;omega
  have hk:=U1 (xN ks) hks;have ih:∀e∈ks,VS prog 106 [qV e] (fun r=>r=qV e):=fun e he=>Jy e (U1 (xz he) hks)
  refine NC _ _ ?_;unfold Qf
  (repeat (first|refine cU ?_|refine cT ?_))
  refine⟨fun m o7 l8 o9 l10 x11 x12 x13=>∃i:Nat,i<=ks.length/\m=ks.length - i/\o7=.a [ii k,ii n,ii v,.l []]/\l8=(ks.take i).map qV/\o9=.a [ii 0,ii 0,ii 0,.l []]/\x11=.l (rq ks)/\x12=ii ks.length/\x13=ii i,
   ⟨_,0,by omega,rfl,rfl,rfl,rfl,rfl,by rw [mg],rfl⟩,?_⟩
  rintro m o7 l8 o9 l10 x11 x12 x13 ⟨i,hi,rfl,rfl,rfl,rfl,rfl,rfl,rfl⟩;refine⟨_,rfl,aS (fun h3=>?_) (fun h3=>?_)⟩
  ·replace h3:=iW h3;obtain⟨x,hx⟩:∃x,ks[i]?=some x:=⟨_,Un h3⟩;have hx':(rq ks)[i]?=some (qV x):=by rw [mc,Us,hx];rfl
   have hih:=ih x (Uw hx);refine⟨_,⟨jO hx',Fm x⟩,?_⟩;have hl:((ks.take i).map qV).length<=4194304:=by simp;omega
   have ht:=n9 (f:=qV) hx;obtain⟨k',n',v',ks'⟩:=x
   (repeat (first|refine cU ?_|refine cT ?_|refine jl ?_))
   refine⟨_,wQ,?_⟩;rw [ht];exact⟨_,rfl,_,gj h3 (by omega),_,by omega,i+1,by omega,rfl,rfl,rfl,rfl,rfl,rfl,rfl⟩
  ·obtain rfl:=iY hi h3
   (repeat (first|refine cU ?_|refine cT ?_))
   refine⟨trivial,_,rfl,_,rfl,trivial,?_⟩;rw [UF,←mc];rfl
theorem LF (c:Co) (hB:KN c<=4194304):VS prog 107 [Eh c] (fun r=>r=Eh c):=by
 obtain⟨op,l,r⟩:=c;simp only [KN] at hB;have hl:=Jy l (by omega);have hr:=Jy r (by omega);obtain⟨k1,n1,v1,ks1⟩:=l;obtain⟨k2,n2,v2,ks2⟩:=r;refine NB _ _ ?_;unfold Qe
 (repeat (first|refine cU ?_|refine cT ?_|refine jl ?_))
 exact⟨trivial,_,rfl,trivial,rfl⟩
theorem Ow (c:Co) (hB:KN c<=4194304):VS prog 109 [Eh c] (fun r=>r=Eh (Bd c)):=by
 have h:=LF c hB;obtain⟨op,l,r⟩:=c;obtain⟨k1,n1,v1,ks1⟩:=l;obtain⟨k2,n2,v2,ks2⟩:=r;refine NA _ _ ?_;unfold Qd
 (repeat (first|refine cU ?_|refine cT ?_|refine jl ?_|refine eu (Ot _) ?_|refine gB _ (fun h=>by first|exact cy (Ot _)|(rw [h];exact cy (Ot _))) ?_|refine gO _ (fun h=>by first|exact cy (Ot _)|(rw [h];exact cy (Ot _))) ?_))
 exact⟨trivial,_,rfl,trivial,rfl⟩
def oG (g:Gr):TV:=.a [ii g.nodes,.l [],.l []]
def eE (g:Gr):List TV:=g.c6.map C0
def eH (g:Gr):List TV:=g.heads.map ii
structure grow (g g':Gr) (n:Nat):Prop where
 lo:g.nodes<=g'.nodes
 hi:g'.nodes<=g.nodes+n
 e:g'.c6.length<=g.c6.length+n
 h:g'.heads.length<=g.heads.length+n
theorem grow.refl (g:Gr):grow g g 0:=⟨by omega,by omega,by omega,by omega⟩
theorem grow.trans {g1 g2 g3:Gr} {n m:Nat} (h:grow g1 g2 n) (h':grow g2 g3 m):grow g1 g3 (n+m):=
 ⟨by have:=h.lo;have:=h'.lo;omega,by have:=h.hi;have:=h'.hi;omega,by have:=h.e;have:=h'.e;omega,by have:=h.h;have:=h'.h;omega⟩
theorem grow.le {g1 g2:Gr} {n m:Nat} (h:grow g1 g2 n) (hm:n<=m):grow g1 g2 m:=
 ⟨h.lo,by have:=h.hi;omega,by have:=h.e;omega,by have:=h.h;omega⟩
theorem l_ (g:Gr) (e:Ed):grow g (g.cg e) 1:=⟨by simp [Gr.cg],by simp [Gr.cg];omega,by simp [Gr.cg],by simp [Gr.cg]⟩
theorem Ak (g:Gr):grow g g.node 1:=⟨by simp [Gr.node];omega,by simp [Gr.node],by simp [Gr.node],by simp [Gr.node]⟩
theorem qn (g:Gr) (e:Ed):grow g (g.node.cg e) 1:=⟨by simp [Gr.node,Gr.cg];omega,by simp [Gr.node,Gr.cg],by simp [Gr.node,Gr.cg],by simp [Gr.node,Gr.cg]⟩
mutual
theorem xQ:∀(s:Sm) (a b:Int) (g:Gr),grow g (BO s a b g) (BN s - 1)
 |.mk kind var chan tag e c body els arms,a,b,g=>by
  have hs:BN (.mk kind var chan tag e c body els arms)=5+Gs e+KN c+gk body+gk els+rV arms:=by rw [BN]
  rw [hs,BO];split
  ·exact(l_ _ _).le (by omega)
  split
  ·have h1:=(qn g ⟨a,g.nodes,2,0,0,0,jW,c⟩).trans (kq body g.nodes b _);have h2:=h1.trans (qn _ ⟨a,(nQ body g.nodes b (g.node.cg ⟨a,g.nodes,2,0,0,0,jW,c⟩)).nodes,2,0,0,0,jW,Bd c⟩);exact(h2.trans (kq els _ b _)).le (by omega)
  split
  ·have h0:grow g ((((g.head a).node).cg ⟨a,g.nodes,2,0,0,0,jW,c⟩).cg ⟨a,b,2,0,0,0,jW,Bd c⟩) 2:=⟨by simp [Gr.node,Gr.cg,Gr.head];omega,by simp [Gr.node,Gr.cg,Gr.head];try omega,by simp [Gr.node,Gr.cg,Gr.head],by simp [Gr.node,Gr.cg,Gr.head]⟩;exact(h0.trans (kq body g.nodes a _)).le (by omega)
  split
  ·exact(l_ _ _).le (by omega)
  split
  ·exact(Dd chan arms a b g).le (by omega)
  split
  ·exact(l_ _ _).le (by omega)
  split
  ·exact(l_ _ _).le (by omega)
  ·exact(grow.refl g).le (by omega)
theorem kq:∀(l:List Sm) (a b:Int) (g:Gr),grow g (nQ l a b g) (gk l+1)
 |[],a,b,g=>by rw [nQ];exact(l_ _ _).le (by omega)
 |[s],a,b,g=>by rw [nQ];exact(xQ s a b g).le (by simp [gk];omega)
 |s::t::r,a,b,g=>by rw [nQ];have h1:=xQ s a g.nodes g.node;have h2:=kq (t::r) g.nodes b (BO s a g.nodes g.node);have h0:=((Ak g).trans h1).trans h2;have:=sZ s;exact h0.le (by simp only [gk];omega)
theorem Dd:∀(chan:Int) (l:List Ar) (a b:Int) (g:Gr),grow g (Dm chan l a b g) (rV l)
 |chan,[],a,b,g=>by rw [Dm];exact(grow.refl g).le (by simp [rV])
 |chan,.mk tag var body::r,a,b,g=>by rw [Dm];have h1:=(qn g ⟨a,g.nodes,4,var,chan,tag,jW,oq⟩).trans (kq body g.nodes b _);exact(h1.trans (Dd chan r a b _)).le (by simp only [rV,Jn];omega)
end
structure fits (g:Gr) (n:Nat):Prop where
 lo:0<=g.nodes
 nn:g.nodes+n<=100000000
 e:g.c6.length+n<=100000000
 h:g.heads.length+n<=100000000
theorem fits.le {g:Gr} {n m:Nat} (h:fits g n) (hm:m<=n):fits g m:=⟨h.lo,by have:=h.nn;omega,by have:=h.e;omega,by have:=h.h;omega⟩
theorem fits.grow {g g':Gr} {n m:Nat} (h:fits g (n+m)) (hg:grow g g' n):fits g' m:=
 ⟨by have:=h.lo;have:=hg.lo;omega,by have:=h.nn;have:=hg.hi;omega,by have:=h.e;have:=hg.e;omega,by have:=h.h;have:=hg.h;omega⟩
theorem GL {es:List TV} {k:Nat} (hk:k<=es.length):Qr (.l es) none (some (ii k))=some (.l (es.take k)):=by
 have h1:MA (k:Int) es.length=some k:=by show (bif Nat.ble k es.length then some k else none)=some k;rw [Nat.ble_eq_true_of_le hk];rfl
 show (match Gh none (some (ii k)) es.length with|some (l,h)=>some (TV.l ((es.drop l).take (h - l)))|none=>none)=_;unfold Gh IL;simp only [h1];rfl
theorem EB {n:Nat} {es:List TV} (h:∀e∈es,lE n e):uR n es:=by
 cases es with
 |nil=>trivial
 |cons e r=>exact h e UG
theorem Lm (l:List Sm):uR 20 (cZ l):=EB (fun e he=>by rw [gN] at he;obtain⟨s,_,rfl⟩:=UL.1 he;exact xp s)
theorem H8 {s:Sm} {r:List Sm} (hr:r≠[]) (a b:Int) (g:Gr):nQ (s::r) a b g=nQ r g.nodes b (BO s a g.nodes g.node):=by
 cases r with
 |nil=>exact absurd rfl hr
 |cons t r=>rw [nQ]
theorem zN {l:List Sm} {i:Nat} {s:Sm} (h:l[i]?=some s):gk (l.drop i)=BN s+gk (l.drop (i+1)):=by rw [drop_cons h,gk]
end Go.Ax.ek
set_option maxRecDepth 100000
namespace Go.Ax.ek
open Go Go.Ax Go.Ax.V Go.Ax.Ft
theorem TL (l:List Int) (hl:l.length<=4194304):VS prog 56 [sN l] (fun r=>r=sN l):=by
 refine QS _ _ ?_;unfold Tz;refine⟨_,rfl,fun b hb=>aS (fun h=>?_) (fun h=>?_)⟩
 ·refine⟨trivial,trivial,?_⟩;have:l=[]:=by
   cases l with
   |nil=>rfl
   |cons x r=>have:=hb (by simp);rw [h] at this;cases this
  subst this;rfl
 ·have hln:(l.map ii).length<=4194304:=by rw [Uy];exact hl
  exact⟨_,rfl,EB (fun e he=>by obtain⟨x,_,rfl⟩:=UL.1 he;rfl),_,wQ,trivial,trivial,rfl⟩
end Go.Ax.ek
set_option maxRecDepth 100000
namespace Go.Ax.ek
open Go Go.Ax Go.Ax.V Go.Ax.Ft
theorem t84 (g:Gr) (e:Ed) (hn:g.c6.length<=100000000) (Q:TV->List TV->List TV->TV->Prop) (h:Q (oG (g.cg e)) (eE (g.cg e)) (eH (g.cg e)) (.tp [])):I5 Q (oG g) (eE g) (eH g) (C0 e):=by
 have hl:(eE g).length<=100000000:=by simp [eE];omega
 have he:eE (g.cg e)=eE g++[C0 e]:=by simp [eE,Gr.cg]
 rw [he] at h;refine Q8 _ _ _ _ _ ?_;obtain⟨a,b,c,d,f,t,⟨k1,n1,v1,ks1⟩,⟨op,⟨k2,n2,v2,ks2⟩,⟨k3,n3,v3,ks3⟩⟩⟩:=e;unfold M0
 (repeat (first|refine cU ?_|refine cT ?_))
 refine⟨_,wQ,?_⟩
 (repeat (first|refine cU ?_|refine cT ?_))
 exact⟨trivial,trivial,h⟩
theorem t85 (g:Gr) (hn:0<=g.nodes/\g.nodes<=100000000) (Q:TV->List TV->List TV->TV->Prop) (h:Q (oG g.node) (eE g.node) (eH g.node) (ii g.nodes)):Nj Q (oG g) (eE g) (eH g):=by
 refine Q7 _ _ _ _ ?_;unfold MZ
 (repeat (first|refine cU ?_|refine cT ?_))
 refine⟨trivial,?_⟩;rw [show g.nodes+1 - 1=g.nodes by omega];exact h
end Go.Ax.ek
set_option maxRecDepth 100000
namespace Go.Ax.ek
open Go Go.Ax Go.Ax.V Go.Ax.Ft
def Qj (s:Sm):Prop:=∀(g:Gr) (a b:Int),fits g (BN s)->∀Q:TV->List TV->List TV->TV->Prop,Q (oG (BO s a b g)) (eE (BO s a b g)) (eH (BO s a b g)) (.tp [])->Qy Q (oG g) (eE g) (eH g) (nV s) (ii a) (ii b)
def Df (l:List Sm):Prop:=∀(g:Gr) (a b:Int),fits g (gk l+1)->∀Q:TV->List TV->List TV->TV->Prop,Q (oG (nQ l a b g)) (eE (nQ l a b g)) (eH (nQ l a b g)) (.tp [])->Nk Q (oG g) (eE g) (eH g) (.l (cZ l)) (ii a) (ii b)
theorem t62 (l:List Sm) (hs:∀s∈l,Qj s):Df l:=by
 intro g a b hf Q hQ;have hll:=lS l;have hfn:=hf.nn;have hfl:=hf.lo;have hfe:=hf.e;refine Q_ _ _ _ _ _ _ _ ?_;unfold M3;refine⟨_,rfl,_,rfl,aS (fun h=>?_) (fun h=>?_)⟩
 ·have hl:l=[]:=by simp only [br,dS,UT] at h;exact UY.1 (by omega)
  subst hl;rw [nQ] at hQ;refine⟨_,rfl,_,rfl,_,rfl,?_⟩;exact t84 g ⟨a,b,0,0,0,0,jW,oq⟩ (by omega) _ ⟨trivial,trivial,hQ⟩
 ·have hl:l.length≠0:=by simp only [br,dS,UW] at h;omega
  have hen:=dS l;refine⟨_,rfl,_,jy,?_⟩;rw [hen,show ((l.length:Int) - 1)=((l.length - 1:Nat):Int) by omega];refine⟨_,⟨GL (by omega),fun es he=>by cases he;exact Lm l⟩,_,rfl,?_⟩;have htl:((cZ l).take (l.length - 1)).length=l.length - 1:=by rw [UA];omega
  rw [htl];refine⟨fun m o17 l18 l19 x20 x21 x22 x23 x24 x25=>∃(i:Nat) (G:Gr) (a':Int),i<=l.length - 1/\m=l.length - 1 - i/\o17=oG G/\l18=eE G/\l19=eH G/\x20=.l (cZ l)/\x21=ii a'/\x22=ii b/\x23=.l ((cZ l).take (l.length - 1))/\x24=ii ((l.length - 1:Nat):Int)/\x25=ii i/\
   nQ l a b g=nQ (l.drop i) a' b G/\fits G (gk (l.drop i)+1),⟨_,0,g,a,by omega,rfl,rfl,rfl,rfl,rfl,rfl,rfl,rfl,rfl,rfl,rfl,hf⟩,?_⟩
  rintro m o17 l18 l19 x20 x21 x22 x23 x24 x25 ⟨i,G,a',hi,rfl,rfl,rfl,rfl,rfl,rfl,rfl,rfl,rfl,rfl,hla,hfit⟩;refine⟨_,rfl,aS (fun h3=>?_) (fun h3=>?_)⟩
  ·replace h3:=iW h3;obtain⟨x,hx⟩:∃x,l[i]?=some x:=⟨_,Un (by omega)⟩;have hx':((cZ l).take (l.length - 1))[i]?=some (nV x):=by rw [Uu,if_pos h3,gN,Us,hx];rfl
   have h86:=hs x (Uw hx);have hdr:=zN hx;have hne:l.drop (i+1)≠[]:=by intro hc;have:=congrArg List.length hc;simp at this;omega
   rw [drop_cons hx,H8 hne] at hla;have hfn:=hfit.nn;have hfl:=hfit.lo;have hpos:=sZ x;have hf1:fits G.node (BN x - 1+(gk (l.drop (i+1))+1)):=(hfit.le (m:=1+(BN x - 1+(gk (l.drop (i+1))+1))) (by omega)).grow (Ak G);have hf2:=hf1.grow (xQ x a' G.nodes G.node);have hsz:fits G.node (BN x):=hf1.le (by omega);refine⟨_,⟨jO hx',xp x⟩,?_⟩;obtain⟨kind,var,chan,tag,⟨k1,n1,v1,ks1⟩,⟨op,⟨k2,n2,v2,ks2⟩,⟨k3,n3,v3,ks3⟩⟩,body,els,arms⟩:=x;refine⟨_,rfl,_,rfl,t85 G (by omega) _ ?_⟩;refine⟨_,rfl,h86 G.node a' G.nodes hsz _ ?_⟩;refine⟨_,gj h3 (by omega),_,by omega,i+1,_,_,by omega,rfl,rfl,rfl,rfl,rfl,rfl,rfl,rfl,rfl,rfl,hla,hf2⟩
  ·obtain rfl:=iY hi h3;obtain⟨x,hx⟩:∃x,l[l.length - 1]?=some x:=⟨_,Un (by omega)⟩;have hx':(cZ l)[l.length - 1]?=some (nV x):=by rw [gN,Us,hx];rfl
   have h86:=hs x (Uw hx);have hdr:=zN hx;have hd0:l.drop (l.length - 1+1)=[]:=by rw [List.drop_eq_nil_iff];omega
   rw [drop_cons hx,hd0,nQ] at hla;rw [hla] at hQ;refine⟨_,rfl,_,jy,?_⟩;rw [hen,show ((l.length:Int) - 1)=((l.length - 1:Nat):Int) by omega];refine⟨_,⟨jO hx',xp x⟩,?_⟩;have hsz:fits G (BN x):=hfit.le (by omega);obtain⟨kind,var,chan,tag,⟨k1,n1,v1,ks1⟩,⟨op,⟨k2,n2,v2,ks2⟩,⟨k3,n3,v3,ks3⟩⟩,body,els,arms⟩:=x;exact⟨_,rfl,h86 G a' b hsz _ ⟨trivial,trivial,hQ⟩⟩
end Go.Ax.ek
set_option maxRecDepth 100000
namespace Go.Ax.ek
open Go Go.Ax Go.Ax.V Go.Ax.Ft
theorem t108 (l:List Sm) (hl:Df l) (c:Co) (g:Gr) (a b:Int) (hf:fits g (1+(gk l+1))) (Q:TV->List TV->List TV->TV->Prop)
  (hQ:Q (oG (nQ l g.nodes b (g.node.cg ⟨a,g.nodes,2,0,0,0,jW,c⟩))) (eE (nQ l g.nodes b (g.node.cg ⟨a,g.nodes,2,0,0,0,jW,c⟩))) (eH (nQ l g.nodes b (g.node.cg ⟨a,g.nodes,2,0,0,0,jW,c⟩))) (.tp [])) :
  KF Q (oG g) (eE g) (eH g) (Eh c) (.l (cZ l)) (ii a) (ii b):=by
 have hn:=hf.nn;have hlo:=hf.lo;have he:=hf.e;have hf2:=hf.grow (qn g ⟨a,g.nodes,2,0,0,0,jW,c⟩);have h84:=t84 g.node ⟨a,g.nodes,2,0,0,0,jW,c⟩ (by simp only [Gr.node];omega);obtain⟨op,⟨k2,n2,v2,ks2⟩,⟨k3,n3,v3,ks3⟩⟩:=c;refine Od _ _ _ _ _ _ _ _ ?_;unfold I2;refine⟨rfl,t85 g (by omega) _ ?_⟩;refine⟨_,rfl,_,rfl,_,rfl,_,rfl,_,rfl,_,rfl,h84 _ ?_⟩;exact hl _ _ _ hf2 _ ⟨trivial,trivial,hQ⟩
theorem t110 (kind var chan tag:Int) (e:Ex) (c:Co) (body els:List Sm) (arms:List Ar) (hc:KN c<=4194304) (hl:Df body) (g:Gr) (a b:Int) (hf:fits g (2+(gk body+1))) (Q:TV->List TV->List TV->TV->Prop)
  (hQ:let g':=nQ body g.nodes a ((((g.head a).node).cg ⟨a,g.nodes,2,0,0,0,jW,c⟩).cg ⟨a,b,2,0,0,0,jW,Bd c⟩)
   Q (oG g') (eE g') (eH g') (.tp [])):M7 Q (oG g) (eE g) (eH g) (nV (.mk kind var chan tag e c body els arms)) (ii a) (ii b):=by
 have hn:=hf.nn;have hlo:=hf.lo;have he:=hf.e;have hh:=hf.h;have hlh:(eH g).length<=100000000:=by simp [eH];omega
 have h0:grow g ((((g.head a).node).cg ⟨a,g.nodes,2,0,0,0,jW,c⟩).cg ⟨a,b,2,0,0,0,jW,Bd c⟩) 2:=⟨by simp [Gr.node,Gr.cg,Gr.head];omega,by simp [Gr.node,Gr.cg,Gr.head];try omega,by simp [Gr.node,Gr.cg,Gr.head],by simp [Gr.node,Gr.cg,Gr.head]⟩;have hf2:=hf.grow h0;have h84:=t84 (g.head a).node ⟨a,g.nodes,2,0,0,0,jW,c⟩ (by simp only [Gr.node,Gr.head];omega);have qjX:=t84 ((g.head a).node.cg ⟨a,g.nodes,2,0,0,0,jW,c⟩) ⟨a,b,2,0,0,0,jW,Bd c⟩ (by simp only [Gr.node,Gr.head,Gr.cg,Uz,UC];omega);have qzK:=LF c hc;have qjh:=Ow c hc;have h85:=t85 (g.head a) (by simp only [Gr.head];omega);have heh:eH (g.head a)=eH g++[ii a]:=by simp [eH,Gr.head]
 rw [heh] at h85;obtain⟨k1,n1,v1,ks1⟩:=e;obtain⟨op,⟨k2,n2,v2,ks2⟩,⟨k3,n3,v3,ks3⟩⟩:=c;refine Oc _ _ _ _ _ _ _ ?_;unfold I1;refine⟨rfl,rfl,rfl,_,rfl,rfl,_,wQ,_,rfl,h85 _ ?_⟩;refine⟨_,rfl,eu qzK ⟨_,rfl,_,rfl,_,rfl,_,rfl,_,rfl,h84 _ ?_⟩⟩;refine⟨_,rfl,eu qjh ⟨_,rfl,_,rfl,_,rfl,_,rfl,_,rfl,qjX _ ?_⟩⟩;refine⟨_,rfl,hl _ _ _ hf2 _ ⟨trivial,trivial,hQ⟩⟩
theorem t111 (kind var chan tag:Int) (e:Ex) (c:Co) (body els:List Sm) (arms:List Ar) (hl:∀tag var body,Ar.mk tag var body∈arms->Df body) (g:Gr) (a b:Int) (hf:fits g (rV arms)) (Q:TV->List TV->List TV->TV->Prop)
  (hQ:Q (oG (Dm chan arms a b g)) (eE (Dm chan arms a b g)) (eH (Dm chan arms a b g)) (.tp [])):M6 Q (oG g) (eE g) (eH g) (nV (.mk kind var chan tag e c body els arms)) (ii a) (ii b):=by
 have hlen:=xO arms;have hn:=hf.nn;have hlo:=hf.lo;obtain⟨k1,n1,v1,ks1⟩:=e;obtain⟨op,⟨k2,n2,v2,ks2⟩,⟨k3,n3,v3,ks3⟩⟩:=c;refine Ob _ _ _ _ _ _ _ ?_;unfold IZ;refine⟨rfl,_,rfl,_,rfl,?_⟩;rw [fl];refine⟨fun m o6 l7 l8 o9 x10 x11 x12 x13 x14=>∃(i:Nat) (G:Gr),i<=arms.length/\m=arms.length - i/\o6=oG G/\l7=eE G/\l8=eH G/\o9=nV (.mk kind var chan tag (.mk k1 n1 v1 ks1) ⟨op,.mk k2 n2 v2 ks2,.mk k3 n3 v3 ks3⟩ body els arms)/\x10=ii a/\x11=ii b/\x12=.l (o8 arms)/\x13=ii arms.length/\x14=ii i/\
   Dm chan arms a b g=Dm chan (arms.drop i) a b G/\fits G (rV (arms.drop i)),⟨_,0,g,by omega,rfl,rfl,rfl,rfl,rfl,rfl,rfl,rfl,rfl,rfl,rfl,hf⟩,?_⟩
 rintro m o6 l7 l8 o9 x10 x11 x12 x13 x14 ⟨i,G,hi,rfl,rfl,rfl,rfl,rfl,rfl,rfl,rfl,rfl,rfl,har,hfit⟩;refine⟨_,rfl,aS (fun h3=>?_) (fun h3=>?_)⟩
 ·replace h3:=iW h3;obtain⟨x,hx⟩:∃x,arms[i]?=some x:=⟨_,Un h3⟩;have hx':(o8 arms)[i]?=some (Km x):=by rw [qu,Us,hx];rfl
  obtain⟨t,v,bd⟩:=x;have hb:=hl t v bd (Uw hx);rw [drop_cons hx,Dm] at har;rw [drop_cons hx,rV,Jn] at hfit;have hfn:=hfit.nn;have hfl:=hfit.lo;have hfe:=hfit.e;have hf1:fits (G.node.cg ⟨a,G.nodes,4,v,chan,t,jW,oq⟩) ((gk bd+1)+rV (arms.drop (i+1))):=(hfit.le (m:=1+((gk bd+1)+rV (arms.drop (i+1)))) (by omega)).grow (qn G _);have hf2:=hf1.grow (kq bd G.nodes b _);have h84:=t84 G.node ⟨a,G.nodes,4,v,chan,t,jW,oq⟩ (by simp only [Gr.node];omega);refine⟨_,⟨jO hx',rfl⟩,_,rfl,_,rfl,t85 G (by omega) _ ?_⟩;refine⟨_,rfl,_,rfl,_,rfl,_,rfl,_,rfl,_,rfl,_,rfl,_,rfl,_,rfl,_,rfl,h84 _ ?_⟩;refine⟨_,rfl,hb _ _ _ (hf1.le (by omega)) _ ?_⟩;exact⟨_,gj h3 (by omega),_,by omega,i+1,_,by omega,rfl,rfl,rfl,rfl,rfl,rfl,rfl,rfl,rfl,rfl,har,hf2⟩
 ·obtain rfl:=iY hi h3;rw [List.drop_length,Dm] at har;rw [har] at hQ;exact⟨trivial,trivial,hQ⟩
theorem t86:∀(n:Nat) (s:Sm),BN s<=n->n<=4194304->Qj s:=by
 intro n
 induction n with
 |zero=>intro s hs;have:=sZ s;omega
 |succ n ih=>
  intro s hs hn;obtain⟨kind,var,chan,tag,e,c,body,els,arms⟩:=s;intro g a b hf Q hQ;rw [BN] at hs hf;have hbody:Df body:=t62 body (fun s hs'=>ih s (by have:=gX hs';omega) (by omega));have qjs:Df els:=t62 els (fun s hs'=>ih s (by have:=gX hs';omega) (by omega));have qjb:∀tag var body,Ar.mk tag var body∈arms->Df body:=fun tag var body hm=>t62 body (fun s hs'=>ih s (by have:=s5 hm;simp only [Jn] at this;have:=gX hs';omega) (by omega))
  have qjw:=Jy e (by omega);have qzK:=LF c (by omega);have qjh:=Ow c (by omega);have qzM:=t110 kind var chan tag e c body els arms (by omega) hbody g a b (hf.le (by omega));have qzL:=t111 kind var chan tag e c body els arms qjb g a b (hf.le (by omega));have hfe:=hf.e;have qjZ:=t108 body hbody c g a b (hf.le (by omega));have hgb:=(qn g ⟨a,g.nodes,2,0,0,0,jW,c⟩).trans (kq body g.nodes b (g.node.cg ⟨a,g.nodes,2,0,0,0,jW,c⟩));have hfb:=(hf.le (m:=(1+(gk body+1))+(1+(gk els+1))) (by omega)).grow hgb;have qji:=t108 els qjs (Bd c) (nQ body g.nodes b (g.node.cg ⟨a,g.nodes,2,0,0,0,jW,c⟩)) a b hfb;have h1:=t84 g ⟨a,b,1,var,0,0,e,oq⟩ (by omega);have h4:=t84 g ⟨a,b,3,0,chan,tag,e,oq⟩ (by omega);have h6:=t84 g ⟨a,b,5,0,0,0,jW,c⟩ (by omega);have h7:=t84 g ⟨a,b,6,var,0,0,jW,oq⟩ (by omega);obtain⟨k1,n1,v1,ks1⟩:=e;obtain⟨op,⟨k2,n2,v2,ks2⟩,⟨k3,n3,v3,ks3⟩⟩:=c;refine Q6 _ _ _ _ _ _ _ ?_;rw [BO] at hQ;unfold MY;refine⟨rfl,_,rfl,_,rfl,aS (fun h=>?_) (fun h=>?_)⟩
  ·obtain rfl:kind=1:=by simpa [br] using h
   rw [if_pos rfl] at hQ;exact⟨_,rfl,_,rfl,eu qjw ⟨_,rfl,_,rfl,_,rfl,_,rfl,_,rfl,_,rfl,h1 _ ⟨trivial,trivial,hQ⟩⟩⟩
  have m1:¬kind=1:=by simpa [br] using h
  rw [if_neg m1] at hQ;refine⟨_,rfl,aS (fun h=>?_) (fun h=>?_)⟩
  ·obtain rfl:kind=4:=by simpa [br] using h
   rw [if_neg (by decide),if_neg (by decide),if_pos rfl] at hQ;exact⟨_,rfl,_,rfl,_,rfl,eu qjw ⟨_,rfl,_,rfl,_,rfl,_,rfl,_,rfl,_,rfl,_,rfl,h4 _ ⟨trivial,trivial,hQ⟩⟩⟩
  have m4:¬kind=4:=by simpa [br] using h
  refine⟨_,rfl,aS (fun h=>?_) (fun h=>?_)⟩
  ·obtain rfl:kind=6:=by simpa [br] using h
   rw [if_neg (by decide),if_neg (by decide),if_neg (by decide),if_neg (by decide),if_pos rfl] at hQ;exact⟨_,rfl,eu qzK ⟨_,rfl,_,rfl,_,rfl,_,rfl,_,rfl,h6 _ ⟨trivial,trivial,hQ⟩⟩⟩
  have m6:¬kind=6:=by simpa [br] using h
  refine⟨_,rfl,aS (fun h=>?_) (fun h=>?_)⟩
  ·obtain rfl:kind=7:=by simpa [br] using h
   rw [if_neg (by decide),if_neg (by decide),if_neg (by decide),if_neg (by decide),if_neg (by decide),if_pos rfl] at hQ;exact⟨_,rfl,_,rfl,_,rfl,_,rfl,_,rfl,_,rfl,h7 _ ⟨trivial,trivial,hQ⟩⟩
  have m7:¬kind=7:=by simpa [br] using h
  refine⟨_,rfl,aS (fun h=>?_) (fun h=>?_)⟩
  ·obtain rfl:kind=2:=by simpa [br] using h
   rw [if_pos rfl] at hQ;exact⟨_,rfl,eu qzK ⟨_,rfl,qjZ _ ⟨_,rfl,eu qjh ⟨_,rfl,qji _ ⟨trivial,trivial,hQ⟩⟩⟩⟩⟩
  have m2:¬kind=2:=by simpa [br] using h
  refine⟨_,rfl,aS (fun h=>?_) (fun h=>?_)⟩
  ·obtain rfl:kind=3:=by simpa [br] using h
   rw [if_neg (by decide),if_pos rfl] at hQ;exact⟨_,rfl,qzM _ ⟨trivial,trivial,hQ⟩⟩
  have m3:¬kind=3:=by simpa [br] using h
  refine⟨_,rfl,aS (fun h=>?_) (fun h=>?_)⟩
  ·obtain rfl:kind=5:=by simpa [br] using h
   rw [if_neg (by decide),if_neg (by decide),if_neg (by decide),if_pos rfl] at hQ;exact⟨_,rfl,qzL _ ⟨trivial,trivial,hQ⟩⟩
  have m5:¬kind=5:=by simpa [br] using h
  rw [if_neg m2,if_neg m3,if_neg m4,if_neg m5,if_neg m6,if_neg m7] at hQ;exact⟨trivial,trivial,hQ⟩
theorem TF (l:List Sm) (hl:gk l<=4194304):Df l:=t62 l (fun s hs=>t86 4194304 s (U1 (gX hs) hl) (U3 _))
end Go.Ax.ek
set_option maxRecDepth 100000
namespace Go.Ax.ek
open Go Go.Ax Go.Ax.V Go.Ax.Ft
theorem TJ (l:List Ch) (hl:l.length<=4194304) (hr:∀c∈l,c.rule.length<=4194304) (hr2:∀c∈l,∀r∈c.rule,r.length<=4194304):VS prog 61 [.l (l.map dg)] (fun r=>r=.l (l.map dg)):=by
 refine QN _ _ ?_;unfold Tx;have hm:(l.map dg).length=l.length:=Uy _;refine⟨_,rfl,fun m l6 x7 x8 x9=>∃i:Nat,i<=l.length/\m=l.length - i/\l6=(l.take i).map dg/\x7=.l (l.map dg)/\x8=ii l.length/\x9=ii i,⟨_,0,by omega,rfl,rfl,rfl,by rw [hm],rfl⟩,?_⟩;rintro m l6 x7 x8 x9 ⟨i,hi,rfl,rfl,rfl,rfl,rfl⟩;refine⟨_,rfl,aS (fun h3=>?_) (fun h3=>?_)⟩
 ·replace h3:=iW h3;obtain⟨c,hx⟩:∃x,l[i]?=some x:=⟨_,Un h3⟩;have hx':(l.map dg)[i]?=some (dg c):=by rw [Us,hx];rfl
  have hc:=hr c (Uw hx);have hc2:=hr2 c (Uw hx);have hmr:(c.rule.map sN).length=c.rule.length:=Uy _;refine⟨_,⟨jO hx',rfl⟩,?_⟩
  (repeat (first|refine cU ?_|refine cT ?_))
  refine⟨fun m o20 l21 l23 x25 x26 x27 x31 x32 x33=>∃j:Nat,j<=c.rule.length/\m=c.rule.length - j/\o20=dg {c with rule:=[]}/\l21=(c.rule.take j).map sN/\l23=(l.take i).map dg/\x25=.l (l.map dg)/\x26=ii l.length/\x27=ii i/\
   x31=.l (c.rule.map sN)/\x32=ii c.rule.length/\x33=ii j,⟨_,0,by omega,rfl,rfl,rfl,rfl,rfl,rfl,rfl,rfl,by rw [hmr],rfl⟩,?_⟩
  rintro m o20 l21 l23 x25 x26 x27 x31 x32 x33 ⟨j,hj,rfl,rfl,rfl,rfl,rfl,rfl,rfl,rfl,rfl,rfl⟩;refine⟨_,rfl,aS (fun h5=>?_) (fun h5=>?_)⟩
  ·replace h5:=iW h5;obtain⟨row,hy⟩:∃x,c.rule[j]?=some x:=⟨_,Un h5⟩;have hy':(c.rule.map sN)[j]?=some (sN row):=by rw [Us,hy];rfl
   have h56:=TL row (hc2 row (Uw hy));have hl2:((c.rule.take j).map sN).length<=4194304:=by simp;omega
   have ht:=n9 (f:=sN) hy;refine⟨_,⟨jO hy',rfl⟩,_,rfl,eu h56 ⟨rfl,rfl,_,rfl,rfl,_,wQ,?_⟩⟩;rw [ht];exact⟨_,rfl,_,gj h5 (by omega),_,by omega,j+1,by omega,rfl,rfl,rfl,rfl,rfl,rfl,rfl,rfl,rfl,rfl⟩
  ·obtain rfl:=iY hj h5;have hl2:((l.take i).map dg).length<=4194304:=by simp;omega
   have ht:=n9 (f:=dg) hx;refine⟨_,rfl,rfl,rfl,_,rfl,rfl,_,rfl,rfl,_,wQ,?_⟩;refine⟨_,gj h3 (by omega),_,by omega,i+1,by omega,rfl,?_,rfl,rfl,rfl⟩;rw [←ht,UF];rfl
 ·obtain rfl:=iY hi h3;rw [UF];exact⟨trivial,trivial,rfl⟩
def I3 (l:List Int):Prop:=∀Q:List TV->TV->Prop,Q ((EC l).map ii) (.tp [])->SZ Q (l.map ii)
theorem LC:∀n:Nat,n<=1->VS prog 88 [.i .u64 n] (fun r=>∃m:Int,r=ii m):=by
 have qjY:∀n:Nat,n<=1->VS prog 122 [.i .u64 n] (fun r=>∃m:Int,r=ii m):=by
  intro n hn;refine Nz _ _ ?_;unfold Qc;obtain rfl|rfl:n=0\/n=1:=by omega
  ·exact⟨_,rfl,jh rfl ⟨_,rfl,jh rfl ⟨_,rfl,jh rfl ⟨_,rfl,_,rfl,_,rfl,_,rfl,trivial,trivial,_,rfl⟩⟩⟩⟩
  ·exact⟨_,rfl,jh rfl ⟨_,rfl,jh rfl ⟨_,rfl,jh rfl ⟨_,rfl,_,rfl,_,rfl,_,rfl,trivial,trivial,_,rfl⟩⟩⟩⟩
 intro n hn;refine QJ _ _ ?_;unfold Tt;refine jh rfl (KJ (qjY n hn) (fun r hr=>?_));obtain⟨m,rfl⟩:=hr;exact⟨trivial,trivial,trivial,_,rfl⟩
theorem Dv (l:List Int) (hl:l.length<=1):I3 l:=by
 intro Q hQ;have hs:EC l=l:=by
  match l,hl with
  |[],_=>rfl
  |[x],_=>rfl
 rw [hs] at hQ;refine Q9 _ _ ?_;unfold M1;have hln:(l.map ii).length=l.length:=Uy _;refine⟨_,rfl,_,rfl,?_⟩;rw [hln];have hw:f_ .u64 (l.length:Int)=(l.length:Int):=by
  match l,hl with
  |[],_=>rfl
  |[x],_=>rfl
 rw [hw];refine KJ (LC _ hl) (fun r hr=>?_);obtain⟨m,rfl⟩:=hr;refine⟨trivial,Q5 _ _ _ _ _ ?_⟩;unfold MX;refine⟨fun k l4 x5 x6 x7 x8 x9=>l4=l.map ii/\x5=ii 0/\x6=ii l.length,⟨0,rfl,rfl,rfl⟩,?_⟩;rintro k l4 x5 x6 x7 x8 x9 ⟨rfl,rfl,rfl⟩;refine⟨_,jy,_,rfl,uk (by rw [oC];simp;omega) (Oa _ _ _ _ ?_)⟩;unfold IY;refine⟨_,rfl,fun k l5 x6 x7 x8=>l5=l.map ii/\x7=ii l.length/\x8=ii 1,⟨0,rfl,rfl,rfl⟩,?_⟩;rintro k l5 x6 x7 x8 ⟨rfl,rfl,rfl⟩;exact⟨_,rfl,jh (by rw [oC];simp;omega) ⟨trivial,trivial,trivial,trivial,trivial,trivial,hQ⟩⟩
theorem TM (p:Pg) (hz:Ll p) (hso:∀x∈p.procs,(oe x).c6.length<=400->I3 (oe x).heads):VS prog 43 [oX p] (fun r=>r=vS p):=by
 have hlc:=hz.aO;have hlp:=hz.procs;have hl2:(p.procs.map rm).length=p.procs.length:=Uy _;have h60:=TK p hz;have h61:=TJ p.aO hlc hz.rules hz.rows;refine QT _ _ ?_;unfold TA
 (repeat (first|refine cU ?_|refine cT ?_|refine jl ?_))
 refine aS (fun h=>?_) (fun h=>?_)
 ·refine⟨_,rfl,trivial,_,rfl,_,rfl,_,rfl,_,rfl,Lg rfl rfl,?_⟩;have h':Bb p=false:=by simpa using h
  unfold vS;rw [if_pos h'];rfl
 have hok:Bb p=true:=by simpa using h
 (repeat (first|refine cU ?_|refine cT ?_|refine jl ?_))
 refine⟨fun m o18 l19 l20 l21 o22 l23 l24 x26 x27 x28=>∃i:Nat,i<=p.procs.length/\m=p.procs.length - i/\o18=.a [.l [],.l [],.l []]/\o22=.a [.l (p.aO.map dg),.l [],.l []]/\l23=(p.procs.take i).map (fun x=>Fl (vp x))/\l24=(p.procs.take i).map (fun x=>ii x.vars)/\
   x26=.l (p.procs.map rm)/\x27=ii p.procs.length/\x28=ii i/\(p.procs.take i).all (fun x=>decide ((oe x).c6.length<=400))=true,⟨_,0,by omega,rfl,rfl,rfl,rfl,rfl,rfl,by rw [hl2],rfl,rfl⟩,?_⟩
 rintro m o18 l19 l20 l21 o22 l23 l24 x26 x27 x28 ⟨i,hi,rfl,rfl,rfl,rfl,rfl,rfl,rfl,rfl,hall⟩;refine⟨_,rfl,aS (fun h3=>?_) (fun h3=>?_)⟩
 ·replace h3:=iW h3;obtain⟨x,hx⟩:∃x,p.procs[i]?=some x:=⟨_,Un h3⟩;have hx':(p.procs.map rm)[i]?=some (rm x):=by rw [Us,hx];rfl
  have hxm:=Uw hx;have hb:=hz.body x hxm;refine⟨_,⟨jO hx',rfl⟩,_,rfl,_,rfl,_,rfl,_,rfl,_,rfl,?_⟩;refine TF x.body hb ⟨2,[],[]⟩ 0 1 ⟨(by decide:(0:Int)<=2),(by omega:(2:Int)+((gk x.body+1:Nat):Int)<=100000000),by simp only [List.length_nil];omega,by simp only [List.length_nil];omega⟩ _ ?_;have hle:(eE (oe x)).length=(oe x).c6.length:=Uy _;refine⟨_,rfl,_,rfl,aS (fun h4=>?_) (fun h4=>?_)⟩
  ·have h5:¬(oe x).c6.length<=400:=by have h4':wm 400 ((eE (oe x)).length:Int)=true:=h4;rw [hle,oC,UT] at h4';omega
   refine⟨_,rfl,trivial,_,rfl,_,rfl,_,rfl,_,rfl,Lg rfl rfl,?_⟩;have h6:(p.procs.all fun x=>decide ((oe x).c6.length<=400))=false:=xd hx (by simpa using h5);unfold vS;rw [if_neg (by rw [hok];decide),if_pos h6];rfl
  ·have h5:(oe x).c6.length<=400:=by have h4':wm 400 ((eE (oe x)).length:Int)=false:=h4;rw [hle,oC,UW] at h4';omega
   have hS:=hso x hxm h5;have ht1:=n9 (f:=fun x=>Fl (vp x)) hx;have ht2:=n9 (f:=fun x=>ii x.vars) hx;have hl3:((p.procs.take i).map (fun x=>Fl (vp x))).length<=4194304:=by simp;omega
   have hl4:((p.procs.take i).map (fun x=>ii x.vars)).length<=4194304:=by simp;omega
   refine hS _ ?_;refine⟨_,rfl,rfl,rfl,_,rfl,_,rfl,rfl,_,rfl,rfl,_,wQ,?_⟩;refine⟨_,rfl,rfl,rfl,_,rfl,rfl,_,wQ,?_⟩;refine⟨_,rfl,_,rfl,_,gj h3 (by omega),_,by omega,i+1,by omega,rfl,rfl,rfl,ht1,ht2,rfl,rfl,rfl,sY hx hall (by simpa using h5)⟩
 ·obtain rfl:=iY hi h3;rw [UF] at hall ⊢;refine⟨_,rfl,_,rfl,trivial,_,rfl,_,rfl,_,rfl,Lg rfl rfl,?_⟩;unfold vS;rw [if_neg (by rw [hok];decide),if_neg (by rw [hall];decide)];simp [oW]
end Go.Ax.ek
set_option maxRecDepth 100000
namespace Go.Ax.ek
open Go Go.Ax Go.Ax.V Go.Ax.Ft
def gL (k:Nat):Pg:=⟨[],[⟨1,List.replicate k ig⟩]⟩
theorem Ue (k:Nat):Bb (gL k)=true:=by simp [Bb,gL,zk,HI,within]
theorem eM {k:Nat} (h:1<=k):(oe ⟨1,List.replicate k ig⟩).c6.length=k/\(oe ⟨1,List.replicate k ig⟩).heads.length=0:=by
 have h1:=nc (List.replicate k ig) 0 1 ⟨2,[],[]⟩;refine⟨h1.1.trans ?_,h1.2.trans ?_⟩
 ·rw [Ky];simp;omega
 ·rw [Kx];rfl
theorem nM:∀(n:Nat) (a b:Int) (g:Gr),(nQ (List.replicate (n+1) ig) a b g).nodes=g.nodes+n
 |0,a,b,g=>by show (nQ [ig] a b g).nodes=_;rw [nQ];simp [BO,ig,Gr.cg]
 |n+1,a,b,g=>by
  show (nQ (ig::ig::List.replicate n ig) a b g).nodes=_;rw [nQ];have h:=nM n g.nodes b (BO ig a g.nodes g.node);have e:ig::List.replicate n ig=List.replicate (n+1) ig:=rfl;rw [e,h];have e2:(BO ig a g.nodes g.node).nodes=g.nodes+1:=by simp [BO,ig,Gr.cg,Gr.node]
  rw [e2];push_cast;omega
theorem LY {k:Nat} (h:1<=k):(oe ⟨1,List.replicate k ig⟩).nodes=k+1:=by obtain⟨n,rfl⟩:∃n,k=n+1:=⟨k - 1,by omega⟩;have h1:=nM n 0 1 ⟨2,[],[]⟩;show (nQ (List.replicate (n+1) ig) 0 1 ⟨2,[],[]⟩).nodes=_;rw [h1];push_cast;omega
theorem TG {k:Nat} (h:k<=404):Ll (gL k):=by refine⟨by simp [gL],by simp [gL],by simp [gL],by simp [gL],fun x hx=>?_⟩;simp only [gL,UK] at hx;subst hx;show gk (List.replicate k ig)<=4194304;rw [Lk];omega
theorem Mz {k:Nat} (h0:1<=k) (h1:k<=404):VS prog 43 [oX (gL k)] (fun r=>r=if k<=400 then .tp [oW [] [vp ⟨1,List.replicate k ig⟩] [1],ii 0] else .tp [oW [] [] [],ii 10]):=by
 obtain⟨e1,e2⟩:=eM h0;have hb:=TM (gL k) (TG h1) (fun x hx _=>by simp only [gL,UK] at hx;subst hx;exact Dv _ (by rw [e2];decide))
 have e:vS (gL k)=if k<=400 then .tp [oW [] [vp ⟨1,List.replicate k ig⟩] [1],ii 0] else .tp [oW [] [] [],ii 10]:=by
  unfold vS;rw [if_neg (by rw [Ue];decide)];by_cases hk:k<=400
  ·rw [if_neg (by simp [gL,e1,hk]),if_pos hk];rfl
  ·rw [if_pos (by simp [gL,e1];omega),if_neg hk]
 rw [e] at hb;exact hb
theorem Tj:VS prog 46 [] (fun r=>r=.b true):=FB (k:=1000) (by kernel_rfl)
theorem O5 {a b:Int} (h:b < a):b7 .gtr (ii a) (ii b)=some (.b true):=by show some (TV.b (wm b a))=_;rw [OX h]
theorem O6 {a b:Int} (h:¬b < a):b7 .gtr (ii a) (ii b)=some (.b false):=by show some (TV.b (wm b a))=_;rw [OY h]
theorem K5 {a b:Int} (h:a=b):b7 .eql (ii a) (ii b)=some (.b true):=by show some (TV.b (Gb a b))=_;rw [SF h]
theorem SG {k:Nat} (h0:1<=k) (h1:k<=404):KC (ii k) (oX (gL k)) (fun r=>r=.b true):=by
 unfold KC;have hb:=Mz h0 h1;by_cases hk:k<=400
 ·rw [if_pos hk] at hb;obtain⟨e1,e2⟩:=eM h0;have e3:=LY h0;refine eu hb ⟨_,rfl,_,rfl,_,rfl,_,O6 (by omega),jh rfl (eu Tj (jQ rfl rfl (jQ rfl rfl ⟨_,rfl,rfl,jQ rfl rfl (jQ rfl rfl (jQ rfl rfl ⟨_,rfl,rfl,jQ rfl rfl (jQ rfl ⟨rfl,rfl⟩ ⟨rfl,rfl,jQ rfl rfl (jQ rfl rfl (jQ rfl rfl (jQ rfl (K5 ?_) ⟨_,rfl,rfl,jQ rfl rfl (jQ rfl ⟨rfl,rfl⟩ ⟨rfl,rfl,jQ rfl rfl (jQ rfl rfl (jQ rfl (IX (a:=(k:Int)) (b:=1) (by omega) (by omega)) (jQ rfl (K5 ?_) ⟨_,rfl,trivial,trivial,rfl⟩)))⟩)⟩)))⟩)⟩))⟩)))⟩
  ·show (((oe ⟨1,List.replicate k ig⟩).c6.map C0).length:Int)=k;rw [Uy,e1]
  ·exact e3
 ·rw [if_neg hk] at hb;exact eu hb ⟨_,rfl,_,rfl,_,rfl,_,O5 (by omega),uk rfl (eu Tj (jQ rfl rfl (jQ rfl rfl ⟨_,rfl,rfl,jQ rfl rfl (jQ rfl rfl (jQ rfl rfl ⟨_,rfl,trivial,trivial,rfl⟩))⟩)))⟩
def e0 (i:Nat):TV:=.a [ii 1,.l (cZ (List.replicate i ig))]
def pO:TV:=.a [.l [],.l []]
def sQ (k i:Nat):TV->List TV->TV->TV->Prop:=fun o1 l2 x3 x4=>o1=pO/\l2=[e0 i]/\x3=ii k/\x4=ii i
theorem tf (i:Nat):(cZ (List.replicate i ig)).length=i:=by rw [dS,List.length_replicate]
theorem EG {i:Nat} (x:TV) (h:i<=1000):jT 256 (cZ (List.replicate i ig)) [x]=some (cZ (List.replicate i ig)++[x]):=by unfold jT;have h1:Nat.ble (((cZ (List.replicate i ig)).length + [x].length)*256) most=true:=UR.mpr (by rw [tf];show (i+1)*256<=70368744177664;omega);have h2:Nat.ble ((cZ (List.replicate i ig)).length + [x].length) most=true:=UR.mpr (by rw [tf];show i+1<=70368744177664;omega);rw [h1,h2];rfl
theorem Ce (i:Nat):cZ (List.replicate i ig)++[nV ig]=cZ (List.replicate (i+1) ig):=by rw [List.replicate_succ',gN,gN,List.map_append];rfl
theorem QI {k i:Nat} (hi:i < 404):∀(o1:TV) (l2:List TV) (x3 x4:TV),sQ k i o1 l2 x3 x4->KB o1 l2 x3 x4 (sQ k (i+1)) (fun _ _ _ _=>False):=by rintro o1 l2 x3 x4 ⟨rfl,rfl,rfl,rfl⟩;unfold KB;refine⟨_,rfl,_,rfl,_,rfl,_,rfl,_,rfl,_,rfl,rfl,rfl,_,rfl,_,rfl,_,rfl,_,rfl,_,rfl,_,rfl,rfl,_,rfl,rfl,_,rfl,_,EG _ (by omega),_,rfl,rfl,rfl,rfl,_,rfl,_,gj (n:=404) hi (by omega),rfl,?_,rfl,rfl⟩;have e:=Ce i;show [TV.a [ii 1,.l (cZ (List.replicate i ig)++[nV ig])]]=_;rw [e];rfl
theorem GN (L:List TV) (z t:TV) (h:bf z 0 20 t=some t):jt (L++[z]) L.length 0 20 t=some (L++[t]):=by unfold jt;rw [Ur (U3 _),Nat.sub_self];simp only [List.getElem?_cons_zero,h];rw [List.set_append_right _ _ (U3 _),Nat.sub_self];rfl
theorem QH {k i:Nat} (hi:i < 404):∀(o1:TV) (l2:List TV) (x3 x4:TV),sQ k i o1 l2 x3 x4->KA o1 l2 x3 x4 (sQ k (i+1)) (fun _ _ _ _=>False):=by
 rintro o1 l2 x3 x4 ⟨rfl,rfl,rfl,rfl⟩;unfold KA;refine⟨_,rfl,_,rfl,_,rfl,_,rfl,_,rfl,_,rfl,ii i,?_,rfl,rfl,_,rfl,_,rfl,_,rfl,_,rfl,_,rfl,_,rfl,rfl,_,rfl,rfl,_,rfl,_,EG _ (by omega),_,rfl,rfl,_,rfl,i,?_,_,rfl,_,rfl,cZ (List.replicate i ig)++[nV ig],?_,_,rfl,_,gj (n:=404) hi (by omega),rfl,?_,rfl,rfl⟩
 ·show some (TV.i .i64 ((cZ (List.replicate i ig)).length:Int))=_;rw [tf]
 ·show lY (ii i) ((cZ (List.replicate i ig)++[_]).length)=some i;rw [Uz,tf];show H9 (Int.ofNat i) (i+1)=some i;unfold H9;simp only [US.mpr (Nat.lt_succ_self i),cond_true]
 ·have h:=GN (cZ (List.replicate i ig)) (nV (.mk 0 0 0 0 jW oq [] [] [])) (nV ig) rfl;rw [tf] at h;exact h
 ·have e:=Ce i;show [TV.a [ii 1,.l (cZ (List.replicate i ig)++[nV ig])]]=_;rw [e];rfl
end Go.Ax.ek
