/- Part 11 of the proof: LtFc, LtFd, LtFa, LtFj, LtCa, LtSa, LtFn, LtPa, LtPh, LtRa, LtRb, LtRc, LtSb, LtSc, LtFm, LtSd, LtFr, LtFs, LtFu, LtFv, LtFw, LtRd, LtPb, LtPc, LtPd, LtPe, LtPf, LtPg, LtPi, LtPk, LtPl, LtPm. -/
import Derived.Test.YtamgnhdbeecapaaCt8
import Derived.Test.YtamgnhdbeecapaaCt10
set_option linter.unusedSimpArgs false
set_option linter.unusedVariables false
noncomputable section
set_option maxRecDepth 100000
namespace Go.Ax.dg
open Go Go.Ax Go.Ax.V Go.Ax.Ft
theorem oK (n lo hi:Int):VS prog 81 [ii n,ii lo,ii hi] (fun r=>r=.b (within n lo hi)):=by refine vs81 _ _ _ _ ?_;unfold W81;refine⟨_,EE _ _,?_⟩;refine gB _ (fun h=>by rfl) ?_;refine gB _ (fun h=>by rfl) ?_;refine gB _ (fun h=>by rw [h];exact Np _ _) (E9 ⟨trivial,trivial,?_⟩);rw [c_,c_,ny,ny];rfl
theorem gu {α:Type} (l:List α):decide ((l.length:Int)=0)=l.isEmpty:=by cases l<;>simp<;>omega
theorem iu (l:List Ex):(kg l).length=l.length:=by rw [lp,qql]
theorem fl (l:List Sm):(gh l).length=l.length:=by rw [nq,qql]
theorem fm (l:List Ar):(oQ l).length=l.length:=by rw [nr,qql]
theorem UK (e:Ex):VS prog 141 [j9 e] (fun r=>r=.b (Kk e)):=by
 cases e with
 |mk k n v ks=>
 refine XG _ _ ?_;unfold W141
 (repeat (first|refine dj ?_|refine di ?_))
 refine⟨trivial,trivial,?_⟩;simp only [bp,iu,gu];rfl
theorem s142 (c:Co):VS prog 142 [GY c] (fun r=>r=.b (O8 c)):=by
 obtain⟨op,l,r⟩:=c;have hl:=UK l;have hr:=UK r;obtain⟨k1,n1,v1,ks1⟩:=l;obtain⟨k2,n2,v2,ks2⟩:=r;refine XF _ _ ?_;unfold W142
 (repeat (first|refine dj ?_|refine di ?_|refine lG ?_))
 refine⟨trivial,trivial,?_⟩;simp only [bp];rfl
theorem PW (k:Int):VS prog 166 [ii k] (fun r=>r=ii (vh k)):=by
 refine Xo _ _ ?_;unfold W166
 (repeat (first|refine dj ?_|refine di ?_))
 refine aa (fun h=>?_) (fun h=>?_)
 ·refine⟨trivial,trivial,?_⟩;simp only [bp,qqC,qqH] at h;simp [vh,h]
 simp only [bp,Bool.or_eq_false_iff,qqJ] at h
 (repeat (first|refine dj ?_|refine di ?_))
 refine aa (fun h2=>?_) (fun h2=>?_)
 ·refine⟨trivial,trivial,?_⟩;simp only [bp,qqH] at h2;simp [vh,h,h2]
 simp only [bp,qqJ] at h2
 (repeat (first|refine dj ?_|refine di ?_|refine cy (oK _ _ _) ?_|refine gB _ (fun h=>by first|exact b8 (oK _ _ _)|(rw [h];exact b8 (oK _ _ _))) ?_|refine gO _ (fun h=>by first|exact b8 (oK _ _ _)|(rw [h];exact b8 (oK _ _ _))) ?_))
 refine aa (fun h3=>?_) (fun h3=>?_)
 ·refine⟨trivial,trivial,?_⟩;simp only [within,qqB,qqH] at h3;simp [vh,h,h2,h3]
 ·refine⟨trivial,trivial,?_⟩;have h4:¬(4<=k/\k<=8):=by intro hc;simp [within,hc.1,hc.2] at h3
  simp [vh,h,h2,h4]
theorem SJ (vars:Int) (hv:0<=vars/\vars<=6):∀(e:Ex),x_ e<=4194304->VS prog 143 [j9 e,ii vars] (fun r=>r=.b (BR vars e))
 |.mk k n v ks,hB=>by
  have hks:qp ks<=4194304:=by simp only [x_] at hB;omega
  have hk:=qqR (Az ks) hks;have ih:∀e∈ks,VS prog 143 [j9 e,ii vars] (fun r=>r=.b (BR vars e)):=fun e he=>SJ vars hv e (qqR (Ay he) hks)
  refine XE _ _ _ ?_;unfold W143
  (repeat (first|refine dj ?_|refine di ?_|refine cy (PW _) ?_|refine gB _ (fun h=>by first|exact b8 (PW _)|(rw [h];exact b8 (PW _))) ?_|refine gO _ (fun h=>by first|exact b8 (PW _)|(rw [h];exact b8 (PW _))) ?_))
  refine aa (fun h=>?_) (fun h=>?_)
  ·refine⟨trivial,trivial,?_⟩;simp only [bp,iu,qqD,qqJ] at h;have h':¬vh k=ks.length:=fun hc=>h hc.symm
   simp [BR,h']
  simp only [bp,iu,Bool.not_eq_false',qqH] at h
  (repeat (first|refine⟨rfl,?_⟩|refine⟨_,rz,?_⟩|refine⟨_,xk,?_⟩|refine⟨_,rfl,?_⟩|refine⟨_,gp _,?_⟩|refine⟨_,⟨rfl,rfl⟩,?_⟩|refine ZO ?_|refine ZM ?_|refine Zh ?_|refine Zg ?_|refine E9 ?_|refine IG ?_|refine cy (oK _ _ _) ?_|refine ZP ?_|refine gB _ (fun h=>by first|exact b8 (oK _ _ _)|(rw [h];exact b8 (oK _ _ _))) ?_|refine ZN ?_|refine gO _ (fun h=>by first|exact b8 (oK _ _ _)|(rw [h];exact b8 (oK _ _ _))) ?_|refine Ra ?_|refine Rb _ (fun h h'=>by rw [h,h'];exact b8 (oK _ _ _)) ?_|refine Q9 ?_|refine Q_ _ (fun h h'=>by rw [h,h'];exact b8 (oK _ _ _)) ?_|refine Rf ?_|refine Rg _ (fun h h'=>by rw [h,h'];exact b8 (oK _ _ _)) ?_|refine Rc ?_|refine Re _ (fun h h'=>by rw [h,h'];exact b8 (oK _ _ _)) ?_))
  refine aa (fun h2=>?_) (fun h2=>?_)
  ·refine⟨trivial,trivial,?_⟩;congr 1;simp only [bp,within,qqC,qqB,qqD,qqH,qqJ,Bool.and_eq_false_iff] at h2;unfold BR;symm;simp only [within,Bool.and_eq_false_iff,Bool.or_eq_false_iff,qqJ,Bool.not_eq_false',qqH];omega
  (repeat (first|refine dj ?_|refine di ?_))
  refine⟨fun m o x34 x36 x37 x38=>∃i:Nat,i<=ks.length/\m=ks.length - i/\o=j9 (.mk k n v ks)/\x34=ii vars/\x36=.l (kg ks)/\x37=ii ks.length/\x38=ii i/\(ks.take i).all (BR vars)=true,
   ⟨_,0,by omega,rfl,rfl,rfl,rfl,by rw [iu],rfl,rfl⟩,?_⟩
  rintro m o x34 x36 x37 x38 ⟨i,hi,rfl,rfl,rfl,rfl,rfl,rfl,hall⟩;refine⟨_,rfl,aa (fun h3=>?_) (fun h3=>?_)⟩
  ·replace h3:=b9 h3;obtain⟨x,hx⟩:∃x,ks[i]?=some x:=⟨_,qqa h3⟩;have hx':(kg ks)[i]?=some (j9 x):=by rw [lp,qqe,hx];rfl
   refine⟨_,⟨bq hx',Dj x⟩,?_⟩;have hih:=ih x (qqi hx);obtain⟨k',n',v',ks'⟩:=x
   (repeat (first|refine dj ?_|refine di ?_|refine lG ?_))
   refine aa (fun h4=>?_) (fun h4=>?_)
   ·refine⟨trivial,trivial,?_⟩;have:=qa (f:=BR vars) hx (by simpa using h4);rw [BR,FT,this];simp
   ·refine⟨_,bn h3 (by omega),_,by omega,i+1,by omega,rfl,rfl,rfl,rfl,rfl,rfl,oe hx hall (by simpa using h4)⟩
  ·obtain rfl:=dy hi h3;rw [qqt] at hall
   (repeat (first|refine⟨rfl,?_⟩|refine⟨_,rz,?_⟩|refine⟨_,xk,?_⟩|refine⟨_,rfl,?_⟩|refine⟨_,gp _,?_⟩|refine⟨_,⟨rfl,rfl⟩,?_⟩|refine ZO ?_|refine ZM ?_|refine Zh ?_|refine Zg ?_|refine E9 ?_|refine IG ?_|refine cy (oK _ _ _) ?_|refine ZP ?_|refine gB _ (fun h=>by first|exact b8 (oK _ _ _)|(rw [h];exact b8 (oK _ _ _))) ?_|refine ZN ?_|refine gO _ (fun h=>by first|exact b8 (oK _ _ _)|(rw [h];exact b8 (oK _ _ _))) ?_|refine Ra ?_|refine Rb _ (fun h h'=>by rw [h,h'];exact b8 (oK _ _ _)) ?_|refine Q9 ?_|refine Q_ _ (fun h h'=>by rw [h,h'];exact b8 (oK _ _ _)) ?_|refine Rf ?_|refine Rg _ (fun h h'=>by rw [h,h'];exact b8 (oK _ _ _)) ?_|refine Rc ?_|refine Re _ (fun h h'=>by rw [h,h'];exact b8 (oK _ _ _)) ?_))
   refine⟨trivial,trivial,?_⟩;congr 1;rw [BR,FT,hall,h];simp only [bp,Bool.or_eq_false_iff,Bool.and_eq_false_iff,Bool.not_eq_false',qqH,qqJ,qqD] at h2;obtain⟨⟨h5,h6⟩,h7⟩:=h2;simp [h5,h6,h7]
theorem s144 (vars:Int) (hv:0<=vars/\vars<=6) (c:Co) (hB:Ck c<=4194304):VS prog 144 [GY c,ii vars] (fun r=>r=.b (Sd vars c)):=by
 obtain⟨op,l,r⟩:=c;simp only [Ck] at hB;have hl:=SJ vars hv l (by omega);have hr:=SJ vars hv r (by omega);obtain⟨k1,n1,v1,ks1⟩:=l;obtain⟨k2,n2,v2,ks2⟩:=r;refine XD _ _ _ ?_;unfold W144
 (repeat (first|refine dj ?_|refine di ?_|refine lG ?_|refine cy (oK _ _ _) ?_|refine gB _ (fun h=>by first|exact b8 (oK _ _ _)|(rw [h];exact b8 (oK _ _ _))) ?_|refine gO _ (fun h=>by first|exact b8 (oK _ _ _)|(rw [h];exact b8 (oK _ _ _))) ?_))
 exact⟨trivial,trivial,rfl⟩
theorem mx1 (a b:Int):(bif n8 a b then b else a)=max a b:=by
 rw [c_,Int.max_def];by_cases h:a < b
 ·simp [h];omega
 ·simp [h];omega
theorem mx3 (a b c:Int):zw true [ii a,ii b,ii c]=some (ii (max (max a b) c)):=by show some (ii (bif n8 (bif n8 a b then b else a) c then c else (bif n8 a b then b else a)))=_;rw [mx1,mx1]
theorem mx2 (a b:Int):zw true [ii a,ii b]=some (ii (max a b)):=by show some (ii (bif n8 a b then b else a))=_;rw [mx1]
theorem drop_cons {α:Type} {l:List α} {i:Nat} {x:α} (h:l[i]?=some x):l.drop i=x::l.drop (i+1):=by obtain⟨h1,h2⟩:=qqb.1 h;rw [←h2];exact List.drop_eq_getElem_cons h1
theorem s104 (c:Ch) (hl:c.rule.length<=4194304) (hr:∀r∈c.rule,r.length<=4194304):VS prog 104 [c8 c] (fun r=>r=.b (ur c)):=by
 refine XU _ _ ?_;unfold W104
 (repeat (first|refine dj ?_|refine di ?_))
 refine⟨fun m o x8 x9 x10 x11=>∃(i:Nat) (T:Int),i<=c.rule.length/\m=c.rule.length - i/\o=c8 c/\x8=ii T/\x9=.l (c.rule.map lg)/\x10=ii c.rule.length/\x11=ii i/\
   B3 c.rule.length c.tags 0 c.rule 0=B3 c.rule.length c.tags i (c.rule.drop i) T,⟨_,0,0,by omega,rfl,rfl,rfl,rfl,by rw [qql],rfl,rfl⟩,?_⟩
 rintro m o x8 x9 x10 x11 ⟨i,T,hi,rfl,rfl,rfl,rfl,rfl,rfl,qxe⟩;refine⟨_,rfl,aa (fun h3=>?_) (fun h3=>?_)⟩
 ·replace h3:=b9 h3;obtain⟨row,hx⟩:∃x,c.rule[i]?=some x:=⟨_,qqa h3⟩;have hrow:=hr row (qqi hx);have hx':(c.rule.map lg)[i]?=some (lg row):=by rw [qqe,hx];rfl
  rw [drop_cons hx,B3] at qxe;refine⟨_,⟨bq hx',rfl⟩,?_⟩
  (repeat (first|refine dj ?_|refine di ?_))
  refine aa (fun h4=>?_) (fun h4=>?_)
  ·refine⟨trivial,trivial,?_⟩;simp only [bp,qqD,qqJ,qql] at h4;rw [if_neg h4] at qxe;congr 1;unfold ur;rw [qxe]
  simp only [bp,Bool.not_eq_false',qqH,qql] at h4;rw [if_pos h4] at qxe
  (repeat (first|refine dj ?_|refine di ?_))
  refine⟨fun m o x24 x25 x27 x28 x29 x37 x38 x39=>∃(j:Nat) (U:Int),j<=row.length/\m=row.length - j/\o=c8 c/\x24=ii U/\x25=ii i/\x27=.l (c.rule.map lg)/\x28=ii c.rule.length/\x29=ii i/\
   x37=lg row/\x38=ii row.length/\x39=ii j/\GM c.rule.length i row T=GM c.rule.length i (row.drop j) U,⟨_,0,T,by omega,rfl,rfl,rfl,rfl,rfl,rfl,rfl,rfl,by rw [qql],rfl,rfl⟩,?_⟩
  rintro m o x24 x25 x27 x28 x29 x37 x38 x39 ⟨j,U,hj,rfl,rfl,rfl,rfl,rfl,rfl,rfl,rfl,rfl,rfl,hin⟩;refine⟨_,rfl,aa (fun h5=>?_) (fun h5=>?_)⟩
  ·replace h5:=b9 h5;obtain⟨x,hy⟩:∃x,row[j]?=some x:=⟨_,qqa h5⟩;have hy':(row.map ii)[j]?=some (ii x):=by rw [qqe,hy];rfl
   rw [drop_cons hy,GM] at hin;refine⟨_,⟨bq hy',rfl⟩,?_⟩;refine⟨_,rfl,_,rfl,_,rfl,?_⟩;rw [qql];refine⟨_,rz,cy (oK _ _ _) ?_⟩
   (repeat (first|refine dj ?_|refine di ?_))
   refine aa (fun h6=>?_) (fun h6=>?_)
   ·refine⟨trivial,trivial,?_⟩;rw [if_neg (by simpa using h6)] at hin;rw [hin] at qxe;congr 1;unfold ur;rw [qxe]
   rw [if_pos (by simpa using h6)] at hin;refine⟨_,HC _ _,aa (fun h7=>?_) (fun h7=>?_)⟩
   ·simp only [bp,qqD,qqJ] at h7;rw [if_neg h7] at hin;exact⟨_,mx3 _ _ _,_,bn h5 (by omega),_,by omega,j+1,_,by omega,rfl,rfl,rfl,rfl,rfl,rfl,rfl,rfl,rfl,rfl,hin⟩
   ·simp only [bp,Bool.not_eq_false',qqH] at h7;rw [if_pos h7] at hin;exact⟨_,bn h5 (by omega),_,by omega,j+1,_,by omega,rfl,rfl,rfl,rfl,rfl,rfl,rfl,rfl,rfl,rfl,hin⟩
  ·obtain rfl:=dy hj h5;rw [List.drop_length,GM] at hin;rw [hin] at qxe;exact⟨_,bn h3 (by omega),_,by omega,i+1,U,by omega,rfl,rfl,rfl,rfl,rfl,rfl,qxe⟩
 ·obtain rfl:=dy hi h3;rw [List.drop_length,B3] at qxe
  (repeat (first|refine⟨rfl,?_⟩|refine⟨_,rz,?_⟩|refine⟨_,xk,?_⟩|refine⟨_,rfl,?_⟩|refine⟨_,gp _,?_⟩|refine⟨_,⟨rfl,rfl⟩,?_⟩|refine ZO ?_|refine ZM ?_|refine Zh ?_|refine Zg ?_|refine E9 ?_|refine IG ?_|refine ZP ?_|refine ZN ?_|refine Ra ?_|refine Q9 ?_|refine Rf ?_|refine Rc ?_))
  refine⟨trivial,trivial,?_⟩;congr 1;unfold ur;rw [qxe];simp only [qql,c_,bp,ny,gu];rw [Ip (by omega) (by omega)]
theorem s82 (c:Ch) (procs:Int) (hp:0<=procs/\procs<=4194304) (hl:c.rule.length<=4194304) (hr:∀r∈c.rule,r.length<=4194304):VS prog 82 [c8 c,ii procs] (fun r=>r=.b (ye procs c)):=by
 have h104:=s104 c hl hr;refine vs82 _ _ _ ?_;unfold W82
 (repeat (first|refine dj ?_|refine di ?_|refine lG ?_|refine cy (oK _ _ _) ?_|refine gB _ (fun h=>by first|exact b8 (oK _ _ _)|(rw [h];exact b8 (oK _ _ _))) ?_|refine gO _ (fun h=>by first|exact b8 (oK _ _ _)|(rw [h];exact b8 (oK _ _ _))) ?_))
 refine⟨trivial,trivial,?_⟩;simp only [bp];rfl
theorem s146 (c:Ch):VS prog 146 [c8 c] (fun r=>r=ii c.src):=by
 refine XB _ _ ?_;unfold W146
 (repeat (first|refine dj ?_|refine di ?_))
 exact⟨trivial,trivial,rfl⟩
theorem s148 (c:Ch):VS prog 148 [c8 c] (fun r=>r=ii c.dst):=by
 refine Xz _ _ ?_;unfold W148
 (repeat (first|refine dj ?_|refine di ?_))
 exact⟨trivial,trivial,rfl⟩
def Ba (p:Pg) (proc vars:Int):TV:=.a [.l (p.au.map c8),.l (p.procs.map gJ),ii proc,ii vars]
theorem Vy {au:List Ch} {proc c:Int} {dst:Bool} (h:within c 0 (au.length - 1)=true):∃(k:Nat) (x:Ch),c=k/\au[k]?=some x/\BW au proc dst c=decide ((bif dst then x.dst else x.src)=proc):=by
 simp only [within,qqB,qqH] at h;obtain⟨k,rfl⟩:=Int.eq_ofNat_of_zero_le h.1;have hk:k < au.length:=by omega
 refine⟨k,au[k],rfl,qqa hk,?_⟩;show (match au[k]? with|some x=>_|none=>false)=_;rw [qqa hk]
theorem Tn {au:List Ch} {proc c:Int} {dst:Bool} (h:within c 0 (au.length - 1)=false):BW au proc dst c=false:=by
 unfold BW;split
 ·rename_i k;split
  ·rename_i x hx;have:=(qqb.1 hx).1;simp [within] at h;omega
  ·rfl
 ·rfl
theorem Y8 (p:Pg) (proc vars c:Int) (dst:Bool) (hl:p.au.length<=4194304):VS prog 145 [Ba p proc vars,ii c,.f (bif dst then 148 else 146)] (fun r=>r=.b (BW p.au proc dst c)):=by
 have hend:∀x,VS prog (bif dst then 148 else 146) [c8 x] (fun r=>r=ii (bif dst then x.dst else x.src)):=by
  cases dst
  ·exact s146
  ·exact s148
 refine XC _ _ _ _ ?_;unfold W145;have hl':(p.au.map c8).length<=4194304:=by rw [qql];exact hl
 (repeat (first|refine dj ?_|refine di ?_))
 rw [qql];refine cy (oK _ _ _) ?_;cases hw:within c 0 (p.au.length - 1) with
 |false=>
  (repeat (first|refine dj ?_|refine di ?_))
  refine⟨0,fun h=>(by cases h),?_⟩
  (repeat (first|refine dj ?_|refine di ?_))
  refine⟨trivial,trivial,?_⟩;rw [Tn hw]
 |true=>
  obtain⟨k,x,rfl,hx,he⟩:=Vy (proc:=proc) (dst:=dst) hw;have hx':(p.au.map c8)[k]?=some (c8 x):=by rw [qqe,hx];rfl
  (repeat (first|refine dj ?_|refine di ?_))
  refine gB _ (fun _=>⟨bq hx',KQ x⟩) ?_
  (repeat (first|refine dj ?_|refine di ?_))
  refine⟨_,fun _=>rfl,gB _ (fun _=>b8 (hend x)) ?_⟩
  (repeat (first|refine dj ?_|refine di ?_))
  refine⟨trivial,trivial,?_⟩;rw [he,bp]
theorem Y7 (p:Pg) (proc vars tag:Int) {k:Nat} {x:Ch} (hx:p.au[k]?=some x) (ht:1<=x.tags/\x.tags<=4):VS prog 147 [Ba p proc vars,ii k,ii tag] (fun r=>r=.b (GO p.au k tag)):=by
 have hx':(p.au.map c8)[k]?=some (c8 x):=by rw [qqe,hx];rfl
 refine XA _ _ _ _ ?_;unfold W147;refine⟨rfl,_,rfl,_,⟨bq hx',KQ x⟩,?_⟩
 (repeat (first|refine dj ?_|refine di ?_|refine cy (oK _ _ _) ?_|refine gB _ (fun h=>by first|exact b8 (oK _ _ _)|(rw [h];exact b8 (oK _ _ _))) ?_|refine gO _ (fun h=>by first|exact b8 (oK _ _ _)|(rw [h];exact b8 (oK _ _ _))) ?_))
 refine⟨trivial,trivial,?_⟩;show _=TV.b (match p.au[(k:Int).toNat]? with|some x=>within tag 0 (x.tags - 1)|none=>false);rw [Int.toNat_natCast,hx]
def GX (had:List Int):TV:=.a [.b (had.contains 0),.b (had.contains 1),.b (had.contains 2),.b (had.contains 3)]
theorem s149 (p:Pg) (proc vars:Int) (hv:0<=vars/\vars<=6) {k:Nat} {x:Ch} (hx:p.au[k]?=some x) (ht:1<=x.tags/\x.tags<=4) (l:List Ar) (hl:l.length<=4194304)
  (ih:∀tag var body,Ar.mk tag var body∈l->VS prog 83 [Ba p proc vars,.l (gh body)] (fun r=>r=.b (oq p.au proc vars body))) :
  VS prog 149 [Ba p proc vars,ii k,.l (oQ l)] (fun r=>r=.b (Ak p.au proc vars k [] l&&!l.isEmpty)):=by
 refine Xy _ _ _ _ ?_;unfold W149
 (repeat (first|refine dj ?_|refine di ?_))
 refine⟨fun m o5 o6 x7 x8 x10 x11 x12=>∃(i:Nat) (had:List Int),i<=l.length/\m=l.length - i/\o5=Ba p proc vars/\o6=GX had/\x7=ii k/\x8=.l (oQ l)/\x10=.l (oQ l)/\x11=ii l.length/\x12=ii i/\
   Ak p.au proc vars k [] l=Ak p.au proc vars k had (l.drop i),⟨_,0,[],by omega,rfl,rfl,rfl,rfl,rfl,rfl,by rw [fm],rfl,rfl⟩,?_⟩
 rintro m o5 o6 x7 x8 x10 x11 x12 ⟨i,had,hi,rfl,rfl,rfl,rfl,rfl,rfl,rfl,rfl,hok⟩;refine⟨_,rfl,aa (fun h3=>?_) (fun h3=>?_)⟩
 ·replace h3:=b9 h3;obtain⟨y,hy⟩:∃x,l[i]?=some x:=⟨_,qqa h3⟩;have hy':(oQ l)[i]?=some (D7 y):=by rw [nr,qqe,hy];rfl
  rw [drop_cons hy] at hok;obtain⟨tag,var,body⟩:=y;have hb:=ih tag var body (qqi hy);rw [Ak] at hok;refine⟨_,⟨bq hy',rfl⟩,?_⟩;have qyf:=Y7 p proc vars tag hx ht;cases qxP:GO p.au k tag with
  |false=>
   rw [qxP] at qyf hok
   (repeat (first|refine dj ?_|refine di ?_|refine lG ?_))
   refine⟨0,fun h=>(by cases h),?_⟩
   (repeat (first|refine dj ?_|refine di ?_|refine lG ?_))
   refine de rfl ⟨trivial,trivial,?_⟩;rw [hok];rfl
  |true=>
   rw [qxP] at qyf hok;have htb:0<=tag/\tag<=3:=by have h:GO p.au (k:Int) tag=(match p.au[(k:Int).toNat]? with|some x=>within tag 0 (x.tags - 1)|none=>false):=rfl;rw [Int.toNat_natCast,hx] at h;rw [h] at qxP;simp only [within,qqB,qqH] at qxP;omega
   obtain rfl|rfl|rfl|rfl:tag=0\/tag=1\/tag=2\/tag=3:=by omega
   all_goals
    (repeat (first|refine dj ?_|refine di ?_|refine lG ?_))
    refine⟨_,fun _=>rfl,?_⟩
    (repeat (first|refine dj ?_|refine di ?_|refine lG ?_|refine cy (oK _ _ _) ?_|refine gB _ (fun h=>by first|exact b8 (oK _ _ _)|(rw [h];exact b8 (oK _ _ _))) ?_|refine gO _ (fun h=>by first|exact b8 (oK _ _ _)|(rw [h];exact b8 (oK _ _ _))) ?_))
    refine aa (fun h4=>?_) (fun h4=>?_)
    ·refine⟨trivial,trivial,?_⟩;rw [hok];simp only [qqC,qqD] at h4;rcases h4 with (h|h)|h<;>(rw [h];simp)
    ·simp only [Bool.or_eq_false_iff,Bool.not_eq_false'] at h4;obtain⟨⟨h5,h6⟩,h7⟩:=h4;refine⟨_,rfl,_,rfl,_,rfl,_,bn h3 (by omega),_,by omega,i+1,_,by omega,rfl,rfl,?_,rfl,rfl,rfl,rfl,rfl,by rw [hok,h5,h6,h7];rfl⟩;simp [GX]
 ·obtain rfl:=dy hi h3;rw [List.drop_length,Ak] at hok
  (repeat (first|refine dj ?_|refine di ?_))
  refine⟨trivial,trivial,?_⟩;rw [hok,fm,c_];cases l<;>simp
end Go.Ax.dg
set_option maxRecDepth 100000
namespace Go.Ax.dg
open Go Go.Ax Go.Ax.V Go.Ax.Ft
theorem s83 (p:Pg) (proc vars:Int) (l:List Sm) (hl:l.length<=4194304) (ih:∀s∈l,VS prog 105 [Ba p proc vars,mh s] (fun r=>r=.b (s9 p.au proc vars s))) :
  VS prog 83 [Ba p proc vars,.l (gh l)] (fun r=>r=.b (oq p.au proc vars l)):=by
 refine vs83 _ _ _ ?_;unfold W83
 (repeat (first|refine dj ?_|refine di ?_))
 refine⟨fun m o5 x7 x8 x9=>∃i:Nat,i<=l.length/\m=l.length - i/\o5=Ba p proc vars/\x7=.l (gh l)/\x8=ii l.length/\x9=ii i/\(l.take i).all (s9 p.au proc vars)=true,
  ⟨_,0,by omega,rfl,rfl,rfl,by rw [fl],rfl,rfl⟩,?_⟩
 rintro m o5 x7 x8 x9 ⟨i,hi,rfl,rfl,rfl,rfl,rfl,hall⟩;refine⟨_,rfl,aa (fun h3=>?_) (fun h3=>?_)⟩
 ·replace h3:=b9 h3;obtain⟨y,hy⟩:∃x,l[i]?=some x:=⟨_,qqa h3⟩;have hy':(gh l)[i]?=some (mh y):=by rw [nq,qqe,hy];rfl
  have hih:=ih y (qqi hy);refine⟨_,⟨bq hy',Ab y⟩,?_⟩;obtain⟨kind,var,chan,tag,⟨k1,n1,v1,ks1⟩,⟨op,⟨k2,n2,v2,ks2⟩,⟨k3,n3,v3,ks3⟩⟩,body,els,cu⟩:=y
  (repeat (first|refine dj ?_|refine di ?_|refine lG ?_))
  refine aa (fun h4=>?_) (fun h4=>?_)
  ·refine⟨trivial,trivial,?_⟩;rw [AP,qa (f:=s9 p.au proc vars) hy (by simpa using h4)]
  ·exact⟨_,bn h3 (by omega),_,by omega,i+1,by omega,rfl,rfl,rfl,rfl,rfl,oe hy hall (by simpa using h4)⟩
 ·obtain rfl:=dy hi h3;rw [qqt] at hall;refine⟨trivial,trivial,?_⟩;rw [AP,hall]
theorem KN {au:List Ch} {proc c:Int} {dst:Bool} (h:BW au proc dst c=true):∃(k:Nat) (x:Ch),c=k/\au[k]?=some x:=by
 unfold BW at h;split at h
 ·rename_i k;split at h
  ·rename_i x hx;exact⟨k,x,rfl,hx⟩
  ·cases h
 ·cases h
theorem s105 (p:Pg) (proc:Int) (vars:Int) (hv:0<=vars/\vars<=6) (hc:p.au.length<=4194304) (ht:∀x∈p.au,1<=x.tags/\x.tags<=4) :
  ∀(n:Nat) (s:Sm),za s<=n->n<=4194304->VS prog 105 [Ba p proc vars,mh s] (fun r=>r=.b (s9 p.au proc vars s)):=by
 intro n
 induction n with
 |zero=>intro s hs;have:=zg s;omega
 |succ n ih=>
  intro s hs hn;obtain⟨kind,var,chan,tag,e,c,body,els,cu⟩:=s;simp only [za] at hs;have hbody:VS prog 83 [Ba p proc vars,.l (gh body)] (fun r=>r=.b (oq p.au proc vars body)):=
   s83 p proc vars body (by have:=mq body;omega) (fun s hs'=>ih s (by have:=jr hs';omega) (by omega))
  have qxm:VS prog 83 [Ba p proc vars,.l (gh els)] (fun r=>r=.b (oq p.au proc vars els)):=
   s83 p proc vars els (by have:=mq els;omega) (fun s hs'=>ih s (by have:=jr hs';omega) (by omega))
  have h141:=UK e;have h142:=s142 c;have h143:=SJ vars hv e (by omega);have h144:=s144 vars hv c (by omega);have hsrc:=Y8 p proc vars chan false hc;have qxI:=Y8 p proc vars chan true hc;obtain⟨k1,n1,v1,ks1⟩:=e;obtain⟨op,⟨k2,n2,v2,ks2⟩,⟨k3,n3,v3,ks3⟩⟩:=c;refine XT _ _ _ ?_;unfold W105
  (repeat (first|refine dj ?_|refine di ?_|refine lG ?_))
  refine aa (fun h=>?_) (fun h=>?_)
  ·obtain rfl:kind=1:=by simpa [bp] using h
   (repeat (first|refine dj ?_|refine di ?_|refine lG ?_|refine cy (oK _ _ _) ?_|refine gB _ (fun h=>by first|exact b8 (oK _ _ _)|(rw [h];exact b8 (oK _ _ _))) ?_|refine gO _ (fun h=>by first|exact b8 (oK _ _ _)|(rw [h];exact b8 (oK _ _ _))) ?_))
   refine⟨trivial,trivial,?_⟩;congr 1;unfold s9;simp only [bp,fl,fm,gu,Bool.and_assoc,reduceIte,Int.reduceEq]
  have n1:¬kind=1:=by simpa [bp] using h
  refine⟨_,rfl,aa (fun h=>?_) (fun h=>?_)⟩
  ·obtain rfl:kind=7:=by simpa [bp] using h
   (repeat (first|refine dj ?_|refine di ?_|refine cy (oK _ _ _) ?_|refine gB _ (fun h=>by first|exact b8 (oK _ _ _)|(rw [h];exact b8 (oK _ _ _))) ?_|refine gO _ (fun h=>by first|exact b8 (oK _ _ _)|(rw [h];exact b8 (oK _ _ _))) ?_))
   refine⟨trivial,trivial,?_⟩;congr 1;unfold s9;simp only [bp,fl,fm,gu,Bool.and_assoc,reduceIte,Int.reduceEq]
  have n7:¬kind=7:=by simpa [bp] using h
  refine⟨_,rfl,aa (fun h=>?_) (fun h=>?_)⟩
  ·obtain rfl:kind=6:=by simpa [bp] using h
   (repeat (first|refine dj ?_|refine di ?_|refine lG ?_))
   refine⟨trivial,trivial,?_⟩;congr 1;unfold s9;simp only [bp,fl,fm,gu,Bool.and_assoc,reduceIte,Int.reduceEq]
  have n6:¬kind=6:=by simpa [bp] using h
  refine⟨_,rfl,aa (fun h=>?_) (fun h=>?_)⟩
  ·obtain rfl:kind=3:=by simpa [bp] using h
   (repeat (first|refine dj ?_|refine di ?_|refine lG ?_))
   refine⟨trivial,trivial,?_⟩;congr 1;unfold s9;simp only [bp,fl,fm,gu,Bool.and_assoc,reduceIte,Int.reduceEq]
  have n3:¬kind=3:=by simpa [bp] using h
  refine⟨_,rfl,aa (fun h=>?_) (fun h=>?_)⟩
  ·obtain rfl:kind=2:=by simpa [bp] using h
   (repeat (first|refine dj ?_|refine di ?_|refine lG ?_))
   refine⟨trivial,trivial,?_⟩;congr 1;unfold s9;simp only [bp,fl,fm,gu,Bool.and_assoc,reduceIte,Int.reduceEq]
  have n2:¬kind=2:=by simpa [bp] using h
  refine⟨_,rfl,aa (fun h=>?_) (fun h=>?_)⟩
  ·obtain rfl:kind=4:=by simpa [bp] using h
   cases hE:BW p.au proc false chan with
   |false=>
    rw [hE] at hsrc
    (repeat (first|refine dj ?_|refine di ?_|refine lG ?_))
    refine⟨trivial,trivial,?_⟩;congr 1;unfold s9;simp [hE]
   |true=>
    rw [hE] at hsrc;obtain⟨k,x,rfl,hx⟩:=KN hE;have qyf:=Y7 p proc vars tag hx (ht x (qqi hx))
    (repeat (first|refine dj ?_|refine di ?_|refine lG ?_))
    refine⟨trivial,trivial,?_⟩;congr 1;unfold s9;simp only [bp,fl,fm,gu,Bool.and_assoc,reduceIte,Int.reduceEq,hE]
  have n4:¬kind=4:=by simpa [bp] using h
  refine⟨_,rfl,aa (fun h=>?_) (fun h=>?_)⟩
  ·obtain rfl:kind=5:=by simpa [bp] using h
   cases hE:BW p.au proc true chan with
   |false=>
    rw [hE] at qxI
    (repeat (first|refine dj ?_|refine di ?_|refine lG ?_))
    refine⟨trivial,trivial,?_⟩;congr 1;unfold s9;simp [hE]
   |true=>
    rw [hE] at qxI;obtain⟨k,x,rfl,hx⟩:=KN hE;have h149:=s149 p proc vars hv hx (ht x (qqi hx)) cu (by have:=AA cu;omega) (fun tag var body hm=>s83 p proc vars body (by
     have:=uq hm;simp only [LF] at this;have:=mq body;omega) (fun s hs'=>ih s (by
     have:=uq hm;simp only [LF] at this;have:=jr hs';omega) (by omega)))
    (repeat (first|refine dj ?_|refine di ?_|refine lG ?_))
    refine⟨trivial,trivial,?_⟩;congr 1;unfold s9;simp only [bp,fl,fm,gu,Bool.and_assoc,reduceIte,Int.reduceEq,hE]
  have n5:¬kind=5:=by simpa [bp] using h
  refine⟨trivial,trivial,?_⟩;congr 1;unfold s9;simp [n1,n2,n3,n4,n5,n6,n7]
theorem s60 (p:Pg) (hz:Aw p):VS prog 60 [gb p] (fun r=>r=.b (vb p)):=by
 have hlc:=hz.au;have hlp:=hz.procs;have hl1:(p.au.map c8).length=p.au.length:=qql _;have hl2:(p.procs.map gJ).length=p.procs.length:=qql _;refine vs60 _ _ ?_;unfold W60
 (repeat (first|refine dj ?_|refine di ?_|refine cy (oK _ _ _) ?_|refine gB _ (fun h=>by first|exact b8 (oK _ _ _)|(rw [h];exact b8 (oK _ _ _))) ?_|refine gO _ (fun h=>by first|exact b8 (oK _ _ _)|(rw [h];exact b8 (oK _ _ _))) ?_))
 rw [hl1,hl2];refine aa (fun h=>?_) (fun h=>?_)
 ·refine⟨trivial,trivial,?_⟩;congr 1;unfold vb;simp only [c_,within,qqC,qqD,qqH,Bool.and_eq_false_iff,qqJ] at h;symm;simp only [Bool.and_eq_false_iff,qqJ];omega
 simp only [c_,within,Bool.or_eq_false_iff,Bool.not_eq_false',qqB,qqH,qqJ] at h;obtain⟨hc4,hp1,hp4⟩:=h;have hok:vb p=(p.au.all (ye p.procs.length)&&oW p.au 0 p.procs):=by unfold vb;rw [qqI (show p.au.length<=4 by omega),qqI (show 1<=p.procs.length by omega),qqI (show p.procs.length<=4 by omega)];simp
 (repeat (first|refine dj ?_|refine di ?_))
 refine⟨fun m o14 x16 x17 x18=>∃i:Nat,i<=p.au.length/\m=p.au.length - i/\o14=gb p/\x16=.l (p.au.map c8)/\x17=ii p.au.length/\x18=ii i/\(p.au.take i).all (ye p.procs.length)=true,
  ⟨_,0,by omega,rfl,rfl,rfl,by rw [hl1],rfl,rfl⟩,?_⟩
 rintro m o14 x16 x17 x18 ⟨i,hi,rfl,rfl,rfl,rfl,rfl,hall⟩;refine⟨_,rfl,aa (fun h3=>?_) (fun h3=>?_)⟩
 ·replace h3:=b9 h3;obtain⟨y,hy⟩:∃x,p.au[i]?=some x:=⟨_,qqa h3⟩;have hy':(p.au.map c8)[i]?=some (c8 y):=by rw [qqe,hy];rfl
  have hym:=qqi hy;have h82:=s82 y p.procs.length (by omega) (hz.rules y hym) (hz.rows y hym);rw [←hl2] at h82;refine⟨_,⟨bq hy',rfl⟩,?_⟩
  (repeat (first|refine dj ?_|refine di ?_|refine lG ?_))
  rw [hl2];refine aa (fun h4=>?_) (fun h4=>?_)
  ·refine⟨trivial,trivial,?_⟩;rw [hok,qa (f:=ye p.procs.length) hy (by simpa using h4)];rfl
  ·exact⟨_,bn h3 (by omega),_,by omega,i+1,by omega,rfl,rfl,rfl,rfl,rfl,oe hy hall (by simpa using h4)⟩
 obtain rfl:=dy hi h3;rw [qqt] at hall;rw [hall,Bool.true_and] at hok;have qjf:∀x∈p.au,1<=x.tags/\x.tags<=4:=fun x hx=>by have:=qqA.1 hall x hx;simp only [ye,within,qqB,qqH] at this;omega
 (repeat (first|refine dj ?_|refine di ?_))
 refine⟨fun m o34 x36 x37 x38=>∃i:Nat,i<=p.procs.length/\m=p.procs.length - i/\o34=gb p/\x36=.l (p.procs.map gJ)/\x37=ii p.procs.length/\x38=ii i/\oW p.au 0 p.procs=oW p.au i (p.procs.drop i),
  ⟨_,0,by omega,rfl,rfl,rfl,by rw [hl2],rfl,rfl⟩,?_⟩
 rintro m o34 x36 x37 x38 ⟨i,hi,rfl,rfl,rfl,rfl,rfl,hps⟩;refine⟨_,rfl,aa (fun h3=>?_) (fun h3=>?_)⟩
 ·replace h3:=b9 h3;obtain⟨y,hy⟩:∃x,p.procs[i]?=some x:=⟨_,qqa h3⟩;have hy':(p.procs.map gJ)[i]?=some (gJ y):=by rw [qqe,hy];rfl
  have hym:=qqi hy;rw [drop_cons hy,oW] at hps;refine⟨_,⟨bq hy',rfl⟩,?_⟩;have hstep:∀(h:(!within y.vars 0 6||!oq p.au i y.vars y.body)=false),oW p.au 0 p.procs=oW p.au ((i+1:Nat):Int) (p.procs.drop (i+1)):=fun h=>by simp only [Bool.or_eq_false_iff,Bool.not_eq_false'] at h;rw [hps,h.1,h.2];simp
  cases hw:within y.vars 0 6 with
  |false=>
   have h81:=oK y.vars 0 6;rw [hw] at h81
   (repeat (first|refine dj ?_|refine di ?_|refine lG ?_))
   refine de rfl ⟨trivial,trivial,?_⟩;rw [hok,hps,hw];rfl
  |true=>
   have h81:=oK y.vars 0 6;rw [hw] at h81;have hv:0<=y.vars/\y.vars<=6:=by simpa [within] using hw
   have h83:=s83 p i y.vars y.body (by have:=hz.body y hym;have:=mq y.body;omega) (fun s hs=>s105 p i y.vars hv (by omega) qjf 4194304 s (qqR (jr hs) (hz.body y hym)) (qqT _))
   (repeat (first|refine dj ?_|refine di ?_|refine lG ?_))
   refine aa (fun h4=>?_) (fun h4=>?_)
   ·refine⟨trivial,trivial,?_⟩;rw [hok,hps,hw];have h5:oq p.au i y.vars y.body=false:=by simpa using h4
    rw [h5];rfl
   ·exact⟨_,bn h3 (by omega),_,by omega,i+1,by omega,rfl,rfl,rfl,rfl,rfl,hstep (by rw [hw];exact h4)⟩
 ·obtain rfl:=dy hi h3;rw [List.drop_length,oW] at hps;refine⟨trivial,trivial,?_⟩;rw [hok,hps]
end Go.Ax.dg
set_option maxRecDepth 100000
namespace Go.Ax.dg
open Go Go.Ax Go.Ax.V Go.Ax.Ft
theorem Y4 (op:Int):VS prog 41 [ii op] (fun r=>r=ii (Ki op)):=by
 refine vs41 _ _ ?_;unfold W41;refine⟨_,rfl,aa (fun h=>?_) (fun h=>?_)⟩
 ·obtain rfl:op=1:=by simpa [bp] using h
  exact⟨trivial,trivial,rfl⟩
 have n1:¬op=1:=by simpa [bp] using h
 refine⟨_,rfl,aa (fun h=>?_) (fun h=>?_)⟩
 ·obtain rfl:op=2:=by simpa [bp] using h
  exact⟨trivial,trivial,rfl⟩
 have n2:¬op=2:=by simpa [bp] using h
 refine⟨_,rfl,aa (fun h=>?_) (fun h=>?_)⟩
 ·obtain rfl:op=3:=by simpa [bp] using h
  exact⟨trivial,trivial,rfl⟩
 have n3:¬op=3:=by simpa [bp] using h
 refine⟨_,rfl,aa (fun h=>?_) (fun h=>?_)⟩
 ·obtain rfl:op=4:=by simpa [bp] using h
  exact⟨trivial,trivial,rfl⟩
 have n4:¬op=4:=by simpa [bp] using h
 refine⟨_,rfl,aa (fun h=>?_) (fun h=>?_)⟩
 ·obtain rfl:op=5:=by simpa [bp] using h
  exact⟨trivial,trivial,rfl⟩
 have n5:¬op=5:=by simpa [bp] using h
 refine⟨_,rfl,aa (fun h=>?_) (fun h=>?_)⟩
 ·obtain rfl:op=6:=by simpa [bp] using h
  exact⟨trivial,trivial,rfl⟩
 have n6:¬op=6:=by simpa [bp] using h
 refine⟨trivial,trivial,?_⟩;simp [Ki,n1,n2,n3,n4,n5,n6]
theorem gU {α β:Type} {l:List α} {f:α->β} {i:Nat} {x:α} (hx:l[i]?=some x):(l.take i).map f++[f x]=(l.take (i+1)).map f:=by rw [←jo hx];simp
theorem UN:∀(e:Ex),x_ e<=4194304->VS prog 106 [j9 e] (fun r=>r=j9 e)
 |.mk k n v ks,hB=>by
  have hks:qp ks<=4194304:=by simp only [x_] at hB;omega
  have hk:=qqR (Az ks) hks;have ih:∀e∈ks,VS prog 106 [j9 e] (fun r=>r=j9 e):=fun e he=>UN e (qqR (Ay he) hks)
  refine XS _ _ ?_;unfold W106
  (repeat (first|refine dj ?_|refine di ?_))
  refine⟨fun m o7 l8 o9 l10 x11 x12 x13=>∃i:Nat,i<=ks.length/\m=ks.length - i/\o7=.a [ii k,ii n,ii v,.l []]/\l8=(ks.take i).map j9/\o9=.a [ii 0,ii 0,ii 0,.l []]/\x11=.l (kg ks)/\x12=ii ks.length/\x13=ii i,
   ⟨_,0,by omega,rfl,rfl,rfl,rfl,rfl,by rw [iu],rfl⟩,?_⟩
  rintro m o7 l8 o9 l10 x11 x12 x13 ⟨i,hi,rfl,rfl,rfl,rfl,rfl,rfl,rfl⟩;refine⟨_,rfl,aa (fun h3=>?_) (fun h3=>?_)⟩
  ·replace h3:=b9 h3;obtain⟨x,hx⟩:∃x,ks[i]?=some x:=⟨_,qqa h3⟩;have hx':(kg ks)[i]?=some (j9 x):=by rw [lp,qqe,hx];rfl
   have hih:=ih x (qqi hx);refine⟨_,⟨bq hx',Dj x⟩,?_⟩;have hl:((ks.take i).map j9).length<=4194304:=by simp;omega
   have ht:=gU (f:=j9) hx;obtain⟨k',n',v',ks'⟩:=x
   (repeat (first|refine dj ?_|refine di ?_|refine lG ?_))
   refine⟨_,lT,?_⟩;rw [ht];exact⟨_,rfl,_,bn h3 (by omega),_,by omega,i+1,by omega,rfl,rfl,rfl,rfl,rfl,rfl,rfl⟩
  ·obtain rfl:=dy hi h3
   (repeat (first|refine dj ?_|refine di ?_))
   refine⟨trivial,_,rfl,_,rfl,trivial,?_⟩;rw [qqt,←lp];rfl
theorem s107 (c:Co) (hB:Ck c<=4194304):VS prog 107 [GY c] (fun r=>r=GY c):=by
 obtain⟨op,l,r⟩:=c;simp only [Ck] at hB;have hl:=UN l (by omega);have hr:=UN r (by omega);obtain⟨k1,n1,v1,ks1⟩:=l;obtain⟨k2,n2,v2,ks2⟩:=r;refine XR _ _ ?_;unfold W107
 (repeat (first|refine dj ?_|refine di ?_|refine lG ?_))
 exact⟨trivial,_,rfl,trivial,rfl⟩
theorem s109 (c:Co) (hB:Ck c<=4194304):VS prog 109 [GY c] (fun r=>r=GY (yf c)):=by
 have h:=s107 c hB;obtain⟨op,l,r⟩:=c;obtain⟨k1,n1,v1,ks1⟩:=l;obtain⟨k2,n2,v2,ks2⟩:=r;refine XQ _ _ ?_;unfold W109
 (repeat (first|refine dj ?_|refine di ?_|refine lG ?_|refine cy (Y4 _) ?_|refine gB _ (fun h=>by first|exact b8 (Y4 _)|(rw [h];exact b8 (Y4 _))) ?_|refine gO _ (fun h=>by first|exact b8 (Y4 _)|(rw [h];exact b8 (Y4 _))) ?_))
 exact⟨trivial,_,rfl,trivial,rfl⟩
def oG (g:Gr):TV:=.a [ii g.nodes,.l [],.l []]
def eE (g:Gr):List TV:=g.bh.map dw
def eH (g:Gr):List TV:=g.heads.map ii
structure grow (g g':Gr) (n:Nat):Prop where
 lo:g.nodes<=g'.nodes
 hi:g'.nodes<=g.nodes+n
 e:g'.bh.length<=g.bh.length+n
 h:g'.heads.length<=g.heads.length+n
theorem grow.refl (g:Gr):grow g g 0:=⟨by omega,by omega,by omega,by omega⟩
theorem grow.trans {g1 g2 g3:Gr} {n m:Nat} (h:grow g1 g2 n) (h':grow g2 g3 m):grow g1 g3 (n+m):=
 ⟨by have:=h.lo;have:=h'.lo;omega,by have:=h.hi;have:=h'.hi;omega,by have:=h.e;have:=h'.e;omega,by have:=h.h;have:=h'.h;omega⟩
theorem grow.le {g1 g2:Gr} {n m:Nat} (h:grow g1 g2 n) (hm:n<=m):grow g1 g2 m:=
 ⟨h.lo,by have:=h.hi;omega,by have:=h.e;omega,by have:=h.h;omega⟩
theorem yo (g:Gr) (e:Ed):grow g (g.dm e) 1:=⟨by simp [Gr.dm],by simp [Gr.dm];omega,by simp [Gr.dm],by simp [Gr.dm]⟩
theorem HR (g:Gr):grow g g.node 1:=⟨by simp [Gr.node];omega,by simp [Gr.node],by simp [Gr.node],by simp [Gr.node]⟩
theorem zx (g:Gr) (e:Ed):grow g (g.node.dm e) 1:=⟨by simp [Gr.node,Gr.dm];omega,by simp [Gr.node,Gr.dm],by simp [Gr.node,Gr.dm],by simp [Gr.node,Gr.dm]⟩
mutual
theorem Fx:∀(s:Sm) (a b:Int) (g:Gr),grow g (LH s a b g) (za s - 1)
 |.mk kind var chan tag e c body els cu,a,b,g=>by
  have hs:za (.mk kind var chan tag e c body els cu)=5+x_ e+Ck c+fq body+fq els+ku cu:=by rw [za]
  rw [hs,LH];split
  ·exact(yo _ _).le (by omega)
  split
  ·have h1:=(zx g ⟨a,g.nodes,2,0,0,0,ni,c⟩).trans (sj body g.nodes b _);have h2:=h1.trans (zx _ ⟨a,(AS body g.nodes b (g.node.dm ⟨a,g.nodes,2,0,0,0,ni,c⟩)).nodes,2,0,0,0,ni,yf c⟩);exact(h2.trans (sj els _ b _)).le (by omega)
  split
  ·have h0:grow g ((((g.head a).node).dm ⟨a,g.nodes,2,0,0,0,ni,c⟩).dm ⟨a,b,2,0,0,0,ni,yf c⟩) 2:=⟨by simp [Gr.node,Gr.dm,Gr.head];omega,by simp [Gr.node,Gr.dm,Gr.head];try omega,by simp [Gr.node,Gr.dm,Gr.head],by simp [Gr.node,Gr.dm,Gr.head]⟩;exact(h0.trans (sj body g.nodes a _)).le (by omega)
  split
  ·exact(yo _ _).le (by omega)
  split
  ·exact(Lg chan cu a b g).le (by omega)
  split
  ·exact(yo _ _).le (by omega)
  split
  ·exact(yo _ _).le (by omega)
  ·exact(grow.refl g).le (by omega)
theorem sj:∀(l:List Sm) (a b:Int) (g:Gr),grow g (AS l a b g) (fq l+1)
 |[],a,b,g=>by rw [AS];exact(yo _ _).le (by omega)
 |[s],a,b,g=>by rw [AS];exact(Fx s a b g).le (by simp [fq];omega)
 |s::t::r,a,b,g=>by rw [AS];have h1:=Fx s a g.nodes g.node;have h2:=sj (t::r) g.nodes b (LH s a g.nodes g.node);have h0:=((HR g).trans h1).trans h2;have:=zg s;exact h0.le (by simp only [fq];omega)
theorem Lg:∀(chan:Int) (l:List Ar) (a b:Int) (g:Gr),grow g (Lx chan l a b g) (ku l)
 |chan,[],a,b,g=>by rw [Lx];exact(grow.refl g).le (by simp [ku])
 |chan,.mk tag var body::r,a,b,g=>by rw [Lx];have h1:=(zx g ⟨a,g.nodes,4,var,chan,tag,ni,qt⟩).trans (sj body g.nodes b _);exact(h1.trans (Lg chan r a b _)).le (by simp only [ku,LF];omega)
end
structure fits (g:Gr) (n:Nat):Prop where
 lo:0<=g.nodes
 nn:g.nodes+n<=100000000
 e:g.bh.length+n<=100000000
 h:g.heads.length+n<=100000000
theorem fits.le {g:Gr} {n m:Nat} (h:fits g n) (hm:m<=n):fits g m:=⟨h.lo,by have:=h.nn;omega,by have:=h.e;omega,by have:=h.h;omega⟩
theorem fits.grow {g g':Gr} {n m:Nat} (h:fits g (n+m)) (hg:grow g g' n):fits g' m:=
 ⟨by have:=h.lo;have:=hg.lo;omega,by have:=h.nn;have:=hg.hi;omega,by have:=h.e;have:=hg.e;omega,by have:=h.h;have:=hg.h;omega⟩
theorem wq {n:Nat} {es:List TV} (h:∀e∈es,cw n e):gk n es:=by
 cases es with
 |nil=>trivial
 |cons e r=>exact h e qqu
theorem QU {s:Sm} {r:List Sm} (hr:r≠[]) (a b:Int) (g:Gr):AS (s::r) a b g=AS r g.nodes b (LH s a g.nodes g.node):=by
 cases r with
 |nil=>exact absurd rfl hr
 |cons t r=>rw [AS]
theorem Oe {l:List Sm} {i:Nat} {s:Sm} (h:l[i]?=some s):fq (l.drop i)=za s+fq (l.drop (i+1)):=by rw [drop_cons h,fq]
end Go.Ax.dg
set_option maxRecDepth 100000
namespace Go.Ax.dg
open Go Go.Ax Go.Ax.V Go.Ax.Ft
theorem s56 (l:List Int) (hl:l.length<=4194304):VS prog 56 [lg l] (fun r=>r=lg l):=by
 refine vs56 _ _ ?_;unfold W56;refine⟨_,rfl,fun b hb=>aa (fun h=>?_) (fun h=>?_)⟩
 ·refine⟨trivial,trivial,?_⟩;have:l=[]:=by
   cases l with
   |nil=>rfl
   |cons x r=>have:=hb (by simp);rw [h] at this;cases this
  subst this;rfl
 ·have hln:(l.map ii).length<=4194304:=by rw [qql];exact hl
  exact⟨_,rfl,wq (fun e he=>by obtain⟨x,_,rfl⟩:=qqz.1 he;rfl),_,lT,trivial,trivial,rfl⟩
end Go.Ax.dg
set_option maxRecDepth 100000
namespace Go.Ax.dg
open Go Go.Ax Go.Ax.V Go.Ax.Ft
theorem s77 (a n:Int):VS prog 77 [ii a,ii n] (fun r=>r=.b (wi a n)):=by
 refine vs77 _ _ _ ?_;unfold W77
 (repeat (first|refine dj ?_|refine di ?_))
 refine⟨trivial,trivial,?_⟩;simp only [c_,wi,ny]
theorem s78 (a:Int):VS prog 78 [ii a] (fun r=>r=.b (xl a)):=by
 refine vs78 _ _ ?_;unfold W78
 (repeat (first|refine dj ?_|refine di ?_))
 refine⟨trivial,trivial,?_⟩;simp only [c_,xl,ny]
theorem s76 (cs:List Ch) (gs:List Gr) (vs:List Int) (c:Cf):VS prog 76 [gI cs gs vs,jw c] (fun r=>r=.b (Ag cs.length gs.length c)):=by
 refine vs76 _ _ _ ?_;unfold W76
 (repeat (first|refine dj ?_|refine di ?_))
 refine⟨trivial,trivial,?_⟩;simp only [bp,Ag,qql]
theorem s79 (x:Ch) (q:List (Int×Int)) (hq:q.length<=4194304):VS prog 79 [c8 x,Ac q] (fun r=>r=.b (AK x q)):=by
 have hml:(q.map BX).length=q.length:=qql _;refine vs79 _ _ _ ?_;unfold W79;refine⟨rfl,_,rfl,fun n o5 x6 x7 x8 x9=>∃i:Nat,i<=q.length/\n=q.length - i/\o5=c8 x/\x6=Ac q/\x7=.l (q.map BX)/\x8=ii q.length/\x9=ii i/\(q.take i).all (Oy x)=true,⟨_,0,by omega,rfl,rfl,rfl,rfl,by rw [hml],rfl,rfl⟩,?_⟩;rintro n o5 x6 x7 x8 x9 ⟨i,hi,rfl,rfl,rfl,rfl,rfl,rfl,hall⟩;refine⟨_,rfl,aa (fun h3=>?_) (fun h3=>?_)⟩
 ·replace h3:=b9 h3;obtain⟨m,hx⟩:∃m,q[i]?=some m:=⟨_,qqa h3⟩;have hx':(q.map BX)[i]?=some (BX m):=by rw [qqe,hx];rfl
  have h77:=s77 m.1 x.tags;have h78:=s78 m.2;refine⟨_,⟨bq hx',rfl⟩,_,rfl,_,rfl,_,rfl,_,rfl,cy h77 ⟨_,gp _,?_⟩⟩;have bad:∀t:Bool,Oy x m=false->AK x q=false:=fun t h=>by unfold AK;rw [qa hx h];rfl
  cases hw:wi m.1 x.tags with
  |false=>refine⟨rfl,cr rfl (cr rfl (cr rfl ⟨_,rfl,de rfl ⟨trivial,trivial,?_⟩⟩))⟩;rw [bad true (by unfold Oy;rw [hw];rfl)]
  |true=>
   refine⟨rfl,bg rfl rfl (bg rfl (b8 h78) (bg rfl (gp _) ⟨_,rfl,aa (fun h=>?_) (fun h=>?_)⟩))⟩
   ·have h':xl m.2=false:=by simpa using h
    refine⟨trivial,trivial,?_⟩;rw [bad true (by unfold Oy;rw [hw,h'];rfl)]
   ·have h':xl m.2=true:=by simpa using h
    exact⟨_,bn h3 (by omega),_,by omega,i+1,by omega,rfl,rfl,rfl,rfl,rfl,rfl,oe hx hall (by unfold Oy;rw [hw,h'];rfl)⟩
 ·obtain rfl:=dy hi h3;rw [qqt] at hall;refine⟨_,rfl,_,rfl,_,rfl,trivial,trivial,?_⟩;rw [hml,c_,ny];unfold AK;rw [hall];rfl
theorem s54 (cs:List Ch) (gs:List Gr) (vs:List Int) (c:Cf) (hv:gs.length<=vs.length) (hc:cs.length<=4194304) (hg:gs.length<=4194304) (hz:Pu c):VS prog 54 [gI cs gs vs,jw c] (fun r=>r=.b (C4 cs gs vs c)):=by
 have h76:=s76 cs gs vs c;have hml:(gs.map gK).length=gs.length:=qql _;have hmc:(cs.map c8).length=cs.length:=qql _;refine vs54 _ _ _ ?_;unfold W54;refine⟨rfl,rfl,_,rfl,_,rfl,cy h76 ⟨_,gp _,aa (fun h=>?_) (fun h=>?_)⟩⟩
 ·have h':Ag cs.length gs.length c=false:=by simpa using h
  refine⟨trivial,trivial,?_⟩;unfold C4;rw [h'];rfl
 have hcn:Ag cs.length gs.length c=true:=by simpa using h
 obtain⟨⟨⟨l1,l2⟩,l3⟩,l4⟩:(((c.pos.length:Int)=gs.length/\(c.vars.length:Int)=gs.length)/\(c.fe.length:Int)=cs.length)/\(c.states.length:Int)=cs.length:=by simpa [Ag] using hcn
 refine⟨_,rfl,_,rfl,?_⟩;refine⟨fun n o10 o11 x12 x13 x14=>∃i:Nat,i<=gs.length/\n=gs.length - i/\o10=gI cs gs vs/\o11=jw c/\x12=.l (gs.map gK)/\x13=ii gs.length/\x14=ii i/\((List.range gs.length).take i).all (Hq gs vs c)=true,⟨_,0,by omega,rfl,rfl,rfl,rfl,by rw [hml],rfl,rfl⟩,?_⟩;rintro n o10 o11 x12 x13 x14 ⟨i,hi,rfl,rfl,rfl,rfl,rfl,rfl,hall⟩;refine⟨_,rfl,aa (fun h3=>?_) (fun h3=>?_)⟩
 ·replace h3:=b9 h3;have hr:=Hp h3;have bad:Hq gs vs c i=false->C4 cs gs vs c=false:=fun h=>by unfold C4;rw [qa hr h];simp
  have hx:=get_map (f:=gK) gr0 h3;have hp:=get_map (f:=ii) (0:Int) (l:=c.pos) (i:=i) (by omega);have hvr:=get_map (f:=lg) ([]:List Int) (l:=c.vars) (i:=i) (by omega);have hvs:=get_map (f:=ii) (0:Int) (l:=vs) (i:=i) (by omega);have hlen:(c.vars.getD i []).length<=4194304:=hz.var _ (A5 (by omega));generalize hG:gs.getD i gr0=G at hx;generalize hP:c.pos.getD i 0=P at hp;generalize hV:c.vars.getD i []=Vr at hvr hlen;generalize hN:vs.getD i 0=N at hvs;have hpb:Hq gs vs c i=(wi P G.nodes&&decide ((Vr.length:Int)=N)&&Vr.all xl):=by unfold Hq;rw [hG,hP,hV,hN]
  rw [hpb] at bad;have h77:=s77 P G.nodes;have hmv:(Vr.map ii).length=Vr.length:=qql _;refine⟨_,⟨bq hx,rfl⟩,_,rfl,_,rfl,_,rfl,_,⟨bq hp,rfl⟩,_,rfl,_,rfl,cy h77 ⟨_,gp _,?_⟩⟩;cases hw:wi P G.nodes with
  |false=>refine⟨rfl,cr rfl (cr rfl (cr rfl ⟨rfl,cr rfl (cr rfl ⟨rfl,cr rfl (cr rfl (cr rfl ⟨rfl,cr rfl (cr rfl ⟨_,rfl,de rfl ⟨trivial,trivial,?_⟩⟩)⟩))⟩)⟩))⟩;rw [bad (by rw [hw];rfl)]
  |true=>
   refine⟨rfl,bg rfl rfl (bg rfl rfl (bg rfl ⟨bq hvr,rfl⟩ ⟨rfl,bg rfl rfl (bg rfl rfl ⟨rfl,bg rfl rfl (bg rfl rfl (bg rfl ⟨bq hvs,rfl⟩ ⟨rfl,bg rfl rfl (bg rfl (HC _ _) ⟨_,rfl,aa (fun h=>?_) (fun h=>?_)⟩)⟩))⟩)⟩))⟩
   ·have h':decide ((Vr.length:Int)=N)=false:=by rw [hmv,bp] at h;simpa using h
    refine⟨trivial,trivial,?_⟩;rw [bad (by rw [hw,h'];rfl)]
   ·have h':decide ((Vr.length:Int)=N)=true:=by rw [hmv,bp] at h;simpa using h
    refine⟨_,rfl,_,⟨bq hvr,rfl⟩,_,rfl,_,rfl,?_⟩;refine⟨fun n o43 o44 x45 x46 x47 x48 x49 x50=>∃j:Nat,j<=Vr.length/\n=Vr.length - j/\o43=gI cs gs vs/\o44=jw c/\x45=.l (gs.map gK)/\x46=ii gs.length/\x47=ii i/\x48=.l (Vr.map ii)/\x49=ii Vr.length/\x50=ii j/\(Vr.take j).all xl=true,⟨_,0,by omega,rfl,rfl,rfl,rfl,rfl,rfl,rfl,by rw [hmv],rfl,rfl⟩,?_⟩;rintro n o43 o44 x45 x46 x47 x48 x49 x50 ⟨j,hj,rfl,rfl,rfl,rfl,rfl,rfl,rfl,rfl,rfl,qxM⟩;refine⟨_,rfl,aa (fun h5=>?_) (fun h5=>?_)⟩
    ·replace h5:=b9 h5;obtain⟨m,hy⟩:∃m,Vr[j]?=some m:=⟨_,qqa h5⟩;have hy':(Vr.map ii)[j]?=some (ii m):=by rw [qqe,hy];rfl
     refine⟨_,⟨bq hy',rfl⟩,_,rfl,cy (s78 m) ⟨_,gp _,aa (fun h=>?_) (fun h=>?_)⟩⟩
     ·have h6:xl m=false:=by simpa using h
      refine⟨trivial,trivial,?_⟩;rw [bad (by rw [qa hy h6];simp)]
     ·have h6:xl m=true:=by simpa using h
      exact⟨_,bn h5 (by omega),_,by omega,j+1,by omega,rfl,rfl,rfl,rfl,rfl,rfl,rfl,rfl,rfl,oe hy qxM h6⟩
    ·obtain rfl:=dy hj h5;rw [qqt] at qxM;exact⟨_,bn h3 (by omega),_,by omega,i+1,by omega,rfl,rfl,rfl,rfl,rfl,rfl,oe hr hall (by rw [hpb,hw,h',qxM];rfl)⟩
 ·obtain rfl:=dy hi h3;rw [FK] at hall;refine⟨_,rfl,_,rfl,?_⟩;refine⟨fun n o63 x64 x65 x66=>∃i:Nat,i<=cs.length/\n=cs.length - i/\o63=jw c/\x64=.l (cs.map c8)/\x65=ii cs.length/\x66=ii i/\((List.range cs.length).take i).all (Ia cs c)=true,⟨_,0,by omega,rfl,rfl,rfl,by rw [hmc],rfl,rfl⟩,?_⟩;rintro n o63 x64 x65 x66 ⟨i,hi,rfl,rfl,rfl,rfl,rfl,qxM⟩;refine⟨_,rfl,aa (fun h3=>?_) (fun h3=>?_)⟩
  ·replace h3:=b9 h3;have hr:=Hp h3;have bad:Ia cs c i=false->C4 cs gs vs c=false:=fun h=>by unfold C4;rw [qa hr h];simp
   have hx:=get_map (f:=c8) Z5 h3;have hq:=get_map (f:=Ac) ([]:List (Int×Int)) (l:=c.fe) (i:=i) (by omega);have hs:=get_map (f:=ii) (0:Int) (l:=c.states) (i:=i) (by omega);have hlen:(c.fe.getD i []).length<=4194304:=hz.queue _ (A5 (by omega));generalize hG:cs.getD i Z5=X at hx;generalize hP:c.fe.getD i []=Qe at hq hlen;generalize hV:c.states.getD i 0=S at hs;have hpb:Ia cs c i=(AK X Qe&&wi S (max (X.rule.length:Int) 1)):=by unfold Ia;rw [hG,hP,hV]
   rw [hpb] at bad;have h79:=s79 X Qe hlen;have h77:=s77 S (max (X.rule.length:Int) 1);have hmr:(X.rule.map lg).length=X.rule.length:=qql _;have Fc:zw true [ii (X.rule.map lg).length,ii 1]=some (ii (max (X.rule.length:Int) 1)):=by
    rw [hmr];show some (TV.i .i64 (bif n8 (X.rule.length:Int) 1 then 1 else (X.rule.length:Int)))=_;rw [c_];by_cases h:(X.rule.length:Int) < 1
    ·rw [qqI h];simp only [cond_true];congr 2;omega
    ·rw [qqK h];simp only [cond_false];congr 2;omega
   refine⟨_,⟨bq hx,rfl⟩,_,rfl,_,rfl,_,rfl,_,rfl,_,⟨bq hq,rfl⟩,_,rfl,cy h79 ⟨_,gp _,?_⟩⟩;cases hw:AK X Qe with
   |false=>refine⟨rfl,cr rfl (cr rfl (cr rfl ⟨rfl,cr rfl ⟨rfl,cr rfl (cr rfl (cr rfl (cr rfl (cr rfl ⟨_,rfl,de rfl ⟨trivial,trivial,?_⟩⟩))))⟩⟩))⟩;rw [bad (by rw [hw];rfl)]
   |true=>
    refine⟨rfl,bg rfl rfl (bg rfl rfl (bg rfl ⟨bq hs,rfl⟩ ⟨rfl,bg rfl rfl ⟨rfl,bg rfl rfl (bg rfl rfl (bg rfl Fc (bg rfl (b8 h77) (bg rfl (gp _) ⟨_,rfl,aa (fun h=>?_) (fun h=>?_)⟩))))⟩⟩))⟩
    ·have h':wi S (max (X.rule.length:Int) 1)=false:=by simpa using h
     refine⟨trivial,trivial,?_⟩;rw [bad (by rw [hw,h'];rfl)]
    ·have h':wi S (max (X.rule.length:Int) 1)=true:=by simpa using h
     exact⟨_,bn h3 (by omega),_,by omega,i+1,by omega,rfl,rfl,rfl,rfl,rfl,oe hr qxM (by rw [hpb,hw,h'];rfl)⟩
  ·obtain rfl:=dy hi h3;rw [FK] at qxM;refine⟨trivial,trivial,?_⟩;unfold C4;rw [hcn,hall,qxM];rfl
end Go.Ax.dg
set_option maxRecDepth 100000
namespace Go.Ax.dg
open Go Go.Ax Go.Ax.V Go.Ax.Ft
def Lr:TV:=.a [.l [],.l [],.l [],.l []]
theorem JD (l:List Int):gk 1 (l.map ii):=wq (fun e he=>by obtain⟨x,_,rfl⟩:=qqz.1 he;rfl)
theorem sz_M (l:List (Int×Int)):gk 2 (l.map BX):=wq (fun e he=>by obtain⟨x,_,rfl⟩:=qqz.1 he;rfl)
theorem s57 (l:List (Int×Int)) (hl:l.length<=4194304):VS prog 57 [Ac l] (fun r=>r=Ac l):=by
 refine vs57 _ _ ?_;unfold W57;refine⟨_,rfl,fun b hb=>aa (fun h=>?_) (fun h=>?_)⟩
 ·refine⟨trivial,trivial,?_⟩;have:l=[]:=by
   cases l with
   |nil=>rfl
   |cons x r=>have:=hb (by simp);rw [h] at this;cases this
  subst this;rfl
 ·have hln:(l.map BX).length<=4194304:=by rw [qql];exact hl
  exact⟨_,rfl,sz_M l,_,lT,trivial,trivial,rfl⟩
theorem Lh {bytes:Nat} {l:List Int} (hl:l.length<=4194304) (hb:bytes<=4096):ga bytes [] (l.map ii)=some (l.map ii):=by have h3:l.length*bytes<=4194304*4096:=Nat.mul_le_mul hl hb;have:=n_ (bytes:=bytes) (es:=[]) (xs:=l.map ii) (by simp only [List.length_nil,qql,Nat.zero_add,most];omega) (by simp only [List.length_nil,qql,Nat.zero_add,most];omega);simpa using this
theorem app_1 {α:Type} {f:α->TV} {l:List α} {n:Nat} {x:TV} (hl:l.length<=4194304):ga 24 ((l.take n).map f) [x]=some ((l.take n).map f++[x]):=by
 have h:((l.take n).map f).length<=4194304:=by rw [qql,qqn];omega
 exact n_ (by simp only [qqq,most];omega) (by simp only [qqq,most];omega)
theorem s29 (c:Cf) (hz:Pu c):VS prog 29 [jw c] (fun r=>r=jw c):=by
 refine vs29 _ _ ?_;unfold W29;refine⟨rfl,_,rfl,_,rfl,JD _,_,Lh hz.pos (by decide),_,rfl,_,rfl,JD _,_,Lh hz.states (by decide),_,rfl,_,rfl,_,rfl,?_⟩;refine⟨fun q o13 o14 l15 l16 l17 l18 o19 l20 l21 l22 l23 x24=>∃k:Nat,k<=c.vars.length/\q=c.vars.length - k/\o13=jw c/\o14=Lr/\o19=Lr/\l20=c.pos.map ii/\l21=(c.vars.take k).map lg/\l22=[]/\l23=c.states.map ii/\x24=ii k,⟨_,0,qqS _,rfl,rfl,rfl,rfl,rfl,rfl,rfl,rfl,rfl⟩,?_⟩;rintro q o13 o14 l15 l16 l17 l18 o19 l20 l21 l22 l23 x24 ⟨k,hk,rfl,rfl,rfl,rfl,rfl,rfl,rfl,rfl,rfl⟩;refine⟨_,rfl,_,rfl,_,rfl,aa (fun h=>?_) (fun h=>?_)⟩
 ·rw [qql] at h;replace h:=b9 h;have hx:c.vars[k]?=some c.vars[k]:=qqa h;have hx':(c.vars.map lg)[k]?=some (lg c.vars[k]):=by rw [qqe,hx];rfl
  have hl:=hz.var _ (qqj h);have ht:=gU (f:=lg) hx;generalize c.vars[k]=l at hx' hl ht;exact⟨_,rfl,_,⟨bq hx',rfl⟩,_,rfl,_,rfl,JD _,_,Lh hl (by decide),rfl,rfl,rfl,_,rfl,rfl,_,app_1 hz.vars,_,rfl,_,bn h (by have:=hz.vars;omega),_,by omega,k+1,by omega,rfl,rfl,rfl,rfl,rfl,ht,rfl,rfl,rfl⟩
 rw [qql] at h;have:=dy hk h;subst this;rw [qqt];refine⟨fun q o40 o41 l42 l43 l44 l45 o46 l47 l48 l49 l50 x51=>∃k:Nat,k<=c.fe.length/\q=c.fe.length - k/\o40=jw c/\o41=Lr/\o46=Lr/\l47=c.pos.map ii/\l48=c.vars.map lg/\l49=(c.fe.take k).map Ac/\l50=c.states.map ii/\x51=ii k,⟨_,0,qqS _,rfl,rfl,rfl,rfl,rfl,rfl,rfl,rfl,rfl⟩,?_⟩;clear h hk;rintro q o40 o41 l42 l43 l44 l45 o46 l47 l48 l49 l50 x51 ⟨k,hk,rfl,rfl,rfl,rfl,rfl,rfl,rfl,rfl,rfl⟩;refine⟨_,rfl,_,rfl,_,rfl,aa (fun h=>?_) (fun h=>?_)⟩
 ·rw [qql] at h;replace h:=b9 h;have hx:c.fe[k]?=some c.fe[k]:=qqa h;have hx':(c.fe.map Ac)[k]?=some (Ac c.fe[k]):=by rw [qqe,hx];rfl
  have hl:=hz.queue _ (qqj h);have ht:=gU (f:=Ac) hx;generalize c.fe[k]=l at hx' hl ht;refine⟨fun q o58 o59 l60 l61 l62 l63 o64 l65 l66 l67 l68 x69 l70 x71=>∃j:Nat,j<=l.length/\q=l.length - j/\o58=jw c/\o59=Lr/\o64=Lr/\l65=c.pos.map ii/\l66=c.vars.map lg/\l67=(c.fe.take k).map Ac/\l68=c.states.map ii/\x69=ii k/\l70=(l.take j).map BX/\x71=ii j,⟨_,0,qqS _,rfl,rfl,rfl,rfl,rfl,rfl,rfl,rfl,rfl,rfl,rfl⟩,?_⟩;rintro q o58 o59 l60 l61 l62 l63 o64 l65 l66 l67 l68 x69 l70 x71 ⟨j,hj,rfl,rfl,rfl,rfl,rfl,rfl,rfl,rfl,rfl,rfl,rfl⟩;refine⟨_,rfl,_,⟨bq hx',rfl⟩,_,rfl,_,rfl,_,rfl,aa (fun h5=>?_) (fun h5=>?_)⟩
  ·rw [qql] at h5;replace h5:=b9 h5;have hy:l[j]?=some l[j]:=qqa h5;have hy':(l.map BX)[j]?=some (BX l[j]):=by rw [qqe,hy];rfl
   have ht2:=gU (f:=BX) hy;generalize l[j]=m at hy' ht2;have hlt:((l.take j).map BX).length<=4194304:=by rw [qql,qqn];omega
   exact⟨_,rfl,_,⟨bq hx',rfl⟩,_,rfl,_,⟨bq hy',rfl⟩,_,rfl,_,rfl,_,⟨bq hx',rfl⟩,_,rfl,_,⟨bq hy',rfl⟩,_,rfl,_,rfl,_,rfl,rfl,rfl,_,rfl,rfl,_,lT,_,bn h5 (by omega),_,by omega,j+1,by omega,rfl,rfl,rfl,rfl,rfl,rfl,rfl,rfl,rfl,ht2,rfl⟩
  ·rw [qql] at h5;have:=dy hj h5;subst this;rw [qqt];exact⟨rfl,rfl,rfl,_,rfl,rfl,_,app_1 hz.fe,_,rfl,_,bn h (by have:=hz.fe;omega),_,by omega,k+1,by omega,rfl,rfl,rfl,rfl,rfl,rfl,ht,rfl,rfl⟩
 rw [qql] at h;have:=dy hk h;subst this;rw [qqt];exact⟨_,rfl,_,rfl,trivial,_,rfl,_,rfl,_,rfl,_,rfl,_,rfl,trivial,rfl⟩
theorem s33 (c:Cf) (hz:Pu c):VS prog 33 [jw c] (fun r=>r=jw c):=by
 refine vs33 _ _ ?_;unfold W33;refine⟨rfl,_,rfl,cy (s56 _ hz.pos) ⟨_,rfl,cy (s56 _ hz.states) ⟨_,rfl,_,rfl,_,rfl,_,rfl,_,rfl,?_⟩⟩⟩;refine⟨fun q o13 o14 l15 l16 l17 l18 o19 l20 l21 x22 x23 x24=>∃k:Nat,k<=c.vars.length/\q=c.vars.length - k/\o13=jw c/\o14=Lr/\o19=.a [.l (c.pos.map ii),.l [],.l [],.l (c.states.map ii)]/\l20=(c.vars.take k).map lg/\l21=[]/\x22=.l (c.vars.map lg)/\x23=ii ((c.vars.map lg).length:Nat)/\x24=ii k,⟨_,0,qqS _,rfl,rfl,rfl,rfl,rfl,rfl,rfl,rfl,rfl⟩,?_⟩;rintro q o13 o14 l15 l16 l17 l18 o19 l20 l21 x22 x23 x24 ⟨k,hk,rfl,rfl,rfl,rfl,rfl,rfl,rfl,rfl,rfl⟩;refine⟨_,rfl,aa (fun h=>?_) (fun h=>?_)⟩
 ·rw [qql] at h;replace h:=b9 h;have hx:c.vars[k]?=some c.vars[k]:=qqa h;have hx':(c.vars.map lg)[k]?=some (lg c.vars[k]):=by rw [qqe,hx];rfl
  have hl:=hz.var _ (qqj h);have ht:=gU (f:=lg) hx;generalize c.vars[k]=l at hx' hl ht;exact⟨_,⟨bq hx',rfl⟩,_,rfl,cy (s56 l hl) ⟨rfl,rfl,_,rfl,rfl,_,app_1 hz.vars,_,rfl,_,bn h (by have:=hz.vars;omega),_,by omega,k+1,by omega,rfl,rfl,rfl,rfl,ht,rfl,rfl,rfl,rfl⟩⟩
 rw [qql] at h;have:=dy hk h;subst this;rw [qqt];refine⟨_,rfl,_,rfl,?_⟩;refine⟨fun q o38 l39 l40 l41 l42 o43 l44 l45 x46 x47 x48=>∃k:Nat,k<=c.fe.length/\q=c.fe.length - k/\o38=Lr/\o43=.a [.l (c.pos.map ii),.l [],.l [],.l (c.states.map ii)]/\l44=c.vars.map lg/\l45=(c.fe.take k).map Ac/\x46=.l (c.fe.map Ac)/\x47=ii ((c.fe.map Ac).length:Nat)/\x48=ii k,⟨_,0,qqS _,rfl,rfl,rfl,rfl,rfl,rfl,rfl,rfl⟩,?_⟩;clear h hk;rintro q o38 l39 l40 l41 l42 o43 l44 l45 x46 x47 x48 ⟨k,hk,rfl,rfl,rfl,rfl,rfl,rfl,rfl,rfl⟩;refine⟨_,rfl,aa (fun h=>?_) (fun h=>?_)⟩
 ·rw [qql] at h;replace h:=b9 h;have hx:c.fe[k]?=some c.fe[k]:=qqa h;have hx':(c.fe.map Ac)[k]?=some (Ac c.fe[k]):=by rw [qqe,hx];rfl
  have hl:=hz.queue _ (qqj h);have ht:=gU (f:=Ac) hx;generalize c.fe[k]=l at hx' hl ht;exact⟨_,⟨bq hx',rfl⟩,_,rfl,cy (s57 l hl) ⟨rfl,rfl,_,rfl,rfl,_,app_1 hz.fe,_,rfl,_,bn h (by have:=hz.fe;omega),_,by omega,k+1,by omega,rfl,rfl,rfl,rfl,ht,rfl,rfl,rfl⟩⟩
 rw [qql] at h;have:=dy hk h;subst this;rw [qqt];exact⟨_,rfl,_,rfl,trivial,_,rfl,_,rfl,_,rfl,trivial,rfl⟩
theorem VG {hs:List Int} {j:Nat} (h:j < hs.length):∃a,hs[j]?=some a/\(hs.map ii)[j]?=some (ii a):=
 ⟨_,qqa h,by rw [qqe,qqa h];rfl⟩
theorem C1 (a:Int):bf .neq (ii a) (ii a)=some (.b false):=by rw [HC,bp,qqI rfl];rfl
theorem eqM (m:Int×Int):Tk (.agg [.int,.int]) true (BX m) (BX m)=some (.b false):=by show some (TV.b (!(nk m.1 m.1&&(nk m.2 m.2&&true))))=_;rw [bp,bp,qqI rfl,qqI rfl];rfl
theorem s28t (c:Cf) (hz:Pu c):VS prog 28 [jw c,jw c] (fun r=>r=.b true):=by
 refine vs28 _ _ _ ?_;unfold W28;refine⟨rfl,rfl,_,rfl,_,rfl,_,rfl,_,rfl,_,C1 _,rfl,bg rfl rfl (bg rfl rfl ⟨rfl,bg rfl rfl (bg rfl rfl (bg rfl (C1 _) ⟨_,rfl,?_⟩))⟩)⟩;refine⟨rfl,bg rfl rfl (bg rfl rfl ⟨rfl,bg rfl rfl (bg rfl rfl (bg rfl (C1 _) ⟨_,rfl,?_⟩))⟩)⟩;refine⟨rfl,bg rfl rfl (bg rfl rfl ⟨rfl,bg rfl rfl (bg rfl rfl (bg rfl (C1 _) ⟨_,rfl,a_ rfl ?_⟩))⟩)⟩;refine⟨fun q o27 o28 x29=>∃k:Nat,k<=c.pos.length/\q=c.pos.length - k/\o27=jw c/\o28=jw c/\x29=ii k,⟨_,0,qqS _,rfl,rfl,rfl,rfl⟩,?_⟩;rintro q o27 o28 x29 ⟨k,hk,rfl,rfl,rfl,rfl⟩;refine⟨_,rfl,_,rfl,_,rfl,aa (fun h=>?_) (fun h=>?_)⟩
 ·rw [qql] at h;replace h:=b9 h;obtain⟨a,_,ha⟩:=VG h;exact⟨_,rfl,_,⟨bq ha,rfl⟩,_,rfl,_,rfl,_,⟨bq ha,rfl⟩,_,rfl,_,C1 _,a_ rfl ⟨_,bn h (by have:=hz.pos;omega),_,by omega,k+1,by omega,rfl,rfl,rfl,rfl⟩⟩
 clear h hk;refine⟨fun q o44 o45 x46=>∃k:Nat,k<=c.vars.length/\q=c.vars.length - k/\o44=jw c/\o45=jw c/\x46=ii k,⟨_,0,qqS _,rfl,rfl,rfl,rfl⟩,?_⟩;rintro q o44 o45 x46 ⟨k,hk,rfl,rfl,rfl,rfl⟩;refine⟨_,rfl,_,rfl,_,rfl,aa (fun h=>?_) (fun h=>?_)⟩
 ·rw [qql] at h;replace h:=b9 h;have hx':(c.vars.map lg)[k]?=some (lg c.vars[k]):=by rw [qqe,qqa h];rfl
  have hl:=hz.var _ (qqj h);generalize c.vars[k]=l at hx' hl;refine⟨_,rfl,_,⟨bq hx',rfl⟩,_,rfl,_,rfl,_,rfl,_,⟨bq hx',rfl⟩,_,rfl,_,rfl,_,C1 _,a_ rfl ?_⟩;refine⟨fun q o62 o63 x64 x65=>∃j:Nat,j<=l.length/\q=l.length - j/\o62=jw c/\o63=jw c/\x64=ii k/\x65=ii j,⟨_,0,qqS _,rfl,rfl,rfl,rfl,rfl⟩,?_⟩;rintro q o62 o63 x64 x65 ⟨j,hj,rfl,rfl,rfl,rfl,rfl⟩;refine⟨_,rfl,_,⟨bq hx',rfl⟩,_,rfl,_,rfl,_,rfl,aa (fun h5=>?_) (fun h5=>?_)⟩
  ·rw [qql] at h5;replace h5:=b9 h5;obtain⟨a,_,ha⟩:=VG h5;exact⟨_,rfl,_,⟨bq hx',rfl⟩,_,rfl,_,⟨bq ha,rfl⟩,_,rfl,_,rfl,_,⟨bq hx',rfl⟩,_,rfl,_,⟨bq ha,rfl⟩,_,rfl,_,C1 _,a_ rfl ⟨_,bn h5 (by omega),_,by omega,j+1,by omega,rfl,rfl,rfl,rfl,rfl⟩⟩
  ·exact⟨_,bn h (by have:=hz.vars;omega),_,by omega,k+1,by omega,rfl,rfl,rfl,rfl⟩
 clear h hk;refine⟨fun q o87 o88 x89=>∃k:Nat,k<=c.fe.length/\q=c.fe.length - k/\o87=jw c/\o88=jw c/\x89=ii k,⟨_,0,qqS _,rfl,rfl,rfl,rfl⟩,?_⟩;rintro q o87 o88 x89 ⟨k,hk,rfl,rfl,rfl,rfl⟩;refine⟨_,rfl,_,rfl,_,rfl,aa (fun h=>?_) (fun h=>?_)⟩
 ·rw [qql] at h;replace h:=b9 h;have hx':(c.fe.map Ac)[k]?=some (Ac c.fe[k]):=by rw [qqe,qqa h];rfl
  have hl:=hz.queue _ (qqj h);generalize c.fe[k]=l at hx' hl;refine⟨_,rfl,_,⟨bq hx',rfl⟩,_,rfl,_,rfl,_,rfl,_,⟨bq hx',rfl⟩,_,rfl,_,rfl,_,C1 _,a_ rfl ?_⟩;refine⟨fun q qQS qQR qym qyl=>∃j:Nat,j<=l.length/\q=l.length - j/\qQS=jw c/\qQR=jw c/\qym=ii k/\qyl=ii j,⟨_,0,qqS _,rfl,rfl,rfl,rfl,rfl⟩,?_⟩;rintro q qQS qQR qym qyl ⟨j,hj,rfl,rfl,rfl,rfl,rfl⟩;refine⟨_,rfl,_,⟨bq hx',rfl⟩,_,rfl,_,rfl,_,rfl,aa (fun h5=>?_) (fun h5=>?_)⟩
  ·rw [qql] at h5;replace h5:=b9 h5;have hy':(l.map BX)[j]?=some (BX l[j]):=by rw [qqe,qqa h5];rfl
   generalize l[j]=m at hy';exact⟨_,rfl,_,⟨bq hx',rfl⟩,_,rfl,_,⟨bq hy',rfl⟩,_,rfl,_,rfl,_,⟨bq hx',rfl⟩,_,rfl,_,⟨bq hy',rfl⟩,_,rfl,_,eqM m,a_ rfl ⟨_,bn h5 (by omega),_,by omega,j+1,by omega,rfl,rfl,rfl,rfl,rfl⟩⟩
  ·exact⟨_,bn h (by have:=hz.fe;omega),_,by omega,k+1,by omega,rfl,rfl,rfl,rfl⟩
 clear h hk;refine⟨fun q qQO qQN qyh=>∃k:Nat,k<=c.states.length/\q=c.states.length - k/\qQO=jw c/\qQN=jw c/\qyh=ii k,⟨_,0,qqS _,rfl,rfl,rfl,rfl⟩,?_⟩;rintro q qQO qQN qyh ⟨k,hk,rfl,rfl,rfl,rfl⟩;refine⟨_,rfl,_,rfl,_,rfl,aa (fun h=>?_) (fun h=>?_)⟩
 ·rw [qql] at h;replace h:=b9 h;obtain⟨a,_,ha⟩:=VG h;exact⟨_,rfl,_,⟨bq ha,rfl⟩,_,rfl,_,rfl,_,⟨bq ha,rfl⟩,_,rfl,_,C1 _,a_ rfl ⟨_,bn h (by have:=hz.states;omega),_,by omega,k+1,by omega,rfl,rfl,rfl,rfl⟩⟩
 ·exact⟨trivial,trivial,rfl⟩
end Go.Ax.dg
set_option maxRecDepth 100000
namespace Go.Ax.dg
open Go Go.Ax Go.Ax.V Go.Ax.Ft
theorem vi {j n:Nat} (h:j < n):jm (ii j) n=some j:=by show Se (j:Int) n=some j;have hb:Nat.blt j n=true:=Nat.ble_eq_true_of_le h;show (bif Nat.blt j n then some j else none)=some j;rw [hb];rfl
theorem QS {es:List TV} {j:Nat} {a:Int} (h:es[j]?=some (ii a)):zb es j 0 none=some (ii a):=by unfold zb;rw [h];rfl
theorem PI {es:List TV} {j:Nat} {a b:Int} (h:es[j]?=some (ii a)):jn es j 0 1 (ii b)=some (es.set j (ii b)):=by unfold jn;rw [h];rfl
theorem Uc {j:Nat} (h:j+1<=4611686018427387904):bf .sub (ii ((j+1:Nat):Int)) (ii 1)=some (ii (j:Int)):=by have:=rz (a:=((j+1:Nat):Int)) (b:=1);rw [this,show ((j+1:Nat):Int) - 1=(j:Int) by omega]
theorem ZI (j:Nat):bf .gtr (ii ((j+1:Nat):Int)) (ii 0)=some (.b true):=by show some (TV.b (n8 0 ((j+1:Nat):Int)))=_;rw [c_,qqI (by omega)]
theorem RT {hs:List Int} {j:Nat} (h:j < hs.length):∃a,hs[j]?=some a/\(hs.map ii)[j]?=some (ii a):=
 ⟨_,qqa h,by rw [qqe,qqa h];rfl⟩
def Pw (hs:List Int) (j:Nat) (a b:Int):List Int:=(hs.set j b).set (j+1) a
theorem Pv (hs:List Int) (j:Nat) (a b:Int):((hs.map ii).set j (ii b)).set (j+1) (ii a)=(Pw hs j a b).map ii:=by simp [Pw,List.map_set]
end Go.Ax.dg
set_option maxRecDepth 100000
namespace Go.Ax.dg
open Go Go.Ax Go.Ax.V Go.Ax.Ft
def Q0 (r:TV):Prop:=∃b,r=.b b
theorem Ul {f:Nat} {ts:List TV} {K:TV->Prop} (h:VS prog f ts Q0) (hk:∀b,K (.b b)):VS prog f ts (fun r=>lB true r/\K r):=rq h fun r ⟨b,hb⟩=>by subst hb;exact⟨trivial,hk b⟩
theorem QN (n:Int):∃b,VS prog 156 [.i .u8 n] (fun r=>r=.b b):=by apply Exists.intro;refine Xx _ _ ?_;unfold W156;exact⟨_,rfl,gB _ (fun h=>rfl) (gB _ (fun h=>by rw [h];rfl) (E9 ⟨trivial,trivial,rfl⟩))⟩
theorem RD (n:Int):∃b,VS prog 157 [.i .u8 n] (fun r=>r=.b b):=by apply Exists.intro;refine Xw _ _ ?_;unfold W157;exact⟨_,rfl,gB _ (fun h=>rfl) (gB _ (fun h=>by rw [h];rfl) (E9 ⟨trivial,trivial,rfl⟩))⟩
theorem Uo (n:Int):∃b,VS prog 160 [ii n] (fun r=>r=.b b):=by apply Exists.intro;refine Xt _ _ ?_;unfold W160;exact⟨_,rfl,gB _ (fun h=>rfl) (gB _ (fun h=>by rw [h];rfl) (E9 ⟨trivial,trivial,rfl⟩))⟩
def IS (n:Int):Bool:=Classical.choose (QN n)
theorem UJ (n:Int):VS prog 156 [.i .u8 n] (fun r=>r=.b (IS n)):=Classical.choose_spec (QN n)
def I_ (n:Int):Bool:=Classical.choose (RD n)
theorem SI (n:Int):VS prog 157 [.i .u8 n] (fun r=>r=.b (I_ n)):=Classical.choose_spec (RD n)
theorem s93 (n:Int):VS prog 93 [ii n] (fun r=>r=.b (decide (0<=n/\n<=2147483647))):=by refine vs93 _ _ ?_;unfold W93;refine⟨_,EE _ _,gB _ (fun h=>rfl) (gB _ (fun h=>by rw [h];exact Np _ _) (E9 ⟨trivial,trivial,?_⟩))⟩;simp only [c_,ny];congr 1;by_cases h1:0<=n<;>by_cases h2:n<=2147483647<;>simp [h1,h2]
def strs (l:List ByteArray):List TV:=l.map TV.s
theorem o_ (l:List ByteArray):(strs l).length=l.length:=qql _
theorem JI {l:List ByteArray} {i:Nat} (h:i < l.length):(strs l)[i]?=some (.s l[i]):=by simp [strs,h]
theorem LQ (l:List ByteArray) (x:ByteArray) (hl:l.length<=4194304):VS prog 69 [.l (strs l),.s x] (fun r=>∃n:Int,r=ii n/\-1<=n/\n < l.length):=by
 refine vs69 _ _ _ ?_;unfold W69;refine⟨fun n a b i=>∃k:Nat,k<=l.length/\n=l.length - k/\a=.l (strs l)/\b=.s x/\i=ii k,⟨_,0,qqS _,rfl,rfl,rfl,rfl⟩,?_⟩;rintro n x4 x5 x6 ⟨k,hk,rfl,rfl,rfl,rfl⟩;refine⟨_,rfl,_,rfl,aa (fun h=>?_) (fun h=>?_)⟩
 ·rw [o_] at h;replace h:=b9 h;refine⟨_,⟨bq (JI h),rfl⟩,_,rfl,_,rfl,aa (fun h2=>?_) (fun h2=>?_)⟩
  ·exact⟨trivial,trivial,_,rfl,by omega,by omega⟩
  ·exact⟨_,bn h (by omega),_,by omega,k+1,by omega,rfl,rfl,rfl,rfl⟩
 ·exact⟨trivial,trivial,_,rfl,by omega,by omega⟩
theorem Lf {k n:Nat} (hk:k<=n):Si (k:Int) n=some k:=by show (bif Nat.ble k n then some k else none)=some k;rw [Nat.ble_eq_true_of_le hk];rfl
theorem PC {es:List TV} {k:Nat} (hk:k<=es.length):TU (.l es) none (some (ii k))=some (.l (es.take k)):=by show (match Le none (some (ii k)) es.length with|some (l,h)=>some (TV.l ((es.drop l).take (h - l)))|none=>none)=_;unfold Le EK;simp only [Lf hk];rfl
theorem EW {x:ByteArray} {a b:Nat} (h1:a<=b) (h2:b<=x.size):AD (.s x) (some (ii a)) (some (ii b))=some (.s (x.extract a b)):=by show (match Le (some (ii a)) (some (ii b)) x.size with|some (l,h)=>some (TV.s (x.extract l h))|none=>none)=_;unfold Le EK;simp only [Lf h2,Lf h1]
theorem DY {x:ByteArray} {j:Nat} (h:j < x.size):vj (.s x) (ii j)=some (.i .u8 (x[j].toNat:Int)):=by show (match x[j]? with|some b=>some (TV.i .u8 (b.toNat:Int))|none=>none)=_;rw [getElem?_pos x j h]
theorem R4 {a b:Nat} (h:a+b < 9223372036854775808):bf .add (ii a) (ii b)=some (ii ((a+b:Nat):Int)):=by rw [Lk (by omega) (by omega)];rfl
theorem s70 (l:List ByteArray) (hl:l.length<=4194304):VS prog 70 [.l (strs l)] Q0:=by
 refine vs70 _ _ ?_;unfold W70;refine⟨fun n a i=>∃k:Nat,k<=l.length/\n=l.length - k/\a=.l (strs l)/\i=ii k,⟨_,0,qqS _,rfl,rfl,rfl⟩,?_⟩;rintro n x4 x6 ⟨k,hk,rfl,rfl,rfl⟩;refine⟨_,rfl,_,rfl,aa (fun h=>?_) (fun h=>?_)⟩
 ·rw [o_] at h;replace h:=b9 h;have hs:TU (.l (strs l)) none (some (ii k))=some (.l (strs (l.take k))):=by rw [PC (by rw [o_];omega)];simp [strs,List.map_take]
  refine⟨_,⟨hs,fun es he=>?_⟩,_,⟨bq (JI h),rfl⟩,_,rfl,rq (LQ (l.take k) l[k] (by simp;omega)) ?_⟩
  ·cases he;cases l with
   |nil=>simp at h
   |cons y l=>rfl
  rintro r ⟨m,rfl,_,_⟩;refine⟨trivial,_,rfl,aa (fun h2=>?_) (fun h2=>?_)⟩
  ·exact⟨trivial,trivial,_,rfl⟩
  ·exact⟨_,bn h (by omega),_,by omega,k+1,by omega,rfl,rfl,rfl⟩
 ·exact⟨trivial,trivial,_,rfl⟩
def isS:TV->Bool
 |.s _=>true
 |_=>false
theorem Nt {es:List TV} {k:Nat} (h:es.all isS=true) (hk:k < es.length):∃y,es[k]?=some (.s y):=by
 have:=qqA.1 h _ (qqj hk);rw [qqa hk];cases he:es[k] with
 |s y=>exact⟨y,rfl⟩
 |_=>rw [he] at this;cases this
theorem s168:VS prog 168 [] (fun r=>∃es,r=.l es/\es.length=16/\es.all isS=true):=by
 refine Xn _ ?_;unfold Z_
 repeat (first|refine⟨rfl,?_⟩|refine⟨trivial,?_⟩)
 exact⟨_,rfl,rfl,rfl⟩
theorem s158 (x:ByteArray):VS prog 158 [.s x] Q0:=by
 refine Xv _ _ ?_;unfold W158;refine rq s168 ?_;rintro r ⟨es,rfl,hl,hs⟩;refine⟨trivial,fun n a b i=>∃k:Nat,k<=es.length/\n=es.length - k/\a=.s x/\b=.l es/\i=ii k,⟨_,0,qqS _,rfl,rfl,rfl,rfl⟩,?_⟩;rintro n x4 x5 x6 ⟨k,hk,rfl,rfl,rfl,rfl⟩;refine⟨_,rfl,_,rfl,aa (fun h=>?_) (fun h=>?_)⟩
 ·replace h:=b9 h;obtain⟨y,hy⟩:=Nt hs h;refine⟨_,⟨bq hy,rfl⟩,_,rfl,_,rfl,aa (fun h2=>?_) (fun h2=>?_)⟩
  ·exact⟨trivial,trivial,_,rfl⟩
  ·exact⟨_,bn h (by omega),_,by omega,k+1,by omega,rfl,rfl,rfl,rfl⟩
 ·exact⟨trivial,trivial,_,rfl⟩
theorem s159 (x:ByteArray) (k:Nat) (hk:k < x.size) (hx:x.size<=4194304):VS prog 159 [.s x,ii k] (fun r=>∃n:Nat,r=ii n/\k+n<=x.size):=by
 refine Xu _ _ _ ?_;unfold W159
 repeat refine⟨rfl,?_⟩
 generalize he:[TV.s ⟨#[61,61]⟩,TV.s ⟨#[33,61]⟩,TV.s ⟨#[60,61]⟩,TV.s ⟨#[62,61]⟩]=es;have hs:es.all isS=true:=by subst he;rfl
 have hl:es.length=4:=by subst he;rfl
 refine⟨fun n a b c i=>∃j:Nat,j<=4/\n=4 - j/\a=.s x/\b=ii k/\c=.l es/\i=ii j,⟨_,0,by omega,rfl,rfl,rfl,rfl,rfl⟩,?_⟩;rintro n x4 x5 x6 x7 ⟨j,hj,rfl,rfl,rfl,rfl,rfl⟩;refine⟨_,rfl,aa (fun h=>?_) (fun h=>?_)⟩
 ·replace h:j < 4:=b9 (n:=4) h;obtain⟨y,hy⟩:=Nt hs (k:=j) (by omega);refine⟨_,R4 (b:=2) (by omega),_,rfl,.b (decide ((((k+2:Nat):Int))<=x.size)),?_,?_⟩
  ·rw [Np,c_,ny]
  cases hd:decide ((((k+2:Nat):Int))<=(x.size:Int)) with
  |true=>
   have hd':k+2<=x.size:=by have:=of_decide_eq_true hd;omega
   refine bg rfl rfl (bg rfl rfl (bg rfl rfl (bg rfl (R4 (b:=2) (by omega)) (bg rfl (EW (by omega) hd') (bg rfl rfl (bg rfl rfl (bg rfl ⟨bq hy,rfl⟩ ⟨rfl,bg rfl rfl (bg rfl rfl ⟨_,rfl,aa (fun h2=>?_) (fun h2=>?_)⟩)⟩)))))))
   ·exact⟨trivial,trivial,2,rfl,hd'⟩
   ·exact⟨_,bn (n:=4) h (by omega),_,by omega,j+1,by omega,rfl,rfl,rfl,rfl,rfl⟩
  |false=>refine cr rfl (cr rfl (cr rfl (cr rfl (cr rfl (cr rfl (cr rfl (cr rfl ⟨rfl,cr rfl (cr rfl ⟨_,rfl,a_ rfl ?_⟩)⟩)))))));exact⟨_,bn (n:=4) h (by omega),_,by omega,j+1,by omega,rfl,rfl,rfl,rfl,rfl⟩
 ·have hz:∃z:ByteArray,W5=.s z/\z.size<=100:=⟨_,rfl,by decide⟩;obtain⟨z,hz,hz2⟩:=hz;rw [hz];refine⟨fun n a b c i=>∃j:Nat,j<=z.size/\n=z.size - j/\a=.s x/\b=ii k/\c=.s z/\i=ii j,⟨_,0,by omega,rfl,rfl,rfl,rfl,rfl⟩,?_⟩;rintro n x4 x5 x6 x7 ⟨j,hj,rfl,rfl,rfl,rfl,rfl⟩;refine⟨_,rfl,_,rfl,aa (fun h=>?_) (fun h=>?_)⟩
  ·replace h:=b9 h;refine⟨_,DY h,_,DY hk,_,rfl,aa (fun h2=>?_) (fun h2=>?_)⟩
   ·exact⟨trivial,trivial,1,rfl,by omega⟩
   ·exact⟨_,bn h (by omega),_,by omega,j+1,by omega,rfl,rfl,rfl,rfl,rfl⟩
  ·exact⟨trivial,trivial,0,rfl,by omega⟩
end Go.Ax.dg
set_option maxRecDepth 100000
namespace Go.Ax.dg
open Go Go.Ax Go.Ax.V Go.Ax.Ft
theorem Gl (e:Ed):gY (dw e) 0 (some 19)=some (dw e):=by obtain⟨_,_,_,_,_,_,e,c⟩:=e;cases e;cases c with|mk op l r=>cases l;cases r;rfl
theorem I8 (e:Ed):aq Jo 0 19 (dw e)=some (dw e):=by obtain⟨_,_,_,_,_,_,e,c⟩:=e;cases e;cases c with|mk op l r=>cases l;cases r;rfl
theorem MI (e:Ed):fy (ct (dw e) 0)=some (ii e.src):=by obtain⟨_,_,_,_,_,_,e,c⟩:=e;cases e;cases c with|mk op l r=>cases l;cases r;rfl
theorem ZY (e:Ed):gY (dw e) 1 none=some (ii e.dst):=by obtain⟨_,_,_,_,_,_,e,c⟩:=e;cases e;cases c with|mk op l r=>cases l;cases r;rfl
def GU (es:List Ed) (n:Int):Nat->List TV
 |0=>[]
 |k+1=>GU es n k++(match es[k]? with|some e=>(bif nk e.src n then [ii k] else [])|none=>[])
theorem CY (es:List Ed) (n:Int):∀k,(GU es n k).length<=k
 |0=>qqT _
 |k+1=>by
  have:=CY es n k;simp only [GU,qqm];split
  ·cases nk _ n<;>simp<;>omega
  ·simp;omega
theorem s50 (g:Gr) (n:Int) (hl:g.bh.length<=4194304):VS prog 50 [gK g,ii n] (fun r=>r=.l (GU g.bh n g.bh.length)):=by
 refine vs50 _ _ _ ?_;unfold W50;refine⟨rfl,_,rfl,_,rfl,?_⟩;rw [qql];refine⟨fun m a l b c i=>∃k:Nat,k<=g.bh.length/\m=g.bh.length - k/\a=ii n/\l=GU g.bh n k/\b=.l (g.bh.map dw)/\c=ii g.bh.length/\i=ii k,⟨_,0,qqS _,rfl,rfl,rfl,rfl,rfl,rfl⟩,?_⟩;rintro m x6 l7 x8 x9 x10 ⟨k,hk,rfl,rfl,rfl,rfl,rfl,rfl⟩;refine⟨_,rfl,aa (fun h=>?_) (fun h=>?_)⟩
 ·have hkl:=b9 h;have hx:g.bh[k]?=some g.bh[k]:=qqa hkl;have hx':(g.bh.map dw)[k]?=some (dw g.bh[k]):=by rw [qqe,hx];rfl
  have hol:=CY g.bh n k;have hst:∀(b:Bool),nk g.bh[k].src n=b->GU g.bh n (k+1)=GU g.bh n k++(bif b then [ii k] else []):=fun b hb=>by simp only [GU,hx,hb]
  generalize g.bh[k]=e at *;refine⟨_,⟨bq hx',qf e⟩,_,Gl e,_,I8 e,_,MI e,_,rfl,aa (fun h2=>?_) (fun h2=>?_)⟩
  ·exact⟨rfl,rfl,_,rfl,rfl,_,n_ (by simp only [qqq,most];omega) (by simp only [qqq,most];omega),_,bn hkl (by omega),_,by omega,k+1,by omega,rfl,rfl,(hst true h2).symm,rfl,rfl,rfl⟩
  ·exact⟨_,bn hkl (by omega),_,by omega,k+1,by omega,rfl,rfl,by rw [hst false h2];simp,rfl,rfl,rfl⟩
 ·have:=dy hk h;subst this;exact⟨trivial,trivial,rfl⟩
end Go.Ax.dg
set_option maxRecDepth 100000
namespace Go.Ax.dg
open Go Go.Ax Go.Ax.V Go.Ax.Ft
theorem s165 (hs:List Int) (n:Int) (hl:hs.length<=4194304):VS prog 165 [.l (hs.map ii),ii n] (fun r=>∃m:Int,r=ii m/\(0<=m↔n∈hs)):=by
 refine Xp _ _ _ ?_;unfold W165;refine⟨_,rfl,fun q x5 x6 x7 x8=>∃k:Nat,k<=hs.length/\q=hs.length - k/\x5=.l (hs.map ii)/\x6=ii n/\x7=ii ((hs.map ii).length:Nat)/\x8=ii k/\n ∉ hs.take k,⟨_,0,qqS _,rfl,rfl,rfl,rfl,rfl,by simp⟩,?_⟩;rintro q x5 x6 x7 x8 ⟨k,hk,rfl,rfl,rfl,rfl,rfl,hn⟩;refine⟨_,rfl,aa (fun h=>?_) (fun h=>?_)⟩
 ·rw [qql] at h;replace h:=b9 h;have hx:hs[k]?=some hs[k]:=qqa h;have hg:(hs.map ii)[k]?=some (ii hs[k]):=by rw [qqe,hx];rfl
  refine⟨_,⟨bq hg,rfl⟩,_,rfl,_,rfl,aa (fun h2=>?_) (fun h2=>?_)⟩
  ·rw [bp,qqH] at h2;exact⟨trivial,trivial,_,rfl,⟨fun _=>by rw [h2];exact qqj h,fun _=>by omega⟩⟩
  ·rw [bp,qqJ] at h2;refine⟨_,bn h (by omega),_,by omega,k+1,by omega,rfl,rfl,rfl,rfl,rfl,?_⟩;rw [←jo hx,qqx,qqy];exact fun hc=>hc.elim hn h2
 ·rw [qql] at h;have:=dy hk h;subst this;rw [qqt] at hn;exact⟨trivial,trivial,-1,rfl,⟨fun hc=>by omega,fun hc=>absurd hc hn⟩⟩
theorem Y9 (hs:List Int) (n:Int) (hl:hs.length<=4194304):VS prog 140 [.l (hs.map ii),ii n] (fun r=>r=.b (hs.contains n)):=by
 refine XH _ _ _ ?_;unfold W140;refine rq (s165 hs n hl) ?_;rintro r ⟨m,rfl,hm⟩;refine⟨trivial,_,EE _ _,trivial,trivial,?_⟩;rw [c_,ny];congr 1;by_cases h:n∈hs
 ·rw [qqI (hm.2 h)];simpa using h
 ·rw [qqK (mt hm.1 h)];simpa using h
theorem s99 (g:Gr) (hl:g.heads.length<=4194304) (hr:∀h∈g.heads,0<=h/\h < g.nodes) (hp:g.heads.Pairwise (·< ·)):VS prog 99 [gK g] (fun r=>r=.b true):=by
 refine vs99 _ _ ?_;unfold W99;refine⟨rfl,_,rfl,_,rfl,fun q o6 x7 x8 x9=>∃k:Nat,k<=g.heads.length/\q=g.heads.length - k/\o6=gK g/\x7=.l (g.heads.map ii)/\x8=ii ((g.heads.map ii).length:Nat)/\x9=ii k,⟨_,0,qqS _,rfl,rfl,rfl,rfl,rfl⟩,?_⟩;rintro q o6 x7 x8 x9 ⟨k,hk,rfl,rfl,rfl,rfl,rfl⟩;refine⟨_,rfl,aa (fun h=>?_) (fun h=>?_)⟩
 ·rw [qql] at h;replace h:=b9 h;obtain⟨a,ha,ha'⟩:=RT h;obtain⟨h0,h1⟩:=hr a (qqi ha);have e1:n8 a 0=false:=by rw [c_,qqJ];omega
  have e2:n8 a g.nodes=true:=by rw [c_,qqH];exact h1
  have b1:bf .lss (ii a) (TV.i .i64 0)=some (.b false):=by show some (TV.b (n8 a 0))=_;rw [e1]
  have b2:bf .geq (ii a) (ii g.nodes)=some (.b false):=by rw [EE,e2];rfl
  have nx:=bn h (by omega);refine⟨_,⟨bq ha',rfl⟩,_,rfl,.b false,b1,bg rfl rfl ⟨rfl,bg rfl rfl (bg rfl b2 ⟨_,rfl,bg rfl rfl ?_⟩)⟩⟩;cases k with
  |zero=>refine bg (v:=.b false) rfl rfl (bg rfl rfl ⟨rfl,cr rfl (cr rfl (cr rfl (cr rfl ⟨rfl,cr rfl (cr rfl (cr rfl (bg (v:=.b false) rfl rfl ⟨_,rfl,a_ rfl ?_⟩)))⟩)))⟩);exact⟨_,nx,_,by omega,1,by omega,rfl,rfl,rfl,rfl,rfl⟩
  |succ k=>
   obtain⟨b,hb,hb'⟩:=RT (hs:=g.heads) (j:=k) (by omega);have hlt:b < a:=by obtain⟨i1,q1⟩:=qqb.1 hb;obtain⟨i2,q2⟩:=qqb.1 ha;have:=List.pairwise_iff_getElem.1 hp k (k+1) i1 i2 (by omega);rw [q1,q2] at this;exact this
   have b3:bf .geq (ii b) (ii a)=some (.b false):=by rw [EE,show n8 b a=true by rw [c_,qqH];exact hlt];rfl
   refine bg rfl (ZI k) (bg rfl rfl ⟨rfl,bg rfl rfl (bg rfl rfl (bg rfl (Uc (by omega)) (bg rfl ⟨bq hb',rfl⟩ ⟨rfl,bg rfl rfl (bg rfl rfl (bg rfl b3 (bg (v:=.b false) rfl rfl ⟨_,rfl,a_ rfl ?_⟩)))⟩)))⟩);exact⟨_,nx,_,by omega,k+1+1,by omega,rfl,rfl,rfl,rfl,rfl⟩
 ·exact⟨trivial,trivial,rfl⟩
theorem Rl (e:Ex):aq Jn 0 4 (j9 e)=some (j9 e):=by cases e;rfl
theorem T_ (e:Ex):gY (j9 e) 0 (some 4)=some (j9 e):=by cases e;rfl
theorem Rk (e:Ex):ax (j9 e) 0 4=some (j9 e):=by cases e;rfl
theorem s169 (ks:List Ex) (hl:ks.length<=4194304) (ih:∀e∈ks,VS prog 164 [j9 e,j9 e] (fun r=>r=.b true)):VS prog 169 [.l (kg ks),.l (kg ks),.f 164] (fun r=>r=.b true):=by
 have hln:(kg ks).length=ks.length:=by rw [lp,qql]
 refine Xm _ _ _ _ ?_;unfold Z9;refine⟨_,rfl,_,rfl,.b false,by show some (TV.b (!nk _ _))=_;rw [bp,qqI rfl];rfl,a_ rfl ?_⟩;refine⟨_,rfl,fun q x8 x9 x10 x11 x12=>∃k:Nat,k<=ks.length/\q=ks.length - k/\x8=.l (kg ks)/\x9=.f 164/\x10=.l (kg ks)/\x11=ii ((kg ks).length:Nat)/\x12=ii k,⟨_,0,qqS _,rfl,rfl,rfl,rfl,rfl,rfl⟩,?_⟩;rintro q x8 x9 x10 x11 x12 ⟨k,hk,rfl,rfl,rfl,rfl,rfl,rfl⟩;refine⟨_,rfl,aa (fun h=>?_) (fun h=>?_)⟩
 ·rw [hln] at h;replace h:=b9 h;have hg:(kg ks)[k]?=some (j9 ks[k]):=by rw [lp,qqe,qqa h];rfl
  have he:=ih _ (qqj h);generalize ks[k]=e at hg he;refine⟨_,⟨bq hg,Dj e⟩,_,T_ e,_,Rl e,_,⟨bq hg,Dj e⟩,_,T_ e,_,Rl e,_,Rk e,_,Rk e,164,rfl,cy he ⟨_,rfl,a_ rfl ?_⟩⟩;exact⟨_,bn h (by omega),_,by omega,k+1,by omega,rfl,rfl,rfl,rfl,rfl,rfl⟩
 ·exact⟨trivial,trivial,rfl⟩
theorem Di (a:Int):nk a a=true:=by rw [bp,qqI rfl]
theorem Y6:∀(n:Nat) (e:Ex),x_ e<=n->n<=4194304->VS prog 164 [j9 e,j9 e] (fun r=>r=.b true)
 |0,e,h,_=>by have:=M1 e;omega
 |n+1,.mk k nu v ks,h,hn=>by
  simp only [x_] at h;have hkl:ks.length<=4194304:=by have:=Az ks;omega
  have hk:=s169 ks hkl (fun e he=>Y6 n e (by have:=Ay he;omega) (by omega));have q:∀a:Int,bf .eql (ii a) (ii a)=some (.b true):=fun a=>by show some (TV.b (nk a a))=_;rw [Di]
  refine Xq _ _ _ ?_;unfold W164;exact⟨rfl,rfl,_,rfl,_,rfl,_,q k,rfl,bg rfl rfl ⟨rfl,bg rfl rfl (bg rfl (q nu) ⟨_,rfl,rfl,bg rfl rfl ⟨rfl,bg rfl rfl (bg rfl (q v) ⟨_,rfl,rfl,bg rfl rfl ⟨rfl,bg rfl rfl (bg rfl (b8 hk) ⟨_,rfl,trivial,trivial,rfl⟩)⟩⟩)⟩⟩)⟩⟩
theorem TX (e:Ex) (h:x_ e<=4194304):VS prog 164 [j9 e,j9 e] (fun r=>r=.b true):=Y6 _ e (qqT _) h
theorem s139 (e f:Ed) (he:e.kind=2) (hf:f.kind=2) (hc:f.c=yf e.c) (hz:Ck e.c<=4194304):VS prog 139 [dw e,dw f] (fun r=>r=.b true):=by
 have qXc:=s109 e.c hz;obtain⟨a,b,kind,d,c,t,⟨k1,n1,v1,ks1⟩,⟨op,l,r⟩⟩:=e;obtain⟨a',b',kind',d',c',t',⟨k1',n1',v1',ks1'⟩,cf⟩:=f;simp only at he hf hc qXc hz;subst he hf hc;simp only [Ck] at hz;have hl:=TX l (by omega);have hr:=TX r (by omega);obtain⟨k2,n2,v2,ks2⟩:=l;obtain⟨k3,n3,v3,ks3⟩:=r;have q:∀a:Int,bf .eql (ii a) (ii a)=some (.b true):=fun a=>by show some (TV.b (nk a a))=_;rw [Di]
 refine XI _ _ _ ?_;unfold W139;refine⟨rfl,rfl,_,rfl,cy qXc ?_⟩;refine⟨GY (yf ⟨op,.mk k2 n2 v2 ks2,.mk k3 n3 v3 ks3⟩),rfl,_,rfl,_,rfl,rfl,bg rfl rfl (bg rfl rfl ⟨_,rfl,rfl,bg rfl rfl ⟨rfl,rfl,bg rfl rfl (bg rfl (q (Ki op)) ⟨_,rfl,rfl,bg rfl rfl ⟨rfl,rfl,bg rfl rfl (bg rfl (b8 hl) ⟨_,rfl,rfl,bg rfl rfl ⟨rfl,rfl,bg rfl rfl (bg rfl (b8 hr) ⟨_,rfl,trivial,trivial,rfl⟩)⟩⟩)⟩⟩)⟩⟩)⟩
theorem TA {had:List Bool} {t:Nat} (h:t < had.length):∃b,had[t]?=some b/\(had.map TV.b)[t]?=some (.b b):=⟨_,qqa h,by rw [qqe,qqa h];rfl⟩
theorem RP {had:List Bool} {t:Nat} (h:t < had.length):aq (.a (had.map TV.b)) t 1 (.b true)=some (.a ((had.set t true).map TV.b)):=by
 show (match uz (had.map TV.b) t [.b true] with|some l=>some (TV.a l)|none=>none)=_;have:∀(cs:List TV) (q:Nat) (x:TV),q < cs.length->uz cs q [x]=some (cs.set q x):=by
  intro cs
  induction cs with
  |nil=>intro q x h;simp at h
  |cons y cs ih=>
   intro q x h;cases q with
   |zero=>
    show (match s8 cs [] with|some l=>some (x::l)|none=>none)=_;have e:s8 cs []=some cs:=by cases cs<;>rfl
    rw [e];rfl
   |succ q=>show (match uz cs q [x] with|some l=>some (y::l)|none=>none)=_;rw [ih q x (by simpa using h)];rfl
 rw [this _ _ _ (by rw [qql];exact h),List.map_set]
theorem Tr (e:Ed):fy (ct (dw e) 2)=some (ii e.kind)/\fy (ct (dw e) 4)=some (ii e.chan)/\fy (ct (dw e) 5)=some (ii e.tag)/\fy (ct (dw e) 1)=some (ii e.dst)/\fy (ct (dw e) 3)=some (ii e.var):=by obtain⟨_,_,_,_,_,_,e,c⟩:=e;cases e;cases c with|mk op l r=>cases l;cases r;exact⟨rfl,rfl,rfl,rfl,rfl⟩
theorem ZZ (e:Ed):gY (dw e) 2 none=some (ii e.kind)/\gY (dw e) 4 none=some (ii e.chan):=by obtain⟨_,_,_,_,_,_,e,c⟩:=e;cases e;cases c with|mk op l r=>cases l;cases r;exact⟨rfl,rfl⟩
theorem s138 (l:List Ed) (chan:Int) (hl:l.length<=4194304) (h:∀e∈l,e.kind=4/\e.chan=chan) (ht:(l.map (·.tag)).Nodup) (hr:∀e∈l,0<=e.tag/\e.tag < 4):VS prog 138 [.l (l.map dw)] (fun r=>r=.b true):=by
 refine XJ _ _ ?_;unfold W138;refine⟨_,rfl,fun q o5 x6 x7 x8 x9=>∃(k:Nat) (had:List Bool),k<=l.length/\q=l.length - k/\o5=.a (had.map TV.b)/\x6=.l (l.map dw)/\x7=.l (l.map dw)/\x8=ii ((l.map dw).length:Nat)/\x9=ii k/\had.length=4/\∀t:Nat,had[t]?=some true->∃e∈l.take k,e.tag=t,
  ⟨_,0,[false,false,false,false],qqS _,rfl,rfl,rfl,rfl,rfl,rfl,rfl,fun t ht=>by have:t < 4:=(qqb.1 ht).1;rcases t with _|_|_|_|t<;>first|(cases ht;done)|omega⟩,?_⟩
 rintro q o5 x6 x7 x8 x9 ⟨k,had,hk,rfl,rfl,rfl,rfl,rfl,rfl,hhl,qwM⟩;refine⟨_,rfl,aa (fun h3=>?_) (fun h3=>⟨trivial,trivial,rfl⟩)⟩;rw [qql] at h3;replace h3:=b9 h3;have hx:l[k]?=some l[k]:=qqa h3;have hg:(l.map dw)[k]?=some (dw l[k]):=by rw [qqe,hx];rfl
 have h0:(l.map dw)[0]?=some (dw (l[0]'(by omega))):=by rw [qqe,qqa (by omega:0 < l.length)];rfl
 obtain⟨he1,he2⟩:=h _ (qqj h3);obtain⟨_,h02⟩:=h _ (qqj (by omega:0 < l.length));obtain⟨r0,r1⟩:=hr _ (qqj h3);have hnot:∀e∈l.take k,e.tag≠l[k].tag:=by
  intro e he heq;have hsp:l.map (·.tag)=(l.take k).map (·.tag)++(l[k].tag::(l.drop (k+1)).map (·.tag)):=by rw [←List.map_cons (f:=fun e:Ed=>e.tag),←List.drop_eq_getElem_cons h3,←List.map_append,List.take_append_drop]
  rw [hsp,List.nodup_append] at ht;exact ht.2.2 _ (qqz.2 ⟨e,he,rfl⟩) _ qqu heq
 have hnx:∀e,l[k]=e->l.take (k+1)=l.take k++[e]:=fun e he=>by rw [←jo hx,he]
 generalize hee:l[k]=e at *;generalize l[0]'(by omega)=e0 at *;obtain⟨c2,c4,c5,_,_⟩:=Tr e;have hti:e.tag.toNat < had.length:=by omega
 obtain⟨b,hb,hb'⟩:=TA hti;have hbf:b=false:=by
  cases b with
  |false=>rfl
  |true=>obtain⟨e2,h4,h5⟩:=qwM _ hb;exact absurd (by omega) (hnot e2 h4)
 subst hbf;have n1:bf .neq (ii e.kind) (TV.i .i64 4)=some (.b false):=by rw [he1];rfl
 have n2:bf .neq (ii e.chan) (ii e0.chan)=some (.b false):=by rw [HC,he2,h02,Di];rfl
 have ix:jm (ii e.tag) 4=some e.tag.toNat:=by have:=vi (j:=e.tag.toNat) (n:=4) (by omega);rwa [qqP r0] at this
 have ld:gY (.a (had.map TV.b)) (0+e.tag.toNat*1) none=some (.b false):=by rw [Nat.mul_one,Nat.zero_add];exact hb'
 have pt:aq (.a (had.map TV.b)) (0+e.tag.toNat*1) 1 (.b true)=some (.a ((had.set e.tag.toNat true).map TV.b)):=by rw [Nat.mul_one,Nat.zero_add];exact RP hti
 refine⟨_,⟨bq hg,qf e⟩,_,Gl e,_,I8 e,_,c2,_,n1,rfl,bg rfl c4 (bg rfl rfl (bg rfl ⟨bq (j:=0) h0,qf e0⟩ ⟨rfl,rfl,bg rfl (ZZ e0).2 (bg rfl n2 ⟨_,rfl,rfl,bg rfl c5 ⟨e.tag.toNat,fun _=>ix,rfl,bg rfl ld ⟨_,rfl,a_ rfl ?_⟩⟩⟩)⟩))⟩;refine⟨_,c5,_,ix,_,pt,_,bn h3 (by omega),_,by omega,k+1,had.set e.tag.toNat true,by omega,rfl,rfl,rfl,rfl,rfl,rfl,by rw [qqs];exact hhl,fun t ht=>?_⟩;rw [hnx e rfl];rw [List.getElem?_set] at ht;split at ht
 ·rename_i heq;exact⟨e,List.mem_append_right _ (by simp),by omega⟩
 ·obtain⟨e2,h4,h5⟩:=qwM t ht;exact⟨e2,List.mem_append_left _ h4,h5⟩
theorem IL (es:List Ed) (n:Int):∀k,k<=es.length->∃ix:List Nat,GU es n k=ix.map (fun i:Nat=>ii i)/\ix.map (fun i=>es[i]?)=(gq n (es.take k)).map some
 |0,_=>⟨[],rfl,by simp [gq]⟩
 |k+1,hk=>by
  obtain⟨ix,h1,h2⟩:=IL es n k (by omega);have hx:es[k]?=some (es[k]'(by omega)):=qqa _;rw [←jo hx,yp];simp only [GU,hx];by_cases he:(es[k]'(by omega)).src=n
  ·refine⟨ix++[k],?_,?_⟩
   ·rw [bp,qqI he,h1];simp
   ·rw [List.map_append,h2,nj he,List.map_append];simp [hx,gq]
  ·refine⟨ix,?_,?_⟩
   ·rw [bp,qqK he,h1];simp
   ·rw [h2,qe he];simp [gq]
theorem s101 (g:Gr) (n:Int) (hl:g.bh.length<=4194304) (hz:∀e∈g.bh,Ck e.c<=4194304) (hr:∀e∈g.bh,e.kind=4->0<=e.tag/\e.tag < 4)
  (h:(n=1/\gq n g.bh=[])\/(n≠1/\Ca (gq n g.bh))):VS prog 101 [gK g,ii n] (fun r=>r=.b true):=by
 obtain⟨ix,hi1,hi2⟩:=IL g.bh n g.bh.length (qqT _);rw [qqt] at hi2;have hol:=CY g.bh n g.bh.length;rw [hi1,qql] at hol;have hfl:(gq n g.bh).length=ix.length:=by have:=congrArg List.length hi2;simpa using this.symm
 have hmem:∀e∈gq n g.bh,e∈g.bh:=fun e he=>(List.mem_filter.1 he).1
 refine XW _ _ _ ?_;unfold W101;refine⟨rfl,_,rfl,cy (s50 g n hl) ?_⟩;rw [hi1];generalize hF:gq n g.bh=F at *;refine⟨_,rfl,fun q o7 x8 l9 x10 x11 x12=>∃k:Nat,k<=ix.length/\q=ix.length - k/\o7=gK g/\x8=ii n/\l9=(F.take k).map dw/\x10=.l (ix.map (fun i:Nat=>ii i))/\x11=ii ((ix.map (fun i:Nat=>ii i)).length:Nat)/\x12=ii k,⟨_,0,qqS _,rfl,rfl,rfl,rfl,rfl,rfl,rfl⟩,?_⟩;rintro q o7 x8 l9 x10 x11 x12 ⟨k,hk,rfl,rfl,rfl,rfl,rfl,rfl,rfl⟩;refine⟨_,rfl,aa (fun h3=>?_) (fun h3=>?_)⟩
 ·rw [qql] at h3;replace h3:=b9 h3;have hx:ix[k]?=some ix[k]:=qqa h3;have hxi:(ix.map (fun i:Nat=>ii i))[k]?=some (ii (ix[k]:Nat)):=by rw [qqe,hx];rfl
  have hFk:F[k]?=some (F[k]'(by omega)):=qqa _;have hgk:g.bh[ix[k]]?=some (F[k]'(by omega)):=by have:=congrArg (fun l=>l[k]?) hi2;simp only [qqe,hx,hFk,Option.map_some] at this;exact qqO this
  have hg:(g.bh.map dw)[ix[k]]?=some (dw (F[k]'(by omega))):=by rw [qqe,hgk];rfl
  have ht:=gU (f:=dw) hFk;have hlt:((F.take k).map dw).length<=4194304:=by rw [qql,qqn];omega
  generalize F[k]'(by omega)=e at *;refine⟨_,⟨bq hxi,rfl⟩,_,rfl,_,rfl,_,⟨bq hg,qf e⟩,_,Gl e,rfl,qf e,_,rfl,qf e,_,n_ (by simp only [qqq,most];omega) (by simp only [qqq,most];omega),_,bn h3 (by omega),_,by omega,k+1,by omega,rfl,rfl,rfl,ht,rfl,rfl,rfl⟩
 ·rw [qql] at h3;have:=dy hk h3;subst this;rw [qqN (by omega)];have ml:(F.map dw).length=F.length:=qql _;have i0:∀{e:Ed} {r:List Ed},F=e::r->jm (TV.i .i64 0) (F.map dw).length=some 0/\zb (F.map dw) 0 2 none=some (ii e.kind):=fun {e r} he=>by subst he;exact⟨vi (j:=0) (by simp),by show gY (dw e) 2 none=_;exact(ZZ e).1⟩
  rcases h with ⟨rfl,qjj⟩|⟨hn1,hlv⟩
  ·subst qjj;exact⟨_,rfl,_,rfl,de rfl ⟨_,rfl,trivial,trivial,rfl⟩⟩
  ·have n1:nk n 1=false:=by rw [bp,qqK hn1]
   have hne:F≠[]:=hlv.ne;have l0:nk ((F.map dw).length:Nat) 0=false:=by
    rw [bp,qqJ,ml];have:F.length≠0:=fun hc=>hne (qqM.1 hc)
    omega
   refine⟨_,rfl,_,rfl,a_ l0 ⟨_,rfl,a_ n1 ?_⟩⟩;cases hlv with
   |one e h2 h4=>obtain⟨p1,p2⟩:=i0 rfl;exact⟨_,p1,_,p2,_,rfl,a_ (by rw [bp,qqK h4]) ⟨_,p1,_,p2,_,rfl,a_ (by rw [bp,qqK h2]) ⟨_,rfl,_,rfl,trivial,trivial,rfl⟩⟩⟩
   |two e f he hf hc=>obtain⟨p1,p2⟩:=i0 rfl;have qZb:=s139 e f he hf hc (hz e (hmem e (by simp)));refine⟨_,p1,_,p2,_,rfl,a_ (by rw [he];rfl) ⟨_,p1,_,p2,_,rfl,de (by rw [he];rfl) ⟨_,rfl,_,rfl,rfl,0,fun _=>p1,rfl,bg rfl (Gl e) ⟨rfl,1,fun _=>vi (j:=1) (by simp),rfl,bg rfl (Gl f) (bg rfl (b8 qZb) ⟨_,rfl,trivial,trivial,rfl⟩)⟩⟩⟩⟩
   |cu _ chan hn ha htg=>obtain⟨e,r,rfl⟩:=List.exists_cons_of_ne_nil hn;obtain⟨p1,p2⟩:=i0 rfl;have qZc:=s138 (e::r) chan (by omega) ha htg (fun x hx=>hr x (hmem x hx) (ha x hx).1);refine⟨_,p1,_,p2,_,rfl,de (by rw [(ha e (by simp)).1];rfl) ?_⟩;exact qZc.mono (fun r hr=>by subst hr;exact⟨rfl,trivial,trivial,rfl⟩)
end Go.Ax.dg
set_option maxRecDepth 100000
namespace Go.Ax.dg
open Go Go.Ax Go.Ax.V Go.Ax.Ft
theorem Uv (s:Sm):aq Fi 0 20 (mh s)=some (mh s):=by cases s with|mk kind var chan tag e c body els cu=>cases e;cases c with|mk op l r=>cases l;cases r;rfl
theorem Uu (s:Sm):ax (mh s) 0 20=some (mh s):=by cases s with|mk kind var chan tag e c body els cu=>cases e;cases c with|mk op l r=>cases l;cases r;rfl
theorem s163 (e:Ed) (h1:1<=e.kind) (h6:e.kind<=6):VS prog 163 [dw e] (fun r=>r=.tp [mh (Ft.r_ e),.b true]):=by
 obtain⟨a,b,kind,var,chan,tag,⟨k1,n1,v1,ks1⟩,⟨op,⟨k2,n2,v2,ks2⟩,⟨k3,n3,v3,ks3⟩⟩⟩:=e;simp only at h1 h6;refine Xr _ _ ?_;unfold W163;have hk:kind=1\/kind=2\/kind=3\/kind=4\/kind=5\/kind=6:=by omega
 rcases hk with rfl|rfl|rfl|rfl|rfl|rfl <;>
 ·simp only [Ft.r_]
  repeat (first|refine⟨rfl,?_⟩|refine⟨_,rfl,?_⟩|refine de rfl ?_|refine a_ rfl ?_|refine⟨trivial,?_⟩)
  exact⟨DB rfl rfl,rfl⟩
theorem s136 (e:Ed) (h0:0<=e.kind) (h6:e.kind<=6) (hv:e.kind=0->e.var=0):VS prog 136 [dw e] (fun r=>r=.tp [.l [mh (Ft.r_ e)],.b true]):=by
 by_cases hk:e.kind=0
 ·have hv0:=hv hk;obtain⟨a,b,kind,var,chan,tag,⟨k1,n1,v1,ks1⟩,⟨op,⟨k2,n2,v2,ks2⟩,⟨k3,n3,v3,ks3⟩⟩⟩:=e;simp only at hk hv0;subst hk hv0;refine TL _ _ ?_;unfold WE;simp only [Ft.r_]
  repeat (first|refine⟨rfl,?_⟩|refine⟨_,rfl,?_⟩|refine de rfl ?_|refine a_ rfl ?_|refine⟨trivial,?_⟩)
  exact⟨DB rfl rfl,rfl⟩
 ·have h:=s163 e (by omega) h6;have hc:=(Tr e).1;have hs:ax (dw e) 0 19=some (dw e):=by obtain⟨a,b,kind,var,chan,tag,⟨k1,n1,v1,ks1⟩,⟨op,⟨k2,n2,v2,ks2⟩,⟨k3,n3,v3,ks3⟩⟩⟩:=e;rfl
  refine TL _ _ ?_;unfold WE;refine⟨rfl,_,hc,_,rfl,a_ (by rw [bp,qqK hk]) ⟨_,hs,cy h ⟨_,rfl,_,rfl,_,Uv _,_,Uu _,rfl,Ab _,trivial,DB rfl rfl,rfl⟩⟩⟩
theorem t137 (l:List Pr) (hl:l.length<=4194304) (Q:List TV->Prop) (h:Q (l.map gJ)):WK Q (.l (l.map gJ)):=by
 refine YS _ _ ?_;unfold R5;refine⟨_,rfl,fun b hb=>aa (fun h1=>?_) (fun h1=>?_)⟩
 ·have:l.map gJ=[]:=by
   refine Classical.byContradiction fun hc=>?_
   rw [hb hc] at h1;cases h1
  rw [this] at h;exact⟨trivial,h⟩
 ·exact⟨_,rfl,wq (fun e he=>by obtain⟨x,_,rfl⟩:=qqz.1 he;exact Rs x),_,n_ (by simp only [List.length_nil,qql,most];omega) (by simp only [List.length_nil,qql,most];omega),trivial,h⟩
theorem Kf {au:List Ch} {v:Int} {body:List Sm}:∀{l:List Pr} {k:Int} {i:Nat},oW au k l=true->i < l.length->within v 0 6=true->oq au (k+i) v body=true->oW au k (l.set i ⟨v,body⟩)=true
 |x::l,k,0,h,hi,hv,hb=>by simp only [oW,qqB] at h;simp only [List.set_cons_zero,oW,qqB];exact⟨⟨hv,by simpa using hb⟩,h.2⟩
 |x::l,k,i+1,h,hi,hv,hb=>by simp only [oW,qqB] at h;simp only [List.set_cons_succ,oW,qqB];exact⟨h.1,Kf h.2 (by simpa using hi) hv (by rw [show k+1+(i:Int)=k+((i+1:Nat):Int) by omega];exact hb)⟩
def gi (cs:List Ch) (vs:List Int):Pg:=⟨cs,vs.map (fun v=>⟨v,[]⟩)⟩
theorem PJ {l:List Pr} {i:Nat} {x:Pr} (h:l[i]?=some x) (b:List Sm):jn (l.map gJ) i 1 1 (.l (gh b))=some ((l.set i ⟨x.vars,b⟩).map gJ):=by unfold jn;rw [qqe,h,List.map_set];rfl
theorem PG {l:List Pr} {i:Nat} {x:Pr} (h:l[i]?=some x) (v:Int):jn (l.map gJ) i 0 1 (ii v)=some ((l.set i ⟨v,x.body⟩).map gJ):=by unfold jn;rw [qqe,h,List.map_set];rfl
theorem Us (e:Ed):za (Ft.r_ e)<=7+x_ e.e+Ck e.c:=by
 unfold Ft.r_;split
 ·simp only [za,fq,ku];omega
 split
 ·simp only [za,fq,ku];omega
 split
 ·simp only [za,fq,ku];omega
 split
 ·simp only [za,fq,ku,LF];omega
 split
 ·simp only [za,fq,ku];omega
 ·simp only [za,fq,ku];omega
theorem s100 (cs:List Ch) (vs:List Int) (i:Nat) (v:Int) (g:Gr) (e:Ed) (hz:Aw (gi cs vs)) (hok:vb (gi cs vs)=true) (hv:vs[i]?=some v) (hsz:x_ e.e+Ck e.c<=4194000)
  (hs:0<=e.src/\e.src < g.nodes) (hd:0<=e.dst/\e.dst < g.nodes) (he:BQ cs i v e):VS prog 100 [gb (gi cs vs),ii i,gK g,dw e] (fun r=>r=.b true):=by
 have qZd:=s136 e he.kind.1 he.kind.2 he.var;obtain⟨c2,c4,c5,c1,c3⟩:=Tr e;have c0:=MI e;have hsub:ax (dw e) 0 19=some (dw e):=by obtain⟨a,b,kind,var,chan,tag,⟨k1,n1,v1,ks1⟩,⟨op,⟨k2,n2,v2,ks2⟩,⟨k3,n3,v3,ks3⟩⟩⟩:=e;rfl
 have a1:bf .lss (ii e.src) (TV.i .i64 0)=some (.b false):=by show some (TV.b (n8 e.src 0))=_;rw [c_,qqK (by omega)]
 have a2:bf .geq (ii e.src) (ii g.nodes)=some (.b false):=by rw [EE,c_,qqI hs.2];rfl
 have a3:bf .lss (ii e.dst) (TV.i .i64 0)=some (.b false):=by show some (TV.b (n8 e.dst 0))=_;rw [c_,qqK (by omega)]
 have a4:bf .geq (ii e.dst) (ii g.nodes)=some (.b false):=by rw [EE,c_,qqI hd.2];rfl
 have hil:i < vs.length:=(qqb.1 hv).1;have hvl:vs.length<=4194304:=by have:=hz.procs;simpa [gi] using this
 have hpi:(gi cs vs).procs[i]?=some ⟨v,[]⟩:=by simp [gi,hv]
 have hix:∀{l:List Pr},l.length=vs.length->jm (ii i) (l.map gJ).length=some i:=fun {l} h=>vi (by rw [qql,h];exact hil)
 simp only [vb,qqB] at hok;obtain⟨⟨⟨⟨o1,o2⟩,o3⟩,o4⟩,o5⟩:=hok;have hin:∀x∈vs,within x 0 6=true:=by
  intro x hx;have hall:∀{l:List Int} {k:Int},oW cs k (l.map (fun v=>(⟨v,[]⟩:Pr)))=true->∀x∈l,within x 0 6=true:=by
   intro l
   induction l with
   |nil=>intro k _ x hx;cases hx
   |cons y l ih=>
    intro k h x hx;simp only [List.map_cons,oW,qqB] at h;rcases qqw.1 hx with rfl|hx
    ·exact h.1.1
    ·exact ih h.2 x hx
  exact hall o5 x hx
 have qQX:=hin v (qqi hv);have hstz:=Us e;have fin:∀v':Int,within v' 0 6=true->oq cs i v' [Ft.r_ e]=true->VS prog 60 [gb ⟨cs,((gi cs vs).procs.set i ⟨v',[Ft.r_ e]⟩)⟩] (fun r=>r=.b true):=by
  intro v' hw hb;have hzp:Aw ⟨cs,((gi cs vs).procs.set i ⟨v',[Ft.r_ e]⟩)⟩:=⟨hz.au,by show (List.set _ _ _).length<=_;rw [qqs];exact hz.procs,hz.rules,hz.rows,fun x hx=>by
   rcases List.mem_or_eq_of_mem_set hx with hx|rfl
   ·exact hz.body x hx
   ·show fq [Ft.r_ e]<=_;simp only [fq];omega⟩
  have qwL:vb ⟨cs,((gi cs vs).procs.set i ⟨v',[Ft.r_ e]⟩)⟩=true:=by simp only [vb,qqB,qqs];exact⟨⟨⟨⟨o1,o2⟩,o3⟩,o4⟩,Kf o5 (by simp [gi];exact hil) hw (by rw [Int.zero_add];exact hb)⟩
  have:=s60 _ hzp;rw [qwL] at this;exact this
 have qwK:oq cs i (if e.kind=0 then max v 1 else v) [Ft.r_ e]=true:=by simp only [oq,he.ok,Bool.true_and]
 refine XX _ _ _ _ _ ?_;unfold W100;refine⟨rfl,rfl,rfl,_,c0,_,a1,rfl,bg rfl c0 ⟨rfl,bg rfl rfl (bg rfl a2 ⟨_,rfl,rfl,bg rfl c1 (bg rfl a3 ⟨_,rfl,rfl,bg rfl c1 ⟨rfl,bg rfl rfl (bg rfl a4 ⟨_,rfl,a_ rfl ?_⟩)⟩⟩)⟩)⟩⟩;refine⟨_,hsub,cy qZd ⟨_,rfl,_,rfl,_,rfl,a_ rfl ⟨_,rfl,t137 (gi cs vs).procs hz.procs _ ?_⟩⟩⟩;refine⟨i,hix (by simp [gi]),_,PJ hpi [Ft.r_ e],_,c2,_,rfl,aa (fun h=>?_) (fun h=>?_)⟩
 ·rw [bp,qqH] at h;rw [if_pos h] at qwK;have hp2:((gi cs vs).procs.set i ⟨v,[Ft.r_ e]⟩)[i]?=some ⟨v,[Ft.r_ e]⟩:=by rw [List.getElem?_set_self (by simp [gi];exact hil)]
  have hw:within (max v 1) 0 6=true:=by simp only [within,qqB,qqH] at qQX ⊢;omega
  have hf:=fin _ hw qwK;refine⟨i,hix (by simp [gi]),ii v,?_,_,mx2 v 1,i,hix (by simp [gi]),_,PG hp2 (max v 1),_,rfl,_,rfl,_,rfl,gb ⟨cs,((gi cs vs).procs.set i ⟨max v 1,[Ft.r_ e]⟩)⟩,?_,hf.mono (fun r hr=>by subst hr;exact⟨rfl,trivial,trivial,rfl⟩)⟩
  ·unfold zb;rw [qqe,hp2];rfl
  ·rw [List.set_set];rfl
 ·rw [bp,qqJ] at h;rw [if_neg h] at qwK;have hf:=fin _ qQX qwK;exact⟨_,rfl,_,rfl,_,rfl,gb ⟨cs,((gi cs vs).procs.set i ⟨v,[Ft.r_ e]⟩)⟩,rfl,hf.mono (fun r hr=>by subst hr;exact⟨rfl,trivial,trivial,rfl⟩)⟩
end Go.Ax.dg
set_option maxRecDepth 100000
namespace Go.Ax.dg
open Go Go.Ax Go.Ax.V Go.Ax.Ft
theorem Ko {b n:Nat} (h:n<=4194304) (hb:b<=4096):FX b (ii n)=some n:=by
 show (match Si (n:Int) most with|some m=>bif Rq .i64 .i64&&Nat.ble (Nat.mul m b) most then some m else none|none=>none)=_;have:Si (n:Int) most=some n:=by show (bif Nat.ble n most then some n else none)=some n;rw [Nat.ble_eq_true_of_le (by unfold most;omega)];rfl
 rw [this];have h3:n*b<=4194304*4096:=Nat.mul_le_mul h hb;have h2:Nat.ble (Nat.mul n b) most=true:=Nat.ble_eq_true_of_le (by show n*b<=most;unfold most;omega);simp only [h2];rfl
theorem K7 (heads:List Int) (v:Int) (E:List Ed) (e:Ed):Jm heads [] v (E++[e])=Jm heads [] v E+(if e.dst=v/\heads.contains e.src=false then 1 else 0):=by unfold Jm;rw [List.countP_append,List.countP_singleton];congr 1;unfold cm;by_cases h1:e.dst=v<;>cases h2:heads.contains e.src<;>simp [h1]
theorem TW {l:List Int} {j:Nat} (h:j < l.length) (x:Int):jn (l.map ii) j 0 1 (ii x)=some ((l.set j x).map ii):=by
 have h2:(l.map ii)[j]?=some (ii l[j]):=by rw [qqe,qqa h];rfl
 rw [PI h2,List.map_set]
theorem S6 {l:List Int} {j:Nat} {x:Int} (h:l[j]?=some x):zb (l.map ii) j 0 none=some (ii x):=QS (by rw [qqe,h];rfl)
theorem ZH {d:Int} {n:Nat} (h0:0<=d) (h1:d < n):jm (ii d) n=some d.toNat:=by have:=vi (j:=d.toNat) (n:=n) (by omega);rwa [qqP h0] at this
theorem bd1 {n:Nat} (h:1<=n):EK (some (TV.i .i64 1)) 0 n=some 1:=by have:=Lf (k:=1) h;simpa [EK] using this
theorem s102 (g:Gr) (N:Nat) (hN:g.nodes=N) (hn:N<=1000000) (hl:g.bh.length<=1000000) (hh:g.heads.length<=4194304) (hs:∀e∈g.bh,(0<=e.src/\e.src < g.nodes)/\0<=e.dst/\e.dst < g.nodes)
  (hr:∃r:Int->Int,∀e∈g.bh,g.heads.contains e.src=true\/r e.src < r e.dst):VS prog 102 [gK g] (fun r=>r=.b false):=by
 refine XV _ _ ?_;unfold W102;refine⟨rfl,_,rfl,N,by rw [hN];exact Ko (by omega) (by omega),_,rfl,_,rfl,?_⟩;refine⟨fun q o8 l9 x10 x11 x12=>∃(k:Nat) (left:List Int),k<=g.bh.length/\q=g.bh.length - k/\o8=gK g/\l9=left.map ii/\x10=.l (g.bh.map dw)/\x11=ii ((g.bh.map dw).length:Nat)/\x12=ii k/\left.length=N/\∀v:Nat,v < N->left[v]?=some ((Jm g.heads [] v (g.bh.take k):Nat):Int),
  ⟨_,0,List.replicate N 0,qqS _,rfl,rfl,by rw [qqQ],rfl,rfl,rfl,by simp,fun v hv=>by simp [Jm,hv]⟩,?_⟩
 rintro q o8 l9 x10 x11 x12 ⟨k,left,hk,rfl,rfl,rfl,rfl,rfl,rfl,hll,hval⟩;refine⟨_,rfl,aa (fun h=>?_) (fun h=>?_)⟩
 ·rw [qql] at h;replace h:=b9 h;have hx:g.bh[k]?=some g.bh[k]:=qqa h;have hg:(g.bh.map dw)[k]?=some (dw g.bh[k]):=by rw [qqe,hx];rfl
  obtain⟨_,d0,d1⟩:=hs _ (qqj h);have htk:g.bh.take (k+1)=g.bh.take k++[g.bh[k]]:=(jo hx).symm;generalize g.bh[k]=e at hx hg d0 d1 htk;obtain⟨_,_,_,c1,_⟩:=Tr e;rw [hN] at d1;have hdl:e.dst.toNat < left.length:=by omega
  have nx:=bn h (by omega);refine⟨_,⟨bq hg,qf e⟩,_,Gl e,_,I8 e,_,rfl,_,MI e,cy (Y9 g.heads e.src hh) ⟨_,gp _,aa (fun h2=>?_) (fun h2=>?_)⟩⟩
  ·have hc:g.heads.contains e.src=false:=by simpa using h2
   have hv:=hval e.dst.toNat (by omega);have hb:Jm g.heads [] e.dst.toNat (g.bh.take k)<=g.bh.length:=qqR List.countP_le_length (by rw [qqn];omega);have hix:jm (ii e.dst) (left.map ii).length=some e.dst.toNat:=ZH d0 (by rw [qql];omega);refine⟨_,c1,_,hix,_,S6 hv,_,Lk (by omega) (by omega),_,hix,_,TW hdl _,_,nx,_,by omega,k+1,left.set e.dst.toNat _,by omega,rfl,rfl,rfl,rfl,rfl,rfl,by rw [qqs];exact hll,fun v hvn=>?_⟩;rw [htk,K7,List.getElem?_set];by_cases hv2:e.dst.toNat=v
   ·subst hv2;rw [if_pos rfl,if_pos hdl,if_pos ⟨by omega,hc⟩];congr 1
   ·rw [if_neg hv2,if_neg (fun hh=>hv2 (by have:=hh.1;omega)),hval v hvn];simp
  ·have hc:g.heads.contains e.src=true:=by simpa using h2
   refine⟨_,nx,_,by omega,k+1,left,by omega,rfl,rfl,rfl,rfl,rfl,rfl,hll,fun v hvn=>?_⟩;rw [htk,K7,if_neg (fun hh=>by rw [hc] at hh;cases hh.2),hval v hvn];simp
 rw [qql] at h;have hke:=dy hk h;subst hke;rw [qqt] at hval;clear h hk;refine⟨_,rfl,fun q o33 l34 l35 x36 x37 x38=>∃(k:Nat) (ready:List Int),k<=N/\q=N - k/\o33=gK g/\l34=left.map ii/\l35=ready.map ii/\x36=ii 0/\x37=ii ((left.map ii).length:Nat)/\x38=ii k/\ready.Nodup/\(∀v∈ready,0<=v/\v < k)/\∀v:Nat,v < k->((v:Int)∈ready↔left[v]?=some 0),
  ⟨_,0,[],qqS _,rfl,rfl,rfl,rfl,rfl,rfl,rfl,List.nodup_nil,fun v hv=>(by cases hv),fun v hv=>by omega⟩,?_⟩
 rintro q o33 l34 l35 x36 x37 x38 ⟨k,ready,hk,rfl,rfl,rfl,rfl,rfl,rfl,rfl,hnd,hrg,hzr⟩;refine⟨_,rfl,aa (fun h=>?_) (fun h=>?_)⟩
 ·rw [qql,hll] at h;replace h:=b9 h;obtain⟨x,hx⟩:∃x,left[k]?=some x:=⟨_,hval k h⟩;have hix:jm (ii k) (left.map ii).length=some k:=vi (by rw [qql];omega);have hrl:ready.length<=N:=by
   have:=E_ ready ((List.range N).map (fun i:Nat=>(i:Int))) hnd (fun v hv=>by obtain⟨v0,v1⟩:=hrg v hv;exact qqz.2 ⟨v.toNat,List.mem_range.2 (by omega),by omega⟩)
   simpa using this
  have nx:=bn (i:=k) (n:=N) h (by omega);refine⟨k,hix,_,S6 hx,_,rfl,aa (fun h2=>?_) (fun h2=>?_)⟩
  ·rw [bp,qqH] at h2;subst h2;refine⟨rfl,rfl,_,rfl,rfl,(ready++[(k:Int)]).map ii,?_,_,nx,_,by omega,k+1,ready++[(k:Int)],by omega,rfl,rfl,rfl,rfl,rfl,rfl,rfl,?_,fun v hv=>?_,fun v hv=>?_⟩
   ·rw [n_ (by simp only [qql,qqq,most];omega) (by simp only [qql,qqq,most];omega)];simp
   ·rw [List.nodup_append];refine⟨hnd,by simp,fun a ha b hb=>?_⟩;rw [qqy.1 hb];have:=(hrg a ha).2;omega
   ·rcases qqx.1 hv with hv|hv
    ·have:=hrg v hv;omega
    ·rw [qqy.1 hv];omega
   ·rw [qqx,qqy];by_cases hvk:v=k
    ·subst hvk;rw [hx];exact⟨fun _=>rfl,fun _=>.inr rfl⟩
    ·rw [←hzr v (by omega)];exact⟨fun hh=>hh.resolve_right (by omega),.inl⟩
  ·rw [bp,qqJ] at h2;refine⟨_,nx,_,by omega,k+1,ready,by omega,rfl,rfl,rfl,rfl,rfl,rfl,rfl,hnd,fun v hv=>by have:=hrg v hv;omega,fun v hv=>?_⟩;by_cases hvk:v=k
   ·subst hvk;rw [hx];exact⟨fun hm=>by have:=(hrg _ hm).2;omega,fun hm=>absurd (qqO hm) h2⟩
   ·exact hzr v (by omega)
 rw [qql,hll] at h;have hke:=dy hk h;subst hke;clear h hk;have K0:Bn k g.bh g.heads [] left ready []:=⟨hll,fun v hv=>by rw [hval v hv];simp [Oc],by simpa using hnd,fun v hv=>by simpa using hrg v (by simpa using hv),fun v hv=>by simpa using hzr v hv⟩;clear hval hnd hrg hzr hll;have hs2:∀e∈g.bh,0<=e.src/\e.src < (k:Int):=fun e he=>by have:=(hs e he).1;rw [hN] at this;exact this
 refine⟨fun q o50 l51 l52 x53=>∃(left ready P:List Int),q=k - P.length/\o50=gK g/\l51=left.map ii/\l52=ready.map ii/\x53=ii (P.length:Nat)/\Bn k g.bh g.heads [] left ready P,⟨_,left,ready,[],rfl,rfl,rfl,rfl,rfl,K0⟩,?_⟩;clear K0 left ready;rintro q o50 l51 l52 x53 ⟨left,ready,P,rfl,rfl,rfl,rfl,rfl,hK⟩;have hle:=hK.le;rw [qqm] at hle;cases ready with
 |nil=>refine⟨_,rfl,_,rfl,a_ rfl ⟨_,rfl,.b false,?_,trivial,trivial,rfl⟩⟩;have hall:=hK.all hr hs2;show some (TV.b (n8 ((P.length:Nat):Int) g.nodes))=_;rw [hall,hN,c_,qqK (by omega)]
 |cons n rest=>
  rw [qqr] at hle;have hgt:n8 0 (((n::rest).map ii).length:Nat)=true:=by rw [c_,qqH,qql,qqr];omega
  have hb:EK (some (TV.i .i64 1)) 0 ((n::rest).map ii).length=some 1:=bd1 (by rw [qql,qqr];omega);refine⟨_,rfl,_,rfl,de hgt ⟨0,vi (j:=0) (by simp),ii n,rfl,1,hb,_,bn (i:=P.length) (n:=k) (by omega) (by omega),_,rfl,cy (Y9 g.heads n hh) (aa (fun h2=>?_) (fun h2=>?_))⟩⟩
  ·exact⟨_,by simp only [qqr];omega,left,rest,n::P,rfl,rfl,rfl,rfl,by rw [qqr],hK.Og h2⟩
  have hK1:=hK.swap h2;obtain⟨ix,hi1,hi2⟩:=IL g.bh n g.bh.length (qqT _);rw [qqt] at hi2;have hol:=CY g.bh n g.bh.length;have hfl:(gq n g.bh).length=ix.length:=by have:=congrArg List.length hi2;simpa using this.symm
  refine⟨_,rfl,cy (s50 g n (by omega)) ?_⟩;rw [hi1] at hol ⊢;rw [qql] at hol;refine⟨_,rfl,fun q o68 l69 l70 x71 x72 x73 x74=>∃(j:Nat) (left ready:List Int),j<=ix.length/\q=ix.length - j/\o68=gK g/\l69=left.map ii/\l70=ready.map ii/\x71=ii ((P.length+1:Nat):Int)/\x72=.l (ix.map (fun i:Nat=>ii i))/\x73=ii ((ix.map (fun i:Nat=>ii i)).length:Nat)/\x74=ii j/\Bn k g.bh g.heads ((gq n g.bh).drop j) left ready (n::P),
   ⟨_,0,left,rest,qqS _,rfl,rfl,rfl,rfl,rfl,rfl,rfl,rfl,by rw [List.drop_zero];exact hK1⟩,?_⟩
  clear hK1 hK;rintro q o68 l69 l70 x71 x72 x73 x74 ⟨j,left,ready,hj,rfl,rfl,rfl,rfl,rfl,rfl,rfl,rfl,hK⟩;refine⟨_,rfl,aa (fun h3=>?_) (fun h3=>?_)⟩
  ·rw [qql] at h3;replace h3:=b9 h3;have hx:ix[j]?=some ix[j]:=qqa h3;have hxi:(ix.map (fun i:Nat=>ii i))[j]?=some (ii (ix[j]:Nat)):=by rw [qqe,hx];rfl
   have hFj:(gq n g.bh)[j]?=some ((gq n g.bh)[j]'(by omega)):=qqa _;have hgj:g.bh[ix[j]]?=some ((gq n g.bh)[j]'(by omega)):=by have:=congrArg (fun l=>l[j]?) hi2;simp only [qqe,hx,hFj,Option.map_some] at this;exact qqO this
   have hdr:(gq n g.bh).drop j=(gq n g.bh)[j]'(by omega)::(gq n g.bh).drop (j+1):=List.drop_eq_getElem_cons (by omega);rw [hdr] at hK;have hg:(g.bh.map dw)[ix[j]]?=some (dw ((gq n g.bh)[j]'(by omega))):=by rw [qqe,hgj];rfl
   obtain⟨_,d0,d1⟩:=hs _ (qqi hgj);rw [hN] at d1;generalize (gq n g.bh)[j]'(by omega)=e at *;have hK':=hK;obtain⟨m,hm1,hm2,hm3,hz,hnz⟩:=hK.dec d0 d1;have hRl:((gq n g.bh).drop (j+1)).length<=1000000:=by rw [qqo];omega
   have hll:=hK.len;have hix:∀{l:List Int},l.length=k->jm (ii e.dst) (l.map ii).length=some e.dst.toNat:=fun {l} hl2=>ZH d0 (by rw [qql,hl2];exact d1)
   have hdl:e.dst.toNat < left.length:=by omega
   have qwH:(left.set e.dst.toNat (m - 1))[e.dst.toNat]?=some (m - 1):=List.getElem?_set_self hdl;have qXK:=hK.le;rw [qqm,qqr] at qXK;have nx:=bn h3 (by omega);refine⟨_,⟨bq hxi,rfl⟩,_,rfl,_,rfl,_,⟨bq hg,qf e⟩,_,ZY e,_,hix hll,_,S6 hm1,_,Px (by omega) (by omega),_,hix hll,_,TW hdl _,_,hix (by rw [qqs];exact hll),_,S6 qwH,_,rfl,aa (fun h4=>?_) (fun h4=>?_)⟩
   ·rw [bp,qqH] at h4;refine⟨rfl,rfl,_,rfl,rfl,(ready++[e.dst]).map ii,?_,_,nx,_,by omega,j+1,_,ready++[e.dst],by omega,rfl,rfl,rfl,rfl,rfl,rfl,rfl,rfl,hz h4⟩;rw [n_ (by simp only [qql,qqq,most];omega) (by simp only [qql,qqq,most];omega)];simp
   ·rw [bp,qqJ] at h4;exact⟨_,nx,_,by omega,j+1,_,ready,by omega,rfl,rfl,rfl,rfl,rfl,rfl,rfl,rfl,hnz h4⟩
  ·rw [qql] at h3;have hje:=dy hj h3;rw [hje,List.drop_of_length_le (by omega)] at hK;exact⟨_,by simp only [qqr];omega,left,ready,n::P,rfl,rfl,rfl,rfl,by rw [qqr],hK⟩
theorem s75 (cs:List Ch) (vs:List Int) (i:Nat) (v:Int) (g:Gr) (hz:Aw (gi cs vs)) (hok:vb (gi cs vs)=true) (hv:vs[i]?=some v) (hg:TJ cs i v g):VS prog 75 [gb (gi cs vs),ii i,gK g] (fun r=>r=.b true):=by
 obtain⟨N,hN⟩:=Int.eq_ofNat_of_zero_le (show 0<=g.nodes by have:=hg.nodes;omega);have hn:=hg.nodes;have he:=hg.bh;have a1:bf .lss (ii g.nodes) (TV.i .i64 2)=some (.b false):=by show some (TV.b (n8 g.nodes 2))=_;rw [c_,qqK (by omega)]
 have a2:bf .gtr (ii g.nodes) (TV.i .i64 802)=some (.b false):=by show some (TV.b (n8 802 g.nodes))=_;rw [c_,qqK (by omega)]
 have a3:bf .gtr (ii ((g.bh.map dw).length:Nat)) (TV.i .i64 400)=some (.b false):=by show some (TV.b (n8 400 _))=_;rw [c_,qql,qqK (by omega)]
 have h99:=s99 g hg.hl hg.hr hg.hp;refine vs75 _ _ _ _ ?_;unfold W75;refine⟨rfl,rfl,_,rfl,_,a1,rfl,bg rfl rfl (bg rfl a2 ⟨_,rfl,rfl,bg rfl rfl (bg rfl rfl (bg rfl a3 ⟨_,rfl,bg rfl rfl (bg rfl (b8 h99) (bg rfl rfl ⟨_,rfl,a_ rfl ?_⟩))⟩))⟩)⟩;refine⟨_,rfl,_,rfl,fun q o19 o20 x21 x22 x23 x24=>∃k:Nat,k<=g.bh.length/\q=g.bh.length - k/\o19=gb (gi cs vs)/\o20=gK g/\x21=ii i/\x22=.l (g.bh.map dw)/\x23=ii ((g.bh.map dw).length:Nat)/\x24=ii k,⟨_,0,qqS _,rfl,rfl,rfl,rfl,rfl,rfl,rfl⟩,?_⟩;rintro q o19 o20 x21 x22 x23 x24 ⟨k,hk,rfl,rfl,rfl,rfl,rfl,rfl,rfl⟩;refine⟨_,rfl,aa (fun h=>?_) (fun h=>?_)⟩
 ·rw [qql] at h;replace h:=b9 h;have hx:(g.bh.map dw)[k]?=some (dw g.bh[k]):=by rw [qqe,qqa h];rfl
  have hm:=qqj h;generalize g.bh[k]=e at hx hm;obtain⟨e1,e2⟩:=hg.ends e hm;have qZf:=s100 cs vs i v g e hz hok hv (hg.sz e hm) e1 e2 (hg.ok e hm);have hsub:ax (dw e) 0 19=some (dw e):=by obtain⟨a,b,kind,var,chan,tag,⟨k1,n1,v1,ks1⟩,⟨op,⟨k2,n2,v2,ks2⟩,⟨k3,n3,v3,ks3⟩⟩⟩:=e;rfl
  exact⟨_,⟨bq hx,qf e⟩,_,Gl e,_,I8 e,_,rfl,_,rfl,_,hsub,cy qZf ⟨_,rfl,a_ rfl ⟨_,bn h (by omega),_,by omega,k+1,by omega,rfl,rfl,rfl,rfl,rfl,rfl,rfl⟩⟩⟩
 refine⟨_,rfl,fun q o39 x40 x41=>∃k:Nat,k<=N/\q=N - k/\o39=gK g/\x40=ii N/\x41=ii k,⟨_,0,qqS _,rfl,rfl,by rw [hN],rfl⟩,?_⟩;rintro q o39 x40 x41 ⟨k,hk,rfl,rfl,rfl,rfl⟩;refine⟨_,rfl,aa (fun h=>?_) (fun h=>?_)⟩
 ·replace h:=b9 h;have qZe:=s101 g k (by omega) (fun e hm=>by have:=hg.sz e hm;omega) hg.tag (hg.leave k (by omega) (by omega));exact⟨_,rfl,cy qZe ⟨_,rfl,a_ rfl ⟨_,bn h (by omega),_,by omega,k+1,by omega,rfl,rfl,rfl,rfl⟩⟩⟩
 ·exact⟨_,rfl,cy (s102 g N hN (by omega) (by omega) hg.hl hg.ends hg.EO) ⟨_,rfl,trivial,trivial,rfl⟩⟩
theorem s74 (cs:List Ch) (gs:List Gr) (vs:List Int) (hl:vs.length<=4194304):VS prog 74 [gI cs gs vs] (fun r=>r=gb (gi cs vs)):=by
 refine vs74 _ _ ?_;unfold W74;refine⟨rfl,_,rfl,_,rfl,.a [.l (cs.map c8),.l []],rfl,_,rfl,_,rfl,?_⟩;refine⟨fun q o9 l10 l11 o12 l13 x14 x15 x16=>∃k:Nat,k<=vs.length/\q=vs.length - k/\o9=.a [.l [],.l []]/\o12=.a [.l (cs.map c8),.l []]/\l13=((vs.take k).map (fun v=>(⟨v,[]⟩:Pr))).map gJ/\x14=.l (vs.map ii)/\x15=ii ((vs.map ii).length:Nat)/\x16=ii k,⟨_,0,qqS _,rfl,rfl,rfl,rfl,rfl,rfl,rfl⟩,?_⟩;rintro q o9 l10 l11 o12 l13 x14 x15 x16 ⟨k,hk,rfl,rfl,rfl,rfl,rfl,rfl,rfl⟩;refine⟨_,rfl,aa (fun h=>?_) (fun h=>?_)⟩
 ·rw [qql] at h;replace h:=b9 h;obtain⟨a,ha,ha'⟩:=RT h;refine⟨_,⟨bq ha',rfl⟩,_,rfl,_,rfl,rfl,rfl,gJ ⟨a,[]⟩,rfl,rfl,_,rfl,rfl,((vs.take (k+1)).map (fun v=>(⟨v,[]⟩:Pr))).map gJ,?_,_,rfl,_,bn h (by omega),_,by omega,k+1,by omega,rfl,rfl,rfl,rfl,rfl,rfl,rfl⟩;rw [n_ (by simp only [qql,qqn,qqq,most];omega) (by simp only [qql,qqn,qqq,most];omega),←jo ha];simp
 ·rw [qql] at h;have:=dy hk h;subst this;refine⟨_,rfl,_,rfl,trivial,_,rfl,gb (gi cs vs),?_,trivial,rfl⟩;rw [qqt];rfl
theorem s53 (cs:List Ch) (gs:List Gr) (vs:List Int) (hz:Aw (gi cs vs)) (hok:vb (gi cs vs)=true) (hl:gs.length=vs.length) (hg:∀(i:Nat) g v,gs[i]?=some g->vs[i]?=some v->TJ cs i v g):VS prog 53 [gI cs gs vs] (fun r=>r=.b true):=by
 have hvl:vs.length<=4194304:=by have:=hz.procs;simpa [gi] using this
 have h60:=s60 _ hz;rw [hok] at h60;have a1:bf .neq (ii ((gs.map gK).length:Nat)) (ii ((vs.map ii).length:Nat))=some (.b false):=by rw [HC,qql,qql,hl,Di];rfl
 refine vs53 _ _ ?_;unfold W53;refine⟨rfl,_,rfl,cy (s74 cs gs vs hvl) ⟨gb (gi cs vs),rfl,_,rfl,_,rfl,_,rfl,_,rfl,_,a1,bg rfl rfl (bg rfl (b8 h60) (bg rfl rfl ⟨_,rfl,a_ rfl ?_⟩))⟩⟩;refine⟨_,rfl,_,rfl,fun q o18 x19 x20 x21=>∃k:Nat,k<=gs.length/\q=gs.length - k/\o18=gb (gi cs vs)/\x19=.l (gs.map gK)/\x20=ii ((gs.map gK).length:Nat)/\x21=ii k,⟨_,0,qqS _,rfl,rfl,rfl,rfl,rfl⟩,?_⟩;rintro q o18 x19 x20 x21 ⟨k,hk,rfl,rfl,rfl,rfl,rfl⟩;refine⟨_,rfl,aa (fun h=>?_) (fun h=>⟨trivial,trivial,rfl⟩)⟩;rw [qql] at h;replace h:=b9 h;have hx:gs[k]?=some gs[k]:=qqa h;have hx':(gs.map gK)[k]?=some (gK gs[k]):=by rw [qqe,hx];rfl
 have hv:vs[k]?=some (vs[k]'(by omega)):=qqa _;have h75:=s75 cs vs k _ gs[k] hz hok hv (hg k _ _ hx hv);exact⟨_,⟨bq hx',rfl⟩,_,rfl,_,rfl,_,rfl,_,rfl,cy h75 ⟨_,rfl,a_ rfl ⟨_,bn h (by omega),_,by omega,k+1,by omega,rfl,rfl,rfl,rfl,rfl⟩⟩⟩
end Go.Ax.dg
set_option maxRecDepth 100000
namespace Go.Ax.dg
open Go Go.Ax Go.Ax.V Go.Ax.Ft
def pe (n m:Nat) (vs:List Int):Cf:=⟨List.replicate n 0,vs.map (fun v=>List.replicate v.toNat 0),List.replicate m [],List.replicate m 0⟩
def vF (v:Int):TV:=.l (List.replicate v.toNat (ii 0))
def ya (n m:Nat) (vs:List Int):TV:=.a [.l (List.replicate n (ii 0)),.l (vs.map vF),.l (List.replicate m (.l [])),.l (List.replicate m (ii 0))]
theorem H6 (n m:Nat) (vs:List Int):jw (pe n m vs)=ya n m vs:=by unfold jw pe ya;simp only [qqQ,List.map_map];congr 4;refine List.map_congr_left (fun v _=>?_);show TV.l ((List.replicate v.toNat 0).map ii)=TV.l _;rw [qqQ]
theorem JC {n m:Nat} {vs:List Int} (hn:n<=4194304) (hm:m<=4194304) (hv:vs.length<=4194304) (h6:∀v∈vs,0<=v/\v<=6):Pu (pe n m vs) where
 pos:=by simpa [pe] using hn
 vars:=by simpa [pe] using hv
 var l hl:=by obtain⟨v,h1,rfl⟩:=qqz.1 hl;have:=h6 v h1;rw [qqp];omega
 fe:=by simpa [pe] using hm
 queue l hl:=by rw [(List.mem_replicate.1 hl).2];exact qqS _
 states:=by simpa [pe] using hm
theorem T1 {b:Nat} {v:Int} (h0:0<=v) (h6:v<=6) (hb:b<=4096):FX b (ii v)=some v.toNat:=by have:=Ko (b:=b) (n:=v.toNat) (by omega) hb;rwa [qqP h0] at this
theorem N0 {bytes:Nat} {l:List TV} {x:TV} (hl:l.length<=4194304) (hb:bytes<=24):ga bytes l [x]=some (l++[x]):=by have h3:(l.length+1)*bytes<=4194305*24:=Nat.mul_le_mul (by omega) hb;exact n_ (by simp only [qqq,most];omega) (by simp only [qqq,most];omega)
theorem CQ {x:TV} {k:Nat}:List.replicate k x++[x]=List.replicate (k+1) x:=List.replicate_succ'.symm
theorem TB {vs:List Int} {k:Nat} (h:k < vs.length):∃v,vs[k]?=some v/\v∈vs/\(vs.map ii)[k]?=some (ii v):=
 ⟨_,qqa h,qqj h,by rw [qqe,qqa h];rfl⟩
theorem s31 (cs:List Ch) (gs:List Gr) (vs:List Int) (h53:VS prog 53 [gI cs gs vs] (fun r=>r=.b true)) (hc:cs.length<=4) (hg:gs.length<=4) (hl:gs.length=vs.length) (h6:∀v∈vs,0<=v/\v<=6) :
  VS prog 31 [gI cs gs vs] (fun r=>r=.tp [ya gs.length cs.length vs,ii 0]):=by
 have mg:(gs.map gK).length=gs.length:=qql _;have mc:(cs.map c8).length=cs.length:=qql _;refine vs31 _ _ ?_;unfold W31;refine⟨rfl,_,rfl,cy h53 ⟨_,rfl,a_ rfl ?_⟩⟩;refine⟨_,rfl,_,rfl,gs.length,by rw [mg];exact Ko (by omega) (by decide),_,rfl,_,rfl,cs.length,by rw [mc];exact Ko (by omega) (by decide),_,rfl,_,rfl,cs.length,by rw [mc];exact Ko (by omega) (by decide),_,rfl,_,rfl,_,rfl,_,rfl,_,rfl,_,rfl,?_⟩;refine⟨fun q o28 l29 l30 l31 l32 o33 l34 l35 l36 l37 x38 x39 x40=>∃k:Nat,k<=vs.length/\q=vs.length - k/\o28=Lr/\o33=Lr/\l34=List.replicate gs.length (ii 0)/\l35=(vs.take k).map vF/\l36=List.replicate cs.length (.l [])/\l37=List.replicate cs.length (ii 0)/\x38=.l (vs.map ii)/\x39=ii ((vs.map ii).length:Nat)/\x40=ii k,⟨_,0,qqS _,rfl,rfl,rfl,rfl,rfl,rfl,rfl,rfl,rfl,rfl⟩,?_⟩;rintro q o28 l29 l30 l31 l32 o33 l34 l35 l36 l37 x38 x39 x40 ⟨k,hk,rfl,rfl,rfl,rfl,rfl,rfl,rfl,rfl,rfl,rfl⟩;refine⟨_,rfl,aa (fun h=>?_) (fun h=>?_)⟩
 ·rw [qql] at h;replace h:=b9 h;obtain⟨v,hx,hm,hx'⟩:=TB h;obtain⟨h0,h1⟩:=h6 v hm;have ht:=gU (f:=vF) hx;exact⟨_,⟨bq hx',rfl⟩,_,rfl,_,T1 h0 h1 (by decide),rfl,rfl,rfl,_,rfl,rfl,_,app_1 (f:=vF) (by omega),_,rfl,_,bn h (by omega),_,by omega,k+1,by omega,rfl,rfl,rfl,rfl,ht,rfl,rfl,rfl,rfl,rfl⟩
 ·rw [qql] at h;have:=dy hk h;subst this;rw [qqt];exact⟨_,rfl,_,rfl,trivial,_,rfl,_,rfl,_,rfl,_,rfl,_,rfl,DB rfl rfl,rfl⟩
theorem s32 (cs:List Ch) (gs:List Gr) (vs:List Int) (hc:cs.length<=4) (hg:gs.length<=4) (hl:gs.length=vs.length) (h6:∀v∈vs,0<=v/\v<=6) :
  VS prog 32 [gI cs gs vs] (fun r=>r=ya gs.length cs.length vs):=by
 have mg:(gs.map gK).length=gs.length:=qql _;have mc:(cs.map c8).length=cs.length:=qql _;refine vs32 _ _ ?_;unfold W32;refine⟨rfl,?_⟩;refine⟨fun q o4 o5 l6 l7 l8 l9 o10 l11 l12 l13 l14 x15=>∃k:Nat,k<=gs.length/\q=gs.length - k/\o4=gI cs gs vs/\o5=Lr/\o10=Lr/\l11=List.replicate k (ii 0)/\l12=(vs.take k).map vF/\l13=[]/\l14=[]/\x15=ii k,⟨_,0,qqS _,rfl,rfl,rfl,rfl,rfl,rfl,rfl,rfl,rfl⟩,?_⟩;rintro q o4 o5 l6 l7 l8 l9 o10 l11 l12 l13 l14 x15 ⟨k,hk,rfl,rfl,rfl,rfl,rfl,rfl,rfl,rfl,rfl⟩;refine⟨_,rfl,_,rfl,_,rfl,aa (fun h=>?_) (fun h=>?_)⟩
 ·rw [mg] at h;replace h:=b9 h;obtain⟨v,hx,hm,hx'⟩:=TB (vs:=vs) (k:=k) (by omega);obtain⟨h0,h1⟩:=h6 v hm;have ht:=gU (f:=vF) hx;exact⟨rfl,rfl,_,rfl,rfl,_,N0 (by rw [qqp];omega) (by decide),_,rfl,_,⟨bq hx',rfl⟩,_,rfl,_,T1 h0 h1 (by decide),rfl,rfl,rfl,_,rfl,rfl,_,app_1 (f:=vF) (by omega),_,rfl,_,rfl,_,bn h (by omega),_,by omega,k+1,by omega,rfl,rfl,rfl,rfl,CQ,ht,rfl,rfl,rfl⟩
 rw [mg] at h;have:=dy hk h;subst this;clear h hk;rw [qqN (by omega)];refine⟨fun q o33 o34 l35 l36 l37 l38 o39 l40 l41 l42 l43 x44=>∃k:Nat,k<=cs.length/\q=cs.length - k/\o33=gI cs gs vs/\o34=Lr/\o39=Lr/\l40=List.replicate gs.length (ii 0)/\l41=vs.map vF/\l42=List.replicate k (.l [])/\l43=List.replicate k (ii 0)/\x44=ii k,⟨_,0,qqS _,rfl,rfl,rfl,rfl,rfl,rfl,rfl,rfl,rfl⟩,?_⟩;rintro q o33 o34 l35 l36 l37 l38 o39 l40 l41 l42 l43 x44 ⟨k,hk,rfl,rfl,rfl,rfl,rfl,rfl,rfl,rfl,rfl⟩;refine⟨_,rfl,_,rfl,_,rfl,aa (fun h=>?_) (fun h=>?_)⟩
 ·rw [mc] at h;replace h:=b9 h;exact⟨rfl,rfl,_,rfl,rfl,_,N0 (by rw [qqp];omega) (by decide),rfl,rfl,_,rfl,rfl,_,N0 (by rw [qqp];omega) (by decide),_,rfl,_,rfl,_,bn h (by omega),_,by omega,k+1,by omega,rfl,rfl,rfl,rfl,rfl,rfl,CQ,CQ,rfl⟩
 ·rw [mc] at h;have:=dy hk h;subst this;exact⟨_,rfl,_,rfl,trivial,_,rfl,_,rfl,_,rfl,_,rfl,_,rfl,trivial,rfl⟩
def lW:TV:=.a (List.replicate 164 (ii 0))
theorem Qs (x:TV):∀(N off:Nat),off < N->uz (List.replicate N x) off [x]=some (List.replicate N x)
 |0,off,h=>by omega
 |N+1,0,h=>by
  show (match s8 (List.replicate N x) [] with|some l=>some (x::l)|none=>none)=_;have e:∀cs,s8 cs []=some cs:=fun cs=>by cases cs<;>rfl
  rw [e];rfl
 |N+1,off+1,h=>by show (match uz (List.replicate N x) off [x] with|some l=>some (x::l)|none=>none)=_;rw [Qs x N off (by omega)];rfl
theorem TY {off:Nat} (h:off < 164):aq lW off 1 (ii 0)=some lW:=by show (match uz (List.replicate 164 (ii 0)) off [ii 0] with|some l=>some (TV.a l)|none=>none)=_;rw [Qs _ _ _ h];rfl
theorem AB {off n:Nat} (h:off+n<=164):ax lW off n=some (.a (((List.replicate 164 (ii 0)).drop off).take n)):=by show (match ML (List.replicate 164 (ii 0)) off n with|some l=>some (TV.a l)|none=>none)=_;rw [Jb,if_pos (by rw [qqp];exact h)]
theorem RL {off:Nat} (h:off < 164):ct lW off=some (ii 0):=by show (List.replicate 164 (ii 0))[off]?=_;rw [qqk,if_pos h]
theorem Z1:∀(n off:Nat),off+n<=164->OP lW off 1 (List.replicate n (ii 0))=some lW
 |0,off,h=>by show (match ax lW off 0 with|some _=>some lW|none=>none)=_;rw [AB (by omega)]
 |n+1,off,h=>by show (match aq lW off 1 (ii 0) with|some u=>OP u (off+1) 1 (List.replicate n (ii 0))|none=>none)=_;rw [TY (by omega)];exact Z1 n (off+1) (by omega)
theorem RH {l:List TV} {n N off:Nat} (hl:l=List.replicate n (ii 0)) (hn:n<=N) (h:off+n<=164):OP lW off 1 (l.take N)=some lW:=by subst hl;rw [qqN (by rw [qqp];exact hn)];exact Z1 n off h
theorem cp_q {off N:Nat} (h:off<=164):OP lW off 2 (([]:List TV).take N)=some lW:=by rw [List.take_nil];show (match ax lW off 0 with|some _=>some lW|none=>none)=_;rw [AB (by omega)]
theorem Sz:∀(n off:Nat),off+n<=164->O5 lW off 1 n=some (List.replicate n (ii 0))
 |0,off,h=>by show (match ax lW off 0 with|some _=>some []|none=>none)=_;rw [AB (by omega)];rfl
 |n+1,off,h=>by show (match (match ct lW off with|some e=>bif e.one then some e else none|none=>none) with|some e=>(match O5 lW (off+1) 1 n with|some r=>some (e::r)|none=>none)|none=>none)=_;rw [RL (by omega),Sz n (off+1) (by omega)];rfl
theorem sa_q {off:Nat} (h:off<=164):O5 lW off 2 0=some []:=by show (match ax lW off 0 with|some _=>some []|none=>none)=_;rw [AB (by omega)]
theorem VF {k n:Nat} (h:k<=n):EK (some (ii k)) n n=some k:=by show Si (k:Int) n=some k;exact Lf h
theorem mn2 (a b:Int):zw false [ii a,ii b]=some (ii (min a b)):=by
 show some (ii (bif n8 b a then b else a))=_;rw [c_,Int.min_def];by_cases h:b < a
 ·rw [qqI h,if_neg (by omega)];rfl
 ·rw [qqK h,if_pos (by omega)];rfl
theorem ZE {k:Nat} (h:k<=4):zw false [ii k,ii 4]=some (ii k):=by rw [mn2,show min (k:Int) 4=k by omega]
theorem M4 {es:List TV}:TU (.l es) none (some (ii (es.length:Nat)))=some (.l es):=by rw [PC (qqT _),qqt]
theorem Y5 (n m:Nat) (vs:List Int) (hn:n<=4) (hm:m<=4) (hl:vs.length<=4) (h6:∀v∈vs,0<=v/\v<=6):VS prog 27 [ya n m vs] (fun r=>r=lW):=by
 have mv:(vs.map vF).length=vs.length:=qql _;have mr:∀k (x:TV),cw 1 x->gk 1 (List.replicate k x):=fun k x hx=>wq (fun e he=>by rw [(List.mem_replicate.1 he).2];exact hx)
 refine vs27 _ _ ?_;unfold W27;refine⟨rfl,_,rfl,4,rfl,_,rfl,_,rfl,mr _ _ rfl,lW,RH rfl hn (by omega),_,AB (by omega),4,rfl,_,rfl,_,rfl,mr _ _ rfl,lW,RH rfl hm (by omega),_,rfl,_,rfl,_,rfl,ii vs.length,by rw [mv];exact ZE hl,.l (vs.map vF),⟨by rw [←mv];exact M4,fun es he=>by cases he;exact wq (fun e he=>by obtain⟨x,_,rfl⟩:=qqz.1 he;rfl)⟩,_,rfl,?_⟩;refine⟨fun q o20 o21 o22 x23 x24 x25=>∃k:Nat,k<=vs.length/\q=vs.length - k/\o20=ya n m vs/\o21=lW/\o22=lW/\x23=.l (vs.map vF)/\x24=ii ((vs.map vF).length:Nat)/\x25=ii k,⟨_,0,qqS _,rfl,rfl,rfl,rfl,rfl,rfl,rfl⟩,?_⟩;rintro q o20 o21 o22 x23 x24 x25 ⟨k,hk,rfl,rfl,rfl,rfl,rfl,rfl,rfl⟩;refine⟨_,rfl,aa (fun h=>?_) (fun h=>?_)⟩
 ·rw [mv] at h;replace h:=b9 h;obtain⟨v,hx,hm2,_⟩:=TB h;obtain⟨h0,h1⟩:=h6 v hm2;have hx':(vs.map vF)[k]?=some (vF v):=by rw [qqe,hx];rfl
  exact⟨_,⟨bq hx',rfl⟩,_,rfl,k,vi (by omega),_,AB (by omega),6,rfl,_,rfl,mr _ _ rfl,lW,RH rfl (by omega) (by omega),_,bn h (by omega),_,by omega,k+1,by omega,rfl,rfl,rfl,rfl,rfl,rfl,rfl⟩
 clear h hk;refine⟨_,rfl,_,rfl,_,rfl,ii m,by rw [qqp];exact ZE hm,.l (List.replicate m (.l [])),⟨by have:=M4 (es:=List.replicate m (TV.l []));rwa [qqp] at this,fun es he=>by cases he;exact mr _ _ rfl⟩,_,rfl,?_⟩;refine⟨fun q o44 o45 x46 x47 x48=>∃k:Nat,k<=m/\q=m - k/\o44=lW/\o45=lW/\x46=.l (List.replicate m (.l []))/\x47=ii ((List.replicate m (TV.l [])).length:Nat)/\x48=ii k,⟨_,0,qqS _,rfl,rfl,rfl,rfl,rfl,rfl⟩,?_⟩;rintro q o44 o45 x46 x47 x48 ⟨k,hk,rfl,rfl,rfl,rfl,rfl,rfl⟩;refine⟨_,rfl,aa (fun h=>?_) (fun h=>?_)⟩
 ·rw [qqp] at h;replace h:=b9 h;have hx':(List.replicate m (TV.l []))[k]?=some (.l []):=by rw [qqk,if_pos h]
  exact⟨_,⟨bq hx',rfl⟩,_,rfl,k,vi (by omega),_,AB (by omega),16,rfl,[],rfl,trivial,lW,cp_q (by omega),k,vi (by omega),lW,TY (by omega),_,bn h (by omega),_,by omega,k+1,by omega,rfl,rfl,rfl,rfl,rfl,rfl⟩
 ·exact⟨_,rfl,_,rfl,trivial,_,rfl,trivial,rfl⟩
theorem MY {f:Nat} {ts:List TV} {c:TV} {K:TV->Prop} (h:Ly prog f ts (fun r=>r=c)) (hk:K c):Ly prog f ts K:=h.mono (fun r hr=>by subst hr;exact hk)
theorem o56 (n:Nat) (hl:n<=4194304):Ly prog 56 [.l (List.replicate n (ii 0))] (fun r=>r=.l (List.replicate n (ii 0))):=by
 refine Xh _ _ ?_;unfold WD;refine⟨_,rfl,fun b hb=>aa (fun h=>?_) (fun h=>?_)⟩
 ·refine⟨trivial,?_⟩;cases n with
  |zero=>rfl
  |succ n=>have:=hb (by simp [List.replicate_succ]);rw [h] at this;cases this
 ·have hln:(List.replicate n (ii 0)).length<=4194304:=by rw [qqp];exact hl
  exact⟨_,rfl,wq (fun e he=>by rw [(List.mem_replicate.1 he).2];rfl),_,lT,trivial,(fun e he=>by rw [List.nil_append] at he;rw [(List.mem_replicate.1 he).2];rfl),rfl⟩
theorem o57:Ly prog 57 [.l []] (fun r=>r=.l []):=by refine Xg _ _ ?_;unfold WB;exact⟨_,rfl,fun b hb=>aa (fun h=>⟨trivial,rfl⟩) (fun h=>⟨_,rfl,trivial,_,rfl,trivial,fun e he=>(by cases he),rfl⟩)⟩
end Go.Ax.dg
set_option maxRecDepth 100000
namespace Go.Ax.dg
open Go Go.Ax Go.Ax.V Go.Ax.Ft
theorem Xf {n:Int} (h:1<=n):wi 0 n=true:=by unfold wi;rw [qqI (by omega),qqI (by omega)];rfl
theorem Mn (cs:List Ch) (gs:List Gr) (vs:List Int) (hl:gs.length=vs.length) (h6:∀v∈vs,0<=v/\v<=6) (hn:∀g∈gs,2<=g.nodes) (hs:∀c∈cs,1<=c.size):C4 cs gs vs (pe gs.length cs.length vs)=true:=by
 have rep:∀{α:Type} (n i:Nat) (x d:α),i < n->(List.replicate n x).getD i d=x:=fun n i x d h=>by rw [List.getD_eq_getElem?_getD,qqk,if_pos h];rfl
 unfold C4;rw [qqB,qqB];refine⟨⟨?_,?_⟩,?_⟩
 ·unfold Ag pe;simp [hl]
 ·rw [qqA];intro i hi;have hi':i < gs.length:=by simpa using hi
  have hv:i < vs.length:=by omega
  have e1:(pe gs.length cs.length vs).vars.getD i []=List.replicate (vs.getD i 0).toNat 0:=by show (vs.map _).getD i []=_;rw [List.getD_eq_getElem?_getD,qqe,List.getD_eq_getElem?_getD,qqa hv];rfl
  have e2:(pe gs.length cs.length vs).pos.getD i 0=0:=rep _ _ _ _ hi';have h0:=h6 _ (A5 (d:=0) hv);unfold Hq;rw [e1,e2,Xf (by have:=hn _ (A5 (d:=gr0) hi');omega),qqp,qqI (by omega)];rw [qqB];refine⟨rfl,?_⟩;rw [qqA];intro x hx;rw [(List.mem_replicate.1 hx).2];rfl
 ·rw [qqA];intro i hi;have hi':i < cs.length:=by simpa using hi
  have e1:(pe gs.length cs.length vs).fe.getD i []=[]:=rep _ _ _ _ hi';have e2:(pe gs.length cs.length vs).states.getD i 0=0:=rep _ _ _ _ hi';unfold Ia;rw [e1,e2,Xf (by omega)];unfold AK;rw [List.all_nil,qqI (by have:=hs _ (A5 (d:=Z5) hi');show ((0:Nat):Int)<=_;omega)];rfl
theorem s54z (cs:List Ch) (gs:List Gr) (vs:List Int) (hc:cs.length<=4) (hg:gs.length<=4) (hl:gs.length=vs.length) (h6:∀v∈vs,0<=v/\v<=6) (hn:∀g∈gs,2<=g.nodes) (hs:∀c∈cs,1<=c.size) :
  VS prog 54 [gI cs gs vs,ya gs.length cs.length vs] (fun r=>r=.b true):=by
 have:=s54 cs gs vs (pe gs.length cs.length vs) (by omega) (by omega) (by omega) (JC (by omega) (by omega) (by omega) h6);rwa [H6,Mn cs gs vs hl h6 hn hs] at this
theorem TQ {f:Nat} {ts:List TV} {c:TV} {K:TV->Prop} (h:VS prog f ts (fun r=>r=c)) (hs:c.LP=true) (hk:K c):VS prog f ts (fun r=>lB false r/\K r):=h.mono (fun r hr=>by subst hr;exact⟨hs,hk⟩)
theorem s22z (cs:List Ch) (gs:List Gr) (vs:List Int) (n m:Nat) (h53:VS prog 53 [gI cs gs vs] (fun r=>r=.b true)) (h54:VS prog 54 [gI cs gs vs,ya n m vs] (fun r=>r=.b true)):VS prog 22 [gI cs gs vs,ya n m vs] (fun r=>r=.b true):=by refine vs22 _ _ _ ?_;unfold W22;exact⟨rfl,rfl,_,rfl,cy h53 (bg rfl rfl (bg rfl rfl (bg rfl (b8 h54) ⟨_,rfl,trivial,trivial,rfl⟩)))⟩
theorem bd_v {v:Int} (h0:0<=v) (h6:v<=6):EK (some (ii v)) 6 6=some v.toNat:=by have:=VF (k:=v.toNat) (n:=6) (by omega);rwa [qqP h0] at this
theorem s26z (cs:List Ch) (gs:List Gr) (vs:List Int) (h53:VS prog 53 [gI cs gs vs] (fun r=>r=.b true)) (h54:VS prog 54 [gI cs gs vs,ya gs.length cs.length vs] (fun r=>r=.b true)) (hc:cs.length<=4) (hg:gs.length<=4) (hl:gs.length=vs.length) (h6:∀v∈vs,0<=v/\v<=6) :
  VS prog 26 [gI cs gs vs,lW] (fun r=>r=.tp [ya gs.length cs.length vs,ii 0]):=by
 have mg:(gs.map gK).length=gs.length:=qql _;have mc:(cs.map c8).length=cs.length:=qql _;have h27:=Y5 gs.length cs.length vs hg hc (by omega) h6;refine vs26 _ _ _ ?_;unfold W26;refine⟨rfl,rfl,_,rfl,cy h53 ⟨_,rfl,a_ rfl ?_⟩⟩;refine⟨_,rfl,_,rfl,_,AB (by omega),gs.length,by rw [mg];exact VF hg,_,Sz _ _ (by omega),MY (o56 _ (by omega)) ⟨_,rfl,_,rfl,_,AB (by omega),cs.length,by rw [mc];exact VF hc,_,Sz _ _ (by omega),MY (o56 _ (by omega)) ⟨_,rfl,_,rfl,_,rfl,_,rfl,_,rfl,?_⟩⟩⟩;refine⟨fun q o30 o31 o32 l33 l34 l35 l36 o37 l38 l39 x40 x41 x42=>∃k:Nat,k<=vs.length/\q=vs.length - k/\o30=gI cs gs vs/\o31=lW/\o32=Lr/\o37=.a [.l (List.replicate gs.length (ii 0)),.l [],.l [],.l (List.replicate cs.length (ii 0))]/\l38=(vs.take k).map vF/\l39=[]/\x40=.l (vs.map ii)/\x41=ii ((vs.map ii).length:Nat)/\x42=ii k,⟨_,0,qqS _,rfl,rfl,rfl,rfl,rfl,rfl,rfl,rfl,rfl,rfl⟩,?_⟩;rintro q o30 o31 o32 l33 l34 l35 l36 o37 l38 l39 x40 x41 x42 ⟨k,hk,rfl,rfl,rfl,rfl,rfl,rfl,rfl,rfl,rfl,rfl⟩;refine⟨_,rfl,aa (fun h=>?_) (fun h=>?_)⟩
 ·rw [qql] at h;replace h:=b9 h;obtain⟨v,hx,hm,hx'⟩:=TB h;obtain⟨h0,h1⟩:=h6 v hm;have ht:=gU (f:=vF) hx;exact⟨_,⟨bq hx',rfl⟩,_,rfl,k,vi (by omega),_,AB (by omega),_,bd_v h0 h1,_,Sz _ _ (by omega),MY (o56 _ (by omega)) ⟨rfl,rfl,_,rfl,rfl,_,app_1 (f:=vF) (by omega),_,rfl,_,bn h (by omega),_,by omega,k+1,by omega,rfl,rfl,rfl,rfl,rfl,ht,rfl,rfl,rfl,rfl⟩⟩
 rw [qql] at h;have:=dy hk h;subst this;rw [qqt];clear h hk;refine⟨_,rfl,_,rfl,?_⟩;refine⟨fun q o60 o61 o62 l63 l64 l65 l66 o67 l68 l69 x70 x71=>∃k:Nat,k<=cs.length/\q=cs.length - k/\o60=gI cs gs vs/\o61=lW/\o62=Lr/\o67=.a [.l (List.replicate gs.length (ii 0)),.l [],.l [],.l (List.replicate cs.length (ii 0))]/\l68=vs.map vF/\l69=List.replicate k (.l [])/\x70=ii ((cs.map c8).length:Nat)/\x71=ii k,⟨_,0,qqS _,rfl,rfl,rfl,rfl,rfl,rfl,rfl,rfl,rfl⟩,?_⟩;rintro q o60 o61 o62 l63 l64 l65 l66 o67 l68 l69 x70 x71 ⟨k,hk,rfl,rfl,rfl,rfl,rfl,rfl,rfl,rfl,rfl⟩;refine⟨_,rfl,aa (fun h=>?_) (fun h=>?_)⟩
 ·rw [mc] at h;replace h:=b9 h;exact⟨k,vi (by omega),ii 0,RL (by omega),ii 0,rfl,ii 0,rfl,k,vi (by omega),_,AB (by omega),0,rfl,[],sa_q (by omega),MY o57 ⟨rfl,rfl,_,rfl,rfl,_,N0 (by rw [qqp];omega) (by decide),_,rfl,_,bn h (by omega),_,by omega,k+1,by omega,rfl,rfl,rfl,rfl,rfl,rfl,CQ,rfl,rfl⟩⟩
 rw [mc] at h;have:=dy hk h;subst this;refine⟨_,rfl,_,rfl,_,rfl,TQ h27 rfl ⟨lW,rfl,_,rfl,_,rfl,.b false,rfl,a_ rfl ?_⟩⟩;exact⟨_,rfl,_,rfl,_,rfl,_,rfl,TQ h54 rfl ⟨_,rfl,bg (v:=lW) rfl rfl (bg (v:=lW) rfl rfl (bg (v:=.b false) rfl rfl ⟨_,rfl,a_ rfl ⟨_,rfl,_,rfl,trivial,_,rfl,_,rfl,_,rfl,DB rfl rfl,rfl⟩⟩))⟩⟩
end Go.Ax.dg
set_option maxRecDepth 100000
namespace Go.Ax.dg
open Go Go.Ax Go.Ax.V Go.Ax.Ft
theorem UI:∀(e:Ex),x_ e<=4194304->VS prog 36 [j9 e] (fun r=>r=j9 e)
 |.mk k n v ks,hB=>by
  have hks:qp ks<=4194304:=by simp only [x_] at hB;omega
  have hk:=qqR (Az ks) hks;have ih:∀e∈ks,VS prog 36 [j9 e] (fun r=>r=j9 e):=fun e he=>UI e (qqR (Ay he) hks)
  refine vs36 _ _ ?_;unfold W36
  (repeat (first|refine dj ?_|refine di ?_))
  refine⟨fun m o11 o12 l13 o14 l15 x16=>∃i:Nat,i<=ks.length/\m=ks.length - i/\o11=j9 (.mk k n v ks)/\o12=.a [ii 0,ii 0,ii 0,.l []]/\o14=.a [ii k,ii n,ii v,.l []]/\l15=(ks.take i).map j9/\x16=ii i,
   ⟨_,0,by omega,rfl,rfl,rfl,rfl,rfl,rfl⟩,?_⟩
  rintro m o11 o12 l13 o14 l15 x16 ⟨i,hi,rfl,rfl,rfl,rfl,rfl,rfl⟩;refine⟨_,rfl,_,rfl,_,rfl,aa (fun h3=>?_) (fun h3=>?_)⟩
  ·rw [iu] at h3;replace h3:=b9 h3;obtain⟨x,hx⟩:∃x,ks[i]?=some x:=⟨_,qqa h3⟩;have hx':(kg ks)[i]?=some (j9 x):=by rw [lp,qqe,hx];rfl
   have hih:=ih x (qqi hx);refine⟨_,rfl,_,⟨bq hx',Dj x⟩,?_⟩;have hl:((ks.take i).map j9).length<=4194304:=by simp;omega
   have ht:=gU (f:=j9) hx;obtain⟨k',n',v',ks'⟩:=x
   (repeat (first|refine dj ?_|refine di ?_|refine lG ?_))
   refine⟨_,lT,?_⟩;rw [ht];exact⟨_,rfl,_,bn h3 (by omega),_,by omega,i+1,by omega,rfl,rfl,rfl,rfl,rfl,rfl⟩
  ·rw [iu] at h3;obtain rfl:=dy hi h3
   (repeat (first|refine dj ?_|refine di ?_))
   refine⟨trivial,_,rfl,_,rfl,trivial,?_⟩;rw [qqt,←lp];rfl
theorem s64:∀(n:Nat) (l:List Sm),fq l<=n->n<=4194304->VS prog 64 [.l (gh l)] (fun r=>r=.l (gh l)):=by
 intro n
 induction n with
 |zero=>
  intro l hl _;have:l=[]:=by
   cases l with
   |nil=>rfl
   |cons s r=>have:=zg s;simp only [fq] at hl;omega
  subst this;refine Xl _ _ ?_;unfold W64;refine⟨fun m x4 l5 x6=>x4=.l []/\l5=[]/\x6=ii 0,⟨0,rfl,rfl,rfl⟩,?_⟩;rintro m x4 l5 x6 ⟨rfl,rfl,rfl⟩;exact⟨_,rfl,_,rfl,a_ rfl ⟨trivial,trivial,rfl⟩⟩
 |succ n ih=>
  intro l hl hn;have hll:=mq l;refine Xl _ _ ?_;unfold W64;refine⟨fun m x4 l5 x6=>∃i:Nat,i<=l.length/\m=l.length - i/\x4=.l (gh l)/\l5=(l.take i).map mh/\x6=ii i,⟨_,0,by omega,rfl,rfl,rfl,rfl⟩,?_⟩;rintro m x4 l5 x6 ⟨i,hi,rfl,rfl,rfl,rfl⟩;refine⟨_,rfl,_,rfl,aa (fun h3=>?_) (fun h3=>?_)⟩
  ·rw [fl] at h3;replace h3:=b9 h3;obtain⟨s,hx⟩:∃x,l[i]?=some x:=⟨_,qqa h3⟩;have hx':(gh l)[i]?=some (mh s):=by rw [nq,qqe,hx];rfl
   have hsz:=jr (qqi hx);have htk:=gU (f:=mh) hx;refine⟨_,⟨bq hx',Ab s⟩,?_⟩;obtain⟨kind,var,chan,tag,e,c,body,els,cu⟩:=s;rw [za] at hsz;have hbody:=ih body (by omega) (by omega);have qxm:=ih els (by omega) (by omega);have qxA:∀tag var body,Ar.mk tag var body∈cu->VS prog 64 [.l (gh body)] (fun r=>r=.l (gh body)):=fun tag var body hm=>ih body (by have:=uq hm;simp only [LF] at this;omega) (by omega)
   have qXa:=AA cu;have hcl:x_ c.l<=4194304:=by have:=hsz;simp only [Ck] at this;omega
   have hcr:x_ c.r<=4194304:=by have:=hsz;simp only [Ck] at this;omega
   have he:=UI e (by omega);have h1:=UI c.l hcl;have h2:=UI c.r hcr;obtain⟨k1,n1,v1,ks1⟩:=e;obtain⟨op,⟨k2,n2,v2,ks2⟩,⟨k3,n3,v3,ks3⟩⟩:=c
   (repeat (first|refine dj ?_|refine di ?_|refine lG ?_))
   refine⟨fun m o42 o43 l44 x45 l46 x47 x48=>∃j:Nat,j<=cu.length/\m=cu.length - j/\o42=mh (.mk kind var chan tag (.mk k1 n1 v1 ks1) ⟨op,.mk k2 n2 v2 ks2,.mk k3 n3 v3 ks3⟩ body els cu)/\
    o43=mh (.mk kind var chan tag (.mk k1 n1 v1 ks1) ⟨op,.mk k2 n2 v2 ks2,.mk k3 n3 v3 ks3⟩ body els [])/\l44=(cu.take j).map D7/\x45=.l (gh l)/\l46=(l.take i).map mh/\x47=ii i/\x48=ii j,
    ⟨_,0,by omega,rfl,rfl,rfl,rfl,rfl,rfl,rfl,rfl⟩,?_⟩
   rintro m o42 o43 l44 x45 l46 x47 x48 ⟨j,hj,rfl,rfl,rfl,rfl,rfl,rfl,rfl,rfl⟩;refine⟨_,rfl,_,rfl,_,rfl,aa (fun h5=>?_) (fun h5=>?_)⟩
   ·rw [fm] at h5;replace h5:=b9 h5;obtain⟨w,hw⟩:∃x,cu[j]?=some x:=⟨_,qqa h5⟩;have hw':(oQ cu)[j]?=some (D7 w):=by rw [nr,qqe,hw];rfl
    have hta:=gU (f:=D7) hw;have hla:((cu.take j).map D7).length<=4194304:=by simp;omega
    obtain⟨tg,vr,bd⟩:=w;have hb:=qxA tg vr bd (qqi hw);refine⟨_,rfl,_,⟨bq hw',rfl⟩,_,rfl,_,rfl,_,⟨bq hw',rfl⟩,_,rfl,_,rfl,_,⟨bq hw',rfl⟩,_,rfl,cy hb ⟨_,rfl,_,rfl,_,rfl,rfl,rfl,_,rfl,rfl,_,lT,?_⟩⟩;exact⟨_,rfl,_,bn h5 (by omega),_,by omega,j+1,by omega,rfl,rfl,rfl,hta,rfl,rfl,rfl,rfl⟩
   ·rw [fm] at h5;obtain rfl:=dy hj h5;rw [qqt,←nr];have hls:((l.take i).map mh).length<=4194304:=by simp;omega
    refine⟨_,rfl,rfl,rfl,_,rfl,rfl,_,rfl,rfl,_,lT,?_⟩;refine⟨_,bn h3 (by omega),_,by omega,i+1,by omega,rfl,rfl,?_,rfl⟩;rw [←htk];rfl
  ·rw [fl] at h3;obtain rfl:=dy hi h3;rw [qqt,←nq];exact⟨trivial,trivial,rfl⟩
theorem s44 (p:Pg) (hz:Aw p):VS prog 44 [gb p] (fun r=>r=gb p):=by
 have hlc:=hz.au;have hlp:=hz.procs;have hl1:(p.au.map c8).length=p.au.length:=qql _;have hl2:(p.procs.map gJ).length=p.procs.length:=qql _;refine vs44 _ _ ?_;unfold W44;refine⟨rfl,fun m o4 o5 l6 l7 o8 l9 l10 x11=>∃i:Nat,i<=p.au.length/\m=p.au.length - i/\o4=gb p/\o5=.a [.l [],.l []]/\o8=.a [.l [],.l []]/\l9=(p.au.take i).map c8/\l10=[]/\x11=ii i,⟨_,0,by omega,rfl,rfl,rfl,rfl,rfl,rfl,rfl⟩,?_⟩;rintro m o4 o5 l6 l7 o8 l9 l10 x11 ⟨i,hi,rfl,rfl,rfl,rfl,rfl,rfl,rfl⟩;refine⟨_,rfl,_,rfl,_,rfl,aa (fun h3=>?_) (fun h3=>?_)⟩
 ·rw [hl1] at h3;replace h3:=b9 h3;obtain⟨c,hx⟩:∃x,p.au[i]?=some x:=⟨_,qqa h3⟩;have hx':(p.au.map c8)[i]?=some (c8 c):=by rw [qqe,hx];rfl
  have hcm:=qqi hx;have hrl:=hz.rules c hcm;have hrr:=hz.rows c hcm;have hmr:(c.rule.map lg).length=c.rule.length:=qql _;have htk:=gU (f:=c8) hx;refine⟨_,rfl,_,⟨bq hx',rfl⟩,?_⟩
  (repeat (first|refine dj ?_|refine di ?_))
  refine⟨fun m o33 o34 l35 l36 o37 l38 l39 o40 o41 l42 x43 x44=>∃j:Nat,j<=c.rule.length/\m=c.rule.length - j/\o33=gb p/\o34=.a [.l [],.l []]/\o37=.a [.l [],.l []]/\l38=(p.au.take i).map c8/\l39=[]/\o40=c8 c/\o41=c8 {c with rule:=[]}/\
   l42=(c.rule.take j).map lg/\x43=ii i/\x44=ii j,⟨_,0,by omega,rfl,rfl,rfl,rfl,rfl,rfl,rfl,rfl,rfl,rfl,rfl⟩,?_⟩
  rintro m o33 o34 l35 l36 o37 l38 l39 o40 o41 l42 x43 x44 ⟨j,hj,rfl,rfl,rfl,rfl,rfl,rfl,rfl,rfl,rfl,rfl,rfl⟩;refine⟨_,rfl,_,rfl,_,rfl,aa (fun h5=>?_) (fun h5=>?_)⟩
  ·rw [hmr] at h5;replace h5:=b9 h5;obtain⟨row,hy⟩:∃x,c.rule[j]?=some x:=⟨_,qqa h5⟩;have hy':(c.rule.map lg)[j]?=some (lg row):=by rw [qqe,hy];rfl
   have hrow:=hrr row (qqi hy);have hrm:(row.map ii).length=row.length:=qql _;have hta:=gU (f:=lg) hy;have hla:((c.rule.take j).map lg).length<=4194304:=by simp;omega
   refine⟨_,rfl,_,⟨bq hy',rfl⟩,_,rfl,_,rfl,wq (fun e he=>by obtain⟨x,_,rfl⟩:=qqz.1 he;rfl),_,lT,rfl,rfl,rfl,_,rfl,rfl,_,lT,?_⟩;exact⟨_,rfl,_,bn h5 (by omega),_,by omega,j+1,by omega,rfl,rfl,rfl,rfl,rfl,rfl,rfl,rfl,hta,rfl,rfl⟩
  ·rw [hmr] at h5;obtain rfl:=dy hj h5;rw [qqt];have hls:((p.au.take i).map c8).length<=4194304:=by simp;omega
   refine⟨_,rfl,rfl,rfl,_,rfl,rfl,_,rfl,rfl,_,lT,?_⟩;exact⟨_,rfl,_,bn h3 (by omega),_,by omega,i+1,by omega,rfl,rfl,rfl,rfl,htk,rfl,rfl⟩
 ·rw [hl1] at h3;obtain rfl:=dy hi h3;rw [qqt];refine⟨fun m o4 o5 l6 l7 o8 l9 l10 x11=>∃i:Nat,i<=p.procs.length/\m=p.procs.length - i/\o4=gb p/\o5=.a [.l [],.l []]/\o8=.a [.l [],.l []]/\l9=p.au.map c8/\l10=(p.procs.take i).map gJ/\x11=ii i,⟨_,0,by omega,rfl,rfl,rfl,rfl,rfl,rfl,rfl⟩,?_⟩;rintro m o4 o5 l6 l7 o8 l9 l10 x11 ⟨i,hi,rfl,rfl,rfl,rfl,rfl,rfl,rfl⟩;refine⟨_,rfl,_,rfl,_,rfl,aa (fun h4=>?_) (fun h4=>?_)⟩
  ·rw [hl2] at h4;replace h4:=b9 h4;obtain⟨y,hx⟩:∃x,p.procs[i]?=some x:=⟨_,qqa h4⟩;have hx':(p.procs.map gJ)[i]?=some (gJ y):=by rw [qqe,hx];rfl
   have hb:=hz.body y (qqi hx);have h64:=s64 4194304 y.body hb (qqT _);have htk:=gU (f:=gJ) hx;have hls:((p.procs.take i).map gJ).length<=4194304:=by simp;omega
   refine⟨_,rfl,_,⟨bq hx',rfl⟩,_,rfl,_,rfl,_,⟨bq hx',rfl⟩,_,rfl,cy h64 ⟨_,rfl,_,rfl,rfl,rfl,_,rfl,rfl,_,lT,?_⟩⟩;exact⟨_,rfl,_,bn h4 (by omega),_,by omega,i+1,by omega,rfl,rfl,rfl,rfl,rfl,htk,rfl⟩
  ·rw [hl2] at h4;obtain rfl:=dy hi h4;rw [qqt];exact⟨_,rfl,_,rfl,trivial,_,rfl,_,rfl,_,rfl,trivial,rfl⟩
end Go.Ax.dg
set_option maxRecDepth 100000
namespace Go.Ax.dg
open Go Go.Ax Go.Ax.V Go.Ax.Ft
theorem s23 (cs:List Ch) (gs:List Gr) (vs:List Int) (hz:Aw ⟨cs,[]⟩) (hg:gs.length<=4194304) (hv:vs.length<=4194304) (he:∀g∈gs,g.bh.length<=4194304/\g.heads.length<=4194304/\∀e∈g.bh,x_ e.e+Ck e.c<=4194304) :
  VS prog 23 [gI cs gs vs] (fun r=>r=gI cs gs vs):=by
 have mg:(gs.map gK).length=gs.length:=qql _;refine vs23 _ _ ?_;unfold W23;refine⟨rfl,_,rfl,_,rfl,_,rfl,cy (s44 ⟨cs,[]⟩ hz) ⟨_,rfl,_,rfl,_,rfl,JD _,_,Lh hv (by decide),_,rfl,_,rfl,_,rfl,?_⟩⟩;refine⟨fun q o15 o16 l17 l18 l19 o20 l21 l22 x23=>∃k:Nat,k<=gs.length/\q=gs.length - k/\o15=gI cs gs vs/\o16=.a [.l [],.l [],.l []]/\o20=.a [.l (cs.map c8),.l [],.l []]/\l21=(gs.take k).map gK/\l22=vs.map ii/\x23=ii k,⟨_,0,qqS _,rfl,rfl,rfl,rfl,rfl,rfl,rfl⟩,?_⟩;rintro q o15 o16 l17 l18 l19 o20 l21 l22 x23 ⟨k,hk,rfl,rfl,rfl,rfl,rfl,rfl,rfl⟩;refine⟨_,rfl,_,rfl,_,rfl,aa (fun h=>?_) (fun h=>?_)⟩
 ·rw [mg] at h;replace h:=b9 h;have hx:gs[k]?=some gs[k]:=qqa h;have hx':(gs.map gK)[k]?=some (gK gs[k]):=by rw [qqe,hx];rfl
  obtain⟨q1,q2,q3⟩:=he _ (qqj h);have ht:=gU (f:=gK) hx;generalize gs[k]=g at hx' q1 q2 q3 ht;have me:(g.bh.map dw).length=g.bh.length:=qql _;refine⟨_,rfl,_,⟨bq hx',rfl⟩,_,rfl,_,rfl,_,rfl,_,rfl,_,rfl,JD _,_,Lh q2 (by decide),_,rfl,_,rfl,_,rfl,?_⟩;refine⟨fun q o41 o42 l43 l44 l45 o46 l47 l48 o49 o50 l51 l52 x53 x54=>∃j:Nat,j<=g.bh.length/\q=g.bh.length - j/\o41=gI cs gs vs/\o42=.a [.l [],.l [],.l []]/\o46=.a [.l (cs.map c8),.l [],.l []]/\l47=(gs.take k).map gK/\l48=vs.map ii/\o49=gK g/\o50=.a [ii g.nodes,.l [],.l []]/\l51=(g.bh.take j).map dw/\l52=g.heads.map ii/\x53=ii k/\x54=ii j,⟨_,0,qqS _,rfl,rfl,rfl,rfl,rfl,rfl,rfl,rfl,rfl,rfl,rfl,rfl⟩,?_⟩;rintro q o41 o42 l43 l44 l45 o46 l47 l48 o49 o50 l51 l52 x53 x54 ⟨j,hj,rfl,rfl,rfl,rfl,rfl,rfl,rfl,rfl,rfl,rfl,rfl,rfl⟩;refine⟨_,rfl,_,rfl,_,rfl,aa (fun h5=>?_) (fun h5=>?_)⟩
  ·rw [me] at h5;replace h5:=b9 h5;have hy:g.bh[j]?=some g.bh[j]:=qqa h5;have hy':(g.bh.map dw)[j]?=some (dw g.bh[j]):=by rw [qqe,hy];rfl
   have hsz:=q3 _ (qqj h5);have ht2:=gU (f:=dw) hy;generalize g.bh[j]=e at hy' hsz ht2;have hlt:((g.bh.take j).map dw).length<=4194304:=by rw [qql,qqn];omega
   obtain⟨a,b,kind,var,chan,tag,e1,⟨op,l,r⟩⟩:=e;simp only [Ck] at hsz;have h1:=UI e1 (by omega);have h2:=UI l (by omega);have h3:=UI r (by omega);obtain⟨k1,n1,v1,ks1⟩:=e1;obtain⟨k2,n2,v2,ks2⟩:=l;obtain⟨k3,n3,v3,ks3⟩:=r;refine⟨_,rfl,_,⟨bq hy',rfl⟩,_,rfl,_,rfl,_,rfl,_,rfl,_,rfl,_,rfl,_,rfl,_,rfl,_,rfl,cy h1 ⟨_,rfl,_,rfl,cy h2 ⟨_,rfl,cy h3 ?_⟩⟩⟩;exact⟨_,rfl,_,rfl,_,rfl,_,rfl,_,rfl,_,rfl,_,rfl,_,rfl,_,rfl,_,rfl,_,rfl,rfl,rfl,_,rfl,rfl,_,lT,_,rfl,_,bn h5 (by omega),_,by omega,j+1,by omega,rfl,rfl,rfl,rfl,rfl,rfl,rfl,rfl,ht2,rfl,rfl,rfl⟩
  ·rw [me] at h5;have:=dy hj h5;subst this;rw [qqt];have hlt:((gs.take k).map gK).length<=4194304:=by rw [qql,qqn];omega
   exact⟨_,rfl,rfl,rfl,_,rfl,_,rfl,rfl,_,rfl,rfl,_,lT,_,rfl,_,bn h (by omega),_,by omega,k+1,by omega,rfl,rfl,rfl,rfl,ht,rfl,rfl⟩
 ·rw [mg] at h;have:=dy hk h;subst this;rw [qqt];exact⟨_,rfl,_,rfl,trivial,_,rfl,_,rfl,_,rfl,trivial,rfl⟩
end Go.Ax.dg
set_option maxRecDepth 100000
namespace Go.Ax.dg
open Go Go.Ax Go.Ax.V Go.Ax.Ft
theorem UM (e:Ex):VS prog 125 [j9 e] (fun r=>r=.b (Kk e)):=by
 obtain⟨k,n,v,ks⟩:=e;refine XN _ _ ?_;unfold W125
 (repeat (first|refine dj ?_|refine di ?_))
 refine⟨trivial,trivial,?_⟩;simp only [bp,iu,gu];rfl
theorem s124 (c:Co):VS prog 124 [GY c] (fun r=>r=.b (O8 c)):=by
 obtain⟨op,l,r⟩:=c;have hl:=UM l;have hr:=UM r;obtain⟨k1,n1,v1,ks1⟩:=l;obtain⟨k2,n2,v2,ks2⟩:=r;refine XO _ _ ?_;unfold W124
 (repeat (first|refine dj ?_|refine di ?_|refine lG ?_))
 refine⟨trivial,trivial,?_⟩;simp only [bp];rfl
theorem Zq (vars n v:Int) (ks:List Ex):BR vars (.mk 1 n v ks)=(within n 0 2147483647&&decide (v=0)&&ks.isEmpty):=by
 cases ks with
 |nil=>simp [BR,FU,vh,Bool.and_comm]
 |cons x r=>have h0:(0:Int)=(r.length:Int)+1↔False:=⟨fun h=>by omega,fun h=>h.elim⟩;simp [BR,vh,h0]
theorem Zp (vars n v:Int) (ks:List Ex):BR vars (.mk 2 n v ks)=(decide (n=0)&&within v 0 (vars - 1)&&ks.isEmpty):=by
 cases ks with
 |nil=>
  by_cases h:n=0
  ·subst h;simp [BR,FU,vh,within]
  ·simp [BR,FU,vh,h]
 |cons x r=>have h0:(0:Int)=(r.length:Int)+1↔False:=⟨fun h=>by omega,fun h=>h.elim⟩;simp [BR,vh,h0]
theorem Zo (vars n v:Int) (ks:List Ex):BR vars (.mk 3 n v ks)=(decide (n=0)&&decide (v=0)&&decide ((ks.length:Int)=1)&&FU vars ks):=by
 by_cases h:n=0
 ·subst h;simp only [BR,vh,within];by_cases h1:(ks.length:Int)=1
  ·simp [h1];try (by_cases hv:v=0<;>simp [hv])
  ·have:¬(1:Int)=ks.length:=fun hc=>h1 hc.symm
   simp [h1,this]
 ·simp [BR,h]
theorem Zn (vars k n v:Int) (ks:List Ex) (hk:4<=k/\k<=8):BR vars (.mk k n v ks)=(decide (n=0)&&decide (v=0)&&decide ((ks.length:Int)=2)&&FU vars ks):=by
 have n1:¬k=1:=by omega
 have n2:¬k=2:=by omega
 have n3:¬k=3:=by omega
 by_cases h:n=0
 ·subst h;simp only [BR,vh,within];by_cases h1:(ks.length:Int)=2
  ·simp [h1,n1,n2,n3,hk];try (by_cases hv:v=0<;>simp [hv])
  ·have:¬(2:Int)=ks.length:=fun hc=>h1 hc.symm
   simp [h1,this,n1,n2,n3,hk]
 ·simp [BR,h,n1]
theorem Zr (vars k n v:Int) (ks:List Ex) (n1:¬k=1) (n2:¬k=2) (n3:¬k=3) (n4:¬(4<=k/\k<=8)):BR vars (.mk k n v ks)=false:=by
 have:¬(-1:Int)=ks.length:=by omega
 simp [BR,vh,n1,n2,n3,n4,this]
theorem SK (vars:Int) (hv:0<=vars/\vars<=6):∀(e:Ex),VS prog 123 [j9 e,ii vars] (fun r=>r=.b (BR vars e))
 |.mk k n v ks=>by
  have ih:∀e∈ks,VS prog 123 [j9 e,ii vars] (fun r=>r=.b (BR vars e)):=fun e he=>SK vars hv e
  refine XP _ _ _ ?_;unfold W123
  (repeat (first|refine dj ?_|refine di ?_))
  refine aa (fun h=>?_) (fun h=>?_)
  ·obtain rfl:k=1:=by simpa [bp] using h
   (repeat (first|refine dj ?_|refine di ?_))
   refine⟨trivial,trivial,?_⟩;rw [Zq];simp only [bp,c_,ny,iu,gu];rfl
  have m1:¬k=1:=by simpa [bp] using h
  (repeat (first|refine dj ?_|refine di ?_))
  refine aa (fun h=>?_) (fun h=>?_)
  ·obtain rfl:k=2:=by simpa [bp] using h
   (repeat (first|refine dj ?_|refine di ?_))
   refine⟨trivial,trivial,?_⟩;rw [Zp];simp only [bp,c_,ny,iu,gu,within];have:decide (v < vars)=decide (v<=vars - 1):=by
    by_cases h:v < vars
    ·have:v<=vars - 1:=by omega
     simp [h,this]
    ·have:¬v<=vars - 1:=by omega
     simp [h,this]
   rw [this];simp only [Bool.and_assoc]
  have m2:¬k=2:=by simpa [bp] using h
  (repeat (first|refine dj ?_|refine di ?_))
  refine aa (fun h=>?_) (fun h=>?_)
  ·obtain rfl:k=3:=by simpa [bp] using h
   rw [Zo];by_cases hl:(ks.length:Int)=1
   ·obtain⟨x,rfl⟩:∃x,ks=[x]:=by
     match ks,hl with
     |[x],_=>exact⟨x,rfl⟩
     |[],h=>simp at h
     |x::y::r,h=>simp at h;omega
    have hx:=ih x (by simp);obtain⟨k1,n1,v1,ks1⟩:=x
    (repeat (first|refine dj ?_|refine di ?_|refine lG ?_))
    refine⟨trivial,trivial,?_⟩;simp [bp,FU,iu]
   ·have e1:nk ((kg ks).length:Int) 1=false:=by rw [iu,bp];simpa using hl
    (repeat (first|refine dj ?_|refine di ?_))
    simp only [e1,Bool.and_false]
    (repeat (first|refine dj ?_|refine di ?_))
    refine⟨trivial,trivial,?_⟩;simp [hl]
  have m3:¬k=3:=by simpa [bp] using h
  (repeat (first|refine dj ?_|refine di ?_))
  refine aa (fun h=>?_) (fun h=>?_)
  ·have hk:4<=k/\k<=8:=by simpa [c_,ny] using h
   rw [Zn vars k n v ks hk];by_cases hl:(ks.length:Int)=2
   ·obtain⟨x,y,rfl⟩:∃x y,ks=[x,y]:=by
     match ks,hl with
     |[x,y],_=>exact⟨x,y,rfl⟩
     |[],h=>simp at h
     |[x],h=>simp at h
     |x::y::z::r,h=>simp at h;omega
    have hx:=ih x (by simp);have hy:=ih y (by simp);obtain⟨k1,n1,v1,ks1⟩:=x;obtain⟨k2,n2,v2,ks2⟩:=y
    (repeat (first|refine dj ?_|refine di ?_|refine lG ?_))
    refine⟨trivial,trivial,?_⟩;simp [bp,FU,iu,Bool.and_assoc]
   ·have e1:nk ((kg ks).length:Int) 2=false:=by rw [iu,bp];simpa using hl
    (repeat (first|refine dj ?_|refine di ?_))
    simp only [e1,Bool.and_false]
    (repeat (first|refine dj ?_|refine di ?_))
    refine⟨trivial,trivial,?_⟩;simp [hl]
  ·have hk:¬(4<=k/\k<=8):=by intro hc;simp [c_,ny,hc.1,hc.2] at h
   refine⟨trivial,trivial,?_⟩;rw [Zr vars k n v ks m1 m2 m3 hk]
theorem s126 (vars:Int) (hv:0<=vars/\vars<=6) (c:Co):VS prog 126 [GY c,ii vars] (fun r=>r=.b (Sd vars c)):=by
 obtain⟨op,l,r⟩:=c;have hl:=SK vars hv l;have hr:=SK vars hv r;obtain⟨k1,n1,v1,ks1⟩:=l;obtain⟨k2,n2,v2,ks2⟩:=r;refine XM _ _ _ ?_;unfold W126
 (repeat (first|refine dj ?_|refine di ?_|refine lG ?_))
 refine⟨trivial,trivial,?_⟩;simp only [c_,ny];rfl
end Go.Ax.dg
set_option maxRecDepth 100000
namespace Go.Ax.dg
open Go Go.Ax Go.Ax.V Go.Ax.Ft
theorem s66 (p:Pg) (proc:Nat) (vars:Int) (l:List Sm) (hl:l.length<=4194304) (ih:∀s∈l,VS prog 91 [mh s,gb p,ii proc] (fun r=>r=.b (s9 p.au proc vars s))) :
  VS prog 66 [.l (gh l),gb p,ii proc] (fun r=>r=.b (oq p.au proc vars l)):=by
 refine vs66 _ _ _ _ ?_;unfold W66;refine⟨rfl,fun m o4 x5 x6 x8=>∃i:Nat,i<=l.length/\m=l.length - i/\o4=gb p/\x5=.l (gh l)/\x6=ii proc/\x8=ii i/\(l.take i).all (s9 p.au proc vars)=true,
  ⟨_,0,by omega,rfl,rfl,rfl,rfl,rfl,rfl⟩,?_⟩
 rintro m o4 x5 x6 x8 ⟨i,hi,rfl,rfl,rfl,rfl,rfl,hall⟩;refine⟨_,rfl,_,rfl,aa (fun h3=>?_) (fun h3=>?_)⟩
 ·rw [fl] at h3;replace h3:=b9 h3;obtain⟨y,hy⟩:∃x,l[i]?=some x:=⟨_,qqa h3⟩;have hy':(gh l)[i]?=some (mh y):=by rw [nq,qqe,hy];rfl
  have hih:=ih y (qqi hy);refine⟨_,⟨bq hy',Ab y⟩,?_⟩;obtain⟨kind,var,chan,tag,⟨k1,n1,v1,ks1⟩,⟨op,⟨k2,n2,v2,ks2⟩,⟨k3,n3,v3,ks3⟩⟩,body,els,cu⟩:=y
  (repeat (first|refine dj ?_|refine di ?_|refine lG ?_))
  refine aa (fun h4=>?_) (fun h4=>?_)
  ·refine⟨trivial,trivial,?_⟩;rw [AP,qa (f:=s9 p.au proc vars) hy (by simpa using h4)]
  ·exact⟨_,bn h3 (by omega),_,by omega,i+1,by omega,rfl,rfl,rfl,rfl,rfl,oe hy hall (by simpa using h4)⟩
 ·rw [fl] at h3;obtain rfl:=dy hi h3;rw [qqt] at hall;refine⟨trivial,trivial,?_⟩;rw [AP,hall]
theorem NW {au:List Ch} {c:Int} (h:(decide (0<=c)&&decide (c < au.length))=true):∃(k:Nat) (x:Ch),c=k/\au[k]?=some x:=by simp only [qqB,qqH] at h;obtain⟨k,rfl⟩:=Int.eq_ofNat_of_zero_le h.1;exact⟨k,au[k]'(by omega),rfl,qqa _⟩
theorem K8 {au:List Ch} {c proc:Int} {dst:Bool} (h:(decide (0<=c)&&decide (c < au.length))=false):BW au proc dst c=false:=by
 unfold BW;split
 ·rename_i k;split
  ·rename_i x hx;have:=(qqb.1 hx).1;simp at h;omega
  ·rfl
 ·rfl
theorem Rr {au:List Ch} {k:Nat} {x:Ch} {proc:Int} {dst:Bool} (h:au[k]?=some x):BW au proc dst k=decide ((bif dst then x.dst else x.src)=proc):=by show (match au[k]? with|some x=>_|none=>false)=_;rw [h]
theorem Pp {au:List Ch} {k:Nat} {x:Ch} {tag:Int} (h:au[k]?=some x):GO au k tag=(decide (0<=tag)&&decide (tag < x.tags)):=by
 show (match au[(k:Int).toNat]? with|some x=>within tag 0 (x.tags - 1)|none=>false)=_;rw [Int.toNat_natCast,h];simp only [within];congr 1;by_cases h:tag < x.tags
 ·have:tag<=x.tags - 1:=by omega
  simp [h,this]
 ·have:¬tag<=x.tags - 1:=by omega
  simp [h,this]
theorem Jy (var vars:Int):(decide (0<=var)&&decide (var < vars))=within var 0 (vars - 1):=by
 simp only [within];congr 1;by_cases h:var < vars
 ·have:var<=vars - 1:=by omega
  simp [h,this]
 ·have:¬var<=vars - 1:=by omega
  simp [h,this]
theorem ix4 {t:Nat} (h:t < 4):jm (ii t) 4=some t:=by
 match t,h with
 |0,_=>rfl
 |1,_=>rfl
 |2,_=>rfl
 |3,_=>rfl
theorem Vm (had:List Int) {t:Nat} (h:t < 4):gY (GX had) (0+t*1) none=some (.b (had.contains (t:Int))):=by
 match t,h with
 |0,_=>rfl
 |1,_=>rfl
 |2,_=>rfl
 |3,_=>rfl
theorem S_ (had:List Int) {t:Nat} (h:t < 4):aq (GX had) (0+t*1) 1 (.b true)=some (GX ((t:Int)::had)):=by
 match t,h with
 |0,_=>simp [GX];rfl
 |1,_=>simp [GX];rfl
 |2,_=>simp [GX];rfl
 |3,_=>simp [GX];rfl
set_option maxHeartbeats 2000000 in
theorem Y3 (p:Pg) (proc:Nat) (y:Pr) (hy:p.procs[proc]?=some y) (hc:p.au.length<=4194304) (ht:∀x∈p.au,1<=x.tags/\x.tags<=4)
  (var chan tag:Int) (e:Ex) (c:Co) (body els:List Sm) (cu:List Ar) (qxA:∀tag var body,Ar.mk tag var body∈cu->VS prog 66 [.l (gh body),gb p,ii proc] (fun r=>r=.b (oq p.au proc y.vars body)))
  (qXa:cu.length<=4194304) (qxz:VS prog 125 [j9 e] (fun r=>r=.b (Kk e))) (qXb:VS prog 124 [GY c] (fun r=>r=.b (O8 c))) :
  VS prog 91 [mh (.mk 5 var chan tag e c body els cu),gb p,ii proc] (fun r=>r=.b (s9 p.au proc y.vars (.mk 5 var chan tag e c body els cu))):=by
 have hy':(p.procs.map gJ)[proc]?=some (gJ y):=by rw [qqe,hy];rfl
 have hlc:(p.au.map c8).length=p.au.length:=qql _;obtain⟨k1,n1,v1,ks1⟩:=e;obtain⟨op,⟨k2,n2,v2,ks2⟩,⟨k3,n3,v3,ks3⟩⟩:=c;refine Xk _ _ _ _ ?_;unfold W91;refine⟨rfl,rfl,_,rfl,_,⟨bq hy',rfl⟩,?_⟩
 (repeat (first|refine dj ?_|refine di ?_))
 rw [hlc];have qv8:(!n8 chan 0&&n8 chan (p.au.length:Int))=(decide (0<=chan)&&decide (chan < p.au.length)):=by rw [c_,c_,ny]
 rw [qv8];cases hch:(decide (0<=chan)&&decide (chan < (p.au.length:Int))) with
 |false=>
  have hE:=K8 (proc:=proc) (dst:=true) hch;simp only [Bool.not_false,Bool.true_or]
  (repeat (first|refine dj ?_|refine di ?_))
  refine de rfl ⟨trivial,trivial,?_⟩;congr 1;unfold s9;simp [hE]
 |true=>
  obtain⟨k,x,rfl,hx⟩:=NW hch;have hx':(p.au.map c8)[k]?=some (c8 x):=by rw [qqe,hx];rfl
  have hE:=Rr (proc:=proc) (dst:=true) hx;simp only [Bool.not_true,Bool.false_or];refine gO _ (fun h=>by rw [h];exact⟨bq hx',rfl⟩) ?_
  (repeat (first|refine dj ?_|refine di ?_|refine lG ?_))
  refine aa (fun h4=>?_) (fun h4=>?_)
  ·refine⟨trivial,trivial,?_⟩;congr 1;symm;rw [Bool.eq_false_iff];intro hall;unfold s9 at hall;simp only [reduceIte,Int.reduceEq,qqB,qqH,hE,cond_true,List.isEmpty_iff,qqD,List.isEmpty_eq_false_iff] at hall;obtain⟨⟨⟨⟨⟨⟨⟨⟨e1,e2⟩,e3⟩,e4⟩,e5⟩,e6⟩,e7⟩,e8⟩,e9⟩:=hall;subst e3 e4 e5 e6;simp [bp,c_,fm,e1,e2,e7,gh] at h4;exact e9 h4
  ·simp only [Bool.or_eq_false_iff,c_,bp,fl,fm,qqJ,Bool.not_eq_false',qqH] at h4;obtain⟨⟨⟨⟨⟨⟨⟨e1,e2⟩,e3⟩,e4⟩,e5⟩,e6⟩,e7⟩,e8⟩:=h4;have hb0:body=[]:=qqM.1 (by omega);have he0:els=[]:=qqM.1 (by omega);have ha0:cu≠[]:=fun hc=>e3 (by rw [hc];rfl)
   have hok:s9 p.au proc y.vars (.mk 5 var k tag (.mk k1 n1 v1 ks1) ⟨op,.mk k2 n2 v2 ks2,.mk k3 n3 v3 ks3⟩ body els cu)=Ak p.au proc y.vars k [] cu:=by unfold s9;simp [hb0,he0,ha0,e4,e5,e6,e7,e8,hE]
   rw [hok];have htg:=ht x (qqi hx);refine⟨fun m o1 o2 o3 x4 x5 x6=>∃(i:Nat) (had:List Int),i<=cu.length/\m=cu.length - i/\o1=mh (.mk 5 var k tag (.mk k1 n1 v1 ks1) ⟨op,.mk k2 n2 v2 ks2,.mk k3 n3 v3 ks3⟩ body els cu)/\o2=gb p/\o3=GX had/\x4=ii proc/\x5=ii y.vars/\x6=ii i/\
    Ak p.au proc y.vars k [] cu=Ak p.au proc y.vars k had (cu.drop i),⟨_,0,[],by omega,rfl,rfl,rfl,rfl,rfl,rfl,rfl,rfl⟩,?_⟩
   rintro m o1 o2 o3 x4 x5 x6 ⟨i,had,hi,rfl,rfl,rfl,rfl,rfl,rfl,rfl,qji⟩;refine⟨_,rfl,_,rfl,_,rfl,aa (fun h3=>?_) (fun h3=>?_)⟩
   ·rw [fm] at h3;replace h3:=b9 h3;obtain⟨w,hw⟩:∃x,cu[i]?=some x:=⟨_,qqa h3⟩;have hw':(oQ cu)[i]?=some (D7 w):=by rw [nr,qqe,hw];rfl
    rw [drop_cons hw] at qji;obtain⟨tg,vr,bd⟩:=w;have hb:=qxA tg vr bd (qqi hw);rw [Ak,Pp hx] at qji;refine⟨_,rfl,_,⟨bq hw',rfl⟩,?_⟩
    (repeat (first|refine dj ?_|refine di ?_))
    refine gO _ (fun h=>by rw [h];exact⟨bq hx',rfl⟩) ?_
    (repeat (first|refine dj ?_|refine di ?_))
    have qv7:(n8 tg 0||!n8 tg x.tags)=!(decide (0<=tg)&&decide (tg < x.tags)):=by
     rw [c_,c_,Bool.not_and];congr 1;by_cases h:tg < 0
     ·have:¬0<=tg:=by omega
      simp [h,this]
     ·have:0<=tg:=by omega
      simp [h,this]
    rw [qv7];cases qxP:(decide (0<=tg)&&decide (tg < x.tags)) with
    |false=>
     (repeat (first|refine dj ?_|refine di ?_))
     refine⟨0,fun h=>(by cases h),?_⟩
     (repeat (first|refine dj ?_|refine di ?_))
     refine de rfl ⟨trivial,trivial,?_⟩;rw [qji,qxP];rfl
    |true=>
     obtain⟨t,rfl⟩:∃t:Nat,tg=t:=Int.eq_ofNat_of_zero_le (by simp at qxP;omega);have h4:t < 4:=by simp at qxP;omega
     (repeat (first|refine dj ?_|refine di ?_))
     refine⟨t,fun _=>ix4 h4,?_⟩;refine⟨rfl,gO _ (fun _=>Vm had h4) ?_⟩
     (repeat (first|refine dj ?_|refine di ?_|refine lG ?_))
     refine aa (fun h5=>?_) (fun h5=>?_)
     ·refine⟨trivial,trivial,?_⟩;rw [qji,qxP];simp only [c_] at h5;congr 1;symm;rw [Bool.eq_false_iff];intro hall;simp only [within,Bool.true_and,qqB,qqD,qqH] at hall;obtain⟨⟨⟨g1,g2⟩,g3⟩,g4⟩:=hall;simp only [g1,g3,qqC,qqD,qqH,qqJ] at h5;simp at h5;omega
     ·simp only [c_,Bool.or_eq_false_iff,Bool.not_eq_false',qqH,qqJ] at h5;refine⟨_,rfl,_,ix4 h4,_,S_ had h4,_,bn h3 (by omega),_,by omega,i+1,_,by omega,rfl,rfl,rfl,rfl,rfl,rfl,rfl,?_⟩;rw [qji,qxP];obtain⟨⟨⟨g1,g2⟩,g3⟩,g4⟩:=h5;have g5:within vr 0 (y.vars - 1)=true:=by simp only [within,qqB,qqH];omega
      rw [g1,g4,g5];rfl
   ·rw [fm] at h3;obtain rfl:=dy hi h3;rw [List.drop_length,Ak] at qji;refine⟨trivial,trivial,?_⟩;rw [qji]
set_option maxHeartbeats 2000000 in
theorem s91 (p:Pg) (proc:Nat) (y:Pr) (hy:p.procs[proc]?=some y) (hv:0<=y.vars/\y.vars<=6) (hc:p.au.length<=4194304) (ht:∀x∈p.au,1<=x.tags/\x.tags<=4) :
  ∀(n:Nat) (s:Sm),za s<=n->n<=4194304->VS prog 91 [mh s,gb p,ii proc] (fun r=>r=.b (s9 p.au proc y.vars s)):=by
 intro n
 induction n with
 |zero=>intro s hs;have:=zg s;omega
 |succ n ih=>
  intro s hs hn;obtain⟨kind,var,chan,tag,e,c,body,els,cu⟩:=s;rw [za] at hs;have hbody:VS prog 66 [.l (gh body),gb p,ii proc] (fun r=>r=.b (oq p.au proc y.vars body)):=
   s66 p proc y.vars body (by have:=mq body;omega) (fun s hs'=>ih s (by have:=jr hs';omega) (by omega))
  have qxm:VS prog 66 [.l (gh els),gb p,ii proc] (fun r=>r=.b (oq p.au proc y.vars els)):=
   s66 p proc y.vars els (by have:=mq els;omega) (fun s hs'=>ih s (by have:=jr hs';omega) (by omega))
  have qxA:∀tag var body,Ar.mk tag var body∈cu->VS prog 66 [.l (gh body),gb p,ii proc] (fun r=>r=.b (oq p.au proc y.vars body)):=fun tag var body hm=>s66 p proc y.vars body (by have:=uq hm;simp only [LF] at this;have:=mq body;omega) (fun s hs'=>ih s (by have:=uq hm;simp only [LF] at this;have:=jr hs';omega) (by omega))
  have qXa:=AA cu;have qxz:=UM e;have qXb:=s124 c;have h123:=SK y.vars hv e;have qxC:=s126 y.vars hv c;have hy':(p.procs.map gJ)[proc]?=some (gJ y):=by rw [qqe,hy];rfl
  have hlc:(p.au.map c8).length=p.au.length:=qql _;by_cases k5:kind=5
  ·subst k5;exact Y3 p proc y hy hc ht var chan tag e c body els cu qxA (by omega) qxz qXb
  obtain⟨k1,n1,v1,ks1⟩:=e;obtain⟨op,⟨k2,n2,v2,ks2⟩,⟨k3,n3,v3,ks3⟩⟩:=c;refine Xk _ _ _ _ ?_;unfold W91;refine⟨rfl,rfl,_,rfl,_,⟨bq hy',rfl⟩,?_⟩
  (repeat (first|refine dj ?_|refine di ?_))
  rw [hlc];refine aa (fun h=>?_) (fun h=>?_)
  ·obtain rfl:kind=1:=by simpa [bp] using h
   (repeat (first|refine dj ?_|refine di ?_|refine lG ?_))
   refine⟨trivial,trivial,?_⟩;congr 1;unfold s9;simp only [bp,c_,ny,fl,fm,gu,Jy,reduceIte,Int.reduceEq]
   ac_rfl
  have m1:¬kind=1:=by simpa [bp] using h
  refine⟨_,rfl,aa (fun h=>de h ?_) (fun h=>?_)⟩
  ·obtain rfl:kind=2:=by simpa [bp] using h
   (repeat (first|refine⟨rfl,?_⟩|refine⟨_,rz,?_⟩|refine⟨_,xk,?_⟩|refine⟨_,rfl,?_⟩|refine⟨_,gp _,?_⟩|refine⟨_,⟨rfl,rfl⟩,?_⟩|refine ZO ?_|refine ZM ?_|refine Zh ?_|refine Zg ?_|refine E9 ?_|refine IG ?_|refine cy qxz ?_|refine cy qxC ?_|refine cy hbody ?_|refine cy qxm ?_|refine ZP ?_|refine gB _ (fun h=>by first|exact b8 qxz|(rw [h];exact b8 qxz)) ?_|refine gB _ (fun h=>by first|exact b8 qxC|(rw [h];exact b8 qxC)) ?_|refine gB _ (fun h=>by first|exact b8 hbody|(rw [h];exact b8 hbody)) ?_|refine gB _ (fun h=>by first|exact b8 qxm|(rw [h];exact b8 qxm)) ?_|refine ZN ?_|refine gO _ (fun h=>by first|exact b8 qxz|(rw [h];exact b8 qxz)) ?_|refine gO _ (fun h=>by first|exact b8 qxC|(rw [h];exact b8 qxC)) ?_|refine gO _ (fun h=>by first|exact b8 hbody|(rw [h];exact b8 hbody)) ?_|refine gO _ (fun h=>by first|exact b8 qxm|(rw [h];exact b8 qxm)) ?_|refine Ra ?_|refine Rb _ (fun h h'=>by rw [h,h'];exact b8 qxz) ?_|refine Rb _ (fun h h'=>by rw [h,h'];exact b8 qxC) ?_|refine Rb _ (fun h h'=>by rw [h,h'];exact b8 hbody) ?_|refine Rb _ (fun h h'=>by rw [h,h'];exact b8 qxm) ?_|refine Q9 ?_|refine Q_ _ (fun h h'=>by rw [h,h'];exact b8 qxz) ?_|refine Q_ _ (fun h h'=>by rw [h,h'];exact b8 qxC) ?_|refine Q_ _ (fun h h'=>by rw [h,h'];exact b8 hbody) ?_|refine Q_ _ (fun h h'=>by rw [h,h'];exact b8 qxm) ?_|refine Rf ?_|refine Rg _ (fun h h'=>by rw [h,h'];exact b8 qxz) ?_|refine Rg _ (fun h h'=>by rw [h,h'];exact b8 qxC) ?_|refine Rg _ (fun h h'=>by rw [h,h'];exact b8 hbody) ?_|refine Rg _ (fun h h'=>by rw [h,h'];exact b8 qxm) ?_|refine Rc ?_|refine Re _ (fun h h'=>by rw [h,h'];exact b8 qxz) ?_|refine Re _ (fun h h'=>by rw [h,h'];exact b8 qxC) ?_|refine Re _ (fun h h'=>by rw [h,h'];exact b8 hbody) ?_|refine Re _ (fun h h'=>by rw [h,h'];exact b8 qxm) ?_))
   refine⟨trivial,trivial,?_⟩;congr 1;unfold s9;simp only [bp,c_,ny,fl,fm,gu,Jy,reduceIte,Int.reduceEq,Bool.and_true,Bool.true_and]
   ac_rfl
  have m2:¬kind=2:=by simpa [bp] using h
  refine⟨_,rfl,aa (fun h=>?_) (fun h=>?_)⟩
  ·obtain rfl:kind=3:=by simpa [bp] using h
   have e2:nk 3 2=false:=rfl
   (repeat (first|refine⟨rfl,?_⟩|refine⟨_,rz,?_⟩|refine⟨_,xk,?_⟩|refine⟨_,rfl,?_⟩|refine⟨_,gp _,?_⟩|refine⟨_,⟨rfl,rfl⟩,?_⟩|refine ZO ?_|refine ZM ?_|refine Zh ?_|refine Zg ?_|refine E9 ?_|refine IG ?_|refine cy qxz ?_|refine cy qxC ?_|refine cy hbody ?_|refine cy qxm ?_|refine ZP ?_|refine gB _ (fun h=>by first|exact b8 qxz|(rw [h];exact b8 qxz)) ?_|refine gB _ (fun h=>by first|exact b8 qxC|(rw [h];exact b8 qxC)) ?_|refine gB _ (fun h=>by first|exact b8 hbody|(rw [h];exact b8 hbody)) ?_|refine gB _ (fun h=>by first|exact b8 qxm|(rw [h];exact b8 qxm)) ?_|refine ZN ?_|refine gO _ (fun h=>by first|exact b8 qxz|(rw [h];exact b8 qxz)) ?_|refine gO _ (fun h=>by first|exact b8 qxC|(rw [h];exact b8 qxC)) ?_|refine gO _ (fun h=>by first|exact b8 hbody|(rw [h];exact b8 hbody)) ?_|refine gO _ (fun h=>by first|exact b8 qxm|(rw [h];exact b8 qxm)) ?_|refine Ra ?_|refine Rb _ (fun h h'=>by rw [h,h'];exact b8 qxz) ?_|refine Rb _ (fun h h'=>by rw [h,h'];exact b8 qxC) ?_|refine Rb _ (fun h h'=>by rw [h,h'];exact b8 hbody) ?_|refine Rb _ (fun h h'=>by rw [h,h'];exact b8 qxm) ?_|refine Q9 ?_|refine Q_ _ (fun h h'=>by rw [h,h'];exact b8 qxz) ?_|refine Q_ _ (fun h h'=>by rw [h,h'];exact b8 qxC) ?_|refine Q_ _ (fun h h'=>by rw [h,h'];exact b8 hbody) ?_|refine Q_ _ (fun h h'=>by rw [h,h'];exact b8 qxm) ?_|refine Rf ?_|refine Rg _ (fun h h'=>by rw [h,h'];exact b8 qxz) ?_|refine Rg _ (fun h h'=>by rw [h,h'];exact b8 qxC) ?_|refine Rg _ (fun h h'=>by rw [h,h'];exact b8 hbody) ?_|refine Rg _ (fun h h'=>by rw [h,h'];exact b8 qxm) ?_|refine Rc ?_|refine Re _ (fun h h'=>by rw [h,h'];exact b8 qxz) ?_|refine Re _ (fun h h'=>by rw [h,h'];exact b8 qxC) ?_|refine Re _ (fun h h'=>by rw [h,h'];exact b8 hbody) ?_|refine Re _ (fun h h'=>by rw [h,h'];exact b8 qxm) ?_))
   refine⟨trivial,trivial,?_⟩;congr 1;unfold s9;simp only [bp,c_,ny,fl,fm,gu,Jy,reduceIte,Int.reduceEq,Bool.and_true,Bool.true_and,decide_false,Bool.false_or];cases els with
   |nil=>
    simp only [List.isEmpty_nil,oq,Bool.and_true,Bool.true_and]
    ac_rfl
   |cons x r=>simp
  have m3:¬kind=3:=by simpa [bp] using h
  have qv8:(!n8 chan 0&&n8 chan (p.au.length:Int))=(decide (0<=chan)&&decide (chan < p.au.length)):=by rw [c_,c_,ny]
  rw [qv8];refine⟨_,rfl,aa (fun h=>?_) (fun h=>?_)⟩
  ·obtain rfl:kind=4:=by simpa [bp] using h
   cases hch:(decide (0<=chan)&&decide (chan < (p.au.length:Int))) with
   |false=>
    have hE:=K8 (proc:=proc) (dst:=false) hch
    (repeat (first|refine dj ?_|refine di ?_))
    refine⟨trivial,trivial,?_⟩;congr 1;unfold s9;simp [hE]
   |true=>
    obtain⟨k,x,rfl,hx⟩:=NW hch;have hx':(p.au.map c8)[k]?=some (c8 x):=by rw [qqe,hx];rfl
    have hE:=Rr (proc:=proc) (dst:=false) hx;have hT:=Pp (tag:=tag) hx
    (repeat (first|refine dj ?_|refine di ?_))
    refine gB _ (fun h=>by rw [h];exact⟨bq hx',rfl⟩) ?_
    (repeat (first|refine dj ?_|refine di ?_))
    refine gB _ (fun h=>by rw [h];exact⟨bq hx',rfl⟩) ?_
    (repeat (first|refine dj ?_|refine di ?_|refine lG ?_))
    refine⟨trivial,trivial,?_⟩;congr 1;unfold s9;simp only [bp,c_,ny,fl,fm,gu,reduceIte,Int.reduceEq,Bool.and_true,Bool.true_and,hE,hT,cond_false]
    ac_rfl
  have m4:¬kind=4:=by simpa [bp] using h
  refine⟨_,rfl,aa (fun h=>?_) (fun h=>?_)⟩
  ·exact absurd (by simpa [bp] using h) k5
  have m5:¬kind=5:=by simpa [bp] using h
  refine⟨_,rfl,aa (fun h=>?_) (fun h=>?_)⟩
  ·obtain rfl:kind=6:=by simpa [bp] using h
   (repeat (first|refine dj ?_|refine di ?_|refine lG ?_))
   refine⟨trivial,trivial,?_⟩;congr 1;unfold s9;simp only [bp,c_,ny,fl,fm,gu,Jy,reduceIte,Int.reduceEq,Bool.and_true,Bool.true_and]
   ac_rfl
  have m6:¬kind=6:=by simpa [bp] using h
  refine⟨_,rfl,aa (fun h=>?_) (fun h=>?_)⟩
  ·obtain rfl:kind=7:=by simpa [bp] using h
   (repeat (first|refine dj ?_|refine di ?_|refine lG ?_))
   refine⟨trivial,trivial,?_⟩;congr 1;unfold s9;simp only [bp,c_,ny,fl,fm,gu,Jy,reduceIte,Int.reduceEq,Bool.and_true,Bool.true_and]
   ac_rfl
  have m7:¬kind=7:=by simpa [bp] using h
  refine⟨trivial,trivial,?_⟩;congr 1;unfold s9;simp [m1,m2,m3,m4,m5,m6,m7]
end Go.Ax.dg
set_option maxRecDepth 100000
namespace Go.Ax.dg
open Go Go.Ax Go.Ax.V Go.Ax.Ft
set_option maxHeartbeats 2000000 in
theorem s47 (p:Pg) (hz:Aw p):VS prog 47 [gb p] (fun r=>r=.b (vb p)):=by
 have hlc:=hz.au;have hlp:=hz.procs;have hl1:(p.au.map c8).length=p.au.length:=qql _;have hl2:(p.procs.map gJ).length=p.procs.length:=qql _;refine vs47 _ _ ?_;unfold W47
 (repeat (first|refine dj ?_|refine di ?_))
 rw [hl1,hl2];refine aa (fun h=>?_) (fun h=>?_)
 ·refine⟨trivial,trivial,?_⟩;congr 1;unfold vb;simp only [c_,qqC,qqH] at h;symm;simp only [Bool.and_eq_false_iff,qqJ];omega
 simp only [c_,Bool.or_eq_false_iff,qqJ] at h;obtain⟨⟨hc4,hp1⟩,hp4⟩:=h;have hok:vb p=(p.au.all (ye p.procs.length)&&oW p.au 0 p.procs):=by unfold vb;rw [qqI (show p.au.length<=4 by omega),qqI (show 1<=p.procs.length by omega),qqI (show p.procs.length<=4 by omega)];simp
 refine⟨fun m o x=>∃i:Nat,i<=p.au.length/\m=p.au.length - i/\o=gb p/\x=ii i/\(p.au.take i).all (ye p.procs.length)=true,⟨_,0,by omega,rfl,rfl,rfl,rfl⟩,?_⟩;rintro m o x ⟨i,hi,rfl,rfl,rfl,hall⟩;refine⟨_,rfl,_,rfl,_,rfl,aa (fun h3=>?_) (fun h3=>?_)⟩
 ·rw [hl1] at h3;replace h3:=b9 h3;obtain⟨c,hy⟩:∃x,p.au[i]?=some x:=⟨_,qqa h3⟩;have hy':(p.au.map c8)[i]?=some (c8 c):=by rw [qqe,hy];rfl
  have hym:=qqi hy;have hrl:=hz.rules c hym;have hmr:(c.rule.map lg).length=c.rule.length:=qql _;refine⟨_,rfl,_,⟨bq hy',rfl⟩,?_⟩
  (repeat (first|refine dj ?_|refine di ?_))
  rw [hl2,hmr];refine aa (fun h4=>?_) (fun h4=>?_)
  ·refine⟨trivial,trivial,?_⟩;rw [hok];have qwi:ye p.procs.length c=false:=by
    rw [Bool.eq_false_iff];intro hall;simp only [ye,within,qqB,qqH,qqD,qqJ] at hall;obtain⟨⟨⟨⟨⟨⟨⟨a1,a2⟩,b1,b2⟩,c1,c2⟩,d1,d2⟩,e1,e2⟩,f1⟩,g1⟩:=hall;have g2:c.rule.length<=8:=by
     unfold ur at g1;split at g1
     ·simp only [qqC,qqB,qqH] at g1;rcases g1 with g1|g1
      ·rw [List.isEmpty_iff.1 g1];simp
      ·omega
     ·cases g1
    simp only [c_,bp,qqC,qqD,qqH,qqJ] at h4;omega
   rw [qa (f:=ye p.procs.length) hy qwi];rfl
  simp only [c_,bp,Bool.or_eq_false_iff,Bool.not_eq_false',qqH,qqJ] at h4;have hch:ye p.procs.length c=ur c:=by
   simp only [ye,within];have e1:decide (0<=c.kind)=true:=by simp;omega
   have e2:decide (c.kind<=2)=true:=by simp;omega
   have e3:decide (1<=c.size)=true:=by simp;omega
   have e4:decide (c.size<=16)=true:=by simp;omega
   have e5:decide (1<=c.tags)=true:=by simp;omega
   have e6:decide (c.tags<=4)=true:=by simp;omega
   have e7:decide (0<=c.src)=true:=by simp;omega
   have e8:decide (c.src<=(p.procs.length:Int) - 1)=true:=by simp;omega
   have e9:decide (0<=c.dst)=true:=by simp;omega
   have e10:decide (c.dst<=(p.procs.length:Int) - 1)=true:=by simp;omega
   have e11:decide (c.src=c.dst)=false:=by simp;omega
   rw [e1,e2,e3,e4,e5,e6,e7,e8,e9,e10,e11];simp
  have qwi:ur c=false->vb p=false:=fun hr=>by rw [hok,qa (f:=ye p.procs.length) hy (by rw [hch,hr])];rfl
  refine⟨fun m o1 o2 x1 x2 x3=>∃(j:Nat) (T:Int),j<=c.rule.length/\m=c.rule.length - j/\o1=gb p/\o2=c8 c/\x1=ii i/\x2=ii T/\x3=ii j/\B3 c.rule.length c.tags 0 c.rule 0=B3 c.rule.length c.tags j (c.rule.drop j) T,
   ⟨_,0,0,by omega,rfl,rfl,rfl,rfl,rfl,rfl,rfl⟩,?_⟩
  rintro m o1 o2 x1 x2 x3 ⟨j,T,hj,rfl,rfl,rfl,rfl,rfl,rfl,qxe⟩;refine⟨_,rfl,_,rfl,_,rfl,aa (fun h5=>?_) (fun h5=>?_)⟩
  ·rw [hmr] at h5;replace h5:=b9 h5;obtain⟨row,hx⟩:∃x,c.rule[j]?=some x:=⟨_,qqa h5⟩;have hx':(c.rule.map lg)[j]?=some (lg row):=by rw [qqe,hx];rfl
   have hrow:(row.map ii).length=row.length:=qql _;rw [drop_cons hx,B3] at qxe;refine⟨_,rfl,_,⟨bq hx',rfl⟩,_,rfl,_,rfl,_,rfl,_,rfl,?_⟩;rw [hrow];refine aa (fun h6=>?_) (fun h6=>?_)
   ·refine⟨trivial,trivial,?_⟩;simp only [bp,qqD,qqJ] at h6;rw [if_neg h6] at qxe;rw [qwi (by unfold ur;rw [qxe])]
   simp only [bp,Bool.not_eq_false',qqH] at h6;rw [if_pos h6] at qxe;refine⟨fun m o1 o2 x1 x2 x3 x4=>∃(q:Nat) (U:Int),q<=row.length/\m=row.length - q/\o1=gb p/\o2=c8 c/\x1=ii i/\x2=ii U/\x3=ii j/\x4=ii q/\GM c.rule.length j row T=GM c.rule.length j (row.drop q) U,
    ⟨_,0,T,by omega,rfl,rfl,rfl,rfl,rfl,rfl,rfl,rfl⟩,?_⟩
   rintro m o1 o2 x1 x2 x3 x4 ⟨q,U,hq,rfl,rfl,rfl,rfl,rfl,rfl,rfl,hin⟩;refine⟨_,rfl,_,rfl,aa (fun h7=>?_) (fun h7=>?_)⟩
   ·rw [←h6] at h7;replace h7:=b9 h7;obtain⟨x,hw⟩:∃x,row[q]?=some x:=⟨_,qqa h7⟩;have hw':(row.map ii)[q]?=some (ii x):=by rw [qqe,hw];rfl
    rw [drop_cons hw,GM] at hin;refine⟨_,rfl,_,⟨bq hx',rfl⟩,_,rfl,_,⟨bq hw',rfl⟩,?_⟩
    (repeat (first|refine dj ?_|refine di ?_))
    rw [hmr];refine aa (fun h8=>?_) (fun h8=>?_)
    ·refine⟨trivial,trivial,?_⟩;have hn:¬within x (-1) ((c.rule.length:Int) - 1)=true:=by simp only [c_,qqC,qqD,qqH,qqJ] at h8;simp only [within,qqB,qqH];omega
     rw [if_neg hn] at hin;rw [hin] at qxe;rw [qwi (by unfold ur;rw [qxe])]
    have hn:within x (-1) ((c.rule.length:Int) - 1)=true:=by simp only [c_,Bool.or_eq_false_iff,Bool.not_eq_false',qqH,qqJ] at h8;simp only [within,qqB,qqH];omega
    rw [if_pos hn] at hin;simp only [within,qqB,qqH] at hn;refine⟨_,EE _ _,aa (fun h9=>?_) (fun h9=>?_)⟩
    ·simp only [c_,qqD,qqJ] at h9;rw [if_neg (by omega)] at hin;exact⟨_,mx3 _ _ _,_,bn h7 (by omega),_,by omega,q+1,_,by omega,rfl,rfl,rfl,rfl,rfl,rfl,rfl,hin⟩
    ·simp only [c_,Bool.not_eq_false',qqH] at h9;rw [if_pos (by omega)] at hin;exact⟨_,bn h7 (by omega),_,by omega,q+1,_,by omega,rfl,rfl,rfl,rfl,rfl,rfl,rfl,hin⟩
   ·rw [←h6] at h7;obtain rfl:=dy hq h7;rw [List.drop_length,GM] at hin;rw [hin] at qxe;exact⟨_,bn h5 (by omega),_,by omega,j+1,U,by omega,rfl,rfl,rfl,rfl,rfl,rfl,qxe⟩
  ·rw [hmr] at h5;obtain rfl:=dy hj h5;rw [List.drop_length,B3] at qxe
   (repeat (first|refine dj ?_|refine di ?_))
   rw [hmr];refine aa (fun h8=>?_) (fun h8=>?_)
   ·refine⟨trivial,trivial,?_⟩;simp only [c_,bp,qqB,qqD,qqH,qqJ] at h8;have hr:ur c=false:=by
     unfold ur;rw [qxe];have e1:c.rule.isEmpty=false:=by
      cases hcr:c.rule with
      |nil=>rw [hcr] at h8;simp at h8
      |cons a b=>rfl
     have e2:decide (T=(c.rule.length:Int) - 1)=false:=by simpa using h8.2
     simp only [e1,e2];rfl
    rw [qwi hr]
   ·have hr:ur c=true:=by
     unfold ur;rw [qxe];simp only [c_,bp,Bool.and_eq_false_iff,Bool.not_eq_false',qqH,qqJ] at h8;cases hcr:c.rule with
     |nil=>rfl
     |cons a b=>
      have hpos:0 < (c.rule.length:Int):=by rw [hcr];simp only [qqr];omega
      have e2:T=(c.rule.length:Int) - 1:=by omega
      have e3:(c.rule.length:Int)<=8:=by omega
      rw [hcr] at e2 e3;simp only [qqC,qqB,qqH];exact .inr ⟨e2,e3⟩
    exact⟨_,bn h3 (by omega),_,by omega,i+1,by omega,rfl,rfl,rfl,oe hy hall (by rw [hch,hr])⟩
 ·rw [hl1] at h3;obtain rfl:=dy hi h3;rw [qqt] at hall;rw [hall,Bool.true_and] at hok;have qjf:∀x∈p.au,1<=x.tags/\x.tags<=4:=fun x hx=>by have:=qqA.1 hall x hx;simp only [ye,within,qqB,qqH] at this;omega
  refine⟨fun m o x=>∃i:Nat,i<=p.procs.length/\m=p.procs.length - i/\o=gb p/\x=ii i/\oW p.au 0 p.procs=oW p.au i (p.procs.drop i),⟨_,0,by omega,rfl,rfl,rfl,rfl⟩,?_⟩;rintro m o x ⟨i,hi,rfl,rfl,rfl,hps⟩;refine⟨_,rfl,_,rfl,_,rfl,aa (fun h4=>?_) (fun h4=>?_)⟩
  ·rw [hl2] at h4;replace h4:=b9 h4;obtain⟨y,hy⟩:∃x,p.procs[i]?=some x:=⟨_,qqa h4⟩;have hy':(p.procs.map gJ)[i]?=some (gJ y):=by rw [qqe,hy];rfl
   have hym:=qqi hy;rw [drop_cons hy,oW] at hps;refine⟨_,rfl,_,⟨bq hy',rfl⟩,?_⟩
   (repeat (first|refine dj ?_|refine di ?_))
   refine gO _ (fun h=>by rw [h];exact⟨bq hy',rfl⟩) ?_
   (repeat (first|refine dj ?_|refine di ?_))
   refine gO _ (fun h=>by rw [h];exact⟨bq hy',rfl⟩) ?_;have qv7:(n8 y.vars 0||n8 6 y.vars)=!within y.vars 0 6:=by
    rw [c_,c_,within,Bool.not_and];congr 1
    ·by_cases h:y.vars < 0
     ·have:¬0<=y.vars:=by omega
      simp [h,this]
     ·have:0<=y.vars:=by omega
      simp [h,this]
    ·by_cases h:6 < y.vars
     ·have:¬y.vars<=6:=by omega
      simp [h,this]
     ·have:y.vars<=6:=by omega
      simp [h,this]
   rw [qv7];cases hw:within y.vars 0 6 with
   |false=>
    (repeat (first|refine dj ?_|refine di ?_))
    refine de rfl ⟨trivial,trivial,?_⟩;rw [hok,hps,hw];rfl
   |true=>
    have hv:0<=y.vars/\y.vars<=6:=by simpa [within] using hw
    have hbo:=hz.body y hym;have h66:=s66 p i y.vars y.body (by have:=mq y.body;omega) (fun s hs=>s91 p i y hy hv (by omega) qjf 4194304 s (qqR (jr hs) hbo) (qqT _))
    (repeat (first|refine dj ?_|refine di ?_|refine lG ?_))
    refine aa (fun h5=>?_) (fun h5=>?_)
    ·refine⟨trivial,trivial,?_⟩;have h6:oq p.au i y.vars y.body=false:=by simpa using h5
     rw [hok,hps,hw,h6];rfl
    ·have h6:oq p.au i y.vars y.body=true:=by simpa using h5
     rw [hw,h6] at hps;exact⟨_,bn h4 (by omega),_,by omega,i+1,by omega,rfl,rfl,rfl,by rw [hps];simp⟩
  ·rw [hl2] at h4;obtain rfl:=dy hi h4;rw [List.drop_length,oW] at hps;refine⟨trivial,trivial,?_⟩;rw [hok,hps]
end Go.Ax.dg
set_option maxRecDepth 100000
namespace Go.Ax.dg
open Go Go.Ax Go.Ax.V Go.Ax.Ft
theorem s48 (op:Int):VS prog 48 [ii op] (fun r=>r=ii (Ki op)):=by
 refine vs48 _ _ ?_;unfold W48
 (repeat (first|refine dj ?_|refine di ?_))
 refine aa (fun h=>?_) (fun h=>?_)
 ·refine⟨trivial,trivial,?_⟩;simp only [c_,qqC,qqH] at h;have e:Ki op=0:=by unfold Ki;rw [if_neg (by omega),if_neg (by omega),if_neg (by omega),if_neg (by omega),if_neg (by omega),if_neg (by omega)]
  rw [e]
 ·simp only [c_,Bool.or_eq_false_iff,qqJ] at h;obtain rfl|rfl|rfl|rfl|rfl|rfl:op=1\/op=2\/op=3\/op=4\/op=5\/op=6:=by omega
  all_goals
   (repeat (first|refine dj ?_|refine di ?_))
   exact⟨trivial,trivial,rfl⟩
end Go.Ax.dg
set_option maxRecDepth 100000
namespace Go.Ax.dg
open Go Go.Ax Go.Ax.V Go.Ax.Ft
def Sp90 (s:Sm):Prop:=∀(g:Gr) (a b:Int),fits g (za s)->∀Q:TV->List TV->List TV->TV->Prop,Q (oG (LH s a b g)) (eE (LH s a b g)) (eH (LH s a b g)) (.tp [])->W1 Q (oG g) (eE g) (eH g) (mh s) (ii a) (ii b)
def R6 (l:List Sm):Prop:=∀(g:Gr) (a b:Int),fits g (fq l+1)->∀Q:TV->List TV->List TV->TV->Prop,Q (oG (AS l a b g)) (eE (AS l a b g)) (eH (AS l a b g)) (.tp [])->WJ Q (oG g) (eE g) (eH g) (.l (gh l)) (ii a) (ii b)
theorem t89 (g:Gr) (hn:0<=g.nodes/\g.nodes<=100000000) (Q:TV->List TV->List TV->TV->Prop) (h:Q (oG g.node) (eE g.node) (eH g.node) (ii g.nodes)):Uh Q (oG g) (eE g) (eH g):=by
 refine sh89 _ _ _ _ ?_;unfold Wz
 (repeat (first|refine dj ?_|refine di ?_))
 refine⟨trivial,?_⟩;rw [show g.nodes+1 - 1=g.nodes by omega];exact h
theorem Ad (g:Gr) (e:Ed):eE (g.dm e)=eE g++[dw e]:=by simp [eE,Gr.dm]
theorem t65 (l:List Sm) (hs:∀s∈l,Sp90 s):R6 l:=by
 intro g a b hf Q hQ;have hll:=mq l;have hfn:=hf.nn;have hfl:=hf.lo;have hfe:=hf.e;have hen:=fl l;refine sh65 _ _ _ _ _ _ _ ?_;unfold WA;refine⟨_,rfl,_,rfl,aa (fun h=>?_) (fun h=>?_)⟩
 ·have hl:l=[]:=by simp only [bp,fl,qqH] at h;exact qqM.1 (by omega)
  subst hl;rw [AS,Ad] at hQ;have hel:(eE g).length<=100000000:=by simp [eE];omega
  refine⟨_,rfl,_,rfl,rfl,rfl,_,rfl,_,rfl,_,rfl,rfl,_,rfl,rfl,_,lT,_,rfl,?_⟩;refine⟨fun m o14 l15 l16 x17 x18 x19 x20=>o14=oG g/\l15=eE g++[dw ⟨a,b,0,0,0,0,ni,qt⟩]/\l16=eH g/\x17=.l []/\x20=ii 0,⟨0,rfl,rfl,rfl,rfl,rfl⟩,?_⟩;rintro m o14 l15 l16 x17 x18 x19 x20 ⟨rfl,rfl,rfl,rfl,rfl⟩;exact⟨_,rfl,_,rfl,a_ rfl ⟨trivial,trivial,hQ⟩⟩
 ·have hl:l.length≠0:=by simp only [bp,fl,qqJ] at h;omega
  refine⟨fun m o47 l48 l49 x50 x51 x52 x53=>∃(i:Nat) (G:Gr) (a':Int),i<=l.length/\m=l.length - i/\o47=oG G/\l48=eE G/\l49=eH G/\x50=.l (gh l)/\x51=ii a'/\x52=ii b/\x53=ii i/\
   (i < l.length->AS l a b g=AS (l.drop i) a' b G/\fits G (fq (l.drop i)+1))/\(i=l.length->AS l a b g=G),⟨_,0,g,a,by omega,rfl,rfl,rfl,rfl,rfl,rfl,rfl,rfl,fun _=>⟨rfl,hf⟩,fun h=>absurd h.symm hl⟩,?_⟩
  rintro m o47 l48 l49 x50 x51 x52 x53 ⟨i,G,a',hi,rfl,rfl,rfl,rfl,rfl,rfl,rfl,rfl,hA,hB⟩;refine⟨_,rfl,_,rfl,aa (fun h3=>?_) (fun h3=>?_)⟩
  ·rw [hen] at h3;replace h3:=b9 h3;obtain⟨hla,hfit⟩:=hA h3;obtain⟨x,hx⟩:∃x,l[i]?=some x:=⟨_,qqa h3⟩;have hx':(gh l)[i]?=some (mh x):=by rw [nq,qqe,hx];rfl
   have h86:=hs x (qqi hx);have hdr:=Oe hx;have hfn:=hfit.nn;have hfl:=hfit.lo;have hpos:=zg x;have hxz:=Ab x;refine⟨_,rfl,_,rz,_,rfl,?_⟩;rw [hen];refine aa (fun h4=>?_) (fun h4=>?_)
   ·have h4':i < l.length - 1:=by rw [c_,qqH] at h4;omega
    have hne:l.drop (i+1)≠[]:=by intro hc;have:=congrArg List.length hc;simp at this;omega
    rw [drop_cons hx,QU hne] at hla;have hf1:fits G.node (za x - 1+(fq (l.drop (i+1))+1)):=(hfit.le (m:=1+(za x - 1+(fq (l.drop (i+1))+1))) (by omega)).grow (HR G);have hf2:=hf1.grow (Fx x a' G.nodes G.node);have hsz:fits G.node (za x):=hf1.le (by omega);have h90:=h86 G.node a' G.nodes hsz;refine t89 G (by omega) _ ?_;refine⟨_,⟨bq hx',hxz⟩,?_⟩;obtain⟨kind,var,chan,tag,⟨k1,n1,v1,ks1⟩,⟨op,⟨k2,n2,v2,ks2⟩,⟨k3,n3,v3,ks3⟩⟩,body,els,cu⟩:=x;refine⟨_,rfl,h90 _ ?_⟩;refine⟨_,bn h3 (by omega),_,by omega,i+1,_,_,by omega,rfl,rfl,rfl,rfl,rfl,rfl,rfl,rfl,fun _=>⟨hla,hf2⟩,fun h=>by omega⟩
   ·have h4':i+1=l.length:=by rw [c_,qqJ] at h4;omega
    have hd0:l.drop (i+1)=[]:=by rw [List.drop_eq_nil_iff];omega
    rw [drop_cons hx,hd0,AS] at hla;have h90:=h86 G a' b (hfit.le (by omega));refine⟨_,⟨bq hx',hxz⟩,?_⟩;obtain⟨kind,var,chan,tag,⟨k1,n1,v1,ks1⟩,⟨op,⟨k2,n2,v2,ks2⟩,⟨k3,n3,v3,ks3⟩⟩,body,els,cu⟩:=x;refine⟨_,rfl,h90 _ ?_⟩;refine⟨_,bn h3 (by omega),_,by omega,i+1,_,_,by omega,rfl,rfl,rfl,rfl,rfl,rfl,rfl,rfl,fun h=>by omega,fun _=>hla⟩
  ·rw [hen] at h3;obtain rfl:=dy hi h3;rw [hB rfl] at hQ;exact⟨trivial,trivial,hQ⟩
theorem t90:∀(n:Nat) (s:Sm),za s<=n->n<=4194304->Sp90 s:=by
 intro n
 induction n with
 |zero=>intro s hs;have:=zg s;omega
 |succ n ih=>
  intro s hs hn;obtain⟨kind,var,chan,tag,e,c,body,els,cu⟩:=s;intro g a b hf Q hQ;rw [za] at hs hf;have hbody:R6 body:=t65 body (fun s hs'=>ih s (by have:=jr hs';omega) (by omega));have qxm:R6 els:=t65 els (fun s hs'=>ih s (by have:=jr hs';omega) (by omega));have qxA:∀tag var body,Ar.mk tag var body∈cu->R6 body:=fun tag var body hm=>t65 body (fun s hs'=>ih s (by have:=uq hm;simp only [LF] at this;have:=jr hs';omega) (by omega))
  have h48:=s48 c.op;have hfe:=hf.e;have hfh:=hf.h;have hfn:=hf.nn;have hfl:=hf.lo;have hel:(eE g).length<=100000000:=by simp [eE];omega
  have hhl:(eH g).length<=100000000:=by simp [eH];omega
  have h89:=t89 g (by omega);refine sh90 _ _ _ _ _ _ _ ?_;rw [LH] at hQ;by_cases m1:kind=1
  ·subst m1;rw [if_pos rfl,Ad] at hQ;obtain⟨k1,n1,v1,ks1⟩:=e;obtain⟨op,⟨k2,n2,v2,ks2⟩,⟨k3,n3,v3,ks3⟩⟩:=c;unfold G1;refine⟨rfl,_,rfl,_,rfl,de rfl ?_⟩;exact⟨_,rfl,_,rfl,_,rfl,_,rfl,_,rfl,_,rfl,_,rfl,rfl,rfl,_,rfl,_,rfl,rfl,_,rfl,rfl,_,lT,_,rfl,trivial,trivial,hQ⟩
  rw [if_neg m1] at hQ;by_cases m2:kind=2
  ·subst m2;rw [if_pos rfl] at hQ;have hgb:=(zx g ⟨a,g.nodes,2,0,0,0,ni,c⟩).trans (sj body g.nodes b (g.node.dm ⟨a,g.nodes,2,0,0,0,ni,c⟩));have hf1:=(hf.le (m:=1+(fq body+1)) (by omega)).grow (zx g ⟨a,g.nodes,2,0,0,0,ni,c⟩);have hb1:=hbody (g.node.dm ⟨a,g.nodes,2,0,0,0,ni,c⟩) g.nodes b hf1;have hf2:=(hf.le (m:=(1+(fq body+1))+(1+(fq els+1))) (by omega)).grow hgb;generalize hg1:AS body g.nodes b (g.node.dm ⟨a,g.nodes,2,0,0,0,ni,c⟩)=g1 at hQ hf2 hb1;have hf3:=hf2.grow (zx g1 ⟨a,g1.nodes,2,0,0,0,ni,yf c⟩);have hb2:=qxm (g1.node.dm ⟨a,g1.nodes,2,0,0,0,ni,yf c⟩) g1.nodes b hf3;have hn2:=hf2.nn;have hlo2:=hf2.lo;have he2:=hf2.e;have qZa:=t89 g1 (by omega);have qXS:(eE g1).length<=100000000:=by simp [eE];omega
   rw [Ad] at hb1 hb2;obtain⟨k1,n1,v1,ks1⟩:=e;obtain⟨op,⟨k2,n2,v2,ks2⟩,⟨k3,n3,v3,ks3⟩⟩:=c;unfold G1;refine⟨rfl,_,rfl,_,rfl,a_ rfl ⟨_,rfl,de rfl ?_⟩⟩;refine h89 _ ⟨_,rfl,_,rfl,_,rfl,_,rfl,_,rfl,rfl,rfl,_,rfl,rfl,_,rfl,rfl,_,lT (es:=eE g),_,rfl,_,rfl,hb1 _ ?_⟩;refine qZa _ ⟨_,rfl,cy h48 ⟨_,rfl,_,rfl,_,rfl,_,rfl,_,rfl,_,rfl,_,rfl,_,rfl,_,rfl,rfl,rfl,_,rfl,rfl,_,rfl,rfl,_,lT (es:=eE g1),_,rfl,_,rfl,hb2 _ ?_⟩⟩;exact⟨trivial,trivial,hQ⟩
  rw [if_neg m2] at hQ;by_cases m3:kind=3
  ·subst m3;rw [if_pos rfl] at hQ;have h0:grow g ((((g.head a).node).dm ⟨a,g.nodes,2,0,0,0,ni,c⟩).dm ⟨a,b,2,0,0,0,ni,yf c⟩) 2:=⟨by simp [Gr.node,Gr.dm,Gr.head];omega,by simp [Gr.node,Gr.dm,Gr.head];try omega,by simp [Gr.node,Gr.dm,Gr.head],by simp [Gr.node,Gr.dm,Gr.head]⟩;have hf2:=(hf.le (m:=2+(fq body+1)) (by omega)).grow h0;have hb1:=hbody _ g.nodes a hf2;have h85:=t89 (g.head a) (by simp only [Gr.head];omega);have heh:eH (g.head a)=eH g++[ii a]:=by simp [eH,Gr.head]
   rw [heh] at h85;have heE:eE ((((g.head a).node).dm ⟨a,g.nodes,2,0,0,0,ni,c⟩).dm ⟨a,b,2,0,0,0,ni,yf c⟩)=eE g++[dw ⟨a,g.nodes,2,0,0,0,ni,c⟩,dw ⟨a,b,2,0,0,0,ni,yf c⟩]:=by simp [eE,Gr.dm,Gr.node,Gr.head]
   have heH:eH ((((g.head a).node).dm ⟨a,g.nodes,2,0,0,0,ni,c⟩).dm ⟨a,b,2,0,0,0,ni,yf c⟩)=eH g++[ii a]:=by simp [eH,Gr.dm,Gr.node,Gr.head]
   rw [heE,heH] at hb1;have qXV:eH (g.head a).node=eH g++[ii a]:=by simp [eH,Gr.node,Gr.head]
   rw [qXV] at h85;obtain⟨k1,n1,v1,ks1⟩:=e;obtain⟨op,⟨k2,n2,v2,ks2⟩,⟨k3,n3,v3,ks3⟩⟩:=c;unfold G1;refine⟨rfl,_,rfl,_,rfl,a_ rfl ⟨_,rfl,a_ rfl ⟨_,rfl,de rfl ?_⟩⟩⟩;refine⟨rfl,rfl,_,rfl,rfl,_,lT,_,rfl,h85 _ ?_⟩;refine⟨_,rfl,_,rfl,_,rfl,_,rfl,_,rfl,_,rfl,cy h48 ⟨_,rfl,_,rfl,_,rfl,_,rfl,_,rfl,_,rfl,_,rfl,_,rfl,_,rfl,rfl,rfl,_,rfl,rfl,rfl,rfl,_,rfl,rfl,_,rfl,rfl,_,n_ (es:=eE g) (by simp only [qqr,List.length_nil,most];omega) (by simp only [qqr,List.length_nil,most];omega),_,rfl,_,rfl,hb1 _ ?_⟩⟩;exact⟨trivial,trivial,hQ⟩
  rw [if_neg m3] at hQ;by_cases m4:kind=4
  ·subst m4;rw [if_pos rfl,Ad] at hQ;obtain⟨k1,n1,v1,ks1⟩:=e;obtain⟨op,⟨k2,n2,v2,ks2⟩,⟨k3,n3,v3,ks3⟩⟩:=c;unfold G1;refine⟨rfl,_,rfl,_,rfl,a_ rfl ⟨_,rfl,a_ rfl ⟨_,rfl,a_ rfl ⟨_,rfl,de rfl ?_⟩⟩⟩⟩;exact⟨_,rfl,_,rfl,_,rfl,_,rfl,_,rfl,_,rfl,_,rfl,_,rfl,_,rfl,rfl,rfl,_,rfl,_,rfl,rfl,_,rfl,rfl,_,lT,_,rfl,trivial,trivial,hQ⟩
  rw [if_neg m4] at hQ;by_cases m5:kind=5
  ·subst m5;rw [if_pos rfl] at hQ;have hlen:=AA cu;obtain⟨k1,n1,v1,ks1⟩:=e;obtain⟨op,⟨k2,n2,v2,ks2⟩,⟨k3,n3,v3,ks3⟩⟩:=c;unfold G1;refine⟨rfl,_,rfl,_,rfl,a_ rfl ⟨_,rfl,a_ rfl ⟨_,rfl,a_ rfl ⟨_,rfl,a_ rfl ⟨_,rfl,de rfl ?_⟩⟩⟩⟩⟩;refine⟨fun m qQQ qQV qQU qQP qyk qyj qyi=>∃(i:Nat) (G:Gr),i<=cu.length/\m=cu.length - i/\qQQ=oG G/\qQV=eE G/\qQU=eH G/\qQP=mh (.mk 5 var chan tag (.mk k1 n1 v1 ks1) ⟨op,.mk k2 n2 v2 ks2,.mk k3 n3 v3 ks3⟩ body els cu)/\qyk=ii a/\qyj=ii b/\qyi=ii i/\
    Lx chan cu a b g=Lx chan (cu.drop i) a b G/\fits G (ku (cu.drop i)),⟨_,0,g,by omega,rfl,rfl,rfl,rfl,rfl,rfl,rfl,rfl,rfl,hf.le (by simp only [List.drop_zero];omega)⟩,?_⟩
   rintro m qQQ qQV qQU qQP qyk qyj qyi ⟨i,G,hi,rfl,rfl,rfl,rfl,rfl,rfl,rfl,rfl,har,hfit⟩;refine⟨_,rfl,_,rfl,_,rfl,?_⟩;rw [fm];refine aa (fun h3=>?_) (fun h3=>?_)
   ·replace h3:=b9 h3;obtain⟨x,hx⟩:∃x,cu[i]?=some x:=⟨_,qqa h3⟩;have hx':(oQ cu)[i]?=some (D7 x):=by rw [nr,qqe,hx];rfl
    obtain⟨t,v,bd⟩:=x;have hb:=qxA t v bd (qqi hx);rw [drop_cons hx,Lx] at har;rw [drop_cons hx,ku,LF] at hfit;have hfn:=hfit.nn;have hfl:=hfit.lo;have hfe:=hfit.e;have hf1:fits (G.node.dm ⟨a,G.nodes,4,v,chan,t,ni,qt⟩) ((fq bd+1)+ku (cu.drop (i+1))):=(hfit.le (m:=1+((fq bd+1)+ku (cu.drop (i+1)))) (by omega)).grow (zx G _);have hf2:=hf1.grow (sj bd G.nodes b _);have hb1:=hb _ G.nodes b (hf1.le (m:=fq bd+1) (by omega));rw [Ad] at hb1;have qXS:(eE G).length<=100000000:=by simp [eE];omega
    refine t89 G (by omega) _ ⟨_,rfl,_,rfl,_,⟨bq hx',rfl⟩,_,rfl,_,rfl,_,⟨bq hx',rfl⟩,_,rfl,_,rfl,_,rfl,_,rfl,_,rfl,_,rfl,_,rfl,rfl,rfl,_,rfl,_,rfl,_,rfl,rfl,_,rfl,rfl,_,lT (es:=eE G),_,rfl,_,rfl,_,⟨bq hx',rfl⟩,_,rfl,hb1 _ ?_⟩;exact⟨_,bn h3 (by omega),_,by omega,i+1,_,by omega,rfl,rfl,rfl,rfl,rfl,rfl,rfl,rfl,har,hf2⟩
   ·obtain rfl:=dy hi h3;rw [List.drop_length,Lx] at har;rw [har] at hQ;exact⟨trivial,trivial,hQ⟩
  rw [if_neg m5] at hQ;by_cases m6:kind=6
  ·subst m6;rw [if_pos rfl,Ad] at hQ;obtain⟨k1,n1,v1,ks1⟩:=e;obtain⟨op,⟨k2,n2,v2,ks2⟩,⟨k3,n3,v3,ks3⟩⟩:=c;unfold G1;refine⟨rfl,_,rfl,_,rfl,a_ rfl ⟨_,rfl,a_ rfl ⟨_,rfl,a_ rfl ⟨_,rfl,a_ rfl ⟨_,rfl,a_ rfl ⟨_,rfl,de rfl ?_⟩⟩⟩⟩⟩⟩;exact⟨_,rfl,_,rfl,_,rfl,_,rfl,_,rfl,rfl,rfl,_,rfl,rfl,_,rfl,rfl,_,lT,_,rfl,trivial,trivial,hQ⟩
  rw [if_neg m6] at hQ;by_cases m7:kind=7
  ·subst m7;rw [if_pos rfl,Ad] at hQ;obtain⟨k1,n1,v1,ks1⟩:=e;obtain⟨op,⟨k2,n2,v2,ks2⟩,⟨k3,n3,v3,ks3⟩⟩:=c;unfold G1;refine⟨rfl,_,rfl,_,rfl,a_ rfl ⟨_,rfl,a_ rfl ⟨_,rfl,a_ rfl ⟨_,rfl,a_ rfl ⟨_,rfl,a_ rfl ⟨_,rfl,a_ rfl ⟨_,rfl,de rfl ?_⟩⟩⟩⟩⟩⟩⟩;exact⟨_,rfl,_,rfl,_,rfl,_,rfl,_,rfl,rfl,rfl,_,rfl,_,rfl,_,rfl,rfl,_,rfl,rfl,_,lT,_,rfl,trivial,trivial,hQ⟩
  rw [if_neg m7] at hQ;obtain⟨k1,n1,v1,ks1⟩:=e;obtain⟨op,⟨k2,n2,v2,ks2⟩,⟨k3,n3,v3,ks3⟩⟩:=c;have eqf:∀k:Int,kind≠k->bf .eql (ii kind) (ii k)=some (.b false):=fun k h=>by show some (TV.b (nk kind k))=_;rw [bp,qqK h]
  unfold G1;exact⟨rfl,_,rfl,_,eqf _ m1,a_ rfl ⟨_,eqf _ m2,a_ rfl ⟨_,eqf _ m3,a_ rfl ⟨_,eqf _ m4,a_ rfl ⟨_,eqf _ m5,a_ rfl ⟨_,eqf _ m6,a_ rfl ⟨_,eqf _ m7,a_ rfl ⟨trivial,trivial,hQ⟩⟩⟩⟩⟩⟩⟩⟩
theorem u65 (l:List Sm) (hl:fq l<=4194304):R6 l:=t65 l (fun s hs=>t90 4194304 s (qqR (jr hs) hl) (qqT _))
end Go.Ax.dg
set_option maxRecDepth 100000
namespace Go.Ax.dg
open Go Go.Ax Go.Ax.V Go.Ax.Ft
def GB (x:Pr) (g:Gr):Prop:=∃hs:List Int,g={kz x with heads:=hs}/\hs.Perm (kz x).heads/\hs.Pairwise (·<=·)
def W4 (ps:List Pr) (gs:List Gr):Prop:=gs.length=ps.length/\∀(j:Nat) x g,ps[j]?=some x->gs[j]?=some g->GB x g
theorem W4.snoc {ps:List Pr} {gs:List Gr} {x:Pr} {g:Gr} (h:W4 ps gs) (hg:GB x g):W4 (ps++[x]) (gs++[g]):=by
 refine⟨by simp [h.1],fun j y k h1 h2=>?_⟩;by_cases hj:j < ps.length
 ·rw [qqc hj] at h1;rw [qqc (by rw [h.1];exact hj)] at h2;exact h.2 j y k h1 h2
 ·have hl:=(qqb.1 h1).1;rw [qqm,qqq] at hl;have:j=ps.length:=by omega
  subst this;rw [qqd (qqT _),Nat.sub_self] at h1;rw [qqd (by rw [h.1];exact qqT _),h.1,Nat.sub_self] at h2;simp at h1 h2;subst h1 h2;exact hg
def WS (p:Pg) (r:TV):Prop:=∃e:Int,(∃u,r=.tp [u,ii e]/\u.ff=false/\∃a b c:TV,u=.a [a,b,c])/\(e=0->vb p=true/\(∀x∈p.procs,(kz x).bh.length<=400)/\∃gs:List Gr,W4 p.procs gs/\r=.tp [gI p.au gs (p.procs.map (·.vars)),ii 0])
theorem s45v (p:Pg) (hz:Aw p):VS prog 45 [gb p] (WS p):=by
 have hlc:=hz.au;have hlp:=hz.procs;have hl2:(p.procs.map gJ).length=p.procs.length:=qql _;have h47:=s47 p hz;refine vs45 _ _ ?_;unfold W45
 (repeat (first|refine dj ?_|refine di ?_|refine lG ?_))
 refine aa (fun h=>?_) (fun h=>?_)
 ·exact⟨_,rfl,trivial,_,rfl,_,rfl,_,rfl,_,rfl,DB rfl rfl,1,⟨_,rfl,rfl,_,_,_,rfl⟩,fun h=>by cases h⟩
 have hok:vb p=true:=by simpa using h
 refine⟨_,rfl,_,rfl,_,rfl,?_⟩;refine⟨fun m o15 o16 l17 l18 l19 o20 l21 l22 x23=>∃(i:Nat) (gs:List Gr),i<=p.procs.length/\m=p.procs.length - i/\o15=gb p/\o16=.a [.l [],.l [],.l []]/\o20=.a [.l (p.au.map c8),.l [],.l []]/\l21=gs.map gK/\W4 (p.procs.take i) gs/\l22=((p.procs.take i).map (·.vars)).map ii/\x23=ii i/\(p.procs.take i).all (fun x=>decide ((kz x).bh.length<=400))=true,⟨_,0,[],by omega,rfl,rfl,rfl,rfl,rfl,⟨rfl,fun j x g h=>by simp at h⟩,rfl,rfl,rfl⟩,?_⟩;rintro m o15 o16 l17 l18 l19 o20 l21 l22 x23 ⟨i,gs,hi,rfl,rfl,rfl,rfl,rfl,hgs,rfl,rfl,hall⟩;have hgl:gs.length=i:=by rw [hgs.1,qqn];omega
 refine⟨_,rfl,_,rfl,_,rfl,?_⟩;refine aa (fun h3=>?_) (fun h3=>?_)
 ·rw [hl2] at h3;replace h3:=b9 h3;obtain⟨x,hx⟩:∃x,p.procs[i]?=some x:=⟨_,qqa h3⟩;have hx':(p.procs.map gJ)[i]?=some (gJ x):=by rw [qqe,hx];rfl
  have hxm:=qqi hx;have hb:=hz.body x hxm;refine⟨_,rfl,_,rfl,_,rfl,_,⟨bq hx',rfl⟩,_,rfl,?_⟩;refine u65 x.body hb ⟨2,[],[]⟩ 0 1 ⟨(by decide:(0:Int)<=2),(by omega:(2:Int)+((fq x.body+1:Nat):Int)<=100000000),by simp only [List.length_nil];omega,by simp only [List.length_nil];omega⟩ _ ?_;have hgr:=(sj x.body 0 1 ⟨2,[],[]⟩).h;have hle:(eE (kz x)).length=(kz x).bh.length:=qql _;refine⟨_,rfl,_,rfl,aa (fun h4=>?_) (fun h4=>?_)⟩
  ·exact⟨_,rfl,trivial,_,rfl,_,rfl,_,rfl,_,rfl,DB rfl rfl,10,⟨_,rfl,rfl,_,_,_,rfl⟩,fun h=>by cases h⟩
  ·have h5:(kz x).bh.length<=400:=by have h4':n8 400 ((eE (kz x)).length:Int)=false:=h4;rw [hle,c_,qqJ] at h4';omega
   have hHl:(kz x).heads.length<=100000000:=by have:(kz x).heads.length<=0+_:=hgr;omega
   refine⟨fun m o46 o47 l48 l49 l50 o51 l52 l53 o54 l55 l56 x57 x58=>∃(hs:List Int) (k:Nat),hs.Perm (kz x).heads/\m=hs.length - k/\1<=k/\Ord hs k/\o46=gb p/\o47=.a [.l [],.l [],.l []]/\o51=.a [.l (p.au.map c8),.l [],.l []]/\l52=gs.map gK/\l53=((p.procs.take i).map (·.vars)).map ii/\
    o54=oG (kz x)/\l55=eE (kz x)/\l56=hs.map ii/\x57=ii i/\x58=ii k,⟨_,(kz x).heads,1,List.Perm.refl _,rfl,qqT _,fun x y a b h1 h2=>by omega,rfl,rfl,rfl,rfl,rfl,rfl,rfl,rfl,rfl,rfl⟩,?_⟩
   rintro m o46 o47 l48 l49 l50 o51 l52 l53 o54 l55 l56 x57 x58 ⟨hs,k,hpm,rfl,hk,qQ0,rfl,rfl,rfl,rfl,rfl,rfl,rfl,rfl,rfl,rfl⟩;have hhl:=hpm.length_eq;have hml:(hs.map ii).length=hs.length:=qql _;refine⟨_,rfl,_,rfl,aa (fun h7=>?_) (fun h7=>?_)⟩
   ·rw [hml] at h7;replace h7:=b9 h7;refine⟨fun m o64 o65 l66 l67 l68 o69 l70 l71 o72 l73 l74 x75 x76 x77=>∃(hs:List Int) (j:Nat),hs.Perm (kz x).heads/\m=j/\TH hs k j/\o64=gb p/\o65=.a [.l [],.l [],.l []]/\o69=.a [.l (p.au.map c8),.l [],.l []]/\l70=gs.map gK/\l71=((p.procs.take i).map (·.vars)).map ii/\
     o72=oG (kz x)/\l73=eE (kz x)/\l74=hs.map ii/\x75=ii i/\x76=ii k/\x77=ii j,⟨_,hs,k,hpm,rfl,TH.begin qQ0 h7,rfl,rfl,rfl,rfl,rfl,rfl,rfl,rfl,rfl,rfl,rfl⟩,?_⟩
    rintro j o64 o65 l66 l67 l68 o69 l70 l71 o72 l73 l74 x75 x76 x77 ⟨hs',_,qwJ,rfl,qzZ,rfl,rfl,rfl,rfl,rfl,rfl,rfl,rfl,rfl,rfl,rfl⟩;have hhl':=qwJ.length_eq;have hj:j < hs'.length:=Nat.lt_of_le_of_lt qzZ.jk qzZ.kl;have hml':(hs'.map ii).length=hs'.length:=qql _;have hk4:hs'.length - (k+1) < hs.length - k:=by omega
    match j,hj,qzZ with
    |0,hj,qzZ=>refine⟨_,rfl,rfl,cr rfl (cr rfl ⟨rfl,0,(fun h=>by cases h),rfl,cr rfl ⟨rfl,cr rfl ⟨rfl,0,(fun h=>by cases h),rfl,cr rfl (cr rfl ⟨_,rfl,a_ rfl ?_⟩)⟩⟩⟩)⟩;exact⟨_,bn h7 (by omega),_,hk4,hs',k+1,qwJ,rfl,by omega,qzZ.done (fun a b h=>by omega),rfl,rfl,rfl,rfl,rfl,rfl,rfl,rfl,rfl,rfl⟩
    |j+1,hj,qzZ=>
     obtain⟨a,ha,ha'⟩:=RT (hs:=hs') (j:=j) (by omega);obtain⟨b,hb2,hb'⟩:=RT hj;have hd:=Uc (j:=j) (by omega);have hx1:=vi (j:=j) (n:=(hs'.map ii).length) (by omega);have hx2:=vi (j:=j+1) (n:=(hs'.map ii).length) (by omega);refine⟨_,ZI j,rfl,bg rfl rfl (bg rfl hd ⟨rfl,_,(fun _=>hx1),rfl,bg rfl (QS ha') ⟨rfl,bg rfl rfl ⟨rfl,_,(fun _=>hx2),rfl,bg rfl (QS hb') (bg (v:=.b (n8 b a)) rfl rfl ⟨.b (n8 b a),rfl,aa (fun h8=>?_) (fun h8=>?_)⟩)⟩⟩⟩)⟩
     ·have hs2:=PI (b:=b) ha';have hb3:((hs'.map ii).set j (ii b))[j+1]?=some (ii b):=by rw [List.getElem?_set_ne (by omega)];exact hb'
      have hs3:=PI (b:=a) hb3;have hx3:=vi (j:=j+1) (n:=((hs'.map ii).set j (ii b)).length) (by rw [qqs];omega);rw [Pv] at hs3;rw [c_,qqH] at h8;exact⟨_,hd,_,hx2,_,QS hb',_,hd,_,hx1,_,QS ha',_,hx1,_,hs2,_,hx3,_,hs3,_,hd,_,Nat.lt_succ_self j,Pw hs' j a b,j,(swap_perm hs' j a b ha hb2).trans qwJ,rfl,qzZ.step ha hb2 h8,rfl,rfl,rfl,rfl,rfl,rfl,rfl,rfl,rfl,rfl,rfl⟩
     ·rw [c_,qqJ] at h8;exact⟨_,bn h7 (by omega),_,hk4,hs',k+1,qwJ,rfl,by omega,qzZ.done (fun a2 b2 _ h1 h2=>by rw [Nat.add_sub_cancel,ha] at h1;rw [hb2] at h2;cases h1;cases h2;omega),rfl,rfl,rfl,rfl,rfl,rfl,rfl,rfl,rfl,rfl⟩
   ·rw [hml] at h7;have hkl:hs.length<=k:=by rw [c_,qqJ] at h7;omega
    have hl3:(gs.map gK).length<=4194304:=by rw [qql];omega
    have hl4:(((p.procs.take i).map (·.vars)).map ii).length<=4194304:=by simp;omega
    have hg2:GB x {kz x with heads:=hs}:=⟨hs,rfl,hpm,qQ0.all hkl⟩;refine⟨_,rfl,rfl,rfl,_,rfl,_,rfl,rfl,_,rfl,rfl,_,lT,?_⟩;refine⟨_,rfl,_,⟨bq hx',rfl⟩,_,rfl,rfl,rfl,_,rfl,rfl,_,lT,?_⟩;refine⟨_,rfl,_,rfl,_,bn h3 (by omega),_,by omega,i+1,gs++[{kz x with heads:=hs}],by omega,rfl,rfl,rfl,rfl,?_,by rw [←jo hx];exact hgs.snoc hg2,?_,rfl,oe hx hall (by simpa using h5)⟩
    ·rw [List.map_append];rfl
    ·rw [←jo hx,List.map_append,List.map_append];rfl
 ·rw [hl2] at h3;obtain rfl:=dy hi h3;rw [qqt] at hall hgs;refine⟨_,rfl,_,rfl,trivial,_,rfl,_,rfl,_,rfl,DB rfl rfl,0,⟨_,rfl,rfl,_,_,_,rfl⟩,fun _=>⟨hok,fun x hx=>by simpa using qqA.1 hall x hx,gs,hgs,?_⟩⟩;rw [qqt];rfl
end Go.Ax.dg
set_option maxRecDepth 100000
namespace Go.Ax.dg
open Go Go.Ax Go.Ax.V Go.Ax.Ft
def F5 (t:TV):Prop:=∃(k n a:Int) (x:ByteArray),t=.a [ii k,.s x,ii n,ii a]
theorem OQ (x:ByteArray) (c:Int) (e:Nat) (K:TV->Prop) (hK:∀t:Bool,(t=true->e < x.size)->(t=false->¬e < x.size\/(IS c||I_ c)=false\/∃h:e < x.size,(IS (x[e].toNat:Int)||I_ (x[e].toNat:Int))=false)->K (.b t)) :
 ∃v24,bf .lss (ii e) (ii x.size)=some v24/\
 ∃v25,gV v24 true (fun r=>some (TV.i .u8 c)=some r) v25/\
 ∃LB,gV v24 true (fun r=>VS prog 156 [v25] fun r'=>r'=r/\lB true r) LB/\
 ∃Oa,gV v24 true (fun r=>some LB=some r) Oa/\
 ∃X6,gV Oa false (fun r=>some (TV.i .u8 c)=some r) X6/\
 ∃X5,gV Oa false (fun r=>VS prog 157 [X6] fun r'=>r'=r/\lB true r) X5/\
 ∃v30,gV v24 true (fun r=>ij Oa (TV.b true) X5=some r) v30/\
 ∃Pm,ij v24 v30 (TV.b false)=some Pm/\
 ∃TT,gV Pm true (fun r=>some (TV.s x)=some r) TT/\
 ∃TS,gV Pm true (fun r=>some (ii e)=some r) TS/\
 ∃v34,gV Pm true (fun r=>vj TT TS=some r) v34/\
 ∃v35,gV Pm true (fun r=>VS prog 156 [v34] fun r'=>r'=r/\lB true r) v35/\
 ∃Ls,gV Pm true (fun r=>some v35=some r) Ls/\
 ∃v37,gV Ls false (fun r=>some (TV.s x)=some r) v37/\
 ∃v38,gV Ls false (fun r=>some (ii e)=some r) v38/\
 ∃v39,gV Ls false (fun r=>vj v37 v38=some r) v39/\
 ∃v40,gV Ls false (fun r=>VS prog 157 [v39] fun r'=>r'=r/\lB true r) v40/\
 ∃TR,gV Pm true (fun r=>ij Ls (TV.b true) v40=some r) TR/\
 ∃v42,ij Pm TR (TV.b false)=some v42/\K v42:=by
 refine⟨.b (n8 (e:Int) x.size),rfl,?_⟩;have a1:=UJ c;have a2:=SI c;cases hlt:n8 (e:Int) x.size with
 |false=>
  have hn:¬e < x.size:=fun h=>by
   rw [AR] at hlt;have:¬(e:Int) < (x.size:Int):=by simpa using hlt
   omega
  refine cr rfl (cr rfl (cr rfl (BU (BU (cr rfl ⟨_,rfl,?_⟩)))));refine cr rfl (cr rfl (cr rfl (cr rfl (cr rfl (BU (BU (BU (BU (cr rfl ⟨_,rfl,?_⟩)))))))));exact hK false (fun h=>by cases h) (fun _=>.inl hn)
 |true=>
  have hlt':e < x.size:=b9 hlt;have b1:=UJ (x[e].toNat:Int);have b2:=SI (x[e].toNat:Int);have hix:=DY hlt';have fin:∀t,t=(bif (IS c||I_ c) then (IS (x[e].toNat:Int)||I_ (x[e].toNat:Int)) else false)->K (.b t):=fun t ht=>hK t (fun _=>hlt') (fun h=>by
   rw [h] at ht;cases hc:(IS c||I_ c) with
   |false=>exact .inr (.inl rfl)
   |true=>rw [hc] at ht;exact .inr (.inr ⟨hlt',ht.symm⟩))
  generalize IS c=lc at *;generalize I_ c=dc at *;generalize IS (x[e].toNat:Int)=ld at *;generalize I_ (x[e].toNat:Int)=dd at *;refine bg rfl rfl (bg rfl (b8 a1) (bg rfl rfl ?_));have qkg:(lc||dc)=true->∃TT,gV (TV.b true) true (fun r=>some (TV.s x)=some r) TT/\
    ∃TS,gV (TV.b true) true (fun r=>some (ii e)=some r) TS/\
    ∃v34,gV (TV.b true) true (fun r=>vj TT TS=some r) v34/\
    ∃v35,gV (TV.b true) true (fun r=>VS prog 156 [v34] fun r'=>r'=r/\lB true r) v35/\
    ∃Ls,gV (TV.b true) true (fun r=>some v35=some r) Ls/\
    ∃v37,gV Ls false (fun r=>some (TV.s x)=some r) v37/\
    ∃v38,gV Ls false (fun r=>some (ii e)=some r) v38/\
    ∃v39,gV Ls false (fun r=>vj v37 v38=some r) v39/\
    ∃v40,gV Ls false (fun r=>VS prog 157 [v39] fun r'=>r'=r/\lB true r) v40/\
    ∃TR,gV (TV.b true) true (fun r=>ij Ls (TV.b true) v40=some r) TR/\
    ∃v42,ij (TV.b true) TR (TV.b false)=some v42/\K v42:=by
   intro hc;refine bg rfl rfl (bg rfl rfl (bg rfl hix (bg rfl (b8 b1) (bg rfl rfl ?_))));cases ld with
   |true=>refine cr rfl (cr rfl (cr rfl (cr rfl (bg rfl rfl ⟨_,rfl,fin _ ?_⟩))));rw [hc];rfl
   |false=>refine bg rfl rfl (bg rfl rfl (bg rfl hix (bg rfl (b8 b2) (bg rfl rfl ⟨_,rfl,fin _ ?_⟩))));rw [hc];rfl
  cases lc with
  |true=>exact cr rfl (cr rfl (bg rfl rfl ⟨_,rfl,qkg rfl⟩))
  |false=>
   refine bg rfl rfl (bg rfl (b8 a2) (bg rfl rfl ⟨_,rfl,?_⟩));cases dc with
   |true=>exact qkg rfl
   |false=>refine cr rfl (cr rfl (cr rfl (cr rfl (cr rfl (BU (BU (BU (BU (cr rfl ⟨_,rfl,fin _ rfl⟩)))))))))
theorem CF {ts:List TV} {t:TV} {n:Nat} (hl:ts.length<=4194304):ga 40 ts [t]=some (ts++[t]):=n_ (by simp only [qqq,most];omega) (by simp only [qqq,most];omega)
theorem Ob {ts:List TV} {t:TV} (h:∀t∈ts,F5 t) (ht:F5 t):∀u∈ts++[t],F5 u:=fun u hu=>by
 rcases qqx.1 hu with h1|h1
 ·exact h u h1
 ·rw [qqy.1 h1];exact ht
def LexR (r:TV):Prop:=∃(ts:List TV) (n e:Int),r=.tp [.l ts,ii n,ii e]/\∀t∈ts,F5 t
theorem Ew (n e:Int):LexR (.tp [.l [],ii n,ii e]):=⟨[],n,e,rfl,fun t ht=>by cases ht⟩
theorem s127 (x:ByteArray) (hx:x.size<=4194304):VS prog 127 [.s x] LexR:=by
 refine XL _ _ ?_;unfold W127;refine⟨fun n a l b=>∃at_:Nat,at_<=x.size/\n=x.size - at_/\a=.s x/\b=ii at_/\l.length<=at_/\∀t∈l,F5 t,⟨_,0,qqS _,rfl,rfl,rfl,qqT _,fun t ht=>by cases ht⟩,?_⟩;rintro n x4 ts x6 ⟨at_,hat,rfl,rfl,rfl,hts,qkV⟩;refine⟨_,rfl,_,rfl,aa (fun h=>?_) (fun h=>?_)⟩;rotate_left
 ·refine⟨_,rfl,_,rfl,aa (fun h2=>?_) (fun h2=>?_)⟩
  ·exact⟨_,rfl,trivial,⟨rfl,rfl,rfl,trivial⟩,Ew _ _⟩
  ·exact⟨trivial,⟨rfl,rfl,rfl,trivial⟩,ts,0,0,rfl,qkV⟩
 have hlt:at_ < x.size:=b9 h;refine⟨_,DY hlt,?_⟩;have hbyte:(x[at_].toNat:Int)=(x[at_].toNat:Int):=rfl;generalize hc:(x[at_].toNat:Int)=c at hbyte;refine⟨_,rfl,gO _ (fun h=>rfl) (gO _ (fun h=>by rw [h];rfl) (IG (aa (fun h2=>?_) (fun h2=>?_))))⟩
 ·exact⟨_,bn hlt (by omega),_,by omega,at_+1,by omega,rfl,rfl,rfl,by omega,qkV⟩
 refine⟨fun n a l b q i=>∃e:Nat,at_<=e/\e<=x.size/\n=x.size - e/\a=.s x/\ts=l/\b=ii at_/\q=.i .u8 c/\i=ii e,⟨_,at_,qqT _,hat,rfl,rfl,rfl,rfl,rfl,rfl⟩,?_⟩;rintro n x18 l19 x20 x21 x22 ⟨e,he1,he2,rfl,rfl,rfl,rfl,rfl,rfl⟩;refine⟨_,rfl,OQ x c e _ (fun t ht hf=>?_)⟩;refine aa (fun h3=>?_) (fun h3=>?_)
 ·have:=ht h3;exact⟨_,bn this (by omega),_,by omega,e+1,by omega,by omega,rfl,rfl,rfl,rfl,rfl,rfl⟩
 have qxK:(IS c||I_ c)=true->at_ < e:=fun hl=>by
  rcases Nat.lt_or_ge at_ e with h4|h4
  ·exact h4
  ·have:e=at_:=by omega
   subst this;rcases hf h3 with h5|h5|⟨h5,h6⟩
   ·exact absurd hlt h5
   ·rw [hl] at h5;cases h5
   ·rw [hc,hl] at h6;cases h6
 clear ht hf h3;have hsz:(x.extract at_ e).size<=4194304:=by simp;omega
 have next:∀(e':Nat) (t:TV),at_ < e'->e'<=x.size->F5 t->∃m,m < x.size - at_/\(∃a2:Nat,a2<=x.size/\m=x.size - a2/\TV.s x=.s x/\ii e'=ii a2/\(ts++[t]).length<=a2/\∀u∈ts++[t],F5 u):=fun e' t h1 h2 ht=>⟨_,by omega,e',h2,rfl,rfl,rfl,by simp;omega,Ob qkV ht⟩
 refine⟨_,rfl,_,rfl,cy (UJ c) (aa (fun h4=>?_) (fun h4=>?_))⟩
 ·have hae:=qxK (by rw [h4];rfl);refine⟨_,EW he1 he2,_,rfl,_,rfl,_,rfl,Ul (s158 _) (fun b=>aa (fun h5=>?_) (fun h5=>?_))⟩
  ·refine⟨_,rfl,_,rfl,_,rfl,_,rfl,aa (fun h6=>?_) (fun h6=>?_)⟩
   ·exact⟨trivial,⟨rfl,rfl,rfl,trivial⟩,Ew _ _⟩
   ·exact⟨_,rfl,rfl,rfl,_,rfl,rfl,_,CF (n:=0) (by omega),next e _ hae he2 ⟨_,_,_,_,rfl⟩⟩
  ·refine⟨_,rfl,_,rfl,_,rfl,aa (fun h6=>?_) (fun h6=>?_)⟩
   ·exact⟨trivial,⟨rfl,rfl,rfl,trivial⟩,Ew _ _⟩
   ·exact⟨_,rfl,rfl,rfl,_,rfl,rfl,_,CF (n:=0) (by omega),next e _ hae he2 ⟨_,_,_,_,rfl⟩⟩
 refine cy (SI c) (aa (fun h5=>?_) (fun h5=>?_))
 ·have hae:=qxK (by rw [h5,Bool.or_true]);refine⟨_,EW he1 he2,_,rfl,_,rfl,_,rfl,_,rfl,?_⟩;generalize hw:x.extract at_ e=w at *;refine⟨.b (n8 10 w.size),rfl,rfl,?_⟩;cases hgt:n8 10 (w.size:Int) with
  |true=>refine cr rfl (cr rfl (cr rfl (cr rfl (BU (BU (cr rfl ⟨_,rfl,de rfl ?_⟩))))));exact⟨trivial,⟨rfl,rfl,rfl,trivial⟩,Ew _ _⟩
  |false=>
   refine bg rfl rfl (bg rfl rfl (bg rfl rfl (bg rfl rfl ?_)));refine gB _ (fun h=>rfl) (gB _ (fun h=>by rw [h];rfl) ?_);refine bg rfl (v:=.b ((n8 1 (w.size:Int))&&nk c 48)) ?_ ?_
   ·cases n8 1 (w.size:Int)<;>rfl
   refine⟨_,rfl,aa (fun h6=>?_) (fun h6=>?_)⟩
   ·exact⟨trivial,⟨rfl,rfl,rfl,trivial⟩,Ew _ _⟩
   refine⟨fun n o a l b i q=>∃(j:Nat) (num:Int),j<=w.size/\n=w.size - j/\o=.a [ii 2,.s w,ii num,ii at_]/\a=.s x/\ts=l/\b=ii at_/\i=ii e/\q=ii j,⟨_,0,0,qqS _,rfl,rfl,rfl,rfl,rfl,rfl,rfl⟩,?_⟩;rintro n o83 x84 l85 x86 x87 x88 ⟨j,num,hj,rfl,rfl,rfl,rfl,rfl,rfl,rfl⟩;refine⟨_,rfl,_,rfl,_,rfl,aa (fun h7=>?_) (fun h7=>?_)⟩
   ·have hjw:j < w.size:=b9 h7;refine⟨_,rfl,_,DY hjw,cy (SI _) ⟨_,gp _,aa (fun h8=>?_) (fun h8=>?_)⟩⟩
    ·exact⟨trivial,⟨rfl,rfl,rfl,trivial⟩,Ew _ _⟩
    ·exact⟨_,rfl,_,rfl,_,rfl,_,DY hjw,_,rfl,_,rfl,_,rfl,_,rfl,_,bn hjw (by omega),_,by omega,j+1,_,by omega,rfl,rfl,rfl,rfl,rfl,rfl,rfl⟩
   ·refine⟨_,rfl,_,rfl,aa (fun h8=>?_) (fun h8=>?_)⟩
    ·exact⟨trivial,⟨rfl,rfl,rfl,trivial⟩,Ew _ _⟩
    ·exact⟨_,rfl,rfl,rfl,_,rfl,rfl,_,CF (n:=0) (by omega),next e _ hae he2 ⟨_,_,_,_,rfl⟩⟩
 ·refine rq (s159 x at_ hlt hx) ?_;rintro r ⟨m,rfl,hm⟩;refine⟨trivial,_,rfl,aa (fun h6=>?_) (fun h6=>?_)⟩
  ·exact⟨trivial,⟨rfl,rfl,rfl,trivial⟩,Ew _ _⟩
  ·have hm0:0 < m:=by
    rw [bp] at h6;have:¬(m:Int)=0:=by simpa using h6
    omega
   exact⟨_,R4 (by omega),_,EW (by omega) hm,_,rfl,_,rfl,_,rfl,rfl,rfl,_,rfl,rfl,_,CF (n:=0) (by omega),next (at_+m) _ (by omega) hm ⟨_,_,_,_,rfl⟩⟩
theorem s92 (x:ByteArray) (hx:x.size<=4194304):VS prog 92 [.s x] Q0:=by
 refine vs92 _ _ ?_;unfold W92;refine rq (s127 x hx) ?_;rintro r ⟨ts,n,e,rfl,qkV⟩;refine⟨trivial,_,rfl,_,rfl,_,rfl,.b (nk e 0),rfl,?_⟩;cases he:nk e 0 with
 |false=>refine cr rfl (cr rfl (cr rfl ⟨_,rfl,cr rfl (cr rfl ⟨rfl,rfl,cr rfl (cr rfl ⟨_,rfl,cr rfl (cr rfl ⟨rfl,rfl,cr rfl (cr rfl (cr rfl ⟨_,rfl,trivial,trivial,_,rfl⟩))⟩)⟩)⟩)⟩))
 |true=>
  refine bg rfl rfl (bg rfl rfl (bg (v:=.b (nk (ts.length:Int) 1)) rfl rfl ⟨_,rfl,?_⟩));cases hl:nk (ts.length:Int) 1 with
  |false=>refine cr rfl (cr rfl ⟨rfl,rfl,cr rfl (cr rfl ⟨_,rfl,cr rfl (cr rfl ⟨rfl,rfl,cr rfl (cr rfl (cr rfl ⟨_,rfl,trivial,trivial,_,rfl⟩))⟩)⟩)⟩)
  |true=>
   have hlen:ts.length=1:=by rw [bp] at hl;have:=of_decide_eq_true hl;omega
   obtain⟨t,rfl⟩:∃t,ts=[t]:=by
    match ts,hlen with
    |[t],_=>exact⟨t,rfl⟩
   obtain⟨k,nm,a,y,rfl⟩:=qkV t qqu;refine bg rfl rfl (bg rfl ⟨rfl,rfl⟩ ⟨rfl,rfl,bg rfl rfl (bg (v:=.b (nk k 1)) rfl rfl ⟨_,rfl,?_⟩)⟩);cases hk:nk k 1 with
   |false=>exact cr rfl (cr rfl ⟨rfl,rfl,cr rfl (cr rfl (cr rfl ⟨_,rfl,trivial,trivial,_,rfl⟩))⟩)
   |true=>exact bg rfl rfl (bg rfl ⟨rfl,rfl⟩ ⟨rfl,rfl,bg rfl rfl (bg rfl rfl (bg rfl rfl ⟨_,rfl,trivial,trivial,_,rfl⟩))⟩)
end Go.Ax.dg
set_option maxRecDepth 100000
namespace Go.Ax.dg
open Go Go.Ax Go.Ax.V Go.Ax.Ft
theorem S4 (x:ByteArray) (hx:x.size<=4194304):∃b,VS prog 92 [.s x] (fun r=>r=.b b):=by
 have one:∀(l:List AV),oY [.s x] l->l=[.str x]:=fun l h=>by
  obtain⟨hl,h⟩:=h
  match l,hl with
  |[a],_=>have:=h 0 _ _ rfl rfl;cases this;rfl
 obtain⟨v,H,nx,h1,a,h2,r,h3,b,hb⟩:=s92 x hx [.str x] ⟨rfl,fun j t y ht hy=>by
  cases j with
  |zero=>simp at ht hy;subst ht;subst hy;exact .s x
  |succ j=>simp at ht⟩
 refine⟨b,fun l has=>?_⟩;rw [one l has];exact⟨v,H,nx,h1,a,h2,r,h3,hb⟩
open Classical in
def Ht (f:Nat) (ts:List TV):Bool:=if h:∃b,VS prog f ts (fun r=>r=.b b) then Classical.choose h else false
theorem CS {f:Nat} {ts:List TV} (h:∃b,VS prog f ts (fun r=>r=.b b)):VS prog f ts (fun r=>r=.b (Ht f ts)):=by unfold Ht;rw [dif_pos h];exact Classical.choose_spec h
def tu (x:ByteArray):Bool:=Ht 92 [.s x]
theorem DF (x:ByteArray) (hx:x.size<=4194304):VS prog 92 [.s x] (fun r=>r=.b (tu x)):=CS (S4 x hx)
theorem Ua:∀(n:Nat) (e:NE),Cz e<=n->n<=4194304->∃b,VS prog 128 [GZ e] (fun r=>r=.b b)
 |0,e,h,_=>by have:=Bo e;omega
 |n+1,.mk k num s ks,h,hn=>by
  simp only [Cz] at h;have ih:∀x∈ks,∃b,VS prog 128 [GZ x] (fun r=>r=.b b):=fun x hx=>Ua n x (by have:=Fm hx;omega) (by omega)
  have ha:GZ (.mk k num s ks)=.a [ii k,ii num,ss s,.l (Dl ks)]:=rfl;rw [ha];have hname:=DF s (by omega);have qXN:=s93 num;obtain⟨tw,htw⟩:=Uo k;cases h1:nk k 1 with
  |true=>apply Exists.intro;refine Fq _ _ ?_;unfold Ll;refine⟨rfl,_,rfl,_,rfl,de h1 ?_⟩;exact⟨_,rfl,cy qXN ⟨rfl,gB _ (fun h=>rfl) (gB _ (fun h=>by rw [h];rfl) (gB _ (fun h=>by rw [h];rfl) (E9 ⟨trivial,trivial,rfl⟩)))⟩⟩
  |false=>
  cases h2:nk k 2 with
  |true=>apply Exists.intro;refine Fq _ _ ?_;unfold Ll;refine⟨rfl,_,rfl,_,rfl,a_ h1 ⟨_,rfl,_,rfl,de h2 ?_⟩⟩;exact⟨_,rfl,cy hname ⟨rfl,gB _ (fun h=>rfl) (gB _ (fun h=>by rw [h];rfl) (gB _ (fun h=>by rw [h];rfl) (E9 ⟨trivial,trivial,rfl⟩)))⟩⟩
  |false=>
  cases h3:nk k 3 with
  |true=>
   cases hl:nk (((Dl ks).length:Nat):Int) 1 with
   |false=>refine⟨false,Fq _ _ ?_⟩;unfold Ll;refine⟨rfl,_,rfl,_,rfl,a_ h1 ⟨_,rfl,_,rfl,a_ h2 ⟨_,rfl,_,rfl,de h3 ?_⟩⟩⟩;refine⟨_,rfl,_,rfl,.b false,by rw [←hl];rfl,rfl,cr rfl (cr rfl ⟨rfl,cr rfl (cr rfl ⟨_,rfl,trivial,trivial,rfl⟩)⟩)⟩
   |true=>
    have hlen:ks.length=1:=by rw [bp] at hl;have:=of_decide_eq_true hl;rw [yu,qql] at this;omega
    obtain⟨x,rfl⟩:∃x,ks=[x]:=by
     match ks,hlen with
     |[x],_=>exact⟨x,rfl⟩
    obtain⟨b,hb⟩:=ih x qqu;refine⟨b,Fq _ _ ?_⟩;unfold Ll;refine⟨rfl,_,rfl,_,rfl,a_ h1 ⟨_,rfl,_,rfl,a_ h2 ⟨_,rfl,_,rfl,de h3 ?_⟩⟩⟩;have hld:gY (GZ x) 0 (some 4)=some (GZ x):=by cases x;rfl
    refine⟨_,rfl,_,rfl,.b true,rfl,rfl,bg rfl rfl (bg rfl ⟨rfl,I9 x⟩ ⟨rfl,bg rfl hld (bg rfl (b8 hb) ⟨_,rfl,trivial,trivial,rfl⟩)⟩)⟩
  |false=>
  cases tw with
  |false=>refine⟨false,Fq _ _ ?_⟩;unfold Ll;refine⟨rfl,_,rfl,_,rfl,a_ h1 ⟨_,rfl,_,rfl,a_ h2 ⟨_,rfl,_,rfl,a_ h3 ⟨_,rfl,cy htw (a_ rfl ⟨trivial,trivial,rfl⟩)⟩⟩⟩⟩
  |true=>
   cases hl:nk (((Dl ks).length:Nat):Int) 2 with
   |false=>refine⟨false,Fq _ _ ?_⟩;unfold Ll;refine⟨rfl,_,rfl,_,rfl,a_ h1 ⟨_,rfl,_,rfl,a_ h2 ⟨_,rfl,_,rfl,a_ h3 ⟨_,rfl,cy htw (de rfl ?_)⟩⟩⟩⟩;refine⟨_,rfl,_,rfl,.b false,by rw [←hl];rfl,rfl,cr rfl (cr rfl ⟨rfl,cr rfl (cr rfl ⟨_,rfl,rfl,cr rfl (cr rfl ⟨rfl,cr rfl (cr rfl ⟨_,rfl,trivial,trivial,rfl⟩)⟩)⟩)⟩)⟩
   |true=>
    have hlen:ks.length=2:=by rw [bp] at hl;have:=of_decide_eq_true hl;rw [yu,qql] at this;omega
    obtain⟨x,y,rfl⟩:∃x y,ks=[x,y]:=by
     match ks,hlen with
     |[x,y],_=>exact⟨x,y,rfl⟩
    obtain⟨b,hb⟩:=ih x qqu;obtain⟨c,hc⟩:=ih y (by simp);have hld:gY (GZ x) 0 (some 4)=some (GZ x):=by cases x;rfl
    have qXQ:gY (GZ y) 0 (some 4)=some (GZ y):=by cases y;rfl
    refine⟨b&&c,Fq _ _ ?_⟩;unfold Ll;refine⟨rfl,_,rfl,_,rfl,a_ h1 ⟨_,rfl,_,rfl,a_ h2 ⟨_,rfl,_,rfl,a_ h3 ⟨_,rfl,cy htw (de rfl ?_)⟩⟩⟩⟩;refine⟨_,rfl,_,rfl,.b true,rfl,rfl,bg rfl rfl (bg rfl ⟨rfl,I9 x⟩ ⟨rfl,bg rfl hld (bg rfl (b8 hb) ⟨_,rfl,rfl,?_⟩)⟩)⟩;cases b with
    |false=>exact cr rfl (cr rfl ⟨rfl,cr rfl (cr rfl ⟨_,rfl,trivial,trivial,rfl⟩)⟩)
    |true=>exact bg rfl rfl (bg rfl ⟨rfl,I9 y⟩ ⟨rfl,bg rfl qXQ (bg rfl (b8 hc) ⟨_,rfl,trivial,trivial,rfl⟩)⟩)
def HX (e:NE):Bool:=Ht 128 [GZ e]
theorem UL (e:NE) (h:Cz e<=4194304):VS prog 128 [GZ e] (fun r=>r=.b (HX e)):=CS (Ua _ e (qqT _) h)
theorem ZT (c:NC) (h:N5 c<=4194304):∃b,VS prog 129 [eNC c] (fun r=>r=.b b):=by
 obtain⟨op,l,r⟩:=c;simp only [N5] at h;have hl:=UL l (by omega);have hr:=UL r (by omega);cases l with|mk k1 n1 s1 ks1=>
 cases r with|mk k2 n2 s2 ks2=>
 apply Exists.intro;refine XK _ _ ?_;unfold W129;refine⟨rfl,_,rfl,_,rfl,rfl,gB _ (fun h=>rfl) (gB _ (fun h=>by rw [h];rfl) (E9 ⟨rfl,gB _ (fun h=>rfl) (gB _ (fun h=>by rw [h];exact b8 hl) (E9 ⟨rfl,gB _ (fun h=>rfl) (gB _ (fun h=>by rw [h];exact b8 hr) (E9 ⟨trivial,trivial,rfl⟩))⟩))⟩))⟩
def EI (c:NC):Bool:=Ht 129 [eNC c]
theorem s129 (c:NC) (h:N5 c<=4194304):VS prog 129 [eNC c] (fun r=>r=.b (EI c)):=CS (ZT c h)
end Go.Ax.dg
set_option maxRecDepth 100000
namespace Go.Ax.dg
open Go Go.Ax Go.Ax.V Go.Ax.Ft
def GP (l:List NS):Bool:=Ht 94 [.l (oX l)]
def RU:NA->Bool
 |.mk tag var body=>tu tag&&tu var&&GP body
def Ow:NS->Bool
 |.mk kind nm tag e c body els cu=>
  bif nk kind 1 then tu nm&&HX e
  else bif nk kind 2 then EI c&&GP body&&GP els
  else bif nk kind 3 then EI c&&GP body
  else bif nk kind 4 then tu nm&&tu tag&&HX e
  else bif nk kind 5 then (tu nm&&n8 0 (ET cu).length)&&cu.all RU
  else bif nk kind 6 then EI c
  else bif nk kind 7 then tu nm else false
theorem KS {l:List NS} {k:Nat} (h:k < l.length):(oX l)[k]?=some (OO l[k]):=by rw [yt];simp [h]
theorem KU {l:List NA} {k:Nat} (h:k < l.length):(ET l)[k]?=some (Ts l[k]):=by rw [Dn];simp [h]
theorem Gm (l:List NS):(oX l).length=l.length:=by rw [yt,qql]
theorem Gp (l:List NA):(ET l).length=l.length:=by rw [Dn,qql]
theorem Li {α:Type} {f:α->Bool} {l:List α} {k:Nat} (h:k < l.length):(l.take (k+1)).all f=((l.take k).all f&&f l[k]):=by rw [←jo (qqa h),List.all_append];simp
theorem ex94:∀(n:Nat) (l:List NS),kj l<=n->n<=4194304->VS prog 94 [.l (oX l)] (fun r=>r=.b (l.all Ow)):=by
 intro n
 induction n with
 |zero=>
  intro l h _;cases l with
  |cons s l=>have:=Io s;simp only [kj] at h;omega
  |nil=>refine Xj _ _ ?_;unfold W94;refine⟨fun n a i=>a=.l []/\i=ii 0,⟨0,rfl,rfl⟩,?_⟩;rintro n x4 x5 ⟨rfl,rfl⟩;exact⟨_,rfl,_,rfl,a_ rfl ⟨trivial,trivial,rfl⟩⟩
 |succ n ih=>
 intro l hl hn;have hlen:l.length<=4194304:=by have:=Fl l;omega
 have qvQ:∀l':List NS,kj l'<=n->VS prog 94 [.l (oX l')] (fun r=>r=.b (GP l')):=fun l' h=>CS ⟨_,ih l' h (by omega)⟩
 refine Xj _ _ ?_;unfold W94;refine⟨fun n a i=>∃k:Nat,k<=l.length/\n=l.length - k/\a=.l (oX l)/\i=ii k/\(l.take k).all Ow=true,⟨_,0,qqS _,rfl,rfl,rfl,rfl⟩,?_⟩;rintro m x4 x5 ⟨k,hk,rfl,rfl,rfl,hall⟩;refine⟨_,rfl,_,rfl,aa (fun h=>?_) (fun h=>?_)⟩;rotate_left
 ·have:k=l.length:=by rw [Gm] at h;exact dy hk h
  subst this;rw [qqt] at hall;exact⟨trivial,trivial,by rw [hall]⟩
 have hkl:k < l.length:=by rw [Gm] at h;exact b9 h
 have hz:=Fk (qqj hkl);have qq9:=KS hkl;have hsz:=Rx l[k];have fin:∀b,b=Ow l[k]->ak (.b !b) (True/\oH [(TV.b false)]/\(TV.b false=.b (l.all Ow))) (∃Sv,bf .add (ii k) (TV.i .i64 1)=some Sv/\∃m3,m3 < l.length - k/\(∃k':Nat,k'<=l.length/\m3=l.length - k'/\TV.l (oX l)=.l (oX l)/\Sv=ii k'/\(l.take k').all Ow=true)):=by
  intro b hb;cases b with
  |false=>exact de rfl ⟨trivial,trivial,by rw [qa (qqa hkl) hb.symm]⟩
  |true=>exact a_ rfl ⟨_,bn hkl (by omega),_,by omega,k+1,by omega,rfl,rfl,rfl,by rw [Li hkl,hall,←hb];rfl⟩
 generalize l[k]=s at *;obtain⟨kind,nm,tag,e,c,body,els,cu⟩:=s;simp only [MU] at hz;have hnm:=DF nm (by omega);have qxP:=DF tag (by omega);have he:=UL e (by omega);have hc:=s129 c (by omega);have hbody:=qvQ body (by omega);have qxm:=qvQ els (by omega);have ho:Ow (.mk kind nm tag e c body els cu)=(bif nk kind 1 then tu nm&&HX e
  else bif nk kind 2 then EI c&&GP body&&GP els
  else bif nk kind 3 then EI c&&GP body
  else bif nk kind 4 then tu nm&&tu tag&&HX e
  else bif nk kind 5 then (tu nm&&n8 0 (ET cu).length)&&cu.all RU
  else bif nk kind 6 then EI c
  else bif nk kind 7 then tu nm else false):=rfl
 rw [ho] at fin;generalize hE:HX e=eb at *;generalize hC:EI c=cb at *;have hza:um cu<=n:=by omega
 clear hz hE hC ho;obtain⟨k1,n1,s1,ks1⟩:=e;obtain⟨op,le,re⟩:=c;obtain⟨k2,n2,s2,ks2⟩:=le;obtain⟨k3,n3,s3,ks3⟩:=re;refine⟨_,⟨bq qq9,hsz⟩,_,rfl,_,rfl,_,rfl,_,rfl,?_⟩;cases h1:nk kind 1 with
 |true=>rw [h1] at fin;exact de rfl ⟨_,rfl,cy hnm ⟨rfl,gB _ (fun h=>rfl) (gB _ (fun h=>by rw [h];exact b8 he) (E9 ⟨_,gp _,fin _ rfl⟩))⟩⟩
 |false=>
 rw [h1] at fin;refine a_ rfl ⟨_,rfl,?_⟩;cases h2:nk kind 2 with
 |true=>rw [h2] at fin;exact de rfl ⟨_,rfl,cy hc ⟨rfl,gB _ (fun h=>rfl) (gB _ (fun h=>by rw [h];exact b8 hbody) (E9 ⟨rfl,gB _ (fun h=>rfl) (gB _ (fun h=>by rw [h];exact b8 qxm) (E9 ⟨_,gp _,fin _ rfl⟩))⟩))⟩⟩
 |false=>
 rw [h2] at fin;refine a_ rfl ⟨_,rfl,?_⟩;cases h3:nk kind 3 with
 |true=>rw [h3] at fin;exact de rfl ⟨_,rfl,cy hc ⟨rfl,gB _ (fun h=>rfl) (gB _ (fun h=>by rw [h];exact b8 hbody) (E9 ⟨_,gp _,fin _ rfl⟩))⟩⟩
 |false=>
 rw [h3] at fin;refine a_ rfl ⟨_,rfl,?_⟩;cases h4:nk kind 4 with
 |true=>rw [h4] at fin;exact de rfl ⟨_,rfl,cy hnm ⟨rfl,gB _ (fun h=>rfl) (gB _ (fun h=>by rw [h];exact b8 qxP) (E9 ⟨rfl,gB _ (fun h=>rfl) (gB _ (fun h=>by rw [h];exact b8 he) (E9 ⟨_,gp _,fin _ rfl⟩))⟩))⟩⟩
 |false=>
 rw [h4] at fin;refine a_ rfl ⟨_,rfl,?_⟩;cases h5:nk kind 5 with
 |true=>
  rw [h5] at fin;refine de rfl ⟨_,rfl,cy hnm ⟨rfl,gB _ (fun h=>rfl) (gB _ (fun h=>by rw [h];rfl) (gB _ (fun h=>by rw [h];rfl) (E9 ?_)))⟩⟩;generalize (tu nm&&n8 0 (ET cu).length)=qZg at *;have hal:cu.length<=4194304:=by have:=Fo cu;omega
  refine⟨fun n o a b q i=>∃(j:Nat) (acc:Bool),j<=cu.length/\n=cu.length - j/\o=OO (.mk kind nm tag (.mk k1 n1 s1 ks1) ⟨op,.mk k2 n2 s2 ks2,.mk k3 n3 s3 ks3⟩ body els cu)/\a=.l (oX l)/\b=ii k/\q=.b acc/\i=ii j/\acc=(qZg&&(cu.take j).all RU),⟨_,0,_,qqS _,rfl,rfl,rfl,rfl,rfl,rfl,by simp⟩,?_⟩;rintro m o60 x61 x62 x63 x64 ⟨j,acc,hj,rfl,rfl,rfl,rfl,rfl,rfl,hacc⟩;refine⟨_,rfl,_,rfl,_,rfl,aa (fun h6=>?_) (fun h6=>?_)⟩;rotate_left
  ·have:j=cu.length:=by rw [Gp] at h6;exact dy hj h6
   subst this;rw [qqt] at hacc;exact⟨_,gp _,fin _ hacc⟩
  have hja:j < cu.length:=by rw [Gp] at h6;exact b9 h6
  have qwk:=KU hja;have qXB:=CB (qqj hja);have qwj:=RC cu[j];have hnext:=Li (f:=RU) hja;generalize cu[j]=am at *;obtain⟨tg,vr,bd⟩:=am;simp only [Pd] at qXB;have b1:=DF tg (by omega);have b2:=DF vr (by omega);have b3:=qvQ bd (by omega);have ha':RU (.mk tg vr bd)=(tu tg&&tu vr&&GP bd):=rfl;rw [ha'] at hnext;cases acc with
  |false=>
   refine⟨rfl,cr rfl (cr rfl (cr rfl ⟨rfl,rfl,cr rfl (cr rfl ⟨_,rfl,rfl,cr rfl (cr rfl (cr rfl ⟨rfl,rfl,cr rfl (cr rfl ⟨_,rfl,rfl,cr rfl (cr rfl (cr rfl ⟨rfl,rfl,cr rfl (cr rfl ⟨_,rfl,_,bn hja (by omega),_,?_,j+1,false,by omega,rfl,rfl,rfl,rfl,rfl,rfl,?_⟩)⟩))⟩)⟩))⟩)⟩))⟩
   ·omega
   ·rw [hnext,←Bool.and_assoc,←hacc];rfl
  |true=>
   refine⟨rfl,bg rfl rfl (bg rfl rfl (bg rfl ⟨bq qwk,qwj⟩ ⟨rfl,rfl,bg rfl rfl (bg rfl (b8 b1) ⟨_,rfl,rfl,?_⟩)⟩))⟩;refine gB _ (fun h=>rfl) (gB _ (fun h=>rfl) (gB _ (fun h=>by rw [h];exact⟨bq qwk,qwj⟩) ⟨rfl,rfl,gB _ (fun h=>by rw [h];rfl) (gB _ (fun h=>by rw [h];exact b8 b2) (E9 ⟨rfl,?_⟩))⟩));refine gB _ (fun h=>rfl) (gB _ (fun h=>rfl) (gB _ (fun h=>by rw [h];exact⟨bq qwk,qwj⟩) ⟨rfl,rfl,gB _ (fun h=>by rw [h];rfl) (gB _ (fun h=>by rw [h];exact b8 b3) (E9 ?_))⟩));refine⟨_,bn hja (by omega),_,?_,j+1,_,by omega,rfl,rfl,rfl,rfl,rfl,rfl,?_⟩
   ·omega
   ·rw [hnext,←Bool.and_assoc,←hacc];rfl
 |false=>
 rw [h5] at fin;refine a_ rfl ⟨_,rfl,?_⟩;cases h6:nk kind 6 with
 |true=>rw [h6] at fin;exact de rfl ⟨_,rfl,cy hc ⟨_,gp _,fin _ rfl⟩⟩
 |false=>
 rw [h6] at fin;refine a_ rfl ⟨_,rfl,?_⟩;cases h7:nk kind 7 with
 |true=>rw [h7] at fin;exact de rfl ⟨_,rfl,cy hnm ⟨_,gp _,fin _ rfl⟩⟩
 |false=>
 rw [h7] at fin;exact a_ rfl ⟨_,rfl,fin _ rfl⟩
theorem s94 (l:List NS) (h:kj l<=4194304):VS prog 94 [.l (oX l)] (fun r=>r=.b (GP l)):=CS ⟨_,ex94 _ l (qqT _) h⟩
end Go.Ax.dg
set_option maxRecDepth 100000
namespace Go.Ax.dg
open Go Go.Ax Go.Ax.V Go.Ax.Ft
def UX (m:NM):Prop:=0<=m.src/\0<=m.dst
def R9 (sy:Ef) (r:TV):Prop:=∃b,r=.b b/\(b=true->∀x∈sy.rules,∀m∈x.l_,UX m)
theorem Bw {sy:Ef}:True/\oH [(TV.b false)]/\R9 sy (.b false):=⟨trivial,trivial,false,rfl,fun h=>by cases h⟩
theorem lM {α:Type} {f:α->TV} {l:List α} {k:Nat} (h:k < l.length):(l.map f)[k]?=some (f l[k]):=by simp [h]
theorem B4 {α:Type} {l:List α} {k:Nat} {p:α->Prop} (h:k < l.length) (h1:∀x∈l.take k,p x) (h2:p l[k]):∀x∈l.take (k+1),p x:=by
 rw [←jo (qqa h)];intro x hx;rcases qqx.1 hx with h3|h3
 ·exact h1 x h3
 ·rw [qqy.1 h3];exact h2
theorem s67 (sy:Ef) (hz:Jp sy):VS prog 67 [Dk sy] (R9 sy):=by
 refine vs67 _ _ ?_;unfold W67;refine⟨rfl,fun n o x=>∃k:Nat,k<=sy.au.length/\n=sy.au.length - k/\o=Dk sy/\x=ii k,⟨_,0,qqS _,rfl,rfl,rfl⟩,?_⟩;rintro n o4 x5 ⟨k,hk,rfl,rfl,rfl⟩;refine⟨_,rfl,_,rfl,_,rfl,aa (fun h=>?_) (fun h=>?_)⟩
 ·have hkl:k < sy.au.length:=by rw [qql] at h;exact b9 h
  have qq9:=lM (f:=v_) hkl;have hcs:=hz.chan _ (qqj hkl);have htl:=hz.tags _ (qqj hkl);have hcl:=hz.au;generalize sy.au[k]=c at *;obtain⟨c1,c2,c3,c4⟩:=hcs;refine⟨_,rfl,_,⟨bq qq9,Dm c⟩,_,rfl,_,rfl,_,rfl,cy (DF c.nm c1) ⟨_,gp _,rfl,?_⟩⟩;refine gO _ (fun h=>rfl) (gO _ (fun h=>by rw [h];exact b8 (DF c.src c2)) (gO _ (fun h=>by rw [h];exact gp _) (IG ⟨rfl,?_⟩)));refine gO _ (fun h=>rfl) (gO _ (fun h=>by rw [h];exact b8 (DF c.dst c3)) (gO _ (fun h=>by rw [h];exact gp _) (IG ⟨rfl,?_⟩)));refine gO _ (fun h=>rfl) (gO _ (fun h=>by rw [h];rfl) (IG ⟨rfl,?_⟩));refine gO _ (fun h=>rfl) (gO _ (fun h=>by rw [h];rfl) (IG ⟨rfl,?_⟩));refine gO _ (fun h=>rfl) (gO _ (fun h=>by rw [h];exact b8 (s93 _)) (gO _ (fun h=>by rw [h];exact gp _) (IG ⟨rfl,?_⟩)));refine gO _ (fun h=>rfl) (gO _ (fun h=>by rw [h];rfl) (gO _ (fun h=>by rw [h];rfl) (IG (aa (fun h2=>Bw) (fun h2=>?_)))));refine⟨fun n o q x y=>∃j:Nat,j<=c.tags.length/\n=c.tags.length - j/\o=Dk sy/\q=v_ c/\x=ii k/\y=ii j,⟨_,0,qqS _,rfl,rfl,rfl,rfl,rfl⟩,?_⟩;rintro n o41 o42 x43 x44 ⟨j,hj,rfl,rfl,rfl,rfl,rfl⟩;refine⟨_,rfl,_,rfl,_,rfl,aa (fun h3=>?_) (fun h3=>?_)⟩
  ·have hjl:j < c.tags.length:=by rw [qql] at h3;exact b9 h3
   refine⟨_,rfl,_,⟨bq (lM (f:=ss) hjl),rfl⟩,_,rfl,cy (DF _ (c4 _ (qqj hjl))) ⟨_,gp _,aa (fun h4=>Bw) (fun h4=>?_)⟩⟩;exact⟨_,bn hjl (by omega),_,by omega,j+1,by omega,rfl,rfl,rfl,rfl,rfl⟩
  ·exact⟨_,bn hkl (by omega),_,by omega,k+1,by omega,rfl,rfl,rfl⟩
 clear hk h k;refine⟨fun n o x=>∃k:Nat,k<=sy.rules.length/\n=sy.rules.length - k/\o=Dk sy/\x=ii k/\∀y∈sy.rules.take k,∀m∈y.l_,UX m,⟨_,0,qqS _,rfl,rfl,rfl,fun y hy=>by simp at hy⟩,?_⟩;rintro n o58 x59 ⟨k,hk,rfl,rfl,rfl,qjs⟩;refine⟨_,rfl,_,rfl,_,rfl,aa (fun h=>?_) (fun h=>?_)⟩
 ·have hkl:k < sy.rules.length:=by rw [qql] at h;exact b9 h
  have qq9:=lM (f:=O9) hkl;have hcs:=hz.rule _ (qqj hkl);have htl:=hz.l_ _ (qqj hkl);have hcl:=hz.rules;have hnx:=B4 (p:=fun y=>∀m∈y.l_,UX m) hkl qjs;generalize sy.rules[k]=c at *;obtain⟨c1,c2⟩:=hcs;refine⟨_,rfl,_,⟨bq qq9,Gn c⟩,_,rfl,cy (DF _ c1) ⟨_,gp _,aa (fun h4=>Bw) (fun h4=>?_)⟩⟩;refine⟨fun n o x y=>∃j:Nat,j<=c.l_.length/\n=c.l_.length - j/\o=Dk sy/\x=ii k/\y=ii j/\∀m∈c.l_.take j,UX m,⟨_,0,qqS _,rfl,rfl,rfl,rfl,fun y hy=>by simp at hy⟩,?_⟩;rintro n o71 x72 x73 ⟨j,hj,rfl,rfl,rfl,rfl,hmd⟩;refine⟨_,rfl,_,⟨bq qq9,Gn c⟩,_,rfl,_,rfl,_,rfl,aa (fun h3=>?_) (fun h3=>?_)⟩
  ·have hjl:j < c.l_.length:=by rw [qql] at h3;exact b9 h3
   have hmg:=lM (f:=Rz) hjl;have hms:=c2 _ (qqj hjl);have Fc:=B4 (p:=UX) hjl hmd;generalize c.l_[j]=m at *;refine⟨_,rfl,_,⟨bq qq9,Gn c⟩,_,rfl,_,⟨bq hmg,Ry m⟩,_,rfl,_,rfl,_,rfl,cy (s93 m.src) ⟨_,gp _,rfl,?_⟩⟩;refine gO _ (fun h=>rfl) (gO _ (fun h=>by rw [h];exact b8 (s93 m.dst)) (gO _ (fun h=>by rw [h];exact gp _) (IG ⟨rfl,?_⟩)));refine gO _ (fun h=>rfl) (gO _ (fun h=>by rw [h];exact b8 (DF m.tag hms)) (gO _ (fun h=>by rw [h];exact gp _) (IG (aa (fun h2=>Bw) (fun h2=>?_)))));have hok:UX m:=by
    rw [Bool.or_eq_false_iff,Bool.or_eq_false_iff] at h2;have e1:decide (0<=m.src/\m.src<=2147483647)=true:=by simpa using h2.1.1
    have e2:decide (0<=m.dst/\m.dst<=2147483647)=true:=by simpa using h2.1.2
    exact⟨(of_decide_eq_true e1).1,(of_decide_eq_true e2).1⟩
   exact⟨_,bn hjl (by omega),_,by omega,j+1,by omega,rfl,rfl,rfl,rfl,Fc hok⟩
  ·have hje:j=c.l_.length:=by rw [qql] at h3;exact dy hj h3
   subst hje;rw [qqt] at hmd;exact⟨_,bn hkl (by omega),_,by omega,k+1,by omega,rfl,rfl,rfl,hnx hmd⟩
 have hke:k=sy.rules.length:=by rw [qql] at h;exact dy hk h
 subst hke;rw [qqt] at qjs;clear hk h;refine⟨fun n o x=>∃k:Nat,k<=sy.procs.length/\n=sy.procs.length - k/\o=Dk sy/\x=ii k,⟨_,0,qqS _,rfl,rfl,rfl⟩,?_⟩;rintro n o101 x102 ⟨k,hk,rfl,rfl,rfl⟩;refine⟨_,rfl,_,rfl,_,rfl,aa (fun h=>?_) (fun h=>?_)⟩;rotate_left
 ·exact⟨trivial,trivial,true,rfl,fun _=>qjs⟩
 have hkl:k < sy.procs.length:=by rw [qql] at h;exact b9 h
 have qq9:=lM (f:=NQ) hkl;have hcs:=hz.proc _ (qqj hkl);have htl:=hz.vars _ (qqj hkl);have hbd:=hz.body _ (qqj hkl);have hcl:=hz.procs;generalize sy.procs[k]=c at *;obtain⟨c1,c2⟩:=hcs;refine⟨_,rfl,_,⟨bq qq9,MJ c⟩,_,rfl,_,rfl,_,rfl,cy (DF c.nm c1) ⟨_,gp _,rfl,?_⟩⟩;refine gO _ (fun h=>rfl) (gO _ (fun h=>by rw [h];exact b8 (s94 c.body hbd)) (gO _ (fun h=>by rw [h];exact gp _) (IG (aa (fun h2=>Bw) (fun h2=>?_)))));refine⟨fun n o q x y=>∃j:Nat,j<=c.vars.length/\n=c.vars.length - j/\o=Dk sy/\q=NQ c/\x=ii k/\y=ii j,⟨_,0,qqS _,rfl,rfl,rfl,rfl,rfl⟩,?_⟩;rintro n o41 o42 x43 x44 ⟨j,hj,rfl,rfl,rfl,rfl,rfl⟩;refine⟨_,rfl,_,rfl,_,rfl,aa (fun h3=>?_) (fun h3=>?_)⟩
 ·have hjl:j < c.vars.length:=by rw [qql] at h3;exact b9 h3
  refine⟨_,rfl,_,⟨bq (lM (f:=ss) hjl),rfl⟩,_,rfl,cy (DF _ (c2 _ (qqj hjl))) ⟨_,gp _,aa (fun h4=>Bw) (fun h4=>?_)⟩⟩;exact⟨_,bn hjl (by omega),_,by omega,j+1,by omega,rfl,rfl,rfl,rfl,rfl⟩
 ·exact⟨_,bn hkl (by omega),_,by omega,k+1,by omega,rfl,rfl,rfl⟩
end Go.Ax.dg
set_option maxRecDepth 100000
namespace Go.Ax.dg
open Go Go.Ax Go.Ax.V Go.Ax.Ft
structure Mk where
 NV:List W3
 c1:TV
 c2:TV
 pr:Int
 v5:TV
 vars:List ByteArray
structure Ln (M:Mk):Prop where
 B7:fy (some M.v5)=some (.l (strs M.vars))
 len:M.vars.length<=4194304
 tags:∀c∈M.NV,c.tags.length<=4194304
 au:M.NV.length<=4194304
def oM (M:Mk) (E:Int):TV:=.a [.l (M.NV.map v_),M.c1,M.c2,.l [],ii M.pr,M.v5,.l [],ii E]
theorem RB {l:List NE} {k:Nat} (h:k < l.length):(Dl l)[k]?=some (GZ l[k]):=by rw [yu];simp [h]
theorem KT (l:List NE):(Dl l).length=l.length:=by rw [yu,qql]
theorem KP (l:List Ex):(kg l).length=l.length:=by rw [lp,qql]
theorem MD (l:List Ex) (e:Ex):kg l++[j9 e]=kg (l++[e]):=by simp [lp]
theorem JF:∀(l r:List Ex),qp (l++r)=qp l+qp r
 |[],r=>by simp [qp]
 |e::l,r=>by simp only [List.cons_append,qp,JF l r];omega
theorem G4:∀{l:List NE} {k:Nat} (h:k < l.length),Dy (l.take (k+1))=Dy (l.take k)+Cz l[k]
 |e::l,0,_=>by simp [Dy]
 |e::l,k+1,h=>by have:=G4 (l:=l) (k:=k) (by simpa using h);simp only [List.take_succ_cons,Dy,this,List.getElem_cons_succ];omega
theorem s95:∀(n:Nat) (e:NE),Cz e<=n->n<=4194304->∀(M:Mk),Ln M->∀(E:Int) (l3 l6:List TV) (Q:TV->List TV->List TV->TV->List TV->Prop),
  (∀(E' k nu va:Int) (ks:List Ex),x_ (.mk k nu va ks)<=Cz e->Q (oM M E') l3 l6 (.a [ii k,ii nu,ii va,.l []]) (kg ks))->Ug Q (oM M E) l3 l6 (GZ e)
 |0,e,h,_=>by have:=Bo e;omega
 |n+1,.mk k num s ks,h,hn=>by
  intro M hM E l3 l6 Q hQ;simp only [Cz] at h;have hkl:ks.length<=4194304:=by have:=Jr ks;omega
  have ih:∀x∈ks,∀(E:Int) (l3 l6:List TV) (Q:TV->List TV->List TV->TV->List TV->Prop),
   (∀(E' k nu va:Int) (ks:List Ex),x_ (.mk k nu va ks)<=Cz x->Q (oM M E') l3 l6 (.a [ii k,ii nu,ii va,.l []]) (kg ks))->Ug Q (oM M E) l3 l6 (GZ x):=fun x hx=>s95 n x (by have:=Fm hx;omega) (by omega) M hM
  have hw:∀(E:Int),TD Q (oM M E) l3 l6 (.a [ii k,ii num,ss s,.l (Dl ks)]):=by
   intro E;unfold TD;refine⟨rfl,_,rfl,_,rfl,_,rfl,?_⟩;refine⟨fun o l l' a z lz r lr=>∃nu:Int,o=oM M E/\l=l3/\l'=l6/\a=.a [ii k,ii num,ss s,.l (Dl ks)]/\z=Jn/\lz=[]/\r=.a [ii k,ii nu,ii 0,.l []]/\lr=[],⟨_,rfl,_,rfl,aa (fun h=>?_) (fun h=>?_)⟩,?_⟩
   ·exact⟨_,rfl,_,rfl,num,rfl,rfl,rfl,rfl,rfl,rfl,rfl,rfl⟩
   ·exact⟨0,rfl,rfl,rfl,rfl,rfl,rfl,rfl,rfl⟩
   rintro o13 l14 l15 o16 o17 l18 o19 l20 ⟨nu,rfl,rfl,rfl,rfl,rfl,rfl,rfl,rfl⟩;refine⟨fun o l l' a z lz r lr=>∃E' va:Int,o=oM M E'/\l=l14/\l'=l15/\a=.a [ii k,ii num,ss s,.l (Dl ks)]/\z=Jn/\lz=[]/\r=.a [ii k,ii nu,ii va,.l []]/\lr=[],⟨_,rfl,_,rfl,aa (fun h=>?_) (fun h=>?_)⟩,?_⟩
   ·refine⟨_,hM.B7,_,rfl,rq (LQ M.vars s hM.len) ?_⟩;rintro r ⟨m,rfl,hm1,hm2⟩;refine⟨trivial,_,rfl,aa (fun h=>?_) (fun h=>?_)⟩
    ·refine⟨_,rfl,_,rfl,aa (fun h=>?_) (fun h=>?_)⟩
     ·exact⟨_,rfl,trivial,trivial,trivial,_,rfl,8,0,rfl,rfl,rfl,rfl,rfl,rfl,rfl,rfl⟩
     ·exact⟨trivial,trivial,trivial,_,rfl,E,0,rfl,rfl,rfl,rfl,rfl,rfl,rfl,rfl⟩
    ·exact⟨trivial,_,rfl,E,m,rfl,rfl,rfl,rfl,rfl,rfl,rfl,rfl⟩
   ·exact⟨E,0,rfl,rfl,rfl,rfl,rfl,rfl,rfl,rfl⟩
   rintro o46 l47 l48 o49 o50 l51 o52 l53 ⟨E1,va,rfl,rfl,rfl,rfl,rfl,rfl,rfl,rfl⟩;refine⟨fun n o l l' a z lz r lr i=>∃(j:Nat) (E':Int) (done:List Ex),j<=ks.length/\n=ks.length - j/\o=oM M E'/\l=l47/\l'=l48/\a=.a [ii k,ii num,ss s,.l (Dl ks)]/\z=Jn/\lz=[]/\r=.a [ii k,ii nu,ii va,.l []]/\lr=kg done/\i=ii j/\done.length=j/\qp done<=Dy (ks.take j),
    ⟨_,0,E1,[],qqS _,rfl,rfl,rfl,rfl,rfl,rfl,rfl,rfl,rfl,rfl,rfl,by simp [qp]⟩,?_⟩
   rintro n2 o57 l58 l59 o60 o61 l62 o63 l64 x65 ⟨j,E2,done,hj,rfl,rfl,rfl,rfl,rfl,rfl,rfl,rfl,rfl,rfl,hdl,hds⟩;refine⟨_,rfl,_,rfl,_,rfl,aa (fun h3=>?_) (fun h3=>?_)⟩
   ·have hjl:j < ks.length:=by rw [KT] at h3;exact b9 h3
    have hld:gY (GZ ks[j]) 0 (some 4)=some (GZ ks[j]):=by cases ks[j];rfl
    refine⟨_,rfl,_,⟨bq (RB hjl),I9 _⟩,_,hld,ih _ (qqj hjl) E2 _ _ _ ?_⟩;intro E3 k3 nu3 va3 ks3 hz3;refine⟨rfl,rfl,_,rfl,rfl,_,rfl,rfl,_,n_ (by rw [KP];simp only [qqq,most];omega) (by rw [KP];simp only [qqq,most];omega),_,rfl,_,bn hjl (by omega),_,?_,j+1,E3,done++[.mk k3 nu3 va3 ks3],by omega,rfl,rfl,rfl,rfl,rfl,rfl,rfl,rfl,?_,rfl,by simp [hdl],?_⟩
    ·omega
    ·exact MD done (.mk k3 nu3 va3 ks3)
    ·rw [JF,G4 hjl];simp only [qp];omega
   ·have hje:j=ks.length:=by rw [KT] at h3;exact dy hj h3
    refine⟨_,rfl,_,rfl,trivial,_,rfl,hQ E2 k nu va done ?_⟩;rw [hje,qqt] at hds;simp only [x_,Cz];omega
  exact sh95 _ _ _ _ _ (hw E)
theorem s96 (c:NC) (hz:N5 c<=4194304) (M:Mk) (hM:Ln M) (E:Int) (l3 l6:List TV) (Q:TV->List TV->List TV->TV->List TV->List TV->Prop)
  (hQ:∀(E' k nu va k2 nu2 va2:Int) (ks ks2:List Ex),x_ (.mk k nu va ks)<=Cz c.l->x_ (.mk k2 nu2 va2 ks2)<=Cz c.r->Q (oM M E') l3 l6 (.a [ii c.op,ii k,ii nu,ii va,.l [],ii k2,ii nu2,ii va2,.l []]) (kg ks) (kg ks2)):S96 Q (oM M E) l3 l6 (eNC c):=by
 obtain⟨op,l,r⟩:=c;simp only [N5] at hz;have hl:=s95 _ l (qqT _) (by omega) M hM;have hr:=s95 _ r (qqT _) (by omega) M hM;simp only at hQ;generalize hzl:Cz l=zl at *;generalize hzr:Cz r=zr at *;obtain⟨k1,n1,s1,ks1⟩:=l;obtain⟨k2,n2,s2,ks2⟩:=r;refine sh96 _ _ _ _ _ ?_;unfold Wy;refine⟨rfl,_,rfl,hl E _ _ _ ?_⟩;intro E1 k nu va ks h1;refine⟨_,rfl,_,rfl,_,rfl,_,rfl,⟨ii op,rfl,rfl,rfl⟩,⟨ii k,rfl,rfl,rfl⟩,⟨ii nu,rfl,rfl,rfl⟩,⟨ii va,rfl,rfl,rfl⟩,hr E1 _ _ _ ?_⟩;intro E2 k' nu' va' ks' h2;exact⟨⟨ii op,rfl,rfl,rfl⟩,⟨ii k,rfl,rfl,rfl⟩,⟨ii nu,rfl,rfl,rfl⟩,⟨ii va,rfl,rfl,rfl⟩,_,rfl,_,rfl,_,rfl,_,rfl,trivial,_,rfl,hQ E2 k nu va k' nu' va' ks ks' h1 h2⟩
theorem s97 (M:Mk) (hM:Ln M) (nms prs:List ByteArray) (hn:nms.length<=M.NV.length) (hp:prs.length<=4194304) (x:ByteArray) (sd:Bool) (E:Int) (Q:TV->List TV->List TV->TV->Prop)
  (hQ:∀(E' c:Int) (tags:List ByteArray),tags.length<=4194304->Q (oM M E') (strs nms) (strs prs) (.tp [ii c,.l (strs tags)])):S97 Q (oM M E) (strs nms) (strs prs) (.s x) (.b sd):=by
 have hch:=hM.au;refine sh97 _ _ _ _ _ _ ?_;unfold Wx;refine(LQ nms x (by omega)).mono ?_;rintro r ⟨m,rfl,hm1,hm2⟩;refine⟨rfl,_,rfl,aa (fun h=>?_) (fun h=>?_)⟩
 ·refine⟨_,rfl,_,rfl,aa (fun h=>?_) (fun h=>?_)⟩
  ·exact⟨_,rfl,trivial,trivial,trivial,⟨rfl,rfl,trivial⟩,hQ 8 0 [] (by simp)⟩
  ·exact⟨trivial,trivial,trivial,⟨rfl,rfl,trivial⟩,hQ E 0 [] (by simp)⟩
 have hm0:0<=m:=by
  rw [AR] at h;have:¬m < 0:=by simpa using h
  omega
 obtain⟨k,rfl⟩:=Int.eq_ofNat_of_zero_le hm0;have hk:k < M.NV.length:=by omega
 have qq9:=lM (f:=v_) hk;have htl:=hM.tags _ (qqj hk);generalize M.NV[k]=c at qq9 htl;have idx:(jh (.l (M.NV.map v_)) (ii k)=some (v_ c)/\cw 6 (v_ c)):=⟨bq qq9,Dm c⟩;have tail:∀y:ByteArray,VS prog 69 [(TV.l (strs prs)),.s y] fun r12=>lB false r12/\
   ∃v13,fy (ct (oM M E) 4)=some v13/\
   ∃v14,bf .neq r12 v13=some v14/\
   ak v14
   (∃v15,fy (ct (oM M E) 7)=some v15/\
   ∃v16,bf .eql v15 (TV.i .i64 0)=some v16/\
   ak v16
   (∃v17,aq (oM M E) 7 1 (TV.i .i64 9)=some v17/\
   True/\cg []/\∃v18,fy (ct v17 0)=some v18/\
   ∃Sv,(jh v18 (ii k)=some Sv/\cw 6 Sv)/\
   ∃v20,gY Sv 5 none=some v20/\
   True/\cg [ii k,v20]/\Q v17 (strs nms) (strs prs) (TV.tp [ii k,v20]))
   (True/\cg []/\∃v21,fy (ct (oM M E) 0)=some v21/\
   ∃WV,(jh v21 (ii k)=some WV/\cw 6 WV)/\
   ∃WU,gY WV 5 none=some WU/\
   True/\cg [ii k,WU]/\Q (oM M E) (strs nms) (strs prs) (TV.tp [ii k,WU])))
   (∃v24,fy (ct (oM M E) 0)=some v24/\
   ∃v25,(jh v24 (ii k)=some v25/\cw 6 v25)/\
   ∃LB,gY v25 5 none=some LB/\
   True/\cg [ii k,LB]/\Q (oM M E) (strs nms) (strs prs) (TV.tp [ii k,LB])):=by
  intro y;refine(LQ prs y hp).mono ?_;rintro r ⟨m2,rfl,_,_⟩;refine⟨rfl,_,rfl,_,rfl,aa (fun h=>?_) (fun h=>?_)⟩
  ·refine⟨_,rfl,_,rfl,aa (fun h=>?_) (fun h=>?_)⟩
   ·exact⟨_,rfl,trivial,trivial,_,rfl,_,idx,_,rfl,trivial,⟨rfl,rfl,trivial⟩,hQ 9 k c.tags htl⟩
   ·exact⟨trivial,trivial,_,rfl,_,idx,_,rfl,trivial,⟨rfl,rfl,trivial⟩,hQ E k c.tags htl⟩
  ·exact⟨_,rfl,_,idx,_,rfl,trivial,⟨rfl,rfl,trivial⟩,hQ E k c.tags htl⟩
 refine⟨_,rfl,_,idx,_,rfl,?_⟩;cases sd with
 |true=>exact de rfl ⟨_,rfl,_,idx,_,rfl,tail c.src⟩
 |false=>exact a_ rfl (tail c.dst)
end Go.Ax.dg
set_option maxRecDepth 100000
namespace Go.Ax.dg
open Go Go.Ax Go.Ax.V Go.Ax.Ft
def e0:Ex:=.mk 0 0 0 []
def Gu:Co:=⟨0,e0,e0⟩
theorem KO (l:List Sm):(gh l).length=l.length:=by rw [nq,qql]
theorem KR (l:List Ar):(oQ l).length=l.length:=by rw [nr,qql]
theorem MB (l:List Sm) (e:Sm):gh l++[mh e]=gh (l++[e]):=by simp [nq]
theorem ME (l:List Ar) (e:Ar):oQ l++[D7 e]=oQ (l++[e]):=by simp [nr]
theorem JE:∀(l r:List Sm),fq (l++r)=fq l+fq r
 |[],r=>by simp [fq]
 |e::l,r=>by simp only [List.cons_append,fq,JE l r];omega
theorem JG:∀(l r:List Ar),ku (l++r)=ku l+ku r
 |[],r=>by simp [ku]
 |e::l,r=>by simp only [List.cons_append,ku,JG l r];omega
theorem G3:∀{l:List NS} {k:Nat} (h:k < l.length),kj (l.take (k+1))=kj (l.take k)+MU l[k]
 |e::l,0,_=>by simp [kj]
 |e::l,k+1,h=>by have:=G3 (l:=l) (k:=k) (by simpa using h);simp only [List.take_succ_cons,kj,this,List.getElem_cons_succ];omega
theorem G5:∀{l:List NA} {k:Nat} (h:k < l.length),um (l.take (k+1))=um (l.take k)+Pd l[k]
 |e::l,0,_=>by simp [um]
 |e::l,k+1,h=>by have:=G5 (l:=l) (k:=k) (by simpa using h);simp only [List.take_succ_cons,um,this,List.getElem_cons_succ];omega
def Sp72 (M:Mk) (nms prs:List ByteArray) (l:List NS):Prop:=∀(E:Int) (Q:TV->List TV->List TV->List TV->Prop),
 (∀(E':Int) (out:List Sm),fq out<=kj l->Q (oM M E') (strs nms) (strs prs) (gh out))->TF Q (oM M E) (strs nms) (strs prs) (.l (oX l))
theorem s72 (M:Mk) (hM:Ln M) (nms prs:List ByteArray) (hnm:nms.length<=M.NV.length) (hpr:prs.length<=4194304):∀(n:Nat) (l:List NS),kj l<=n->n<=4194304->Sp72 M nms prs l:=by
 intro n
 induction n with
 |zero=>
  intro l h _ E Q hQ;cases l with
  |cons s l=>have:=Io s;simp only [kj] at h;omega
  |nil=>refine YR _ _ _ _ _ ?_;unfold TE;refine⟨fun n o l l' a lr i=>o=oM M E/\l=strs nms/\l'=strs prs/\a=.l []/\lr=[]/\i=ii 0,⟨0,rfl,rfl,rfl,rfl,rfl,rfl⟩,?_⟩;rintro n o4 l5 l6 x7 l8 x9 ⟨rfl,rfl,rfl,rfl,rfl,rfl⟩;exact⟨_,rfl,.b false,rfl,rfl,rfl,rfl,cr rfl (cr rfl ⟨_,rfl,a_ rfl ⟨trivial,hQ E [] (by simp [fq])⟩⟩)⟩
 |succ n ih=>
 intro l hl hn E Q hQ;have hlen:l.length<=4194304:=by have:=Fl l;omega
 refine YR _ _ _ _ _ ?_;unfold TE;refine⟨fun n o l1 l2 a lr i=>∃(j:Nat) (E':Int) (done:List Sm),j<=l.length/\n=l.length - j/\o=oM M E'/\l1=strs nms/\l2=strs prs/\a=.l (oX l)/\lr=gh done/\i=ii j/\done.length=j/\fq done<=kj (l.take j),
  ⟨_,0,E,[],qqS _,rfl,rfl,rfl,rfl,rfl,rfl,rfl,rfl,by simp [fq]⟩,?_⟩
 rintro n2 o4 l5 l6 x7 l8 x9 ⟨j,E1,done,hj,rfl,rfl,rfl,rfl,rfl,rfl,rfl,hdl,hds⟩;refine⟨_,rfl,.b (n8 j (oX l).length),rfl,rfl,rfl,rfl,?_⟩;have out:n8 (j:Int) (oX l).length=false\/True->True:=fun _=>trivial
 have stop:fq done<=kj l:=by
  have:kj (l.take j)<=kj l:=by
   have h2:=congrArg kj (List.take_append_drop j l);have h3:∀a b:List NS,kj (a++b)=kj a+kj b:=fun a b=>by
    induction a with
    |nil=>simp [kj]
    |cons x a ih=>simp only [List.cons_append,kj,ih];omega
   rw [h3] at h2;omega
  omega
 cases hlt:n8 (j:Int) (oX l).length with
 |false=>exact cr rfl (cr rfl ⟨_,rfl,a_ rfl ⟨trivial,hQ E1 done stop⟩⟩)
 |true=>
 have hjl:j < l.length:=by rw [Gm] at hlt;exact b9 hlt
 refine bg rfl rfl (bg rfl rfl ⟨_,rfl,aa (fun _=>?_) (fun _=>⟨trivial,hQ E1 done stop⟩)⟩);have hz:=Fk (qqj hjl);have qq9:=KS hjl;have hsz:=Rx l[j];have push:∀(E':Int) (st:Sm),za st<=MU l[j]->cw 20 (mh st)/\∃WT,ef (TV.l [mh st])=some WT/\gk 20 WT/\∃X4,ga 256 (gh done) WT=some X4/\∃X3,bf .add (ii j) (TV.i .i64 1)=some X3/\
   ∃m3,m3 < l.length - j/\(∃(j':Nat) (E'':Int) (done':List Sm),j'<=l.length/\m3=l.length - j'/\oM M E'=oM M E''/\strs nms=strs nms/\strs prs=strs prs/\TV.l (oX l)=.l (oX l)/\X4=gh done'/\X3=ii j'/\done'.length=j'/\fq done'<=kj (l.take j')):=by
  intro E' st hst;refine⟨Ab st,_,rfl,Ab st,_,n_ (by rw [KO];simp only [qqq,most];omega) (by rw [KO];simp only [qqq,most];omega),_,bn hjl (by omega),_,?_,j+1,E',done++[st],by omega,rfl,rfl,rfl,rfl,rfl,MB done st,rfl,by simp [hdl],?_⟩
  ·omega
  ·rw [JE,G3 hjl];simp only [fq];omega
 generalize l[j]=s at *;obtain⟨kind,nm,tag,e,c,body,els,cu⟩:=s;have hs0:MU (.mk kind nm tag e c body els cu)=5+nm.size+tag.size+Cz e+N5 c+kj body+kj els+um cu:=by simp only [MU]
 rw [hs0] at hz push;clear hs0;have he:=s95 _ e (qqT _) (by omega) M hM;have hc:=s96 c (by omega) M hM;have h97:=s97 M hM nms prs hnm hpr;have hbody:=ih body (by omega) (by omega);have qxm:=ih els (by omega) (by omega);have qxA:∀x∈cu,Sp72 M nms prs (match x with|.mk _ _ b=>b):=fun x hx=>by have h1:=CB hx;obtain⟨tg,vr,bd⟩:=x;simp only [Pd] at h1;exact ih bd (by omega) (by omega)
 have hzc:2<=N5 c:=by have:=Bo c.l;have:=Bo c.r;simp only [N5];omega
 have hze:=Bo e;have qXz:Cz c.l+Cz c.r=N5 c:=rfl;obtain⟨op,le,re⟩:=c;simp only at hc qXz;generalize N5 ⟨op,le,re⟩=zc at *;generalize hze2:Cz e=ze at *;generalize hzl2:Cz le=zl at *;generalize hzr2:Cz re=zr at *;obtain⟨k1,n1,s1,ks1⟩:=e;obtain⟨k2,n2,s2,ks2⟩:=le;obtain⟨k3,n3,s3,ks3⟩:=re;refine⟨_,⟨bq qq9,hsz⟩,_,rfl,_,rfl,_,rfl,_,rfl,_,rfl,_,rfl,_,rfl,?_⟩;cases h1:nk kind 1 with
 |true=>
  refine de rfl ?_;refine⟨fun o l1 l2 v st a1 a2 a3 a4 a5 a6 xs ds i=>∃(E2 va:Int),o=oM M E2/\l1=strs nms/\l2=strs prs/\v=OO (.mk kind nm tag (.mk k1 n1 s1 ks1) ⟨op,.mk k2 n2 s2 ks2,.mk k3 n3 s3 ks3⟩ body els cu)/\st=mh (.mk kind va 0 0 e0 Gu [] [] [])/\a1=[]/\a2=[]/\a3=[]/\a4=[]/\a5=[]/\a6=[]/\xs=.l (oX l)/\ds=gh done/\i=ii j,?_,?_⟩
  ·refine⟨_,hM.B7,_,rfl,rq (LQ M.vars nm hM.len) ?_⟩;rintro r ⟨m,rfl,hm1,hm2⟩;refine⟨trivial,_,rfl,aa (fun h=>?_) (fun h=>?_)⟩
   ·refine⟨_,rfl,_,rfl,aa (fun h=>?_) (fun h=>?_)⟩
    ·exact⟨_,rfl,trivial,trivial,trivial,_,rfl,8,0,rfl,rfl,rfl,rfl,rfl,rfl,rfl,rfl,rfl,rfl,rfl,rfl,rfl,rfl⟩
    ·exact⟨trivial,trivial,trivial,_,rfl,E1,0,rfl,rfl,rfl,rfl,rfl,rfl,rfl,rfl,rfl,rfl,rfl,rfl,rfl,rfl⟩
   ·exact⟨trivial,_,rfl,E1,m,rfl,rfl,rfl,rfl,rfl,rfl,rfl,rfl,rfl,rfl,rfl,rfl,rfl,rfl⟩
  ·rintro o49 l50 l51 o52 o53 l54 l55 l56 l57 l58 l59 x60 l61 x62 ⟨E2,va,rfl,rfl,rfl,rfl,rfl,rfl,rfl,rfl,rfl,rfl,rfl,rfl,rfl,rfl⟩;refine⟨_,rfl,he E2 _ _ _ ?_⟩;intro E3 k nu va2 ks hks;exact⟨_,rfl,_,rfl,rfl,rfl,_,rfl,_,rfl,_,rfl,_,rfl,_,rfl,_,rfl,push E3 (.mk kind va 0 0 (.mk k nu va2 ks) Gu [] [] []) (by simp only [za,fq,ku,Ck,x_,qp,Gu,e0] at hks ⊢;omega)⟩
 |false=>
 refine a_ rfl ⟨_,rfl,?_⟩;cases h2:nk kind 2 with
 |true=>refine de rfl ⟨_,rfl,hc E1 _ _ _ ?_⟩;intro E2 k nu va k' nu' va' ks ks' hz1 hz2;refine⟨_,rfl,_,rfl,hbody E2 _ ?_⟩;intro E3 qjD ho1;refine⟨_,rfl,_,rfl,qxm E3 _ ?_⟩;intro E4 qXi ho2;exact⟨_,rfl,_,rfl,rfl,rfl,_,rfl,_,rfl,_,rfl,_,rfl,_,rfl,_,rfl,push E4 (.mk kind 0 0 0 e0 ⟨op,.mk k nu va ks,.mk k' nu' va' ks'⟩ qjD qXi []) (by simp only [za,fq,ku,Ck,x_,qp,Gu,e0] at hz1 hz2 ⊢;omega)⟩
 |false=>
 refine a_ rfl ⟨_,rfl,?_⟩;cases h3:nk kind 3 with
 |true=>refine de rfl ⟨_,rfl,hc E1 _ _ _ ?_⟩;intro E2 k nu va k' nu' va' ks ks' hz1 hz2;refine⟨_,rfl,_,rfl,hbody E2 _ ?_⟩;intro E3 qjD ho1;exact⟨_,rfl,_,rfl,rfl,rfl,_,rfl,_,rfl,_,rfl,_,rfl,_,rfl,_,rfl,push E3 (.mk kind 0 0 0 e0 ⟨op,.mk k nu va ks,.mk k' nu' va' ks'⟩ qjD [] []) (by simp only [za,fq,ku,Ck,x_,qp,Gu,e0] at hz1 hz2 ⊢;omega)⟩
 |false=>
 refine a_ rfl ⟨_,rfl,?_⟩;cases h4:nk kind 4 with
 |true=>
  refine de rfl ⟨_,rfl,h97 nm true E1 _ ?_⟩;intro E2 ch tags htg;refine⟨_,rfl,_,rfl,?_⟩;refine⟨fun o l1 l2 v st a1 a2 a3 a4 a5 a6 xs ds i=>∃(E2 va:Int),o=oM M E2/\l1=strs nms/\l2=strs prs/\v=OO (.mk kind nm tag (.mk k1 n1 s1 ks1) ⟨op,.mk k2 n2 s2 ks2,.mk k3 n3 s3 ks3⟩ body els cu)/\st=mh (.mk kind 0 ch va e0 Gu [] [] [])/\a1=[]/\a2=[]/\a3=[]/\a4=[]/\a5=[]/\a6=[]/\xs=.l (oX l)/\ds=gh done/\i=ii j,?_,?_⟩
  ·refine⟨_,rfl,rq (LQ tags tag htg) ?_⟩;rintro r ⟨m,rfl,hm1,hm2⟩;refine⟨trivial,_,rfl,aa (fun h=>?_) (fun h=>?_)⟩
   ·refine⟨_,rfl,_,rfl,aa (fun h=>?_) (fun h=>?_)⟩
    ·exact⟨_,rfl,trivial,trivial,trivial,_,rfl,_,rfl,8,0,rfl,rfl,rfl,rfl,rfl,rfl,rfl,rfl,rfl,rfl,rfl,rfl,rfl,rfl⟩
    ·exact⟨trivial,trivial,trivial,_,rfl,_,rfl,E2,0,rfl,rfl,rfl,rfl,rfl,rfl,rfl,rfl,rfl,rfl,rfl,rfl,rfl,rfl⟩
   ·exact⟨trivial,_,rfl,_,rfl,E2,m,rfl,rfl,rfl,rfl,rfl,rfl,rfl,rfl,rfl,rfl,rfl,rfl,rfl,rfl⟩
  ·rintro o49 l50 l51 o52 o53 l54 l55 l56 l57 l58 l59 x60 l61 x62 ⟨E2,va,rfl,rfl,rfl,rfl,rfl,rfl,rfl,rfl,rfl,rfl,rfl,rfl,rfl,rfl⟩;refine⟨_,rfl,he E2 _ _ _ ?_⟩;intro E3 k nu va2 ks hks;exact⟨_,rfl,_,rfl,rfl,rfl,_,rfl,_,rfl,_,rfl,_,rfl,_,rfl,_,rfl,push E3 (.mk kind 0 ch va (.mk k nu va2 ks) Gu [] [] []) (by simp only [za,fq,ku,Ck,x_,qp,Gu,e0] at hks ⊢;omega)⟩
 |false=>
 refine a_ rfl ⟨_,rfl,?_⟩;cases h5:nk kind 5 with
 |true=>
  refine de rfl ⟨_,rfl,h97 nm false E1 _ ?_⟩;intro E2 ch tags htg;refine⟨_,rfl,_,rfl,_,rfl,?_⟩;have hal:cu.length<=4194304:=by have:=Fo cu;omega
  have qvN:∀m,um (cu.take m)<=um cu:=fun m=>by
   have h2:=congrArg um (List.take_append_drop m cu);have h3:∀a b:List NA,um (a++b)=um a+um b:=fun a b=>by
    induction a with
    |nil=>simp [um]
    |cons x a ih=>simp only [List.cons_append,um,ih];omega
   rw [h3] at h2;omega
  generalize hv:OO (.mk kind nm tag (.mk k1 n1 s1 ks1) ⟨op,.mk k2 n2 s2 ks2,.mk k3 n3 s3 ks3⟩ body els cu)=vv at *;have qQY:fy (ct vv 18)=some (.l (ET cu)):=by rw [←hv];rfl
  refine⟨fun n o l1 l2 v st a1 a2 a3 a4 a5 a6 xs ds i tg hd q=>∃(m:Nat) (E2:Int) (da:List Ar) (had:List ByteArray),m<=cu.length/\n=cu.length - m/\o=oM M E2/\l1=strs nms/\l2=strs prs/\vv=v/\st=mh (.mk kind 0 ch 0 e0 Gu [] [] [])/\a1=[]/\a2=[]/\a3=[]/\a4=[]/\a5=[]/\a6=oQ da/\xs=.l (oX l)/\ds=gh done/\i=ii j/\tg=.l (strs tags)/\hd=strs had/\q=ii m/\da.length=m/\had.length=m/\ku da<=um (cu.take m),
   ⟨_,0,E2,[],[],qqS _,rfl,rfl,rfl,rfl,hv.symm,rfl,rfl,rfl,rfl,rfl,rfl,rfl,rfl,rfl,rfl,rfl,rfl,rfl,rfl,rfl,by simp [ku]⟩,?_⟩
  rintro n3 o212 l213 l214 o215 o216 l217 l218 l219 l220 l221 l222 x223 l224 x225 x226 l227 x228 ⟨m,E3,da,had,hm,rfl,rfl,rfl,rfl,rfl,rfl,rfl,rfl,rfl,rfl,rfl,rfl,rfl,rfl,rfl,rfl,rfl,rfl,qXX,qwM,hdas⟩;have qkf:=push E3 (.mk kind 0 ch 0 e0 Gu [] [] da) (by have:=qvN m;simp only [za,fq,ku,Ck,x_,qp,Gu,e0];omega);refine⟨_,qQY,_,rfl,.b (n8 m (ET cu).length),rfl,rfl,rfl,rfl,?_⟩;cases qQ1:n8 (m:Int) (ET cu).length with
  |false=>exact cr rfl (cr rfl ⟨_,rfl,a_ rfl ⟨_,rfl,rfl,rfl,_,rfl,_,rfl,_,rfl,_,rfl,_,rfl,_,rfl,qkf⟩⟩)
  |true=>
  have hml:m < cu.length:=by rw [Gp] at qQ1;exact b9 qQ1
  refine bg rfl rfl (bg rfl rfl ⟨_,rfl,aa (fun _=>?_) (fun _=>⟨_,rfl,rfl,rfl,_,rfl,_,rfl,_,rfl,_,rfl,_,rfl,_,rfl,qkf⟩)⟩);have qwk:=KU hml;have qwj:=RC cu[m];have hsp:=qxA _ (qqj hml);have htk:=G5 hml;have qXA:=CB (qqj hml);generalize cu[m]=am at *;obtain⟨tg,vr,bd⟩:=am;simp only [Pd] at htk qXA;simp only at hsp;refine⟨_,qQY,_,⟨bq qwk,qwj⟩,_,rfl,_,rfl,?_⟩;refine⟨fun o l1 l2 v st a1 a2 a3 a4 a5 a6 am y ab xs ds i tgs hd q=>∃(E4 t:Int),o=oM M E4/\l1=strs nms/\l2=strs prs/\vv=v/\st=mh (.mk kind 0 ch 0 e0 Gu [] [] [])/\a1=[]/\a2=[]/\a3=[]/\a4=[]/\a5=[]/\a6=oQ da/\am=Ts (.mk tg vr bd)/\y=D7 (.mk t 0 [])/\ab=[]/\xs=.l (oX l)/\ds=gh done/\i=ii j/\tgs=.l (strs tags)/\hd=strs had/\q=ii m,?_,?_⟩
  ·refine⟨_,rfl,rq (LQ tags tg htg) ?_⟩;rintro r ⟨m2,rfl,hm1,hm2⟩;refine⟨trivial,_,rfl,aa (fun h=>?_) (fun h=>?_)⟩
   ·refine⟨_,rfl,_,rfl,aa (fun h=>?_) (fun h=>?_)⟩
    ·exact⟨_,rfl,trivial,trivial,trivial,_,rfl,_,rfl,8,0,rfl,rfl,rfl,rfl,rfl,rfl,rfl,rfl,rfl,rfl,rfl,rfl,rfl,rfl,rfl,rfl,rfl,rfl,rfl,rfl⟩
    ·exact⟨trivial,trivial,trivial,_,rfl,_,rfl,E3,0,rfl,rfl,rfl,rfl,rfl,rfl,rfl,rfl,rfl,rfl,rfl,rfl,rfl,rfl,rfl,rfl,rfl,rfl,rfl,rfl⟩
   ·exact⟨trivial,_,rfl,_,rfl,E3,m2,rfl,rfl,rfl,rfl,rfl,rfl,rfl,rfl,rfl,rfl,rfl,rfl,rfl,rfl,rfl,rfl,rfl,rfl,rfl,rfl⟩
  rintro o270 l271 l272 o273 o274 l275 l276 l277 l278 l279 l280 o281 o282 l283 x284 l285 x286 x287 l288 x289 ⟨E4,t,rfl,rfl,rfl,rfl,rfl,rfl,rfl,rfl,rfl,rfl,rfl,rfl,rfl,rfl,rfl,rfl,rfl,rfl,rfl,rfl⟩;refine⟨fun o l1 l2 v st a1 a2 a3 a4 a5 a6 am y ab xs ds i tgs hd q=>∃(E4:Int),o=oM M E4/\l1=strs nms/\l2=strs prs/\vv=v/\st=mh (.mk kind 0 ch 0 e0 Gu [] [] [])/\a1=[]/\a2=[]/\a3=[]/\a4=[]/\a5=[]/\a6=oQ da/\am=Ts (.mk tg vr bd)/\y=D7 (.mk t 0 [])/\ab=[]/\xs=.l (oX l)/\ds=gh done/\i=ii j/\tgs=.l (strs tags)/\hd=strs had/\q=ii m,?_,?_⟩
  ·refine⟨_,rfl,(LQ had tg (by omega)).mono ?_⟩;rintro r ⟨m2,rfl,hm1,hm2⟩;refine⟨rfl,_,rfl,aa (fun h=>?_) (fun h=>?_)⟩
   ·refine⟨_,rfl,_,rfl,aa (fun h=>?_) (fun h=>?_)⟩
    ·exact⟨_,rfl,trivial,trivial,7,rfl,rfl,rfl,rfl,rfl,rfl,rfl,rfl,rfl,rfl,rfl,rfl,rfl,rfl,rfl,rfl,rfl,rfl,rfl,rfl⟩
    ·exact⟨trivial,trivial,E4,rfl,rfl,rfl,rfl,rfl,rfl,rfl,rfl,rfl,rfl,rfl,rfl,rfl,rfl,rfl,rfl,rfl,rfl,rfl,rfl⟩
   ·exact⟨E4,rfl,rfl,rfl,rfl,rfl,rfl,rfl,rfl,rfl,rfl,rfl,rfl,rfl,rfl,rfl,rfl,rfl,rfl,rfl,rfl⟩
  rintro o303 l304 l305 qXm qXl qXy qXx l310 qXw qXv l313 o314 o315 l316 x317 l318 x319 x320 l321 x322 ⟨E5,rfl,rfl,rfl,rfl,rfl,rfl,rfl,rfl,rfl,rfl,rfl,rfl,rfl,rfl,rfl,rfl,rfl,rfl,rfl,rfl⟩;refine⟨_,rfl,rfl,rfl,_,rfl,rfl,strs (had++[tg]),?_,?_⟩
  ·rw [n_ (by rw [o_];simp only [qqq,most];omega) (by rw [o_];simp only [qqq,most];omega)];simp [strs]
  refine⟨fun o l1 l2 v st a1 a2 a3 a4 a5 a6 am y ab xs ds i tgs hd q=>∃(E4 u:Int),o=oM M E4/\l1=strs nms/\l2=strs prs/\vv=v/\st=mh (.mk kind 0 ch 0 e0 Gu [] [] [])/\a1=[]/\a2=[]/\a3=[]/\a4=[]/\a5=[]/\a6=oQ da/\am=Ts (.mk tg vr bd)/\y=D7 (.mk t u [])/\ab=[]/\xs=.l (oX l)/\ds=gh done/\i=ii j/\tgs=.l (strs tags)/\hd=strs (had++[tg])/\q=ii m,?_,?_⟩
  ·refine⟨_,hM.B7,_,rfl,rq (LQ M.vars vr hM.len) ?_⟩;rintro r ⟨m2,rfl,hm1,hm2⟩;refine⟨trivial,_,rfl,aa (fun h=>?_) (fun h=>?_)⟩
   ·refine⟨_,rfl,_,rfl,aa (fun h=>?_) (fun h=>?_)⟩
    ·exact⟨_,rfl,trivial,trivial,trivial,_,rfl,8,0,rfl,rfl,rfl,rfl,rfl,rfl,rfl,rfl,rfl,rfl,rfl,rfl,rfl,rfl,rfl,rfl,rfl,rfl,rfl,rfl⟩
    ·exact⟨trivial,trivial,trivial,_,rfl,E5,0,rfl,rfl,rfl,rfl,rfl,rfl,rfl,rfl,rfl,rfl,rfl,rfl,rfl,rfl,rfl,rfl,rfl,rfl,rfl,rfl⟩
   ·exact⟨trivial,_,rfl,E5,m2,rfl,rfl,rfl,rfl,rfl,rfl,rfl,rfl,rfl,rfl,rfl,rfl,rfl,rfl,rfl,rfl,rfl,rfl,rfl,rfl⟩
  rintro qXk qXu qXt qXj o351 qXs l353 qXr qXq l356 l357 o358 o359 l360 x361 l362 x363 x364 l365 x366 ⟨E6,u,rfl,rfl,rfl,rfl,rfl,rfl,rfl,rfl,rfl,rfl,rfl,rfl,rfl,rfl,rfl,rfl,rfl,rfl,rfl,rfl⟩;refine⟨_,rfl,hsp E6 _ ?_⟩;intro E7 qjD ho1;refine⟨_,rfl,_,rfl,rfl,rfl,_,rfl,rfl,_,rfl,rfl,oQ (da++[.mk t u qjD]),?_,_,rfl,_,bn hml (by omega),_,?_,m+1,E7,da++[.mk t u qjD],had++[tg],by omega,rfl,rfl,rfl,rfl,rfl,rfl,rfl,rfl,rfl,rfl,rfl,rfl,rfl,rfl,rfl,rfl,rfl,rfl,by simp [qXX],by simp [qwM],?_⟩
  ·rw [←ME];exact n_ (by rw [KR];simp only [qqq,most];omega) (by rw [KR];simp only [qqq,most];omega)
  ·omega
  ·rw [JG];simp only [ku,LF];omega
 |false=>
 refine a_ rfl ⟨_,rfl,?_⟩;cases h6:nk kind 6 with
 |true=>refine de rfl ⟨_,rfl,hc E1 _ _ _ ?_⟩;intro E2 k nu va k' nu' va' ks ks' hz1 hz2;exact⟨_,rfl,_,rfl,rfl,rfl,_,rfl,_,rfl,_,rfl,_,rfl,_,rfl,_,rfl,push E2 (.mk kind 0 0 0 e0 ⟨op,.mk k nu va ks,.mk k' nu' va' ks'⟩ [] [] []) (by simp only [za,fq,ku,Ck,x_,qp,Gu,e0] at hz1 hz2 ⊢;omega)⟩
 |false=>
 refine a_ rfl ⟨_,rfl,?_⟩;cases h7:nk kind 7 with
 |true=>
  refine de rfl ⟨_,hM.B7,_,rfl,rq (LQ M.vars nm hM.len) ?_⟩;rintro r ⟨m,rfl,hm1,hm2⟩;refine⟨trivial,_,rfl,aa (fun h=>?_) (fun h=>?_)⟩
  ·refine⟨_,rfl,_,rfl,aa (fun h=>?_) (fun h=>?_)⟩
   ·exact⟨_,rfl,trivial,trivial,trivial,_,rfl,_,rfl,rfl,rfl,_,rfl,_,rfl,_,rfl,_,rfl,_,rfl,_,rfl,push 8 (.mk kind 0 0 0 e0 Gu [] [] []) (by simp only [za,fq,ku,Ck,x_,qp,Gu,e0];omega)⟩
   ·exact⟨trivial,trivial,trivial,_,rfl,_,rfl,rfl,rfl,_,rfl,_,rfl,_,rfl,_,rfl,_,rfl,_,rfl,push E1 (.mk kind 0 0 0 e0 Gu [] [] []) (by simp only [za,fq,ku,Ck,x_,qp,Gu,e0];omega)⟩
  ·exact⟨trivial,_,rfl,_,rfl,rfl,rfl,_,rfl,_,rfl,_,rfl,_,rfl,_,rfl,_,rfl,push E1 (.mk kind m 0 0 e0 Gu [] [] []) (by simp only [za,fq,ku,Ck,x_,qp,Gu,e0];omega)⟩
 |false=>
 refine a_ rfl ?_;exact⟨_,rfl,rfl,rfl,_,rfl,_,rfl,_,rfl,_,rfl,_,rfl,_,rfl,push E1 (.mk kind 0 0 0 e0 Gu [] [] []) (by simp only [za,fq,ku,Ck,x_,qp,Gu,e0];omega)⟩
end Go.Ax.dg
set_option maxRecDepth 100000
namespace Go.Ax.dg
open Go Go.Ax Go.Ax.V Go.Ax.Ft
theorem td (M:Mk) (E e:Int) (he:e≠0) {P:TV->Prop} (h:∀E':Int,E'≠0->P (oM M E')) :
  ∃v25,fy (ct (oM M E) 7)=some v25/\∃LB,bf .eql v25 (TV.i .i64 0)=some LB/\
   ak LB (∃Oa,aq (oM M E) 7 1 (TV.i .i64 e)=some Oa/\True/\cg []/\P Oa) (True/\cg []/\P (oM M E)):=by
 refine⟨_,rfl,_,rfl,aa (fun h1=>?_) (fun h1=>?_)⟩
 ·exact⟨_,rfl,trivial,trivial,h e he⟩
 ·rw [bp] at h1;exact⟨trivial,trivial,h E (of_decide_eq_false h1)⟩
theorem E8 (M:Mk) (E e r:Int) (he:e≠0) {P:TV->Prop} {R:Prop} (h0:∀E':Int,E'≠0->P (oM M E')) (h1:0<=r->R) :
  ∃v,bf .lss (ii r) (TV.i .i64 0)=some v/\ak v
   (∃v25,fy (ct (oM M E) 7)=some v25/\∃LB,bf .eql v25 (TV.i .i64 0)=some LB/\
    ak LB (∃Oa,aq (oM M E) 7 1 (TV.i .i64 e)=some Oa/\True/\cg []/\True/\P Oa) (True/\cg []/\True/\P (oM M E)))
   (True/\R):=by
 refine⟨_,rfl,aa (fun _=>?_) (fun h=>⟨trivial,h1 ?_⟩)⟩
 ·refine⟨_,rfl,_,rfl,aa (fun h1=>?_) (fun h1=>?_)⟩
  ·exact⟨_,rfl,trivial,trivial,trivial,h0 e he⟩
  ·rw [bp] at h1;exact⟨trivial,trivial,trivial,h0 E (of_decide_eq_false h1)⟩
 ·rw [c_] at h;have:=of_decide_eq_false h;omega
theorem Ii {i n:Nat} (M:Mk) (E:Int) {A B:Prop} (ha:i < n->E=0->A) (hb:¬(i < n/\E=0)->B) :
  ∃N_,bf .lss (ii i) (ii n)=some N_/\gd N_ true N_ true/\gd N_ true N_ true/\gd N_ true N_ true/\
   ∃v61,gV N_ true (fun r=>fy (ct (oM M E) 7)=some r) v61/\∃v62,gV N_ true (fun r=>bf .eql v61 (TV.i .i64 0)=some r) v62/\
   ∃v63,ij N_ v62 (TV.b false)=some v63/\ak v63 A B:=by
 refine⟨.b (n8 i n),rfl,rfl,rfl,rfl,?_⟩;cases h:n8 (i:Int) (n:Int) with
 |true=>
  have hi:=b9 h;refine bg rfl rfl (bg rfl rfl ⟨_,rfl,aa (fun h2=>ha hi ?_) (fun h2=>hb ?_)⟩)
  ·rw [bp] at h2;exact of_decide_eq_true h2
  ·rw [bp] at h2;exact fun h3=>of_decide_eq_false h2 h3.2
 |false=>refine cr rfl (cr rfl ⟨_,rfl,a_ rfl (hb ?_)⟩);rw [c_] at h;have:=of_decide_eq_false h;omega
abbrev Z2:TV:=.a [.l [],.l []]
def Dx (sy:Ef) (P R:List ByteArray->List ByteArray->List Ch->List Pr->Prop) (o1 o2:TV) (l1 l2:List TV) (o3:TV) (l3 l4:List TV) (o4:TV) (l5 l6:List TV):Prop:=
 ∃(M:Mk) (E:Int) (nms prs:List ByteArray) (cs:List Ch) (ps:List Pr),o1=Dk sy/\o2=Z2/\l1=[]/\l2=[]/\o3=oM M E/\M.NV=sy.au/\Ln M/\l3=strs nms/\l4=strs prs/\o4=Z2/\l5=cs.map c8/\l6=ps.map gJ/\P nms prs cs ps/\(E=0->R nms prs cs ps)
theorem iy {sy:Ef} {P R:List ByteArray->List ByteArray->List Ch->List Pr->Prop} {M:Mk} {E:Int} {nms prs:List ByteArray} {cs:List Ch} {ps:List Pr} (hc:M.NV=sy.au) (hM:Ln M) (hP:P nms prs cs ps) (hR:E=0->R nms prs cs ps) :
  Dx sy P R (Dk sy) Z2 [] [] (oM M E) (strs nms) (strs prs) Z2 (cs.map c8) (ps.map gJ):=
 ⟨M,E,nms,prs,cs,ps,rfl,rfl,rfl,rfl,rfl,hc,hM,rfl,rfl,rfl,rfl,rfl,hP,hR⟩
theorem vs_s {f:Nat} {ts:List TV} {K:TV->Prop} (h:VS prog f ts Q0) (hk:∀b,K (.b b)):VS prog f ts (fun r=>lB false r/\K r):=h.mono fun r ⟨b,hb⟩=>by subst hb;exact⟨rfl,hk b⟩
def T4:List ByteArray->List ByteArray->List Ch->List Pr->Prop:=fun _ _ _ _=>True
def PF (sy:Ef) (nms prs:List ByteArray) (cs:List Ch):Prop:=nms.length<=sy.au.length/\prs.length<=4194304/\cs.length<=4194304/\∀c∈cs,c.rule.length<=8/\∀r∈c.rule,r.length<=4
def PFk (B:Nat) (sy:Ef) (k:Nat) (nms prs:List ByteArray) (cs:List Ch) (ps:List Pr):Prop:=PF sy nms prs cs/\ps.length=k/\∀x∈ps,fq x.body<=B
theorem KI (sy:Ef) (hz:Jp sy) {B:Nat} (hB:∀p∈sy.procs,kj p.body<=B) (hB2:B<=4194304) {Q:TV->Prop} (hQ:∀(p:Pg) (e:Int),(e=0->Aw p/\∀x∈p.procs,fq x.body<=B)->Q (.tp [gb p,ii e]))
  {qvq qvp:TV} {qvI qvH:List TV} {qvo:TV} {qvG qvF:List TV} {qvn:TV} {qvE qvD:List TV}
  (h:Dx sy (PFk B sy 0) T4 qvq qvp qvI qvH qvo qvG qvF qvn qvE qvD) :
  ∃qyg:Nat->TV->TV->List TV->List TV->TV->List TV->List TV->TV->List TV->List TV->TV->Prop,(∃qwA,qyg qwA qvq qvp qvI qvH qvo qvG qvF qvn qvE qvD (TV.i .i64 0))/\∀qwA:Nat,
 ∀qjc:TV,∀qjb:TV,∀qkH:List TV,∀qkG:List TV,∀qze:TV,∀qkF:List TV,∀qkE:List TV,∀qjG:TV,∀qjN:List TV,∀qjM:List TV,∀qz5:TV,qyg qwA qjc qjb qkH qkG qze qkF qkE qjG qjN qjM qz5->
 ∃qyY,fy (ct qjc 2)=some qyY/\
 ∃qyX,ig qyY=some qyX/\
 ∃qx9,bf .lss qz5 qyX=some qx9/\
 gd qx9 true qx9 true/\gd qx9 true qx9 true/\gd qx9 true qx9 true/\∃qyW,gV qx9 true (fun r=>fy (ct qze 7)=some r) qyW/\
 ∃qyV,gV qx9 true (fun r=>bf .eql qyW (TV.i .i64 0)=some r) qyV/\
 ∃qyU,ij qx9 qyV (TV.b false)=some qyU/\
 ak qyU
 (∃qwR:TV->TV->List TV->List TV->TV->List TV->List TV->TV->List TV->List TV->TV->Prop,
 (∃qyT,fy (ct qjc 2)=some qyT/\
 ∃qw9,(jh qyT qz5=some qw9/\cw 3 qw9)/\
 ∃qyS,gY qw9 1 none=some qyS/\
 ∃qyR,ig qyS=some qyR/\
 ∃qyQ,bf .gtr qyR (TV.i .i64 6)=some qyQ/\
 ak qyQ
 (∃qyP,fy (ct qze 7)=some qyP/\
 ∃qyO,bf .eql qyP (TV.i .i64 0)=some qyO/\
 ak qyO
 (∃qyN,aq qze 7 1 (TV.i .i64 10)=some qyN/\
 True/\cg []/\qwR qjc qjb qkH qkG qyN qkF qkE qjG qjN qjM qz5)
 (True/\cg []/\qwR qjc qjb qkH qkG qze qkF qkE qjG qjN qjM qz5))
 (qwR qjc qjb qkH qkG qze qkF qkE qjG qjN qjM qz5))/\
 ∀qjF:TV,∀qkj:TV,∀qkD:List TV,∀qkC:List TV,∀qjE:TV,∀qkB:List TV,∀qkA:List TV,∀qki:TV,∀qkz:List TV,∀qky:List TV,∀qjy:TV,qwR qjF qkj qkD qkC qjE qkB qkA qki qkz qky qjy->∃qwQ:TV->TV->List TV->List TV->TV->List TV->List TV->TV->List TV->List TV->TV->Prop,
 (∃qyM,fy (ct qjF 2)=some qyM/\
 ∃qw8,(jh qyM qjy=some qw8/\cw 3 qw8)/\
 ∃qyL,gY qw8 1 none=some qyL/\
 VS prog 70 [qyL] fun qQL=>lB true qQL/\
 ak qQL
 (∃qyK,fy (ct qjE 7)=some qyK/\
 ∃qyJ,bf .eql qyK (TV.i .i64 0)=some qyJ/\
 ak qyJ
 (∃qyI,aq qjE 7 1 (TV.i .i64 7)=some qyI/\
 True/\cg []/\qwQ qjF qkj qkD qkC qyI qkB qkA qki qkz qky qjy)
 (True/\cg []/\qwQ qjF qkj qkD qkC qjE qkB qkA qki qkz qky qjy))
 (qwQ qjF qkj qkD qkC qjE qkB qkA qki qkz qky qjy))/\
 ∀qkh:TV,∀qvi:TV,∀qvw:List TV,∀qvv:List TV,∀qvh:TV,∀qvu:List TV,∀qvt:List TV,∀qvg:TV,∀qvs:List TV,∀qvr:List TV,∀qjx:TV,qwQ qkh qvi qvw qvv qvh qvu qvt qvg qvs qvr qjx->∃qyH,fy (ct qkh 2)=some qyH/\
 ∃qw7,(jh qyH qjx=some qw7/\cw 3 qw7)/\
 ∃qyG,gY qw7 1 none=some qyG/\
 ∃qyF,aq qvh 4 1 qjx=some qyF/\
 ∃qw6,aq qyF 5 1 qyG=some qw6/\
 ∃qw5,fy (ct qw6 5)=some qw5/\TV.isL qw5=true/\∀qXg:AV,∃qjB,aq qw6 5 1 (TV.B7 qXg qw5)=some qjB/\
 ∃qyE,fy (ct qjB 5)=some qyE/\
 ∃qyD,ig qyE=some qyD/\
 ∃qyC,fy (ct qkh 2)=some qyC/\
 ∃qw4,(jh qyC qjx=some qw4/\cw 3 qw4)/\
 ∃qyB,gY qw4 2 none=some qyB/\
 (∃t,TV.uniq t=true/\ct qjB 5=some t/\ct qjB 5=some t)/\
 TF (fun (qQM:TV) (qXp:List TV) (qXo:List TV) (qXn:List TV)=>
 (∃t,TV.uniq t=true/\ct qjB 5=some t/\ct qQM 5=some t)/\
 ∃qyA,aq (TV.a [(TV.i .i64 0),(TV.l [])]) 0 1 qyD=some qyA/\
 ∃qyz,aq qyA 1 1 (TV.l [])=some qyz/\
 (Nat.beq 0 (0*2)&&Nat.beq 2 2)=true/\true=true/\∃qw3,aq qyz 1 1 (TV.l qXn)=some qw3/\
 cw 2 qw3/\
 ∃qw2,ef (TV.l [qw3])=some qw2/\gk 2 qw2/\
 ∃qyy,ga 32 qvr qw2=some qyy/\
 ∃qyx,aq qvg 1 1 (TV.l [])=some qyx/\
 ∃qyw,bf .add qjx (TV.i .i64 1)=some qyw/\
 ∃qQT,qQT < qwA/\qyg qQT qkh qvi qvw qvv qQM qXp qXo qyx qvs qyy qyw)
 qjB qvu qvt qyB)
 (∃qyv,fy (ct qze 7)=some qyv/\
 ∃qyu,bf .neq qyv (TV.i .i64 0)=some qyu/\
 ak qyu
 (∃qw1,fy (ct qze 7)=some qw1/\
 ∃qyt,aq qjb 0 2 (TV.a [(TV.l []),(TV.l [])])=some qyt/\
 True/\∃qys,ax qyt 0 2=some qys/\
 ∃qyr,aq qys 1 1 (TV.l [])=some qyr/\
 ∃qw0,aq qyr 0 1 (TV.l [])=some qw0/\
 oH [qw0,qw1]/\Q (TV.tp [qw0,qw1]))
 (∃qyq,ax qjG 0 2=some qyq/\
 ∃qyp,aq qjb 0 2 qyq=some qyp/\
 True/\∃qyo,ax qyp 0 2=some qyo/\
 ∃qyn,aq qyo 1 1 (TV.l qjM)=some qyn/\
 ∃qwZ,aq qyn 0 1 (TV.l qjN)=some qwZ/\
 oH [qwZ,(TV.i .i64 0)]/\Q (TV.tp [qwZ,(TV.i .i64 0)]))):=by
 refine⟨fun n o1 o2 l1 l2 o3 l3 l4 o4 l5 l6 x=>∃k:Nat,k<=sy.procs.length/\n=sy.procs.length - k/\x=ii k/\Dx sy (PFk B sy k) T4 o1 o2 l1 l2 o3 l3 l4 o4 l5 l6,
  ⟨_,0,qqS _,rfl,rfl,h⟩,?_⟩
 clear h;rintro n qjc qjb qkH qkG qze qkF qkE qjG qjN qjM qz5 ⟨k,hk,rfl,rfl,M,E,nms,prs,cs,ps,rfl,rfl,rfl,rfl,rfl,hc,hM,rfl,rfl,rfl,rfl,rfl,hP,_⟩;refine⟨_,rfl,_,rfl,Ii M E (fun hkl hE=>?_) (fun hno=>?_)⟩
 ·rw [qql] at hkl;have qq9:=lM (f:=NQ) hkl;have hv:=hz.vars _ (qqj hkl);have hbd:=hB _ (qqj hkl);have hzp:=hz.procs;generalize sy.procs[k]=x at qq9 hv hbd;have idx:(jh (.l (sy.procs.map NQ)) (ii k)=some (NQ x)/\cw 3 (NQ x)):=⟨bq qq9,MJ x⟩;refine⟨fun o1 o2 l1 l2 o3 l3 l4 o4 l5 l6 x=>x=ii k/\Dx sy (PFk B sy k) T4 o1 o2 l1 l2 o3 l3 l4 o4 l5 l6,⟨_,rfl,_,idx,_,rfl,_,rfl,_,rfl,aa (fun _=>td M E 10 (by decide) (fun E' _=>⟨rfl,iy hc hM hP (fun _=>trivial)⟩)) (fun _=>⟨rfl,iy hc hM hP (fun _=>trivial)⟩)⟩,?_⟩;clear hP hc hM hE;rintro qjF qkj qkD qkC qjE qkB qkA qki qkz qky qjy ⟨rfl,M,E,nms,prs,cs,ps,rfl,rfl,rfl,rfl,rfl,hc,hM,rfl,rfl,rfl,rfl,rfl,hP,_⟩;refine⟨fun o1 o2 l1 l2 o3 l3 l4 o4 l5 l6 x=>x=ii k/\Dx sy (PFk B sy k) T4 o1 o2 l1 l2 o3 l3 l4 o4 l5 l6,⟨_,rfl,_,idx,_,rfl,Ul (s70 x.vars hv) (fun b=>aa (fun _=>td M E 7 (by decide) (fun E' _=>⟨rfl,iy hc hM hP (fun _=>trivial)⟩)) (fun _=>⟨rfl,iy hc hM hP (fun _=>trivial)⟩))⟩,?_⟩;clear hP hc hM;rintro qkh qvi qvw qvv qvh qvu qvt qvg qvs qvr qjx ⟨rfl,M,E,nms,prs,cs,ps,rfl,rfl,rfl,rfl,rfl,hc,hM,rfl,rfl,rfl,rfl,rfl,⟨hP,hpl,hpb⟩,_⟩;refine⟨_,rfl,_,idx,_,rfl,_,rfl,_,rfl,_,rfl,rfl,fun p=>⟨oM ⟨M.NV,M.c1,M.c2,k,.B7 p (.l (strs x.vars)),x.vars⟩ E,rfl,_,rfl,_,rfl,_,rfl,_,idx,_,rfl,⟨_,rfl,rfl,rfl⟩,?_⟩⟩;have hM2:Ln ⟨M.NV,M.c1,M.c2,k,.B7 p (.l (strs x.vars)),x.vars⟩:=⟨rfl,hv,hM.tags,hM.au⟩;refine s72 _ hM2 nms prs (by show nms.length<=M.NV.length;rw [hc];exact hP.1) hP.2.1 _ x.body (qqT _) (by omega) E _ ?_;intro E2 out hout;refine⟨⟨_,rfl,rfl,rfl⟩,_,rfl,_,rfl,rfl,rfl,gJ (Pr.mk ((x.vars.map ss).length:Nat) out),rfl,rfl,_,rfl,rfl,(ps++[Pr.mk ((x.vars.map ss).length:Nat) out]).map gJ,?_,Z2,rfl,_,bn hkl (by omega),_,?_,k+1,by omega,rfl,rfl,iy (M:=⟨M.NV,M.c1,M.c2,k,.B7 p (.l (strs x.vars)),x.vars⟩) hc hM2 ⟨hP,by simp [hpl],?_⟩ (fun _=>trivial)⟩
  ·rw [n_ (by simp only [qql,qqq,most];omega) (by simp only [qql,qqq,most];omega)];simp
  ·omega
  ·intro y hy;rcases qqx.1 hy with hy|hy
   ·exact hpb y hy
   ·rw [qqy.1 hy];show fq out<=_;omega
 ·obtain⟨⟨hP1,hP2,hP3,hP4⟩,hpl,hpb⟩:=hP;refine⟨_,rfl,_,rfl,aa (fun h=>?_) (fun h=>?_)⟩
  ·have hE:E≠0:=by intro h0;subst h0;cases h
   exact⟨_,rfl,Z2,rfl,trivial,_,rfl,_,rfl,gb ⟨[],[]⟩,rfl,DB rfl rfl,hQ ⟨[],[]⟩ E (fun h=>absurd h hE)⟩
  ·have hzp:=hz.procs;exact⟨_,rfl,Z2,rfl,trivial,_,rfl,_,rfl,gb ⟨cs,ps⟩,rfl,DB rfl rfl,hQ ⟨cs,ps⟩ 0 (fun _=>⟨⟨hP3,by show ps.length<=_;omega,fun c hc=>by have:=(hP4 c hc).1;omega,fun c hc r hr=>by have:=(hP4 c hc).2 r hr;omega,fun x hx=>by have:=hpb x hx;omega⟩,hpb⟩)⟩
end Go.Ax.dg
set_option maxRecDepth 100000
namespace Go.Ax.dg
open Go Go.Ax Go.Ax.V Go.Ax.Ft
def P4 (sy:Ef) (nms prs:List ByteArray) (cs:List Ch) (ps:List Pr):Prop:=nms.length=cs.length/\cs.length<=sy.au.length/\prs.length<=4194304/\ps=[]/\∀c∈cs,c.rule.length<=8/\∀r∈c.rule,r.length<=4
def R1 (sy:Ef) (nms prs:List ByteArray) (cs:List Ch) (ps:List Pr):Prop:=cs.length=sy.au.length/\(∀nc∈sy.au,nc.tags.length<=4)/\∀c∈cs,c.tags<=4
def PR (sy:Ef) (j k:Nat) (nms prs:List ByteArray) (cs:List Ch) (ps:List Pr):Prop:=P4 sy nms prs cs ps/\R1 sy nms prs cs ps/\∃ch,cs[j]?=some ch/\ch.rule.length=k
def Ar8 (arr:List Int):Prop:=arr.length=32/\∀x∈arr,0<=x/\x<=8
theorem Uf {arr:List Int} (h:Ar8 arr) {q:Nat} (hq:q < 32):∃x:Int,(.a (arr.map ii):TV)=.a (arr.map ii)/\(arr.map ii)[q]?=some (ii x)/\0<=x/\x<=8:=by
 have hl:q < arr.length:=by rw [h.1];exact hq
 refine⟨arr[q],rfl,by simp [hl],h.2 _ (qqj hl)⟩
theorem Z4 {cs:List Ch} {j:Nat} {ch:Ch} (h:cs[j]?=some ch):zb (cs.map c8) j 4 none=some (ii ch.tags):=by unfold zb;rw [qqe,h];rfl
theorem Ud {cs:List Ch} {j:Nat} {ch:Ch} (h:cs[j]?=some ch):AX (cs.map c8) j 5=some (ch.rule.map lg):=by unfold AX;rw [qqe,h];rfl
theorem Ue {cs:List Ch} {j:Nat} {ch:Ch} (h:cs[j]?=some ch):(cs.map c8)[j]?=some (c8 ch):=by rw [qqe,h];rfl
theorem VD {cs:List Ch} {j:Nat} {ch:Ch} (h:cs[j]?=some ch) (r:List (List Int)):jn (cs.map c8) j 5 1 (.l (r.map lg))=some ((cs.set j {ch with rule:=r}).map c8):=by unfold jn;rw [qqe,h,List.map_set];rfl
theorem Ok (sy:Ef) (i j:Nat) (hi:i<=4194304) (top:Int) (ht0:0<=top) (ht:top<=7) (arr:List Int) (ha:Ar8 arr)
  {qwq:Nat->TV->TV->List TV->List TV->TV->List TV->List TV->TV->List TV->List TV->TV->Prop} {qkt:Nat}
  {qxT qzh:TV} {qzp qzo:List TV} {qxY:TV} {qzn qzm:List TV} {qzg:TV} {qzl qzk:List TV} {qzf qxW qx8 qzd:TV}
  (h:Dx sy (PR sy j 0) T4 qxT qzh qzp qzo qxY qzn qzm qzg qzl qzk) (e1:qzf=.a (arr.map ii)) (e2:qxW=ii i) (e3:qx8=ii j) (e4:qzd=ii top)
  (hI:∀(o1 o2:TV) (l1 l2:List TV) (o3:TV) (l3 l4:List TV) (o4:TV) (l5 l6:List TV),Dx sy (P4 sy) (R1 sy) o1 o2 l1 l2 o3 l3 l4 o4 l5 l6->∃m,m < qkt/\qwq m o1 o2 l1 l2 o3 l3 l4 o4 l5 l6 (ii ((i+1:Nat):Int))) :
  ∃qjw:Nat->TV->TV->List TV->List TV->TV->List TV->List TV->TV->List TV->List TV->TV->TV->TV->TV->TV->Prop,(∃qzj,qjw qzj qxT qzh qzp qzo qxY qzn qzm qzg qzl qzk qzf qxW qx8 qzd (TV.i .i64 0))/\∀qzj:Nat,
 ∀qzK:TV,∀qzJ:TV,∀qzW:List TV,∀qzV:List TV,∀qzI:TV,∀qzU:List TV,∀qzT:List TV,∀qzH:TV,∀qzS:List TV,∀qzR:List TV,∀qjH:TV,∀qzB:TV,∀qjz:TV,∀qzA:TV,∀qzz:TV,qjw qzj qzK qzJ qzW qzV qzI qzU qzT qzH qzS qzR qjH qzB qjz qzA qzz->
 ∃qkd,bf .leq qzz qzA=some qkd/\
 ak qkd
 (∃qjv:Nat->TV->TV->List TV->List TV->TV->List TV->List TV->TV->List TV->List TV->TV->TV->TV->TV->TV->List TV->TV->Prop,(∃qzi,qjv qzi qzK qzJ qzW qzV qzI qzU qzT qzH qzS qzR qjH qzB qjz qzA qzz [] (TV.i .i64 0))/\∀qzi:Nat,
 ∀qzG:TV,∀qzF:TV,∀qzQ:List TV,∀qzP:List TV,∀qzE:TV,∀qzO:List TV,∀qzN:List TV,∀qzD:TV,∀qxy:List TV,∀qzM:List TV,∀qzb:TV,∀qzy:TV,∀qxN:TV,∀qzx:TV,∀qx7:TV,∀qzL:List TV,∀qx6:TV,qjv qzi qzG qzF qzQ qzP qzE qzO qzN qzD qxy qzM qzb qzy qxN qzx qx7 qzL qx6->
 ∃qkc,jm qxN (List.length qxy)=some qkc/\
 ∃qkb,zb qxy qkc 4 none=some qkb/\
 ∃qka,bf .lss qx6 qkb=some qka/\
 ak qka
 (∃qj9,jm qx7 8=some qj9/\
 ∃qj8,jm qx6 4=some qj8/\
 ∃qj7,gY qzb ((0+qj9*4)+qj8*1) none=some qj7/\
 ∃qja,bf .sub qj7 (TV.i .i64 1)=some qja/\
 (Nat.beq 0 (0*1)&&Nat.beq 1 1)=true/\cw 1 qja/\
 ∃qz9,ef (TV.l [qja])=some qz9/\gk 1 qz9/\
 ∃qj6,ga 8 qzL qz9=some qj6/\
 ∃qj5,bf .add qx6 (TV.i .i64 1)=some qj5/\
 ∃qku,qku < qzi/\qjv qku qzG qzF qzQ qzP qzE qzO qzN qzD qxy qzM qzb qzy qxN qzx qx7 qj6 qj5)
 (∃qxD,jm qxN (List.length qxy)=some qxD/\
 ∃qva,qxy[qxD]?=some qva/\
 (Nat.beq 0 (0*1)&&Nat.beq 1 1)=true/\true=true/\1=1/\∃qz8,ef (TV.l [(TV.l qzL)])=some qz8/\gk 1 qz8/\
 ∃qj4,AX qxy qxD 5=some qj4/\
 ∃qj3,ga 24 qj4 qz8=some qj3/\
 ∃qz7,jm qxN (List.length qxy)=some qz7/\
 qxD=qxD/\qxD=qxD/\qxD=qz7/\∃qj2,jn qxy qz7 5 1 (TV.l qj3)=some qj2/\
 ∃qj1,bf .add qx7 (TV.i .i64 1)=some qj1/\
 ∃qkv,qkv < qzj/\qjw qkv qzG qzF qzQ qzP qzE qzO qzN qzD qj2 qzM qzb qzy qxN qzx qj1))
 (∃qj0,bf .add qzB (TV.i .i64 1)=some qj0/\
 ∃qkx,qkx < qkt/\qwq qkx qzK qzJ qzW qzV qzI qzU qzT qzH qzS qzR qj0):=by
 subst e1 e2 e3 e4;refine⟨fun n o1 o2 l1 l2 o3 l3 l4 o4 l5 l6 a x1 x2 x3 x4=>∃k:Nat,(k:Int)<=top+1/\n=(top+1 - k).toNat/\a=.a (arr.map ii)/\x1=ii i/\x2=ii j/\x3=ii top/\x4=ii k/\Dx sy (PR sy j k) T4 o1 o2 l1 l2 o3 l3 l4 o4 l5 l6,⟨_,0,by omega,rfl,rfl,rfl,rfl,rfl,rfl,h⟩,?_⟩;clear h;rintro n qzK qzJ qzW qzV qzI qzU qzT qzH qzS qzR qjH qzB qjz qzA qzz ⟨k,hk,rfl,rfl,rfl,rfl,rfl,rfl,h⟩;obtain⟨M,E,nms,prs,cs,ps,rfl,rfl,rfl,rfl,rfl,hc,hM,rfl,rfl,rfl,rfl,rfl,⟨hP,hR,ch,hch,hcr⟩,_⟩:=h;refine⟨_,Np _ _,aa (fun h1=>?_) (fun h1=>?_)⟩
 ·have hkt:(k:Int)<=top:=by rw [c_,qqD,qqJ] at h1;omega
  have hjl:j < cs.length:=(qqb.1 hch).1;have hct:ch.tags<=4:=hR.2.2 ch (qqi hch);have hjm:jm (ii j) (cs.map c8).length=some j:=vi (by rw [qql];exact hjl);refine⟨fun n o1 o2 l1 l2 o3 l3 l4 o4 l5 l6 a x1 x2 x3 x4 r x5=>∃(t:Nat) (row:List Int),t<=4/\n=4 - t/\o1=Dk sy/\o2=Z2/\l1=[]/\l2=[]/\o3=oM M E/\l3=strs nms/\l4=strs prs/\o4=Z2/\l5=cs.map c8/\l6=ps.map gJ/\a=.a (arr.map ii)/\x1=ii i/\x2=ii j/\x3=ii top/\x4=ii k/\r=row.map ii/\row.length=t/\x5=ii t,
   ⟨_,0,[],by omega,rfl,rfl,rfl,rfl,rfl,rfl,rfl,rfl,rfl,rfl,rfl,rfl,rfl,rfl,rfl,rfl,rfl,rfl,rfl⟩,?_⟩
  rintro n qzG qzF qzQ qzP qzE qzO qzN qzD qxy qzM qzb qzy qxN qzx qx7 qzL qx6 ⟨t,row,ht4,rfl,rfl,rfl,rfl,rfl,rfl,rfl,rfl,rfl,rfl,rfl,rfl,rfl,rfl,rfl,rfl,rfl,hrow,rfl⟩;refine⟨j,hjm,_,Z4 hch,_,rfl,aa (fun h2=>?_) (fun h2=>?_)⟩
  ·have htl:(t:Int) < ch.tags:=by rw [c_] at h2;exact of_decide_eq_true h2
   have qXH:t < 4:=by omega
   obtain⟨x,_,hx,hx0,hx8⟩:=Uf ha (q:=(0+k*4)+t*1) (by omega);refine⟨k,vi (by omega),t,vi (by omega),ii x,hx,_,Px (by omega) (by omega),rfl,rfl,_,rfl,rfl,(row++[x - 1]).map ii,?_,_,bn qXH (by omega),_,?_,t+1,row++[x - 1],by omega,rfl,rfl,rfl,rfl,rfl,rfl,rfl,rfl,rfl,rfl,rfl,rfl,rfl,rfl,rfl,rfl,rfl,by simp [hrow],rfl⟩
   ·rw [n_ (by simp only [qql,qqq,most];omega) (by simp only [qql,qqq,most];omega)];simp
   ·omega
  ·refine⟨j,hjm,_,Ue hch,rfl,rfl,rfl,_,rfl,rfl,_,Ud hch,(ch.rule++[row]).map lg,?_,j,hjm,rfl,rfl,rfl,_,VD hch _,_,bn (n:=8) (by omega) (by omega),_,?_,k+1,by omega,rfl,rfl,rfl,rfl,rfl,rfl,iy hc hM ⟨?_,?_,{ch with rule:=ch.rule++[row]},?_,?_⟩ (fun _=>trivial)⟩
   ·rw [n_ (by simp only [qql,qqq,most];omega) (by simp only [qql,qqq,most];omega)];simp [lg]
   ·omega
   ·obtain⟨h1,h2,h3,h4,h5⟩:=hP;refine⟨by rw [qqs];exact h1,by rw [qqs];exact h2,h3,h4,fun c hc=>?_⟩;rcases List.mem_or_eq_of_mem_set hc with hc|rfl
    ·exact h5 c hc
    ·refine⟨by simp only [qqm,qqq];omega,fun r hr=>?_⟩;rcases qqx.1 hr with hr|hr
     ·exact(h5 ch (qqi hch)).2 r hr
     ·rw [qqy.1 hr];omega
   ·obtain⟨h1,h2,h3⟩:=hR;refine⟨by rw [qqs];exact h1,h2,fun c hc=>?_⟩;rcases List.mem_or_eq_of_mem_set hc with hc|rfl
    ·exact h3 c hc
    ·exact hct
   ·rw [List.getElem?_set_self hjl]
   ·simp only [qqm,qqq];omega
 ·exact⟨_,bn (n:=4194305) (by omega) (by omega),hI _ _ _ _ _ _ _ _ _ _ (iy hc hM hP (fun _=>hR))⟩
end Go.Ax.dg
set_option maxRecDepth 100000
namespace Go.Ax.dg
open Go Go.Ax Go.Ax.V Go.Ax.Ft
theorem QV {j:Int} {n:Nat} (h0:0<=j) (h:j.toNat < n):jm (ii j) n=some j.toNat:=by obtain⟨k,rfl⟩:=Int.eq_ofNat_of_zero_le h0;exact vi h
theorem FP (cs:List TV):s8 cs []=some cs:=by cases cs<;>rfl
theorem J_:∀(cs:List TV) (q:Nat) (x:TV),q < cs.length->uz cs q [x]=some (cs.set q x)
 |y::cs,0,x,_=>by show (match s8 cs [] with|some l=>some (x::l)|none=>none)=_;rw [FP];rfl
 |y::cs,q+1,x,h=>by show (match uz cs q [x] with|some l=>some (y::l)|none=>none)=_;rw [J_ cs q x (by simpa using h)];rfl
theorem VH {arr:List Int} {q:Nat} (h:q < arr.length) (x:Int):aq (.a (arr.map ii)) q 1 (ii x)=some (.a ((arr.set q x).map ii)):=by show (match uz (arr.map ii) q [ii x] with|some l=>some (TV.a l)|none=>none)=_;rw [J_ _ _ _ (by rw [qql];exact h),List.map_set]
theorem mxm (a b c:Int):∃m,zw true [ii a,ii b,ii c]=some (ii m)/\(m=a\/m=b\/m=c):=by
 refine⟨bif n8 (bif n8 a b then b else a) c then c else (bif n8 a b then b else a),rfl,?_⟩;cases h:n8 a b<;>simp only [cond_true,cond_false]
 ·cases n8 a c<;>simp
 ·cases n8 b c<;>simp
theorem ZW {E:Int} (h:E=0):bf .eql (ii E) (TV.i .i64 0)=some (.b true):=by subst h;rfl
theorem ZX {E:Int} (h:E≠0):bf .eql (ii E) (TV.i .i64 0)=some (.b false):=by show some (TV.b (nk E 0))=_;rw [bp,qqK h]
theorem Oj (sy:Ef) (hz:Jp sy) (i j:Nat) (hi:i < sy.rules.length) (hok:∀x∈sy.rules,∀m∈x.l_,UX m)
  {qwq:Nat->TV->TV->List TV->List TV->TV->List TV->List TV->TV->List TV->List TV->TV->Prop} {qkt:Nat}
  {qvm qvl:TV} {qvC qvB:List TV} {qvk:TV} {qvA qvz:List TV} {qvj:TV} {qvy qvx:List TV} {qwY qwX:TV}
  (h:Dx sy (PR sy j 0) T4 qvm qvl qvC qvB qvk qvA qvz qvj qvy qvx) (e2:qwY=ii i) (e3:qwX=ii j)
  (hI:∀(o1 o2:TV) (l1 l2:List TV) (o3:TV) (l3 l4:List TV) (o4:TV) (l5 l6:List TV),Dx sy (P4 sy) (R1 sy) o1 o2 l1 l2 o3 l3 l4 o4 l5 l6->∃m,m < qkt/\qwq m o1 o2 l1 l2 o3 l3 l4 o4 l5 l6 (ii ((i+1:Nat):Int))) :
  ∃qwV:Nat->TV->TV->List TV->List TV->TV->List TV->List TV->TV->List TV->List TV->TV->TV->TV->TV->TV->Prop,(∃qks,qwV qks qvm qvl qvC qvB qvk qvA qvz qvj qvy qvx zz9 qwY qwX (TV.i .i64 0) (TV.i .i64 0))/\∀qks:Nat,
 ∀qxT:TV,∀qzh:TV,∀qzp:List TV,∀qzo:List TV,∀qxY:TV,∀qzn:List TV,∀qzm:List TV,∀qzg:TV,∀qzl:List TV,∀qzk:List TV,∀qzf:TV,∀qxW:TV,∀qx8:TV,∀qzd:TV,∀qz6:TV,qwV qks qxT qzh qzp qzo qxY qzn qzm qzg qzl qzk qzf qxW qx8 qzd qz6->
 ∃qQK,fy (ct qxT 1)=some qQK/\
 ∃qve,(jh qQK qxW=some qve/\cw 2 qve)/\
 ∃qQJ,gY qve 1 none=some qQJ/\
 ∃qQI,ig qQJ=some qQI/\
 ∃qza,bf .lss qz6 qQI=some qza/\
 gd qza true qza true/\gd qza true qza true/\gd qza true qza true/\∃qQH,gV qza true (fun r=>fy (ct qxY 7)=some r) qQH/\
 ∃qQG,gV qza true (fun r=>bf .eql qQH (TV.i .i64 0)=some r) qQG/\
 ∃qQE,ij qza qQG (TV.b false)=some qQE/\
 ak qQE
 (∃qQD,fy (ct qxT 1)=some qQD/\
 ∃qvd,(jh qQD qxW=some qvd/\cw 2 qvd)/\
 ∃qQC,gY qvd 1 none=some qQC/\
 ∃qvc,(jh qQC qz6=some qvc/\cw 3 qvc)/\
 ∃qQB,gY qvc 0 (some 3)=some qQB/\
 ∃qke,aq (TV.a [(TV.i .i64 0),(TV.s ⟨#[]⟩),(TV.i .i64 0)]) 0 3 qQB=some qke/\
 ∃qwU:TV->TV->List TV->List TV->TV->List TV->List TV->TV->List TV->List TV->TV->TV->TV->TV->TV->TV->TV->Prop,
 (∃qQA,fy (ct qxT 0)=some qQA/\
 ∃qvb,(jh qQA qx8=some qvb/\cw 6 qvb)/\
 ∃qQz,gY qvb 5 none=some qQz/\
 ∃qQy,fy (ct qke 1)=some qQy/\
 VS prog 69 [qQz,qQy] fun qvf=>lB true qvf/\
 ∃qQx,bf .lss qvf (TV.i .i64 0)=some qQx/\
 ak qQx
 (∃qQw,fy (ct qxY 7)=some qQw/\
 ∃qQv,bf .eql qQw (TV.i .i64 0)=some qQv/\
 ak qQv
 (∃qQu,aq qxY 7 1 (TV.i .i64 8)=some qQu/\
 True/\cg []/\True/\qwU qxT qzh qzp qzo qQu qzn qzm qzg qzl qzk qzf qke qxW qx8 qzd qz6 (TV.i .i64 0))
 (True/\cg []/\True/\qwU qxT qzh qzp qzo qxY qzn qzm qzg qzl qzk qzf qke qxW qx8 qzd qz6 (TV.i .i64 0)))
 (True/\qwU qxT qzh qzp qzo qxY qzn qzm qzg qzl qzk qzf qke qxW qx8 qzd qz6 qvf))/\
 ∀qkr:TV,∀qkq:TV,∀qkT:List TV,∀qkS:List TV,∀qjL:TV,∀qkR:List TV,∀qkQ:List TV,∀qkp:TV,∀qkP:List TV,∀qkO:List TV,∀qko:TV,∀qje:TV,∀qjZ:TV,∀qjY:TV,∀qjX:TV,∀qjW:TV,∀qjV:TV,qwU qkr qkq qkT qkS qjL qkR qkQ qkp qkP qkO qko qje qjZ qjY qjX qjW qjV->∃qwT:TV->TV->List TV->List TV->TV->List TV->List TV->TV->List TV->List TV->TV->TV->TV->TV->TV->TV->TV->Prop,
 (∃qQt,fy (ct qje 0)=some qQt/\
 ∃qjC,bf .gtr qQt (TV.i .i64 7)=some qjC/\
 gd qjC false qjC false/\∃qQs,gV qjC false (fun r=>fy (ct qje 2)=some r) qQs/\
 ∃qQr,gV qjC false (fun r=>bf .gtr qQs (TV.i .i64 7)=some r) qQr/\
 ∃qQq,ij qjC (TV.b true) qQr=some qQq/\
 ak qQq
 (∃qQp,fy (ct qjL 7)=some qQp/\
 ∃qQo,bf .eql qQp (TV.i .i64 0)=some qQo/\
 ak qQo
 (∃qQn,aq qjL 7 1 (TV.i .i64 11)=some qQn/\
 True/\cg []/\qwT qkr qkq qkT qkS qQn qkR qkQ qkp qkP qkO qko qje qjZ qjY qjX qjW qjV)
 (True/\cg []/\qwT qkr qkq qkT qkS qjL qkR qkQ qkp qkP qkO qko qje qjZ qjY qjX qjW qjV))
 (qwT qkr qkq qkT qkS qjL qkR qkQ qkp qkP qkO qko qje qjZ qjY qjX qjW qjV))/\
 ∀qkn:TV,∀qkm:TV,∀qkN:List TV,∀qkM:List TV,∀qjd:TV,∀qkL:List TV,∀qkK:List TV,∀qkl:TV,∀qkJ:List TV,∀qkI:List TV,∀qjK:TV,∀qjJ:TV,∀qjU:TV,∀qjT:TV,∀qjS:TV,∀qjR:TV,∀qjA:TV,qwT qkn qkm qkN qkM qjd qkL qkK qkl qkJ qkI qjK qjJ qjU qjT qjS qjR qjA->∃qwS:TV->TV->List TV->List TV->TV->List TV->List TV->TV->List TV->List TV->TV->TV->TV->TV->TV->TV->TV->Prop,
 (∃qQm,fy (ct qjd 7)=some qQm/\
 ∃qxO,bf .eql qQm (TV.i .i64 0)=some qxO/\
 gd qxO true qxO true/\∃qQl,gV qxO true (fun r=>fy (ct qjJ 0)=some r) qQl/\
 ∃qQk,gV qxO true (fun r=>some qjA=some r) qQk/\
 ∃qQj,(qxO=.b true->jm qQl 8=some qQj)/\
 gd qxO true qxO true/\∃qQi,(qxO=.b true->jm qQk 4=some qQi)/\
 gd qxO true qxO true/\∃qQh,gV qxO true (fun r=>gY qjK ((0+qQj*4)+qQi*1) none=some r) qQh/\
 ∃qQg,gV qxO true (fun r=>bf .gtr qQh (TV.i .i64 0)=some r) qQg/\
 ∃qQf,ij qxO qQg (TV.b false)=some qQf/\
 ak qQf
 (∃qQe,fy (ct qjd 7)=some qQe/\
 ∃qQd,bf .eql qQe (TV.i .i64 0)=some qQd/\
 ak qQd
 (∃qQc,aq qjd 7 1 (TV.i .i64 7)=some qQc/\
 True/\cg []/\qwS qkn qkm qkN qkM qQc qkL qkK qkl qkJ qkI qjK qjJ qjU qjT qjS qjR qjA)
 (True/\cg []/\qwS qkn qkm qkN qkM qjd qkL qkK qkl qkJ qkI qjK qjJ qjU qjT qjS qjR qjA))
 (qwS qkn qkm qkN qkM qjd qkL qkK qkl qkJ qkI qjK qjJ qjU qjT qjS qjR qjA))/\
 ∀qwz:TV,∀qwy:TV,∀qwG:List TV,∀qwF:List TV,∀qkk:TV,∀qwE:List TV,∀qwD:List TV,∀qwx:TV,∀qwC:List TV,∀qwB:List TV,∀qww:TV,∀qjI:TV,∀qwu:TV,∀qwt:TV,∀qws:TV,∀qwr:TV,∀qwW:TV,qwS qwz qwy qwG qwF qkk qwE qwD qwx qwC qwB qww qjI qwu qwt qws qwr qwW->∃qQb,fy (ct qkk 7)=some qQb/\
 ∃qQa,bf .eql qQb (TV.i .i64 0)=some qQa/\
 ak qQa
 (∃qy9,fy (ct qjI 0)=some qy9/\
 ∃qy8,fy (ct qjI 2)=some qy8/\
 ∃qy7,bf .add qy8 (TV.i .i64 1)=some qy7/\
 ∃qy6,jm qy9 8=some qy6/\
 ∃qy5,jm qwW 4=some qy5/\
 ∃qy4,aq qww ((0+qy6*4)+qy5*1) 1 qy7=some qy4/\
 ∃qy3,fy (ct qjI 0)=some qy3/\
 ∃qy2,fy (ct qjI 2)=some qy2/\
 ∃qy1,zw true [qws,qy3,qy2]=some qy1/\
 ∃qy0,bf .add qwr (TV.i .i64 1)=some qy0/\
 ∃qkw,qkw < qks/\qwV qkw qwz qwy qwG qwF qkk qwE qwD qwx qwC qwB qy4 qwu qwt qy1 qy0)
 (∃qyZ,bf .add qwr (TV.i .i64 1)=some qyZ/\
 ∃qkw,qkw < qks/\qwV qkw qwz qwy qwG qwF qkk qwE qwD qwx qwC qwB qww qwu qwt qws qyZ))
 (∃qjw:Nat->TV->TV->List TV->List TV->TV->List TV->List TV->TV->List TV->List TV->TV->TV->TV->TV->TV->Prop,(∃qzj,qjw qzj qxT qzh qzp qzo qxY qzn qzm qzg qzl qzk qzf qxW qx8 qzd (TV.i .i64 0))/\∀qzj:Nat,
 ∀qzK:TV,∀qzJ:TV,∀qzW:List TV,∀qzV:List TV,∀qzI:TV,∀qzU:List TV,∀qzT:List TV,∀qzH:TV,∀qzS:List TV,∀qzR:List TV,∀qjH:TV,∀qzB:TV,∀qjz:TV,∀qzA:TV,∀qzz:TV,qjw qzj qzK qzJ qzW qzV qzI qzU qzT qzH qzS qzR qjH qzB qjz qzA qzz->
 ∃qkd,bf .leq qzz qzA=some qkd/\
 ak qkd
 (∃qjv:Nat->TV->TV->List TV->List TV->TV->List TV->List TV->TV->List TV->List TV->TV->TV->TV->TV->TV->List TV->TV->Prop,(∃qzi,qjv qzi qzK qzJ qzW qzV qzI qzU qzT qzH qzS qzR qjH qzB qjz qzA qzz [] (TV.i .i64 0))/\∀qzi:Nat,
 ∀qzG:TV,∀qzF:TV,∀qzQ:List TV,∀qzP:List TV,∀qzE:TV,∀qzO:List TV,∀qzN:List TV,∀qzD:TV,∀qxy:List TV,∀qzM:List TV,∀qzb:TV,∀qzy:TV,∀qxN:TV,∀qzx:TV,∀qx7:TV,∀qzL:List TV,∀qx6:TV,qjv qzi qzG qzF qzQ qzP qzE qzO qzN qzD qxy qzM qzb qzy qxN qzx qx7 qzL qx6->
 ∃qkc,jm qxN (List.length qxy)=some qkc/\
 ∃qkb,zb qxy qkc 4 none=some qkb/\
 ∃qka,bf .lss qx6 qkb=some qka/\
 ak qka
 (∃qj9,jm qx7 8=some qj9/\
 ∃qj8,jm qx6 4=some qj8/\
 ∃qj7,gY qzb ((0+qj9*4)+qj8*1) none=some qj7/\
 ∃qja,bf .sub qj7 (TV.i .i64 1)=some qja/\
 (Nat.beq 0 (0*1)&&Nat.beq 1 1)=true/\cw 1 qja/\
 ∃qz9,ef (TV.l [qja])=some qz9/\gk 1 qz9/\
 ∃qj6,ga 8 qzL qz9=some qj6/\
 ∃qj5,bf .add qx6 (TV.i .i64 1)=some qj5/\
 ∃qku,qku < qzi/\qjv qku qzG qzF qzQ qzP qzE qzO qzN qzD qxy qzM qzb qzy qxN qzx qx7 qj6 qj5)
 (∃qxD,jm qxN (List.length qxy)=some qxD/\
 ∃qva,qxy[qxD]?=some qva/\
 (Nat.beq 0 (0*1)&&Nat.beq 1 1)=true/\true=true/\1=1/\∃qz8,ef (TV.l [(TV.l qzL)])=some qz8/\gk 1 qz8/\
 ∃qj4,AX qxy qxD 5=some qj4/\
 ∃qj3,ga 24 qj4 qz8=some qj3/\
 ∃qz7,jm qxN (List.length qxy)=some qz7/\
 qxD=qxD/\qxD=qxD/\qxD=qz7/\∃qj2,jn qxy qz7 5 1 (TV.l qj3)=some qj2/\
 ∃qj1,bf .add qx7 (TV.i .i64 1)=some qj1/\
 ∃qkv,qkv < qzj/\qjw qkv qzG qzF qzQ qzP qzE qzO qzN qzD qj2 qzM qzb qzy qxN qzx qj1))
 (∃qj0,bf .add qzB (TV.i .i64 1)=some qj0/\
 ∃qkx,qkx < qkt/\qwq qkx qzK qzJ qzW qzV qzI qzU qzT qzH qzS qzR qj0)):=by
 subst e2 e3;have hrl:=hz.rules;have qq9:=lM (f:=O9) hi;have hmv:=hz.l_ _ (qqj hi);have qwL:=hok _ (qqj hi);generalize sy.rules[i]=ru at qq9 hmv qwL;have idx:(jh (.l (sy.rules.map O9)) (ii i)=some (O9 ru)/\cw 2 (O9 ru)):=⟨bq qq9,Gn ru⟩;refine⟨fun n o1 o2 l1 l2 o3 l3 l4 o4 l5 l6 a x1 x2 x3 x4=>∃(k:Nat) (top:Int) (arr:List Int),k<=ru.l_.length/\n=ru.l_.length - k/\0<=top/\top<=7/\Ar8 arr/\a=.a (arr.map ii)/\x1=ii i/\x2=ii j/\x3=ii top/\x4=ii k/\Dx sy (PR sy j 0) T4 o1 o2 l1 l2 o3 l3 l4 o4 l5 l6,
  ⟨_,0,0,List.replicate 32 0,qqS _,rfl,by omega,by omega,⟨by simp,fun x hx=>by rw [List.eq_of_mem_replicate hx];omega⟩,rfl,rfl,rfl,rfl,rfl,h⟩,?_⟩
 clear h;rintro n qxT qzh qzp qzo qxY qzn qzm qzg qzl qzk qzf qxW qx8 qzd qz6 ⟨k,top,arr,hk,rfl,ht0,ht7,ha,rfl,rfl,rfl,rfl,rfl,M,E,nms,prs,cs,ps,rfl,rfl,rfl,rfl,rfl,hc,hM,rfl,rfl,rfl,rfl,rfl,hP,_⟩;refine⟨_,rfl,_,idx,_,rfl,_,rfl,Ii M E (fun hkl hE=>?_) (fun hno=>?_)⟩
 ·rw [qql] at hkl;have hgm:=lM (f:=Rz) hkl;have hom:=qwL _ (qqj hkl);generalize ru.l_[k]=mo at hgm hom;have hjl:j < sy.au.length:=by obtain⟨_,hR,ch,hch,_⟩:=hP;rw [←hR.1];exact(qqb.1 hch).1
  have hgc:=lM (f:=v_) hjl;have htl:=hP.2.1.2.1 _ (qqj hjl);generalize sy.au[j]=nc at hgc htl;refine⟨_,rfl,_,idx,_,rfl,_,⟨bq hgm,Ry mo⟩,Rz mo,rfl,Rz mo,rfl,?_⟩;refine⟨fun o1 o2 l1 l2 o3 l3 l4 o4 l5 l6 a q x1 x2 x3 x4 x5=>∃t:Int,a=.a (arr.map ii)/\q=Rz mo/\x1=ii i/\x2=ii j/\x3=ii top/\x4=ii k/\x5=ii t/\Dx sy (PR sy j 0) (fun _ _ _ _=>0<=t/\t < 4) o1 o2 l1 l2 o3 l3 l4 o4 l5 l6,?_,?_⟩
  ·refine⟨_,rfl,_,⟨bq hgc,Dm nc⟩,_,rfl,_,rfl,rq (LQ nc.tags mo.tag (by omega)) ?_⟩;rintro r ⟨m,rfl,hm1,hm2⟩;exact⟨trivial,E8 M E 8 m (by decide) (fun E' hE'=>⟨0,rfl,rfl,rfl,rfl,rfl,rfl,rfl,iy hc hM hP (fun h0=>absurd h0 hE')⟩) (fun hm=>⟨m,rfl,rfl,rfl,rfl,rfl,rfl,rfl,iy hc hM hP (fun _=>⟨hm,by omega⟩)⟩)⟩
  clear hP hc hM hE;rintro qkr qkq qkT qkS qjL qkR qkQ qkp qkP qkO qko qje qjZ qjY qjX qjW qjV ⟨t,rfl,rfl,rfl,rfl,rfl,rfl,rfl,M,E,nms,prs,cs,ps,rfl,rfl,rfl,rfl,rfl,hc,hM,rfl,rfl,rfl,rfl,rfl,hP,hR⟩;refine⟨fun o1 o2 l1 l2 o3 l3 l4 o4 l5 l6 a q x1 x2 x3 x4 x5=>a=.a (arr.map ii)/\q=Rz mo/\x1=ii i/\x2=ii j/\x3=ii top/\x4=ii k/\x5=ii t/\Dx sy (PR sy j 0) (fun _ _ _ _=>(0<=t/\t < 4)/\mo.src<=7/\mo.dst<=7) o1 o2 l1 l2 o3 l3 l4 o4 l5 l6,?_,?_⟩
  ·refine⟨_,rfl,_,rfl,rfl,gO _ (fun h=>rfl) (gO _ (fun h=>by rw [h];rfl) (IG (aa (fun _=>td M E 11 (by decide) (fun E' hE'=>⟨rfl,rfl,rfl,rfl,rfl,rfl,rfl,iy hc hM hP (fun h0=>absurd h0 hE')⟩)) (fun h=>⟨rfl,rfl,rfl,rfl,rfl,rfl,rfl,iy hc hM hP (fun h0=>⟨hR h0,?_⟩)⟩))))⟩;simp only [c_,Bool.or_eq_false_iff,qqJ] at h;omega
  clear hP hc hM hR;rintro qkn qkm qkN qkM qjd qkL qkK qkl qkJ qkI qjK qjJ qjU qjT qjS qjR qjA ⟨rfl,rfl,rfl,rfl,rfl,rfl,rfl,M,E,nms,prs,cs,ps,rfl,rfl,rfl,rfl,rfl,hc,hM,rfl,rfl,rfl,rfl,rfl,hP,hR⟩;refine⟨fun o1 o2 l1 l2 o3 l3 l4 o4 l5 l6 a q x1 x2 x3 x4 x5=>a=.a (arr.map ii)/\q=Rz mo/\x1=ii i/\x2=ii j/\x3=ii top/\x4=ii k/\x5=ii t/\Dx sy (PR sy j 0) (fun _ _ _ _=>(0<=t/\t < 4)/\mo.src<=7/\mo.dst<=7) o1 o2 l1 l2 o3 l3 l4 o4 l5 l6,?_,?_⟩
  ·by_cases hE:E=0
   ·obtain⟨⟨qvO,ht4⟩,hs,hd⟩:=hR hE;obtain⟨hs0,hd0⟩:=hom;obtain⟨x,_,hx,_,_⟩:=Uf ha (q:=(0+mo.src.toNat*4)+t.toNat*1) (by omega);refine⟨_,rfl,.b true,ZW hE,rfl,bg rfl rfl (bg rfl rfl ⟨mo.src.toNat,fun _=>QV hs0 (by omega),rfl,t.toNat,fun _=>QV qvO (by omega),rfl,bg rfl hx (bg rfl rfl ⟨_,rfl,aa (fun _=>td M E 7 (by decide) (fun E' hE'=>⟨rfl,rfl,rfl,rfl,rfl,rfl,rfl,iy hc hM hP (fun h0=>absurd h0 hE')⟩)) (fun _=>⟨rfl,rfl,rfl,rfl,rfl,rfl,rfl,iy hc hM hP hR⟩)⟩)⟩)⟩
   ·refine⟨_,rfl,.b false,ZX hE,rfl,cr rfl (cr rfl ⟨0,(fun h=>by cases h),rfl,0,(fun h=>by cases h),rfl,cr rfl (cr rfl ⟨_,rfl,a_ rfl ⟨rfl,rfl,rfl,rfl,rfl,rfl,rfl,iy hc hM hP hR⟩⟩)⟩)⟩
  clear hP hc hM hR;rintro qwz qwy qwG qwF qkk qwE qwD qwx qwC qwB qww qjI qwu qwt qws qwr qwW ⟨rfl,rfl,rfl,rfl,rfl,rfl,rfl,M,E,nms,prs,cs,ps,rfl,rfl,rfl,rfl,rfl,hc,hM,rfl,rfl,rfl,rfl,rfl,hP,hR⟩;refine⟨_,rfl,_,rfl,aa (fun h=>?_) (fun h=>?_)⟩
  ·have hE:E=0:=by rw [bp] at h;exact of_decide_eq_true h
   obtain⟨⟨qvO,ht4⟩,hs,hd⟩:=hR hE;obtain⟨hs0,hd0⟩:=hom;obtain⟨m,hm,hm'⟩:=mxm top mo.src mo.dst;have hq:(0+mo.src.toNat*4)+t.toNat*1 < arr.length:=by rw [ha.1];omega
   refine⟨_,rfl,_,rfl,_,Lk (by omega) (by omega),_,QV hs0 (by omega),_,QV qvO (by omega),_,VH hq _,_,rfl,_,rfl,_,hm,_,bn hkl (by omega),_,?_,k+1,m,arr.set ((0+mo.src.toNat*4)+t.toNat*1) (mo.dst+1),by omega,rfl,by omega,by omega,⟨by rw [qqs];exact ha.1,fun x hx=>?_⟩,rfl,rfl,rfl,rfl,rfl,iy hc hM hP (fun _=>trivial)⟩
   ·omega
   ·rcases List.mem_or_eq_of_mem_set hx with hx|rfl
    ·exact ha.2 x hx
    ·omega
  ·exact⟨_,bn hkl (by omega),_,by omega,k+1,top,arr,by omega,rfl,ht0,ht7,ha,rfl,rfl,rfl,rfl,rfl,iy hc hM hP (fun _=>trivial)⟩
 ·exact Ok sy i j (by omega) top ht0 ht7 arr ha (iy hc hM hP (fun _=>trivial)) rfl rfl rfl rfl hI
end Go.Ax.dg
set_option maxRecDepth 100000
namespace Go.Ax.dg
open Go Go.Ax Go.Ax.V Go.Ax.Ft
def PA (sy:Ef) (k:Nat) (nms prs:List ByteArray) (cs:List Ch) (ps:List Pr):Prop:=nms.length=k/\cs.length=k/\k<=sy.au.length/\prs=[]/\ps=[]/\∀c∈cs,c.rule=[]
def RA (sy:Ef) (k:Nat) (nms prs:List ByteArray) (cs:List Ch) (ps:List Pr):Prop:=(∀nc∈sy.au.take k,nc.tags.length<=4)/\∀c∈cs,c.tags<=4
def P3 (sy:Ef) (nms prs:List ByteArray) (cs:List Ch) (ps:List Pr):Prop:=nms.length=cs.length/\cs.length<=sy.au.length/\prs.length<=4194304/\ps=[]/\∀c∈cs,c.rule=[]
theorem P3.P4 {sy:Ef} {nms prs:List ByteArray} {cs:List Ch} {ps:List Pr} (h:P3 sy nms prs cs ps):P4 sy nms prs cs ps:=
 ⟨h.1,h.2.1,h.2.2.1,h.2.2.2.1,fun c hc=>by rw [h.2.2.2.2 c hc];exact⟨qqS _,fun r hr=>by cases hr⟩⟩
theorem P4.PF {B:Nat} {sy:Ef} (hz:Jp sy) {nms prs:List ByteArray} {cs:List Ch} {ps:List Pr} (h:P4 sy nms prs cs ps):PFk B sy 0 nms prs cs ps:=by have:=hz.au;obtain⟨h1,h2,h3,rfl,h5⟩:=h;exact⟨⟨by omega,h3,by omega,h5⟩,rfl,fun x hx=>by cases hx⟩
theorem M5 {cs:List Ch} {j:Nat} {ch:Ch} (h:cs[j]?=some ch) (r:Int):jn (cs.map c8) j 2 1 (ii r)=some ((cs.set j {ch with src:=r}).map c8):=by unfold jn;rw [qqe,h,List.map_set];rfl
theorem M6 {cs:List Ch} {j:Nat} {ch:Ch} (h:cs[j]?=some ch) (r:Int):jn (cs.map c8) j 3 1 (ii r)=some ((cs.set j {ch with dst:=r}).map c8):=by unfold jn;rw [qqe,h,List.map_set];rfl
theorem P3.set {sy:Ef} {nms prs:List ByteArray} {cs:List Ch} {ps:List Pr} (h:P3 sy nms prs cs ps) {j:Nat} {ch ch':Ch} (hj:cs[j]?=some ch) (hr:ch'.rule=ch.rule):P3 sy nms prs (cs.set j ch') ps:=by
 obtain⟨h1,h2,h3,h4,h5⟩:=h;refine⟨by rw [qqs];exact h1,by rw [qqs];exact h2,h3,h4,fun c hc=>?_⟩;rcases List.mem_or_eq_of_mem_set hc with hc|rfl
 ·exact h5 c hc
 ·rw [hr];exact h5 ch (qqi hj)
theorem R1.set {sy:Ef} {nms prs:List ByteArray} {cs:List Ch} {ps:List Pr} (h:R1 sy nms prs cs ps) {j:Nat} {ch ch':Ch} (hj:cs[j]?=some ch) (hr:ch'.tags=ch.tags):R1 sy nms prs (cs.set j ch') ps:=by
 obtain⟨h1,h2,h3⟩:=h;refine⟨by rw [qqs];exact h1,h2,fun c hc=>?_⟩;rcases List.mem_or_eq_of_mem_set hc with hc|rfl
 ·exact h3 c hc
 ·rw [hr];exact h3 ch (qqi hj)
theorem s49B (sy:Ef) (hz:Jp sy) {B:Nat} (hB:∀p∈sy.procs,kj p.body<=B) (hB2:B<=4194304):VS prog 49 [Dk sy] (fun r=>∃(p:Pg) (e:Int),r=.tp [gb p,ii e]/\(e=0->Aw p/\∀x∈p.procs,fq x.body<=B)):=by
 have hzc:=hz.au;have hzp:=hz.procs;have hzr:=hz.rules;refine vs49 _ _ ?_;unfold W49;refine⟨rfl,_,rfl,rq (s67 sy hz) ?_⟩;rintro r ⟨b,rfl,hb⟩;refine⟨trivial,_,gp _,aa (fun h=>?_) (fun h=>?_)⟩
 ·exact⟨_,rfl,trivial,_,rfl,_,rfl,gb ⟨[],[]⟩,rfl,DB rfl rfl,⟨[],[]⟩,5,rfl,fun h=>absurd h (by decide)⟩
 have hok:=hb (by simpa using h);clear hb h;have hM0:Ln ⟨sy.au,.l (sy.rules.map O9),.l (sy.procs.map NQ),0,.l [],[]⟩:=⟨rfl,qqS _,hz.tags,hz.au⟩;have hA0:PA sy 0 [] [] [] []:=⟨rfl,rfl,qqS _,rfl,rfl,fun c hc=>by cases hc⟩;have hR0:RA sy 0 [] [] [] []:=⟨fun c hc=>by simp at hc,fun c hc=>by cases hc⟩;refine⟨_,rfl,_,rfl,rfl,oM ⟨sy.au,.l (sy.rules.map O9),.l (sy.procs.map NQ),0,.l [],[]⟩ 0,rfl,?_⟩;refine⟨Dx sy (PA sy 0) (RA sy 0),⟨_,rfl,_,rfl,_,rfl,aa (fun _=>td _ 0 10 (by decide) (fun E' _=>iy (prs:=[]) (nms:=[]) (cs:=[]) (ps:=[]) rfl hM0 hA0 (fun _=>hR0))) (fun _=>iy (prs:=[]) (nms:=[]) (cs:=[]) (ps:=[]) rfl hM0 hA0 (fun _=>hR0))⟩,?_⟩;clear hM0 hA0 hR0;intro o28 o29 l30 l31 o32 l33 l34 o35 l36 l37 h;refine⟨fun n o1 o2 l1 l2 o3 l3 l4 o4 l5 l6 x=>∃k:Nat,k<=sy.au.length/\n=sy.au.length - k/\x=ii k/\Dx sy (PA sy k) (RA sy k) o1 o2 l1 l2 o3 l3 l4 o4 l5 l6,⟨_,0,qqS _,rfl,rfl,h⟩,?_⟩;clear h;rintro n o41 o42 l43 l44 o45 l46 l47 o48 l49 l50 x51 ⟨k,hk,rfl,rfl,M,E,nms,prs,cs,ps,rfl,rfl,rfl,rfl,rfl,hc,hM,rfl,rfl,rfl,rfl,rfl,hP,hR⟩;refine⟨_,rfl,_,rfl,Ii M E (fun hkl hE=>?_) (fun hno=>?_)⟩
 ·rw [qql] at hkl;have qq9:=lM (f:=v_) hkl;have htl:=hz.tags _ (qqj hkl);have hsn:sy.au[k]?=some sy.au[k]:=qqa hkl;generalize sy.au[k]=c at qq9 htl hsn;refine⟨_,rfl,_,⟨bq qq9,Dm c⟩,v_ c,rfl,v_ c,rfl,?_⟩;refine⟨fun o1 o2 l1 l2 o3 l3 l4 o4 l5 l6 q x=>q=v_ c/\x=ii k/\Dx sy (PA sy k) (RA sy k) o1 o2 l1 l2 o3 l3 l4 o4 l5 l6,?_,?_⟩
  ·refine⟨_,rfl,(LQ nms c.nm (by rw [hP.1];omega)).mono ?_⟩;rintro r ⟨m,rfl,_,_⟩;exact⟨rfl,_,rfl,aa (fun _=>td M E 7 (by decide) (fun E' hE'=>⟨rfl,rfl,iy hc hM hP (fun h0=>absurd h0 hE')⟩)) (fun _=>⟨rfl,rfl,iy hc hM hP hR⟩)⟩
  clear hP hc hM hE hR;rintro o81 o82 l83 l84 o85 l86 l87 o88 l89 l90 o91 x92 ⟨rfl,rfl,M,E,nms,prs,cs,ps,rfl,rfl,rfl,rfl,rfl,hc,hM,rfl,rfl,rfl,rfl,rfl,hP,hR⟩;refine⟨fun o1 o2 l1 l2 o3 l3 l4 o4 l5 l6 q x=>q=v_ c/\x=ii k/\Dx sy (PA sy k) (fun a b d e=>RA sy k a b d e/\c.tags.length<=4) o1 o2 l1 l2 o3 l3 l4 o4 l5 l6,?_,?_⟩
  ·refine⟨_,rfl,_,rfl,rfl,gO _ (fun h=>rfl) (gO _ (fun h=>by rw [h];rfl) (IG ⟨rfl,gO _ (fun h=>rfl) (gO _ (fun h=>by rw [h];rfl) (gO _ (fun h=>by rw [h];rfl) (IG (aa (fun _=>td M E 10 (by decide) (fun E' hE'=>⟨rfl,rfl,iy hc hM hP (fun h0=>absurd h0 hE')⟩)) (fun h=>⟨rfl,rfl,iy hc hM hP (fun h0=>⟨hR h0,?_⟩)⟩)))))⟩))⟩;simp only [c_,Bool.or_eq_false_iff,qqJ,qql] at h;omega
  clear hP hc hM hR;rintro o118 o119 l120 l121 o122 l123 l124 o125 l126 l127 o128 x129 ⟨rfl,rfl,M,E,nms,prs,cs,ps,rfl,rfl,rfl,rfl,rfl,hc,hM,rfl,rfl,rfl,rfl,rfl,hP,hR⟩;refine⟨fun o1 o2 l1 l2 o3 l3 l4 o4 l5 l6 q x=>q=v_ c/\x=ii k/\Dx sy (PA sy k) (fun a b d e=>RA sy k a b d e/\c.tags.length<=4) o1 o2 l1 l2 o3 l3 l4 o4 l5 l6,?_,?_⟩
  ·exact⟨_,rfl,Ul (s70 c.tags htl) (fun b=>aa (fun _=>td M E 7 (by decide) (fun E' hE'=>⟨rfl,rfl,iy hc hM hP (fun h0=>absurd h0 hE')⟩)) (fun _=>⟨rfl,rfl,iy hc hM hP hR⟩))⟩
  clear hP hc hM hR;rintro o141 o142 l143 l144 o145 l146 l147 o148 l149 l150 o151 x152 ⟨rfl,rfl,M,E,nms,prs,cs,ps,rfl,rfl,rfl,rfl,rfl,hc,hM,rfl,rfl,rfl,rfl,rfl,⟨hn,hcl,hkn,hpr,hps,hrl⟩,hR⟩;refine⟨_,rfl,rfl,rfl,_,rfl,rfl,strs (nms++[c.nm]),?_,oM M E,rfl,_,rfl,_,rfl,_,rfl,_,rfl,_,rfl,_,rfl,_,rfl,rfl,c8 ⟨c.kind,c.size,0,0,((c.tags.map ss).length:Nat),[]⟩,rfl,(cs++[Ch.mk c.kind c.size 0 0 ((c.tags.map ss).length:Nat) []]).map c8,?_,Z2,rfl,_,bn hkl (by omega),_,?_,k+1,by omega,rfl,rfl,iy hc hM ⟨by simp [hn],by simp [hcl],by omega,hpr,hps,?_⟩ (fun h0=>⟨?_,?_⟩)⟩
  ·rw [n_ (by rw [o_];simp only [qqq,most];omega) (by rw [o_];simp only [qqq,most];omega)];simp [strs]
  ·rw [n_ (by simp only [qql,qqq,most];omega) (by simp only [qql,qqq,most];omega)];simp
  ·omega
  ·intro x hx;rcases qqx.1 hx with hx|hx
   ·exact hrl x hx
   ·rw [qqy.1 hx]
  ·intro x hx;rw [←jo hsn] at hx;rcases qqx.1 hx with hx|hx
   ·exact(hR h0).1.1 x hx
   ·rw [qqy.1 hx];exact(hR h0).2
  ·intro x hx;rcases qqx.1 hx with hx|hx
   ·exact(hR h0).1.2 x hx
   ·rw [qqy.1 hx];have:=(hR h0).2;show (((c.tags.map ss).length:Nat):Int)<=4;rw [qql];omega
 have hP':nms.length=cs.length/\cs.length<=sy.au.length/\prs=[]/\ps=[]/\∀c∈cs,c.rule=[]:=by obtain⟨hn,hcl,hkn,hpr,hps,hrl⟩:=hP;exact⟨by omega,by omega,hpr,hps,hrl⟩
 have hR':E=0->R1 sy nms prs cs ps:=fun h0=>by
  obtain⟨hn,hcl,hkn,hpr,hps,hrl⟩:=hP;have hke:k=sy.au.length:=by
   rw [qql] at hno;have:¬k < sy.au.length:=fun h1=>hno ⟨h1,h0⟩
   omega
  obtain⟨h1,h2⟩:=hR h0;rw [hke,qqt] at h1;exact⟨by omega,h1,h2⟩
 clear hP hR hno hk;refine⟨Dx sy (fun nms prs cs ps=>nms.length=cs.length/\cs.length<=sy.au.length/\prs=[]/\ps=[]/\∀c∈cs,c.rule=[]) (R1 sy),?_,?_⟩
 ·exact⟨_,rfl,_,rfl,_,rfl,rfl,gO _ (fun h=>rfl) (gO _ (fun h=>by rw [h];rfl) (gO _ (fun h=>by rw [h];rfl) (IG (aa (fun _=>td M E 10 (by decide) (fun E' hE'=>iy hc hM hP' (fun h0=>absurd h0 hE'))) (fun h=>iy hc hM hP' hR')))))⟩
 clear hP' hR' hc hM;rintro o189 o190 l191 l192 o193 l194 l195 o196 l197 l198 ⟨M,E,nms,prs,cs,ps,rfl,rfl,rfl,rfl,rfl,hc,hM,rfl,rfl,rfl,rfl,rfl,⟨h1,h2,rfl,h4,h5⟩,hR⟩;refine⟨fun n o1 o2 l1 l2 o3 l3 l4 o4 l5 l6 x=>∃k:Nat,k<=sy.procs.length/\n=sy.procs.length - k/\x=ii k/\Dx sy (fun nms prs cs ps=>prs.length=k/\P3 sy nms prs cs ps) (R1 sy) o1 o2 l1 l2 o3 l3 l4 o4 l5 l6,⟨_,0,qqS _,rfl,rfl,iy hc hM ⟨rfl,h1,h2,qqS _,h4,h5⟩ hR⟩,?_⟩;clear h1 h2 h4 h5 hR hc hM;rintro n o202 o203 l204 l205 o206 l207 l208 o209 l210 l211 x212 ⟨k,hk,rfl,rfl,M,E,nms,prs,cs,ps,rfl,rfl,rfl,rfl,rfl,hc,hM,rfl,rfl,rfl,rfl,rfl,⟨hpk,hP⟩,hR⟩;refine⟨_,rfl,_,rfl,Ii M E (fun hkl hE=>?_) (fun hno=>?_)⟩
 ·rw [qql] at hkl;have qq9:=lM (f:=NQ) hkl;generalize sy.procs[k]=x at qq9;refine⟨_,rfl,_,⟨bq qq9,MJ x⟩,_,rfl,rfl,rfl,_,rfl,rfl,strs (prs++[x.nm]),?_,oM M E,rfl,_,bn hkl (by omega),_,?_,k+1,by omega,rfl,rfl,iy hc hM ⟨by simp [hpk],hP.1,hP.2.1,by simp only [qqm,qqq];omega,hP.2.2.2⟩ hR⟩
  ·rw [n_ (by rw [o_];simp only [qqq,most];omega) (by rw [o_];simp only [qqq,most];omega)];simp [strs]
  ·omega
 clear hno hk hpk;refine⟨Dx sy (P3 sy) (R1 sy),?_,?_⟩
 ·refine vs_s (s70 prs hP.2.2.1) (fun b=>aa (fun _=>td M E 7 (by decide) (fun E' hE'=>iy hc hM hP (fun h0=>absurd h0 hE'))) (fun h=>iy hc hM hP hR))
 clear hP hR hc hM;intro o241 o242 l243 l244 o245 l246 l247 o248 l249 l250 h;refine⟨fun n o1 o2 l1 l2 o3 l3 l4 o4 l5 l6 x=>∃k:Nat,k<=sy.au.length/\n=sy.au.length - k/\x=ii k/\Dx sy (P3 sy) (R1 sy) o1 o2 l1 l2 o3 l3 l4 o4 l5 l6,⟨_,0,qqS _,rfl,rfl,h⟩,?_⟩;clear h;rintro n o254 o255 l256 l257 o258 l259 l260 o261 l262 l263 x264 ⟨k,hk,rfl,rfl,M,E,nms,prs,cs,ps,rfl,rfl,rfl,rfl,rfl,hc,hM,rfl,rfl,rfl,rfl,rfl,hP,hR⟩;refine⟨_,rfl,_,rfl,Ii M E (fun hkl hE=>?_) (fun hno=>?_)⟩
 ·rw [qql] at hkl;have qq9:=lM (f:=v_) hkl;generalize sy.au[k]=c at qq9;have idx:(jh (.l (sy.au.map v_)) (ii k)=some (v_ c)/\cw 6 (v_ c)):=⟨bq qq9,Dm c⟩;have hkc:k < cs.length:=by rw [(hR hE).1];exact hkl
  refine⟨fun o1 o2 l1 l2 o3 l3 l4 o4 l5 l6 x=>x=ii k/\Dx sy (fun nms prs cs ps=>k < cs.length/\P3 sy nms prs cs ps) (R1 sy) o1 o2 l1 l2 o3 l3 l4 o4 l5 l6,?_,?_⟩
  ·refine⟨_,rfl,_,idx,_,rfl,(LQ prs c.src hP.2.2.1).mono ?_⟩;rintro r ⟨m,rfl,_,_⟩;have hch:cs[k]?=some cs[k]:=qqa hkc;have hx:jm (ii k) (cs.map c8).length=some k:=vi (by rw [qql];exact hkc);exact⟨rfl,E8 M E 8 m (by decide) (fun E' hE'=>⟨k,hx,_,M5 hch 0,rfl,iy hc hM ⟨by rw [qqs];exact hkc,hP.set hch rfl⟩ (fun h0=>absurd h0 hE')⟩)
    (fun _=>⟨k,hx,_,M5 hch m,rfl,iy hc hM ⟨by rw [qqs];exact hkc,hP.set hch rfl⟩ (fun h0=>(hR h0).set hch rfl)⟩)⟩
  clear hP hR hc hM hkc hE;rintro qXm qXl qXy qXx o310 qXw qXv o313 l314 l315 x316 ⟨rfl,M,E,nms,prs,cs,ps,rfl,rfl,rfl,rfl,rfl,hc,hM,rfl,rfl,rfl,rfl,rfl,⟨hkc,hP⟩,hR⟩;refine⟨fun o1 o2 l1 l2 o3 l3 l4 o4 l5 l6 x=>x=ii k/\Dx sy (fun nms prs cs ps=>k < cs.length/\P3 sy nms prs cs ps) (R1 sy) o1 o2 l1 l2 o3 l3 l4 o4 l5 l6,?_,?_⟩
  ·refine⟨_,rfl,_,idx,_,rfl,(LQ prs c.dst hP.2.2.1).mono ?_⟩;rintro r ⟨m,rfl,_,_⟩;have hch:cs[k]?=some cs[k]:=qqa hkc;have hx:jm (ii k) (cs.map c8).length=some k:=vi (by rw [qql];exact hkc);exact⟨rfl,E8 M E 8 m (by decide) (fun E' hE'=>⟨k,hx,_,M6 hch 0,rfl,iy hc hM ⟨by rw [qqs];exact hkc,hP.set hch rfl⟩ (fun h0=>absurd h0 hE')⟩)
    (fun _=>⟨k,hx,_,M6 hch m,rfl,iy hc hM ⟨by rw [qqs];exact hkc,hP.set hch rfl⟩ (fun h0=>(hR h0).set hch rfl)⟩)⟩
  clear hP hR hc hM hkc;rintro o346 qXk qXu qXt qXj l351 qXs o353 qXr qXq x356 ⟨rfl,M,E,nms,prs,cs,ps,rfl,rfl,rfl,rfl,rfl,hc,hM,rfl,rfl,rfl,rfl,rfl,⟨hkc,hP⟩,hR⟩;have hch:cs[k]?=some cs[k]:=qqa hkc;have hx:jm (ii k) (cs.map c8).length=some k:=vi (by rw [qql];exact hkc);have l2:zb (cs.map c8) k 2 none=some (ii cs[k].src):=by unfold zb;rw [qqe,hch];rfl
  have l3:zb (cs.map c8) k 3 none=some (ii cs[k].dst):=by unfold zb;rw [qqe,hch];rfl
  exact⟨k,hx,_,l2,k,hx,_,l3,_,rfl,aa (fun _=>td M E 9 (by decide) (fun E' hE'=>⟨_,bn hkl (by omega),_,by omega,k+1,by omega,rfl,rfl,iy hc hM hP (fun h0=>absurd h0 hE')⟩)) (fun _=>⟨_,bn hkl (by omega),_,by omega,k+1,by omega,rfl,rfl,iy hc hM hP hR⟩)⟩
 clear hno hk;refine⟨fun n o1 o2 l1 l2 o3 l3 l4 o4 l5 l6 x=>∃k:Nat,k<=sy.rules.length/\n=sy.rules.length - k/\x=ii k/\Dx sy (P4 sy) (R1 sy) o1 o2 l1 l2 o3 l3 l4 o4 l5 l6,⟨_,0,qqS _,rfl,rfl,iy hc hM hP.P4 hR⟩,?_⟩;clear hP hR hc hM;rintro n qvq qvp qvI qvH qvo qvG qvF qvn qvE qvD x381 ⟨k,hk,rfl,rfl,M,E,nms,prs,cs,ps,rfl,rfl,rfl,rfl,rfl,hc,hM,rfl,rfl,rfl,rfl,rfl,hP,hR⟩;have hQ:∀(p:Pg) (e:Int),(e=0->Aw p/\∀x∈p.procs,fq x.body<=B)->(fun (r:TV)=>∃(p:Pg) (e:Int),r=.tp [gb p,ii e]/\(e=0->Aw p/\∀x∈p.procs,fq x.body<=B)) (.tp [gb p,ii e]):=fun p e h=>⟨p,e,rfl,h⟩
 refine⟨_,rfl,_,rfl,Ii M E (fun hkl hE=>?_) (fun hno=>?_)⟩
 ·rw [qql] at hkl;have qq9:=lM (f:=O9) hkl;generalize hru:sy.rules[k]=ru at qq9;have hR2:=hR hE;have hnl:nms.length<=4194304:=by rw [hP.1,hR2.1];exact hzc
  refine⟨fun o1 o2 l1 l2 o3 l3 l4 o4 l5 l6 x y=>∃c:Int,x=ii k/\y=ii c/\Dx sy (fun a b d e=>P4 sy a b d e/\R1 sy a b d e) (fun nms _ _ _=>0<=c/\c < nms.length) o1 o2 l1 l2 o3 l3 l4 o4 l5 l6,?_,?_⟩
  ·refine⟨_,rfl,_,⟨bq qq9,Gn ru⟩,_,rfl,(LQ nms ru.chan hnl).mono ?_⟩;rintro r ⟨m,rfl,hm1,hm2⟩;exact⟨rfl,E8 M E 8 m (by decide) (fun E' hE'=>⟨0,rfl,rfl,iy hc hM ⟨hP,hR2⟩ (fun h0=>absurd h0 hE')⟩) (fun hm=>⟨m,rfl,rfl,iy hc hM ⟨hP,hR2⟩ (fun h0=>⟨hm,hm2⟩)⟩)⟩
  clear hP hR hR2 hc hM hnl hE;rintro o411 o412 l413 l414 o415 l416 l417 o418 l419 l420 x421 x422 ⟨c,rfl,rfl,M,E,nms,prs,cs,ps,rfl,rfl,rfl,rfl,rfl,hc,hM,rfl,rfl,rfl,rfl,rfl,hP,hR⟩;refine⟨fun o1 o2 l1 l2 o3 l3 l4 o4 l5 l6 x y=>x=ii k/\y=ii c/\Dx sy (fun a b d e=>P4 sy a b d e/\R1 sy a b d e) (fun a b cs e=>0<=c/\∃ch,cs[c.toNat]?=some ch/\ch.rule.length=0) o1 o2 l1 l2 o3 l3 l4 o4 l5 l6,?_,?_⟩
  ·by_cases hE:E=0
   ·obtain⟨hc0,hcn⟩:=hR hE;have hcl:c.toNat < cs.length:=by rw [←hP.1.1];omega
    have hch:cs[c.toNat]?=some cs[c.toNat]:=qqa hcl;generalize cs[c.toNat]=ch at hch;have hln:QO (cs.map c8) c.toNat 5=some (ii (ch.rule.map lg).length):=by unfold QO;rw [Ud hch]
    refine⟨_,rfl,.b true,ZW hE,rfl,bg rfl rfl ⟨rfl,c.toNat,fun _=>QV hc0 (by rw [qql];exact hcl),rfl,rfl,_,fun _=>Ue hch,rfl,bg rfl hln (bg rfl rfl ⟨_,rfl,aa (fun _=>td M E 7 (by decide) (fun E' hE'=>⟨rfl,rfl,iy hc hM hP (fun h0=>absurd h0 hE')⟩)) (fun h=>⟨rfl,rfl,iy hc hM hP (fun _=>⟨hc0,ch,hch,?_⟩)⟩)⟩)⟩⟩;rw [qql,c_,qqJ] at h;omega
   ·exact⟨_,rfl,.b false,ZX hE,rfl,cr rfl ⟨rfl,0,(fun h=>by cases h),rfl,rfl,qi,(fun h=>by cases h),rfl,cr rfl (cr rfl ⟨_,rfl,a_ rfl ⟨rfl,rfl,iy hc hM hP (fun h0=>absurd h0 hE)⟩⟩)⟩⟩
  clear hP hR hc hM;rintro qvm qvl qvC qvB qvk qvA qvz qvj qvy qvx qwY qwX ⟨rfl,rfl,M,E,nms,prs,cs,ps,rfl,rfl,rfl,rfl,rfl,hc,hM,rfl,rfl,rfl,rfl,rfl,hP,hR⟩;refine⟨_,rfl,_,rfl,aa (fun h=>?_) (fun h=>?_)⟩
  ·exact KI sy hz hB hB2 (Q:=fun r=>∃(p:Pg) (e:Int),r=.tp [gb p,ii e]/\(e=0->Aw p/\∀x∈p.procs,fq x.body<=B)) hQ (iy hc hM (hP.1.PF hz) (fun _=>trivial))
  ·have hE:E=0:=by have h':(!nk E 0)=false:=h;rw [bp] at h';simpa using h'
   obtain⟨hc0,ch,hch,hrn⟩:=hR hE;have hcc:ii c=ii (c.toNat:Int):=by rw [qqP hc0]
   exact Oj sy hz k c.toNat hkl hok (iy hc hM ⟨hP.1,hP.2,ch,hch,hrn⟩ (fun _=>trivial)) rfl hcc (fun o1 o2 l1 l2 o3 l3 l4 o4 l5 l6 hs=>⟨_,by omega,k+1,by omega,rfl,rfl,hs⟩)
 ·exact KI sy hz hB hB2 (Q:=fun r=>∃(p:Pg) (e:Int),r=.tp [gb p,ii e]/\(e=0->Aw p/\∀x∈p.procs,fq x.body<=B)) hQ (iy hc hM (hP.PF hz) (fun _=>trivial))
end Go.Ax.dg
end
