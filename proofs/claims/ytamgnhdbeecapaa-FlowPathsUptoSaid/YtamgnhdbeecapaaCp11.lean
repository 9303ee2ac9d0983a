/- Part 11 of the proof: LpFc, LpFd, LpFe, LpFg, LpFh, LpFi, LpFn, LpFy, LpFz, LpGa, LpGb, LpGd, LpFm, LpPa, LpPh, LpPj, LpPb, LpPc, LpPd, LpPe, LpPf, LpPg, LpPi, LpPk, LpPl, LpPm. -/
import Derived.Test.YtamgnhdbeecapaaCp8
import Derived.Test.YtamgnhdbeecapaaCp10

set_option maxRecDepth 100000
namespace Go.Ax.eo
open Go Go.Ax Go.Ax.V Go.Ax.Ft
theorem oq (n lo hi:Int):VS prog 81 [ii n,ii lo,ii hi] (fun r=>r=.b (within n lo hi)):=by
 refine vs81 _ _ _ _ ?_
 unfold W81
 refine⟨_,S4 _ _,?_⟩
 refine gB _ (fun h=>by rfl) ?_
 refine gB _ (fun h=>by rfl) ?_
 refine gB _ (fun h=>by rw [h];exact Mz _ _) (jt ⟨trivial,trivial,?_⟩)
 rw [lS,lS,Jy,Jy]
 rfl
theorem mb {α:Type} (l:List α):decide ((l.length:Int)=0)=l.isEmpty:=by cases l<;>simp<;>omega
theorem ql (l:List Ex):(o_ l).length=l.length:=by rw [mc,List.length_map]
theorem ja (l:List Sm):(gq l).length=l.length:=by rw [lE,List.length_map]
theorem ji (l:List Ar):(oC l).length=l.length:=by rw [oB,List.length_map]
theorem TD (e:Ex):VS prog 141 [q8 e] (fun r=>r=.b (Ld e)):=by
 cases e with
 |mk k n v ks=>
 refine Wx _ _ ?_
 unfold ZG
 (repeat (first|refine⟨rfl,?_⟩|refine⟨_,bq,?_⟩|refine⟨_,br,?_⟩|refine⟨_,rfl,?_⟩|refine⟨_,bg _,?_⟩|refine⟨_,⟨rfl,rfl⟩,?_⟩|refine nh ?_|refine m_ ?_|refine m9 ?_|refine m8 ?_|refine jt ?_|refine kq ?_|refine ni ?_|refine ng ?_))
 refine⟨trivial,trivial,?_⟩
 simp only [cz,ql,mb]
 rfl
theorem s142 (c:Co):VS prog 142 [LJ c] (fun r=>r=.b (Rm c)):=by
 obtain⟨op,l,r⟩:=c
 have hl:=TD l
 have hr:=TD r
 obtain⟨k1,n1,v1,ks1⟩:=l
 obtain⟨k2,n2,v2,ks2⟩:=r
 refine Ww _ _ ?_
 unfold ZF
 (repeat (first|refine⟨rfl,?_⟩|refine⟨_,bq,?_⟩|refine⟨_,br,?_⟩|refine⟨_,rfl,?_⟩|refine⟨_,bg _,?_⟩|refine⟨_,⟨rfl,rfl⟩,?_⟩|refine nh ?_|refine m_ ?_|refine m9 ?_|refine m8 ?_|refine jt ?_|refine kq ?_|refine bx hl ?_|refine bx hr ?_|refine ni ?_|refine gB _ (fun h=>by first|exact a_ hl|(rw [h];exact a_ hl)) ?_|refine gB _ (fun h=>by first|exact a_ hr|(rw [h];exact a_ hr)) ?_|refine ng ?_|refine gO _ (fun h=>by first|exact a_ hl|(rw [h];exact a_ hl)) ?_|refine gO _ (fun h=>by first|exact a_ hr|(rw [h];exact a_ hr)) ?_))
 refine⟨trivial,trivial,?_⟩
 simp only [cz]
 rfl
theorem OU (k:Int):VS prog 166 [ii k] (fun r=>r=ii (Fv k)):=by
 refine Wg _ _ ?_
 unfold Zq
 (repeat (first|refine⟨rfl,?_⟩|refine⟨_,bq,?_⟩|refine⟨_,br,?_⟩|refine⟨_,rfl,?_⟩|refine⟨_,bg _,?_⟩|refine⟨_,⟨rfl,rfl⟩,?_⟩|refine nh ?_|refine m_ ?_|refine m9 ?_|refine m8 ?_|refine jt ?_|refine kq ?_|refine ni ?_|refine ng ?_))
 refine aa (fun h=>?_) (fun h=>?_)
 ·refine⟨trivial,trivial,?_⟩
  simp only [cz,Bool.or_eq_true,decide_eq_true_eq] at h
  simp [Fv,h]
 simp only [cz,Bool.or_eq_false_iff,decide_eq_false_iff_not] at h
 (repeat (first|refine⟨rfl,?_⟩|refine⟨_,bq,?_⟩|refine⟨_,br,?_⟩|refine⟨_,rfl,?_⟩|refine⟨_,bg _,?_⟩|refine⟨_,⟨rfl,rfl⟩,?_⟩|refine nh ?_|refine m_ ?_|refine m9 ?_|refine m8 ?_|refine jt ?_|refine kq ?_|refine ni ?_|refine ng ?_))
 refine aa (fun h2=>?_) (fun h2=>?_)
 ·refine⟨trivial,trivial,?_⟩
  simp only [cz,decide_eq_true_eq] at h2
  simp [Fv,h,h2]
 simp only [cz,decide_eq_false_iff_not] at h2
 (repeat (first|refine⟨rfl,?_⟩|refine⟨_,bq,?_⟩|refine⟨_,br,?_⟩|refine⟨_,rfl,?_⟩|refine⟨_,bg _,?_⟩|refine⟨_,⟨rfl,rfl⟩,?_⟩|refine nh ?_|refine m_ ?_|refine m9 ?_|refine m8 ?_|refine jt ?_|refine kq ?_|refine bx (oq _ _ _) ?_|refine ni ?_|refine gB _ (fun h=>by first|exact a_ (oq _ _ _)|(rw [h];exact a_ (oq _ _ _))) ?_|refine ng ?_|refine gO _ (fun h=>by first|exact a_ (oq _ _ _)|(rw [h];exact a_ (oq _ _ _))) ?_))
 refine aa (fun h3=>?_) (fun h3=>?_)
 ·refine⟨trivial,trivial,?_⟩
  simp only [within,Bool.and_eq_true,decide_eq_true_eq] at h3
  simp [Fv,h,h2,h3]
 ·refine⟨trivial,trivial,?_⟩
  have h4:¬(4<=k/\k<=8):=by
   intro hc
   simp [within,hc.1,hc.2] at h3
  simp [Fv,h,h2,h4]
theorem RR (vars:Int) (hv:0<=vars/\vars<=6):∀(e:Ex),BF e<=4194304->VS prog 143 [q8 e,ii vars] (fun r=>r=.b (KB vars e))
 |.mk k n v ks,hB=>by
  have hks:qf ks<=4194304:=by simp only [BF] at hB;omega
  have hk:=Nat.le_trans (B9 ks) hks
  have ih:∀e∈ks,VS prog 143 [q8 e,ii vars] (fun r=>r=.b (KB vars e)):=fun e he=>RR vars hv e (Nat.le_trans (B8 he) hks)
  refine Wv _ _ _ ?_
  unfold ZE
  (repeat (first|refine⟨rfl,?_⟩|refine⟨_,bq,?_⟩|refine⟨_,br,?_⟩|refine⟨_,rfl,?_⟩|refine⟨_,bg _,?_⟩|refine⟨_,⟨rfl,rfl⟩,?_⟩|refine nh ?_|refine m_ ?_|refine m9 ?_|refine m8 ?_|refine jt ?_|refine kq ?_|refine bx (OU _) ?_|refine ni ?_|refine gB _ (fun h=>by first|exact a_ (OU _)|(rw [h];exact a_ (OU _))) ?_|refine ng ?_|refine gO _ (fun h=>by first|exact a_ (OU _)|(rw [h];exact a_ (OU _))) ?_))
  refine aa (fun h=>?_) (fun h=>?_)
  ·refine⟨trivial,trivial,?_⟩
   simp only [cz,ql,Bool.not_eq_true',decide_eq_false_iff_not] at h
   have h':¬Fv k=ks.length:=fun hc=>h hc.symm
   simp [KB,h']
  simp only [cz,ql,Bool.not_eq_false',decide_eq_true_eq] at h
  (repeat (first|refine⟨rfl,?_⟩|refine⟨_,bq,?_⟩|refine⟨_,br,?_⟩|refine⟨_,rfl,?_⟩|refine⟨_,bg _,?_⟩|refine⟨_,⟨rfl,rfl⟩,?_⟩|refine nh ?_|refine m_ ?_|refine m9 ?_|refine m8 ?_|refine jt ?_|refine kq ?_|refine bx (oq _ _ _) ?_|refine ni ?_|refine gB _ (fun h=>by first|exact a_ (oq _ _ _)|(rw [h];exact a_ (oq _ _ _))) ?_|refine ng ?_|refine gO _ (fun h=>by first|exact a_ (oq _ _ _)|(rw [h];exact a_ (oq _ _ _))) ?_|refine Um ?_|refine gOB _ (fun h h'=>by rw [h,h'];exact a_ (oq _ _ _)) ?_|refine Ul ?_|refine gOO _ (fun h h'=>by rw [h,h'];exact a_ (oq _ _ _)) ?_|refine Uo ?_|refine gBB _ (fun h h'=>by rw [h,h'];exact a_ (oq _ _ _)) ?_|refine Un ?_|refine gBO _ (fun h h'=>by rw [h,h'];exact a_ (oq _ _ _)) ?_))
  refine aa (fun h2=>?_) (fun h2=>?_)
  ·refine⟨trivial,trivial,?_⟩
   congr 1
   simp only [cz,within,Bool.or_eq_true,Bool.and_eq_true,Bool.not_eq_true',decide_eq_true_eq,decide_eq_false_iff_not,Bool.and_eq_false_iff] at h2
   unfold KB
   symm
   simp only [within,Bool.and_eq_false_iff,Bool.or_eq_false_iff,decide_eq_false_iff_not,Bool.not_eq_false',decide_eq_true_eq]
   omega
  (repeat (first|refine⟨rfl,?_⟩|refine⟨_,bq,?_⟩|refine⟨_,br,?_⟩|refine⟨_,rfl,?_⟩|refine⟨_,bg _,?_⟩|refine⟨_,⟨rfl,rfl⟩,?_⟩|refine nh ?_|refine m_ ?_|refine m9 ?_|refine m8 ?_|refine jt ?_|refine kq ?_|refine ni ?_|refine ng ?_))
  refine⟨fun m o x34 x36 x37 x38=>∃i:Nat,i<=ks.length/\m=ks.length - i/\o=q8 (.mk k n v ks)/\x34=ii vars/\x36=.l (o_ ks)/\x37=ii ks.length/\x38=ii i/\(ks.take i).all (KB vars)=true,
   ⟨_,0,by omega,rfl,rfl,rfl,rfl,by rw [ql],rfl,rfl⟩,?_⟩
  rintro m o x34 x36 x37 x38 ⟨i,hi,rfl,rfl,rfl,rfl,rfl,rfl,hall⟩
  refine⟨_,rfl,aa (fun h3=>?_) (fun h3=>?_)⟩
  ·replace h3:=ek h3
   obtain⟨x,hx⟩:∃x,ks[i]?=some x:=⟨_,List.getElem?_eq_getElem h3⟩
   have hx':(o_ ks)[i]?=some (q8 x):=by rw [mc,List.getElem?_map,hx];rfl
   refine⟨_,⟨eu hx',Ip x⟩,?_⟩
   have hih:=ih x (List.mem_of_getElem? hx)
   obtain⟨k',n',v',ks'⟩:=x
   (repeat (first|refine⟨rfl,?_⟩|refine⟨_,bq,?_⟩|refine⟨_,br,?_⟩|refine⟨_,rfl,?_⟩|refine⟨_,bg _,?_⟩|refine⟨_,⟨rfl,rfl⟩,?_⟩|refine nh ?_|refine m_ ?_|refine m9 ?_|refine m8 ?_|refine jt ?_|refine kq ?_|refine bx hih ?_|refine ni ?_|refine gB _ (fun h=>by first|exact a_ hih|(rw [h];exact a_ hih)) ?_|refine ng ?_|refine gO _ (fun h=>by first|exact a_ hih|(rw [h];exact a_ hih)) ?_))
   refine aa (fun h4=>?_) (fun h4=>?_)
   ·refine⟨trivial,trivial,?_⟩
    have:=Cu (f:=KB vars) hx (by simpa using h4)
    rw [KB,Fi,this];simp
   ·refine⟨_,c_ h3 (by omega),_,by omega,i+1,by omega,rfl,rfl,rfl,rfl,rfl,rfl,B6 hx hall (by simpa using h4)⟩
  ·obtain rfl:=gQ hi h3
   rw [List.take_length] at hall
   (repeat (first|refine⟨rfl,?_⟩|refine⟨_,bq,?_⟩|refine⟨_,br,?_⟩|refine⟨_,rfl,?_⟩|refine⟨_,bg _,?_⟩|refine⟨_,⟨rfl,rfl⟩,?_⟩|refine nh ?_|refine m_ ?_|refine m9 ?_|refine m8 ?_|refine jt ?_|refine kq ?_|refine bx (oq _ _ _) ?_|refine ni ?_|refine gB _ (fun h=>by first|exact a_ (oq _ _ _)|(rw [h];exact a_ (oq _ _ _))) ?_|refine ng ?_|refine gO _ (fun h=>by first|exact a_ (oq _ _ _)|(rw [h];exact a_ (oq _ _ _))) ?_|refine Um ?_|refine gOB _ (fun h h'=>by rw [h,h'];exact a_ (oq _ _ _)) ?_|refine Ul ?_|refine gOO _ (fun h h'=>by rw [h,h'];exact a_ (oq _ _ _)) ?_|refine Uo ?_|refine gBB _ (fun h h'=>by rw [h,h'];exact a_ (oq _ _ _)) ?_|refine Un ?_|refine gBO _ (fun h h'=>by rw [h,h'];exact a_ (oq _ _ _)) ?_))
   refine⟨trivial,trivial,?_⟩
   congr 1
   rw [KB,Fi,hall,h]
   simp only [cz,Bool.or_eq_false_iff,Bool.and_eq_false_iff,Bool.not_eq_false',decide_eq_true_eq,decide_eq_false_iff_not,Bool.not_eq_true'] at h2
   obtain⟨⟨h5,h6⟩,h7⟩:=h2
   simp [h5,h6,h7]
theorem s144 (vars:Int) (hv:0<=vars/\vars<=6) (c:Co) (hB:Gy c<=4194304):VS prog 144 [LJ c,ii vars] (fun r=>r=.b (R4 vars c)):=by
 obtain⟨op,l,r⟩:=c
 simp only [Gy] at hB
 have hl:=RR vars hv l (by omega)
 have hr:=RR vars hv r (by omega)
 obtain⟨k1,n1,v1,ks1⟩:=l
 obtain⟨k2,n2,v2,ks2⟩:=r
 refine Wu _ _ _ ?_
 unfold ZD
 (repeat (first|refine⟨rfl,?_⟩|refine⟨_,bq,?_⟩|refine⟨_,br,?_⟩|refine⟨_,rfl,?_⟩|refine⟨_,bg _,?_⟩|refine⟨_,⟨rfl,rfl⟩,?_⟩|refine nh ?_|refine m_ ?_|refine m9 ?_|refine m8 ?_|refine jt ?_|refine kq ?_|refine bx (oq _ _ _) ?_|refine bx hl ?_|refine bx hr ?_|refine ni ?_|refine gB _ (fun h=>by first|exact a_ (oq _ _ _)|(rw [h];exact a_ (oq _ _ _))) ?_|refine gB _ (fun h=>by first|exact a_ hl|(rw [h];exact a_ hl)) ?_|refine gB _ (fun h=>by first|exact a_ hr|(rw [h];exact a_ hr)) ?_|refine ng ?_|refine gO _ (fun h=>by first|exact a_ (oq _ _ _)|(rw [h];exact a_ (oq _ _ _))) ?_|refine gO _ (fun h=>by first|exact a_ hl|(rw [h];exact a_ hl)) ?_|refine gO _ (fun h=>by first|exact a_ hr|(rw [h];exact a_ hr)) ?_))
 exact⟨trivial,trivial,rfl⟩
theorem mx1 (a b:Int):(bif sw a b then b else a)=max a b:=by
 rw [lS,Int.max_def]
 by_cases h:a < b
 ·simp [h];omega
 ·simp [h];omega
theorem mx3 (a b c:Int):JC true [ii a,ii b,ii c]=some (ii (max (max a b) c)):=by
 show some (ii (bif sw (bif sw a b then b else a) c then c else (bif sw a b then b else a)))=_
 rw [mx1,mx1]
theorem drop_cons {α:Type} {l:List α} {i:Nat} {x:α} (h:l[i]?=some x):l.drop i=x::l.drop (i+1):=by
 obtain⟨h1,h2⟩:=List.getElem?_eq_some_iff.1 h
 rw [←h2];exact List.drop_eq_getElem_cons h1
theorem s104 (c:Ch) (hl:c.rule.length<=4194304) (hr:∀r∈c.rule,r.length<=4194304):VS prog 104 [dy c] (fun r=>r=.b (GH c)):=by
 refine WI _ _ ?_
 unfold ZP
 (repeat (first|refine⟨rfl,?_⟩|refine⟨_,bq,?_⟩|refine⟨_,br,?_⟩|refine⟨_,rfl,?_⟩|refine⟨_,bg _,?_⟩|refine⟨_,⟨rfl,rfl⟩,?_⟩|refine nh ?_|refine m_ ?_|refine m9 ?_|refine m8 ?_|refine jt ?_|refine kq ?_|refine ni ?_|refine ng ?_))
 refine⟨fun m o x8 x9 x10 x11=>∃(i:Nat) (T:Int),i<=c.rule.length/\m=c.rule.length - i/\o=dy c/\x8=ii T/\x9=.l (c.rule.map qy)/\x10=ii c.rule.length/\x11=ii i/\
   Gt c.rule.length c.tags 0 c.rule 0=Gt c.rule.length c.tags i (c.rule.drop i) T,⟨_,0,0,by omega,rfl,rfl,rfl,rfl,by rw [List.length_map],rfl,rfl⟩,?_⟩
 rintro m o x8 x9 x10 x11 ⟨i,T,hi,rfl,rfl,rfl,rfl,rfl,rfl,htop⟩
 refine⟨_,rfl,aa (fun h3=>?_) (fun h3=>?_)⟩
 ·replace h3:=ek h3
  obtain⟨row,hx⟩:∃x,c.rule[i]?=some x:=⟨_,List.getElem?_eq_getElem h3⟩
  have hrow:=hr row (List.mem_of_getElem? hx)
  have hx':(c.rule.map qy)[i]?=some (qy row):=by rw [List.getElem?_map,hx];rfl
  rw [drop_cons hx,Gt] at htop
  refine⟨_,⟨eu hx',rfl⟩,?_⟩
  (repeat (first|refine⟨rfl,?_⟩|refine⟨_,bq,?_⟩|refine⟨_,br,?_⟩|refine⟨_,rfl,?_⟩|refine⟨_,bg _,?_⟩|refine⟨_,⟨rfl,rfl⟩,?_⟩|refine nh ?_|refine m_ ?_|refine m9 ?_|refine m8 ?_|refine jt ?_|refine kq ?_|refine ni ?_|refine ng ?_))
  refine aa (fun h4=>?_) (fun h4=>?_)
  ·refine⟨trivial,trivial,?_⟩
   simp only [cz,Bool.not_eq_true',decide_eq_false_iff_not,List.length_map] at h4
   rw [if_neg h4] at htop
   congr 1
   unfold GH;rw [htop]
  simp only [cz,Bool.not_eq_false',decide_eq_true_eq,List.length_map] at h4
  rw [if_pos h4] at htop
  (repeat (first|refine⟨rfl,?_⟩|refine⟨_,bq,?_⟩|refine⟨_,br,?_⟩|refine⟨_,rfl,?_⟩|refine⟨_,bg _,?_⟩|refine⟨_,⟨rfl,rfl⟩,?_⟩|refine nh ?_|refine m_ ?_|refine m9 ?_|refine m8 ?_|refine jt ?_|refine kq ?_|refine ni ?_|refine ng ?_))
  refine⟨fun m o x24 x25 x27 x28 x29 x37 x38 x39=>∃(j:Nat) (U:Int),j<=row.length/\m=row.length - j/\o=dy c/\x24=ii U/\x25=ii i/\x27=.l (c.rule.map qy)/\x28=ii c.rule.length/\x29=ii i/\
   x37=qy row/\x38=ii row.length/\x39=ii j/\Nd c.rule.length i row T=Nd c.rule.length i (row.drop j) U,⟨_,0,T,by omega,rfl,rfl,rfl,rfl,rfl,rfl,rfl,rfl,by rw [List.length_map],rfl,rfl⟩,?_⟩
  rintro m o x24 x25 x27 x28 x29 x37 x38 x39 ⟨j,U,hj,rfl,rfl,rfl,rfl,rfl,rfl,rfl,rfl,rfl,rfl,hin⟩
  refine⟨_,rfl,aa (fun h5=>?_) (fun h5=>?_)⟩
  ·replace h5:=ek h5
   obtain⟨x,hy⟩:∃x,row[j]?=some x:=⟨_,List.getElem?_eq_getElem h5⟩
   have hy':(row.map ii)[j]?=some (ii x):=by rw [List.getElem?_map,hy];rfl
   rw [drop_cons hy,Nd] at hin
   refine⟨_,⟨eu hy',rfl⟩,?_⟩
   refine⟨_,rfl,_,rfl,_,rfl,?_⟩
   rw [List.length_map]
   refine⟨_,bq,bx (oq _ _ _) ?_⟩
   (repeat (first|refine⟨rfl,?_⟩|refine⟨_,bq,?_⟩|refine⟨_,br,?_⟩|refine⟨_,rfl,?_⟩|refine⟨_,bg _,?_⟩|refine⟨_,⟨rfl,rfl⟩,?_⟩|refine nh ?_|refine m_ ?_|refine m9 ?_|refine m8 ?_|refine jt ?_|refine kq ?_|refine ni ?_|refine ng ?_))
   refine aa (fun h6=>?_) (fun h6=>?_)
   ·refine⟨trivial,trivial,?_⟩
    rw [if_neg (by simpa using h6)] at hin
    rw [hin] at htop
    congr 1
    unfold GH;rw [htop]
   rw [if_pos (by simpa using h6)] at hin
   refine⟨_,YO _ _,aa (fun h7=>?_) (fun h7=>?_)⟩
   ·simp only [cz,Bool.not_eq_true',decide_eq_false_iff_not] at h7
    rw [if_neg h7] at hin
    exact⟨_,mx3 _ _ _,_,c_ h5 (by omega),_,by omega,j+1,_,by omega,rfl,rfl,rfl,rfl,rfl,rfl,rfl,rfl,rfl,rfl,hin⟩
   ·simp only [cz,Bool.not_eq_false',decide_eq_true_eq] at h7
    rw [if_pos h7] at hin
    exact⟨_,c_ h5 (by omega),_,by omega,j+1,_,by omega,rfl,rfl,rfl,rfl,rfl,rfl,rfl,rfl,rfl,rfl,hin⟩
  ·obtain rfl:=gQ hj h5
   rw [List.drop_length,Nd] at hin
   rw [hin] at htop
   exact⟨_,c_ h3 (by omega),_,by omega,i+1,U,by omega,rfl,rfl,rfl,rfl,rfl,rfl,htop⟩
 ·obtain rfl:=gQ hi h3
  rw [List.drop_length,Gt] at htop
  (repeat (first|refine⟨rfl,?_⟩|refine⟨_,bq,?_⟩|refine⟨_,br,?_⟩|refine⟨_,rfl,?_⟩|refine⟨_,bg _,?_⟩|refine⟨_,⟨rfl,rfl⟩,?_⟩|refine nh ?_|refine m_ ?_|refine m9 ?_|refine m8 ?_|refine jt ?_|refine kq ?_|refine ni ?_|refine ng ?_|refine Um ?_|refine Ul ?_|refine Uo ?_|refine Un ?_))
  refine⟨trivial,trivial,?_⟩
  congr 1
  unfold GH
  rw [htop]
  simp only [List.length_map,lS,cz,Jy,mb]
  rw [AG (by omega) (by omega)]
theorem s82 (c:Ch) (procs:Int) (hp:0<=procs/\procs<=4194304) (hl:c.rule.length<=4194304) (hr:∀r∈c.rule,r.length<=4194304):VS prog 82 [dy c,ii procs] (fun r=>r=.b (Ny procs c)):=by
 have h104:=s104 c hl hr
 refine vs82 _ _ _ ?_
 unfold W82
 (repeat (first|refine⟨rfl,?_⟩|refine⟨_,bq,?_⟩|refine⟨_,br,?_⟩|refine⟨_,rfl,?_⟩|refine⟨_,bg _,?_⟩|refine⟨_,⟨rfl,rfl⟩,?_⟩|refine nh ?_|refine m_ ?_|refine m9 ?_|refine m8 ?_|refine jt ?_|refine kq ?_|refine bx (oq _ _ _) ?_|refine bx h104 ?_|refine ni ?_|refine gB _ (fun h=>by first|exact a_ (oq _ _ _)|(rw [h];exact a_ (oq _ _ _))) ?_|refine gB _ (fun h=>by first|exact a_ h104|(rw [h];exact a_ h104)) ?_|refine ng ?_|refine gO _ (fun h=>by first|exact a_ (oq _ _ _)|(rw [h];exact a_ (oq _ _ _))) ?_|refine gO _ (fun h=>by first|exact a_ h104|(rw [h];exact a_ h104)) ?_))
 refine⟨trivial,trivial,?_⟩
 simp only [cz]
 rfl
theorem s146 (c:Ch):VS prog 146 [dy c] (fun r=>r=ii c.src):=by
 refine Ws _ _ ?_
 unfold ZB
 (repeat (first|refine⟨rfl,?_⟩|refine⟨_,bq,?_⟩|refine⟨_,br,?_⟩|refine⟨_,rfl,?_⟩|refine⟨_,bg _,?_⟩|refine⟨_,⟨rfl,rfl⟩,?_⟩|refine nh ?_|refine m_ ?_|refine m9 ?_|refine m8 ?_|refine jt ?_|refine kq ?_|refine ni ?_|refine ng ?_))
 exact⟨trivial,trivial,rfl⟩
theorem s148 (c:Ch):VS prog 148 [dy c] (fun r=>r=ii c.dst):=by
 refine Wp _ _ ?_
 unfold Zz
 (repeat (first|refine⟨rfl,?_⟩|refine⟨_,bq,?_⟩|refine⟨_,br,?_⟩|refine⟨_,rfl,?_⟩|refine⟨_,bg _,?_⟩|refine⟨_,⟨rfl,rfl⟩,?_⟩|refine nh ?_|refine m_ ?_|refine m9 ?_|refine m8 ?_|refine jt ?_|refine kq ?_|refine ni ?_|refine ng ?_))
 exact⟨trivial,trivial,rfl⟩
def Ao (p:Pg) (proc vars:Int):TV:=.a [.l (p.ay.map dy),.l (p.procs.map n8),ii proc,ii vars]
theorem Ut {ay:List Ch} {proc c:Int} {dst:Bool} (h:within c 0 (ay.length - 1)=true):∃(k:Nat) (x:Ch),c=k/\ay[k]?=some x/\Du ay proc dst c=decide ((bif dst then x.dst else x.src)=proc):=by
 simp only [within,Bool.and_eq_true,decide_eq_true_eq] at h
 obtain⟨k,rfl⟩:=Int.eq_ofNat_of_zero_le h.1
 have hk:k < ay.length:=by omega
 refine⟨k,ay[k],rfl,List.getElem?_eq_getElem hk,?_⟩
 show (match ay[k]? with|some x=>_|none=>false)=_
 rw [List.getElem?_eq_getElem hk]
theorem Sz {ay:List Ch} {proc c:Int} {dst:Bool} (h:within c 0 (ay.length - 1)=false):Du ay proc dst c=false:=by
 unfold Du
 split
 ·rename_i k
  split
  ·rename_i x hx
   have:=(List.getElem?_eq_some_iff.1 hx).1
   simp [within] at h;omega
  ·rfl
 ·rfl
theorem Yp (p:Pg) (proc vars c:Int) (dst:Bool) (hl:p.ay.length<=4194304):VS prog 145 [Ao p proc vars,ii c,.f (bif dst then 148 else 146)] (fun r=>r=.b (Du p.ay proc dst c)):=by
 have hend:∀x,VS prog (bif dst then 148 else 146) [dy x] (fun r=>r=ii (bif dst then x.dst else x.src)):=by
  cases dst
  ·exact s146
  ·exact s148
 refine Wt _ _ _ _ ?_
 unfold ZC
 have hl':(p.ay.map dy).length<=4194304:=by rw [List.length_map];exact hl
 (repeat (first|refine⟨rfl,?_⟩|refine⟨_,bq,?_⟩|refine⟨_,br,?_⟩|refine⟨_,rfl,?_⟩|refine⟨_,bg _,?_⟩|refine⟨_,⟨rfl,rfl⟩,?_⟩|refine nh ?_|refine m_ ?_|refine m9 ?_|refine m8 ?_|refine jt ?_|refine kq ?_|refine ni ?_|refine ng ?_))
 rw [List.length_map]
 refine bx (oq _ _ _) ?_
 cases hw:within c 0 (p.ay.length - 1) with
 |false=>
  (repeat (first|refine⟨rfl,?_⟩|refine⟨_,bq,?_⟩|refine⟨_,br,?_⟩|refine⟨_,rfl,?_⟩|refine⟨_,bg _,?_⟩|refine⟨_,⟨rfl,rfl⟩,?_⟩|refine nh ?_|refine m_ ?_|refine m9 ?_|refine m8 ?_|refine jt ?_|refine kq ?_|refine ni ?_|refine ng ?_))
  refine⟨0,fun h=>(by cases h),?_⟩
  (repeat (first|refine⟨rfl,?_⟩|refine⟨_,bq,?_⟩|refine⟨_,br,?_⟩|refine⟨_,rfl,?_⟩|refine⟨_,bg _,?_⟩|refine⟨_,⟨rfl,rfl⟩,?_⟩|refine nh ?_|refine m_ ?_|refine m9 ?_|refine m8 ?_|refine jt ?_|refine kq ?_|refine ni ?_|refine ng ?_))
  refine⟨trivial,trivial,?_⟩
  rw [Sz hw]
 |true=>
  obtain⟨k,x,rfl,hx,he⟩:=Ut (proc:=proc) (dst:=dst) hw
  have hx':(p.ay.map dy)[k]?=some (dy x):=by rw [List.getElem?_map,hx];rfl
  (repeat (first|refine⟨rfl,?_⟩|refine⟨_,bq,?_⟩|refine⟨_,br,?_⟩|refine⟨_,rfl,?_⟩|refine⟨_,bg _,?_⟩|refine⟨_,⟨rfl,rfl⟩,?_⟩|refine nh ?_|refine m_ ?_|refine m9 ?_|refine m8 ?_|refine jt ?_|refine kq ?_|refine ni ?_|refine ng ?_))
  refine gB _ (fun _=>⟨eu hx',J5 x⟩) ?_
  (repeat (first|refine⟨rfl,?_⟩|refine⟨_,bq,?_⟩|refine⟨_,br,?_⟩|refine⟨_,rfl,?_⟩|refine⟨_,bg _,?_⟩|refine⟨_,⟨rfl,rfl⟩,?_⟩|refine nh ?_|refine m_ ?_|refine m9 ?_|refine m8 ?_|refine jt ?_|refine kq ?_|refine ni ?_|refine ng ?_))
  refine⟨_,fun _=>rfl,gB _ (fun _=>a_ (hend x)) ?_⟩
  (repeat (first|refine⟨rfl,?_⟩|refine⟨_,bq,?_⟩|refine⟨_,br,?_⟩|refine⟨_,rfl,?_⟩|refine⟨_,bg _,?_⟩|refine⟨_,⟨rfl,rfl⟩,?_⟩|refine nh ?_|refine m_ ?_|refine m9 ?_|refine m8 ?_|refine jt ?_|refine kq ?_|refine ni ?_|refine ng ?_))
  refine⟨trivial,trivial,?_⟩
  rw [he,cz]
theorem Yo (p:Pg) (proc vars tag:Int) {k:Nat} {x:Ch} (hx:p.ay[k]?=some x) (ht:1<=x.tags/\x.tags<=4):VS prog 147 [Ao p proc vars,ii k,ii tag] (fun r=>r=.b (KI p.ay k tag)):=by
 have hx':(p.ay.map dy)[k]?=some (dy x):=by rw [List.getElem?_map,hx];rfl
 refine Wq _ _ _ _ ?_
 unfold ZA
 refine⟨rfl,_,rfl,_,⟨eu hx',J5 x⟩,?_⟩
 (repeat (first|refine⟨rfl,?_⟩|refine⟨_,bq,?_⟩|refine⟨_,br,?_⟩|refine⟨_,rfl,?_⟩|refine⟨_,bg _,?_⟩|refine⟨_,⟨rfl,rfl⟩,?_⟩|refine nh ?_|refine m_ ?_|refine m9 ?_|refine m8 ?_|refine jt ?_|refine kq ?_|refine bx (oq _ _ _) ?_|refine ni ?_|refine gB _ (fun h=>by first|exact a_ (oq _ _ _)|(rw [h];exact a_ (oq _ _ _))) ?_|refine ng ?_|refine gO _ (fun h=>by first|exact a_ (oq _ _ _)|(rw [h];exact a_ (oq _ _ _))) ?_))
 refine⟨trivial,trivial,?_⟩
 show _=TV.b (match p.ay[(k:Int).toNat]? with|some x=>within tag 0 (x.tags - 1)|none=>false)
 rw [Int.toNat_natCast,hx]
def YU (had:List Int):TV:=.a [.b (had.contains 0),.b (had.contains 1),.b (had.contains 2),.b (had.contains 3)]
theorem s149 (p:Pg) (proc vars:Int) (hv:0<=vars/\vars<=6) {k:Nat} {x:Ch} (hx:p.ay[k]?=some x) (ht:1<=x.tags/\x.tags<=4) (l:List Ar) (hl:l.length<=4194304)
  (ih:∀tag var body,Ar.mk tag var body∈l->VS prog 83 [Ao p proc vars,.l (gq body)] (fun r=>r=.b (wo p.ay proc vars body))) :
  VS prog 149 [Ao p proc vars,ii k,.l (oC l)] (fun r=>r=.b (Ea p.ay proc vars k [] l&&!l.isEmpty)):=by
 refine Wo _ _ _ _ ?_
 unfold Zy
 (repeat (first|refine⟨rfl,?_⟩|refine⟨_,bq,?_⟩|refine⟨_,br,?_⟩|refine⟨_,rfl,?_⟩|refine⟨_,bg _,?_⟩|refine⟨_,⟨rfl,rfl⟩,?_⟩|refine nh ?_|refine m_ ?_|refine m9 ?_|refine m8 ?_|refine jt ?_|refine kq ?_|refine ni ?_|refine ng ?_))
 refine⟨fun m o5 o6 x7 x8 x10 x11 x12=>∃(i:Nat) (had:List Int),i<=l.length/\m=l.length - i/\o5=Ao p proc vars/\o6=YU had/\x7=ii k/\x8=.l (oC l)/\x10=.l (oC l)/\x11=ii l.length/\x12=ii i/\
   Ea p.ay proc vars k [] l=Ea p.ay proc vars k had (l.drop i),⟨_,0,[],by omega,rfl,rfl,rfl,rfl,rfl,rfl,by rw [ji],rfl,rfl⟩,?_⟩
 rintro m o5 o6 x7 x8 x10 x11 x12 ⟨i,had,hi,rfl,rfl,rfl,rfl,rfl,rfl,rfl,rfl,hok⟩
 refine⟨_,rfl,aa (fun h3=>?_) (fun h3=>?_)⟩
 ·replace h3:=ek h3
  obtain⟨y,hy⟩:∃x,l[i]?=some x:=⟨_,List.getElem?_eq_getElem h3⟩
  have hy':(oC l)[i]?=some (Ec y):=by rw [oB,List.getElem?_map,hy];rfl
  rw [drop_cons hy] at hok
  obtain⟨tag,var,body⟩:=y
  have hb:=ih tag var body (List.mem_of_getElem? hy)
  rw [Ea] at hok
  refine⟨_,⟨eu hy',rfl⟩,?_⟩
  have h147:=Yo p proc vars tag hx ht
  cases htag:KI p.ay k tag with
  |false=>
   rw [htag] at h147 hok
   (repeat (first|refine⟨rfl,?_⟩|refine⟨_,bq,?_⟩|refine⟨_,br,?_⟩|refine⟨_,rfl,?_⟩|refine⟨_,bg _,?_⟩|refine⟨_,⟨rfl,rfl⟩,?_⟩|refine nh ?_|refine m_ ?_|refine m9 ?_|refine m8 ?_|refine jt ?_|refine kq ?_|refine bx h147 ?_|refine ni ?_|refine gB _ (fun h=>by first|exact a_ h147|(rw [h];exact a_ h147)) ?_|refine ng ?_|refine gO _ (fun h=>by first|exact a_ h147|(rw [h];exact a_ h147)) ?_))
   refine⟨0,fun h=>(by cases h),?_⟩
   (repeat (first|refine⟨rfl,?_⟩|refine⟨_,bq,?_⟩|refine⟨_,br,?_⟩|refine⟨_,rfl,?_⟩|refine⟨_,bg _,?_⟩|refine⟨_,⟨rfl,rfl⟩,?_⟩|refine nh ?_|refine m_ ?_|refine m9 ?_|refine m8 ?_|refine jt ?_|refine kq ?_|refine bx h147 ?_|refine ni ?_|refine gB _ (fun h=>by first|exact a_ h147|(rw [h];exact a_ h147)) ?_|refine ng ?_|refine gO _ (fun h=>by first|exact a_ h147|(rw [h];exact a_ h147)) ?_))
   refine b_ rfl ⟨trivial,trivial,?_⟩
   rw [hok];rfl
  |true=>
   rw [htag] at h147 hok
   have htb:0<=tag/\tag<=3:=by
    have h:KI p.ay (k:Int) tag=(match p.ay[(k:Int).toNat]? with|some x=>within tag 0 (x.tags - 1)|none=>false):=rfl
    rw [Int.toNat_natCast,hx] at h
    rw [h] at htag
    simp only [within,Bool.and_eq_true,decide_eq_true_eq] at htag
    omega
   obtain rfl|rfl|rfl|rfl:tag=0\/tag=1\/tag=2\/tag=3:=by omega
   all_goals
    (repeat (first|refine⟨rfl,?_⟩|refine⟨_,bq,?_⟩|refine⟨_,br,?_⟩|refine⟨_,rfl,?_⟩|refine⟨_,bg _,?_⟩|refine⟨_,⟨rfl,rfl⟩,?_⟩|refine nh ?_|refine m_ ?_|refine m9 ?_|refine m8 ?_|refine jt ?_|refine kq ?_|refine bx h147 ?_|refine ni ?_|refine gB _ (fun h=>by first|exact a_ h147|(rw [h];exact a_ h147)) ?_|refine ng ?_|refine gO _ (fun h=>by first|exact a_ h147|(rw [h];exact a_ h147)) ?_))
    refine⟨_,fun _=>rfl,?_⟩
    (repeat (first|refine⟨rfl,?_⟩|refine⟨_,bq,?_⟩|refine⟨_,br,?_⟩|refine⟨_,rfl,?_⟩|refine⟨_,bg _,?_⟩|refine⟨_,⟨rfl,rfl⟩,?_⟩|refine nh ?_|refine m_ ?_|refine m9 ?_|refine m8 ?_|refine jt ?_|refine kq ?_|refine bx (oq _ _ _) ?_|refine bx hb ?_|refine ni ?_|refine gB _ (fun h=>by first|exact a_ (oq _ _ _)|(rw [h];exact a_ (oq _ _ _))) ?_|refine gB _ (fun h=>by first|exact a_ hb|(rw [h];exact a_ hb)) ?_|refine ng ?_|refine gO _ (fun h=>by first|exact a_ (oq _ _ _)|(rw [h];exact a_ (oq _ _ _))) ?_|refine gO _ (fun h=>by first|exact a_ hb|(rw [h];exact a_ hb)) ?_))
    refine aa (fun h4=>?_) (fun h4=>?_)
    ·refine⟨trivial,trivial,?_⟩
     rw [hok]
     simp only [Bool.or_eq_true,Bool.not_eq_true'] at h4
     rcases h4 with (h|h)|h<;>(rw [h];simp)
    ·simp only [Bool.or_eq_false_iff,Bool.not_eq_false'] at h4
     obtain⟨⟨h5,h6⟩,h7⟩:=h4
     refine⟨_,rfl,_,rfl,_,rfl,_,c_ h3 (by omega),_,by omega,i+1,_,by omega,rfl,rfl,?_,rfl,rfl,rfl,rfl,rfl,by rw [hok,h5,h6,h7];rfl⟩
     simp [YU]
 ·obtain rfl:=gQ hi h3
  rw [List.drop_length,Ea] at hok
  (repeat (first|refine⟨rfl,?_⟩|refine⟨_,bq,?_⟩|refine⟨_,br,?_⟩|refine⟨_,rfl,?_⟩|refine⟨_,bg _,?_⟩|refine⟨_,⟨rfl,rfl⟩,?_⟩|refine nh ?_|refine m_ ?_|refine m9 ?_|refine m8 ?_|refine jt ?_|refine kq ?_|refine ni ?_|refine ng ?_))
  refine⟨trivial,trivial,?_⟩
  rw [hok,ji,lS]
  cases l<;>simp
end Go.Ax.eo

set_option maxRecDepth 100000
namespace Go.Ax.eo
open Go Go.Ax Go.Ax.V Go.Ax.Ft
theorem Z3 (p:Pg) (proc vars:Int) (l:List Sm) (hl:l.length<=4194304) (ih:∀s∈l,VS prog 105 [Ao p proc vars,pz s] (fun r=>r=.b (Bh p.ay proc vars s))) :
  VS prog 83 [Ao p proc vars,.l (gq l)] (fun r=>r=.b (wo p.ay proc vars l)):=by
 refine vs83 _ _ _ ?_
 unfold W83
 (repeat (first|refine⟨rfl,?_⟩|refine⟨_,bq,?_⟩|refine⟨_,br,?_⟩|refine⟨_,rfl,?_⟩|refine⟨_,bg _,?_⟩|refine⟨_,⟨rfl,rfl⟩,?_⟩|refine nh ?_|refine m_ ?_|refine m9 ?_|refine m8 ?_|refine jt ?_|refine kq ?_|refine ni ?_|refine ng ?_))
 refine⟨fun m o5 x7 x8 x9=>∃i:Nat,i<=l.length/\m=l.length - i/\o5=Ao p proc vars/\x7=.l (gq l)/\x8=ii l.length/\x9=ii i/\(l.take i).all (Bh p.ay proc vars)=true,
  ⟨_,0,by omega,rfl,rfl,rfl,by rw [ja],rfl,rfl⟩,?_⟩
 rintro m o5 x7 x8 x9 ⟨i,hi,rfl,rfl,rfl,rfl,rfl,hall⟩
 refine⟨_,rfl,aa (fun h3=>?_) (fun h3=>?_)⟩
 ·replace h3:=ek h3
  obtain⟨y,hy⟩:∃x,l[i]?=some x:=⟨_,List.getElem?_eq_getElem h3⟩
  have hy':(gq l)[i]?=some (pz y):=by rw [lE,List.getElem?_map,hy];rfl
  have hih:=ih y (List.mem_of_getElem? hy)
  refine⟨_,⟨eu hy',yx y⟩,?_⟩
  obtain⟨kind,var,chan,tag,⟨k1,n1,v1,ks1⟩,⟨op,⟨k2,n2,v2,ks2⟩,⟨k3,n3,v3,ks3⟩⟩,body,els,c7⟩:=y
  (repeat (first|refine⟨rfl,?_⟩|refine⟨_,bq,?_⟩|refine⟨_,br,?_⟩|refine⟨_,rfl,?_⟩|refine⟨_,bg _,?_⟩|refine⟨_,⟨rfl,rfl⟩,?_⟩|refine nh ?_|refine m_ ?_|refine m9 ?_|refine m8 ?_|refine jt ?_|refine kq ?_|refine bx hih ?_|refine ni ?_|refine gB _ (fun h=>by first|exact a_ hih|(rw [h];exact a_ hih)) ?_|refine ng ?_|refine gO _ (fun h=>by first|exact a_ hih|(rw [h];exact a_ hih)) ?_))
  refine aa (fun h4=>?_) (fun h4=>?_)
  ·refine⟨trivial,trivial,?_⟩
   rw [Fh,Cu (f:=Bh p.ay proc vars) hy (by simpa using h4)]
  ·exact⟨_,c_ h3 (by omega),_,by omega,i+1,by omega,rfl,rfl,rfl,rfl,rfl,B6 hy hall (by simpa using h4)⟩
 ·obtain rfl:=gQ hi h3
  rw [List.take_length] at hall
  refine⟨trivial,trivial,?_⟩
  rw [Fh,hall]
theorem J2 {ay:List Ch} {proc c:Int} {dst:Bool} (h:Du ay proc dst c=true):∃(k:Nat) (x:Ch),c=k/\ay[k]?=some x:=by
 unfold Du at h
 split at h
 ·rename_i k
  split at h
  ·rename_i x hx;exact⟨k,x,rfl,hx⟩
  ·cases h
 ·cases h
theorem s105 (p:Pg) (proc:Int) (vars:Int) (hv:0<=vars/\vars<=6) (hc:p.ay.length<=4194304) (ht:∀x∈p.ay,1<=x.tags/\x.tags<=4) :
  ∀(n:Nat) (s:Sm),B7 s<=n->n<=4194304->VS prog 105 [Ao p proc vars,pz s] (fun r=>r=.b (Bh p.ay proc vars s)):=by
 intro n
 induction n with
 |zero=>intro s hs;have:=AM s;omega
 |succ n ih=>
  intro s hs hn
  obtain⟨kind,var,chan,tag,e,c,body,els,c7⟩:=s
  simp only [B7] at hs
  have hbody:VS prog 83 [Ao p proc vars,.l (gq body)] (fun r=>r=.b (wo p.ay proc vars body)):=
   Z3 p proc vars body (by have:=tv body;omega) (fun s hs'=>ih s (by have:=nj hs';omega) (by omega))
  have hels:VS prog 83 [Ao p proc vars,.l (gq els)] (fun r=>r=.b (wo p.ay proc vars els)):=
   Z3 p proc vars els (by have:=tv els;omega) (fun s hs'=>ih s (by have:=nj hs';omega) (by omega))
  have h141:=TD e
  have h142:=s142 c
  have h143:=RR vars hv e (by omega)
  have h144:=s144 vars hv c (by omega)
  have hsrc:=Yp p proc vars chan false hc
  have hdst:=Yp p proc vars chan true hc
  obtain⟨k1,n1,v1,ks1⟩:=e
  obtain⟨op,⟨k2,n2,v2,ks2⟩,⟨k3,n3,v3,ks3⟩⟩:=c
  refine WH _ _ _ ?_
  unfold ZO
  (repeat (first|refine⟨rfl,?_⟩|refine⟨_,bq,?_⟩|refine⟨_,br,?_⟩|refine⟨_,rfl,?_⟩|refine⟨_,bg _,?_⟩|refine⟨_,⟨rfl,rfl⟩,?_⟩|refine nh ?_|refine m_ ?_|refine m9 ?_|refine m8 ?_|refine jt ?_|refine kq ?_|refine bx h141 ?_|refine bx h142 ?_|refine ni ?_|refine gB _ (fun h=>by first|exact a_ h141|(rw [h];exact a_ h141)) ?_|refine gB _ (fun h=>by first|exact a_ h142|(rw [h];exact a_ h142)) ?_|refine ng ?_|refine gO _ (fun h=>by first|exact a_ h141|(rw [h];exact a_ h141)) ?_|refine gO _ (fun h=>by first|exact a_ h142|(rw [h];exact a_ h142)) ?_))
  refine aa (fun h=>?_) (fun h=>?_)
  ·obtain rfl:kind=1:=by simpa [cz] using h
   (repeat (first|refine⟨rfl,?_⟩|refine⟨_,bq,?_⟩|refine⟨_,br,?_⟩|refine⟨_,rfl,?_⟩|refine⟨_,bg _,?_⟩|refine⟨_,⟨rfl,rfl⟩,?_⟩|refine nh ?_|refine m_ ?_|refine m9 ?_|refine m8 ?_|refine jt ?_|refine kq ?_|refine bx h143 ?_|refine bx (oq _ _ _) ?_|refine ni ?_|refine gB _ (fun h=>by first|exact a_ h143|(rw [h];exact a_ h143)) ?_|refine gB _ (fun h=>by first|exact a_ (oq _ _ _)|(rw [h];exact a_ (oq _ _ _))) ?_|refine ng ?_|refine gO _ (fun h=>by first|exact a_ h143|(rw [h];exact a_ h143)) ?_|refine gO _ (fun h=>by first|exact a_ (oq _ _ _)|(rw [h];exact a_ (oq _ _ _))) ?_))
   refine⟨trivial,trivial,?_⟩
   congr 1
   unfold Bh
   simp only [cz,ja,ji,mb,Bool.and_assoc,reduceIte,Int.reduceEq]
  have n1:¬kind=1:=by simpa [cz] using h
  refine⟨_,rfl,aa (fun h=>?_) (fun h=>?_)⟩
  ·obtain rfl:kind=7:=by simpa [cz] using h
   (repeat (first|refine⟨rfl,?_⟩|refine⟨_,bq,?_⟩|refine⟨_,br,?_⟩|refine⟨_,rfl,?_⟩|refine⟨_,bg _,?_⟩|refine⟨_,⟨rfl,rfl⟩,?_⟩|refine nh ?_|refine m_ ?_|refine m9 ?_|refine m8 ?_|refine jt ?_|refine kq ?_|refine bx (oq _ _ _) ?_|refine ni ?_|refine gB _ (fun h=>by first|exact a_ (oq _ _ _)|(rw [h];exact a_ (oq _ _ _))) ?_|refine ng ?_|refine gO _ (fun h=>by first|exact a_ (oq _ _ _)|(rw [h];exact a_ (oq _ _ _))) ?_))
   refine⟨trivial,trivial,?_⟩
   congr 1
   unfold Bh
   simp only [cz,ja,ji,mb,Bool.and_assoc,reduceIte,Int.reduceEq]
  have n7:¬kind=7:=by simpa [cz] using h
  refine⟨_,rfl,aa (fun h=>?_) (fun h=>?_)⟩
  ·obtain rfl:kind=6:=by simpa [cz] using h
   (repeat (first|refine⟨rfl,?_⟩|refine⟨_,bq,?_⟩|refine⟨_,br,?_⟩|refine⟨_,rfl,?_⟩|refine⟨_,bg _,?_⟩|refine⟨_,⟨rfl,rfl⟩,?_⟩|refine nh ?_|refine m_ ?_|refine m9 ?_|refine m8 ?_|refine jt ?_|refine kq ?_|refine bx h144 ?_|refine ni ?_|refine gB _ (fun h=>by first|exact a_ h144|(rw [h];exact a_ h144)) ?_|refine ng ?_|refine gO _ (fun h=>by first|exact a_ h144|(rw [h];exact a_ h144)) ?_))
   refine⟨trivial,trivial,?_⟩
   congr 1
   unfold Bh
   simp only [cz,ja,ji,mb,Bool.and_assoc,reduceIte,Int.reduceEq]
  have n6:¬kind=6:=by simpa [cz] using h
  refine⟨_,rfl,aa (fun h=>?_) (fun h=>?_)⟩
  ·obtain rfl:kind=3:=by simpa [cz] using h
   (repeat (first|refine⟨rfl,?_⟩|refine⟨_,bq,?_⟩|refine⟨_,br,?_⟩|refine⟨_,rfl,?_⟩|refine⟨_,bg _,?_⟩|refine⟨_,⟨rfl,rfl⟩,?_⟩|refine nh ?_|refine m_ ?_|refine m9 ?_|refine m8 ?_|refine jt ?_|refine kq ?_|refine bx h144 ?_|refine bx hbody ?_|refine ni ?_|refine gB _ (fun h=>by first|exact a_ h144|(rw [h];exact a_ h144)) ?_|refine gB _ (fun h=>by first|exact a_ hbody|(rw [h];exact a_ hbody)) ?_|refine ng ?_|refine gO _ (fun h=>by first|exact a_ h144|(rw [h];exact a_ h144)) ?_|refine gO _ (fun h=>by first|exact a_ hbody|(rw [h];exact a_ hbody)) ?_))
   refine⟨trivial,trivial,?_⟩
   congr 1
   unfold Bh
   simp only [cz,ja,ji,mb,Bool.and_assoc,reduceIte,Int.reduceEq]
  have n3:¬kind=3:=by simpa [cz] using h
  refine⟨_,rfl,aa (fun h=>?_) (fun h=>?_)⟩
  ·obtain rfl:kind=2:=by simpa [cz] using h
   (repeat (first|refine⟨rfl,?_⟩|refine⟨_,bq,?_⟩|refine⟨_,br,?_⟩|refine⟨_,rfl,?_⟩|refine⟨_,bg _,?_⟩|refine⟨_,⟨rfl,rfl⟩,?_⟩|refine nh ?_|refine m_ ?_|refine m9 ?_|refine m8 ?_|refine jt ?_|refine kq ?_|refine bx h144 ?_|refine bx hbody ?_|refine bx hels ?_|refine ni ?_|refine gB _ (fun h=>by first|exact a_ h144|(rw [h];exact a_ h144)) ?_|refine gB _ (fun h=>by first|exact a_ hbody|(rw [h];exact a_ hbody)) ?_|refine gB _ (fun h=>by first|exact a_ hels|(rw [h];exact a_ hels)) ?_|refine ng ?_|refine gO _ (fun h=>by first|exact a_ h144|(rw [h];exact a_ h144)) ?_|refine gO _ (fun h=>by first|exact a_ hbody|(rw [h];exact a_ hbody)) ?_|refine gO _ (fun h=>by first|exact a_ hels|(rw [h];exact a_ hels)) ?_))
   refine⟨trivial,trivial,?_⟩
   congr 1
   unfold Bh
   simp only [cz,ja,ji,mb,Bool.and_assoc,reduceIte,Int.reduceEq]
  have n2:¬kind=2:=by simpa [cz] using h
  refine⟨_,rfl,aa (fun h=>?_) (fun h=>?_)⟩
  ·obtain rfl:kind=4:=by simpa [cz] using h
   cases hE:Du p.ay proc false chan with
   |false=>
    rw [hE] at hsrc
    (repeat (first|refine⟨rfl,?_⟩|refine⟨_,bq,?_⟩|refine⟨_,br,?_⟩|refine⟨_,rfl,?_⟩|refine⟨_,bg _,?_⟩|refine⟨_,⟨rfl,rfl⟩,?_⟩|refine nh ?_|refine m_ ?_|refine m9 ?_|refine m8 ?_|refine jt ?_|refine kq ?_|refine bx hsrc ?_|refine ni ?_|refine gB _ (fun h=>by first|exact a_ hsrc|(rw [h];exact a_ hsrc)) ?_|refine ng ?_|refine gO _ (fun h=>by first|exact a_ hsrc|(rw [h];exact a_ hsrc)) ?_))
    refine⟨trivial,trivial,?_⟩
    congr 1
    unfold Bh
    simp [hE]
   |true=>
    rw [hE] at hsrc
    obtain⟨k,x,rfl,hx⟩:=J2 hE
    have h147:=Yo p proc vars tag hx (ht x (List.mem_of_getElem? hx))
    (repeat (first|refine⟨rfl,?_⟩|refine⟨_,bq,?_⟩|refine⟨_,br,?_⟩|refine⟨_,rfl,?_⟩|refine⟨_,bg _,?_⟩|refine⟨_,⟨rfl,rfl⟩,?_⟩|refine nh ?_|refine m_ ?_|refine m9 ?_|refine m8 ?_|refine jt ?_|refine kq ?_|refine bx hsrc ?_|refine bx h147 ?_|refine bx h143 ?_|refine ni ?_|refine gB _ (fun h=>by first|exact a_ hsrc|(rw [h];exact a_ hsrc)) ?_|refine gB _ (fun h=>by first|exact a_ h147|(rw [h];exact a_ h147)) ?_|refine gB _ (fun h=>by first|exact a_ h143|(rw [h];exact a_ h143)) ?_|refine ng ?_|refine gO _ (fun h=>by first|exact a_ hsrc|(rw [h];exact a_ hsrc)) ?_|refine gO _ (fun h=>by first|exact a_ h147|(rw [h];exact a_ h147)) ?_|refine gO _ (fun h=>by first|exact a_ h143|(rw [h];exact a_ h143)) ?_))
    refine⟨trivial,trivial,?_⟩
    congr 1
    unfold Bh
    simp only [cz,ja,ji,mb,Bool.and_assoc,reduceIte,Int.reduceEq,hE]
  have n4:¬kind=4:=by simpa [cz] using h
  refine⟨_,rfl,aa (fun h=>?_) (fun h=>?_)⟩
  ·obtain rfl:kind=5:=by simpa [cz] using h
   cases hE:Du p.ay proc true chan with
   |false=>
    rw [hE] at hdst
    (repeat (first|refine⟨rfl,?_⟩|refine⟨_,bq,?_⟩|refine⟨_,br,?_⟩|refine⟨_,rfl,?_⟩|refine⟨_,bg _,?_⟩|refine⟨_,⟨rfl,rfl⟩,?_⟩|refine nh ?_|refine m_ ?_|refine m9 ?_|refine m8 ?_|refine jt ?_|refine kq ?_|refine bx hdst ?_|refine ni ?_|refine gB _ (fun h=>by first|exact a_ hdst|(rw [h];exact a_ hdst)) ?_|refine ng ?_|refine gO _ (fun h=>by first|exact a_ hdst|(rw [h];exact a_ hdst)) ?_))
    refine⟨trivial,trivial,?_⟩
    congr 1
    unfold Bh
    simp [hE]
   |true=>
    rw [hE] at hdst
    obtain⟨k,x,rfl,hx⟩:=J2 hE
    have h149:=s149 p proc vars hv hx (ht x (List.mem_of_getElem? hx)) c7 (by have:=B_ c7;omega) (fun tag var body hm=>Z3 p proc vars body (by
     have:=zo hm;simp only [OA] at this;have:=tv body;omega) (fun s hs'=>ih s (by
     have:=zo hm;simp only [OA] at this;have:=nj hs';omega) (by omega)))
    (repeat (first|refine⟨rfl,?_⟩|refine⟨_,bq,?_⟩|refine⟨_,br,?_⟩|refine⟨_,rfl,?_⟩|refine⟨_,bg _,?_⟩|refine⟨_,⟨rfl,rfl⟩,?_⟩|refine nh ?_|refine m_ ?_|refine m9 ?_|refine m8 ?_|refine jt ?_|refine kq ?_|refine bx hdst ?_|refine bx h149 ?_|refine ni ?_|refine gB _ (fun h=>by first|exact a_ hdst|(rw [h];exact a_ hdst)) ?_|refine gB _ (fun h=>by first|exact a_ h149|(rw [h];exact a_ h149)) ?_|refine ng ?_|refine gO _ (fun h=>by first|exact a_ hdst|(rw [h];exact a_ hdst)) ?_|refine gO _ (fun h=>by first|exact a_ h149|(rw [h];exact a_ h149)) ?_))
    refine⟨trivial,trivial,?_⟩
    congr 1
    unfold Bh
    simp only [cz,ja,ji,mb,Bool.and_assoc,reduceIte,Int.reduceEq,hE]
  have n5:¬kind=5:=by simpa [cz] using h
  refine⟨trivial,trivial,?_⟩
  congr 1
  unfold Bh
  simp [n1,n2,n3,n4,n5,n6,n7]
theorem s60 (p:Pg) (hz:Gb p):VS prog 60 [oZ p] (fun r=>r=.b (Jw p)):=by
 have hlc:=hz.ay
 have hlp:=hz.procs
 have hl1:(p.ay.map dy).length=p.ay.length:=List.length_map _
 have hl2:(p.procs.map n8).length=p.procs.length:=List.length_map _
 refine vs60 _ _ ?_
 unfold W60
 (repeat (first|refine⟨rfl,?_⟩|refine⟨_,bq,?_⟩|refine⟨_,br,?_⟩|refine⟨_,rfl,?_⟩|refine⟨_,bg _,?_⟩|refine⟨_,⟨rfl,rfl⟩,?_⟩|refine nh ?_|refine m_ ?_|refine m9 ?_|refine m8 ?_|refine jt ?_|refine kq ?_|refine bx (oq _ _ _) ?_|refine ni ?_|refine gB _ (fun h=>by first|exact a_ (oq _ _ _)|(rw [h];exact a_ (oq _ _ _))) ?_|refine ng ?_|refine gO _ (fun h=>by first|exact a_ (oq _ _ _)|(rw [h];exact a_ (oq _ _ _))) ?_))
 rw [hl1,hl2]
 refine aa (fun h=>?_) (fun h=>?_)
 ·refine⟨trivial,trivial,?_⟩
  congr 1
  unfold Jw
  simp only [lS,within,Bool.or_eq_true,Bool.not_eq_true',decide_eq_true_eq,Bool.and_eq_false_iff,decide_eq_false_iff_not] at h
  symm
  simp only [Bool.and_eq_false_iff,decide_eq_false_iff_not]
  omega
 simp only [lS,within,Bool.or_eq_false_iff,Bool.not_eq_false',Bool.and_eq_true,decide_eq_true_eq,decide_eq_false_iff_not] at h
 obtain⟨hc4,hp1,hp4⟩:=h
 have hok:Jw p=(p.ay.all (Ny p.procs.length)&&D_ p.ay 0 p.procs):=by
  unfold Jw
  rw [decide_eq_true (show p.ay.length<=4 by omega),decide_eq_true (show 1<=p.procs.length by omega),decide_eq_true (show p.procs.length<=4 by omega)]
  simp
 (repeat (first|refine⟨rfl,?_⟩|refine⟨_,bq,?_⟩|refine⟨_,br,?_⟩|refine⟨_,rfl,?_⟩|refine⟨_,bg _,?_⟩|refine⟨_,⟨rfl,rfl⟩,?_⟩|refine nh ?_|refine m_ ?_|refine m9 ?_|refine m8 ?_|refine jt ?_|refine kq ?_|refine ni ?_|refine ng ?_))
 refine⟨fun m o14 x16 x17 x18=>∃i:Nat,i<=p.ay.length/\m=p.ay.length - i/\o14=oZ p/\x16=.l (p.ay.map dy)/\x17=ii p.ay.length/\x18=ii i/\(p.ay.take i).all (Ny p.procs.length)=true,
  ⟨_,0,by omega,rfl,rfl,rfl,by rw [hl1],rfl,rfl⟩,?_⟩
 rintro m o14 x16 x17 x18 ⟨i,hi,rfl,rfl,rfl,rfl,rfl,hall⟩
 refine⟨_,rfl,aa (fun h3=>?_) (fun h3=>?_)⟩
 ·replace h3:=ek h3
  obtain⟨y,hy⟩:∃x,p.ay[i]?=some x:=⟨_,List.getElem?_eq_getElem h3⟩
  have hy':(p.ay.map dy)[i]?=some (dy y):=by rw [List.getElem?_map,hy];rfl
  have hym:=List.mem_of_getElem? hy
  have h82:=s82 y p.procs.length (by omega) (hz.rules y hym) (hz.rows y hym)
  rw [←hl2] at h82
  refine⟨_,⟨eu hy',rfl⟩,?_⟩
  (repeat (first|refine⟨rfl,?_⟩|refine⟨_,bq,?_⟩|refine⟨_,br,?_⟩|refine⟨_,rfl,?_⟩|refine⟨_,bg _,?_⟩|refine⟨_,⟨rfl,rfl⟩,?_⟩|refine nh ?_|refine m_ ?_|refine m9 ?_|refine m8 ?_|refine jt ?_|refine kq ?_|refine bx h82 ?_|refine ni ?_|refine gB _ (fun h=>by first|exact a_ h82|(rw [h];exact a_ h82)) ?_|refine ng ?_|refine gO _ (fun h=>by first|exact a_ h82|(rw [h];exact a_ h82)) ?_))
  rw [hl2]
  refine aa (fun h4=>?_) (fun h4=>?_)
  ·refine⟨trivial,trivial,?_⟩
   rw [hok,Cu (f:=Ny p.procs.length) hy (by simpa using h4)];rfl
  ·exact⟨_,c_ h3 (by omega),_,by omega,i+1,by omega,rfl,rfl,rfl,rfl,rfl,B6 hy hall (by simpa using h4)⟩
 obtain rfl:=gQ hi h3
 rw [List.take_length] at hall
 rw [hall,Bool.true_and] at hok
 have htags:∀x∈p.ay,1<=x.tags/\x.tags<=4:=fun x hx=>by
  have:=List.all_eq_true.1 hall x hx
  simp only [Ny,within,Bool.and_eq_true,decide_eq_true_eq] at this
  omega
 (repeat (first|refine⟨rfl,?_⟩|refine⟨_,bq,?_⟩|refine⟨_,br,?_⟩|refine⟨_,rfl,?_⟩|refine⟨_,bg _,?_⟩|refine⟨_,⟨rfl,rfl⟩,?_⟩|refine nh ?_|refine m_ ?_|refine m9 ?_|refine m8 ?_|refine jt ?_|refine kq ?_|refine ni ?_|refine ng ?_))
 refine⟨fun m o34 x36 x37 x38=>∃i:Nat,i<=p.procs.length/\m=p.procs.length - i/\o34=oZ p/\x36=.l (p.procs.map n8)/\x37=ii p.procs.length/\x38=ii i/\D_ p.ay 0 p.procs=D_ p.ay i (p.procs.drop i),
  ⟨_,0,by omega,rfl,rfl,rfl,by rw [hl2],rfl,rfl⟩,?_⟩
 rintro m o34 x36 x37 x38 ⟨i,hi,rfl,rfl,rfl,rfl,rfl,hps⟩
 refine⟨_,rfl,aa (fun h3=>?_) (fun h3=>?_)⟩
 ·replace h3:=ek h3
  obtain⟨y,hy⟩:∃x,p.procs[i]?=some x:=⟨_,List.getElem?_eq_getElem h3⟩
  have hy':(p.procs.map n8)[i]?=some (n8 y):=by rw [List.getElem?_map,hy];rfl
  have hym:=List.mem_of_getElem? hy
  rw [drop_cons hy,D_] at hps
  refine⟨_,⟨eu hy',rfl⟩,?_⟩
  have hstep:∀(h:(!within y.vars 0 6||!wo p.ay i y.vars y.body)=false),D_ p.ay 0 p.procs=D_ p.ay ((i+1:Nat):Int) (p.procs.drop (i+1)):=fun h=>by
   simp only [Bool.or_eq_false_iff,Bool.not_eq_false'] at h
   rw [hps,h.1,h.2];simp
  cases hw:within y.vars 0 6 with
  |false=>
   have h81:=oq y.vars 0 6
   rw [hw] at h81
   (repeat (first|refine⟨rfl,?_⟩|refine⟨_,bq,?_⟩|refine⟨_,br,?_⟩|refine⟨_,rfl,?_⟩|refine⟨_,bg _,?_⟩|refine⟨_,⟨rfl,rfl⟩,?_⟩|refine nh ?_|refine m_ ?_|refine m9 ?_|refine m8 ?_|refine jt ?_|refine kq ?_|refine bx h81 ?_|refine ni ?_|refine gB _ (fun h=>by first|exact a_ h81|(rw [h];exact a_ h81)) ?_|refine ng ?_|refine gO _ (fun h=>by first|exact a_ h81|(rw [h];exact a_ h81)) ?_))
   refine b_ rfl ⟨trivial,trivial,?_⟩
   rw [hok,hps,hw];rfl
  |true=>
   have h81:=oq y.vars 0 6
   rw [hw] at h81
   have hv:0<=y.vars/\y.vars<=6:=by simpa [within] using hw
   have h83:=Z3 p i y.vars y.body (by have:=hz.body y hym;have:=tv y.body;omega) (fun s hs=>s105 p i y.vars hv (by omega) htags 4194304 s (Nat.le_trans (nj hs) (hz.body y hym)) (Nat.le_refl _))
   (repeat (first|refine⟨rfl,?_⟩|refine⟨_,bq,?_⟩|refine⟨_,br,?_⟩|refine⟨_,rfl,?_⟩|refine⟨_,bg _,?_⟩|refine⟨_,⟨rfl,rfl⟩,?_⟩|refine nh ?_|refine m_ ?_|refine m9 ?_|refine m8 ?_|refine jt ?_|refine kq ?_|refine bx h81 ?_|refine bx h83 ?_|refine ni ?_|refine gB _ (fun h=>by first|exact a_ h81|(rw [h];exact a_ h81)) ?_|refine gB _ (fun h=>by first|exact a_ h83|(rw [h];exact a_ h83)) ?_|refine ng ?_|refine gO _ (fun h=>by first|exact a_ h81|(rw [h];exact a_ h81)) ?_|refine gO _ (fun h=>by first|exact a_ h83|(rw [h];exact a_ h83)) ?_))
   refine aa (fun h4=>?_) (fun h4=>?_)
   ·refine⟨trivial,trivial,?_⟩
    rw [hok,hps,hw]
    have h5:wo p.ay i y.vars y.body=false:=by simpa using h4
    rw [h5];rfl
   ·exact⟨_,c_ h3 (by omega),_,by omega,i+1,by omega,rfl,rfl,rfl,rfl,rfl,hstep (by rw [hw];exact h4)⟩
 ·obtain rfl:=gQ hi h3
  rw [List.drop_length,D_] at hps
  refine⟨trivial,trivial,?_⟩
  rw [hok,hps]
end Go.Ax.eo

set_option maxRecDepth 100000
namespace Go.Ax.eo
open Go Go.Ax Go.Ax.V Go.Ax.Ft
theorem Yn (op:Int):VS prog 41 [ii op] (fun r=>r=ii (Sb op)):=by
 refine vs41 _ _ ?_
 unfold W41
 refine⟨_,rfl,aa (fun h=>?_) (fun h=>?_)⟩
 ·obtain rfl:op=1:=by simpa [cz] using h
  exact⟨trivial,trivial,rfl⟩
 have n1:¬op=1:=by simpa [cz] using h
 refine⟨_,rfl,aa (fun h=>?_) (fun h=>?_)⟩
 ·obtain rfl:op=2:=by simpa [cz] using h
  exact⟨trivial,trivial,rfl⟩
 have n2:¬op=2:=by simpa [cz] using h
 refine⟨_,rfl,aa (fun h=>?_) (fun h=>?_)⟩
 ·obtain rfl:op=3:=by simpa [cz] using h
  exact⟨trivial,trivial,rfl⟩
 have n3:¬op=3:=by simpa [cz] using h
 refine⟨_,rfl,aa (fun h=>?_) (fun h=>?_)⟩
 ·obtain rfl:op=4:=by simpa [cz] using h
  exact⟨trivial,trivial,rfl⟩
 have n4:¬op=4:=by simpa [cz] using h
 refine⟨_,rfl,aa (fun h=>?_) (fun h=>?_)⟩
 ·obtain rfl:op=5:=by simpa [cz] using h
  exact⟨trivial,trivial,rfl⟩
 have n5:¬op=5:=by simpa [cz] using h
 refine⟨_,rfl,aa (fun h=>?_) (fun h=>?_)⟩
 ·obtain rfl:op=6:=by simpa [cz] using h
  exact⟨trivial,trivial,rfl⟩
 have n6:¬op=6:=by simpa [cz] using h
 refine⟨trivial,trivial,?_⟩
 simp [Sb,n1,n2,n3,n4,n5,n6]
theorem oL {α β:Type} {l:List α} {f:α->β} {i:Nat} {x:α} (hx:l[i]?=some x):(l.take i).map f++[f x]=(l.take (i+1)).map f:=by
 rw [←l_ hx];simp
theorem RS:∀(e:Ex),BF e<=4194304->VS prog 106 [q8 e] (fun r=>r=q8 e)
 |.mk k n v ks,hB=>by
  have hks:qf ks<=4194304:=by simp only [BF] at hB;omega
  have hk:=Nat.le_trans (B9 ks) hks
  have ih:∀e∈ks,VS prog 106 [q8 e] (fun r=>r=q8 e):=fun e he=>RS e (Nat.le_trans (B8 he) hks)
  refine WG _ _ ?_
  unfold ZN
  (repeat (first|refine⟨rfl,?_⟩|refine⟨_,bq,?_⟩|refine⟨_,br,?_⟩|refine⟨_,rfl,?_⟩|refine⟨_,bg _,?_⟩|refine⟨_,⟨rfl,rfl⟩,?_⟩|refine nh ?_|refine m_ ?_|refine m9 ?_|refine m8 ?_|refine jt ?_|refine kq ?_|refine ni ?_|refine ng ?_))
  refine⟨fun m o7 l8 o9 l10 x11 x12 x13=>∃i:Nat,i<=ks.length/\m=ks.length - i/\o7=.a [ii k,ii n,ii v,.l []]/\l8=(ks.take i).map q8/\o9=.a [ii 0,ii 0,ii 0,.l []]/\x11=.l (o_ ks)/\x12=ii ks.length/\x13=ii i,
   ⟨_,0,by omega,rfl,rfl,rfl,rfl,rfl,by rw [ql],rfl⟩,?_⟩
  rintro m o7 l8 o9 l10 x11 x12 x13 ⟨i,hi,rfl,rfl,rfl,rfl,rfl,rfl,rfl⟩
  refine⟨_,rfl,aa (fun h3=>?_) (fun h3=>?_)⟩
  ·replace h3:=ek h3
   obtain⟨x,hx⟩:∃x,ks[i]?=some x:=⟨_,List.getElem?_eq_getElem h3⟩
   have hx':(o_ ks)[i]?=some (q8 x):=by rw [mc,List.getElem?_map,hx];rfl
   have hih:=ih x (List.mem_of_getElem? hx)
   refine⟨_,⟨eu hx',Ip x⟩,?_⟩
   have hl:((ks.take i).map q8).length<=4194304:=by simp;omega
   have ht:=oL (f:=q8) hx
   obtain⟨k',n',v',ks'⟩:=x
   (repeat (first|refine⟨rfl,?_⟩|refine⟨_,bq,?_⟩|refine⟨_,br,?_⟩|refine⟨_,rfl,?_⟩|refine⟨_,bg _,?_⟩|refine⟨_,⟨rfl,rfl⟩,?_⟩|refine nh ?_|refine m_ ?_|refine m9 ?_|refine m8 ?_|refine jt ?_|refine kq ?_|refine bx hih ?_|refine ni ?_|refine gB _ (fun h=>by first|exact a_ hih|(rw [h];exact a_ hih)) ?_|refine ng ?_|refine gO _ (fun h=>by first|exact a_ hih|(rw [h];exact a_ hih)) ?_))
   refine⟨_,ve,?_⟩
   rw [ht]
   exact⟨_,rfl,_,c_ h3 (by omega),_,by omega,i+1,by omega,rfl,rfl,rfl,rfl,rfl,rfl,rfl⟩
  ·obtain rfl:=gQ hi h3
   (repeat (first|refine⟨rfl,?_⟩|refine⟨_,bq,?_⟩|refine⟨_,br,?_⟩|refine⟨_,rfl,?_⟩|refine⟨_,bg _,?_⟩|refine⟨_,⟨rfl,rfl⟩,?_⟩|refine nh ?_|refine m_ ?_|refine m9 ?_|refine m8 ?_|refine jt ?_|refine kq ?_|refine ni ?_|refine ng ?_))
   refine⟨trivial,_,rfl,_,rfl,trivial,?_⟩
   rw [List.take_length,←mc];rfl
theorem TF (c:Co) (hB:Gy c<=4194304):VS prog 107 [LJ c] (fun r=>r=LJ c):=by
 obtain⟨op,l,r⟩:=c
 simp only [Gy] at hB
 have hl:=RS l (by omega)
 have hr:=RS r (by omega)
 obtain⟨k1,n1,v1,ks1⟩:=l
 obtain⟨k2,n2,v2,ks2⟩:=r
 refine WE _ _ ?_
 unfold ZM
 (repeat (first|refine⟨rfl,?_⟩|refine⟨_,bq,?_⟩|refine⟨_,br,?_⟩|refine⟨_,rfl,?_⟩|refine⟨_,bg _,?_⟩|refine⟨_,⟨rfl,rfl⟩,?_⟩|refine nh ?_|refine m_ ?_|refine m9 ?_|refine m8 ?_|refine jt ?_|refine kq ?_|refine bx hl ?_|refine bx hr ?_|refine ni ?_|refine gB _ (fun h=>by first|exact a_ hl|(rw [h];exact a_ hl)) ?_|refine gB _ (fun h=>by first|exact a_ hr|(rw [h];exact a_ hr)) ?_|refine ng ?_|refine gO _ (fun h=>by first|exact a_ hl|(rw [h];exact a_ hl)) ?_|refine gO _ (fun h=>by first|exact a_ hr|(rw [h];exact a_ hr)) ?_))
 exact⟨trivial,_,rfl,trivial,rfl⟩
theorem Yq (c:Co) (hB:Gy c<=4194304):VS prog 109 [LJ c] (fun r=>r=LJ (BN c)):=by
 have h:=TF c hB
 obtain⟨op,l,r⟩:=c
 obtain⟨k1,n1,v1,ks1⟩:=l
 obtain⟨k2,n2,v2,ks2⟩:=r
 refine WD _ _ ?_
 unfold ZL
 (repeat (first|refine⟨rfl,?_⟩|refine⟨_,bq,?_⟩|refine⟨_,br,?_⟩|refine⟨_,rfl,?_⟩|refine⟨_,bg _,?_⟩|refine⟨_,⟨rfl,rfl⟩,?_⟩|refine nh ?_|refine m_ ?_|refine m9 ?_|refine m8 ?_|refine jt ?_|refine kq ?_|refine bx h ?_|refine bx (Yn _) ?_|refine ni ?_|refine gB _ (fun h=>by first|exact a_ h|(rw [h];exact a_ h)) ?_|refine gB _ (fun h=>by first|exact a_ (Yn _)|(rw [h];exact a_ (Yn _))) ?_|refine ng ?_|refine gO _ (fun h=>by first|exact a_ h|(rw [h];exact a_ h)) ?_|refine gO _ (fun h=>by first|exact a_ (Yn _)|(rw [h];exact a_ (Yn _))) ?_))
 exact⟨trivial,_,rfl,trivial,rfl⟩
def oG (g:Gr):TV:=.a [ii g.nodes,.l [],.l []]
def eE (g:Gr):List TV:=g.dm.map qz
def eH (g:Gr):List TV:=g.heads.map ii
theorem t84 (g:Gr) (e:Ed) (hn:g.dm.length<=100000000) (Q:TV->List TV->List TV->TV->Prop) (h:Q (oG (g.dj e)) (eE (g.dj e)) (eH (g.dj e)) (.tp [])):Re Q (oG g) (eE g) (eH g) (qz e):=by
 have hl:(eE g).length<=100000000:=by simp [eE];omega
 have he:eE (g.dj e)=eE g++[qz e]:=by simp [eE,Gr.dj]
 rw [he] at h
 refine sh84 _ _ _ _ _ ?_
 obtain⟨a,b,c,d,f,t,⟨k1,n1,v1,ks1⟩,⟨op,⟨k2,n2,v2,ks2⟩,⟨k3,n3,v3,ks3⟩⟩⟩:=e
 unfold Vu
 (repeat (first|refine⟨rfl,?_⟩|refine⟨_,bq,?_⟩|refine⟨_,br,?_⟩|refine⟨_,rfl,?_⟩|refine⟨_,bg _,?_⟩|refine⟨_,⟨rfl,rfl⟩,?_⟩|refine nh ?_|refine m_ ?_|refine m9 ?_|refine m8 ?_|refine jt ?_|refine kq ?_|refine ni ?_|refine ng ?_))
 refine⟨_,ve,?_⟩
 (repeat (first|refine⟨rfl,?_⟩|refine⟨_,bq,?_⟩|refine⟨_,br,?_⟩|refine⟨_,rfl,?_⟩|refine⟨_,bg _,?_⟩|refine⟨_,⟨rfl,rfl⟩,?_⟩|refine nh ?_|refine m_ ?_|refine m9 ?_|refine m8 ?_|refine jt ?_|refine kq ?_|refine ni ?_|refine ng ?_))
 exact⟨trivial,trivial,h⟩
theorem t85 (g:Gr) (hn:0<=g.nodes/\g.nodes<=100000000) (Q:TV->List TV->List TV->TV->Prop) (h:Q (oG g.node) (eE g.node) (eH g.node) (ii g.nodes)):VQ Q (oG g) (eE g) (eH g):=by
 refine sh85 _ _ _ _ ?_
 unfold Vt
 (repeat (first|refine⟨rfl,?_⟩|refine⟨_,bq,?_⟩|refine⟨_,br,?_⟩|refine⟨_,rfl,?_⟩|refine⟨_,bg _,?_⟩|refine⟨_,⟨rfl,rfl⟩,?_⟩|refine nh ?_|refine m_ ?_|refine m9 ?_|refine m8 ?_|refine jt ?_|refine kq ?_|refine ni ?_|refine ng ?_))
 refine⟨trivial,?_⟩
 rw [show g.nodes+1 - 1=g.nodes by omega]
 exact h
structure grow (g g':Gr) (n:Nat):Prop where
 lo:g.nodes<=g'.nodes
 hi:g'.nodes<=g.nodes+n
 e:g'.dm.length<=g.dm.length+n
 h:g'.heads.length<=g.heads.length+n
theorem grow.refl (g:Gr):grow g g 0:=⟨by omega,by omega,by omega,by omega⟩
theorem grow.trans {g1 g2 g3:Gr} {n m:Nat} (h:grow g1 g2 n) (h':grow g2 g3 m):grow g1 g3 (n+m):=
 ⟨by have:=h.lo;have:=h'.lo;omega,by have:=h.hi;have:=h'.hi;omega,by have:=h.e;have:=h'.e;omega,by have:=h.h;have:=h'.h;omega⟩
theorem grow.le {g1 g2:Gr} {n m:Nat} (h:grow g1 g2 n) (hm:n<=m):grow g1 g2 m:=
 ⟨h.lo,by have:=h.hi;omega,by have:=h.e;omega,by have:=h.h;omega⟩
theorem xl (g:Gr) (e:Ed):grow g (g.dj e) 1:=⟨by simp [Gr.dj],by simp [Gr.dj];omega,by simp [Gr.dj],by simp [Gr.dj]⟩
theorem He (g:Gr):grow g g.node 1:=⟨by simp [Gr.node];omega,by simp [Gr.node],by simp [Gr.node],by simp [Gr.node]⟩
theorem A9 (g:Gr) (e:Ed):grow g (g.node.dj e) 1:=⟨by simp [Gr.node,Gr.dj];omega,by simp [Gr.node,Gr.dj],by simp [Gr.node,Gr.dj],by simp [Gr.node,Gr.dj]⟩
mutual
theorem EM:∀(s:Sm) (a b:Int) (g:Gr),grow g (KA s a b g) (B7 s - 1)
 |.mk kind var chan tag e c body els c7,a,b,g=>by
  have hs:B7 (.mk kind var chan tag e c body els c7)=5+BF e+Gy c+gP body+gP els+mw c7:=by rw [B7]
  rw [hs,KA]
  split
  ·exact(xl _ _).le (by omega)
  split
  ·have h1:=(A9 g ⟨a,g.nodes,2,0,0,0,lY,c⟩).trans (uk body g.nodes b _)
   have h2:=h1.trans (A9 _ ⟨a,(ym body g.nodes b (g.node.dj ⟨a,g.nodes,2,0,0,0,lY,c⟩)).nodes,2,0,0,0,lY,BN c⟩)
   exact(h2.trans (uk els _ b _)).le (by omega)
  split
  ·have h0:grow g ((((g.head a).node).dj ⟨a,g.nodes,2,0,0,0,lY,c⟩).dj ⟨a,b,2,0,0,0,lY,BN c⟩) 2:=⟨by simp [Gr.node,Gr.dj,Gr.head];omega,by simp [Gr.node,Gr.dj,Gr.head];try omega,by simp [Gr.node,Gr.dj,Gr.head],by simp [Gr.node,Gr.dj,Gr.head]⟩
   exact(h0.trans (uk body g.nodes a _)).le (by omega)
  split
  ·exact(xl _ _).le (by omega)
  split
  ·exact(Kp chan c7 a b g).le (by omega)
  split
  ·exact(xl _ _).le (by omega)
  split
  ·exact(xl _ _).le (by omega)
  ·exact(grow.refl g).le (by omega)
theorem uk:∀(l:List Sm) (a b:Int) (g:Gr),grow g (ym l a b g) (gP l+1)
 |[],a,b,g=>by rw [ym];exact(xl _ _).le (by omega)
 |[s],a,b,g=>by rw [ym];exact(EM s a b g).le (by simp [gP];omega)
 |s::t::r,a,b,g=>by
  rw [ym]
  have h1:=EM s a g.nodes g.node
  have h2:=uk (t::r) g.nodes b (KA s a g.nodes g.node)
  have h0:=((He g).trans h1).trans h2
  have:=AM s
  exact h0.le (by simp only [gP];omega)
theorem Kp:∀(chan:Int) (l:List Ar) (a b:Int) (g:Gr),grow g (Hz chan l a b g) (mw l)
 |chan,[],a,b,g=>by rw [Hz];exact(grow.refl g).le (by simp [mw])
 |chan,.mk tag var body::r,a,b,g=>by
  rw [Hz]
  have h1:=(A9 g ⟨a,g.nodes,4,var,chan,tag,lY,oS⟩).trans (uk body g.nodes b _)
  exact(h1.trans (Kp chan r a b _)).le (by simp only [mw,OA];omega)
end
end Go.Ax.eo

set_option maxRecDepth 100000
namespace Go.Ax.eo
open Go Go.Ax Go.Ax.V Go.Ax.Ft
structure fits (g:Gr) (n:Nat):Prop where
 lo:0<=g.nodes
 nn:g.nodes+n<=100000000
 e:g.dm.length+n<=100000000
 h:g.heads.length+n<=100000000
theorem fits.le {g:Gr} {n m:Nat} (h:fits g n) (hm:m<=n):fits g m:=⟨h.lo,by have:=h.nn;omega,by have:=h.e;omega,by have:=h.h;omega⟩
theorem fits.grow {g g':Gr} {n m:Nat} (h:fits g (n+m)) (hg:grow g g' n):fits g' m:=
 ⟨by have:=h.lo;have:=hg.lo;omega,by have:=h.nn;have:=hg.hi;omega,by have:=h.e;have:=hg.e;omega,by have:=h.h;have:=hg.h;omega⟩
def ZQ (s:Sm):Prop:=∀(g:Gr) (a b:Int),fits g (B7 s)->∀Q:TV->List TV->List TV->TV->Prop,Q (oG (KA s a b g)) (eE (KA s a b g)) (eH (KA s a b g)) (.tp [])->S86 Q (oG g) (eE g) (eH g) (pz s) (ii a) (ii b)
def Kt (l:List Sm):Prop:=∀(g:Gr) (a b:Int),fits g (gP l+1)->∀Q:TV->List TV->List TV->TV->Prop,Q (oG (ym l a b g)) (eE (ym l a b g)) (eH (ym l a b g)) (.tp [])->VT Q (oG g) (eE g) (eH g) (.l (gq l)) (ii a) (ii b)
theorem OI {es:List TV} {k:Nat} (hk:k<=es.length):Tr (.l es) none (some (ii k))=some (.l (es.take k)):=by
 have h1:Rr (k:Int) es.length=some k:=by
  show (bif Nat.ble k es.length then some k else none)=some k
  rw [Nat.ble_eq_true_of_le hk];rfl
 show (match Gk none (some (ii k)) es.length with|some (l,h)=>some (TV.l ((es.drop l).take (h - l)))|none=>none)=_
 unfold Gk Rq
 simp only [h1]
 rfl
theorem HI {n:Nat} {es:List TV} (h:∀e∈es,dh n e):gX n es:=by
 cases es with
 |nil=>trivial
 |cons e r=>exact h e List.mem_cons_self
theorem Tn (l:List Sm):gX 20 (gq l):=HI (fun e he=>by
 rw [lE] at he
 obtain⟨s,_,rfl⟩:=List.mem_map.1 he
 exact yx s)
theorem PY {s:Sm} {r:List Sm} (hr:r≠[]) (a b:Int) (g:Gr):ym (s::r) a b g=ym r g.nodes b (KA s a g.nodes g.node):=by
 cases r with
 |nil=>exact absurd rfl hr
 |cons t r=>rw [ym]
theorem Gx {l:List Sm} {i:Nat} {s:Sm} (h:l[i]?=some s):gP (l.drop i)=B7 s+gP (l.drop (i+1)):=by
 rw [drop_cons h,gP]
theorem t62 (l:List Sm) (hs:∀s∈l,ZQ s):Kt l:=by
 intro g a b hf Q hQ
 have hll:=tv l
 have hfn:=hf.nn
 have hfl:=hf.lo
 have hfe:=hf.e
 refine sh62 _ _ _ _ _ _ _ ?_
 unfold Vw
 refine⟨_,rfl,_,rfl,aa (fun h=>?_) (fun h=>?_)⟩
 ·have hl:l=[]:=by
   simp only [cz,ja,decide_eq_true_eq] at h
   exact List.length_eq_zero_iff.1 (by omega)
  subst hl
  rw [ym] at hQ
  refine⟨_,rfl,_,rfl,_,rfl,?_⟩
  exact t84 g ⟨a,b,0,0,0,0,lY,oS⟩ (by omega) _ ⟨trivial,trivial,hQ⟩
 ·have hl:l.length≠0:=by
   simp only [cz,ja,decide_eq_false_iff_not] at h
   omega
  have hen:=ja l
  refine⟨_,rfl,_,bq,?_⟩
  rw [hen,show ((l.length:Int) - 1)=((l.length - 1:Nat):Int) by omega]
  refine⟨_,⟨OI (by omega),fun es he=>by cases he;exact Tn l⟩,_,rfl,?_⟩
  have htl:((gq l).take (l.length - 1)).length=l.length - 1:=by rw [List.length_take];omega
  rw [htl]
  refine⟨fun m o17 l18 l19 x20 x21 x22 x23 x24 x25=>∃(i:Nat) (G:Gr) (a':Int),i<=l.length - 1/\m=l.length - 1 - i/\o17=oG G/\l18=eE G/\l19=eH G/\x20=.l (gq l)/\x21=ii a'/\x22=ii b/\x23=.l ((gq l).take (l.length - 1))/\x24=ii ((l.length - 1:Nat):Int)/\x25=ii i/\
   ym l a b g=ym (l.drop i) a' b G/\fits G (gP (l.drop i)+1),⟨_,0,g,a,by omega,rfl,rfl,rfl,rfl,rfl,rfl,rfl,rfl,rfl,rfl,rfl,hf⟩,?_⟩
  rintro m o17 l18 l19 x20 x21 x22 x23 x24 x25 ⟨i,G,a',hi,rfl,rfl,rfl,rfl,rfl,rfl,rfl,rfl,rfl,rfl,hla,hfit⟩
  refine⟨_,rfl,aa (fun h3=>?_) (fun h3=>?_)⟩
  ·replace h3:=ek h3
   obtain⟨x,hx⟩:∃x,l[i]?=some x:=⟨_,List.getElem?_eq_getElem (by omega)⟩
   have hx':((gq l).take (l.length - 1))[i]?=some (pz x):=by rw [List.getElem?_take,if_pos h3,lE,List.getElem?_map,hx];rfl
   have h86:=hs x (List.mem_of_getElem? hx)
   have hdr:=Gx hx
   have hne:l.drop (i+1)≠[]:=by
    intro hc
    have:=congrArg List.length hc
    simp at this;omega
   rw [drop_cons hx,PY hne] at hla
   have hfn:=hfit.nn
   have hfl:=hfit.lo
   have hpos:=AM x
   have hf1:fits G.node (B7 x - 1+(gP (l.drop (i+1))+1)):=(hfit.le (m:=1+(B7 x - 1+(gP (l.drop (i+1))+1))) (by omega)).grow (He G)
   have hf2:=hf1.grow (EM x a' G.nodes G.node)
   have hsz:fits G.node (B7 x):=hf1.le (by omega)
   refine⟨_,⟨eu hx',yx x⟩,?_⟩
   obtain⟨kind,var,chan,tag,⟨k1,n1,v1,ks1⟩,⟨op,⟨k2,n2,v2,ks2⟩,⟨k3,n3,v3,ks3⟩⟩,body,els,c7⟩:=x
   refine⟨_,rfl,_,rfl,t85 G (by omega) _ ?_⟩
   refine⟨_,rfl,h86 G.node a' G.nodes hsz _ ?_⟩
   refine⟨_,c_ h3 (by omega),_,by omega,i+1,_,_,by omega,rfl,rfl,rfl,rfl,rfl,rfl,rfl,rfl,rfl,rfl,hla,hf2⟩
  ·obtain rfl:=gQ hi h3
   obtain⟨x,hx⟩:∃x,l[l.length - 1]?=some x:=⟨_,List.getElem?_eq_getElem (by omega)⟩
   have hx':(gq l)[l.length - 1]?=some (pz x):=by rw [lE,List.getElem?_map,hx];rfl
   have h86:=hs x (List.mem_of_getElem? hx)
   have hdr:=Gx hx
   have hd0:l.drop (l.length - 1+1)=[]:=by rw [List.drop_eq_nil_iff];omega
   rw [drop_cons hx,hd0,ym] at hla
   rw [hla] at hQ
   refine⟨_,rfl,_,bq,?_⟩
   rw [hen,show ((l.length:Int) - 1)=((l.length - 1:Nat):Int) by omega]
   refine⟨_,⟨eu hx',yx x⟩,?_⟩
   have hsz:fits G (B7 x):=hfit.le (by omega)
   obtain⟨kind,var,chan,tag,⟨k1,n1,v1,ks1⟩,⟨op,⟨k2,n2,v2,ks2⟩,⟨k3,n3,v3,ks3⟩⟩,body,els,c7⟩:=x
   exact⟨_,rfl,h86 G a' b hsz _ ⟨trivial,trivial,hQ⟩⟩
end Go.Ax.eo

set_option maxRecDepth 100000
namespace Go.Ax.eo
open Go Go.Ax Go.Ax.V Go.Ax.Ft
theorem t108 (l:List Sm) (hl:Kt l) (c:Co) (g:Gr) (a b:Int) (hf:fits g (1+(gP l+1))) (Q:TV->List TV->List TV->TV->Prop)
  (hQ:Q (oG (ym l g.nodes b (g.node.dj ⟨a,g.nodes,2,0,0,0,lY,c⟩))) (eE (ym l g.nodes b (g.node.dj ⟨a,g.nodes,2,0,0,0,lY,c⟩))) (eH (ym l g.nodes b (g.node.dj ⟨a,g.nodes,2,0,0,0,lY,c⟩))) (.tp [])) :
  SO Q (oG g) (eE g) (eH g) (LJ c) (.l (gq l)) (ii a) (ii b):=by
 have hn:=hf.nn
 have hlo:=hf.lo
 have he:=hf.e
 have hf2:=hf.grow (A9 g ⟨a,g.nodes,2,0,0,0,lY,c⟩)
 have h84:=t84 g.node ⟨a,g.nodes,2,0,0,0,lY,c⟩ (by simp only [Gr.node];omega)
 obtain⟨op,⟨k2,n2,v2,ks2⟩,⟨k3,n3,v3,ks3⟩⟩:=c
 refine Ya _ _ _ _ _ _ _ _ ?_
 unfold Rb
 refine⟨rfl,t85 g (by omega) _ ?_⟩
 refine⟨_,rfl,_,rfl,_,rfl,_,rfl,_,rfl,_,rfl,h84 _ ?_⟩
 exact hl _ _ _ hf2 _ ⟨trivial,trivial,hQ⟩
theorem t110 (kind var chan tag:Int) (e:Ex) (c:Co) (body els:List Sm) (c7:List Ar) (hc:Gy c<=4194304) (hl:Kt body) (g:Gr) (a b:Int) (hf:fits g (2+(gP body+1))) (Q:TV->List TV->List TV->TV->Prop)
  (hQ:let g':=ym body g.nodes a ((((g.head a).node).dj ⟨a,g.nodes,2,0,0,0,lY,c⟩).dj ⟨a,b,2,0,0,0,lY,BN c⟩)
   Q (oG g') (eE g') (eH g') (.tp [])):VB Q (oG g) (eE g) (eH g) (pz (.mk kind var chan tag e c body els c7)) (ii a) (ii b):=by
 have hn:=hf.nn
 have hlo:=hf.lo
 have he:=hf.e
 have hh:=hf.h
 have hlh:(eH g).length<=100000000:=by simp [eH];omega
 have h0:grow g ((((g.head a).node).dj ⟨a,g.nodes,2,0,0,0,lY,c⟩).dj ⟨a,b,2,0,0,0,lY,BN c⟩) 2:=⟨by simp [Gr.node,Gr.dj,Gr.head];omega,by simp [Gr.node,Gr.dj,Gr.head];try omega,by simp [Gr.node,Gr.dj,Gr.head],by simp [Gr.node,Gr.dj,Gr.head]⟩
 have hf2:=hf.grow h0
 have h84:=t84 (g.head a).node ⟨a,g.nodes,2,0,0,0,lY,c⟩ (by simp only [Gr.node,Gr.head];omega)
 have h84':=t84 ((g.head a).node.dj ⟨a,g.nodes,2,0,0,0,lY,c⟩) ⟨a,b,2,0,0,0,lY,BN c⟩ (by simp only [Gr.node,Gr.head,Gr.dj,List.length_append,List.length_singleton];omega)
 have h107:=TF c hc
 have h109:=Yq c hc
 have h85:=t85 (g.head a) (by simp only [Gr.head];omega)
 have heh:eH (g.head a)=eH g++[ii a]:=by simp [eH,Gr.head]
 rw [heh] at h85
 obtain⟨k1,n1,v1,ks1⟩:=e
 obtain⟨op,⟨k2,n2,v2,ks2⟩,⟨k3,n3,v3,ks3⟩⟩:=c
 refine X_ _ _ _ _ _ _ _ ?_
 unfold Ra
 refine⟨rfl,rfl,rfl,_,rfl,rfl,_,ve,_,rfl,h85 _ ?_⟩
 refine⟨_,rfl,bx h107 ⟨_,rfl,_,rfl,_,rfl,_,rfl,_,rfl,h84 _ ?_⟩⟩
 refine⟨_,rfl,bx h109 ⟨_,rfl,_,rfl,_,rfl,_,rfl,_,rfl,h84' _ ?_⟩⟩
 refine⟨_,rfl,hl _ _ _ hf2 _ ⟨trivial,trivial,hQ⟩⟩
theorem t111 (kind var chan tag:Int) (e:Ex) (c:Co) (body els:List Sm) (c7:List Ar) (hl:∀tag var body,Ar.mk tag var body∈c7->Kt body) (g:Gr) (a b:Int) (hf:fits g (mw c7)) (Q:TV->List TV->List TV->TV->Prop)
  (hQ:Q (oG (Hz chan c7 a b g)) (eE (Hz chan c7 a b g)) (eH (Hz chan c7 a b g)) (.tp [])):VA Q (oG g) (eE g) (eH g) (pz (.mk kind var chan tag e c body els c7)) (ii a) (ii b):=by
 have hlen:=B_ c7
 have hn:=hf.nn
 have hlo:=hf.lo
 obtain⟨k1,n1,v1,ks1⟩:=e
 obtain⟨op,⟨k2,n2,v2,ks2⟩,⟨k3,n3,v3,ks3⟩⟩:=c
 refine X9 _ _ _ _ _ _ _ ?_
 unfold Q_
 refine⟨rfl,_,rfl,_,rfl,?_⟩
 rw [ji]
 refine⟨fun m o6 l7 l8 o9 x10 x11 x12 x13 x14=>∃(i:Nat) (G:Gr),i<=c7.length/\m=c7.length - i/\o6=oG G/\l7=eE G/\l8=eH G/\o9=pz (.mk kind var chan tag (.mk k1 n1 v1 ks1) ⟨op,.mk k2 n2 v2 ks2,.mk k3 n3 v3 ks3⟩ body els c7)/\x10=ii a/\x11=ii b/\x12=.l (oC c7)/\x13=ii c7.length/\x14=ii i/\
   Hz chan c7 a b g=Hz chan (c7.drop i) a b G/\fits G (mw (c7.drop i)),⟨_,0,g,by omega,rfl,rfl,rfl,rfl,rfl,rfl,rfl,rfl,rfl,rfl,rfl,hf⟩,?_⟩
 rintro m o6 l7 l8 o9 x10 x11 x12 x13 x14 ⟨i,G,hi,rfl,rfl,rfl,rfl,rfl,rfl,rfl,rfl,rfl,rfl,har,hfit⟩
 refine⟨_,rfl,aa (fun h3=>?_) (fun h3=>?_)⟩
 ·replace h3:=ek h3
  obtain⟨x,hx⟩:∃x,c7[i]?=some x:=⟨_,List.getElem?_eq_getElem h3⟩
  have hx':(oC c7)[i]?=some (Ec x):=by rw [oB,List.getElem?_map,hx];rfl
  obtain⟨t,v,bd⟩:=x
  have hb:=hl t v bd (List.mem_of_getElem? hx)
  rw [drop_cons hx,Hz] at har
  rw [drop_cons hx,mw,OA] at hfit
  have hfn:=hfit.nn
  have hfl:=hfit.lo
  have hfe:=hfit.e
  have hf1:fits (G.node.dj ⟨a,G.nodes,4,v,chan,t,lY,oS⟩) ((gP bd+1)+mw (c7.drop (i+1))):=(hfit.le (m:=1+((gP bd+1)+mw (c7.drop (i+1)))) (by omega)).grow (A9 G _)
  have hf2:=hf1.grow (uk bd G.nodes b _)
  have h84:=t84 G.node ⟨a,G.nodes,4,v,chan,t,lY,oS⟩ (by simp only [Gr.node];omega)
  refine⟨_,⟨eu hx',rfl⟩,_,rfl,_,rfl,t85 G (by omega) _ ?_⟩
  refine⟨_,rfl,_,rfl,_,rfl,_,rfl,_,rfl,_,rfl,_,rfl,_,rfl,_,rfl,_,rfl,h84 _ ?_⟩
  refine⟨_,rfl,hb _ _ _ (hf1.le (by omega)) _ ?_⟩
  exact⟨_,c_ h3 (by omega),_,by omega,i+1,_,by omega,rfl,rfl,rfl,rfl,rfl,rfl,rfl,rfl,rfl,rfl,har,hf2⟩
 ·obtain rfl:=gQ hi h3
  rw [List.drop_length,Hz] at har
  rw [har] at hQ
  exact⟨trivial,trivial,hQ⟩
theorem t86:∀(n:Nat) (s:Sm),B7 s<=n->n<=4194304->ZQ s:=by
 intro n
 induction n with
 |zero=>intro s hs;have:=AM s;omega
 |succ n ih=>
  intro s hs hn
  obtain⟨kind,var,chan,tag,e,c,body,els,c7⟩:=s
  intro g a b hf Q hQ
  rw [B7] at hs hf
  have hbody:Kt body:=t62 body (fun s hs'=>ih s (by have:=nj hs';omega) (by omega))
  have hels:Kt els:=t62 els (fun s hs'=>ih s (by have:=nj hs';omega) (by omega))
  have harms:∀tag var body,Ar.mk tag var body∈c7->Kt body:=fun tag var body hm=>t62 body (fun s hs'=>ih s (by
   have:=zo hm;simp only [OA] at this;have:=nj hs';omega) (by omega))
  have h106:=RS e (by omega)
  have h107:=TF c (by omega)
  have h109:=Yq c (by omega)
  have t110':=t110 kind var chan tag e c body els c7 (by omega) hbody g a b (hf.le (by omega))
  have t111':=t111 kind var chan tag e c body els c7 harms g a b (hf.le (by omega))
  have hfe:=hf.e
  have h108:=t108 body hbody c g a b (hf.le (by omega))
  have hgb:=(A9 g ⟨a,g.nodes,2,0,0,0,lY,c⟩).trans (uk body g.nodes b (g.node.dj ⟨a,g.nodes,2,0,0,0,lY,c⟩))
  have hfb:=(hf.le (m:=(1+(gP body+1))+(1+(gP els+1))) (by omega)).grow hgb
  have h108':=t108 els hels (BN c) (ym body g.nodes b (g.node.dj ⟨a,g.nodes,2,0,0,0,lY,c⟩)) a b hfb
  have h1:=t84 g ⟨a,b,1,var,0,0,e,oS⟩ (by omega)
  have h4:=t84 g ⟨a,b,3,0,chan,tag,e,oS⟩ (by omega)
  have h6:=t84 g ⟨a,b,5,0,0,0,lY,c⟩ (by omega)
  have h7:=t84 g ⟨a,b,6,var,0,0,lY,oS⟩ (by omega)
  obtain⟨k1,n1,v1,ks1⟩:=e
  obtain⟨op,⟨k2,n2,v2,ks2⟩,⟨k3,n3,v3,ks3⟩⟩:=c
  refine sh86 _ _ _ _ _ _ _ ?_
  rw [KA] at hQ
  unfold Vq
  refine⟨rfl,_,rfl,_,rfl,aa (fun h=>?_) (fun h=>?_)⟩
  ·obtain rfl:kind=1:=by simpa [cz] using h
   rw [if_pos rfl] at hQ
   exact⟨_,rfl,_,rfl,bx h106 ⟨_,rfl,_,rfl,_,rfl,_,rfl,_,rfl,_,rfl,h1 _ ⟨trivial,trivial,hQ⟩⟩⟩
  have m1:¬kind=1:=by simpa [cz] using h
  rw [if_neg m1] at hQ
  refine⟨_,rfl,aa (fun h=>?_) (fun h=>?_)⟩
  ·obtain rfl:kind=4:=by simpa [cz] using h
   rw [if_neg (by decide),if_neg (by decide),if_pos rfl] at hQ
   exact⟨_,rfl,_,rfl,_,rfl,bx h106 ⟨_,rfl,_,rfl,_,rfl,_,rfl,_,rfl,_,rfl,_,rfl,h4 _ ⟨trivial,trivial,hQ⟩⟩⟩
  have m4:¬kind=4:=by simpa [cz] using h
  refine⟨_,rfl,aa (fun h=>?_) (fun h=>?_)⟩
  ·obtain rfl:kind=6:=by simpa [cz] using h
   rw [if_neg (by decide),if_neg (by decide),if_neg (by decide),if_neg (by decide),if_pos rfl] at hQ
   exact⟨_,rfl,bx h107 ⟨_,rfl,_,rfl,_,rfl,_,rfl,_,rfl,h6 _ ⟨trivial,trivial,hQ⟩⟩⟩
  have m6:¬kind=6:=by simpa [cz] using h
  refine⟨_,rfl,aa (fun h=>?_) (fun h=>?_)⟩
  ·obtain rfl:kind=7:=by simpa [cz] using h
   rw [if_neg (by decide),if_neg (by decide),if_neg (by decide),if_neg (by decide),if_neg (by decide),if_pos rfl] at hQ
   exact⟨_,rfl,_,rfl,_,rfl,_,rfl,_,rfl,_,rfl,h7 _ ⟨trivial,trivial,hQ⟩⟩
  have m7:¬kind=7:=by simpa [cz] using h
  refine⟨_,rfl,aa (fun h=>?_) (fun h=>?_)⟩
  ·obtain rfl:kind=2:=by simpa [cz] using h
   rw [if_pos rfl] at hQ
   exact⟨_,rfl,bx h107 ⟨_,rfl,h108 _ ⟨_,rfl,bx h109 ⟨_,rfl,h108' _ ⟨trivial,trivial,hQ⟩⟩⟩⟩⟩
  have m2:¬kind=2:=by simpa [cz] using h
  refine⟨_,rfl,aa (fun h=>?_) (fun h=>?_)⟩
  ·obtain rfl:kind=3:=by simpa [cz] using h
   rw [if_neg (by decide),if_pos rfl] at hQ
   exact⟨_,rfl,t110' _ ⟨trivial,trivial,hQ⟩⟩
  have m3:¬kind=3:=by simpa [cz] using h
  refine⟨_,rfl,aa (fun h=>?_) (fun h=>?_)⟩
  ·obtain rfl:kind=5:=by simpa [cz] using h
   rw [if_neg (by decide),if_neg (by decide),if_neg (by decide),if_pos rfl] at hQ
   exact⟨_,rfl,t111' _ ⟨trivial,trivial,hQ⟩⟩
  have m5:¬kind=5:=by simpa [cz] using h
  rw [if_neg m2,if_neg m3,if_neg m4,if_neg m5,if_neg m6,if_neg m7] at hQ
  exact⟨trivial,trivial,hQ⟩
theorem u62 (l:List Sm) (hl:gP l<=4194304):Kt l:=t62 l (fun s hs=>t86 4194304 s (Nat.le_trans (nj hs) hl) (Nat.le_refl _))
end Go.Ax.eo

set_option maxRecDepth 100000
namespace Go.Ax.eo
open Go Go.Ax Go.Ax.V Go.Ax.Ft
theorem s56 (l:List Int) (hl:l.length<=4194304):VS prog 56 [qy l] (fun r=>r=qy l):=by
 refine vs56 _ _ ?_
 unfold W56
 refine⟨_,rfl,fun b hb=>aa (fun h=>?_) (fun h=>?_)⟩
 ·refine⟨trivial,trivial,?_⟩
  have:l=[]:=by
   cases l with
   |nil=>rfl
   |cons x r=>have:=hb (by simp);rw [h] at this;cases this
  subst this;rfl
 ·have hln:(l.map ii).length<=4194304:=by rw [List.length_map];exact hl
  exact⟨_,rfl,HI (fun e he=>by obtain⟨x,_,rfl⟩:=List.mem_map.1 he;rfl),_,ve,trivial,trivial,rfl⟩
theorem s61 (l:List Ch) (hl:l.length<=4194304) (hr:∀c∈l,c.rule.length<=4194304) (hr2:∀c∈l,∀r∈c.rule,r.length<=4194304):VS prog 61 [.l (l.map dy)] (fun r=>r=.l (l.map dy)):=by
 refine vs61 _ _ ?_
 unfold W61
 have hm:(l.map dy).length=l.length:=List.length_map _
 refine⟨_,rfl,fun m l6 x7 x8 x9=>∃i:Nat,i<=l.length/\m=l.length - i/\l6=(l.take i).map dy/\x7=.l (l.map dy)/\x8=ii l.length/\x9=ii i,⟨_,0,by omega,rfl,rfl,rfl,by rw [hm],rfl⟩,?_⟩
 rintro m l6 x7 x8 x9 ⟨i,hi,rfl,rfl,rfl,rfl,rfl⟩
 refine⟨_,rfl,aa (fun h3=>?_) (fun h3=>?_)⟩
 ·replace h3:=ek h3
  obtain⟨c,hx⟩:∃x,l[i]?=some x:=⟨_,List.getElem?_eq_getElem h3⟩
  have hx':(l.map dy)[i]?=some (dy c):=by rw [List.getElem?_map,hx];rfl
  have hc:=hr c (List.mem_of_getElem? hx)
  have hc2:=hr2 c (List.mem_of_getElem? hx)
  have hmr:(c.rule.map qy).length=c.rule.length:=List.length_map _
  refine⟨_,⟨eu hx',rfl⟩,?_⟩
  (repeat (first|refine⟨rfl,?_⟩|refine⟨_,bq,?_⟩|refine⟨_,br,?_⟩|refine⟨_,rfl,?_⟩|refine⟨_,bg _,?_⟩|refine⟨_,⟨rfl,rfl⟩,?_⟩|refine nh ?_|refine m_ ?_|refine m9 ?_|refine m8 ?_|refine jt ?_|refine kq ?_|refine ni ?_|refine ng ?_))
  refine⟨fun m o20 l21 l23 x25 x26 x27 x31 x32 x33=>∃j:Nat,j<=c.rule.length/\m=c.rule.length - j/\o20=dy {c with rule:=[]}/\l21=(c.rule.take j).map qy/\l23=(l.take i).map dy/\x25=.l (l.map dy)/\x26=ii l.length/\x27=ii i/\
   x31=.l (c.rule.map qy)/\x32=ii c.rule.length/\x33=ii j,⟨_,0,by omega,rfl,rfl,rfl,rfl,rfl,rfl,rfl,rfl,by rw [hmr],rfl⟩,?_⟩
  rintro m o20 l21 l23 x25 x26 x27 x31 x32 x33 ⟨j,hj,rfl,rfl,rfl,rfl,rfl,rfl,rfl,rfl,rfl,rfl⟩
  refine⟨_,rfl,aa (fun h5=>?_) (fun h5=>?_)⟩
  ·replace h5:=ek h5
   obtain⟨row,hy⟩:∃x,c.rule[j]?=some x:=⟨_,List.getElem?_eq_getElem h5⟩
   have hy':(c.rule.map qy)[j]?=some (qy row):=by rw [List.getElem?_map,hy];rfl
   have h56:=s56 row (hc2 row (List.mem_of_getElem? hy))
   have hl2:((c.rule.take j).map qy).length<=4194304:=by simp;omega
   have ht:=oL (f:=qy) hy
   refine⟨_,⟨eu hy',rfl⟩,_,rfl,bx h56 ⟨rfl,rfl,_,rfl,rfl,_,ve,?_⟩⟩
   rw [ht]
   exact⟨_,rfl,_,c_ h5 (by omega),_,by omega,j+1,by omega,rfl,rfl,rfl,rfl,rfl,rfl,rfl,rfl,rfl,rfl⟩
  ·obtain rfl:=gQ hj h5
   have hl2:((l.take i).map dy).length<=4194304:=by simp;omega
   have ht:=oL (f:=dy) hx
   refine⟨_,rfl,rfl,rfl,_,rfl,rfl,_,rfl,rfl,_,ve,?_⟩
   refine⟨_,c_ h3 (by omega),_,by omega,i+1,by omega,rfl,?_,rfl,rfl,rfl⟩
   rw [←ht,List.take_length];rfl
 ·obtain rfl:=gQ hi h3
  rw [List.take_length]
  exact⟨trivial,trivial,rfl⟩
theorem s155 (n:Int):VS prog 155 [ii n] (fun r=>r=.b false):=by
 refine Wm _ _ ?_
 unfold Zw
 (repeat (first|refine⟨rfl,?_⟩|refine⟨_,bq,?_⟩|refine⟨_,br,?_⟩|refine⟨_,rfl,?_⟩|refine⟨_,bg _,?_⟩|refine⟨_,⟨rfl,rfl⟩,?_⟩|refine nh ?_|refine m_ ?_|refine m9 ?_|refine m8 ?_|refine jt ?_|refine kq ?_|refine ni ?_|refine ng ?_))
 refine⟨trivial,trivial,?_⟩
 rw [cz];simp
end Go.Ax.eo

set_option maxRecDepth 100000
namespace Go.Ax.eo
open Go Go.Ax Go.Ax.V Go.Ax.Ft
theorem Fw {j n:Nat} (h:j < n):dz (ii j) n=some j:=by
 show Rn (j:Int) n=some j
 have hb:Nat.blt j n=true:=Nat.ble_eq_true_of_le h
 show (bif Nat.blt j n then some j else none)=some j
 rw [hb];rfl
theorem ld_n {es:List TV} {j:Nat} {a:Int} (h:es[j]?=some (ii a)):gA es j 0 none=some (ii a):=by
 unfold gA;rw [h];rfl
theorem Yb {es:List TV} {j:Nat} {a b:Int} (h:es[j]?=some (ii a)):fl es j 0 1 (ii b)=some (es.set j (ii b)):=by
 unfold fl;rw [h];rfl
end Go.Ax.eo

set_option maxRecDepth 100000
namespace Go.Ax.eo
open Go Go.Ax Go.Ax.V Go.Ax.Ft
def OB (hs:List Int) (j k:Int):List Int:=(hs.set j.toNat (hs.getD k.toNat 0)).set k.toNat (hs.getD j.toNat 0)
inductive Sw (a b:Int) (hs:List Int):List Int->Prop where
 |refl:Sw a b hs hs
 |step {hs':List Int} (j k:Int) (h:Sw a b hs hs') (h1:a<=j) (h2:j < b) (h3:a<=k) (h4:k < b):Sw a b hs (OB hs' j k)
theorem HK (hs:List Int) (j k:Int):(OB hs j k).length=hs.length:=by simp [OB]
theorem Sw.len {a b:Int} {hs hs':List Int} (h:Sw a b hs hs'):hs'.length=hs.length:=by
 induction h with
 |refl=>rfl
 |step j k h h1 h2 h3 h4 ih=>rw [HK,ih]
theorem Sw.trans {a b:Int} {h1 h2 h3:List Int} (h:Sw a b h1 h2) (h':Sw a b h2 h3):Sw a b h1 h3:=by
 induction h' with
 |refl=>exact h
 |step j k _ e1 e2 e3 e4 ih=>exact .step j k ih e1 e2 e3 e4
theorem Sw.wide {a b a' b':Int} {hs hs':List Int} (h:Sw a b hs hs') (ha:a'<=a) (hb:b<=b'):Sw a' b' hs hs':=by
 induction h with
 |refl=>exact .refl
 |step j k _ e1 e2 e3 e4 ih=>exact .step j k ih (by omega) (by omega) (by omega) (by omega)
theorem ga {hs:List Int} {j:Int} (h0:0<=j:=by omega) (h:j < hs.length:=by first|omega|(simp only [List.length_set];omega)):dz (ii j) (List.length (hs.map ii))=some j.toNat:=by
 have:=Fw (j:=j.toNat) (n:=(hs.map ii).length) (by rw [List.length_map];omega)
 rw [show ((j.toNat:Nat):Int)=j by omega] at this
 exact this
theorem Za {hs:List Int} {j:Int} (h0:0<=j) (h:j < hs.length):(hs.map ii)[j.toNat]?=some (ii (hs.getD j.toNat 0)):=by
 have hj:j.toNat < hs.length:=by omega
 rw [List.getElem?_map,List.getElem?_eq_getElem hj,List.getD_eq_getElem?_getD,List.getElem?_eq_getElem hj];rfl
theorem f_ {hs:List Int} {j:Int} (h0:0<=j:=by omega) (h:j < hs.length:=by first|omega|(simp only [List.length_set];omega)):gA (hs.map ii) j.toNat 0 none=some (ii (hs.getD j.toNat 0)):=ld_n (Za h0 h)
theorem gG {hs:List Int} {j x:Int} (h0:0<=j:=by omega) (h:j < hs.length:=by first|omega|(simp only [List.length_set];omega)):fl (hs.map ii) j.toNat 0 1 (ii x)=some ((hs.set j.toNat x).map ii):=by
 rw [Yb (Za h0 h),List.map_set]
theorem gH {a b:Int} (ha:0<=a:=by omega) (h2:a < 9223372036854775808:=by omega) (hb:0 < b:=by omega):b8 .quo (ii a) (ii b)=some (ii (a / b)):=by
 have e:a.tdiv b=a / b:=Int.tdiv_eq_ediv_of_nonneg ha
 have h3:a / b<=a:=Int.ediv_le_self b ha
 have h4:0<=a / b:=Int.ediv_nonneg ha (by omega)
 rw [←e]
 exact Yx (by omega) (by omega) (by omega)
theorem gI {a b:Int} (h1:-9223372036854775808<=a*b:=by omega) (h2:a*b < 9223372036854775808:=by omega):b8 .mul (ii a) (ii b)=some (ii (a*b)):=YQ h1 h2
theorem ew {x y:Int} {K:TV->Prop} (h1:x < y->K (.b true)) (h2:y<=x->K (.b false)):∃v,b8 .lss (ii x) (ii y)=some v/\K v:=by
 refine⟨.b (sw x y),rfl,?_⟩
 rw [lS]
 by_cases h:x < y
 ·rw [decide_eq_true h];exact h1 h
 ·rw [decide_eq_false h];exact h2 (by omega)
theorem fu {x y:Int} {K:TV->Prop} (h1:y < x->K (.b true)) (h2:x<=y->K (.b false)):∃v,b8 .gtr (ii x) (ii y)=some v/\K v:=by
 refine⟨.b (sw y x),rfl,?_⟩
 rw [lS]
 by_cases h:y < x
 ·rw [decide_eq_true h];exact h1 h
 ·rw [decide_eq_false h];exact h2 (by omega)
theorem fh {x y:Int} {K:TV->Prop} (h1:x<=y->K (.b true)) (h2:y < x->K (.b false)):∃v,b8 .leq (ii x) (ii y)=some v/\K v:=by
 refine⟨.b (!sw y x),rfl,?_⟩
 rw [lS]
 by_cases h:y < x
 ·rw [decide_eq_true h];exact h2 h
 ·rw [decide_eq_false h];exact h1 (by omega)
theorem er {x y:Int} {K:TV->Prop} (h1:y<=x->K (.b true)) (h2:x < y->K (.b false)):∃v,b8 .geq (ii x) (ii y)=some v/\K v:=by
 refine⟨.b (!sw x y),rfl,?_⟩
 rw [lS]
 by_cases h:x < y
 ·rw [decide_eq_true h];exact h2 h
 ·rw [decide_eq_false h];exact h1 (by omega)
theorem fj {x y:Int} {K:TV->Prop} (h1:x=y->K (.b true)) (h2:x≠y->K (.b false)):∃v,b8 .eql (ii x) (ii y)=some v/\K v:=by
 refine⟨.b (mh x y),rfl,?_⟩
 rw [cz]
 by_cases h:x=y
 ·rw [decide_eq_true h];exact h1 h
 ·rw [decide_eq_false h];exact h2 h
theorem fy (a b:Int):VS prog 118 [ii a,ii b] (fun r=>r=.b (sw a b)):=by
 refine WB _ _ _ ?_
 unfold ZK
 exact bx (s155 a) (bu rfl (bu rfl (bu rfl ⟨_,rfl,ax rfl rfl (ax rfl rfl (ax rfl rfl ⟨_,rfl,trivial,trivial,rfl⟩))⟩)))
attribute [local irreducible] Oc Ob L4 L3
theorem t112 (hs:List Int) (a b:Int) (ha:0<=a) (hb:b<=hs.length) (hn:hs.length<=100000000) (Q:List TV->TV->Prop) (hQ:∀hs',Sw a b hs hs'->Q (hs'.map ii) (.tp [])) (hab:a<=b):Oc Q (hs.map ii) (ii a) (ii b):=by
 refine X8 _ _ _ _ ?_
 unfold Q9
 (first|refine⟨_,bq,?_⟩|refine⟨_,br,?_⟩|refine⟨_,gI,?_⟩|refine⟨_,gH,?_⟩|refine⟨_,ga,?_⟩|refine⟨_,f_,?_⟩|refine⟨_,gG,?_⟩|refine ew (fun h=>?_) (fun h=>?_)|refine fu (fun h=>?_) (fun h=>?_)|refine fh (fun h=>?_) (fun h=>?_)|refine er (fun h=>?_) (fun h=>?_)|refine fj (fun h=>?_) (fun h=>?_)|refine⟨rfl,_,fun _=>ga,?_⟩|refine⟨rfl,0,(fun h=>by cases h),?_⟩|refine⟨rfl,ax rfl f_ ?_⟩|refine⟨rfl,bu rfl ?_⟩|refine ax rfl rfl ?_|refine ax rfl bq ?_|refine ax rfl br ?_|refine ax rfl (a_ (fy _ _)) ?_|refine ax rfl (bg _) ?_|refine bu rfl ?_|refine bx (fy _ _) ?_|refine⟨_,bg _,?_⟩|refine b_ rfl ?_|refine bp rfl ?_|refine aa (fun h=>?_) (fun h=>?_)|refine⟨_,rfl,?_⟩|fail)
 refine⟨fun n l5 x6 x7 x8=>∃(hs':List Int) (i:Int),Sw a b hs hs'/\n=(b - i).toNat/\a+1<=i/\l5=hs'.map ii/\x6=ii a/\x7=ii b/\x8=ii i,⟨_,hs,a+1,.refl,rfl,Int.le_refl _,rfl,rfl,rfl,rfl⟩,?_⟩
 rintro n l5 x6 x7 x8 ⟨h1,i,hsw,rfl,hi,rfl,rfl,rfl,rfl⟩
 refine ew (fun h=>b_ rfl ?_) (fun h=>bp rfl ⟨trivial,trivial,hQ _ hsw⟩)
 refine⟨fun n l13 x14 x15 x16 x17=>∃(hs':List Int) (j:Int),Sw a b hs hs'/\n=j.toNat/\a<=j/\j<=i/\l13=hs'.map ii/\x14=ii a/\x15=ii b/\x16=ii i/\x17=ii j,⟨_,h1,i,hsw,rfl,by omega,by omega,rfl,rfl,rfl,rfl,rfl⟩,?_⟩
 rintro n l13 x14 x15 x16 x17 ⟨h2,j,hsw,rfl,hj,hji,rfl,rfl,rfl,rfl,rfl⟩
 have hl:=hsw.len
 repeat' (first|refine⟨_,bq,?_⟩|refine⟨_,br,?_⟩|refine⟨_,gI,?_⟩|refine⟨_,gH,?_⟩|refine⟨_,ga,?_⟩|refine⟨_,f_,?_⟩|refine⟨_,gG,?_⟩|refine ew (fun h=>?_) (fun h=>?_)|refine fu (fun h=>?_) (fun h=>?_)|refine fh (fun h=>?_) (fun h=>?_)|refine er (fun h=>?_) (fun h=>?_)|refine fj (fun h=>?_) (fun h=>?_)|refine⟨rfl,_,fun _=>ga,?_⟩|refine⟨rfl,0,(fun h=>by cases h),?_⟩|refine⟨rfl,ax rfl f_ ?_⟩|refine⟨rfl,bu rfl ?_⟩|refine ax rfl rfl ?_|refine ax rfl bq ?_|refine ax rfl br ?_|refine ax rfl (a_ (fy _ _)) ?_|refine ax rfl (bg _) ?_|refine bu rfl ?_|refine bx (fy _ _) ?_|refine⟨_,bg _,?_⟩|refine b_ rfl ?_|refine bp rfl ?_|refine aa (fun h=>?_) (fun h=>?_)|refine⟨_,rfl,?_⟩|fail)
 ·exact⟨_,by omega,_,j - 1,.step j (j - 1) hsw (by omega) (by omega) (by omega) (by omega),rfl,by omega,by omega,rfl,rfl,rfl,rfl,rfl⟩
 all_goals exact⟨_,by omega,_,i+1,hsw,rfl,by omega,rfl,rfl,rfl,rfl⟩
theorem t116 (hs:List Int) (a b:Int) (ha:0<=a) (hb:b<=hs.length) (hn:hs.length<=100000000) (Q:List TV->TV->Prop) (hQ:∀hs',Sw a b hs hs'->Q (hs'.map ii) (.tp [])) (hab:a<=b):L4 Q (hs.map ii) (ii a) (ii b):=by
 refine X4 _ _ _ _ ?_
 unfold Q5
 (first|refine⟨_,bq,?_⟩|refine⟨_,br,?_⟩|refine⟨_,gI,?_⟩|refine⟨_,gH,?_⟩|refine⟨_,ga,?_⟩|refine⟨_,f_,?_⟩|refine⟨_,gG,?_⟩|refine ew (fun h=>?_) (fun h=>?_)|refine fu (fun h=>?_) (fun h=>?_)|refine fh (fun h=>?_) (fun h=>?_)|refine er (fun h=>?_) (fun h=>?_)|refine fj (fun h=>?_) (fun h=>?_)|refine⟨rfl,_,fun _=>ga,?_⟩|refine⟨rfl,0,(fun h=>by cases h),?_⟩|refine⟨rfl,ax rfl f_ ?_⟩|refine⟨rfl,bu rfl ?_⟩|refine ax rfl rfl ?_|refine ax rfl bq ?_|refine ax rfl br ?_|refine ax rfl (a_ (fy _ _)) ?_|refine ax rfl (bg _) ?_|refine bu rfl ?_|refine bx (fy _ _) ?_|refine⟨_,bg _,?_⟩|refine b_ rfl ?_|refine bp rfl ?_|refine aa (fun h=>?_) (fun h=>?_)|refine⟨_,rfl,?_⟩|fail)
 refine⟨fun n l5 x6 x7=>∃(hs':List Int) (i j:Int),Sw a b hs hs'/\n=(j+1 - i).toNat/\a<=i/\j < b/\-1<=j/\l5=hs'.map ii/\x6=ii i/\x7=ii j,⟨_,hs,a,b - 1,.refl,rfl,by omega,by omega,by omega,rfl,rfl,rfl⟩,?_⟩
 rintro n l5 x6 x7 ⟨h1,i,j,hsw,rfl,hi,hj,hj0,rfl,rfl,rfl⟩
 have hl:=hsw.len
 refine ew (fun h=>b_ rfl ?_) (fun h=>bp rfl ⟨trivial,trivial,hQ _ hsw⟩)
 repeat' (first|refine⟨_,bq,?_⟩|refine⟨_,br,?_⟩|refine⟨_,gI,?_⟩|refine⟨_,gH,?_⟩|refine⟨_,ga,?_⟩|refine⟨_,f_,?_⟩|refine⟨_,gG,?_⟩|refine ew (fun h=>?_) (fun h=>?_)|refine fu (fun h=>?_) (fun h=>?_)|refine fh (fun h=>?_) (fun h=>?_)|refine er (fun h=>?_) (fun h=>?_)|refine fj (fun h=>?_) (fun h=>?_)|refine⟨rfl,_,fun _=>ga,?_⟩|refine⟨rfl,0,(fun h=>by cases h),?_⟩|refine⟨rfl,ax rfl f_ ?_⟩|refine⟨rfl,bu rfl ?_⟩|refine ax rfl rfl ?_|refine ax rfl bq ?_|refine ax rfl br ?_|refine ax rfl (a_ (fy _ _)) ?_|refine ax rfl (bg _) ?_|refine bu rfl ?_|refine bx (fy _ _) ?_|refine⟨_,bg _,?_⟩|refine b_ rfl ?_|refine bp rfl ?_|refine aa (fun h=>?_) (fun h=>?_)|refine⟨_,rfl,?_⟩|fail)
 exact⟨_,by omega,_,i+1,j - 1,.step i j hsw (by omega) (by omega) (by omega) (by omega),rfl,by omega,by omega,by omega,rfl,rfl,rfl⟩
set_option maxHeartbeats 2000000 in
theorem t150 (hs:List Int) (a b lo hi:Int) (ha:0<=a) (hb:b<=hs.length) (hn:hs.length<=100000000) (h0:0<=lo) (hh:a+hi<=b) (Q:List TV->TV->Prop) (hQ:∀hs',Sw a b hs hs'->Q (hs'.map ii) (.tp [])) (hlo:lo<=hs.length) (hhi:0<=hi):L3 Q (hs.map ii) (ii lo) (ii hi) (ii a):=by
 refine X0 _ _ _ _ _ ?_
 unfold Q1
 refine⟨fun n l4 x5 x6 x7=>∃(hs':List Int) (r:Int),Sw a b hs hs'/\n=(hi - r).toNat/\0<=r/\r<=hs.length/\l4=hs'.map ii/\x5=ii hi/\x6=ii a/\x7=ii r,⟨_,hs,lo,.refl,rfl,h0,hlo,rfl,rfl,rfl,rfl⟩,?_⟩
 rintro n l4 x5 x6 x7 ⟨h1,r,hsw,rfl,hr,hr2,rfl,rfl,rfl,rfl⟩
 have hl:=hsw.len
 repeat' (first|refine⟨_,bq,?_⟩|refine⟨_,br,?_⟩|refine⟨_,gI,?_⟩|refine⟨_,gH,?_⟩|refine⟨_,ga,?_⟩|refine⟨_,f_,?_⟩|refine⟨_,gG,?_⟩|refine ew (fun h=>?_) (fun h=>?_)|refine fu (fun h=>?_) (fun h=>?_)|refine fh (fun h=>?_) (fun h=>?_)|refine er (fun h=>?_) (fun h=>?_)|refine fj (fun h=>?_) (fun h=>?_)|refine⟨rfl,_,fun _=>ga,?_⟩|refine⟨rfl,0,(fun h=>by cases h),?_⟩|refine⟨rfl,ax rfl f_ ?_⟩|refine⟨rfl,bu rfl ?_⟩|refine ax rfl rfl ?_|refine ax rfl bq ?_|refine ax rfl br ?_|refine ax rfl (a_ (fy _ _)) ?_|refine ax rfl (bg _) ?_|refine bu rfl ?_|refine bx (fy _ _) ?_|refine⟨_,bg _,?_⟩|refine b_ rfl ?_|refine bp rfl ?_|refine aa (fun h=>?_) (fun h=>?_)|refine⟨_,rfl,?_⟩|fail)
 all_goals first
  |exact⟨trivial,trivial,hQ _ hsw⟩
  |exact⟨_,by omega,_,2*r+1+1,.step (a+r) (a+(2*r+1+1)) hsw (by omega) (by omega) (by omega) (by omega),rfl,by omega,by omega,rfl,rfl,rfl,rfl⟩
  |exact⟨_,by omega,_,2*r+1,.step (a+r) (a+(2*r+1)) hsw (by omega) (by omega) (by omega) (by omega),rfl,by omega,by omega,rfl,rfl,rfl,rfl⟩
theorem t113 (hs:List Int) (a b:Int) (ha:0<=a) (hb:b<=hs.length) (hn:hs.length<=100000000) (hab:a < b) (Q:List TV->TV->Prop) (hQ:∀hs',Sw a b hs hs'->Q (hs'.map ii) (.tp [])):Ob Q (hs.map ii) (ii a) (ii b):=by
 refine X7 _ _ _ _ ?_
 unfold Q8
 repeat (first|refine⟨_,bq,?_⟩|refine⟨_,br,?_⟩|refine⟨_,gI,?_⟩|refine⟨_,gH,?_⟩|refine⟨_,ga,?_⟩|refine⟨_,f_,?_⟩|refine⟨_,gG,?_⟩|refine ew (fun h=>?_) (fun h=>?_)|refine fu (fun h=>?_) (fun h=>?_)|refine fh (fun h=>?_) (fun h=>?_)|refine er (fun h=>?_) (fun h=>?_)|refine fj (fun h=>?_) (fun h=>?_)|refine⟨rfl,_,fun _=>ga,?_⟩|refine⟨rfl,0,(fun h=>by cases h),?_⟩|refine⟨rfl,ax rfl f_ ?_⟩|refine⟨rfl,bu rfl ?_⟩|refine ax rfl rfl ?_|refine ax rfl bq ?_|refine ax rfl br ?_|refine ax rfl (a_ (fy _ _)) ?_|refine ax rfl (bg _) ?_|refine bu rfl ?_|refine bx (fy _ _) ?_|refine⟨_,bg _,?_⟩|refine b_ rfl ?_|refine bp rfl ?_|refine aa (fun h=>?_) (fun h=>?_)|refine⟨_,rfl,?_⟩|fail)
 refine⟨fun n l7 x8 x9 x10 x11=>∃(hs':List Int) (i:Int),Sw a b hs hs'/\n=(i+1).toNat/\-1<=i/\i<=hs.length/\l7=hs'.map ii/\x8=ii a/\x9=ii 0/\x10=ii (b - a)/\x11=ii i,⟨_,hs,_,.refl,rfl,by omega,by omega,rfl,rfl,rfl,rfl,rfl⟩,?_⟩
 rintro n l7 x8 x9 x10 x11 ⟨h1,i,hsw,rfl,hi,hi2,rfl,rfl,rfl,rfl,rfl⟩
 have hl:=hsw.len
 refine er (fun h=>b_ rfl ?_) (fun h=>bp rfl ?_)
 ·refine t150 h1 a b i (b - a) ha (by omega) (by omega) (by omega) (by omega) _ (fun h2 hsw2=>?_) (by omega) (by omega)
  (first|refine⟨_,bq,?_⟩|refine⟨_,br,?_⟩|refine⟨_,gI,?_⟩|refine⟨_,gH,?_⟩|refine⟨_,ga,?_⟩|refine⟨_,f_,?_⟩|refine⟨_,gG,?_⟩|refine ew (fun h=>?_) (fun h=>?_)|refine fu (fun h=>?_) (fun h=>?_)|refine fh (fun h=>?_) (fun h=>?_)|refine er (fun h=>?_) (fun h=>?_)|refine fj (fun h=>?_) (fun h=>?_)|refine⟨rfl,_,fun _=>ga,?_⟩|refine⟨rfl,0,(fun h=>by cases h),?_⟩|refine⟨rfl,ax rfl f_ ?_⟩|refine⟨rfl,bu rfl ?_⟩|refine ax rfl rfl ?_|refine ax rfl bq ?_|refine ax rfl br ?_|refine ax rfl (a_ (fy _ _)) ?_|refine ax rfl (bg _) ?_|refine bu rfl ?_|refine bx (fy _ _) ?_|refine⟨_,bg _,?_⟩|refine b_ rfl ?_|refine bp rfl ?_|refine aa (fun h=>?_) (fun h=>?_)|refine⟨_,rfl,?_⟩|fail)
  exact⟨_,by omega,_,i - 1,hsw.trans hsw2,rfl,by omega,by omega,rfl,rfl,rfl,rfl,rfl⟩
 ·(first|refine⟨_,bq,?_⟩|refine⟨_,br,?_⟩|refine⟨_,gI,?_⟩|refine⟨_,gH,?_⟩|refine⟨_,ga,?_⟩|refine⟨_,f_,?_⟩|refine⟨_,gG,?_⟩|refine ew (fun h=>?_) (fun h=>?_)|refine fu (fun h=>?_) (fun h=>?_)|refine fh (fun h=>?_) (fun h=>?_)|refine er (fun h=>?_) (fun h=>?_)|refine fj (fun h=>?_) (fun h=>?_)|refine⟨rfl,_,fun _=>ga,?_⟩|refine⟨rfl,0,(fun h=>by cases h),?_⟩|refine⟨rfl,ax rfl f_ ?_⟩|refine⟨rfl,bu rfl ?_⟩|refine ax rfl rfl ?_|refine ax rfl bq ?_|refine ax rfl br ?_|refine ax rfl (a_ (fy _ _)) ?_|refine ax rfl (bg _) ?_|refine bu rfl ?_|refine bx (fy _ _) ?_|refine⟨_,bg _,?_⟩|refine b_ rfl ?_|refine bp rfl ?_|refine aa (fun h=>?_) (fun h=>?_)|refine⟨_,rfl,?_⟩|fail)
  refine⟨fun n l20 x21 x22 x23=>∃(hs':List Int) (i:Int),Sw a b hs hs'/\n=(i+1).toNat/\-1<=i/\i < b - a/\l20=hs'.map ii/\x21=ii a/\x22=ii 0/\x23=ii i,⟨_,h1,_,hsw,rfl,by omega,by omega,rfl,rfl,rfl,rfl⟩,?_⟩
  rintro n l20 x21 x22 x23 ⟨h2,i,hsw,rfl,hi,hi2,rfl,rfl,rfl,rfl⟩
  have hl:=hsw.len
  refine er (fun h=>b_ rfl ?_) (fun h=>bp rfl ⟨trivial,trivial,hQ _ hsw⟩)
  repeat' (first|refine⟨_,bq,?_⟩|refine⟨_,br,?_⟩|refine⟨_,gI,?_⟩|refine⟨_,gH,?_⟩|refine⟨_,ga,?_⟩|refine⟨_,f_,?_⟩|refine⟨_,gG,?_⟩|refine ew (fun h=>?_) (fun h=>?_)|refine fu (fun h=>?_) (fun h=>?_)|refine fh (fun h=>?_) (fun h=>?_)|refine er (fun h=>?_) (fun h=>?_)|refine fj (fun h=>?_) (fun h=>?_)|refine⟨rfl,_,fun _=>ga,?_⟩|refine⟨rfl,0,(fun h=>by cases h),?_⟩|refine⟨rfl,ax rfl f_ ?_⟩|refine⟨rfl,bu rfl ?_⟩|refine ax rfl rfl ?_|refine ax rfl bq ?_|refine ax rfl br ?_|refine ax rfl (a_ (fy _ _)) ?_|refine ax rfl (bg _) ?_|refine bu rfl ?_|refine bx (fy _ _) ?_|refine⟨_,bg _,?_⟩|refine b_ rfl ?_|refine bp rfl ?_|refine aa (fun h=>?_) (fun h=>?_)|refine⟨_,rfl,?_⟩|fail)
  refine t150 (OB h2 a (a+i)) a b 0 i ha (by rw [HK];omega) (by rw [HK];omega) (by omega) (by omega) _ (fun h3 hsw3=>?_) (by omega) (by omega)
  (first|refine⟨_,bq,?_⟩|refine⟨_,br,?_⟩|refine⟨_,gI,?_⟩|refine⟨_,gH,?_⟩|refine⟨_,ga,?_⟩|refine⟨_,f_,?_⟩|refine⟨_,gG,?_⟩|refine ew (fun h=>?_) (fun h=>?_)|refine fu (fun h=>?_) (fun h=>?_)|refine fh (fun h=>?_) (fun h=>?_)|refine er (fun h=>?_) (fun h=>?_)|refine fj (fun h=>?_) (fun h=>?_)|refine⟨rfl,_,fun _=>ga,?_⟩|refine⟨rfl,0,(fun h=>by cases h),?_⟩|refine⟨rfl,ax rfl f_ ?_⟩|refine⟨rfl,bu rfl ?_⟩|refine ax rfl rfl ?_|refine ax rfl bq ?_|refine ax rfl br ?_|refine ax rfl (a_ (fy _ _)) ?_|refine ax rfl (bg _) ?_|refine bu rfl ?_|refine bx (fy _ _) ?_|refine⟨_,bg _,?_⟩|refine b_ rfl ?_|refine bp rfl ?_|refine aa (fun h=>?_) (fun h=>?_)|refine⟨_,rfl,?_⟩|fail)
  exact⟨_,by omega,_,i - 1,(Sw.step a (a+i) hsw (by omega) (by omega) (by omega) (by omega)).trans hsw3,rfl,by omega,by omega,rfl,rfl,rfl,rfl⟩
end Go.Ax.eo

set_option maxRecDepth 100000
namespace Go.Ax.eo
open Go Go.Ax Go.Ax.V Go.Ax.Ft
theorem KG {n:Int} (h1:0<=n) (h2:n < 18446744073709551616):oJ .u64 n=n:=by
 unfold oJ
 have:S2 .u64 n=true:=by
  cases n with
  |ofNat m=>have h2':(m:Int) < 18446744073709551616:=h2;simp only [S2];simp;omega
  |negSucc m=>omega
 rw [this];rfl
def lenOf (n:Nat):Option TV:=(kj .u8 (.i .u64 n)).bind fun v=>(lJ Ru v).bind fun w=>(kj .i64 w).bind fun x=>b8 .add (ii 0) x
def MA (n:Nat):Bool:=match lenOf n with
 |some (.i .i64 (.ofNat m))=>Nat.blt n (2 ^ m)&&(Nat.beq n 0||Nat.ble (2 ^ m) (2*n))&&Nat.ble m 8
 |_=>false
theorem Ud:(List.range 256).all MA=true:=by kernel_rfl
theorem Uc {n:Nat} (h:n < 256):∃m:Nat,lenOf n=some (ii m)/\n < 2 ^ m/\(n=0\/2 ^ m<=2*n)/\m<=8:=by
 have hg:=List.all_eq_true.1 Ud n (List.mem_range.2 h)
 unfold MA at hg
 split at hg
 ·rename_i m heq
  simp only [Bool.and_eq_true,Bool.or_eq_true,Nat.blt_eq,Nat.beq_eq,Nat.ble_eq] at hg
  exact⟨m,heq,hg.1.1,hg.1.2,hg.2⟩
 ·cases hg
theorem t122 {n:Nat} (h:n < 256):VS prog 122 [.i .u64 n] (fun r=>∃m:Nat,r=ii m/\n < 2 ^ m/\(n=0\/2 ^ m<=2*n)/\m<=8):=by
 obtain⟨m,hm,h1,h2,h3⟩:=Uc h
 unfold lenOf at hm
 obtain⟨v,hv,hm⟩:=Option.bind_eq_some_iff.1 hm
 obtain⟨w,hw,hm⟩:=Option.bind_eq_some_iff.1 hm
 obtain⟨x,hx,hm⟩:=Option.bind_eq_some_iff.1 hm
 have hge:∀k:Int,256<=k->b8 .geq (.i .u64 n) (.i .u64 k)=some (.b false):=fun k hk=>by
  show some (TV.b (!sw n k))=_
  rw [lS,decide_eq_true (by omega)];rfl
 refine WA _ _ ?_
 unfold ZJ
 refine⟨_,hge _ (by decide),bp rfl ⟨_,hge _ (by decide),bp rfl ⟨_,hge _ (by decide),bp rfl ?_⟩⟩⟩
 exact⟨_,hv,_,hw,_,hx,_,hm,trivial,trivial,_,rfl,h1,h2,h3⟩
theorem t88 {n:Nat} (h:n < 256):VS prog 88 [.i .u64 n] (fun r=>∃m:Nat,r=ii m/\n < 2 ^ m/\(n=0\/2 ^ m<=2*n)/\m<=8):=by
 refine vs88 _ _ ?_
 unfold W88
 refine bp rfl (oK (t122 h) (fun r hr=>?_))
 exact⟨by obtain⟨m,rfl,_⟩:=hr;trivial,trivial,trivial,hr⟩
theorem t151 {n:Nat} (h:n < 256):VS prog 151 [ii n] (fun r=>∃p:Nat,r=.i .u64 p/\n < p/\(n=0\/p<=2*n)/\1<=p/\p<=256):=by
 refine Wn _ _ ?_
 unfold Zx
 refine⟨_,rfl,?_⟩
 rw [KG (by omega) (by omega)]
 refine oK (t88 h) (fun r hr=>?_)
 obtain⟨m,rfl,h1,h2,h3⟩:=hr
 have e:∃p:Nat,b8 .shl (.i .u64 1) (ii m)=some (.i .u64 p)/\p=2 ^ m:=by
  match m,h3 with
  |0,_=>exact⟨_,rfl,rfl⟩
  |1,_=>exact⟨_,rfl,rfl⟩
  |2,_=>exact⟨_,rfl,rfl⟩
  |3,_=>exact⟨_,rfl,rfl⟩
  |4,_=>exact⟨_,rfl,rfl⟩
  |5,_=>exact⟨_,rfl,rfl⟩
  |6,_=>exact⟨_,rfl,rfl⟩
  |7,_=>exact⟨_,rfl,rfl⟩
  |8,_=>exact⟨_,rfl,rfl⟩
 obtain⟨p,hp,hpm⟩:=e
 have h4:2 ^ m<=2 ^ 8:=Nat.pow_le_pow_right (by decide) h3
 have h5:0 < 2 ^ m:=Nat.pow_pos (by decide)
 exact⟨trivial,_,hp,trivial,trivial,p,rfl,by omega,by omega,by omega,by omega⟩
theorem t152 (x:Int) (Q:TV->TV->Prop) (hQ:∀y,Q (.a [.i .u64 y]) (.i .u64 y)):N9 Q (.a [.i .u64 x]):=by
 refine XZ _ _ ?_
 unfold Q0
 exact⟨_,rfl,_,rfl,_,rfl,_,rfl,_,rfl,_,rfl,_,rfl,_,rfl,_,rfl,_,rfl,_,rfl,_,rfl,_,rfl,_,rfl,_,rfl,_,rfl,trivial,hQ _⟩
theorem UB (y:Int) {p:Nat} (h1:1<=p) (h2:p<=256):∃z:Int,0<=z/\z < p/\b8 .and (.i .u64 y) (.i .u64 ((p:Int) - 1))=some (.i .u64 z):=by
 refine⟨_,?_,?_,rfl⟩
 all_goals
  have e:(BitVec.ofInt 64 ((p:Int) - 1)).toNat=p - 1:=by
   rw [show ((p:Int) - 1)=((p - 1:Nat):Int) by omega,BitVec.ofInt_natCast,BitVec.toNat_ofNat]
   omega
  have h3:(BitVec.ofInt 64 y&&& BitVec.ofInt 64 ((p:Int) - 1)).toNat<=p - 1:=by
   rw [BitVec.toNat_and,e];exact Nat.and_le_right
  have e2:IntKind.u64.wrap (BitVec.ofInt IntKind.u64.bits y&&& BitVec.ofInt IntKind.u64.bits ((p:Int) - 1)).toNat=((BitVec.ofInt 64 y&&& BitVec.ofInt 64 ((p:Int) - 1)).toNat:Int):=by
   have hw:∀n:Int,IntKind.u64.wrap n=n % 18446744073709551616:=fun n=>by simp [IntKind.wrap,IntKind.bits,IntKind.signed]
   rw [hw]
   show ((BitVec.ofInt 64 y&&& BitVec.ofInt 64 ((p:Int) - 1)).toNat:Int) % 18446744073709551616=_
   omega
  rw [e2]
  omega
attribute [local irreducible] N9 Oa
theorem t114 (hs:List Int) (a b:Int) (ha:0<=a) (hb:b<=hs.length) (hn:hs.length<=100000000) (hab:a<=b) (hl:b - a < 256) (Q:List TV->TV->Prop) (hQ:∀hs',Sw a b hs hs'->Q (hs'.map ii) (.tp [])):Oa Q (hs.map ii) (ii a) (ii b):=by
 refine X6 _ _ _ _ ?_
 unfold Q7
 (first|refine⟨_,bq,?_⟩|refine⟨_,br,?_⟩|refine⟨_,gI,?_⟩|refine⟨_,gH,?_⟩|refine⟨_,ga,?_⟩|refine⟨_,f_,?_⟩|refine⟨_,gG,?_⟩|refine ew (fun h=>?_) (fun h=>?_)|refine fu (fun h=>?_) (fun h=>?_)|refine fh (fun h=>?_) (fun h=>?_)|refine er (fun h=>?_) (fun h=>?_)|refine fj (fun h=>?_) (fun h=>?_)|refine⟨rfl,_,fun _=>ga,?_⟩|refine⟨rfl,0,(fun h=>by cases h),?_⟩|refine⟨rfl,ax rfl f_ ?_⟩|refine⟨rfl,bu rfl ?_⟩|refine ax rfl rfl ?_|refine ax rfl bq ?_|refine ax rfl br ?_|refine ax rfl (a_ (fy _ _)) ?_|refine ax rfl (bg _) ?_|refine bu rfl ?_|refine bx (fy _ _) ?_|refine⟨_,bg _,?_⟩|refine b_ rfl ?_|refine bp rfl ?_|refine aa (fun h=>?_) (fun h=>?_)|refine⟨_,rfl,?_⟩|fail)
 refine er (fun h=>b_ rfl ?_) (fun h=>bp rfl ⟨trivial,trivial,hQ _ .refl⟩)
 obtain⟨n,hn'⟩:∃n:Nat,b - a=n:=⟨(b - a).toNat,by omega⟩
 rw [hn'] at h ⊢
 refine⟨_,rfl,_,rfl,oK (t151 (n:=n) (by omega)) (fun r hr=>?_)⟩
 obtain⟨p,rfl,h1,h2,h3,h4⟩:=hr
 refine⟨trivial,?_⟩
 repeat (first|refine⟨_,bq,?_⟩|refine⟨_,br,?_⟩|refine⟨_,gI,?_⟩|refine⟨_,gH,?_⟩|refine⟨_,ga,?_⟩|refine⟨_,f_,?_⟩|refine⟨_,gG,?_⟩|refine ew (fun h=>?_) (fun h=>?_)|refine fu (fun h=>?_) (fun h=>?_)|refine fh (fun h=>?_) (fun h=>?_)|refine er (fun h=>?_) (fun h=>?_)|refine fj (fun h=>?_) (fun h=>?_)|refine⟨rfl,_,fun _=>ga,?_⟩|refine⟨rfl,0,(fun h=>by cases h),?_⟩|refine⟨rfl,ax rfl f_ ?_⟩|refine⟨rfl,bu rfl ?_⟩|refine ax rfl rfl ?_|refine ax rfl bq ?_|refine ax rfl br ?_|refine ax rfl (a_ (fy _ _)) ?_|refine ax rfl (bg _) ?_|refine bu rfl ?_|refine bx (fy _ _) ?_|refine⟨_,bg _,?_⟩|refine b_ rfl ?_|refine bp rfl ?_|refine aa (fun h=>?_) (fun h=>?_)|refine⟨_,rfl,?_⟩|fail)
 refine⟨fun k o13 l14 x15 x16 x17 x18=>∃(hs':List Int) (y i:Int),Sw a b hs hs'/\k=(a+n / 4*2+2 - i).toNat/\a+n / 4*2 - 1<=i/\o13=.a [.i .u64 y]/\l14=hs'.map ii/\x15=ii a/\x16=ii n/\x17=.i .u64 p/\x18=ii i,⟨_,hs,_,_,.refl,rfl,by omega,rfl,rfl,rfl,rfl,rfl,rfl⟩,?_⟩
 rintro k o13 l14 x15 x16 x17 x18 ⟨hs1,y,i,hsw,rfl,hi,rfl,rfl,rfl,rfl,rfl,rfl⟩
 have hl:=hsw.len
 iterate 4 (first|refine⟨_,bq,?_⟩|refine⟨_,br,?_⟩|refine⟨_,gI,?_⟩|refine⟨_,gH,?_⟩|refine⟨_,ga,?_⟩|refine⟨_,f_,?_⟩|refine⟨_,gG,?_⟩|refine ew (fun h=>?_) (fun h=>?_)|refine fu (fun h=>?_) (fun h=>?_)|refine fh (fun h=>?_) (fun h=>?_)|refine er (fun h=>?_) (fun h=>?_)|refine fj (fun h=>?_) (fun h=>?_)|refine⟨rfl,_,fun _=>ga,?_⟩|refine⟨rfl,0,(fun h=>by cases h),?_⟩|refine⟨rfl,ax rfl f_ ?_⟩|refine⟨rfl,bu rfl ?_⟩|refine ax rfl rfl ?_|refine ax rfl bq ?_|refine ax rfl br ?_|refine ax rfl (a_ (fy _ _)) ?_|refine ax rfl (bg _) ?_|refine bu rfl ?_|refine bx (fy _ _) ?_|refine⟨_,bg _,?_⟩|refine b_ rfl ?_|refine bp rfl ?_|refine aa (fun h=>?_) (fun h=>?_)|refine⟨_,rfl,?_⟩|fail)
 refine fh (fun h=>b_ rfl ?_) (fun h=>bp rfl ⟨trivial,trivial,hQ _ hsw⟩)
 refine t152 y _ (fun y'=>?_)
 refine⟨_,rfl,?_⟩
 obtain⟨z,hz0,hz1,hz⟩:=UB y' h3 h4
 have e1:oJ .u64 ((p:Int) - 1)=(p:Int) - 1:=KG (by omega) (by omega)
 rw [e1]
 refine⟨_,hz,_,rfl,?_⟩
 rw [AG (by omega) (by omega)]
 repeat' (first|refine⟨_,bq,?_⟩|refine⟨_,br,?_⟩|refine⟨_,gI,?_⟩|refine⟨_,gH,?_⟩|refine⟨_,ga,?_⟩|refine⟨_,f_,?_⟩|refine⟨_,gG,?_⟩|refine ew (fun h=>?_) (fun h=>?_)|refine fu (fun h=>?_) (fun h=>?_)|refine fh (fun h=>?_) (fun h=>?_)|refine er (fun h=>?_) (fun h=>?_)|refine fj (fun h=>?_) (fun h=>?_)|refine⟨rfl,_,fun _=>ga,?_⟩|refine⟨rfl,0,(fun h=>by cases h),?_⟩|refine⟨rfl,ax rfl f_ ?_⟩|refine⟨rfl,bu rfl ?_⟩|refine ax rfl rfl ?_|refine ax rfl bq ?_|refine ax rfl br ?_|refine ax rfl (a_ (fy _ _)) ?_|refine ax rfl (bg _) ?_|refine bu rfl ?_|refine bx (fy _ _) ?_|refine⟨_,bg _,?_⟩|refine b_ rfl ?_|refine bp rfl ?_|refine aa (fun h=>?_) (fun h=>?_)|refine⟨_,rfl,?_⟩|fail)
 ·exact⟨_,by omega,_,y',i+1,.step i (a+(z - n)) hsw (by omega) (by omega) (by omega) (by omega),rfl,by omega,rfl,rfl,rfl,rfl,rfl,rfl⟩
 ·exact⟨_,by omega,_,y',i+1,.step i (a+z) hsw (by omega) (by omega) (by omega) (by omega),rfl,by omega,rfl,rfl,rfl,rfl,rfl,rfl⟩
end Go.Ax.eo

set_option maxRecDepth 100000
namespace Go.Ax.eo
open Go Go.Ax Go.Ax.V Go.Ax.Ft
attribute [local irreducible] Ey Oc Ob Oa N_ L4 Ku DD DC L3 N9 L0 LZ LY
theorem t167 (hs:List Int) (x y c:Int) (hx:0<=x/\x < hs.length) (hy:0<=y/\y < hs.length) (hn:hs.length<=100000000) (hc:0<=c/\c<=100) (Q:List TV->TV->TV->Prop)
  (hQ:∀u v c',(u=x/\v=y\/u=y/\v=x)->c<=c'->c'<=c+1->Q (hs.map ii) (.a [ii c']) (.tp [ii u,ii v])):LY Q (hs.map ii) (ii x) (ii y) (.a [ii c]):=by
 refine XW _ _ _ _ _ ?_
 unfold QX
 repeat' (first|refine⟨_,bq,?_⟩|refine⟨_,br,?_⟩|refine⟨_,gI,?_⟩|refine⟨_,gH,?_⟩|refine⟨_,ga,?_⟩|refine⟨_,f_,?_⟩|refine⟨_,gG,?_⟩|refine ew (fun h=>?_) (fun h=>?_)|refine fu (fun h=>?_) (fun h=>?_)|refine fh (fun h=>?_) (fun h=>?_)|refine er (fun h=>?_) (fun h=>?_)|refine fj (fun h=>?_) (fun h=>?_)|refine⟨rfl,_,fun _=>ga,?_⟩|refine⟨rfl,0,(fun h=>by cases h),?_⟩|refine⟨rfl,ax rfl f_ ?_⟩|refine⟨rfl,bu rfl ?_⟩|refine ax rfl rfl ?_|refine ax rfl bq ?_|refine ax rfl br ?_|refine ax rfl (a_ (fy _ _)) ?_|refine ax rfl (bg _) ?_|refine bu rfl ?_|refine bx (fy _ _) ?_|refine⟨_,bg _,?_⟩|refine b_ rfl ?_|refine bp rfl ?_|refine aa (fun h=>?_) (fun h=>?_)|refine⟨_,rfl,?_⟩|fail)
 ·exact⟨trivial,⟨rfl,rfl,trivial⟩,hQ y x (c+1) (.inr ⟨rfl,rfl⟩) (by omega) (by omega)⟩
 ·exact⟨trivial,⟨rfl,rfl,trivial⟩,hQ x y c (.inl ⟨rfl,rfl⟩) (by omega) (by omega)⟩
theorem t154 (hs:List Int) (x y z c lo hi:Int) (h0:0<=lo) (h1:hi<=hs.length) (hx:lo<=x/\x < hi) (hy:lo<=y/\y < hi) (hz:lo<=z/\z < hi) (hn:hs.length<=100000000) (hc:0<=c/\c<=50) (Q:List TV->TV->TV->Prop)
  (hQ:∀r c',lo<=r->r < hi->c<=c'->c'<=c+3->Q (hs.map ii) (.a [ii c']) (ii r)):LZ Q (hs.map ii) (ii x) (ii y) (ii z) (.a [ii c]):=by
 refine XX _ _ _ _ _ _ ?_
 unfold QY
 refine t167 hs x y c (by omega) (by omega) hn (by omega) _ (fun u v c1 h2 h3 h4=>?_)
 refine⟨_,rfl,_,rfl,t167 hs v z c1 (by omega) (by omega) hn (by omega) _ (fun u' v' c2 h5 h6 h7=>?_)⟩
 refine⟨_,rfl,_,rfl,t167 hs u u' c2 (by omega) (by omega) hn (by omega) _ (fun u'' v'' c3 h8 h9 h10=>?_)⟩
 exact⟨_,rfl,_,rfl,trivial,hQ _ _ (by omega) (by omega) (by omega) (by omega)⟩
theorem t153 (hs:List Int) (x c lo hi:Int) (h0:0<=lo) (h1:hi<=hs.length) (hx:lo<=x - 1/\x+1 < hi) (hn:hs.length<=100000000) (hc:0<=c/\c<=50) (Q:List TV->TV->TV->Prop)
  (hQ:∀r c',lo<=r->r < hi->c<=c'->c'<=c+3->Q (hs.map ii) (.a [ii c']) (ii r)):L0 Q (hs.map ii) (ii x) (.a [ii c]):=by
 refine XY _ _ _ _ ?_
 unfold QZ
 refine⟨_,bq,_,br,t154 hs (x - 1) x (x+1) c lo hi h0 h1 (by omega) (by omega) (by omega) hn hc _ (fun r c' e1 e2 e3 e4=>?_)⟩
 exact⟨trivial,hQ _ _ e1 e2 e3 e4⟩
set_option maxHeartbeats 1000000 in
theorem t115 (hs:List Int) (a b:Int) (ha:0<=a) (hb:b<=hs.length) (hn:hs.length<=100000000) (hab:a < b) (Q:List TV->TV->Prop)
  (hQ:∀p h:Int,a<=p->p < b->Q (hs.map ii) (.tp [ii p,ii h])):N_ Q (hs.map ii) (ii a) (ii b):=by
 refine X5 _ _ _ _ ?_
 unfold Q6
 iterate 10 (first|refine⟨_,bq,?_⟩|refine⟨_,br,?_⟩|refine⟨_,gI,?_⟩|refine⟨_,gH,?_⟩|refine⟨_,ga,?_⟩|refine⟨_,f_,?_⟩|refine⟨_,gG,?_⟩|refine ew (fun h=>?_) (fun h=>?_)|refine fu (fun h=>?_) (fun h=>?_)|refine fh (fun h=>?_) (fun h=>?_)|refine er (fun h=>?_) (fun h=>?_)|refine fj (fun h=>?_) (fun h=>?_)|refine⟨rfl,_,fun _=>ga,?_⟩|refine⟨rfl,0,(fun h=>by cases h),?_⟩|refine⟨rfl,ax rfl f_ ?_⟩|refine⟨rfl,bu rfl ?_⟩|refine ax rfl rfl ?_|refine ax rfl bq ?_|refine ax rfl br ?_|refine ax rfl (a_ (fy _ _)) ?_|refine ax rfl (bg _) ?_|refine bu rfl ?_|refine bx (fy _ _) ?_|refine⟨_,bg _,?_⟩|refine b_ rfl ?_|refine bp rfl ?_|refine aa (fun h=>?_) (fun h=>?_)|refine⟨_,rfl,?_⟩|fail)
 refine er (fun h=>b_ rfl ?_) (fun h=>bp rfl ?_)
 ·refine er (fun h=>b_ rfl ?_) (fun h=>bp rfl ?_)
  ·refine t153 hs _ 0 a b ha hb (by omega) hn (by omega) _ (fun r1 c1 e1 e2 e3 e4=>?_)
   refine t153 hs _ c1 a b ha hb (by omega) hn (by omega) _ (fun r2 c2 f1 f2 f3 f4=>?_)
   refine t153 hs _ c2 a b ha hb (by omega) hn (by omega) _ (fun r3 c3 g1 g2 g3 g4=>?_)
   refine t154 hs r1 r2 r3 c3 a b ha hb (by omega) (by omega) (by omega) hn (by omega) _ (fun r c4 i1 i2 i3 i4=>?_)
   repeat' (first|refine⟨_,bq,?_⟩|refine⟨_,br,?_⟩|refine⟨_,gI,?_⟩|refine⟨_,gH,?_⟩|refine⟨_,ga,?_⟩|refine⟨_,f_,?_⟩|refine⟨_,gG,?_⟩|refine ew (fun h=>?_) (fun h=>?_)|refine fu (fun h=>?_) (fun h=>?_)|refine fh (fun h=>?_) (fun h=>?_)|refine er (fun h=>?_) (fun h=>?_)|refine fj (fun h=>?_) (fun h=>?_)|refine⟨rfl,_,fun _=>ga,?_⟩|refine⟨rfl,0,(fun h=>by cases h),?_⟩|refine⟨rfl,ax rfl f_ ?_⟩|refine⟨rfl,bu rfl ?_⟩|refine ax rfl rfl ?_|refine ax rfl bq ?_|refine ax rfl br ?_|refine ax rfl (a_ (fy _ _)) ?_|refine ax rfl (bg _) ?_|refine bu rfl ?_|refine bx (fy _ _) ?_|refine⟨_,bg _,?_⟩|refine b_ rfl ?_|refine bp rfl ?_|refine aa (fun h=>?_) (fun h=>?_)|refine⟨_,rfl,?_⟩|fail)
   all_goals exact⟨trivial,⟨rfl,rfl,trivial⟩,hQ _ _ i1 i2⟩
  ·refine t154 hs _ _ _ 0 a b ha hb (by omega) (by omega) (by omega) hn (by omega) _ (fun r c4 i1 i2 i3 i4=>?_)
   repeat' (first|refine⟨_,bq,?_⟩|refine⟨_,br,?_⟩|refine⟨_,gI,?_⟩|refine⟨_,gH,?_⟩|refine⟨_,ga,?_⟩|refine⟨_,f_,?_⟩|refine⟨_,gG,?_⟩|refine ew (fun h=>?_) (fun h=>?_)|refine fu (fun h=>?_) (fun h=>?_)|refine fh (fun h=>?_) (fun h=>?_)|refine er (fun h=>?_) (fun h=>?_)|refine fj (fun h=>?_) (fun h=>?_)|refine⟨rfl,_,fun _=>ga,?_⟩|refine⟨rfl,0,(fun h=>by cases h),?_⟩|refine⟨rfl,ax rfl f_ ?_⟩|refine⟨rfl,bu rfl ?_⟩|refine ax rfl rfl ?_|refine ax rfl bq ?_|refine ax rfl br ?_|refine ax rfl (a_ (fy _ _)) ?_|refine ax rfl (bg _) ?_|refine bu rfl ?_|refine bx (fy _ _) ?_|refine⟨_,bg _,?_⟩|refine b_ rfl ?_|refine bp rfl ?_|refine aa (fun h=>?_) (fun h=>?_)|refine⟨_,rfl,?_⟩|fail)
   all_goals exact⟨trivial,⟨rfl,rfl,trivial⟩,hQ _ _ i1 i2⟩
 ·repeat' (first|refine⟨_,bq,?_⟩|refine⟨_,br,?_⟩|refine⟨_,gI,?_⟩|refine⟨_,gH,?_⟩|refine⟨_,ga,?_⟩|refine⟨_,f_,?_⟩|refine⟨_,gG,?_⟩|refine ew (fun h=>?_) (fun h=>?_)|refine fu (fun h=>?_) (fun h=>?_)|refine fh (fun h=>?_) (fun h=>?_)|refine er (fun h=>?_) (fun h=>?_)|refine fj (fun h=>?_) (fun h=>?_)|refine⟨rfl,_,fun _=>ga,?_⟩|refine⟨rfl,0,(fun h=>by cases h),?_⟩|refine⟨rfl,ax rfl f_ ?_⟩|refine⟨rfl,bu rfl ?_⟩|refine ax rfl rfl ?_|refine ax rfl bq ?_|refine ax rfl br ?_|refine ax rfl (a_ (fy _ _)) ?_|refine ax rfl (bg _) ?_|refine bu rfl ?_|refine bx (fy _ _) ?_|refine⟨_,bg _,?_⟩|refine b_ rfl ?_|refine bp rfl ?_|refine aa (fun h=>?_) (fun h=>?_)|refine⟨_,rfl,?_⟩|fail)
  all_goals exact⟨trivial,⟨rfl,rfl,trivial⟩,hQ _ _ (by omega) (by omega)⟩
theorem lp2 {n3:Nat} {I2:Nat->List TV->TV->TV->TV->TV->Prop} (hs:List Int) (a b i c:Int) (ha:0<=a) (hai:a<=i) (hb:b<=hs.length) (hn:hs.length<=100000000) (hc:0<=c/\c < 5) (hib:i<=b)
  (hk:∀hs',Sw 0 b hs hs'->∃m4,m4 < n3/\I2 m4 (hs'.map ii) (ii a) (ii b) (ii i) (ii (c+1))) :
  ∃I67:Nat->List TV->TV->TV->TV->TV->TV->Prop,(∃n68,I67 n68 (hs.map ii) (ii a) (ii b) (ii i) (ii c) (ii (i+1)))/\∀n68:Nat,
 ∀l70:List TV,∀x71:TV,∀x72:TV,∀x73:TV,∀x74:TV,∀x75:TV,I67 n68 l70 x71 x72 x73 x74 x75->
 ∃v76,b8 .lss x75 x72=some v76/\
 ak v76
 (∃v77,dz x75 (List.length l70)=some v77/\
 ∃v78,gA l70 v77 0 none=some v78/\
 ∃v79,b8 .sub x75 (TV.i .i64 1)=some v79/\
 ∃v80,dz v79 (List.length l70)=some v80/\
 ∃WZ,gA l70 v80 0 none=some WZ/\
 VS prog 118 [v78,WZ] fun r82=>bz true r82/\
 ∃WY,oe .not r82=some WY/\
 ak WY
 (∃WX,b8 .add x74 (TV.i .i64 1)=some WX/\
 ∃m4,m4 < n3/\I2 m4 l70 x71 x72 x73 WX)
 (∃WW,b8 .sub x75 (TV.i .i64 1)=some WW/\
 ∃WV,b8 .sub x75 (TV.i .i64 1)=some WV/\
 ∃WU,dz WV (List.length l70)=some WU/\
 ∃WT,gA l70 WU 0 none=some WT/\
 ∃v89,dz x75 (List.length l70)=some v89/\
 ∃v90,gA l70 v89 0 none=some v90/\
 ∃v91,dz x75 (List.length l70)=some v91/\
 ∃VK,fl l70 v91 0 1 WT=some VK/\
 ∃WS,dz WW (List.length VK)=some WS/\
 ∃WQ,fl VK WS 0 1 v90=some WQ/\
 ∃WO,b8 .add x75 (TV.i .i64 1)=some WO/\
 ∃m69,m69 < n68/\I67 m69 WQ x71 x72 x73 x74 WO))
 (∃WN,b8 .add x74 (TV.i .i64 1)=some WN/\
 ∃m4,m4 < n3/\I2 m4 l70 x71 x72 x73 WN):=by
 refine⟨fun n l70 x71 x72 x73 x74 x75=>∃(hs':List Int) (j:Int),Sw 0 b hs hs'/\n=(b - j).toNat/\i < j/\j<=b+1/\l70=hs'.map ii/\x71=ii a/\x72=ii b/\x73=ii i/\x74=ii c/\x75=ii j,⟨_,hs,i+1,.refl,rfl,by omega,by omega,rfl,rfl,rfl,rfl,rfl,rfl⟩,?_⟩
 rintro n l70 x71 x72 x73 x74 x75 ⟨h1,j,hsw,rfl,hj,hj2,rfl,rfl,rfl,rfl,rfl,rfl⟩
 have hl:=hsw.len
 refine ew (fun h=>b_ rfl ?_) (fun h=>bp rfl ⟨_,br,hk _ hsw⟩)
 repeat' (first|refine⟨_,bq,?_⟩|refine⟨_,br,?_⟩|refine⟨_,gI,?_⟩|refine⟨_,gH,?_⟩|refine⟨_,ga,?_⟩|refine⟨_,f_,?_⟩|refine⟨_,gG,?_⟩|refine ew (fun h=>?_) (fun h=>?_)|refine fu (fun h=>?_) (fun h=>?_)|refine fh (fun h=>?_) (fun h=>?_)|refine er (fun h=>?_) (fun h=>?_)|refine fj (fun h=>?_) (fun h=>?_)|refine⟨rfl,_,fun _=>ga,?_⟩|refine⟨rfl,0,(fun h=>by cases h),?_⟩|refine⟨rfl,ax rfl f_ ?_⟩|refine⟨rfl,bu rfl ?_⟩|refine ax rfl rfl ?_|refine ax rfl bq ?_|refine ax rfl br ?_|refine ax rfl (a_ (fy _ _)) ?_|refine ax rfl (bg _) ?_|refine bu rfl ?_|refine bx (fy _ _) ?_|refine⟨_,bg _,?_⟩|refine b_ rfl ?_|refine bp rfl ?_|refine aa (fun h=>?_) (fun h=>?_)|refine⟨_,rfl,?_⟩|fail)
 ·exact hk _ hsw
 ·exact⟨_,by omega,_,j+1,.step j (j - 1) hsw (by omega) (by omega) (by omega) (by omega),rfl,by omega,by omega,rfl,rfl,rfl,rfl,rfl,rfl⟩
def VH (hs:List Int) (a b:Int) (n:Nat) (l:List TV) (x7 x8 x9 x10:TV):Prop:=∃(hs':List Int) (i c:Int),Sw 0 b hs hs'/\n=(5 - c).toNat/\a < i/\i<=b/\0<=c/\c<=5/\l=hs'.map ii/\x7=ii a/\x8=ii b/\x9=ii i/\x10=ii c
set_option maxHeartbeats 2000000 in
theorem t117 (hs:List Int) (a b:Int) (ha:0<=a) (hb:b<=hs.length) (hn:hs.length<=100000000) (hab:a < b) (Q:List TV->TV->Prop) (hQ:∀hs' t,Sw 0 b hs hs'->Q (hs'.map ii) (.b t)):Ku Q (hs.map ii) (ii a) (ii b):=by
 refine X3 _ _ _ _ ?_
 unfold Q4
 (first|refine⟨_,bq,?_⟩|refine⟨_,br,?_⟩|refine⟨_,gI,?_⟩|refine⟨_,gH,?_⟩|refine⟨_,ga,?_⟩|refine⟨_,f_,?_⟩|refine⟨_,gG,?_⟩|refine ew (fun h=>?_) (fun h=>?_)|refine fu (fun h=>?_) (fun h=>?_)|refine fh (fun h=>?_) (fun h=>?_)|refine er (fun h=>?_) (fun h=>?_)|refine fj (fun h=>?_) (fun h=>?_)|refine⟨rfl,_,fun _=>ga,?_⟩|refine⟨rfl,0,(fun h=>by cases h),?_⟩|refine⟨rfl,ax rfl f_ ?_⟩|refine⟨rfl,bu rfl ?_⟩|refine ax rfl rfl ?_|refine ax rfl bq ?_|refine ax rfl br ?_|refine ax rfl (a_ (fy _ _)) ?_|refine ax rfl (bg _) ?_|refine bu rfl ?_|refine bx (fy _ _) ?_|refine⟨_,bg _,?_⟩|refine b_ rfl ?_|refine bp rfl ?_|refine aa (fun h=>?_) (fun h=>?_)|refine⟨_,rfl,?_⟩|fail)
 refine⟨VH hs a b,⟨_,hs,a+1,0,.refl,rfl,by omega,by omega,by omega,by omega,rfl,rfl,rfl,rfl,rfl⟩,?_⟩
 rintro n l5 x6 x7 x8 x9 ⟨h1,i,c,hsw,rfl,hi,hib,hc0,hc5,rfl,rfl,rfl,rfl,rfl⟩
 refine ew (fun h=>b_ rfl ?_) (fun h=>bp rfl ⟨trivial,hQ _ _ hsw⟩)
 refine⟨fun n l14 x15 x16 x17 x18=>∃i:Int,n=(b - i).toNat/\a < i/\i<=b/\l14=h1.map ii/\x15=ii a/\x16=ii b/\x17=ii i/\x18=ii c,⟨_,i,rfl,hi,hib,rfl,rfl,rfl,rfl,rfl⟩,?_⟩
 rintro n l14 x15 x16 x17 x18 ⟨i,rfl,hi,hib,rfl,rfl,rfl,rfl,rfl⟩
 have hl:=hsw.len
 have rest:∀h2,Sw 0 b hs h2->∃m4,m4 < (5 - c).toNat/\VH hs a b m4 (h2.map ii) (ii a) (ii b) (ii i) (ii (c+1)):=fun h2 hs2=>
  ⟨_,by omega,h2,i,c+1,hs2,rfl,hi,hib,by omega,by omega,rfl,rfl,rfl,rfl,rfl⟩
 have L2:=fun (h2:List Int) (hs2:Sw 0 b hs h2)=>lp2 (n3:=(5 - c).toNat) (I2:=VH hs a b) h2 a b i c ha (by omega) (by rw [hs2.len];exact hb) (by rw [hs2.len];exact hn) (by omega) (by omega) (fun h3 hs3=>rest h3 (hs2.trans hs3))
 have fin:=fun (h2:List Int) (hs2:Sw 0 b hs h2) (t:Bool)=>hQ h2 t hs2
 have hsw2:i < b->Sw 0 b hs (OB h1 i (i - 1)):=fun hlt=>.step i (i - 1) hsw (by omega) (by omega) (by omega) (by omega)
 repeat' (first|refine⟨_,bq,?_⟩|refine⟨_,br,?_⟩|refine⟨_,gI,?_⟩|refine⟨_,gH,?_⟩|refine⟨_,ga,?_⟩|refine⟨_,f_,?_⟩|refine⟨_,gG,?_⟩|refine ew (fun h=>?_) (fun h=>?_)|refine fu (fun h=>?_) (fun h=>?_)|refine fh (fun h=>?_) (fun h=>?_)|refine er (fun h=>?_) (fun h=>?_)|refine fj (fun h=>?_) (fun h=>?_)|refine⟨rfl,_,fun _=>ga,?_⟩|refine⟨rfl,0,(fun h=>by cases h),?_⟩|refine⟨rfl,ax rfl f_ ?_⟩|refine⟨rfl,bu rfl ?_⟩|refine ax rfl rfl ?_|refine ax rfl bq ?_|refine ax rfl br ?_|refine ax rfl (a_ (fy _ _)) ?_|refine ax rfl (bg _) ?_|refine bu rfl ?_|refine bx (fy _ _) ?_|refine⟨_,bg _,?_⟩|refine b_ rfl ?_|refine bp rfl ?_|refine aa (fun h=>?_) (fun h=>?_)|refine⟨_,rfl,?_⟩|fail)
 all_goals first
  |exact⟨_,by omega,i+1,rfl,by omega,by omega,rfl,rfl,rfl,rfl,rfl⟩
  |exact⟨trivial,hQ _ _ hsw⟩
  |exact L2 _ (hsw2 (by omega))
  |exact rest _ (hsw2 (by omega))
  |skip
 all_goals
  refine⟨fun n l50 x51 x52 x53 x54 x55=>∃(hs':List Int) (j:Int),Sw 0 b hs hs'/\n=j.toNat/\0<=j/\j < b/\l50=hs'.map ii/\x51=ii a/\x52=ii b/\x53=ii i/\x54=ii c/\x55=ii j,⟨_,OB h1 i (i - 1),i - 1,hsw2 (by omega),rfl,by omega,by omega,rfl,rfl,rfl,rfl,rfl,rfl⟩,?_⟩
  rintro n l50 x51 x52 x53 x54 x55 ⟨h3,j,hsw3,rfl,hj0,hj1,rfl,rfl,rfl,rfl,rfl,rfl⟩
  have hl3:=hsw3.len
  repeat' (first|refine⟨_,bq,?_⟩|refine⟨_,br,?_⟩|refine⟨_,gI,?_⟩|refine⟨_,gH,?_⟩|refine⟨_,ga,?_⟩|refine⟨_,f_,?_⟩|refine⟨_,gG,?_⟩|refine ew (fun h=>?_) (fun h=>?_)|refine fu (fun h=>?_) (fun h=>?_)|refine fh (fun h=>?_) (fun h=>?_)|refine er (fun h=>?_) (fun h=>?_)|refine fj (fun h=>?_) (fun h=>?_)|refine⟨rfl,_,fun _=>ga,?_⟩|refine⟨rfl,0,(fun h=>by cases h),?_⟩|refine⟨rfl,ax rfl f_ ?_⟩|refine⟨rfl,bu rfl ?_⟩|refine ax rfl rfl ?_|refine ax rfl bq ?_|refine ax rfl br ?_|refine ax rfl (a_ (fy _ _)) ?_|refine ax rfl (bg _) ?_|refine bu rfl ?_|refine bx (fy _ _) ?_|refine⟨_,bg _,?_⟩|refine b_ rfl ?_|refine bp rfl ?_|refine aa (fun h=>?_) (fun h=>?_)|refine⟨_,rfl,?_⟩|fail)
  all_goals first
   |exact L2 h3 hsw3
   |exact rest _ hsw3
   |exact⟨_,by omega,_,j - 1,.step j (j - 1) hsw3 (by omega) (by omega) (by omega) (by omega),rfl,by omega,by omega,rfl,rfl,rfl,rfl,rfl,rfl⟩
set_option maxHeartbeats 2000000 in
theorem t119 (hs:List Int) (a b p:Int) (ha:0<=a) (hb:b<=hs.length) (hn:hs.length<=100000000) (hp:a<=p/\p < b) (Q:List TV->TV->Prop) (hQ:∀hs' m,Sw a b hs hs'->a < m->m<=b->Q (hs'.map ii) (ii m)):DD Q (hs.map ii) (ii a) (ii b) (ii p):=by
 refine X2 _ _ _ _ _ ?_
 unfold Q3
 repeat (first|refine⟨_,bq,?_⟩|refine⟨_,br,?_⟩|refine⟨_,gI,?_⟩|refine⟨_,gH,?_⟩|refine⟨_,ga,?_⟩|refine⟨_,f_,?_⟩|refine⟨_,gG,?_⟩|refine ew (fun h=>?_) (fun h=>?_)|refine fu (fun h=>?_) (fun h=>?_)|refine fh (fun h=>?_) (fun h=>?_)|refine er (fun h=>?_) (fun h=>?_)|refine fj (fun h=>?_) (fun h=>?_)|refine⟨rfl,_,fun _=>ga,?_⟩|refine⟨rfl,0,(fun h=>by cases h),?_⟩|refine⟨rfl,ax rfl f_ ?_⟩|refine⟨rfl,bu rfl ?_⟩|refine ax rfl rfl ?_|refine ax rfl bq ?_|refine ax rfl br ?_|refine ax rfl (a_ (fy _ _)) ?_|refine ax rfl (bg _) ?_|refine bu rfl ?_|refine bx (fy _ _) ?_|refine⟨_,bg _,?_⟩|refine b_ rfl ?_|refine bp rfl ?_|refine aa (fun h=>?_) (fun h=>?_)|refine⟨_,rfl,?_⟩|fail)
 have hsw0:Sw a b hs (OB hs a p):=.step a p .refl (by omega) (by omega) (by omega) (by omega)
 refine⟨fun n l14 x15 x16 x17=>∃(hs':List Int) (i j:Int),Sw a b hs hs'/\n=(j+1 - i).toNat/\a < i/\i<=b/\a - 1<=j/\j < b/\l14=hs'.map ii/\x15=ii a/\x16=ii i/\x17=ii j,⟨_,OB hs a p,a+1,b - 1,hsw0,rfl,by omega,by omega,by omega,by omega,rfl,rfl,rfl,rfl⟩,?_⟩
 rintro n l14 x15 x16 x17 ⟨h1,i,j,hsw,rfl,hi,hib,hj,hjb,rfl,rfl,rfl,rfl⟩
 have hl:=hsw.len
 refine⟨fun n l21 x22 x23 x24=>∃i':Int,n=(j+1 - i').toNat/\i<=i'/\i'<=b/\l21=h1.map ii/\x22=ii a/\x23=ii i'/\x24=ii j,⟨_,i,rfl,Int.le_refl _,hib,rfl,rfl,rfl,rfl⟩,?_⟩
 rintro n l21 x22 x23 x24 ⟨i',rfl,hi',hib',rfl,rfl,rfl,rfl⟩
 have second:∃I36:Nat->List TV->TV->TV->TV->Prop,(∃n37,I36 n37 (h1.map ii) (ii a) (ii i') (ii j))/\∀n37 l39 x40 x41 x42,I36 n37 l39 x40 x41 x42->∃j':Int,n37=(j'+1 - i').toNat/\j'<=j/\a - 1<=j'/\l39=h1.map ii/\x40=ii a/\x41=ii i'/\x42=ii j':=⟨_,⟨_,j,rfl,Int.le_refl _,hj,rfl,rfl,rfl,rfl⟩,fun _ _ _ _ _ h=>h⟩
 clear second
 have inner:True:=trivial
 repeat' (first|refine⟨_,bq,?_⟩|refine⟨_,br,?_⟩|refine⟨_,gI,?_⟩|refine⟨_,gH,?_⟩|refine⟨_,ga,?_⟩|refine⟨_,f_,?_⟩|refine⟨_,gG,?_⟩|refine ew (fun h=>?_) (fun h=>?_)|refine fu (fun h=>?_) (fun h=>?_)|refine fh (fun h=>?_) (fun h=>?_)|refine er (fun h=>?_) (fun h=>?_)|refine fj (fun h=>?_) (fun h=>?_)|refine⟨rfl,_,fun _=>ga,?_⟩|refine⟨rfl,0,(fun h=>by cases h),?_⟩|refine⟨rfl,ax rfl f_ ?_⟩|refine⟨rfl,bu rfl ?_⟩|refine ax rfl rfl ?_|refine ax rfl bq ?_|refine ax rfl br ?_|refine ax rfl (a_ (fy _ _)) ?_|refine ax rfl (bg _) ?_|refine bu rfl ?_|refine bx (fy _ _) ?_|refine⟨_,bg _,?_⟩|refine b_ rfl ?_|refine bp rfl ?_|refine aa (fun h=>?_) (fun h=>?_)|refine⟨_,rfl,?_⟩|fail)
 all_goals first
  |exact⟨_,by omega,i'+1,rfl,by omega,by omega,rfl,rfl,rfl,rfl⟩
  |skip
 all_goals
  refine⟨fun n l39 x40 x41 x42=>∃j':Int,n=(j'+1 - i').toNat/\j'<=j/\a - 1<=j'/\l39=h1.map ii/\x40=ii a/\x41=ii i'/\x42=ii j',⟨_,j,rfl,Int.le_refl _,hj,rfl,rfl,rfl,rfl⟩,?_⟩
  rintro n l39 x40 x41 x42 ⟨j',rfl,hj',hja,rfl,rfl,rfl,rfl⟩
  repeat' (first|refine⟨_,bq,?_⟩|refine⟨_,br,?_⟩|refine⟨_,gI,?_⟩|refine⟨_,gH,?_⟩|refine⟨_,ga,?_⟩|refine⟨_,f_,?_⟩|refine⟨_,gG,?_⟩|refine ew (fun h=>?_) (fun h=>?_)|refine fu (fun h=>?_) (fun h=>?_)|refine fh (fun h=>?_) (fun h=>?_)|refine er (fun h=>?_) (fun h=>?_)|refine fj (fun h=>?_) (fun h=>?_)|refine⟨rfl,_,fun _=>ga,?_⟩|refine⟨rfl,0,(fun h=>by cases h),?_⟩|refine⟨rfl,ax rfl f_ ?_⟩|refine⟨rfl,bu rfl ?_⟩|refine ax rfl rfl ?_|refine ax rfl bq ?_|refine ax rfl br ?_|refine ax rfl (a_ (fy _ _)) ?_|refine ax rfl (bg _) ?_|refine bu rfl ?_|refine bx (fy _ _) ?_|refine⟨_,bg _,?_⟩|refine b_ rfl ?_|refine bp rfl ?_|refine aa (fun h=>?_) (fun h=>?_)|refine⟨_,rfl,?_⟩|fail)
  all_goals first
   |exact⟨_,by omega,j' - 1,rfl,by omega,by omega,rfl,rfl,rfl,rfl⟩
   |exact⟨trivial,hQ _ _ hsw (by omega) (by omega)⟩
   |exact⟨_,by omega,_,i'+1,j' - 1,.step i' j' hsw (by omega) (by omega) (by omega) (by omega),rfl,by omega,by omega,by omega,by omega,rfl,rfl,rfl,rfl⟩
end Go.Ax.eo

set_option maxRecDepth 100000
namespace Go.Ax.eo
open Go Go.Ax Go.Ax.V Go.Ax.Ft
attribute [local irreducible] Ey Oc Ob Oa N_ L4 Ku DD DC L3 N9 L0 LZ LY
set_option maxHeartbeats 4000000 in
theorem t120 (hs:List Int) (a b p:Int) (ha:0<=a) (hb:b<=hs.length) (hn:hs.length<=100000000) (hp:a<=p/\p < b) (Q:List TV->TV->Prop) (hQ:∀hs' m t,Sw a b hs hs'->a<=m->m < b->Q (hs'.map ii) (.tp [ii m,.b t])):DC Q (hs.map ii) (ii a) (ii b) (ii p):=by
 refine X1 _ _ _ _ _ ?_
 unfold Q2
 repeat (first|refine⟨_,bq,?_⟩|refine⟨_,br,?_⟩|refine⟨_,gI,?_⟩|refine⟨_,gH,?_⟩|refine⟨_,ga,?_⟩|refine⟨_,f_,?_⟩|refine⟨_,gG,?_⟩|refine ew (fun h=>?_) (fun h=>?_)|refine fu (fun h=>?_) (fun h=>?_)|refine fh (fun h=>?_) (fun h=>?_)|refine er (fun h=>?_) (fun h=>?_)|refine fj (fun h=>?_) (fun h=>?_)|refine⟨rfl,_,fun _=>ga,?_⟩|refine⟨rfl,0,(fun h=>by cases h),?_⟩|refine⟨rfl,ax rfl f_ ?_⟩|refine⟨rfl,bu rfl ?_⟩|refine ax rfl rfl ?_|refine ax rfl bq ?_|refine ax rfl br ?_|refine ax rfl (a_ (fy _ _)) ?_|refine ax rfl (bg _) ?_|refine bu rfl ?_|refine bx (fy _ _) ?_|refine⟨_,bg _,?_⟩|refine b_ rfl ?_|refine bp rfl ?_|refine aa (fun h=>?_) (fun h=>?_)|refine⟨_,rfl,?_⟩|fail)
 have hsw0:Sw a b hs (OB hs a p):=.step a p .refl (by omega) (by omega) (by omega) (by omega)
 have hl:=hsw0.len
 refine⟨fun n l14 x15 x16 x17=>∃i:Int,n=(b - i).toNat/\a < i/\i<=b/\l14=(OB hs a p).map ii/\x15=ii a/\x16=ii i/\x17=ii (b - 1),⟨_,a+1,rfl,by omega,by omega,rfl,rfl,rfl,rfl⟩,?_⟩
 rintro n l14 x15 x16 x17 ⟨i,rfl,hi,hib,rfl,rfl,rfl,rfl⟩
 repeat' (first|refine⟨_,bq,?_⟩|refine⟨_,br,?_⟩|refine⟨_,gI,?_⟩|refine⟨_,gH,?_⟩|refine⟨_,ga,?_⟩|refine⟨_,f_,?_⟩|refine⟨_,gG,?_⟩|refine ew (fun h=>?_) (fun h=>?_)|refine fu (fun h=>?_) (fun h=>?_)|refine fh (fun h=>?_) (fun h=>?_)|refine er (fun h=>?_) (fun h=>?_)|refine fj (fun h=>?_) (fun h=>?_)|refine⟨rfl,_,fun _=>ga,?_⟩|refine⟨rfl,0,(fun h=>by cases h),?_⟩|refine⟨rfl,ax rfl f_ ?_⟩|refine⟨rfl,bu rfl ?_⟩|refine ax rfl rfl ?_|refine ax rfl bq ?_|refine ax rfl br ?_|refine ax rfl (a_ (fy _ _)) ?_|refine ax rfl (bg _) ?_|refine bu rfl ?_|refine bx (fy _ _) ?_|refine⟨_,bg _,?_⟩|refine b_ rfl ?_|refine bp rfl ?_|refine aa (fun h=>?_) (fun h=>?_)|refine⟨_,rfl,?_⟩|fail)
 all_goals first
  |exact⟨_,by omega,i+1,rfl,by omega,by omega,rfl,rfl,rfl,rfl⟩
  |skip
 all_goals
  refine⟨fun n l31 x32 x33 x34=>∃j:Int,n=(j+1 - a).toNat/\a<=j/\j < b/\l31=(OB hs a p).map ii/\x32=ii a/\x33=ii i/\x34=ii j,⟨_,b - 1,rfl,by omega,by omega,rfl,rfl,rfl,rfl⟩,?_⟩
  rintro n l31 x32 x33 x34 ⟨j,rfl,hj,hjb,rfl,rfl,rfl,rfl⟩
  repeat' (first|refine⟨_,bq,?_⟩|refine⟨_,br,?_⟩|refine⟨_,gI,?_⟩|refine⟨_,gH,?_⟩|refine⟨_,ga,?_⟩|refine⟨_,f_,?_⟩|refine⟨_,gG,?_⟩|refine ew (fun h=>?_) (fun h=>?_)|refine fu (fun h=>?_) (fun h=>?_)|refine fh (fun h=>?_) (fun h=>?_)|refine er (fun h=>?_) (fun h=>?_)|refine fj (fun h=>?_) (fun h=>?_)|refine⟨rfl,_,fun _=>ga,?_⟩|refine⟨rfl,0,(fun h=>by cases h),?_⟩|refine⟨rfl,ax rfl f_ ?_⟩|refine⟨rfl,bu rfl ?_⟩|refine ax rfl rfl ?_|refine ax rfl bq ?_|refine ax rfl br ?_|refine ax rfl (a_ (fy _ _)) ?_|refine ax rfl (bg _) ?_|refine bu rfl ?_|refine bx (fy _ _) ?_|refine⟨_,bg _,?_⟩|refine b_ rfl ?_|refine bp rfl ?_|refine aa (fun h=>?_) (fun h=>?_)|refine⟨_,rfl,?_⟩|fail)
  all_goals first
   |exact⟨_,by omega,j - 1,rfl,by omega,by omega,rfl,rfl,rfl,rfl⟩
   |exact⟨trivial,⟨rfl,rfl,trivial⟩,hQ _ _ _ (.step j a hsw0 (by omega) (by omega) (by omega) (by omega)) (by omega) (by omega)⟩
   |skip
  all_goals
   refine⟨fun n l68 x69 x70 x71=>∃(hs':List Int) (i j:Int),Sw a b hs hs'/\n=(j+1 - i).toNat/\a < i/\i<=b/\a<=j/\j < b/\l68=hs'.map ii/\x69=ii a/\x70=ii i/\x71=ii j,⟨_,_,i+1,j - 1,.step i j hsw0 (by omega) (by omega) (by omega) (by omega),rfl,by omega,by omega,by omega,by omega,rfl,rfl,rfl,rfl⟩,?_⟩
   rintro n l68 x69 x70 x71 ⟨h1,i1,j1,hsw1,rfl,hi1,hib1,hj1,hjb1,rfl,rfl,rfl,rfl⟩
   have hl1:=hsw1.len
   refine⟨fun n l75 x76 x77 x78=>∃i2:Int,n=(b - i2).toNat/\i1<=i2/\i2<=b/\l75=h1.map ii/\x76=ii a/\x77=ii i2/\x78=ii j1,⟨_,i1,rfl,by omega,by omega,rfl,rfl,rfl,rfl⟩,?_⟩
   rintro n l75 x76 x77 x78 ⟨i2,rfl,hi2,hib2,rfl,rfl,rfl,rfl⟩
   repeat' (first|refine⟨_,bq,?_⟩|refine⟨_,br,?_⟩|refine⟨_,gI,?_⟩|refine⟨_,gH,?_⟩|refine⟨_,ga,?_⟩|refine⟨_,f_,?_⟩|refine⟨_,gG,?_⟩|refine ew (fun h=>?_) (fun h=>?_)|refine fu (fun h=>?_) (fun h=>?_)|refine fh (fun h=>?_) (fun h=>?_)|refine er (fun h=>?_) (fun h=>?_)|refine fj (fun h=>?_) (fun h=>?_)|refine⟨rfl,_,fun _=>ga,?_⟩|refine⟨rfl,0,(fun h=>by cases h),?_⟩|refine⟨rfl,ax rfl f_ ?_⟩|refine⟨rfl,bu rfl ?_⟩|refine ax rfl rfl ?_|refine ax rfl bq ?_|refine ax rfl br ?_|refine ax rfl (a_ (fy _ _)) ?_|refine ax rfl (bg _) ?_|refine bu rfl ?_|refine bx (fy _ _) ?_|refine⟨_,bg _,?_⟩|refine b_ rfl ?_|refine bp rfl ?_|refine aa (fun h=>?_) (fun h=>?_)|refine⟨_,rfl,?_⟩|fail)
   all_goals first
    |exact⟨_,by omega,i2+1,rfl,by omega,by omega,rfl,rfl,rfl,rfl⟩
    |skip
   all_goals
    refine⟨fun n l92 x93 x94 x95=>∃j2:Int,n=(j2+1 - a).toNat/\a<=j2/\j2<=j1/\l92=h1.map ii/\x93=ii a/\x94=ii i2/\x95=ii j2,⟨_,j1,rfl,by omega,by omega,rfl,rfl,rfl,rfl⟩,?_⟩
    rintro n l92 x93 x94 x95 ⟨j2,rfl,hj2,hjb2,rfl,rfl,rfl,rfl⟩
    repeat' (first|refine⟨_,bq,?_⟩|refine⟨_,br,?_⟩|refine⟨_,gI,?_⟩|refine⟨_,gH,?_⟩|refine⟨_,ga,?_⟩|refine⟨_,f_,?_⟩|refine⟨_,gG,?_⟩|refine ew (fun h=>?_) (fun h=>?_)|refine fu (fun h=>?_) (fun h=>?_)|refine fh (fun h=>?_) (fun h=>?_)|refine er (fun h=>?_) (fun h=>?_)|refine fj (fun h=>?_) (fun h=>?_)|refine⟨rfl,_,fun _=>ga,?_⟩|refine⟨rfl,0,(fun h=>by cases h),?_⟩|refine⟨rfl,ax rfl f_ ?_⟩|refine⟨rfl,bu rfl ?_⟩|refine ax rfl rfl ?_|refine ax rfl bq ?_|refine ax rfl br ?_|refine ax rfl (a_ (fy _ _)) ?_|refine ax rfl (bg _) ?_|refine bu rfl ?_|refine bx (fy _ _) ?_|refine⟨_,bg _,?_⟩|refine b_ rfl ?_|refine bp rfl ?_|refine aa (fun h=>?_) (fun h=>?_)|refine⟨_,rfl,?_⟩|fail)
    all_goals first
     |exact⟨_,by omega,j2 - 1,rfl,by omega,by omega,rfl,rfl,rfl,rfl⟩
     |exact⟨trivial,⟨rfl,rfl,trivial⟩,hQ _ _ _ (.step j2 a hsw1 (by omega) (by omega) (by omega) (by omega)) (by omega) (by omega)⟩
     |exact⟨_,by omega,_,i2+1,j2 - 1,.step i2 j2 hsw1 (by omega) (by omega) (by omega) (by omega),rfl,by omega,by omega,by omega,by omega,rfl,rfl,rfl,rfl⟩
set_option maxHeartbeats 4000000 in
theorem tl87 {n2:Nat} {I1:Nat->List TV->TV->TV->TV->TV->TV->Prop} (hs:List Int) (a b p lim:Int) (u w:Bool) (ha:0<=a) (hb:b<=hs.length) (hn:hs.length<=100000000) (hp:a<=p/\p < b)
  (hk:∀hs' a' b' u' w',Sw 0 hs.length hs hs'->a<=a'->b'<=b->a'<=b'->b' - a' < b - a->∃m3,m3 < n2/\I1 m3 (hs'.map ii) (ii a') (ii b') (ii lim) (.b u') (.b w'))
  (rc:∀hs' a' b' Q',Sw 0 hs.length hs hs'->a<=a'->b'<=b->a'<=b'->b' - a' < b - a->(∀hs'',Sw 0 hs.length hs' hs''->Q' (hs''.map ii) (.tp []))->Ey Q' (hs'.map ii) (ii a') (ii b') (ii lim)) :
 ∃v38,b8 .gtr (ii a) (TV.i .i64 0)=some v38/\
 ∃v39,gV v38 true (fun r=>some (ii a)=some r) v39/\
 ∃v40,gV v38 true (fun r=>b8 .sub v39 (TV.i .i64 1)=some r) v40/\
 gd v38 true v38 true/\∃Ow,(v38=.b true->dz v40 (List.length (hs.map ii))=some Ow)/\
 gd v38 true v38 true/\∃v42,gV v38 true (fun r=>gA (hs.map ii) Ow 0 none=some r) v42/\
 ∃W3,gV v38 true (fun r=>some (ii p)=some r) W3/\
 gd v38 true v38 true/\∃W2,(v38=.b true->dz W3 (List.length (hs.map ii))=some W2)/\
 gd v38 true v38 true/\∃v45,gV v38 true (fun r=>gA (hs.map ii) W2 0 none=some r) v45/\
 ∃ZZ,gV v38 true (fun r=>VS prog 118 [v42,v45] fun r'=>r'=r/\bz true r) ZZ/\
 ∃v47,gV v38 true (fun r=>oe .not ZZ=some r) v47/\
 ∃v48,bf v38 v47 (TV.b false)=some v48/\
 ak v48
 (DD (fun (l49:List TV) (r50:TV)=>
 ∃m3,m3 < n2/\I1 m3 l49 r50 (ii b) (ii lim) (.b u) (.b w))
 (hs.map ii) (ii a) (ii b) (ii p))
 (DC (fun (l51:List TV) (r52:TV)=>
 ∃v53,jv 0 r52=some v53/\
 ∃v54,jv 1 r52=some v54/\
 ∃v55,b8 .sub v53 (ii a)=some v55/\
 ∃VL,b8 .sub (ii b) v53=some VL/\
 ∃v57,b8 .quo (ii (b - a)) (TV.i .i64 8)=some v57/\
 ∃v58,b8 .lss v55 VL=some v58/\
 ak v58
 (∃v59,b8 .geq v55 v57=some v59/\
 Ey (fun (l60:List TV) (r61:TV)=>
 ∃SW,b8 .add v53 (TV.i .i64 1)=some SW/\
 ∃m3,m3 < n2/\I1 m3 l60 SW (ii b) (ii lim) v59 v54)
 l51 (ii a) v53 (ii lim))
 (∃SV,b8 .geq VL v57=some SV/\
 ∃W0,b8 .add v53 (TV.i .i64 1)=some W0/\
 Ey (fun (l65:List TV) (r66:TV)=>
 ∃m3,m3 < n2/\I1 m3 l65 (ii a) v53 (ii lim) SV v54)
 l51 W0 (ii b) (ii lim)))
 (hs.map ii) (ii a) (ii b) (ii p)):=by
 have hpa:=hp
 repeat' (first|refine⟨_,bq,?_⟩|refine⟨_,br,?_⟩|refine⟨_,gI,?_⟩|refine⟨_,gH,?_⟩|refine⟨_,ga,?_⟩|refine⟨_,f_,?_⟩|refine⟨_,gG,?_⟩|refine ew (fun h=>?_) (fun h=>?_)|refine fu (fun h=>?_) (fun h=>?_)|refine fh (fun h=>?_) (fun h=>?_)|refine er (fun h=>?_) (fun h=>?_)|refine fj (fun h=>?_) (fun h=>?_)|refine⟨rfl,_,fun _=>ga,?_⟩|refine⟨rfl,0,(fun h=>by cases h),?_⟩|refine⟨rfl,ax rfl f_ ?_⟩|refine⟨rfl,bu rfl ?_⟩|refine ax rfl rfl ?_|refine ax rfl bq ?_|refine ax rfl br ?_|refine ax rfl (a_ (fy _ _)) ?_|refine ax rfl (bg _) ?_|refine bu rfl ?_|refine bx (fy _ _) ?_|refine⟨_,bg _,?_⟩|refine b_ rfl ?_|refine bp rfl ?_|refine aa (fun h=>?_) (fun h=>?_)|refine⟨_,rfl,?_⟩|fail)
 all_goals first
  |refine t119 hs a b p ha hb hn hp _ (fun hs' m hsw h1 h2=>?_)
   exact hk hs' m b _ _ (hsw.wide ha (by omega)) (by omega) (by omega) (by omega) (by omega)
  |refine t120 hs a b p ha hb hn hp _ (fun hs' m t hsw h1 h2=>?_)
   have hl:=hsw.len
   have hsw':=hsw.wide ha hb
   repeat' (first|refine⟨_,bq,?_⟩|refine⟨_,br,?_⟩|refine⟨_,gI,?_⟩|refine⟨_,gH,?_⟩|refine⟨_,ga,?_⟩|refine⟨_,f_,?_⟩|refine⟨_,gG,?_⟩|refine ew (fun h=>?_) (fun h=>?_)|refine fu (fun h=>?_) (fun h=>?_)|refine fh (fun h=>?_) (fun h=>?_)|refine er (fun h=>?_) (fun h=>?_)|refine fj (fun h=>?_) (fun h=>?_)|refine⟨rfl,_,fun _=>ga,?_⟩|refine⟨rfl,0,(fun h=>by cases h),?_⟩|refine⟨rfl,ax rfl f_ ?_⟩|refine⟨rfl,bu rfl ?_⟩|refine ax rfl rfl ?_|refine ax rfl bq ?_|refine ax rfl br ?_|refine ax rfl (a_ (fy _ _)) ?_|refine ax rfl (bg _) ?_|refine bu rfl ?_|refine bx (fy _ _) ?_|refine⟨_,bg _,?_⟩|refine b_ rfl ?_|refine bp rfl ?_|refine aa (fun h=>?_) (fun h=>?_)|refine⟨_,rfl,?_⟩|fail)
   all_goals
    refine rc hs' _ _ _ hsw' (by omega) (by omega) (by omega) (by omega) (fun hs'' hsw''=>?_)
    first
     |exact hk hs'' _ _ _ _ (hsw'.trans hsw'') (by omega) (by omega) (by omega) (by omega)
     |exact⟨_,br,hk hs'' _ _ _ _ (hsw'.trans hsw'') (by omega) (by omega) (by omega) (by omega)⟩
def I87 (hs:List Int) (a b:Int) (n:Nat) (l:List TV) (x5 x6 x7 x8 x9:TV):Prop:=∃(hs':List Int) (a' b' lim:Int) (u w:Bool),Sw 0 hs.length hs hs'/\n=(b' - a').toNat/\a<=a'/\b'<=b/\a'<=b'/\0<=lim/\lim<=64/\l=hs'.map ii/\x5=ii a'/\x6=ii b'/\x7=ii lim/\x8=.b u/\x9=.b w
set_option maxHeartbeats 4000000 in
theorem t87:∀(N:Nat) (hs:List Int) (a b lim:Int),(b - a).toNat < N->0<=a->a<=b->b<=hs.length->hs.length < 256->0<=lim->lim<=64->∀Q:List TV->TV->Prop,(∀hs',Sw 0 hs.length hs hs'->Q (hs'.map ii) (.tp []))->Ey Q (hs.map ii) (ii a) (ii b) (ii lim):=by
 intro N
 induction N with
 |zero=>intro hs a b lim h;omega
 |succ N ih=>
  intro hs a b lim hN ha hab hb hn hl0 hl1 Q hQ
  refine sh87 _ _ _ _ _ ?_
  unfold Vp
  refine⟨I87 hs a b,⟨_,hs,a,b,lim,true,true,.refl,rfl,by omega,by omega,hab,hl0,hl1,rfl,rfl,rfl,rfl,rfl,rfl⟩,?_⟩
  rintro n l4 x5 x6 x7 x8 x9 ⟨h1,a1,b1,lm,u,w,hsw,rfl,haa,hbb,hab1,hm0,hm1,rfl,rfl,rfl,rfl,rfl,rfl⟩
  have hlen:=hsw.len
  have T:=fun (lm:Int) (h0:0<=lm) (h9:lm<=64) (u w:Bool) (hX:List Int) (hswX:Sw 0 hs.length hs hX) (p:Int) (hp1:a1<=p) (hp2:p < b1)=>
   tl87 (n2:=(b1 - a1).toNat) (I1:=I87 hs a b) hX a1 b1 p lm u w (by omega) (by rw [hswX.len];omega) (by rw [hswX.len];omega) ⟨hp1,hp2⟩
    (fun hs' a' b' u' w' hsw' e1 e2 e3 e4=>⟨_,by omega,hs',a',b',lm,u',w',hswX.trans (by rw [hswX.len] at hsw';exact hsw'),rfl,by omega,by omega,by omega,h0,h9,rfl,rfl,rfl,rfl,rfl,rfl⟩)
    (fun hs' a' b' Q' hsw' e1 e2 e3 e4 hq=>ih hs' a' b' lm (by omega) (by omega) e3 (by rw [hsw'.len,hswX.len];omega) (by rw [hsw'.len,hswX.len];omega) h0 h9 Q' (fun hs'' hsw''=>hq hs'' (by rw [hsw'.len] at hsw'';exact hsw'')))
  refine⟨_,bq,?_⟩
  refine fh (fun h=>b_ rfl (t112 h1 a1 b1 (by omega) (by omega) (by omega) _ (fun h2 hsw2=>⟨trivial,trivial,hQ _ (hsw.trans (hsw2.wide (by omega) (by omega)))⟩) hab1)) (fun h12=>bp rfl ?_)
  refine fj (fun h=>b_ rfl (t113 h1 a1 b1 (by omega) (by omega) (by omega) (by omega) _ (fun h2 hsw2=>⟨trivial,trivial,hQ _ (hsw.trans (hsw2.wide (by omega) (by omega)))⟩))) (fun hlm=>bp rfl ?_)
  have pt:∀(lm:Int),0<=lm->lm<=64->True:=fun _ _ _=>trivial
  cases u<;>cases w
  all_goals
   iterate 2 (first|refine⟨_,bq,?_⟩|refine⟨_,br,?_⟩|refine⟨_,gI,?_⟩|refine⟨_,gH,?_⟩|refine⟨_,ga,?_⟩|refine⟨_,f_,?_⟩|refine⟨_,gG,?_⟩|refine ew (fun h=>?_) (fun h=>?_)|refine fu (fun h=>?_) (fun h=>?_)|refine fh (fun h=>?_) (fun h=>?_)|refine er (fun h=>?_) (fun h=>?_)|refine fj (fun h=>?_) (fun h=>?_)|refine⟨rfl,_,fun _=>ga,?_⟩|refine⟨rfl,0,(fun h=>by cases h),?_⟩|refine⟨rfl,ax rfl f_ ?_⟩|refine⟨rfl,bu rfl ?_⟩|refine ax rfl rfl ?_|refine ax rfl bq ?_|refine ax rfl br ?_|refine ax rfl (a_ (fy _ _)) ?_|refine ax rfl (bg _) ?_|refine bu rfl ?_|refine bx (fy _ _) ?_|refine⟨_,bg _,?_⟩|refine b_ rfl ?_|refine bp rfl ?_|refine aa (fun h=>?_) (fun h=>?_)|refine⟨_,rfl,?_⟩|fail)
   first
    |refine t114 h1 a1 b1 (by omega) (by omega) (by omega) (by omega) (by omega) _ (fun h2 hsw2=>?_)
     (first|refine⟨_,bq,?_⟩|refine⟨_,br,?_⟩|refine⟨_,gI,?_⟩|refine⟨_,gH,?_⟩|refine⟨_,ga,?_⟩|refine⟨_,f_,?_⟩|refine⟨_,gG,?_⟩|refine ew (fun h=>?_) (fun h=>?_)|refine fu (fun h=>?_) (fun h=>?_)|refine fh (fun h=>?_) (fun h=>?_)|refine er (fun h=>?_) (fun h=>?_)|refine fj (fun h=>?_) (fun h=>?_)|refine⟨rfl,_,fun _=>ga,?_⟩|refine⟨rfl,0,(fun h=>by cases h),?_⟩|refine⟨rfl,ax rfl f_ ?_⟩|refine⟨rfl,bu rfl ?_⟩|refine ax rfl rfl ?_|refine ax rfl bq ?_|refine ax rfl br ?_|refine ax rfl (a_ (fy _ _)) ?_|refine ax rfl (bg _) ?_|refine bu rfl ?_|refine bx (fy _ _) ?_|refine⟨_,bg _,?_⟩|refine b_ rfl ?_|refine bp rfl ?_|refine aa (fun h=>?_) (fun h=>?_)|refine⟨_,rfl,?_⟩|fail)
    |obtain⟨h2,hsw2⟩:∃h2,Sw a1 b1 h1 h2/\h2=h1:=⟨h1,.refl,rfl⟩
     obtain⟨hsw2,rfl⟩:=hsw2
   have hsw3:=hsw.trans (hsw2.wide (by omega:(0:Int)<=a1) (by omega:b1<=(hs.length:Int)))
   have hl3:=hsw3.len
   refine t115 h2 a1 b1 (by omega) (by omega) (by omega) (by omega) _ (fun p hint hp1 hp2=>?_)
   refine⟨_,rfl,_,rfl,?_⟩
   refine fj (fun h=>b_ rfl ?_) (fun h=>bp rfl ?_)
   ·refine t116 h2 a1 b1 (by omega) (by omega) (by omega) _ (fun h4 hsw4=>?_) hab1
    have hsw5:=hsw3.trans (hsw4.wide (by omega:(0:Int)<=a1) (by omega:b1<=(hs.length:Int)))
    have hl5:=hsw5.len
    iterate 3 (first|refine⟨_,bq,?_⟩|refine⟨_,br,?_⟩|refine⟨_,gI,?_⟩|refine⟨_,gH,?_⟩|refine⟨_,ga,?_⟩|refine⟨_,f_,?_⟩|refine⟨_,gG,?_⟩|refine ew (fun h=>?_) (fun h=>?_)|refine fu (fun h=>?_) (fun h=>?_)|refine fh (fun h=>?_) (fun h=>?_)|refine er (fun h=>?_) (fun h=>?_)|refine fj (fun h=>?_) (fun h=>?_)|refine⟨rfl,_,fun _=>ga,?_⟩|refine⟨rfl,0,(fun h=>by cases h),?_⟩|refine⟨rfl,ax rfl f_ ?_⟩|refine⟨rfl,bu rfl ?_⟩|refine ax rfl rfl ?_|refine ax rfl bq ?_|refine ax rfl br ?_|refine ax rfl (a_ (fy _ _)) ?_|refine ax rfl (bg _) ?_|refine bu rfl ?_|refine bx (fy _ _) ?_|refine⟨_,bg _,?_⟩|refine b_ rfl ?_|refine bp rfl ?_|refine aa (fun h=>?_) (fun h=>?_)|refine⟨_,rfl,?_⟩|fail)
    repeat' (first|exact T _ (by omega) (by omega) _ _ _ hsw5 _ (by omega) (by omega)|(first|refine⟨_,bq,?_⟩|refine⟨_,br,?_⟩|refine⟨_,gI,?_⟩|refine⟨_,gH,?_⟩|refine⟨_,ga,?_⟩|refine⟨_,f_,?_⟩|refine⟨_,gG,?_⟩|refine ew (fun h=>?_) (fun h=>?_)|refine fu (fun h=>?_) (fun h=>?_)|refine fh (fun h=>?_) (fun h=>?_)|refine er (fun h=>?_) (fun h=>?_)|refine fj (fun h=>?_) (fun h=>?_)|refine⟨rfl,_,fun _=>ga,?_⟩|refine⟨rfl,0,(fun h=>by cases h),?_⟩|refine⟨rfl,ax rfl f_ ?_⟩|refine⟨rfl,bu rfl ?_⟩|refine ax rfl rfl ?_|refine ax rfl bq ?_|refine ax rfl br ?_|refine ax rfl (a_ (fy _ _)) ?_|refine ax rfl (bg _) ?_|refine bu rfl ?_|refine bx (fy _ _) ?_|refine⟨_,bg _,?_⟩|refine b_ rfl ?_|refine bp rfl ?_|refine aa (fun h=>?_) (fun h=>?_)|refine⟨_,rfl,?_⟩|fail))
    all_goals
     refine t117 h4 a1 b1 (by omega) (by omega) (by omega) (by omega) _ (fun h6 t hsw6=>?_)
     have hsw7:=hsw5.trans (hsw6.wide (by omega:(0:Int)<=0) (by omega:b1<=(hs.length:Int)))
     exact aa (fun _=>⟨trivial,trivial,hQ _ hsw7⟩) (fun _=>T _ (by omega) (by omega) _ _ _ hsw7 _ (by omega) (by omega))
   ·repeat' (first|exact T _ (by omega) (by omega) _ _ _ hsw3 _ (by omega) (by omega)|(first|refine⟨_,bq,?_⟩|refine⟨_,br,?_⟩|refine⟨_,gI,?_⟩|refine⟨_,gH,?_⟩|refine⟨_,ga,?_⟩|refine⟨_,f_,?_⟩|refine⟨_,gG,?_⟩|refine ew (fun h=>?_) (fun h=>?_)|refine fu (fun h=>?_) (fun h=>?_)|refine fh (fun h=>?_) (fun h=>?_)|refine er (fun h=>?_) (fun h=>?_)|refine fj (fun h=>?_) (fun h=>?_)|refine⟨rfl,_,fun _=>ga,?_⟩|refine⟨rfl,0,(fun h=>by cases h),?_⟩|refine⟨rfl,ax rfl f_ ?_⟩|refine⟨rfl,bu rfl ?_⟩|refine ax rfl rfl ?_|refine ax rfl bq ?_|refine ax rfl br ?_|refine ax rfl (a_ (fy _ _)) ?_|refine ax rfl (bg _) ?_|refine bu rfl ?_|refine bx (fy _ _) ?_|refine⟨_,bg _,?_⟩|refine b_ rfl ?_|refine bp rfl ?_|refine aa (fun h=>?_) (fun h=>?_)|refine⟨_,rfl,?_⟩|fail))
    all_goals
     refine t117 h2 a1 b1 (by omega) (by omega) (by omega) (by omega) _ (fun h6 t hsw6=>?_)
     have hsw7:=hsw3.trans (hsw6.wide (by omega:(0:Int)<=0) (by omega:b1<=(hs.length:Int)))
     exact aa (fun _=>⟨trivial,trivial,hQ _ hsw7⟩) (fun _=>T _ (by omega) (by omega) _ _ _ hsw7 _ (by omega) (by omega))
theorem t63 (hs:List Int) (hn:hs.length < 256) (Q:List TV->TV->Prop) (hQ:∀hs':List Int,hs'.length=hs.length->Q (hs'.map ii) (.tp [])):S63 Q (hs.map ii):=by
 refine sh63 _ _ ?_
 unfold Vv
 refine⟨_,rfl,_,rfl,?_⟩
 rw [List.length_map,KG (by omega) (by omega)]
 refine oK (t88 hn) (fun r hr=>?_)
 obtain⟨m,rfl,h1,h2,h3⟩:=hr
 refine⟨trivial,t87 _ hs 0 hs.length m (Nat.lt_succ_self _) (by omega) (by omega) (by omega) hn (by omega) (by omega) _ (fun hs' hsw=>⟨trivial,trivial,hQ _ hsw.len⟩)⟩
end Go.Ax.eo

set_option maxRecDepth 100000
namespace Go.Ax.eo
open Go Go.Ax Go.Ax.V Go.Ax.Ft
mutual
theorem OD:∀(s:Sm) (a b:Int) (g:Gr),2*g.heads.length<=g.dm.length->2*(KA s a b g).heads.length<=(KA s a b g).dm.length
 |.mk kind var chan tag e c body els c7,a,b,g,h=>by
  rw [KA]
  split
  ·simp [Gr.dj];omega
  split
  ·exact Dj els _ _ _ (by
    have:=Dj body g.nodes b (g.node.dj ⟨a,g.nodes,2,0,0,0,lY,c⟩) (by simp [Gr.dj,Gr.node];omega)
    simp only [Gr.dj,Gr.node,List.length_append,List.length_singleton] at this ⊢;omega)
  split
  ·exact Dj body _ _ _ (by simp [Gr.dj,Gr.node,Gr.head];omega)
  split
  ·simp [Gr.dj];omega
  split
  ·exact QM chan c7 a b g h
  split
  ·simp [Gr.dj];omega
  split
  ·simp [Gr.dj];omega
  ·exact h
theorem Dj:∀(l:List Sm) (a b:Int) (g:Gr),2*g.heads.length<=g.dm.length->2*(ym l a b g).heads.length<=(ym l a b g).dm.length
 |[],a,b,g,h=>by rw [ym];simp [Gr.dj];omega
 |[s],a,b,g,h=>by rw [ym];exact OD s a b g h
 |s::t::r,a,b,g,h=>by
  rw [ym]
  exact Dj (t::r) _ _ _ (OD s _ _ _ (by simpa [Gr.node] using h))
theorem QM (chan:Int):∀(l:List Ar) (a b:Int) (g:Gr),2*g.heads.length<=g.dm.length->2*(Hz chan l a b g).heads.length<=(Hz chan l a b g).dm.length
 |[],a,b,g,h=>by rw [Hz];exact h
 |.mk tag var body::r,a,b,g,h=>by
  rw [Hz]
  exact QM chan r _ _ _ (Dj body _ _ _ (by simp [Gr.dj,Gr.node];omega))
end
theorem TM (x:Pr):2*(lG x).heads.length<=(lG x).dm.length:=Dj _ _ _ _ (by simp)
def DX (ps:List Pr) (gs:List TV):Prop:=∃hss:List (List Int),hss.length=ps.length/\gs=(ps.zip hss).map fun q=>y_ {lG q.1 with heads:=q.2}
theorem NI:DX [] []:=⟨[],rfl,rfl⟩
theorem DX.len {ps:List Pr} {gs:List TV} (h:DX ps gs):gs.length=ps.length:=by
 obtain⟨hss,h1,rfl⟩:=h
 simp [h1]
theorem DX.snoc {ps:List Pr} {gs:List TV} {i:Nat} {x:Pr} (h:DX (ps.take i) gs) (hx:ps[i]?=some x) (hs:List Int):DX (ps.take (i+1)) (gs++[y_ {lG x with heads:=hs}]):=by
 obtain⟨hss,h1,rfl⟩:=h
 refine⟨hss++[hs],?_,?_⟩
 ·rw [←l_ hx];simp only [List.length_append,List.length_singleton,h1]
 ·rw [←l_ hx,List.zip_append h1.symm];simp
def isG (p:Pg) (r:TV):Prop:=∃(c v:TV) (gs:List TV) (f:Int),r=.tp [.a [c,.l gs,v],ii f]/\(f=0->Jw p=true/\p.procs.all (fun x=>decide ((lG x).dm.length<=400))=true/\DX p.procs gs)
theorem s43g (p:Pg) (hz:Gb p):VS prog 43 [oZ p] (isG p):=by
 have hlc:=hz.ay
 have hlp:=hz.procs
 have hl2:(p.procs.map n8).length=p.procs.length:=List.length_map _
 have h60:=s60 p hz
 have h61:=s61 p.ay hlc hz.rules hz.rows
 refine vs43 _ _ ?_
 unfold W43
 (repeat (first|refine⟨rfl,?_⟩|refine⟨_,bq,?_⟩|refine⟨_,br,?_⟩|refine⟨_,rfl,?_⟩|refine⟨_,bg _,?_⟩|refine⟨_,⟨rfl,rfl⟩,?_⟩|refine nh ?_|refine m_ ?_|refine m9 ?_|refine m8 ?_|refine jt ?_|refine kq ?_|refine bx h60 ?_|refine ni ?_|refine gB _ (fun h=>by first|exact a_ h60|(rw [h];exact a_ h60)) ?_|refine ng ?_|refine gO _ (fun h=>by first|exact a_ h60|(rw [h];exact a_ h60)) ?_))
 refine aa (fun h=>?_) (fun h=>?_)
 ·refine⟨_,rfl,trivial,_,rfl,_,rfl,_,rfl,_,rfl,Nc rfl rfl,?_⟩
  have h':Jw p=false:=by simpa using h
  exact⟨_,_,_,1,rfl,fun h=>by cases h⟩
 have hok:Jw p=true:=by simpa using h
 (repeat (first|refine⟨rfl,?_⟩|refine⟨_,bq,?_⟩|refine⟨_,br,?_⟩|refine⟨_,rfl,?_⟩|refine⟨_,bg _,?_⟩|refine⟨_,⟨rfl,rfl⟩,?_⟩|refine nh ?_|refine m_ ?_|refine m9 ?_|refine m8 ?_|refine jt ?_|refine kq ?_|refine bx h61 ?_|refine ni ?_|refine gB _ (fun h=>by first|exact a_ h61|(rw [h];exact a_ h61)) ?_|refine ng ?_|refine gO _ (fun h=>by first|exact a_ h61|(rw [h];exact a_ h61)) ?_))
 refine⟨fun m o18 l19 l20 l21 o22 l23 l24 x26 x27 x28=>∃i:Nat,i<=p.procs.length/\m=p.procs.length - i/\o18=.a [.l [],.l [],.l []]/\o22=.a [.l (p.ay.map dy),.l [],.l []]/\DX (p.procs.take i) l23/\l24.length=i/\
   x26=.l (p.procs.map n8)/\x27=ii p.procs.length/\x28=ii i/\(p.procs.take i).all (fun x=>decide ((lG x).dm.length<=400))=true,⟨_,0,by omega,rfl,rfl,rfl,NI,rfl,rfl,by rw [hl2],rfl,rfl⟩,?_⟩
 rintro m o18 l19 l20 l21 o22 l23 l24 x26 x27 x28 ⟨i,hi,rfl,rfl,rfl,hg1,hg2,rfl,rfl,rfl,hall⟩
 refine⟨_,rfl,aa (fun h3=>?_) (fun h3=>?_)⟩
 ·replace h3:=ek h3
  obtain⟨x,hx⟩:∃x,p.procs[i]?=some x:=⟨_,List.getElem?_eq_getElem h3⟩
  have hx':(p.procs.map n8)[i]?=some (n8 x):=by rw [List.getElem?_map,hx];rfl
  have hxm:=List.mem_of_getElem? hx
  have hb:=hz.body x hxm
  refine⟨_,⟨eu hx',rfl⟩,_,rfl,_,rfl,_,rfl,_,rfl,_,rfl,?_⟩
  refine u62 x.body hb ⟨2,[],[]⟩ 0 1 ⟨(by decide:(0:Int)<=2),(by omega:(2:Int)+((gP x.body+1:Nat):Int)<=100000000),by simp only [List.length_nil];omega,by simp only [List.length_nil];omega⟩ _ ?_
  have hle:(eE (lG x)).length=(lG x).dm.length:=List.length_map _
  refine⟨_,rfl,_,rfl,aa (fun h4=>?_) (fun h4=>?_)⟩
  ·have h5:¬(lG x).dm.length<=400:=by
    have h4':sw 400 ((eE (lG x)).length:Int)=true:=h4
    rw [hle,lS,decide_eq_true_eq] at h4'
    omega
   refine⟨_,rfl,trivial,_,rfl,_,rfl,_,rfl,_,rfl,Nc rfl rfl,?_⟩
   have h6:(p.procs.all fun x=>decide ((lG x).dm.length<=400))=false:=Cu hx (by simpa using h5)
   exact⟨_,_,_,10,rfl,fun h=>by cases h⟩
  ·have h5:(lG x).dm.length<=400:=by
    have h4':sw 400 ((eE (lG x)).length:Int)=false:=h4
    rw [hle,lS,decide_eq_false_iff_not] at h4'
    omega
   have hhe:=TM x
   have hgl:=hg1.len
   have hl3:l23.length<=4194304:=by rw [hgl,List.length_take];omega
   have hl4:l24.length<=4194304:=by omega
   refine t63 (lG x).heads (by omega) _ (fun hs' hlen=>?_)
   refine⟨_,rfl,rfl,rfl,_,rfl,_,rfl,rfl,_,rfl,rfl,_,ve,?_⟩
   refine⟨_,rfl,rfl,rfl,_,rfl,rfl,_,ve,?_⟩
   refine⟨_,rfl,_,rfl,_,c_ h3 (by omega),_,by omega,i+1,by omega,rfl,rfl,rfl,hg1.snoc hx hs',by rw [List.length_append,hg2];rfl,rfl,rfl,rfl,B6 hx hall (by simpa using h5)⟩
 ·obtain rfl:=gQ hi h3
  rw [List.take_length] at hall
  refine⟨_,rfl,_,rfl,trivial,_,rfl,_,rfl,_,rfl,Nc rfl rfl,?_⟩
  rw [List.take_length] at hg1
  exact⟨_,_,_,0,rfl,fun _=>⟨hok,hall,hg1⟩⟩
end Go.Ax.eo

set_option maxRecDepth 100000
namespace Go.Ax.eo
open Go Go.Ax Go.Ax.V Go.Ax.Ft
theorem Z4:∀(e:Ex),BF e<=4194304->VS prog 36 [q8 e] (fun r=>r=q8 e)
 |.mk k n v ks,hB=>by
  have hks:qf ks<=4194304:=by simp only [BF] at hB;omega
  have hk:=Nat.le_trans (B9 ks) hks
  have ih:∀e∈ks,VS prog 36 [q8 e] (fun r=>r=q8 e):=fun e he=>Z4 e (Nat.le_trans (B8 he) hks)
  refine vs36 _ _ ?_
  unfold W36
  (repeat (first|refine⟨rfl,?_⟩|refine⟨_,bq,?_⟩|refine⟨_,br,?_⟩|refine⟨_,rfl,?_⟩|refine⟨_,bg _,?_⟩|refine⟨_,⟨rfl,rfl⟩,?_⟩|refine nh ?_|refine m_ ?_|refine m9 ?_|refine m8 ?_|refine jt ?_|refine kq ?_|refine ni ?_|refine ng ?_))
  refine⟨fun m o11 o12 l13 o14 l15 x16=>∃i:Nat,i<=ks.length/\m=ks.length - i/\o11=q8 (.mk k n v ks)/\o12=.a [ii 0,ii 0,ii 0,.l []]/\o14=.a [ii k,ii n,ii v,.l []]/\l15=(ks.take i).map q8/\x16=ii i,
   ⟨_,0,by omega,rfl,rfl,rfl,rfl,rfl,rfl⟩,?_⟩
  rintro m o11 o12 l13 o14 l15 x16 ⟨i,hi,rfl,rfl,rfl,rfl,rfl,rfl⟩
  refine⟨_,rfl,_,rfl,_,rfl,aa (fun h3=>?_) (fun h3=>?_)⟩
  ·rw [ql] at h3
   replace h3:=ek h3
   obtain⟨x,hx⟩:∃x,ks[i]?=some x:=⟨_,List.getElem?_eq_getElem h3⟩
   have hx':(o_ ks)[i]?=some (q8 x):=by rw [mc,List.getElem?_map,hx];rfl
   have hih:=ih x (List.mem_of_getElem? hx)
   refine⟨_,rfl,_,⟨eu hx',Ip x⟩,?_⟩
   have hl:((ks.take i).map q8).length<=4194304:=by simp;omega
   have ht:=oL (f:=q8) hx
   obtain⟨k',n',v',ks'⟩:=x
   (repeat (first|refine⟨rfl,?_⟩|refine⟨_,bq,?_⟩|refine⟨_,br,?_⟩|refine⟨_,rfl,?_⟩|refine⟨_,bg _,?_⟩|refine⟨_,⟨rfl,rfl⟩,?_⟩|refine nh ?_|refine m_ ?_|refine m9 ?_|refine m8 ?_|refine jt ?_|refine kq ?_|refine bx hih ?_|refine ni ?_|refine gB _ (fun h=>by first|exact a_ hih|(rw [h];exact a_ hih)) ?_|refine ng ?_|refine gO _ (fun h=>by first|exact a_ hih|(rw [h];exact a_ hih)) ?_))
   refine⟨_,ve,?_⟩
   rw [ht]
   exact⟨_,rfl,_,c_ h3 (by omega),_,by omega,i+1,by omega,rfl,rfl,rfl,rfl,rfl,rfl⟩
  ·rw [ql] at h3
   obtain rfl:=gQ hi h3
   (repeat (first|refine⟨rfl,?_⟩|refine⟨_,bq,?_⟩|refine⟨_,br,?_⟩|refine⟨_,rfl,?_⟩|refine⟨_,bg _,?_⟩|refine⟨_,⟨rfl,rfl⟩,?_⟩|refine nh ?_|refine m_ ?_|refine m9 ?_|refine m8 ?_|refine jt ?_|refine kq ?_|refine ni ?_|refine ng ?_))
   refine⟨trivial,_,rfl,_,rfl,trivial,?_⟩
   rw [List.take_length,←mc];rfl
theorem s64:∀(n:Nat) (l:List Sm),gP l<=n->n<=4194304->VS prog 64 [.l (gq l)] (fun r=>r=.l (gq l)):=by
 intro n
 induction n with
 |zero=>
  intro l hl _
  have:l=[]:=by
   cases l with
   |nil=>rfl
   |cons s r=>have:=AM s;simp only [gP] at hl;omega
  subst this
  refine We _ _ ?_
  unfold W64
  refine⟨fun m x4 l5 x6=>x4=.l []/\l5=[]/\x6=ii 0,⟨0,rfl,rfl,rfl⟩,?_⟩
  rintro m x4 l5 x6 ⟨rfl,rfl,rfl⟩
  exact⟨_,rfl,_,rfl,bp rfl ⟨trivial,trivial,rfl⟩⟩
 |succ n ih=>
  intro l hl hn
  have hll:=tv l
  refine We _ _ ?_
  unfold W64
  refine⟨fun m x4 l5 x6=>∃i:Nat,i<=l.length/\m=l.length - i/\x4=.l (gq l)/\l5=(l.take i).map pz/\x6=ii i,⟨_,0,by omega,rfl,rfl,rfl,rfl⟩,?_⟩
  rintro m x4 l5 x6 ⟨i,hi,rfl,rfl,rfl,rfl⟩
  refine⟨_,rfl,_,rfl,aa (fun h3=>?_) (fun h3=>?_)⟩
  ·rw [ja] at h3
   replace h3:=ek h3
   obtain⟨s,hx⟩:∃x,l[i]?=some x:=⟨_,List.getElem?_eq_getElem h3⟩
   have hx':(gq l)[i]?=some (pz s):=by rw [lE,List.getElem?_map,hx];rfl
   have hsz:=nj (List.mem_of_getElem? hx)
   have htk:=oL (f:=pz) hx
   refine⟨_,⟨eu hx',yx s⟩,?_⟩
   obtain⟨kind,var,chan,tag,e,c,body,els,c7⟩:=s
   rw [B7] at hsz
   have hbody:=ih body (by omega) (by omega)
   have hels:=ih els (by omega) (by omega)
   have harms:∀tag var body,Ar.mk tag var body∈c7->VS prog 64 [.l (gq body)] (fun r=>r=.l (gq body)):=fun tag var body hm=>ih body (by have:=zo hm;simp only [OA] at this;omega) (by omega)
   have harl:=B_ c7
   have hcl:BF c.l<=4194304:=by have:=hsz;simp only [Gy] at this;omega
   have hcr:BF c.r<=4194304:=by have:=hsz;simp only [Gy] at this;omega
   have he:=Z4 e (by omega)
   have h1:=Z4 c.l hcl
   have h2:=Z4 c.r hcr
   obtain⟨k1,n1,v1,ks1⟩:=e
   obtain⟨op,⟨k2,n2,v2,ks2⟩,⟨k3,n3,v3,ks3⟩⟩:=c
   (repeat (first|refine⟨rfl,?_⟩|refine⟨_,bq,?_⟩|refine⟨_,br,?_⟩|refine⟨_,rfl,?_⟩|refine⟨_,bg _,?_⟩|refine⟨_,⟨rfl,rfl⟩,?_⟩|refine nh ?_|refine m_ ?_|refine m9 ?_|refine m8 ?_|refine jt ?_|refine kq ?_|refine bx he ?_|refine bx h1 ?_|refine bx h2 ?_|refine bx hbody ?_|refine bx hels ?_|refine ni ?_|refine gB _ (fun h=>by first|exact a_ he|(rw [h];exact a_ he)) ?_|refine gB _ (fun h=>by first|exact a_ h1|(rw [h];exact a_ h1)) ?_|refine gB _ (fun h=>by first|exact a_ h2|(rw [h];exact a_ h2)) ?_|refine gB _ (fun h=>by first|exact a_ hbody|(rw [h];exact a_ hbody)) ?_|refine gB _ (fun h=>by first|exact a_ hels|(rw [h];exact a_ hels)) ?_|refine ng ?_|refine gO _ (fun h=>by first|exact a_ he|(rw [h];exact a_ he)) ?_|refine gO _ (fun h=>by first|exact a_ h1|(rw [h];exact a_ h1)) ?_|refine gO _ (fun h=>by first|exact a_ h2|(rw [h];exact a_ h2)) ?_|refine gO _ (fun h=>by first|exact a_ hbody|(rw [h];exact a_ hbody)) ?_|refine gO _ (fun h=>by first|exact a_ hels|(rw [h];exact a_ hels)) ?_))
   refine⟨fun m o42 o43 l44 x45 l46 x47 x48=>∃j:Nat,j<=c7.length/\m=c7.length - j/\o42=pz (.mk kind var chan tag (.mk k1 n1 v1 ks1) ⟨op,.mk k2 n2 v2 ks2,.mk k3 n3 v3 ks3⟩ body els c7)/\
    o43=pz (.mk kind var chan tag (.mk k1 n1 v1 ks1) ⟨op,.mk k2 n2 v2 ks2,.mk k3 n3 v3 ks3⟩ body els [])/\l44=(c7.take j).map Ec/\x45=.l (gq l)/\l46=(l.take i).map pz/\x47=ii i/\x48=ii j,
    ⟨_,0,by omega,rfl,rfl,rfl,rfl,rfl,rfl,rfl,rfl⟩,?_⟩
   rintro m o42 o43 l44 x45 l46 x47 x48 ⟨j,hj,rfl,rfl,rfl,rfl,rfl,rfl,rfl,rfl⟩
   refine⟨_,rfl,_,rfl,_,rfl,aa (fun h5=>?_) (fun h5=>?_)⟩
   ·rw [ji] at h5
    replace h5:=ek h5
    obtain⟨w,hw⟩:∃x,c7[j]?=some x:=⟨_,List.getElem?_eq_getElem h5⟩
    have hw':(oC c7)[j]?=some (Ec w):=by rw [oB,List.getElem?_map,hw];rfl
    have hta:=oL (f:=Ec) hw
    have hla:((c7.take j).map Ec).length<=4194304:=by simp;omega
    obtain⟨tg,vr,bd⟩:=w
    have hb:=harms tg vr bd (List.mem_of_getElem? hw)
    refine⟨_,rfl,_,⟨eu hw',rfl⟩,_,rfl,_,rfl,_,⟨eu hw',rfl⟩,_,rfl,_,rfl,_,⟨eu hw',rfl⟩,_,rfl,bx hb ⟨_,rfl,_,rfl,_,rfl,rfl,rfl,_,rfl,rfl,_,ve,?_⟩⟩
    exact⟨_,rfl,_,c_ h5 (by omega),_,by omega,j+1,by omega,rfl,rfl,rfl,hta,rfl,rfl,rfl,rfl⟩
   ·rw [ji] at h5
    obtain rfl:=gQ hj h5
    rw [List.take_length,←oB]
    have hls:((l.take i).map pz).length<=4194304:=by simp;omega
    refine⟨_,rfl,rfl,rfl,_,rfl,rfl,_,rfl,rfl,_,ve,?_⟩
    refine⟨_,c_ h3 (by omega),_,by omega,i+1,by omega,rfl,rfl,?_,rfl⟩
    rw [←htk];rfl
  ·rw [ja] at h3
   obtain rfl:=gQ hi h3
   rw [List.take_length,←lE]
   exact⟨trivial,trivial,rfl⟩
theorem s44 (p:Pg) (hz:Gb p):VS prog 44 [oZ p] (fun r=>r=oZ p):=by
 have hlc:=hz.ay
 have hlp:=hz.procs
 have hl1:(p.ay.map dy).length=p.ay.length:=List.length_map _
 have hl2:(p.procs.map n8).length=p.procs.length:=List.length_map _
 refine vs44 _ _ ?_
 unfold W44
 refine⟨rfl,fun m o4 o5 l6 l7 o8 l9 l10 x11=>∃i:Nat,i<=p.ay.length/\m=p.ay.length - i/\o4=oZ p/\o5=.a [.l [],.l []]/\o8=.a [.l [],.l []]/\l9=(p.ay.take i).map dy/\l10=[]/\x11=ii i,⟨_,0,by omega,rfl,rfl,rfl,rfl,rfl,rfl,rfl⟩,?_⟩
 rintro m o4 o5 l6 l7 o8 l9 l10 x11 ⟨i,hi,rfl,rfl,rfl,rfl,rfl,rfl,rfl⟩
 refine⟨_,rfl,_,rfl,_,rfl,aa (fun h3=>?_) (fun h3=>?_)⟩
 ·rw [hl1] at h3
  replace h3:=ek h3
  obtain⟨c,hx⟩:∃x,p.ay[i]?=some x:=⟨_,List.getElem?_eq_getElem h3⟩
  have hx':(p.ay.map dy)[i]?=some (dy c):=by rw [List.getElem?_map,hx];rfl
  have hcm:=List.mem_of_getElem? hx
  have hrl:=hz.rules c hcm
  have hrr:=hz.rows c hcm
  have hmr:(c.rule.map qy).length=c.rule.length:=List.length_map _
  have htk:=oL (f:=dy) hx
  refine⟨_,rfl,_,⟨eu hx',rfl⟩,?_⟩
  (repeat (first|refine⟨rfl,?_⟩|refine⟨_,bq,?_⟩|refine⟨_,br,?_⟩|refine⟨_,rfl,?_⟩|refine⟨_,bg _,?_⟩|refine⟨_,⟨rfl,rfl⟩,?_⟩|refine nh ?_|refine m_ ?_|refine m9 ?_|refine m8 ?_|refine jt ?_|refine kq ?_|refine ni ?_|refine ng ?_))
  refine⟨fun m o33 o34 l35 l36 o37 l38 l39 o40 o41 l42 x43 x44=>∃j:Nat,j<=c.rule.length/\m=c.rule.length - j/\o33=oZ p/\o34=.a [.l [],.l []]/\o37=.a [.l [],.l []]/\l38=(p.ay.take i).map dy/\l39=[]/\o40=dy c/\o41=dy {c with rule:=[]}/\
   l42=(c.rule.take j).map qy/\x43=ii i/\x44=ii j,⟨_,0,by omega,rfl,rfl,rfl,rfl,rfl,rfl,rfl,rfl,rfl,rfl,rfl⟩,?_⟩
  rintro m o33 o34 l35 l36 o37 l38 l39 o40 o41 l42 x43 x44 ⟨j,hj,rfl,rfl,rfl,rfl,rfl,rfl,rfl,rfl,rfl,rfl,rfl⟩
  refine⟨_,rfl,_,rfl,_,rfl,aa (fun h5=>?_) (fun h5=>?_)⟩
  ·rw [hmr] at h5
   replace h5:=ek h5
   obtain⟨row,hy⟩:∃x,c.rule[j]?=some x:=⟨_,List.getElem?_eq_getElem h5⟩
   have hy':(c.rule.map qy)[j]?=some (qy row):=by rw [List.getElem?_map,hy];rfl
   have hrow:=hrr row (List.mem_of_getElem? hy)
   have hrm:(row.map ii).length=row.length:=List.length_map _
   have hta:=oL (f:=qy) hy
   have hla:((c.rule.take j).map qy).length<=4194304:=by simp;omega
   refine⟨_,rfl,_,⟨eu hy',rfl⟩,_,rfl,_,rfl,HI (fun e he=>by obtain⟨x,_,rfl⟩:=List.mem_map.1 he;rfl),_,ve,rfl,rfl,rfl,_,rfl,rfl,_,ve,?_⟩
   exact⟨_,rfl,_,c_ h5 (by omega),_,by omega,j+1,by omega,rfl,rfl,rfl,rfl,rfl,rfl,rfl,rfl,hta,rfl,rfl⟩
  ·rw [hmr] at h5
   obtain rfl:=gQ hj h5
   rw [List.take_length]
   have hls:((p.ay.take i).map dy).length<=4194304:=by simp;omega
   refine⟨_,rfl,rfl,rfl,_,rfl,rfl,_,rfl,rfl,_,ve,?_⟩
   exact⟨_,rfl,_,c_ h3 (by omega),_,by omega,i+1,by omega,rfl,rfl,rfl,rfl,htk,rfl,rfl⟩
 ·rw [hl1] at h3
  obtain rfl:=gQ hi h3
  rw [List.take_length]
  refine⟨fun m o4 o5 l6 l7 o8 l9 l10 x11=>∃i:Nat,i<=p.procs.length/\m=p.procs.length - i/\o4=oZ p/\o5=.a [.l [],.l []]/\o8=.a [.l [],.l []]/\l9=p.ay.map dy/\l10=(p.procs.take i).map n8/\x11=ii i,⟨_,0,by omega,rfl,rfl,rfl,rfl,rfl,rfl,rfl⟩,?_⟩
  rintro m o4 o5 l6 l7 o8 l9 l10 x11 ⟨i,hi,rfl,rfl,rfl,rfl,rfl,rfl,rfl⟩
  refine⟨_,rfl,_,rfl,_,rfl,aa (fun h4=>?_) (fun h4=>?_)⟩
  ·rw [hl2] at h4
   replace h4:=ek h4
   obtain⟨y,hx⟩:∃x,p.procs[i]?=some x:=⟨_,List.getElem?_eq_getElem h4⟩
   have hx':(p.procs.map n8)[i]?=some (n8 y):=by rw [List.getElem?_map,hx];rfl
   have hb:=hz.body y (List.mem_of_getElem? hx)
   have h64:=s64 4194304 y.body hb (Nat.le_refl _)
   have htk:=oL (f:=n8) hx
   have hls:((p.procs.take i).map n8).length<=4194304:=by simp;omega
   refine⟨_,rfl,_,⟨eu hx',rfl⟩,_,rfl,_,rfl,_,⟨eu hx',rfl⟩,_,rfl,bx h64 ⟨_,rfl,_,rfl,rfl,rfl,_,rfl,rfl,_,ve,?_⟩⟩
   exact⟨_,rfl,_,c_ h4 (by omega),_,by omega,i+1,by omega,rfl,rfl,rfl,rfl,rfl,htk,rfl⟩
  ·rw [hl2] at h4
   obtain rfl:=gQ hi h4
   rw [List.take_length]
   exact⟨_,rfl,_,rfl,trivial,_,rfl,_,rfl,_,rfl,trivial,rfl⟩
end Go.Ax.eo

set_option maxRecDepth 100000
namespace Go.Ax.eo
open Go Go.Ax Go.Ax.V Go.Ax.Ft
def P8 (r:TV):Prop:=∃b,r=.b b
theorem Tg {f:Nat} {ts:List TV} {K:TV->Prop} (h:VS prog f ts P8) (hk:∀b,K (.b b)):VS prog f ts (fun r=>bz true r/\K r):=oK h fun r ⟨b,hb⟩=>by subst hb;exact⟨trivial,hk b⟩
theorem PV (n:Int):∃b,VS prog 156 [.i .u8 n] (fun r=>r=.b b):=by
 apply Exists.intro
 refine Wl _ _ ?_
 unfold Zv
 exact⟨_,rfl,gB _ (fun h=>rfl) (gB _ (fun h=>by rw [h];rfl) (jt ⟨trivial,trivial,rfl⟩))⟩
theorem Qy (n:Int):∃b,VS prog 157 [.i .u8 n] (fun r=>r=.b b):=by
 apply Exists.intro
 refine Wk _ _ ?_
 unfold Zu
 exact⟨_,rfl,gB _ (fun h=>rfl) (gB _ (fun h=>by rw [h];rfl) (jt ⟨trivial,trivial,rfl⟩))⟩
theorem Tj (n:Int):∃b,VS prog 160 [ii n] (fun r=>r=.b b):=by
 apply Exists.intro
 refine Wh _ _ ?_
 unfold Zr
 exact⟨_,rfl,gB _ (fun h=>rfl) (gB _ (fun h=>by rw [h];rfl) (jt ⟨trivial,trivial,rfl⟩))⟩
noncomputable def H_ (n:Int):Bool:=Classical.choose (PV n)
theorem TC (n:Int):VS prog 156 [.i .u8 n] (fun r=>r=.b (H_ n)):=Classical.choose_spec (PV n)
noncomputable def Ir (n:Int):Bool:=Classical.choose (Qy n)
theorem RQ (n:Int):VS prog 157 [.i .u8 n] (fun r=>r=.b (Ir n)):=Classical.choose_spec (Qy n)
theorem Z1 (n:Int):VS prog 93 [ii n] (fun r=>r=.b (decide (0<=n/\n<=2147483647))):=by
 refine vs93 _ _ ?_
 unfold W93
 refine⟨_,S4 _ _,gB _ (fun h=>rfl) (gB _ (fun h=>by rw [h];exact Mz _ _) (jt ⟨trivial,trivial,?_⟩))⟩
 simp only [lS,Jy]
 congr 1
 by_cases h1:0<=n<;>by_cases h2:n<=2147483647<;>simp [h1,h2]
def strs (l:List ByteArray):List TV:=l.map TV.s
theorem oO (l:List ByteArray):(strs l).length=l.length:=List.length_map _
theorem IY {l:List ByteArray} {i:Nat} (h:i < l.length):(strs l)[i]?=some (.s l[i]):=by simp [strs,h]
theorem KQ (l:List ByteArray) (x:ByteArray) (hl:l.length<=4194304):VS prog 69 [.l (strs l),.s x] (fun r=>∃n:Int,r=ii n/\-1<=n/\n < l.length):=by
 refine vs69 _ _ _ ?_
 unfold W69
 refine⟨fun n a b i=>∃k:Nat,k<=l.length/\n=l.length - k/\a=.l (strs l)/\b=.s x/\i=ii k,⟨_,0,Nat.zero_le _,rfl,rfl,rfl,rfl⟩,?_⟩
 rintro n x4 x5 x6 ⟨k,hk,rfl,rfl,rfl,rfl⟩
 refine⟨_,rfl,_,rfl,aa (fun h=>?_) (fun h=>?_)⟩
 ·rw [oO] at h
  replace h:=ek h
  refine⟨_,⟨eu (IY h),rfl⟩,_,rfl,_,rfl,aa (fun h2=>?_) (fun h2=>?_)⟩
  ·exact⟨trivial,trivial,_,rfl,by omega,by omega⟩
  ·exact⟨_,c_ h (by omega),_,by omega,k+1,by omega,rfl,rfl,rfl,rfl⟩
 ·exact⟨trivial,trivial,_,rfl,by omega,by omega⟩
theorem QJ {k n:Nat} (hk:k<=n):Rr (k:Int) n=some k:=by
 show (bif Nat.ble k n then some k else none)=some k
 rw [Nat.ble_eq_true_of_le hk];rfl
theorem Tq {es:List TV} {k:Nat} (hk:k<=es.length):Tr (.l es) none (some (ii k))=some (.l (es.take k)):=by
 show (match Gk none (some (ii k)) es.length with|some (l,h)=>some (TV.l ((es.drop l).take (h - l)))|none=>none)=_
 unfold Gk Rq
 simp only [QJ hk]
 rfl
theorem Ej {x:ByteArray} {a b:Nat} (h1:a<=b) (h2:b<=x.size):zp (.s x) (some (ii a)) (some (ii b))=some (.s (x.extract a b)):=by
 show (match Gk (some (ii a)) (some (ii b)) x.size with|some (l,h)=>some (TV.s (x.extract l h))|none=>none)=_
 unfold Gk Rq
 simp only [QJ h2,QJ h1]
theorem Dl {x:ByteArray} {j:Nat} (h:j < x.size):lJ (.s x) (ii j)=some (.i .u8 (x[j].toNat:Int)):=by
 show (match x[j]? with|some b=>some (TV.i .u8 (b.toNat:Int))|none=>none)=_
 rw [getElem?_pos x j h]
theorem QW {a b:Nat} (h:a+b < 9223372036854775808):b8 .add (ii a) (ii b)=some (ii ((a+b:Nat):Int)):=by
 rw [M3 (by omega) (by omega)];rfl
theorem s70 (l:List ByteArray) (hl:l.length<=4194304):VS prog 70 [.l (strs l)] P8:=by
 refine vs70 _ _ ?_
 unfold W70
 refine⟨fun n a i=>∃k:Nat,k<=l.length/\n=l.length - k/\a=.l (strs l)/\i=ii k,⟨_,0,Nat.zero_le _,rfl,rfl,rfl⟩,?_⟩
 rintro n x4 x6 ⟨k,hk,rfl,rfl,rfl⟩
 refine⟨_,rfl,_,rfl,aa (fun h=>?_) (fun h=>?_)⟩
 ·rw [oO] at h
  replace h:=ek h
  have hs:Tr (.l (strs l)) none (some (ii k))=some (.l (strs (l.take k))):=by
   rw [Tq (by rw [oO];omega)];simp [strs,List.map_take]
  refine⟨_,⟨hs,fun es he=>?_⟩,_,⟨eu (IY h),rfl⟩,_,rfl,oK (KQ (l.take k) l[k] (by simp;omega)) ?_⟩
  ·cases he
   cases l with
   |nil=>simp at h
   |cons y l=>rfl
  rintro r ⟨m,rfl,_,_⟩
  refine⟨trivial,_,rfl,aa (fun h2=>?_) (fun h2=>?_)⟩
  ·exact⟨trivial,trivial,_,rfl⟩
  ·exact⟨_,c_ h (by omega),_,by omega,k+1,by omega,rfl,rfl,rfl⟩
 ·exact⟨trivial,trivial,_,rfl⟩
def isS:TV->Bool
 |.s _=>true
 |_=>false
theorem ME {es:List TV} {k:Nat} (h:es.all isS=true) (hk:k < es.length):∃y,es[k]?=some (.s y):=by
 have:=List.all_eq_true.1 h _ (List.getElem_mem hk)
 rw [List.getElem?_eq_getElem hk]
 cases he:es[k] with
 |s y=>exact⟨y,rfl⟩
 |_=>rw [he] at this;cases this
theorem s168:VS prog 168 [] (fun r=>∃es,r=.l es/\es.length=16/\es.all isS=true):=by
 refine Wf _ ?_
 unfold Zp
 repeat (first|refine⟨rfl,?_⟩|refine⟨trivial,?_⟩)
 exact⟨_,rfl,rfl,rfl⟩
theorem s158 (x:ByteArray):VS prog 158 [.s x] P8:=by
 refine Wj _ _ ?_
 unfold Zt
 refine oK s168 ?_
 rintro r ⟨es,rfl,hl,hs⟩
 refine⟨trivial,fun n a b i=>∃k:Nat,k<=es.length/\n=es.length - k/\a=.s x/\b=.l es/\i=ii k,⟨_,0,Nat.zero_le _,rfl,rfl,rfl,rfl⟩,?_⟩
 rintro n x4 x5 x6 ⟨k,hk,rfl,rfl,rfl,rfl⟩
 refine⟨_,rfl,_,rfl,aa (fun h=>?_) (fun h=>?_)⟩
 ·replace h:=ek h
  obtain⟨y,hy⟩:=ME hs h
  refine⟨_,⟨eu hy,rfl⟩,_,rfl,_,rfl,aa (fun h2=>?_) (fun h2=>?_)⟩
  ·exact⟨trivial,trivial,_,rfl⟩
  ·exact⟨_,c_ h (by omega),_,by omega,k+1,by omega,rfl,rfl,rfl,rfl⟩
 ·exact⟨trivial,trivial,_,rfl⟩
theorem s159 (x:ByteArray) (k:Nat) (hk:k < x.size) (hx:x.size<=4194304):VS prog 159 [.s x,ii k] (fun r=>∃n:Nat,r=ii n/\k+n<=x.size):=by
 refine Wi _ _ _ ?_
 unfold Zs
 repeat refine⟨rfl,?_⟩
 generalize he:[TV.s ⟨#[61,61]⟩,TV.s ⟨#[33,61]⟩,TV.s ⟨#[60,61]⟩,TV.s ⟨#[62,61]⟩]=es
 have hs:es.all isS=true:=by subst he;rfl
 have hl:es.length=4:=by subst he;rfl
 refine⟨fun n a b c i=>∃j:Nat,j<=4/\n=4 - j/\a=.s x/\b=ii k/\c=.l es/\i=ii j,⟨_,0,by omega,rfl,rfl,rfl,rfl,rfl⟩,?_⟩
 rintro n x4 x5 x6 x7 ⟨j,hj,rfl,rfl,rfl,rfl,rfl⟩
 refine⟨_,rfl,aa (fun h=>?_) (fun h=>?_)⟩
 ·replace h:j < 4:=ek (n:=4) h
  obtain⟨y,hy⟩:=ME hs (k:=j) (by omega)
  refine⟨_,QW (b:=2) (by omega),_,rfl,.b (decide ((((k+2:Nat):Int))<=x.size)),?_,?_⟩
  ·rw [Mz,lS,Jy]
  cases hd:decide ((((k+2:Nat):Int))<=(x.size:Int)) with
  |true=>
   have hd':k+2<=x.size:=by have:=of_decide_eq_true hd;omega
   refine ax rfl rfl (ax rfl rfl (ax rfl rfl (ax rfl (QW (b:=2) (by omega)) (ax rfl (Ej (by omega) hd') (ax rfl rfl (ax rfl rfl (ax rfl ⟨eu hy,rfl⟩ ⟨rfl,ax rfl rfl (ax rfl rfl ⟨_,rfl,aa (fun h2=>?_) (fun h2=>?_)⟩)⟩)))))))
   ·exact⟨trivial,trivial,2,rfl,hd'⟩
   ·exact⟨_,c_ (n:=4) h (by omega),_,by omega,j+1,by omega,rfl,rfl,rfl,rfl,rfl⟩
  |false=>
   refine bu rfl (bu rfl (bu rfl (bu rfl (bu rfl (bu rfl (bu rfl (bu rfl ⟨rfl,bu rfl (bu rfl ⟨_,rfl,bp rfl ?_⟩)⟩)))))))
   exact⟨_,c_ (n:=4) h (by omega),_,by omega,j+1,by omega,rfl,rfl,rfl,rfl,rfl⟩
 ·have hz:∃z:ByteArray,VZ=.s z/\z.size<=100:=⟨_,rfl,by decide⟩
  obtain⟨z,hz,hz2⟩:=hz
  rw [hz]
  refine⟨fun n a b c i=>∃j:Nat,j<=z.size/\n=z.size - j/\a=.s x/\b=ii k/\c=.s z/\i=ii j,⟨_,0,by omega,rfl,rfl,rfl,rfl,rfl⟩,?_⟩
  rintro n x4 x5 x6 x7 ⟨j,hj,rfl,rfl,rfl,rfl,rfl⟩
  refine⟨_,rfl,_,rfl,aa (fun h=>?_) (fun h=>?_)⟩
  ·replace h:=ek h
   refine⟨_,Dl h,_,Dl hk,_,rfl,aa (fun h2=>?_) (fun h2=>?_)⟩
   ·exact⟨trivial,trivial,1,rfl,by omega⟩
   ·exact⟨_,c_ h (by omega),_,by omega,j+1,by omega,rfl,rfl,rfl,rfl,rfl⟩
  ·exact⟨trivial,trivial,0,rfl,by omega⟩
end Go.Ax.eo

set_option maxRecDepth 100000
namespace Go.Ax.eo
open Go Go.Ax Go.Ax.V Go.Ax.Ft
theorem Y5 (e:Ed):ny (qz e) 0 (some 19)=some (qz e):=by
 obtain⟨_,_,_,_,_,_,e,c⟩:=e
 cases e;cases c with|mk op l r=>cases l;cases r;rfl
theorem Uw (e:Ed):av Om 0 19 (qz e)=some (qz e):=by
 obtain⟨_,_,_,_,_,_,e,c⟩:=e
 cases e;cases c with|mk op l r=>cases l;cases r;rfl
theorem Uv (e:Ed):b9 (bh (qz e) 0)=some (ii e.src):=by
 obtain⟨_,_,_,_,_,_,e,c⟩:=e
 cases e;cases c with|mk op l r=>cases l;cases r;rfl
theorem Y7 (e:Ed):ny (qz e) 0 none=some (ii e.src):=by
 obtain⟨_,_,_,_,_,_,e,c⟩:=e
 cases e;cases c with|mk op l r=>cases l;cases r;rfl
theorem Y6 (e:Ed):ny (qz e) 1 none=some (ii e.dst):=by
 obtain⟨_,_,_,_,_,_,e,c⟩:=e
 cases e;cases c with|mk op l r=>cases l;cases r;rfl
def BL (es:List Ed) (n:Int):Nat->List TV
 |0=>[]
 |k+1=>BL es n k++(match es[k]? with|some e=>(bif mh e.src n then [ii k] else [])|none=>[])
theorem Js (es:List Ed) (n:Int):∀k,(BL es n k).length<=k
 |0=>Nat.le_refl _
 |k+1=>by
  have:=Js es n k
  simp only [BL,List.length_append]
  split
  ·cases mh _ n<;>simp<;>omega
  ·simp;omega
theorem Jr (es:List Ed) (n:Int):∀k,BL es n k=[]↔∀e∈es.take k,e.src≠n
 |0=>by simp [BL]
 |k+1=>by
  simp only [BL,List.append_eq_nil_iff,Jr es n k]
  cases hk:es[k]? with
  |none=>
   have:es.length<=k:=by simpa using hk
   rw [List.take_of_length_le (by omega),List.take_of_length_le (by omega)]
   simp
  |some e=>
   rw [←l_ hk]
   simp only [List.mem_append,List.mem_singleton]
   cases he:mh e.src n with
   |true=>
    rw [cz] at he
    have:=of_decide_eq_true he
    simp only [cond_true,List.cons_ne_nil,and_false,false_iff]
    intro h;exact h e (.inr rfl) this
   |false=>
    rw [cz] at he
    have:=of_decide_eq_false he
    simp only [cond_false,and_true]
    exact⟨fun h x hx=>hx.elim (h x) (fun hx=>by subst hx;exact this),fun h x hx=>h x (.inl hx)⟩
theorem s50 (g:Gr) (n:Int) (hl:g.dm.length<=4194304):VS prog 50 [y_ g,ii n] (fun r=>r=.l (BL g.dm n g.dm.length)):=by
 refine vs50 _ _ _ ?_
 unfold W50
 refine⟨rfl,_,rfl,_,rfl,?_⟩
 rw [List.length_map]
 refine⟨fun m a l b c i=>∃k:Nat,k<=g.dm.length/\m=g.dm.length - k/\a=ii n/\l=BL g.dm n k/\b=.l (g.dm.map qz)/\c=ii g.dm.length/\i=ii k,⟨_,0,Nat.zero_le _,rfl,rfl,rfl,rfl,rfl,rfl⟩,?_⟩
 rintro m x6 l7 x8 x9 x10 ⟨k,hk,rfl,rfl,rfl,rfl,rfl,rfl⟩
 refine⟨_,rfl,aa (fun h=>?_) (fun h=>?_)⟩
 ·have hkl:=ek h
  have hx:g.dm[k]?=some g.dm[k]:=List.getElem?_eq_getElem hkl
  have hx':(g.dm.map qz)[k]?=some (qz g.dm[k]):=by rw [List.getElem?_map,hx];rfl
  have hol:=Js g.dm n k
  have hst:∀(b:Bool),mh g.dm[k].src n=b->BL g.dm n (k+1)=BL g.dm n k++(bif b then [ii k] else []):=fun b hb=>by
   simp only [BL,hx,hb]
  generalize g.dm[k]=e at *
  refine⟨_,⟨eu hx',FJ e⟩,_,Y5 e,_,Uw e,_,Uv e,_,rfl,aa (fun h2=>?_) (fun h2=>?_)⟩
  ·exact⟨rfl,rfl,_,rfl,rfl,_,x_ (by simp only [List.length_singleton,most];omega) (by simp only [List.length_singleton,most];omega),_,c_ hkl (by omega),_,by omega,k+1,by omega,rfl,rfl,(hst true h2).symm,rfl,rfl,rfl⟩
  ·exact⟨_,c_ hkl (by omega),_,by omega,k+1,by omega,rfl,rfl,by rw [hst false h2];simp,rfl,rfl,rfl⟩
 ·have:=gQ hk h
  subst this
  exact⟨trivial,trivial,rfl⟩
end Go.Ax.eo

set_option maxRecDepth 100000
namespace Go.Ax.eo
open Go Go.Ax Go.Ax.V Go.Ax.Ft
theorem Jv {ay:List Ch}:∀{l:List Pr} {i:Int} {x:Pr},D_ ay i l=true->x∈l->∃k:Int,wo ay k x.vars x.body=true
 |y::r,i,x,h,hx=>by
  simp only [D_,Bool.and_eq_true] at h
  rcases List.mem_cons.1 hx with rfl|hx
  ·exact⟨i,h.1.2⟩
  ·exact Jv h.2 hx
theorem YT {j:Int} {n:Nat} (h0:0<=j) (h:j.toNat < n):dz (ii j) n=some j.toNat:=by
 obtain⟨k,rfl⟩:=Int.eq_ofNat_of_zero_le h0
 exact Fw h
theorem ldB {s:List Bool} {k:Nat} (h:k < s.length):gA (s.map TV.b) k 0 none=some (.b (jc s k)):=by
 unfold gA jc
 simp only [List.getElem?_map,List.getElem?_eq_getElem h,Option.map_some,Int.toNat_natCast]
 rfl
theorem Yc {s:List Bool} {k:Nat} (h:k < s.length):fl (s.map TV.b) k 0 1 (.b true)=some ((s.set k true).map TV.b):=by
 unfold fl
 simp only [List.getElem?_map,List.getElem?_eq_getElem h,Option.map_some,List.map_set]
 rfl
theorem YP {n:Nat} (h:n<=4194304):PI 1 (ii n)=some n:=by
 show (match Rr (n:Int) most with|some m=>bif Qo .i64 .i64&&Nat.ble (Nat.mul m 1) most then some m else none|none=>none)=_
 have:Rr (n:Int) most=some n:=by
  show (bif Nat.ble n most then some n else none)=some n
  rw [Nat.ble_eq_true_of_le (by unfold most;omega)];rfl
 rw [this]
 have h2:Nat.ble (Nat.mul n 1) most=true:=Nat.ble_eq_true_of_le (by show n*1<=most;unfold most;omega)
 simp only [h2];rfl
theorem Lw {E:List Ed} {k:Nat} {e:Ed} (s:List Bool) (h:E[k]?=some e):(E.take (k+1)).foldl lP s=lP ((E.take k).foldl lP s) e:=by
 rw [←l_ h,List.foldl_append];rfl
theorem Qh (s:List Bool):∀(E:List Ed),(E.foldl lP s).length=s.length:=fun E=>BJ E s
theorem s14 (sy:D4) (h49:VS prog 49 [CM sy] (fun r=>∃(p:Pg) (e:Int),r=.tp [oZ p,ii e]/\(e=0->Gb p))) (h46:VS prog 46 [] (fun r=>r=.b true)):VS prog 14 [CM sy] (fun r=>r=.b true):=by
 refine vs14 _ _ ?_
 unfold W14
 refine⟨rfl,_,rfl,oK h49 ?_⟩
 rintro r ⟨p,e,rfl,hp⟩
 refine⟨trivial,_,rfl,_,rfl,_,rfl,bx h46 ⟨.b false,rfl,ax rfl rfl (ax rfl rfl ⟨_,rfl,aa (fun h=>?_) (fun h=>?_)⟩)⟩⟩
 ·exact bx h46 ⟨trivial,trivial,rfl⟩
 have he:e=0:=by
  rw [cz] at h
  simpa using h
 have hz:=hp he
 refine⟨_,rfl,bx (s44 p hz) (oK (s43g p hz) ?_)⟩
 rintro r ⟨c,v,gs,f,rfl,hf⟩
 refine⟨trivial,_,rfl,_,rfl,_,rfl,_,rfl,aa (fun _=>⟨trivial,trivial,rfl⟩) (fun h2=>?_)⟩
 have hf0:f=0:=by
  rw [cz] at h2
  simpa using h2
 obtain⟨hok,hall,hss,hsl,rfl⟩:=hf hf0
 generalize hgs:(p.procs.zip hss).map (fun q=>y_ {lG q.1 with heads:=q.2})=gs
 have hgl:gs.length<=4194304:=by rw [←hgs];have:=hz.procs;simp [hsl];omega
 have hg:∀i,i < gs.length->∃(x:Pr) (hs:List Int),gs[i]?=some (y_ ⟨(lG x).nodes,(lG x).dm,hs⟩)/\x∈p.procs:=by
  intro i hi
  subst hgs
  rw [List.length_map] at hi
  refine⟨((p.procs.zip hss)[i]).1,((p.procs.zip hss)[i]).2,by rw [List.getElem?_map,List.getElem?_eq_getElem hi];rfl,?_⟩
  exact(List.of_mem_zip (List.getElem_mem hi)).1
 clear hgs
 refine⟨fun n o x=>∃i:Nat,i<=gs.length/\n=gs.length - i/\o=.a [c,.l gs,v]/\x=ii i,⟨_,0,Nat.zero_le _,rfl,rfl,rfl⟩,?_⟩
 rintro n o22 x23 ⟨i,hi,rfl,rfl,rfl⟩
 refine⟨_,rfl,_,rfl,_,rfl,aa (fun h3=>?_) (fun h3=>⟨trivial,trivial,rfl⟩)⟩
 have hil:=ek h3
 obtain⟨x,hs,hgi,hx⟩:=hg i hil
 have hokp:D_ p.ay 0 p.procs=true:=by
  unfold Jw at hok;simp only [Bool.and_eq_true] at hok;exact hok.2
 obtain⟨pi,hoks⟩:=Jv hokp hx
 obtain⟨hn2,hed,hway,hcnt⟩:=RW x hoks
 have h400:(lG x).dm.length<=400:=by have:=List.all_eq_true.1 hall x hx;simpa using this
 generalize (lG x).nodes=nd at *
 obtain⟨N,rfl⟩:=Int.eq_ofNat_of_zero_le (show (0:Int)<=nd by omega)
 have hNN:N<=4194304:=by omega
 have h50:=fun m:Int=>s50 ⟨(N:Int),(lG x).dm,hs⟩ m (by show (lG x).dm.length<=_;omega)
 generalize (lG x).dm=E at *
 refine⟨_,rfl,_,⟨eu hgi,rfl⟩,_,rfl,_,rfl,_,rfl,N,?_,0,?_,((List.replicate N false).set 0 true).map TV.b,?_,?_⟩
 ·exact YP hNN
 ·rw [List.length_replicate];exact Fw (j:=0) (by omega)
 ·rw [←List.map_replicate];exact Yc (by simp;omega)
 have hs0l:((List.replicate N false).set 0 true).length=N:=by simp
 generalize hs0:(List.replicate N false).set 0 true=s0 at *
 refine⟨fun n o g x l q=>∃k:Nat,k<=N/\n=N - k/\o=.a [c,.l gs,v]/\g=y_ ⟨(N:Int),E,hs⟩/\x=ii i/\l=(gL E k s0).map TV.b/\q=ii k,⟨_,0,Nat.zero_le _,rfl,rfl,rfl,rfl,rfl,rfl⟩,?_⟩
 rintro n o38 o39 x40 l41 x42 ⟨k,hk,rfl,rfl,rfl,rfl,rfl,rfl⟩
 refine⟨_,rfl,_,rfl,aa (fun h4=>?_) (fun h4=>?_)⟩
 ·have hkN:k < N:=ek h4
  refine⟨fun n o g x l q y=>∃j:Nat,j<=E.length/\n=E.length - j/\o=.a [c,.l gs,v]/\g=y_ ⟨(N:Int),E,hs⟩/\x=ii i/\l=((E.take j).foldl lP (gL E k s0)).map TV.b/\q=ii k/\y=ii j,⟨_,0,Nat.zero_le _,rfl,rfl,rfl,rfl,rfl,rfl,rfl⟩,?_⟩
  rintro n o48 o49 x50 l51 x52 x53 ⟨j,hj,rfl,rfl,rfl,rfl,rfl,rfl,rfl⟩
  refine⟨_,rfl,_,rfl,_,rfl,aa (fun h5=>?_) (fun h5=>?_)⟩
  ·have hjl:j < E.length:=by rw [List.length_map] at h5;exact ek h5
   have hej:E[j]?=some E[j]:=List.getElem?_eq_getElem hjl
   have hx':(E.map qz)[j]?=some (qz E[j]):=by rw [List.getElem?_map,hej];rfl
   obtain⟨q1,q2,q3,q4,q5⟩:=hed E[j] (List.getElem_mem hjl)
   have hfs:=Lw (gL E k s0) hej
   have hlen:((E.take j).foldl lP (gL E k s0)).length=N:=by rw [Qh,qu,hs0l]
   generalize E[j]=ed at *
   generalize (E.take j).foldl lP (gL E k s0)=s at *
   have e1:((ed.src.toNat:Nat):Int)=ed.src:=Int.toNat_of_nonneg q1
   refine⟨_,rfl,_,⟨eu hx',FJ ed⟩,_,Y7 ed,ed.src.toNat,YT q1 (by rw [List.length_map];omega),_,ldB (by omega),aa (fun h6=>?_) (fun h6=>?_)⟩
   ·rw [e1] at h6
    exact⟨_,rfl,_,⟨eu hx',FJ ed⟩,_,Y6 ed,ed.dst.toNat,YT q3 (by rw [List.length_map];omega),_,Yc (by omega),_,c_ hjl (by omega),_,by omega,j+1,by omega,rfl,rfl,rfl,rfl,by rw [hfs];unfold lP;rw [if_pos h6],rfl,rfl⟩
   ·rw [e1] at h6
    exact⟨_,c_ hjl (by omega),_,by omega,j+1,by omega,rfl,rfl,rfl,rfl,by rw [hfs];unfold lP;rw [if_neg (by rw [h6];decide)],rfl,rfl⟩
  ·have hje:j=E.length:=by rw [List.length_map] at h5;exact gQ hj h5
   subst hje
   rw [List.take_length]
   exact⟨_,c_ hkN (by omega),_,by omega,k+1,by omega,rfl,rfl,rfl,rfl,rfl,rfl⟩
 have hkN:k=N:=gQ hk h4
 subst hkN
 have hrl:(gL E k s0).length=k:=by rw [qu,hs0l]
 have h00:jc s0 0=true:=by
  rw [←hs0];unfold jc
  rw [show (0:Int).toNat=0 from rfl,List.getElem?_set_self (by rw [List.length_replicate];omega)];rfl
 have hseen:∀m:Nat,m < k->m≠1->jc (gL E k s0) (m:Int)=true:=fun m hm h1=>by
  have:=KV (E:=E) (s:=s0) (a:=0) (fun e he=>by obtain⟨_,_,q3,q4,_⟩:=hed e he;omega) h00 (hway m (by omega) (by omega) (by omega)).1
  rw [hs0l] at this;exact this
 have hout:∀m:Int,BL E m E.length=[]↔∀e∈E,e.src≠m:=fun m=>by rw [Jr,List.take_length]
 generalize gL E k s0=s at *
 refine⟨fun n o g x l y=>∃m:Nat,m<=k/\n=k - m/\o=.a [c,.l gs,v]/\g=y_ ⟨(k:Int),E,hs⟩/\x=ii i/\l=s.map TV.b/\y=ii m,⟨_,0,Nat.zero_le _,rfl,rfl,rfl,rfl,rfl,rfl⟩,?_⟩
 rintro n o73 o74 x75 l76 x77 ⟨m,hm,rfl,rfl,rfl,rfl,rfl,rfl⟩
 refine⟨_,rfl,_,rfl,aa (fun h5=>?_) (fun h5=>⟨_,c_ hil (by omega),_,by omega,i+1,by omega,rfl,rfl,rfl⟩)⟩
 have hmk:m < k:=ek h5
 have h50m:=h50 (m:Int)
 have nxt:∃Ox,b8 .add (ii m) (TV.i .i64 1)=some Ox/\∃m72,m72 < k - m/\(∃m':Nat,m'<=k/\m72=k - m'/\TV.a [c,.l gs,v]=.a [c,.l gs,v]/\y_ ⟨(k:Int),E,hs⟩=y_ ⟨(k:Int),E,hs⟩/\ii i=ii i/\s.map TV.b=s.map TV.b/\Ox=ii m'):=
  ⟨_,c_ hmk (by omega),_,by omega,m+1,by omega,rfl,rfl,rfl,rfl,rfl,rfl⟩
 refine⟨m,Fw (by rw [List.length_map,hrl];exact hmk),_,ldB (by rw [hrl];exact hmk),_,bg _,?_⟩
 cases hm1:mh (m:Int) 1 with
 |false=>
  have hne:m≠1:=fun e=>by subst e;cases hm1
  rw [hseen m hmk hne]
  have hl:∃a l,BL E (m:Int) E.length=a::l:=by
   cases hL:BL E (m:Int) E.length with
   |nil=>
    exfalso
    have h6:=(hout m).1 hL
    apply(hway m (by omega) (by omega) (by omega)).2
    unfold oA
    rw [List.filter_eq_nil_iff]
    intro e he;simpa using h6 e he
   |cons a l=>exact⟨a,l,rfl⟩
  obtain⟨a,l,hl⟩:=hl
  have h50':VS prog 50 [y_ ⟨(k:Int),E,hs⟩,ii m] (fun r=>r=.l (a::l)):=by rw [←hl];exact h50m
  have hz2:mh (((a::l).length:Nat):Int) 0=false:=by rw [cz];simp;omega
  refine bu rfl (bu rfl ⟨_,rfl,ax rfl rfl (ax (v:=.b (!mh (m:Int) 1)) rfl rfl ?_)⟩)
  rw [hm1]
  refine ax rfl rfl (ax rfl rfl (ax rfl rfl (ax rfl (a_ h50') (ax rfl rfl (ax (v:=.b (mh (((a::l).length:Nat):Int) 0)) rfl rfl ?_)))))
  rw [hz2]
  refine ax rfl rfl ⟨_,rfl,ax rfl rfl (ax (v:=.b (mh (m:Int) 1)) rfl rfl ?_)⟩
  rw [hm1]
  exact ax rfl rfl (bu rfl (bu rfl (bu rfl (bu rfl (bu rfl (ax rfl rfl ⟨_,rfl,bp rfl nxt⟩))))))
 |true=>
  have hme:m=1:=by rw [cz] at hm1;have:=of_decide_eq_true hm1;omega
  have hL:BL E (m:Int) E.length=[]:=(hout m).2 (fun e he=>by rw [hme];exact(hed e he).2.2.2.2)
  have h50':VS prog 50 [y_ ⟨(k:Int),E,hs⟩,ii m] (fun r=>r=.l []):=by rw [hL] at h50m;exact h50m
  refine gB _ (fun h=>rfl) (gB (.b (!mh (m:Int) 1)) (fun h=>by rw [h];rfl) ?_)
  rw [hm1]
  refine⟨.b false,by cases jc s (m:Int)<;>rfl,?_⟩
  refine ax rfl rfl (ax (v:=.b (!mh (m:Int) 1)) rfl rfl ?_)
  rw [hm1]
  refine ax rfl rfl (bu rfl (bu rfl (bu rfl (bu rfl (bu rfl (ax rfl rfl ⟨_,rfl,ax rfl rfl (ax (v:=.b (mh (m:Int) 1)) rfl rfl ?_)⟩))))))
  rw [hm1]
  exact ax rfl rfl (ax rfl rfl (ax rfl rfl (ax rfl (a_ h50') (ax rfl rfl (ax rfl rfl (ax rfl rfl ⟨_,rfl,bp rfl nxt⟩))))))
end Go.Ax.eo

set_option maxRecDepth 100000
namespace Go.Ax.eo
open Go Go.Ax Go.Ax.V Go.Ax.Ft
def Fx (t:TV):Prop:=∃(k n a:Int) (x:ByteArray),t=.a [ii k,.s x,ii n,ii a]
theorem NY (x:ByteArray) (c:Int) (e:Nat) (K:TV->Prop) (hK:∀t:Bool,(t=true->e < x.size)->(t=false->¬e < x.size\/(H_ c||Ir c)=false\/∃h:e < x.size,(H_ (x[e].toNat:Int)||Ir (x[e].toNat:Int))=false)->K (.b t)) :
 ∃v24,b8 .lss (ii e) (ii x.size)=some v24/\
 ∃v25,gV v24 true (fun r=>some (TV.i .u8 c)=some r) v25/\
 ∃v26,gV v24 true (fun r=>VS prog 156 [v25] fun r'=>r'=r/\bz true r) v26/\
 ∃v27,gV v24 true (fun r=>some v26=some r) v27/\
 ∃v28,gV v27 false (fun r=>some (TV.i .u8 c)=some r) v28/\
 ∃v29,gV v27 false (fun r=>VS prog 157 [v28] fun r'=>r'=r/\bz true r) v29/\
 ∃v30,gV v24 true (fun r=>bf v27 (TV.b true) v29=some r) v30/\
 ∃v31,bf v24 v30 (TV.b false)=some v31/\
 ∃v32,gV v31 true (fun r=>some (TV.s x)=some r) v32/\
 ∃v33,gV v31 true (fun r=>some (ii e)=some r) v33/\
 ∃v34,gV v31 true (fun r=>lJ v32 v33=some r) v34/\
 ∃v35,gV v31 true (fun r=>VS prog 156 [v34] fun r'=>r'=r/\bz true r) v35/\
 ∃Kz,gV v31 true (fun r=>some v35=some r) Kz/\
 ∃v37,gV Kz false (fun r=>some (TV.s x)=some r) v37/\
 ∃v38,gV Kz false (fun r=>some (ii e)=some r) v38/\
 ∃v39,gV Kz false (fun r=>lJ v37 v38=some r) v39/\
 ∃v40,gV Kz false (fun r=>VS prog 157 [v39] fun r'=>r'=r/\bz true r) v40/\
 ∃Ow,gV v31 true (fun r=>bf Kz (TV.b true) v40=some r) Ow/\
 ∃v42,bf v31 Ow (TV.b false)=some v42/\K v42:=by
 refine⟨.b (sw (e:Int) x.size),rfl,?_⟩
 have a1:=TC c
 have a2:=RQ c
 cases hlt:sw (e:Int) x.size with
 |false=>
  have hn:¬e < x.size:=fun h=>by
   rw [z_] at hlt;have:¬(e:Int) < (x.size:Int):=by simpa using hlt
   omega
  refine bu rfl (bu rfl (bu rfl (Bk (Bk (bu rfl ⟨_,rfl,?_⟩)))))
  refine bu rfl (bu rfl (bu rfl (bu rfl (bu rfl (Bk (Bk (Bk (Bk (bu rfl ⟨_,rfl,?_⟩)))))))))
  exact hK false (fun h=>by cases h) (fun _=>.inl hn)
 |true=>
  have hlt':e < x.size:=ek hlt
  have b1:=TC (x[e].toNat:Int)
  have b2:=RQ (x[e].toNat:Int)
  have hix:=Dl hlt'
  have fin:∀t,t=(bif (H_ c||Ir c) then (H_ (x[e].toNat:Int)||Ir (x[e].toNat:Int)) else false)->K (.b t):=fun t ht=>hK t (fun _=>hlt') (fun h=>by
   rw [h] at ht
   cases hc:(H_ c||Ir c) with
   |false=>exact .inr (.inl rfl)
   |true=>rw [hc] at ht;exact .inr (.inr ⟨hlt',ht.symm⟩))
  generalize H_ c=lc at *
  generalize Ir c=dc at *
  generalize H_ (x[e].toNat:Int)=ld at *
  generalize Ir (x[e].toNat:Int)=dd at *
  refine ax rfl rfl (ax rfl (a_ a1) (ax rfl rfl ?_))
  have part2:(lc||dc)=true->∃v32,gV (TV.b true) true (fun r=>some (TV.s x)=some r) v32/\
    ∃v33,gV (TV.b true) true (fun r=>some (ii e)=some r) v33/\
    ∃v34,gV (TV.b true) true (fun r=>lJ v32 v33=some r) v34/\
    ∃v35,gV (TV.b true) true (fun r=>VS prog 156 [v34] fun r'=>r'=r/\bz true r) v35/\
    ∃Kz,gV (TV.b true) true (fun r=>some v35=some r) Kz/\
    ∃v37,gV Kz false (fun r=>some (TV.s x)=some r) v37/\
    ∃v38,gV Kz false (fun r=>some (ii e)=some r) v38/\
    ∃v39,gV Kz false (fun r=>lJ v37 v38=some r) v39/\
    ∃v40,gV Kz false (fun r=>VS prog 157 [v39] fun r'=>r'=r/\bz true r) v40/\
    ∃Ow,gV (TV.b true) true (fun r=>bf Kz (TV.b true) v40=some r) Ow/\
    ∃v42,bf (TV.b true) Ow (TV.b false)=some v42/\K v42:=by
   intro hc
   refine ax rfl rfl (ax rfl rfl (ax rfl hix (ax rfl (a_ b1) (ax rfl rfl ?_))))
   cases ld with
   |true=>
    refine bu rfl (bu rfl (bu rfl (bu rfl (ax rfl rfl ⟨_,rfl,fin _ ?_⟩))))
    rw [hc];rfl
   |false=>
    refine ax rfl rfl (ax rfl rfl (ax rfl hix (ax rfl (a_ b2) (ax rfl rfl ⟨_,rfl,fin _ ?_⟩))))
    rw [hc];rfl
  cases lc with
  |true=>exact bu rfl (bu rfl (ax rfl rfl ⟨_,rfl,part2 rfl⟩))
  |false=>
   refine ax rfl rfl (ax rfl (a_ a2) (ax rfl rfl ⟨_,rfl,?_⟩))
   cases dc with
   |true=>exact part2 rfl
   |false=>
    refine bu rfl (bu rfl (bu rfl (bu rfl (bu rfl (Bk (Bk (Bk (Bk (bu rfl ⟨_,rfl,fin _ rfl⟩)))))))))
theorem B4 {ts:List TV} {t:TV} {n:Nat} (hl:ts.length<=4194304):gw 40 ts [t]=some (ts++[t]):=x_ (by simp only [List.length_singleton,most];omega) (by simp only [List.length_singleton,most];omega)
theorem Nf {ts:List TV} {t:TV} (h:∀t∈ts,Fx t) (ht:Fx t):∀u∈ts++[t],Fx u:=fun u hu=>by
 rcases List.mem_append.1 hu with h1|h1
 ·exact h u h1
 ·rw [List.mem_singleton.1 h1];exact ht
def ZW (r:TV):Prop:=∃(ts:List TV) (n e:Int),r=.tp [.l ts,ii n,ii e]/\∀t∈ts,Fx t
theorem DS (n e:Int):ZW (.tp [.l [],ii n,ii e]):=⟨[],n,e,rfl,fun t ht=>by cases ht⟩
theorem s127 (x:ByteArray) (hx:x.size<=4194304):VS prog 127 [.s x] ZW:=by
 refine Wz _ _ ?_
 unfold ZI
 refine⟨fun n a l b=>∃at_:Nat,at_<=x.size/\n=x.size - at_/\a=.s x/\b=ii at_/\l.length<=at_/\∀t∈l,Fx t,⟨_,0,Nat.zero_le _,rfl,rfl,rfl,Nat.le_refl _,fun t ht=>by cases ht⟩,?_⟩
 rintro n x4 ts x6 ⟨at_,hat,rfl,rfl,rfl,hts,htok⟩
 refine⟨_,rfl,_,rfl,aa (fun h=>?_) (fun h=>?_)⟩
 rotate_left
 ·refine⟨_,rfl,_,rfl,aa (fun h2=>?_) (fun h2=>?_)⟩
  ·exact⟨_,rfl,trivial,⟨rfl,rfl,rfl,trivial⟩,DS _ _⟩
  ·exact⟨trivial,⟨rfl,rfl,rfl,trivial⟩,ts,0,0,rfl,htok⟩
 have hlt:at_ < x.size:=ek h
 refine⟨_,Dl hlt,?_⟩
 have hbyte:(x[at_].toNat:Int)=(x[at_].toNat:Int):=rfl
 generalize hc:(x[at_].toNat:Int)=c at hbyte
 refine⟨_,rfl,gO _ (fun h=>rfl) (gO _ (fun h=>by rw [h];rfl) (kq (aa (fun h2=>?_) (fun h2=>?_))))⟩
 ·exact⟨_,c_ hlt (by omega),_,by omega,at_+1,by omega,rfl,rfl,rfl,by omega,htok⟩
 refine⟨fun n a l b q i=>∃e:Nat,at_<=e/\e<=x.size/\n=x.size - e/\a=.s x/\ts=l/\b=ii at_/\q=.i .u8 c/\i=ii e,⟨_,at_,Nat.le_refl _,hat,rfl,rfl,rfl,rfl,rfl,rfl⟩,?_⟩
 rintro n x18 l19 x20 x21 x22 ⟨e,he1,he2,rfl,rfl,rfl,rfl,rfl,rfl⟩
 refine⟨_,rfl,NY x c e _ (fun t ht hf=>?_)⟩
 refine aa (fun h3=>?_) (fun h3=>?_)
 ·have:=ht h3
  exact⟨_,c_ this (by omega),_,by omega,e+1,by omega,by omega,rfl,rfl,rfl,rfl,rfl,rfl⟩
 have hprog:(H_ c||Ir c)=true->at_ < e:=fun hl=>by
  rcases Nat.lt_or_ge at_ e with h4|h4
  ·exact h4
  ·have:e=at_:=by omega
   subst this
   rcases hf h3 with h5|h5|⟨h5,h6⟩
   ·exact absurd hlt h5
   ·rw [hl] at h5;cases h5
   ·rw [hc,hl] at h6;cases h6
 clear ht hf h3
 have hsz:(x.extract at_ e).size<=4194304:=by simp;omega
 have next:∀(e':Nat) (t:TV),at_ < e'->e'<=x.size->Fx t->∃m,m < x.size - at_/\(∃a2:Nat,a2<=x.size/\m=x.size - a2/\TV.s x=.s x/\ii e'=ii a2/\(ts++[t]).length<=a2/\∀u∈ts++[t],Fx u):=fun e' t h1 h2 ht=>
  ⟨_,by omega,e',h2,rfl,rfl,rfl,by simp;omega,Nf htok ht⟩
 refine⟨_,rfl,_,rfl,bx (TC c) (aa (fun h4=>?_) (fun h4=>?_))⟩
 ·have hae:=hprog (by rw [h4];rfl)
  refine⟨_,Ej he1 he2,_,rfl,_,rfl,_,rfl,Tg (s158 _) (fun b=>aa (fun h5=>?_) (fun h5=>?_))⟩
  ·refine⟨_,rfl,_,rfl,_,rfl,_,rfl,aa (fun h6=>?_) (fun h6=>?_)⟩
   ·exact⟨trivial,⟨rfl,rfl,rfl,trivial⟩,DS _ _⟩
   ·exact⟨_,rfl,rfl,rfl,_,rfl,rfl,_,B4 (n:=0) (by omega),next e _ hae he2 ⟨_,_,_,_,rfl⟩⟩
  ·refine⟨_,rfl,_,rfl,_,rfl,aa (fun h6=>?_) (fun h6=>?_)⟩
   ·exact⟨trivial,⟨rfl,rfl,rfl,trivial⟩,DS _ _⟩
   ·exact⟨_,rfl,rfl,rfl,_,rfl,rfl,_,B4 (n:=0) (by omega),next e _ hae he2 ⟨_,_,_,_,rfl⟩⟩
 refine bx (RQ c) (aa (fun h5=>?_) (fun h5=>?_))
 ·have hae:=hprog (by rw [h5,Bool.or_true])
  refine⟨_,Ej he1 he2,_,rfl,_,rfl,_,rfl,_,rfl,?_⟩
  generalize hw:x.extract at_ e=w at *
  refine⟨.b (sw 10 w.size),rfl,rfl,?_⟩
  cases hgt:sw 10 (w.size:Int) with
  |true=>
   refine bu rfl (bu rfl (bu rfl (bu rfl (Bk (Bk (bu rfl ⟨_,rfl,b_ rfl ?_⟩))))))
   exact⟨trivial,⟨rfl,rfl,rfl,trivial⟩,DS _ _⟩
  |false=>
   refine ax rfl rfl (ax rfl rfl (ax rfl rfl (ax rfl rfl ?_)))
   refine gB _ (fun h=>rfl) (gB _ (fun h=>by rw [h];rfl) ?_)
   refine ax rfl (v:=.b ((sw 1 (w.size:Int))&&mh c 48)) ?_ ?_
   ·cases sw 1 (w.size:Int)<;>rfl
   refine⟨_,rfl,aa (fun h6=>?_) (fun h6=>?_)⟩
   ·exact⟨trivial,⟨rfl,rfl,rfl,trivial⟩,DS _ _⟩
   refine⟨fun n o a l b i q=>∃(j:Nat) (num:Int),j<=w.size/\n=w.size - j/\o=.a [ii 2,.s w,ii num,ii at_]/\a=.s x/\ts=l/\b=ii at_/\i=ii e/\q=ii j,⟨_,0,0,Nat.zero_le _,rfl,rfl,rfl,rfl,rfl,rfl,rfl⟩,?_⟩
   rintro n o83 x84 l85 x86 x87 x88 ⟨j,num,hj,rfl,rfl,rfl,rfl,rfl,rfl,rfl⟩
   refine⟨_,rfl,_,rfl,_,rfl,aa (fun h7=>?_) (fun h7=>?_)⟩
   ·have hjw:j < w.size:=ek h7
    refine⟨_,rfl,_,Dl hjw,bx (RQ _) ⟨_,bg _,aa (fun h8=>?_) (fun h8=>?_)⟩⟩
    ·exact⟨trivial,⟨rfl,rfl,rfl,trivial⟩,DS _ _⟩
    ·exact⟨_,rfl,_,rfl,_,rfl,_,Dl hjw,_,rfl,_,rfl,_,rfl,_,rfl,_,c_ hjw (by omega),_,by omega,j+1,_,by omega,rfl,rfl,rfl,rfl,rfl,rfl,rfl⟩
   ·refine⟨_,rfl,_,rfl,aa (fun h8=>?_) (fun h8=>?_)⟩
    ·exact⟨trivial,⟨rfl,rfl,rfl,trivial⟩,DS _ _⟩
    ·exact⟨_,rfl,rfl,rfl,_,rfl,rfl,_,B4 (n:=0) (by omega),next e _ hae he2 ⟨_,_,_,_,rfl⟩⟩
 ·refine oK (s159 x at_ hlt hx) ?_
  rintro r ⟨m,rfl,hm⟩
  refine⟨trivial,_,rfl,aa (fun h6=>?_) (fun h6=>?_)⟩
  ·exact⟨trivial,⟨rfl,rfl,rfl,trivial⟩,DS _ _⟩
  ·have hm0:0 < m:=by
    rw [cz] at h6
    have:¬(m:Int)=0:=by simpa using h6
    omega
   exact⟨_,QW (by omega),_,Ej (by omega) hm,_,rfl,_,rfl,_,rfl,rfl,rfl,_,rfl,rfl,_,B4 (n:=0) (by omega),next (at_+m) _ (by omega) hm ⟨_,_,_,_,rfl⟩⟩
theorem s92 (x:ByteArray) (hx:x.size<=4194304):VS prog 92 [.s x] P8:=by
 refine vs92 _ _ ?_
 unfold W92
 refine oK (s127 x hx) ?_
 rintro r ⟨ts,n,e,rfl,htok⟩
 refine⟨trivial,_,rfl,_,rfl,_,rfl,.b (mh e 0),rfl,?_⟩
 cases he:mh e 0 with
 |false=>
  refine bu rfl (bu rfl (bu rfl ⟨_,rfl,bu rfl (bu rfl ⟨rfl,rfl,bu rfl (bu rfl ⟨_,rfl,bu rfl (bu rfl ⟨rfl,rfl,bu rfl (bu rfl (bu rfl ⟨_,rfl,trivial,trivial,_,rfl⟩))⟩)⟩)⟩)⟩))
 |true=>
  refine ax rfl rfl (ax rfl rfl (ax (v:=.b (mh (ts.length:Int) 1)) rfl rfl ⟨_,rfl,?_⟩))
  cases hl:mh (ts.length:Int) 1 with
  |false=>
   refine bu rfl (bu rfl ⟨rfl,rfl,bu rfl (bu rfl ⟨_,rfl,bu rfl (bu rfl ⟨rfl,rfl,bu rfl (bu rfl (bu rfl ⟨_,rfl,trivial,trivial,_,rfl⟩))⟩)⟩)⟩)
  |true=>
   have hlen:ts.length=1:=by rw [cz] at hl;have:=of_decide_eq_true hl;omega
   obtain⟨t,rfl⟩:∃t,ts=[t]:=by
    match ts,hlen with
    |[t],_=>exact⟨t,rfl⟩
   obtain⟨k,nm,a,y,rfl⟩:=htok t List.mem_cons_self
   refine ax rfl rfl (ax rfl ⟨rfl,rfl⟩ ⟨rfl,rfl,ax rfl rfl (ax (v:=.b (mh k 1)) rfl rfl ⟨_,rfl,?_⟩)⟩)
   cases hk:mh k 1 with
   |false=>
    exact bu rfl (bu rfl ⟨rfl,rfl,bu rfl (bu rfl (bu rfl ⟨_,rfl,trivial,trivial,_,rfl⟩))⟩)
   |true=>
    exact ax rfl rfl (ax rfl ⟨rfl,rfl⟩ ⟨rfl,rfl,ax rfl rfl (ax rfl rfl (ax rfl rfl ⟨_,rfl,trivial,trivial,_,rfl⟩))⟩)
end Go.Ax.eo

set_option maxRecDepth 100000
namespace Go.Ax.eo
open Go Go.Ax Go.Ax.V Go.Ax.Ft
theorem Se (x:ByteArray) (hx:x.size<=4194304):∃b,VS prog 92 [.s x] (fun r=>r=.b b):=by
 have one:∀(l:List AV),p_ [.s x] l->l=[.str x]:=fun l h=>by
  obtain⟨hl,h⟩:=h
  match l,hl with
  |[a],_=>
   have:=h 0 _ _ rfl rfl
   cases this;rfl
 obtain⟨v,H,nx,h1,a,h2,r,h3,b,hb⟩:=s92 x hx [.str x] ⟨rfl,fun j t y ht hy=>by
  cases j with
  |zero=>simp at ht hy;subst ht;subst hy;exact .s x
  |succ j=>simp at ht⟩
 refine⟨b,fun l has=>?_⟩
 rw [one l has]
 exact⟨v,H,nx,h1,a,h2,r,h3,hb⟩
open Classical in
noncomputable def GN (f:Nat) (ts:List TV):Bool:=if h:∃b,VS prog f ts (fun r=>r=.b b) then Classical.choose h else false
theorem Ck {f:Nat} {ts:List TV} (h:∃b,VS prog f ts (fun r=>r=.b b)):VS prog f ts (fun r=>r=.b (GN f ts)):=by
 unfold GN;rw [dif_pos h];exact Classical.choose_spec h
noncomputable def su (x:ByteArray):Bool:=GN 92 [.s x]
theorem C5 (x:ByteArray) (hx:x.size<=4194304):VS prog 92 [.s x] (fun r=>r=.b (su x)):=Ck (Se x hx)
theorem S7:∀(n:Nat) (e:NE),BZ e<=n->n<=4194304->∃b,VS prog 128 [Gj e] (fun r=>r=.b b)
 |0,e,h,_=>by have:=AF e;omega
 |n+1,.mk k num s ks,h,hn=>by
  simp only [BZ] at h
  have ih:∀x∈ks,∃b,VS prog 128 [Gj x] (fun r=>r=.b b):=fun x hx=>S7 n x (by have:=EC hx;omega) (by omega)
  have ha:Gj (.mk k num s ks)=.a [ii k,ii num,ss s,.l (CN ks)]:=rfl
  rw [ha]
  have hname:=C5 s (by omega)
  have hnum:=Z1 num
  obtain⟨tw,htw⟩:=Tj k
  cases h1:mh k 1 with
  |true=>
   apply Exists.intro
   refine EF _ _ ?_
   unfold Ks
   refine⟨rfl,_,rfl,_,rfl,b_ h1 ?_⟩
   exact⟨_,rfl,bx hnum ⟨rfl,gB _ (fun h=>rfl) (gB _ (fun h=>by rw [h];rfl) (gB _ (fun h=>by rw [h];rfl) (jt ⟨trivial,trivial,rfl⟩)))⟩⟩
  |false=>
  cases h2:mh k 2 with
  |true=>
   apply Exists.intro
   refine EF _ _ ?_
   unfold Ks
   refine⟨rfl,_,rfl,_,rfl,bp h1 ⟨_,rfl,_,rfl,b_ h2 ?_⟩⟩
   exact⟨_,rfl,bx hname ⟨rfl,gB _ (fun h=>rfl) (gB _ (fun h=>by rw [h];rfl) (gB _ (fun h=>by rw [h];rfl) (jt ⟨trivial,trivial,rfl⟩)))⟩⟩
  |false=>
  cases h3:mh k 3 with
  |true=>
   cases hl:mh (((CN ks).length:Nat):Int) 1 with
   |false=>
    refine⟨false,EF _ _ ?_⟩
    unfold Ks
    refine⟨rfl,_,rfl,_,rfl,bp h1 ⟨_,rfl,_,rfl,bp h2 ⟨_,rfl,_,rfl,b_ h3 ?_⟩⟩⟩
    refine⟨_,rfl,_,rfl,.b false,by rw [←hl];rfl,rfl,bu rfl (bu rfl ⟨rfl,bu rfl (bu rfl ⟨_,rfl,trivial,trivial,rfl⟩)⟩)⟩
   |true=>
    have hlen:ks.length=1:=by rw [cz] at hl;have:=of_decide_eq_true hl;rw [xq,List.length_map] at this;omega
    obtain⟨x,rfl⟩:∃x,ks=[x]:=by
     match ks,hlen with
     |[x],_=>exact⟨x,rfl⟩
    obtain⟨b,hb⟩:=ih x List.mem_cons_self
    refine⟨b,EF _ _ ?_⟩
    unfold Ks
    refine⟨rfl,_,rfl,_,rfl,bp h1 ⟨_,rfl,_,rfl,bp h2 ⟨_,rfl,_,rfl,b_ h3 ?_⟩⟩⟩
    have hld:ny (Gj x) 0 (some 4)=some (Gj x):=by cases x;rfl
    refine⟨_,rfl,_,rfl,.b true,rfl,rfl,ax rfl rfl (ax rfl ⟨rfl,Iq x⟩ ⟨rfl,ax rfl hld (ax rfl (a_ hb) ⟨_,rfl,trivial,trivial,rfl⟩)⟩)⟩
  |false=>
  cases tw with
  |false=>
   refine⟨false,EF _ _ ?_⟩
   unfold Ks
   refine⟨rfl,_,rfl,_,rfl,bp h1 ⟨_,rfl,_,rfl,bp h2 ⟨_,rfl,_,rfl,bp h3 ⟨_,rfl,bx htw (bp rfl ⟨trivial,trivial,rfl⟩)⟩⟩⟩⟩
  |true=>
   cases hl:mh (((CN ks).length:Nat):Int) 2 with
   |false=>
    refine⟨false,EF _ _ ?_⟩
    unfold Ks
    refine⟨rfl,_,rfl,_,rfl,bp h1 ⟨_,rfl,_,rfl,bp h2 ⟨_,rfl,_,rfl,bp h3 ⟨_,rfl,bx htw (b_ rfl ?_)⟩⟩⟩⟩
    refine⟨_,rfl,_,rfl,.b false,by rw [←hl];rfl,rfl,bu rfl (bu rfl ⟨rfl,bu rfl (bu rfl ⟨_,rfl,rfl,bu rfl (bu rfl ⟨rfl,bu rfl (bu rfl ⟨_,rfl,trivial,trivial,rfl⟩)⟩)⟩)⟩)⟩
   |true=>
    have hlen:ks.length=2:=by rw [cz] at hl;have:=of_decide_eq_true hl;rw [xq,List.length_map] at this;omega
    obtain⟨x,y,rfl⟩:∃x y,ks=[x,y]:=by
     match ks,hlen with
     |[x,y],_=>exact⟨x,y,rfl⟩
    obtain⟨b,hb⟩:=ih x List.mem_cons_self
    obtain⟨c,hc⟩:=ih y (by simp)
    have hld:ny (Gj x) 0 (some 4)=some (Gj x):=by cases x;rfl
    have hld2:ny (Gj y) 0 (some 4)=some (Gj y):=by cases y;rfl
    refine⟨b&&c,EF _ _ ?_⟩
    unfold Ks
    refine⟨rfl,_,rfl,_,rfl,bp h1 ⟨_,rfl,_,rfl,bp h2 ⟨_,rfl,_,rfl,bp h3 ⟨_,rfl,bx htw (b_ rfl ?_)⟩⟩⟩⟩
    refine⟨_,rfl,_,rfl,.b true,rfl,rfl,ax rfl rfl (ax rfl ⟨rfl,Iq x⟩ ⟨rfl,ax rfl hld (ax rfl (a_ hb) ⟨_,rfl,rfl,?_⟩)⟩)⟩
    cases b with
    |false=>exact bu rfl (bu rfl ⟨rfl,bu rfl (bu rfl ⟨_,rfl,trivial,trivial,rfl⟩)⟩)
    |true=>exact ax rfl rfl (ax rfl ⟨rfl,Iq y⟩ ⟨rfl,ax rfl hld2 (ax rfl (a_ hc) ⟨_,rfl,trivial,trivial,rfl⟩)⟩)
noncomputable def Ho (e:NE):Bool:=GN 128 [Gj e]
theorem TE (e:NE) (h:BZ e<=4194304):VS prog 128 [Gj e] (fun r=>r=.b (Ho e)):=Ck (S7 _ e (Nat.le_refl _) h)
theorem YZ (c:NC) (h:M7 c<=4194304):∃b,VS prog 129 [Z9 c] (fun r=>r=.b b):=by
 obtain⟨op,l,r⟩:=c
 simp only [M7] at h
 have hl:=TE l (by omega)
 have hr:=TE r (by omega)
 cases l with|mk k1 n1 s1 ks1=>
 cases r with|mk k2 n2 s2 ks2=>
 apply Exists.intro
 refine Wy _ _ ?_
 unfold ZH
 refine⟨rfl,_,rfl,_,rfl,rfl,gB _ (fun h=>rfl) (gB _ (fun h=>by rw [h];rfl) (jt ⟨rfl,gB _ (fun h=>rfl) (gB _ (fun h=>by rw [h];exact a_ hl) (jt ⟨rfl,gB _ (fun h=>rfl) (gB _ (fun h=>by rw [h];exact a_ hr) (jt ⟨trivial,trivial,rfl⟩))⟩))⟩))⟩
noncomputable def D2 (c:NC):Bool:=GN 129 [Z9 c]
theorem s129 (c:NC) (h:M7 c<=4194304):VS prog 129 [Z9 c] (fun r=>r=.b (D2 c)):=Ck (YZ c h)
end Go.Ax.eo

set_option maxRecDepth 100000
namespace Go.Ax.eo
open Go Go.Ax Go.Ax.V Go.Ax.Ft
noncomputable def Gc (l:List NS):Bool:=GN 94 [.l (oI l)]
noncomputable def QK:NA->Bool
 |.mk tag var body=>su tag&&su var&&Gc body
noncomputable def Nw:NS->Bool
 |.mk kind nm tag e c body els c7=>
  bif mh kind 1 then su nm&&Ho e
  else bif mh kind 2 then D2 c&&Gc body&&Gc els
  else bif mh kind 3 then D2 c&&Gc body
  else bif mh kind 4 then su nm&&su tag&&Ho e
  else bif mh kind 5 then (su nm&&sw 0 (Ee c7).length)&&c7.all QK
  else bif mh kind 6 then D2 c
  else bif mh kind 7 then su nm else false
theorem J7 {l:List NS} {k:Nat} (h:k < l.length):(oI l)[k]?=some (NW l[k]):=by rw [xp];simp [h]
theorem J9 {l:List NA} {k:Nat} (h:k < l.length):(Ee l)[k]?=some (SA l[k]):=by rw [CP];simp [h]
theorem FO (l:List NS):(oI l).length=l.length:=by rw [xp,List.length_map]
theorem FQ (l:List NA):(Ee l).length=l.length:=by rw [CP,List.length_map]
theorem Kq {α:Type} {f:α->Bool} {l:List α} {k:Nat} (h:k < l.length):(l.take (k+1)).all f=((l.take k).all f&&f l[k]):=by
 rw [←l_ (List.getElem?_eq_getElem h),List.all_append];simp
theorem ex94:∀(n:Nat) (l:List NS),lF l<=n->n<=4194304->VS prog 94 [.l (oI l)] (fun r=>r=.b (l.all Nw)):=by
 intro n
 induction n with
 |zero=>
  intro l h _
  cases l with
  |cons s l=>have:=HF s;simp only [lF] at h;omega
  |nil=>
   refine Wd _ _ ?_
   unfold W94
   refine⟨fun n a i=>a=.l []/\i=ii 0,⟨0,rfl,rfl⟩,?_⟩
   rintro n x4 x5 ⟨rfl,rfl⟩
   exact⟨_,rfl,_,rfl,bp rfl ⟨trivial,trivial,rfl⟩⟩
 |succ n ih=>
 intro l hl hn
 have hlen:l.length<=4194304:=by have:=EB l;omega
 have hsts:∀l':List NS,lF l'<=n->VS prog 94 [.l (oI l')] (fun r=>r=.b (Gc l')):=fun l' h=>Ck ⟨_,ih l' h (by omega)⟩
 refine Wd _ _ ?_
 unfold W94
 refine⟨fun n a i=>∃k:Nat,k<=l.length/\n=l.length - k/\a=.l (oI l)/\i=ii k/\(l.take k).all Nw=true,⟨_,0,Nat.zero_le _,rfl,rfl,rfl,rfl⟩,?_⟩
 rintro m x4 x5 ⟨k,hk,rfl,rfl,rfl,hall⟩
 refine⟨_,rfl,_,rfl,aa (fun h=>?_) (fun h=>?_)⟩
 rotate_left
 ·have:k=l.length:=by rw [FO] at h;exact gQ hk h
  subst this
  rw [List.take_length] at hall
  exact⟨trivial,trivial,by rw [hall]⟩
 have hkl:k < l.length:=by rw [FO] at h;exact ek h
 have hz:=EA (List.getElem_mem hkl)
 have hget:=J7 hkl
 have hsz:=Qt l[k]
 have fin:∀b,b=Nw l[k]->ak (.b !b) (True/\b7 [(TV.b false)]/\(TV.b false=.b (l.all Nw))) (∃v19,b8 .add (ii k) (TV.i .i64 1)=some v19/\∃m3,m3 < l.length - k/\(∃k':Nat,k'<=l.length/\m3=l.length - k'/\TV.l (oI l)=.l (oI l)/\v19=ii k'/\(l.take k').all Nw=true)):=by
  intro b hb
  cases b with
  |false=>exact b_ rfl ⟨trivial,trivial,by rw [Cu (List.getElem?_eq_getElem hkl) hb.symm]⟩
  |true=>exact bp rfl ⟨_,c_ hkl (by omega),_,by omega,k+1,by omega,rfl,rfl,rfl,by rw [Kq hkl,hall,←hb];rfl⟩
 generalize l[k]=s at *
 obtain⟨kind,nm,tag,e,c,body,els,c7⟩:=s
 simp only [L8] at hz
 have hnm:=C5 nm (by omega)
 have htag:=C5 tag (by omega)
 have he:=TE e (by omega)
 have hc:=s129 c (by omega)
 have hbody:=hsts body (by omega)
 have hels:=hsts els (by omega)
 have ho:Nw (.mk kind nm tag e c body els c7)=(bif mh kind 1 then su nm&&Ho e
  else bif mh kind 2 then D2 c&&Gc body&&Gc els
  else bif mh kind 3 then D2 c&&Gc body
  else bif mh kind 4 then su nm&&su tag&&Ho e
  else bif mh kind 5 then (su nm&&sw 0 (Ee c7).length)&&c7.all QK
  else bif mh kind 6 then D2 c
  else bif mh kind 7 then su nm else false):=rfl
 rw [ho] at fin
 generalize hE:Ho e=eb at *
 generalize hC:D2 c=cb at *
 have hza:tq c7<=n:=by omega
 clear hz hE hC ho
 obtain⟨k1,n1,s1,ks1⟩:=e
 obtain⟨op,le,re⟩:=c
 obtain⟨k2,n2,s2,ks2⟩:=le
 obtain⟨k3,n3,s3,ks3⟩:=re
 refine⟨_,⟨eu hget,hsz⟩,_,rfl,_,rfl,_,rfl,_,rfl,?_⟩
 cases h1:mh kind 1 with
 |true=>
  rw [h1] at fin
  exact b_ rfl ⟨_,rfl,bx hnm ⟨rfl,gB _ (fun h=>rfl) (gB _ (fun h=>by rw [h];exact a_ he) (jt ⟨_,bg _,fin _ rfl⟩))⟩⟩
 |false=>
 rw [h1] at fin
 refine bp rfl ⟨_,rfl,?_⟩
 cases h2:mh kind 2 with
 |true=>
  rw [h2] at fin
  exact b_ rfl ⟨_,rfl,bx hc ⟨rfl,gB _ (fun h=>rfl) (gB _ (fun h=>by rw [h];exact a_ hbody) (jt ⟨rfl,gB _ (fun h=>rfl) (gB _ (fun h=>by rw [h];exact a_ hels) (jt ⟨_,bg _,fin _ rfl⟩))⟩))⟩⟩
 |false=>
 rw [h2] at fin
 refine bp rfl ⟨_,rfl,?_⟩
 cases h3:mh kind 3 with
 |true=>
  rw [h3] at fin
  exact b_ rfl ⟨_,rfl,bx hc ⟨rfl,gB _ (fun h=>rfl) (gB _ (fun h=>by rw [h];exact a_ hbody) (jt ⟨_,bg _,fin _ rfl⟩))⟩⟩
 |false=>
 rw [h3] at fin
 refine bp rfl ⟨_,rfl,?_⟩
 cases h4:mh kind 4 with
 |true=>
  rw [h4] at fin
  exact b_ rfl ⟨_,rfl,bx hnm ⟨rfl,gB _ (fun h=>rfl) (gB _ (fun h=>by rw [h];exact a_ htag) (jt ⟨rfl,gB _ (fun h=>rfl) (gB _ (fun h=>by rw [h];exact a_ he) (jt ⟨_,bg _,fin _ rfl⟩))⟩))⟩⟩
 |false=>
 rw [h4] at fin
 refine bp rfl ⟨_,rfl,?_⟩
 cases h5:mh kind 5 with
 |true=>
  rw [h5] at fin
  refine b_ rfl ⟨_,rfl,bx hnm ⟨rfl,gB _ (fun h=>rfl) (gB _ (fun h=>by rw [h];rfl) (gB _ (fun h=>by rw [h];rfl) (jt ?_)))⟩⟩
  generalize (su nm&&sw 0 (Ee c7).length)=acc0 at *
  have hal:c7.length<=4194304:=by have:=ED c7;omega
  refine⟨fun n o a b q i=>∃(j:Nat) (acc:Bool),j<=c7.length/\n=c7.length - j/\o=NW (.mk kind nm tag (.mk k1 n1 s1 ks1) ⟨op,.mk k2 n2 s2 ks2,.mk k3 n3 s3 ks3⟩ body els c7)/\a=.l (oI l)/\b=ii k/\q=.b acc/\i=ii j/\acc=(acc0&&(c7.take j).all QK),⟨_,0,_,Nat.zero_le _,rfl,rfl,rfl,rfl,rfl,rfl,by simp⟩,?_⟩
  rintro m o60 x61 x62 x63 x64 ⟨j,acc,hj,rfl,rfl,rfl,rfl,rfl,rfl,hacc⟩
  refine⟨_,rfl,_,rfl,_,rfl,aa (fun h6=>?_) (fun h6=>?_)⟩
  rotate_left
  ·have:j=c7.length:=by rw [FQ] at h6;exact gQ hj h6
   subst this
   rw [List.take_length] at hacc
   exact⟨_,bg _,fin _ hacc⟩
  have hja:j < c7.length:=by rw [FQ] at h6;exact ek h6
  have harm:=J9 hja
  have hza2:=B0 (List.getElem_mem hja)
  have hasz:=Qx c7[j]
  have hnext:=Kq (f:=QK) hja
  generalize c7[j]=am at *
  obtain⟨tg,vr,bd⟩:=am
  simp only [Oo] at hza2
  have b1:=C5 tg (by omega)
  have b2:=C5 vr (by omega)
  have b3:=hsts bd (by omega)
  have ha':QK (.mk tg vr bd)=(su tg&&su vr&&Gc bd):=rfl
  rw [ha'] at hnext
  cases acc with
  |false=>
   refine⟨rfl,bu rfl (bu rfl (bu rfl ⟨rfl,rfl,bu rfl (bu rfl ⟨_,rfl,rfl,bu rfl (bu rfl (bu rfl ⟨rfl,rfl,bu rfl (bu rfl ⟨_,rfl,rfl,bu rfl (bu rfl (bu rfl ⟨rfl,rfl,bu rfl (bu rfl ⟨_,rfl,_,c_ hja (by omega),_,?_,j+1,false,by omega,rfl,rfl,rfl,rfl,rfl,rfl,?_⟩)⟩))⟩)⟩))⟩)⟩))⟩
   ·omega
   ·rw [hnext,←Bool.and_assoc,←hacc];rfl
  |true=>
   refine⟨rfl,ax rfl rfl (ax rfl rfl (ax rfl ⟨eu harm,hasz⟩ ⟨rfl,rfl,ax rfl rfl (ax rfl (a_ b1) ⟨_,rfl,rfl,?_⟩)⟩))⟩
   refine gB _ (fun h=>rfl) (gB _ (fun h=>rfl) (gB _ (fun h=>by rw [h];exact⟨eu harm,hasz⟩) ⟨rfl,rfl,gB _ (fun h=>by rw [h];rfl) (gB _ (fun h=>by rw [h];exact a_ b2) (jt ⟨rfl,?_⟩))⟩))
   refine gB _ (fun h=>rfl) (gB _ (fun h=>rfl) (gB _ (fun h=>by rw [h];exact⟨eu harm,hasz⟩) ⟨rfl,rfl,gB _ (fun h=>by rw [h];rfl) (gB _ (fun h=>by rw [h];exact a_ b3) (jt ?_))⟩))
   refine⟨_,c_ hja (by omega),_,?_,j+1,_,by omega,rfl,rfl,rfl,rfl,rfl,rfl,?_⟩
   ·omega
   ·rw [hnext,←Bool.and_assoc,←hacc];rfl
 |false=>
 rw [h5] at fin
 refine bp rfl ⟨_,rfl,?_⟩
 cases h6:mh kind 6 with
 |true=>
  rw [h6] at fin
  exact b_ rfl ⟨_,rfl,bx hc ⟨_,bg _,fin _ rfl⟩⟩
 |false=>
 rw [h6] at fin
 refine bp rfl ⟨_,rfl,?_⟩
 cases h7:mh kind 7 with
 |true=>
  rw [h7] at fin
  exact b_ rfl ⟨_,rfl,bx hnm ⟨_,bg _,fin _ rfl⟩⟩
 |false=>
 rw [h7] at fin
 exact bp rfl ⟨_,rfl,fin _ rfl⟩
theorem s94 (l:List NS) (h:lF l<=4194304):VS prog 94 [.l (oI l)] (fun r=>r=.b (Gc l)):=Ck ⟨_,ex94 _ l (Nat.le_refl _) h⟩
end Go.Ax.eo

set_option maxRecDepth 100000
namespace Go.Ax.eo
open Go Go.Ax Go.Ax.V Go.Ax.Ft
def TQ (m:NM):Prop:=0<=m.src/\0<=m.dst
def Rf (sy:D4) (r:TV):Prop:=∃b,r=.b b/\(b=true->∀x∈sy.rules,∀m∈x.lR,TQ m)
theorem AS {sy:D4}:True/\b7 [(TV.b false)]/\Rf sy (.b false):=⟨trivial,trivial,false,rfl,fun h=>by cases h⟩
theorem k_ {α:Type} {f:α->TV} {l:List α} {k:Nat} (h:k < l.length):(l.map f)[k]?=some (f l[k]):=by simp [h]
theorem Bq {α:Type} {l:List α} {k:Nat} {p:α->Prop} (h:k < l.length) (h1:∀x∈l.take k,p x) (h2:p l[k]):∀x∈l.take (k+1),p x:=by
 rw [←l_ (List.getElem?_eq_getElem h)]
 intro x hx
 rcases List.mem_append.1 hx with h3|h3
 ·exact h1 x h3
 ·rw [List.mem_singleton.1 h3];exact h2
theorem s67 (sy:D4) (hz:M6 sy):VS prog 67 [CM sy] (Rf sy):=by
 refine vs67 _ _ ?_
 unfold W67
 refine⟨rfl,fun n o x=>∃k:Nat,k<=sy.ay.length/\n=sy.ay.length - k/\o=CM sy/\x=ii k,⟨_,0,Nat.zero_le _,rfl,rfl,rfl⟩,?_⟩
 rintro n o4 x5 ⟨k,hk,rfl,rfl,rfl⟩
 refine⟨_,rfl,_,rfl,_,rfl,aa (fun h=>?_) (fun h=>?_)⟩
 ·have hkl:k < sy.ay.length:=by rw [List.length_map] at h;exact ek h
  have hget:=k_ (f:=vg) hkl
  have hcs:=hz.chan _ (List.getElem_mem hkl)
  have htl:=hz.tags _ (List.getElem_mem hkl)
  have hcl:=hz.ay
  generalize sy.ay[k]=c at *
  obtain⟨c1,c2,c3,c4⟩:=hcs
  refine⟨_,rfl,_,⟨eu hget,CO c⟩,_,rfl,_,rfl,_,rfl,bx (C5 c.nm c1) ⟨_,bg _,rfl,?_⟩⟩
  refine gO _ (fun h=>rfl) (gO _ (fun h=>by rw [h];exact a_ (C5 c.src c2)) (gO _ (fun h=>by rw [h];exact bg _) (kq ⟨rfl,?_⟩)))
  refine gO _ (fun h=>rfl) (gO _ (fun h=>by rw [h];exact a_ (C5 c.dst c3)) (gO _ (fun h=>by rw [h];exact bg _) (kq ⟨rfl,?_⟩)))
  refine gO _ (fun h=>rfl) (gO _ (fun h=>by rw [h];rfl) (kq ⟨rfl,?_⟩))
  refine gO _ (fun h=>rfl) (gO _ (fun h=>by rw [h];rfl) (kq ⟨rfl,?_⟩))
  refine gO _ (fun h=>rfl) (gO _ (fun h=>by rw [h];exact a_ (Z1 _)) (gO _ (fun h=>by rw [h];exact bg _) (kq ⟨rfl,?_⟩)))
  refine gO _ (fun h=>rfl) (gO _ (fun h=>by rw [h];rfl) (gO _ (fun h=>by rw [h];rfl) (kq (aa (fun h2=>AS) (fun h2=>?_)))))
  refine⟨fun n o q x y=>∃j:Nat,j<=c.tags.length/\n=c.tags.length - j/\o=CM sy/\q=vg c/\x=ii k/\y=ii j,⟨_,0,Nat.zero_le _,rfl,rfl,rfl,rfl,rfl⟩,?_⟩
  rintro n o41 o42 x43 x44 ⟨j,hj,rfl,rfl,rfl,rfl,rfl⟩
  refine⟨_,rfl,_,rfl,_,rfl,aa (fun h3=>?_) (fun h3=>?_)⟩
  ·have hjl:j < c.tags.length:=by rw [List.length_map] at h3;exact ek h3
   refine⟨_,rfl,_,⟨eu (k_ (f:=ss) hjl),rfl⟩,_,rfl,bx (C5 _ (c4 _ (List.getElem_mem hjl))) ⟨_,bg _,aa (fun h4=>AS) (fun h4=>?_)⟩⟩
   exact⟨_,c_ hjl (by omega),_,by omega,j+1,by omega,rfl,rfl,rfl,rfl,rfl⟩
  ·exact⟨_,c_ hkl (by omega),_,by omega,k+1,by omega,rfl,rfl,rfl⟩
 clear hk h k
 refine⟨fun n o x=>∃k:Nat,k<=sy.rules.length/\n=sy.rules.length - k/\o=CM sy/\x=ii k/\∀y∈sy.rules.take k,∀m∈y.lR,TQ m,⟨_,0,Nat.zero_le _,rfl,rfl,rfl,fun y hy=>by simp at hy⟩,?_⟩
 rintro n o58 x59 ⟨k,hk,rfl,rfl,rfl,hdone⟩
 refine⟨_,rfl,_,rfl,_,rfl,aa (fun h=>?_) (fun h=>?_)⟩
 ·have hkl:k < sy.rules.length:=by rw [List.length_map] at h;exact ek h
  have hget:=k_ (f:=Oj) hkl
  have hcs:=hz.rule _ (List.getElem_mem hkl)
  have htl:=hz.lR _ (List.getElem_mem hkl)
  have hcl:=hz.rules
  have hnx:=Bq (p:=fun y=>∀m∈y.lR,TQ m) hkl hdone
  generalize sy.rules[k]=c at *
  obtain⟨c1,c2⟩:=hcs
  refine⟨_,rfl,_,⟨eu hget,FP c⟩,_,rfl,bx (C5 _ c1) ⟨_,bg _,aa (fun h4=>AS) (fun h4=>?_)⟩⟩
  refine⟨fun n o x y=>∃j:Nat,j<=c.lR.length/\n=c.lR.length - j/\o=CM sy/\x=ii k/\y=ii j/\∀m∈c.lR.take j,TQ m,⟨_,0,Nat.zero_le _,rfl,rfl,rfl,rfl,fun y hy=>by simp at hy⟩,?_⟩
  rintro n o71 x72 x73 ⟨j,hj,rfl,rfl,rfl,rfl,hmd⟩
  refine⟨_,rfl,_,⟨eu hget,FP c⟩,_,rfl,_,rfl,_,rfl,aa (fun h3=>?_) (fun h3=>?_)⟩
  ·have hjl:j < c.lR.length:=by rw [List.length_map] at h3;exact ek h3
   have hmg:=k_ (f:=Qv) hjl
   have hms:=c2 _ (List.getElem_mem hjl)
   have F_:=Bq (p:=TQ) hjl hmd
   generalize c.lR[j]=m at *
   refine⟨_,rfl,_,⟨eu hget,FP c⟩,_,rfl,_,⟨eu hmg,Qu m⟩,_,rfl,_,rfl,_,rfl,bx (Z1 m.src) ⟨_,bg _,rfl,?_⟩⟩
   refine gO _ (fun h=>rfl) (gO _ (fun h=>by rw [h];exact a_ (Z1 m.dst)) (gO _ (fun h=>by rw [h];exact bg _) (kq ⟨rfl,?_⟩)))
   refine gO _ (fun h=>rfl) (gO _ (fun h=>by rw [h];exact a_ (C5 m.tag hms)) (gO _ (fun h=>by rw [h];exact bg _) (kq (aa (fun h2=>AS) (fun h2=>?_)))))
   have hok:TQ m:=by
    rw [Bool.or_eq_false_iff,Bool.or_eq_false_iff] at h2
    have e1:decide (0<=m.src/\m.src<=2147483647)=true:=by simpa using h2.1.1
    have e2:decide (0<=m.dst/\m.dst<=2147483647)=true:=by simpa using h2.1.2
    exact⟨(of_decide_eq_true e1).1,(of_decide_eq_true e2).1⟩
   exact⟨_,c_ hjl (by omega),_,by omega,j+1,by omega,rfl,rfl,rfl,rfl,F_ hok⟩
  ·have hje:j=c.lR.length:=by rw [List.length_map] at h3;exact gQ hj h3
   subst hje
   rw [List.take_length] at hmd
   exact⟨_,c_ hkl (by omega),_,by omega,k+1,by omega,rfl,rfl,rfl,hnx hmd⟩
 have hke:k=sy.rules.length:=by rw [List.length_map] at h;exact gQ hk h
 subst hke
 rw [List.take_length] at hdone
 clear hk h
 refine⟨fun n o x=>∃k:Nat,k<=sy.procs.length/\n=sy.procs.length - k/\o=CM sy/\x=ii k,⟨_,0,Nat.zero_le _,rfl,rfl,rfl⟩,?_⟩
 rintro n o101 x102 ⟨k,hk,rfl,rfl,rfl⟩
 refine⟨_,rfl,_,rfl,_,rfl,aa (fun h=>?_) (fun h=>?_)⟩
 rotate_left
 ·exact⟨trivial,trivial,true,rfl,fun _=>hdone⟩
 have hkl:k < sy.procs.length:=by rw [List.length_map] at h;exact ek h
 have hget:=k_ (f:=MU) hkl
 have hcs:=hz.proc _ (List.getElem_mem hkl)
 have htl:=hz.vars _ (List.getElem_mem hkl)
 have hbd:=hz.body _ (List.getElem_mem hkl)
 have hcl:=hz.procs
 generalize sy.procs[k]=c at *
 obtain⟨c1,c2⟩:=hcs
 refine⟨_,rfl,_,⟨eu hget,LQ c⟩,_,rfl,_,rfl,_,rfl,bx (C5 c.nm c1) ⟨_,bg _,rfl,?_⟩⟩
 refine gO _ (fun h=>rfl) (gO _ (fun h=>by rw [h];exact a_ (s94 c.body hbd)) (gO _ (fun h=>by rw [h];exact bg _) (kq (aa (fun h2=>AS) (fun h2=>?_)))))
 refine⟨fun n o q x y=>∃j:Nat,j<=c.vars.length/\n=c.vars.length - j/\o=CM sy/\q=MU c/\x=ii k/\y=ii j,⟨_,0,Nat.zero_le _,rfl,rfl,rfl,rfl,rfl⟩,?_⟩
 rintro n o41 o42 x43 x44 ⟨j,hj,rfl,rfl,rfl,rfl,rfl⟩
 refine⟨_,rfl,_,rfl,_,rfl,aa (fun h3=>?_) (fun h3=>?_)⟩
 ·have hjl:j < c.vars.length:=by rw [List.length_map] at h3;exact ek h3
  refine⟨_,rfl,_,⟨eu (k_ (f:=ss) hjl),rfl⟩,_,rfl,bx (C5 _ (c2 _ (List.getElem_mem hjl))) ⟨_,bg _,aa (fun h4=>AS) (fun h4=>?_)⟩⟩
  exact⟨_,c_ hjl (by omega),_,by omega,j+1,by omega,rfl,rfl,rfl,rfl,rfl⟩
 ·exact⟨_,c_ hkl (by omega),_,by omega,k+1,by omega,rfl,rfl,rfl⟩
end Go.Ax.eo

set_option maxRecDepth 100000
namespace Go.Ax.eo
open Go Go.Ax Go.Ax.V Go.Ax.Ft
structure Mk where
 MY:List VW
 c1:TV
 c2:TV
 pr:Int
 v5:TV
 vars:List ByteArray
structure Kw (M:Mk):Prop where
 BK:b9 (some M.v5)=some (.l (strs M.vars))
 len:M.vars.length<=4194304
 tags:∀c∈M.MY,c.tags.length<=4194304
 ay:M.MY.length<=4194304
def oM (M:Mk) (E:Int):TV:=.a [.l (M.MY.map vg),M.c1,M.c2,.l [],ii M.pr,M.v5,.l [],ii E]
theorem Qw {l:List NE} {k:Nat} (h:k < l.length):(CN l)[k]?=some (Gj l[k]):=by rw [xq];simp [h]
theorem J8 (l:List NE):(CN l).length=l.length:=by rw [xq,List.length_map]
theorem J4 (l:List Ex):(o_ l).length=l.length:=by rw [mc,List.length_map]
theorem LI (l:List Ex) (e:Ex):o_ l++[q8 e]=o_ (l++[e]):=by simp [mc]
theorem IV:∀(l r:List Ex),qf (l++r)=qf l+qf r
 |[],r=>by simp [qf]
 |e::l,r=>by simp only [List.cons_append,qf,IV l r];omega
theorem Gq:∀{l:List NE} {k:Nat} (h:k < l.length),C1 (l.take (k+1))=C1 (l.take k)+BZ l[k]
 |e::l,0,_=>by simp [C1]
 |e::l,k+1,h=>by
  have:=Gq (l:=l) (k:=k) (by simpa using h)
  simp only [List.take_succ_cons,C1,this,List.getElem_cons_succ];omega
theorem Z0:∀(n:Nat) (e:NE),BZ e<=n->n<=4194304->∀(M:Mk),Kw M->∀(E:Int) (l3 l6:List TV) (Q:TV->List TV->List TV->TV->List TV->Prop),
  (∀(E' k nu va:Int) (ks:List Ex),BF (.mk k nu va ks)<=BZ e->Q (oM M E') l3 l6 (.a [ii k,ii nu,ii va,.l []]) (o_ ks))->Tb Q (oM M E) l3 l6 (Gj e)
 |0,e,h,_=>by have:=AF e;omega
 |n+1,.mk k num s ks,h,hn=>by
  intro M hM E l3 l6 Q hQ
  simp only [BZ] at h
  have hkl:ks.length<=4194304:=by have:=IG ks;omega
  have ih:∀x∈ks,∀(E:Int) (l3 l6:List TV) (Q:TV->List TV->List TV->TV->List TV->Prop),
   (∀(E' k nu va:Int) (ks:List Ex),BF (.mk k nu va ks)<=BZ x->Q (oM M E') l3 l6 (.a [ii k,ii nu,ii va,.l []]) (o_ ks))->Tb Q (oM M E) l3 l6 (Gj x):=fun x hx=>Z0 n x (by have:=EC hx;omega) (by omega) M hM
  have hw:∀(E:Int),SK Q (oM M E) l3 l6 (.a [ii k,ii num,ss s,.l (CN ks)]):=by
   intro E
   unfold SK
   refine⟨rfl,_,rfl,_,rfl,_,rfl,?_⟩
   refine⟨fun o l l' a z lz r lr=>∃nu:Int,o=oM M E/\l=l3/\l'=l6/\a=.a [ii k,ii num,ss s,.l (CN ks)]/\z=L6/\lz=[]/\r=.a [ii k,ii nu,ii 0,.l []]/\lr=[],⟨_,rfl,_,rfl,aa (fun h=>?_) (fun h=>?_)⟩,?_⟩
   ·exact⟨_,rfl,_,rfl,num,rfl,rfl,rfl,rfl,rfl,rfl,rfl,rfl⟩
   ·exact⟨0,rfl,rfl,rfl,rfl,rfl,rfl,rfl,rfl⟩
   rintro o13 l14 l15 o16 o17 l18 o19 l20 ⟨nu,rfl,rfl,rfl,rfl,rfl,rfl,rfl,rfl⟩
   refine⟨fun o l l' a z lz r lr=>∃E' va:Int,o=oM M E'/\l=l14/\l'=l15/\a=.a [ii k,ii num,ss s,.l (CN ks)]/\z=L6/\lz=[]/\r=.a [ii k,ii nu,ii va,.l []]/\lr=[],⟨_,rfl,_,rfl,aa (fun h=>?_) (fun h=>?_)⟩,?_⟩
   ·refine⟨_,hM.BK,_,rfl,oK (KQ M.vars s hM.len) ?_⟩
    rintro r ⟨m,rfl,hm1,hm2⟩
    refine⟨trivial,_,rfl,aa (fun h=>?_) (fun h=>?_)⟩
    ·refine⟨_,rfl,_,rfl,aa (fun h=>?_) (fun h=>?_)⟩
     ·exact⟨_,rfl,trivial,trivial,trivial,_,rfl,8,0,rfl,rfl,rfl,rfl,rfl,rfl,rfl,rfl⟩
     ·exact⟨trivial,trivial,trivial,_,rfl,E,0,rfl,rfl,rfl,rfl,rfl,rfl,rfl,rfl⟩
    ·exact⟨trivial,_,rfl,E,m,rfl,rfl,rfl,rfl,rfl,rfl,rfl,rfl⟩
   ·exact⟨E,0,rfl,rfl,rfl,rfl,rfl,rfl,rfl,rfl⟩
   rintro o46 l47 l48 o49 o50 l51 o52 l53 ⟨E1,va,rfl,rfl,rfl,rfl,rfl,rfl,rfl,rfl⟩
   refine⟨fun n o l l' a z lz r lr i=>∃(j:Nat) (E':Int) (done:List Ex),j<=ks.length/\n=ks.length - j/\o=oM M E'/\l=l47/\l'=l48/\a=.a [ii k,ii num,ss s,.l (CN ks)]/\z=L6/\lz=[]/\r=.a [ii k,ii nu,ii va,.l []]/\lr=o_ done/\i=ii j/\done.length=j/\qf done<=C1 (ks.take j),
    ⟨_,0,E1,[],Nat.zero_le _,rfl,rfl,rfl,rfl,rfl,rfl,rfl,rfl,rfl,rfl,rfl,by simp [qf]⟩,?_⟩
   rintro n2 o57 l58 l59 o60 o61 l62 o63 l64 x65 ⟨j,E2,done,hj,rfl,rfl,rfl,rfl,rfl,rfl,rfl,rfl,rfl,rfl,hdl,hds⟩
   refine⟨_,rfl,_,rfl,_,rfl,aa (fun h3=>?_) (fun h3=>?_)⟩
   ·have hjl:j < ks.length:=by rw [J8] at h3;exact ek h3
    have hld:ny (Gj ks[j]) 0 (some 4)=some (Gj ks[j]):=by cases ks[j];rfl
    refine⟨_,rfl,_,⟨eu (Qw hjl),Iq _⟩,_,hld,ih _ (List.getElem_mem hjl) E2 _ _ _ ?_⟩
    intro E3 k3 nu3 va3 ks3 hz3
    refine⟨rfl,rfl,_,rfl,rfl,_,rfl,rfl,_,x_ (by rw [J4];simp only [List.length_singleton,most];omega) (by rw [J4];simp only [List.length_singleton,most];omega),_,rfl,_,c_ hjl (by omega),_,?_,j+1,E3,done++[.mk k3 nu3 va3 ks3],by omega,rfl,rfl,rfl,rfl,rfl,rfl,rfl,rfl,?_,rfl,by simp [hdl],?_⟩
    ·omega
    ·exact LI done (.mk k3 nu3 va3 ks3)
    ·rw [IV,Gq hjl];simp only [qf];omega
   ·have hje:j=ks.length:=by rw [J8] at h3;exact gQ hj h3
    refine⟨_,rfl,_,rfl,trivial,_,rfl,hQ E2 k nu va done ?_⟩
    rw [hje,List.take_length] at hds
    simp only [BF,BZ];omega
  exact sh95 _ _ _ _ _ (hw E)
theorem s96 (c:NC) (hz:M7 c<=4194304) (M:Mk) (hM:Kw M) (E:Int) (l3 l6:List TV) (Q:TV->List TV->List TV->TV->List TV->List TV->Prop)
  (hQ:∀(E' k nu va k2 nu2 va2:Int) (ks ks2:List Ex),BF (.mk k nu va ks)<=BZ c.l->BF (.mk k2 nu2 va2 ks2)<=BZ c.r->Q (oM M E') l3 l6 (.a [ii c.op,ii k,ii nu,ii va,.l [],ii k2,ii nu2,ii va2,.l []]) (o_ ks) (o_ ks2)):ZT Q (oM M E) l3 l6 (Z9 c):=by
 obtain⟨op,l,r⟩:=c
 simp only [M7] at hz
 have hl:=Z0 _ l (Nat.le_refl _) (by omega) M hM
 have hr:=Z0 _ r (Nat.le_refl _) (by omega) M hM
 simp only at hQ
 generalize hzl:BZ l=zl at *
 generalize hzr:BZ r=zr at *
 obtain⟨k1,n1,s1,ks1⟩:=l
 obtain⟨k2,n2,s2,ks2⟩:=r
 refine sh96 _ _ _ _ _ ?_
 unfold Vo
 refine⟨rfl,_,rfl,hl E _ _ _ ?_⟩
 intro E1 k nu va ks h1
 refine⟨_,rfl,_,rfl,_,rfl,_,rfl,⟨ii op,rfl,rfl,rfl⟩,⟨ii k,rfl,rfl,rfl⟩,⟨ii nu,rfl,rfl,rfl⟩,⟨ii va,rfl,rfl,rfl⟩,hr E1 _ _ _ ?_⟩
 intro E2 k' nu' va' ks' h2
 exact⟨⟨ii op,rfl,rfl,rfl⟩,⟨ii k,rfl,rfl,rfl⟩,⟨ii nu,rfl,rfl,rfl⟩,⟨ii va,rfl,rfl,rfl⟩,_,rfl,_,rfl,_,rfl,_,rfl,trivial,_,rfl,hQ E2 k nu va k' nu' va' ks ks' h1 h2⟩
theorem s97 (M:Mk) (hM:Kw M) (nms prs:List ByteArray) (hn:nms.length<=M.MY.length) (hp:prs.length<=4194304) (x:ByteArray) (sd:Bool) (E:Int) (Q:TV->List TV->List TV->TV->Prop)
  (hQ:∀(E' c:Int) (tags:List ByteArray),tags.length<=4194304->Q (oM M E') (strs nms) (strs prs) (.tp [ii c,.l (strs tags)])):S97 Q (oM M E) (strs nms) (strs prs) (.s x) (.b sd):=by
 have hch:=hM.ay
 refine sh97 _ _ _ _ _ _ ?_
 unfold Vn
 refine(KQ nms x (by omega)).mono ?_
 rintro r ⟨m,rfl,hm1,hm2⟩
 refine⟨rfl,_,rfl,aa (fun h=>?_) (fun h=>?_)⟩
 ·refine⟨_,rfl,_,rfl,aa (fun h=>?_) (fun h=>?_)⟩
  ·exact⟨_,rfl,trivial,trivial,trivial,⟨rfl,rfl,trivial⟩,hQ 8 0 [] (by simp)⟩
  ·exact⟨trivial,trivial,trivial,⟨rfl,rfl,trivial⟩,hQ E 0 [] (by simp)⟩
 have hm0:0<=m:=by
  rw [z_] at h
  have:¬m < 0:=by simpa using h
  omega
 obtain⟨k,rfl⟩:=Int.eq_ofNat_of_zero_le hm0
 have hk:k < M.MY.length:=by omega
 have hget:=k_ (f:=vg) hk
 have htl:=hM.tags _ (List.getElem_mem hk)
 generalize M.MY[k]=c at hget htl
 have idx:(oW (.l (M.MY.map vg)) (ii k)=some (vg c)/\dh 6 (vg c)):=⟨eu hget,CO c⟩
 have tail:∀y:ByteArray,VS prog 69 [(TV.l (strs prs)),.s y] fun r12=>bz false r12/\
   ∃v13,b9 (bh (oM M E) 4)=some v13/\
   ∃Xq,b8 .neq r12 v13=some Xq/\
   ak Xq
   (∃v15,b9 (bh (oM M E) 7)=some v15/\
   ∃v16,b8 .eql v15 (TV.i .i64 0)=some v16/\
   ak v16
   (∃v17,av (oM M E) 7 1 (TV.i .i64 9)=some v17/\
   True/\bw []/\∃v18,b9 (bh v17 0)=some v18/\
   ∃v19,(oW v18 (ii k)=some v19/\dh 6 v19)/\
   ∃v20,ny v19 5 none=some v20/\
   True/\bw [ii k,v20]/\Q v17 (strs nms) (strs prs) (TV.tp [ii k,v20]))
   (True/\bw []/\∃v21,b9 (bh (oM M E) 0)=some v21/\
   ∃v22,(oW v21 (ii k)=some v22/\dh 6 v22)/\
   ∃v23,ny v22 5 none=some v23/\
   True/\bw [ii k,v23]/\Q (oM M E) (strs nms) (strs prs) (TV.tp [ii k,v23])))
   (∃v24,b9 (bh (oM M E) 0)=some v24/\
   ∃v25,(oW v24 (ii k)=some v25/\dh 6 v25)/\
   ∃v26,ny v25 5 none=some v26/\
   True/\bw [ii k,v26]/\Q (oM M E) (strs nms) (strs prs) (TV.tp [ii k,v26])):=by
  intro y
  refine(KQ prs y hp).mono ?_
  rintro r ⟨m2,rfl,_,_⟩
  refine⟨rfl,_,rfl,_,rfl,aa (fun h=>?_) (fun h=>?_)⟩
  ·refine⟨_,rfl,_,rfl,aa (fun h=>?_) (fun h=>?_)⟩
   ·exact⟨_,rfl,trivial,trivial,_,rfl,_,idx,_,rfl,trivial,⟨rfl,rfl,trivial⟩,hQ 9 k c.tags htl⟩
   ·exact⟨trivial,trivial,_,rfl,_,idx,_,rfl,trivial,⟨rfl,rfl,trivial⟩,hQ E k c.tags htl⟩
  ·exact⟨_,rfl,_,idx,_,rfl,trivial,⟨rfl,rfl,trivial⟩,hQ E k c.tags htl⟩
 refine⟨_,rfl,_,idx,_,rfl,?_⟩
 cases sd with
 |true=>exact b_ rfl ⟨_,rfl,_,idx,_,rfl,tail c.src⟩
 |false=>exact bp rfl (tail c.dst)
end Go.Ax.eo

set_option maxRecDepth 100000
namespace Go.Ax.eo
open Go Go.Ax Go.Ax.V Go.Ax.Ft
def e0:Ex:=.mk 0 0 0 []
def FV:Co:=⟨0,e0,e0⟩
theorem J3 (l:List Sm):(gq l).length=l.length:=by rw [lE,List.length_map]
theorem J6 (l:List Ar):(oC l).length=l.length:=by rw [oB,List.length_map]
theorem LG (l:List Sm) (e:Sm):gq l++[pz e]=gq (l++[e]):=by simp [lE]
theorem LK (l:List Ar) (e:Ar):oC l++[Ec e]=oC (l++[e]):=by simp [oB]
theorem IU:∀(l r:List Sm),gP (l++r)=gP l+gP r
 |[],r=>by simp [gP]
 |e::l,r=>by simp only [List.cons_append,gP,IU l r];omega
theorem IW:∀(l r:List Ar),mw (l++r)=mw l+mw r
 |[],r=>by simp [mw]
 |e::l,r=>by simp only [List.cons_append,mw,IW l r];omega
theorem Gp:∀{l:List NS} {k:Nat} (h:k < l.length),lF (l.take (k+1))=lF (l.take k)+L8 l[k]
 |e::l,0,_=>by simp [lF]
 |e::l,k+1,h=>by
  have:=Gp (l:=l) (k:=k) (by simpa using h)
  simp only [List.take_succ_cons,lF,this,List.getElem_cons_succ];omega
theorem Gs:∀{l:List NA} {k:Nat} (h:k < l.length),tq (l.take (k+1))=tq (l.take k)+Oo l[k]
 |e::l,0,_=>by simp [tq]
 |e::l,k+1,h=>by
  have:=Gs (l:=l) (k:=k) (by simpa using h)
  simp only [List.take_succ_cons,tq,this,List.getElem_cons_succ];omega
def ZR (M:Mk) (nms prs:List ByteArray) (l:List NS):Prop:=∀(E:Int) (Q:TV->List TV->List TV->List TV->Prop),
 (∀(E':Int) (out:List Sm),gP out<=lF l->Q (oM M E') (strs nms) (strs prs) (gq out))->SN Q (oM M E) (strs nms) (strs prs) (.l (oI l))
theorem s72 (M:Mk) (hM:Kw M) (nms prs:List ByteArray) (hnm:nms.length<=M.MY.length) (hpr:prs.length<=4194304):∀(n:Nat) (l:List NS),lF l<=n->n<=4194304->ZR M nms prs l:=by
 intro n
 induction n with
 |zero=>
  intro l h _ E Q hQ
  cases l with
  |cons s l=>have:=HF s;simp only [lF] at h;omega
  |nil=>
   refine XV _ _ _ _ _ ?_
   unfold SL
   refine⟨fun n o l l' a lr i=>o=oM M E/\l=strs nms/\l'=strs prs/\a=.l []/\lr=[]/\i=ii 0,⟨0,rfl,rfl,rfl,rfl,rfl,rfl⟩,?_⟩
   rintro n o4 l5 l6 x7 l8 x9 ⟨rfl,rfl,rfl,rfl,rfl,rfl⟩
   exact⟨_,rfl,.b false,rfl,rfl,rfl,rfl,bu rfl (bu rfl ⟨_,rfl,bp rfl ⟨trivial,hQ E [] (by simp [gP])⟩⟩)⟩
 |succ n ih=>
 intro l hl hn E Q hQ
 have hlen:l.length<=4194304:=by have:=EB l;omega
 refine XV _ _ _ _ _ ?_
 unfold SL
 refine⟨fun n o l1 l2 a lr i=>∃(j:Nat) (E':Int) (done:List Sm),j<=l.length/\n=l.length - j/\o=oM M E'/\l1=strs nms/\l2=strs prs/\a=.l (oI l)/\lr=gq done/\i=ii j/\done.length=j/\gP done<=lF (l.take j),
  ⟨_,0,E,[],Nat.zero_le _,rfl,rfl,rfl,rfl,rfl,rfl,rfl,rfl,by simp [gP]⟩,?_⟩
 rintro n2 o4 l5 l6 x7 l8 x9 ⟨j,E1,done,hj,rfl,rfl,rfl,rfl,rfl,rfl,rfl,hdl,hds⟩
 refine⟨_,rfl,.b (sw j (oI l).length),rfl,rfl,rfl,rfl,?_⟩
 have out:sw (j:Int) (oI l).length=false\/True->True:=fun _=>trivial
 have stop:gP done<=lF l:=by
  have:lF (l.take j)<=lF l:=by
   have h2:=congrArg lF (List.take_append_drop j l)
   have h3:∀a b:List NS,lF (a++b)=lF a+lF b:=fun a b=>by
    induction a with
    |nil=>simp [lF]
    |cons x a ih=>simp only [List.cons_append,lF,ih];omega
   rw [h3] at h2;omega
  omega
 cases hlt:sw (j:Int) (oI l).length with
 |false=>exact bu rfl (bu rfl ⟨_,rfl,bp rfl ⟨trivial,hQ E1 done stop⟩⟩)
 |true=>
 have hjl:j < l.length:=by rw [FO] at hlt;exact ek hlt
 refine ax rfl rfl (ax rfl rfl ⟨_,rfl,aa (fun _=>?_) (fun _=>⟨trivial,hQ E1 done stop⟩)⟩)
 have hz:=EA (List.getElem_mem hjl)
 have hget:=J7 hjl
 have hsz:=Qt l[j]
 have push:∀(E':Int) (st:Sm),B7 st<=L8 l[j]->dh 20 (pz st)/\∃v77,gb (TV.l [pz st])=some v77/\gX 20 v77/\∃v78,gw 256 (gq done) v77=some v78/\∃v79,b8 .add (ii j) (TV.i .i64 1)=some v79/\
   ∃m3,m3 < l.length - j/\(∃(j':Nat) (E'':Int) (done':List Sm),j'<=l.length/\m3=l.length - j'/\oM M E'=oM M E''/\strs nms=strs nms/\strs prs=strs prs/\TV.l (oI l)=.l (oI l)/\v78=gq done'/\v79=ii j'/\done'.length=j'/\gP done'<=lF (l.take j')):=by
  intro E' st hst
  refine⟨yx st,_,rfl,yx st,_,x_ (by rw [J3];simp only [List.length_singleton,most];omega) (by rw [J3];simp only [List.length_singleton,most];omega),_,c_ hjl (by omega),_,?_,j+1,E',done++[st],by omega,rfl,rfl,rfl,rfl,rfl,LG done st,rfl,by simp [hdl],?_⟩
  ·omega
  ·rw [IU,Gp hjl];simp only [gP];omega
 generalize l[j]=s at *
 obtain⟨kind,nm,tag,e,c,body,els,c7⟩:=s
 have hs0:L8 (.mk kind nm tag e c body els c7)=5+nm.size+tag.size+BZ e+M7 c+lF body+lF els+tq c7:=by simp only [L8]
 rw [hs0] at hz push
 clear hs0
 have he:=Z0 _ e (Nat.le_refl _) (by omega) M hM
 have hc:=s96 c (by omega) M hM
 have h97:=s97 M hM nms prs hnm hpr
 have hbody:=ih body (by omega) (by omega)
 have hels:=ih els (by omega) (by omega)
 have harms:∀x∈c7,ZR M nms prs (match x with|.mk _ _ b=>b):=fun x hx=>by
  have h1:=B0 hx
  obtain⟨tg,vr,bd⟩:=x
  simp only [Oo] at h1
  exact ih bd (by omega) (by omega)
 have hzc:2<=M7 c:=by have:=AF c.l;have:=AF c.r;simp only [M7];omega
 have hze:=AF e
 have hzca:BZ c.l+BZ c.r=M7 c:=rfl
 obtain⟨op,le,re⟩:=c
 simp only at hc hzca
 generalize M7 ⟨op,le,re⟩=zc at *
 generalize hze2:BZ e=ze at *
 generalize hzl2:BZ le=zl at *
 generalize hzr2:BZ re=zr at *
 obtain⟨k1,n1,s1,ks1⟩:=e
 obtain⟨k2,n2,s2,ks2⟩:=le
 obtain⟨k3,n3,s3,ks3⟩:=re
 refine⟨_,⟨eu hget,hsz⟩,_,rfl,_,rfl,_,rfl,_,rfl,_,rfl,_,rfl,_,rfl,?_⟩
 cases h1:mh kind 1 with
 |true=>
  refine b_ rfl ?_
  refine⟨fun o l1 l2 v st a1 a2 a3 a4 a5 a6 xs ds i=>∃(E2 va:Int),o=oM M E2/\l1=strs nms/\l2=strs prs/\v=NW (.mk kind nm tag (.mk k1 n1 s1 ks1) ⟨op,.mk k2 n2 s2 ks2,.mk k3 n3 s3 ks3⟩ body els c7)/\st=pz (.mk kind va 0 0 e0 FV [] [] [])/\a1=[]/\a2=[]/\a3=[]/\a4=[]/\a5=[]/\a6=[]/\xs=.l (oI l)/\ds=gq done/\i=ii j,?_,?_⟩
  ·refine⟨_,hM.BK,_,rfl,oK (KQ M.vars nm hM.len) ?_⟩
   rintro r ⟨m,rfl,hm1,hm2⟩
   refine⟨trivial,_,rfl,aa (fun h=>?_) (fun h=>?_)⟩
   ·refine⟨_,rfl,_,rfl,aa (fun h=>?_) (fun h=>?_)⟩
    ·exact⟨_,rfl,trivial,trivial,trivial,_,rfl,8,0,rfl,rfl,rfl,rfl,rfl,rfl,rfl,rfl,rfl,rfl,rfl,rfl,rfl,rfl⟩
    ·exact⟨trivial,trivial,trivial,_,rfl,E1,0,rfl,rfl,rfl,rfl,rfl,rfl,rfl,rfl,rfl,rfl,rfl,rfl,rfl,rfl⟩
   ·exact⟨trivial,_,rfl,E1,m,rfl,rfl,rfl,rfl,rfl,rfl,rfl,rfl,rfl,rfl,rfl,rfl,rfl,rfl⟩
  ·rintro o49 l50 l51 o52 o53 l54 l55 l56 l57 l58 l59 x60 l61 x62 ⟨E2,va,rfl,rfl,rfl,rfl,rfl,rfl,rfl,rfl,rfl,rfl,rfl,rfl,rfl,rfl⟩
   refine⟨_,rfl,he E2 _ _ _ ?_⟩
   intro E3 k nu va2 ks hks
   exact⟨_,rfl,_,rfl,rfl,rfl,_,rfl,_,rfl,_,rfl,_,rfl,_,rfl,_,rfl,push E3 (.mk kind va 0 0 (.mk k nu va2 ks) FV [] [] []) (by simp only [B7,gP,mw,Gy,BF,qf,FV,e0] at hks ⊢;omega)⟩
 |false=>
 refine bp rfl ⟨_,rfl,?_⟩
 cases h2:mh kind 2 with
 |true=>
  refine b_ rfl ⟨_,rfl,hc E1 _ _ _ ?_⟩
  intro E2 k nu va k' nu' va' ks ks' hz1 hz2
  refine⟨_,rfl,_,rfl,hbody E2 _ ?_⟩
  intro E3 out1 ho1
  refine⟨_,rfl,_,rfl,hels E3 _ ?_⟩
  intro E4 out2 ho2
  exact⟨_,rfl,_,rfl,rfl,rfl,_,rfl,_,rfl,_,rfl,_,rfl,_,rfl,_,rfl,push E4 (.mk kind 0 0 0 e0 ⟨op,.mk k nu va ks,.mk k' nu' va' ks'⟩ out1 out2 []) (by simp only [B7,gP,mw,Gy,BF,qf,FV,e0] at hz1 hz2 ⊢;omega)⟩
 |false=>
 refine bp rfl ⟨_,rfl,?_⟩
 cases h3:mh kind 3 with
 |true=>
  refine b_ rfl ⟨_,rfl,hc E1 _ _ _ ?_⟩
  intro E2 k nu va k' nu' va' ks ks' hz1 hz2
  refine⟨_,rfl,_,rfl,hbody E2 _ ?_⟩
  intro E3 out1 ho1
  exact⟨_,rfl,_,rfl,rfl,rfl,_,rfl,_,rfl,_,rfl,_,rfl,_,rfl,_,rfl,push E3 (.mk kind 0 0 0 e0 ⟨op,.mk k nu va ks,.mk k' nu' va' ks'⟩ out1 [] []) (by simp only [B7,gP,mw,Gy,BF,qf,FV,e0] at hz1 hz2 ⊢;omega)⟩
 |false=>
 refine bp rfl ⟨_,rfl,?_⟩
 cases h4:mh kind 4 with
 |true=>
  refine b_ rfl ⟨_,rfl,h97 nm true E1 _ ?_⟩
  intro E2 ch tags htg
  refine⟨_,rfl,_,rfl,?_⟩
  refine⟨fun o l1 l2 v st a1 a2 a3 a4 a5 a6 xs ds i=>∃(E2 va:Int),o=oM M E2/\l1=strs nms/\l2=strs prs/\v=NW (.mk kind nm tag (.mk k1 n1 s1 ks1) ⟨op,.mk k2 n2 s2 ks2,.mk k3 n3 s3 ks3⟩ body els c7)/\st=pz (.mk kind 0 ch va e0 FV [] [] [])/\a1=[]/\a2=[]/\a3=[]/\a4=[]/\a5=[]/\a6=[]/\xs=.l (oI l)/\ds=gq done/\i=ii j,?_,?_⟩
  ·refine⟨_,rfl,oK (KQ tags tag htg) ?_⟩
   rintro r ⟨m,rfl,hm1,hm2⟩
   refine⟨trivial,_,rfl,aa (fun h=>?_) (fun h=>?_)⟩
   ·refine⟨_,rfl,_,rfl,aa (fun h=>?_) (fun h=>?_)⟩
    ·exact⟨_,rfl,trivial,trivial,trivial,_,rfl,_,rfl,8,0,rfl,rfl,rfl,rfl,rfl,rfl,rfl,rfl,rfl,rfl,rfl,rfl,rfl,rfl⟩
    ·exact⟨trivial,trivial,trivial,_,rfl,_,rfl,E2,0,rfl,rfl,rfl,rfl,rfl,rfl,rfl,rfl,rfl,rfl,rfl,rfl,rfl,rfl⟩
   ·exact⟨trivial,_,rfl,_,rfl,E2,m,rfl,rfl,rfl,rfl,rfl,rfl,rfl,rfl,rfl,rfl,rfl,rfl,rfl,rfl⟩
  ·rintro o49 l50 l51 o52 o53 l54 l55 l56 l57 l58 l59 x60 l61 x62 ⟨E2,va,rfl,rfl,rfl,rfl,rfl,rfl,rfl,rfl,rfl,rfl,rfl,rfl,rfl,rfl⟩
   refine⟨_,rfl,he E2 _ _ _ ?_⟩
   intro E3 k nu va2 ks hks
   exact⟨_,rfl,_,rfl,rfl,rfl,_,rfl,_,rfl,_,rfl,_,rfl,_,rfl,_,rfl,push E3 (.mk kind 0 ch va (.mk k nu va2 ks) FV [] [] []) (by simp only [B7,gP,mw,Gy,BF,qf,FV,e0] at hks ⊢;omega)⟩
 |false=>
 refine bp rfl ⟨_,rfl,?_⟩
 cases h5:mh kind 5 with
 |true=>
  refine b_ rfl ⟨_,rfl,h97 nm false E1 _ ?_⟩
  intro E2 ch tags htg
  refine⟨_,rfl,_,rfl,_,rfl,?_⟩
  have hal:c7.length<=4194304:=by have:=ED c7;omega
  have htake:∀m,tq (c7.take m)<=tq c7:=fun m=>by
   have h2:=congrArg tq (List.take_append_drop m c7)
   have h3:∀a b:List NA,tq (a++b)=tq a+tq b:=fun a b=>by
    induction a with
    |nil=>simp [tq]
    |cons x a ih=>simp only [List.cons_append,tq,ih];omega
   rw [h3] at h2;omega
  generalize hv:NW (.mk kind nm tag (.mk k1 n1 s1 ks1) ⟨op,.mk k2 n2 s2 ks2,.mk k3 n3 s3 ks3⟩ body els c7)=vv at *
  have hv18:b9 (bh vv 18)=some (.l (Ee c7)):=by rw [←hv];rfl
  refine⟨fun n o l1 l2 v st a1 a2 a3 a4 a5 a6 xs ds i tg hd q=>∃(m:Nat) (E2:Int) (da:List Ar) (had:List ByteArray),m<=c7.length/\n=c7.length - m/\o=oM M E2/\l1=strs nms/\l2=strs prs/\vv=v/\st=pz (.mk kind 0 ch 0 e0 FV [] [] [])/\a1=[]/\a2=[]/\a3=[]/\a4=[]/\a5=[]/\a6=oC da/\xs=.l (oI l)/\ds=gq done/\i=ii j/\tg=.l (strs tags)/\hd=strs had/\q=ii m/\da.length=m/\had.length=m/\mw da<=tq (c7.take m),
   ⟨_,0,E2,[],[],Nat.zero_le _,rfl,rfl,rfl,rfl,hv.symm,rfl,rfl,rfl,rfl,rfl,rfl,rfl,rfl,rfl,rfl,rfl,rfl,rfl,rfl,rfl,by simp [mw]⟩,?_⟩
  rintro n3 o212 l213 l214 o215 o216 l217 l218 l219 l220 l221 l222 x223 l224 x225 x226 l227 x228 ⟨m,E3,da,had,hm,rfl,rfl,rfl,rfl,rfl,rfl,rfl,rfl,rfl,rfl,rfl,rfl,rfl,rfl,rfl,rfl,rfl,rfl,hdal,hhad,hdas⟩
  have stop5:=push E3 (.mk kind 0 ch 0 e0 FV [] [] da) (by have:=htake m;simp only [B7,gP,mw,Gy,BF,qf,FV,e0];omega)
  refine⟨_,hv18,_,rfl,.b (sw m (Ee c7).length),rfl,rfl,rfl,rfl,?_⟩
  cases hlt2:sw (m:Int) (Ee c7).length with
  |false=>exact bu rfl (bu rfl ⟨_,rfl,bp rfl ⟨_,rfl,rfl,rfl,_,rfl,_,rfl,_,rfl,_,rfl,_,rfl,_,rfl,stop5⟩⟩)
  |true=>
  have hml:m < c7.length:=by rw [FQ] at hlt2;exact ek hlt2
  refine ax rfl rfl (ax rfl rfl ⟨_,rfl,aa (fun _=>?_) (fun _=>⟨_,rfl,rfl,rfl,_,rfl,_,rfl,_,rfl,_,rfl,_,rfl,_,rfl,stop5⟩)⟩)
  have harm:=J9 hml
  have hasz:=Qx c7[m]
  have hsp:=harms _ (List.getElem_mem hml)
  have htk:=Gs hml
  have hzam:=B0 (List.getElem_mem hml)
  generalize c7[m]=am at *
  obtain⟨tg,vr,bd⟩:=am
  simp only [Oo] at htk hzam
  simp only at hsp
  refine⟨_,hv18,_,⟨eu harm,hasz⟩,_,rfl,_,rfl,?_⟩
  refine⟨fun o l1 l2 v st a1 a2 a3 a4 a5 a6 am y ab xs ds i tgs hd q=>∃(E4 t:Int),o=oM M E4/\l1=strs nms/\l2=strs prs/\vv=v/\st=pz (.mk kind 0 ch 0 e0 FV [] [] [])/\a1=[]/\a2=[]/\a3=[]/\a4=[]/\a5=[]/\a6=oC da/\am=SA (.mk tg vr bd)/\y=Ec (.mk t 0 [])/\ab=[]/\xs=.l (oI l)/\ds=gq done/\i=ii j/\tgs=.l (strs tags)/\hd=strs had/\q=ii m,?_,?_⟩
  ·refine⟨_,rfl,oK (KQ tags tg htg) ?_⟩
   rintro r ⟨m2,rfl,hm1,hm2⟩
   refine⟨trivial,_,rfl,aa (fun h=>?_) (fun h=>?_)⟩
   ·refine⟨_,rfl,_,rfl,aa (fun h=>?_) (fun h=>?_)⟩
    ·exact⟨_,rfl,trivial,trivial,trivial,_,rfl,_,rfl,8,0,rfl,rfl,rfl,rfl,rfl,rfl,rfl,rfl,rfl,rfl,rfl,rfl,rfl,rfl,rfl,rfl,rfl,rfl,rfl,rfl⟩
    ·exact⟨trivial,trivial,trivial,_,rfl,_,rfl,E3,0,rfl,rfl,rfl,rfl,rfl,rfl,rfl,rfl,rfl,rfl,rfl,rfl,rfl,rfl,rfl,rfl,rfl,rfl,rfl,rfl⟩
   ·exact⟨trivial,_,rfl,_,rfl,E3,m2,rfl,rfl,rfl,rfl,rfl,rfl,rfl,rfl,rfl,rfl,rfl,rfl,rfl,rfl,rfl,rfl,rfl,rfl,rfl,rfl⟩
  rintro o270 l271 l272 o273 o274 l275 l276 l277 l278 l279 l280 o281 o282 l283 x284 l285 x286 x287 l288 x289 ⟨E4,t,rfl,rfl,rfl,rfl,rfl,rfl,rfl,rfl,rfl,rfl,rfl,rfl,rfl,rfl,rfl,rfl,rfl,rfl,rfl,rfl⟩
  refine⟨fun o l1 l2 v st a1 a2 a3 a4 a5 a6 am y ab xs ds i tgs hd q=>∃(E4:Int),o=oM M E4/\l1=strs nms/\l2=strs prs/\vv=v/\st=pz (.mk kind 0 ch 0 e0 FV [] [] [])/\a1=[]/\a2=[]/\a3=[]/\a4=[]/\a5=[]/\a6=oC da/\am=SA (.mk tg vr bd)/\y=Ec (.mk t 0 [])/\ab=[]/\xs=.l (oI l)/\ds=gq done/\i=ii j/\tgs=.l (strs tags)/\hd=strs had/\q=ii m,?_,?_⟩
  ·refine⟨_,rfl,(KQ had tg (by omega)).mono ?_⟩
   rintro r ⟨m2,rfl,hm1,hm2⟩
   refine⟨rfl,_,rfl,aa (fun h=>?_) (fun h=>?_)⟩
   ·refine⟨_,rfl,_,rfl,aa (fun h=>?_) (fun h=>?_)⟩
    ·exact⟨_,rfl,trivial,trivial,7,rfl,rfl,rfl,rfl,rfl,rfl,rfl,rfl,rfl,rfl,rfl,rfl,rfl,rfl,rfl,rfl,rfl,rfl,rfl,rfl⟩
    ·exact⟨trivial,trivial,E4,rfl,rfl,rfl,rfl,rfl,rfl,rfl,rfl,rfl,rfl,rfl,rfl,rfl,rfl,rfl,rfl,rfl,rfl,rfl,rfl⟩
   ·exact⟨E4,rfl,rfl,rfl,rfl,rfl,rfl,rfl,rfl,rfl,rfl,rfl,rfl,rfl,rfl,rfl,rfl,rfl,rfl,rfl,rfl⟩
  rintro o303 l304 l305 o306 o307 l308 l309 l310 l311 l312 l313 o314 o315 l316 x317 l318 x319 x320 l321 x322 ⟨E5,rfl,rfl,rfl,rfl,rfl,rfl,rfl,rfl,rfl,rfl,rfl,rfl,rfl,rfl,rfl,rfl,rfl,rfl,rfl,rfl⟩
  refine⟨_,rfl,rfl,rfl,_,rfl,rfl,strs (had++[tg]),?_,?_⟩
  ·rw [x_ (by rw [oO];simp only [List.length_singleton,most];omega) (by rw [oO];simp only [List.length_singleton,most];omega)]
   simp [strs]
  refine⟨fun o l1 l2 v st a1 a2 a3 a4 a5 a6 am y ab xs ds i tgs hd q=>∃(E4 u:Int),o=oM M E4/\l1=strs nms/\l2=strs prs/\vv=v/\st=pz (.mk kind 0 ch 0 e0 FV [] [] [])/\a1=[]/\a2=[]/\a3=[]/\a4=[]/\a5=[]/\a6=oC da/\am=SA (.mk tg vr bd)/\y=Ec (.mk t u [])/\ab=[]/\xs=.l (oI l)/\ds=gq done/\i=ii j/\tgs=.l (strs tags)/\hd=strs (had++[tg])/\q=ii m,?_,?_⟩
  ·refine⟨_,hM.BK,_,rfl,oK (KQ M.vars vr hM.len) ?_⟩
   rintro r ⟨m2,rfl,hm1,hm2⟩
   refine⟨trivial,_,rfl,aa (fun h=>?_) (fun h=>?_)⟩
   ·refine⟨_,rfl,_,rfl,aa (fun h=>?_) (fun h=>?_)⟩
    ·exact⟨_,rfl,trivial,trivial,trivial,_,rfl,8,0,rfl,rfl,rfl,rfl,rfl,rfl,rfl,rfl,rfl,rfl,rfl,rfl,rfl,rfl,rfl,rfl,rfl,rfl,rfl,rfl⟩
    ·exact⟨trivial,trivial,trivial,_,rfl,E5,0,rfl,rfl,rfl,rfl,rfl,rfl,rfl,rfl,rfl,rfl,rfl,rfl,rfl,rfl,rfl,rfl,rfl,rfl,rfl,rfl⟩
   ·exact⟨trivial,_,rfl,E5,m2,rfl,rfl,rfl,rfl,rfl,rfl,rfl,rfl,rfl,rfl,rfl,rfl,rfl,rfl,rfl,rfl,rfl,rfl,rfl,rfl⟩
  rintro o347 l348 l349 o350 o351 l352 l353 l354 l355 l356 l357 o358 o359 l360 x361 l362 x363 x364 l365 x366 ⟨E6,u,rfl,rfl,rfl,rfl,rfl,rfl,rfl,rfl,rfl,rfl,rfl,rfl,rfl,rfl,rfl,rfl,rfl,rfl,rfl,rfl⟩
  refine⟨_,rfl,hsp E6 _ ?_⟩
  intro E7 out1 ho1
  refine⟨_,rfl,_,rfl,rfl,rfl,_,rfl,rfl,_,rfl,rfl,oC (da++[.mk t u out1]),?_,_,rfl,_,c_ hml (by omega),_,?_,m+1,E7,da++[.mk t u out1],had++[tg],by omega,rfl,rfl,rfl,rfl,rfl,rfl,rfl,rfl,rfl,rfl,rfl,rfl,rfl,rfl,rfl,rfl,rfl,rfl,by simp [hdal],by simp [hhad],?_⟩
  ·rw [←LK]
   exact x_ (by rw [J6];simp only [List.length_singleton,most];omega) (by rw [J6];simp only [List.length_singleton,most];omega)
  ·omega
  ·rw [IW];simp only [mw,OA];omega
 |false=>
 refine bp rfl ⟨_,rfl,?_⟩
 cases h6:mh kind 6 with
 |true=>
  refine b_ rfl ⟨_,rfl,hc E1 _ _ _ ?_⟩
  intro E2 k nu va k' nu' va' ks ks' hz1 hz2
  exact⟨_,rfl,_,rfl,rfl,rfl,_,rfl,_,rfl,_,rfl,_,rfl,_,rfl,_,rfl,push E2 (.mk kind 0 0 0 e0 ⟨op,.mk k nu va ks,.mk k' nu' va' ks'⟩ [] [] []) (by simp only [B7,gP,mw,Gy,BF,qf,FV,e0] at hz1 hz2 ⊢;omega)⟩
 |false=>
 refine bp rfl ⟨_,rfl,?_⟩
 cases h7:mh kind 7 with
 |true=>
  refine b_ rfl ⟨_,hM.BK,_,rfl,oK (KQ M.vars nm hM.len) ?_⟩
  rintro r ⟨m,rfl,hm1,hm2⟩
  refine⟨trivial,_,rfl,aa (fun h=>?_) (fun h=>?_)⟩
  ·refine⟨_,rfl,_,rfl,aa (fun h=>?_) (fun h=>?_)⟩
   ·exact⟨_,rfl,trivial,trivial,trivial,_,rfl,_,rfl,rfl,rfl,_,rfl,_,rfl,_,rfl,_,rfl,_,rfl,_,rfl,push 8 (.mk kind 0 0 0 e0 FV [] [] []) (by simp only [B7,gP,mw,Gy,BF,qf,FV,e0];omega)⟩
   ·exact⟨trivial,trivial,trivial,_,rfl,_,rfl,rfl,rfl,_,rfl,_,rfl,_,rfl,_,rfl,_,rfl,_,rfl,push E1 (.mk kind 0 0 0 e0 FV [] [] []) (by simp only [B7,gP,mw,Gy,BF,qf,FV,e0];omega)⟩
  ·exact⟨trivial,_,rfl,_,rfl,rfl,rfl,_,rfl,_,rfl,_,rfl,_,rfl,_,rfl,_,rfl,push E1 (.mk kind m 0 0 e0 FV [] [] []) (by simp only [B7,gP,mw,Gy,BF,qf,FV,e0];omega)⟩
 |false=>
 refine bp rfl ?_
 exact⟨_,rfl,rfl,rfl,_,rfl,_,rfl,_,rfl,_,rfl,_,rfl,_,rfl,push E1 (.mk kind 0 0 0 e0 FV [] [] []) (by simp only [B7,gP,mw,Gy,BF,qf,FV,e0];omega)⟩
end Go.Ax.eo

set_option maxRecDepth 100000
namespace Go.Ax.eo
open Go Go.Ax Go.Ax.V Go.Ax.Ft
theorem r_ (M:Mk) (E e:Int) (he:e≠0) {P:TV->Prop} (h:∀E':Int,E'≠0->P (oM M E')) :
  ∃v25,b9 (bh (oM M E) 7)=some v25/\∃v26,b8 .eql v25 (TV.i .i64 0)=some v26/\
   ak v26 (∃v27,av (oM M E) 7 1 (TV.i .i64 e)=some v27/\True/\bw []/\P v27) (True/\bw []/\P (oM M E)):=by
 refine⟨_,rfl,_,rfl,aa (fun h1=>?_) (fun h1=>?_)⟩
 ·exact⟨_,rfl,trivial,trivial,h e he⟩
 ·rw [cz] at h1
  exact⟨trivial,trivial,h E (of_decide_eq_false h1)⟩
theorem Ep (M:Mk) (E e r:Int) (he:e≠0) {P:TV->Prop} {R:Prop} (h0:∀E':Int,E'≠0->P (oM M E')) (h1:0<=r->R) :
  ∃v,b8 .lss (ii r) (TV.i .i64 0)=some v/\ak v
   (∃v25,b9 (bh (oM M E) 7)=some v25/\∃v26,b8 .eql v25 (TV.i .i64 0)=some v26/\
    ak v26 (∃v27,av (oM M E) 7 1 (TV.i .i64 e)=some v27/\True/\bw []/\True/\P v27) (True/\bw []/\True/\P (oM M E)))
   (True/\R):=by
 refine⟨_,rfl,aa (fun _=>?_) (fun h=>⟨trivial,h1 ?_⟩)⟩
 ·refine⟨_,rfl,_,rfl,aa (fun h1=>?_) (fun h1=>?_)⟩
  ·exact⟨_,rfl,trivial,trivial,trivial,h0 e he⟩
  ·rw [cz] at h1
   exact⟨trivial,trivial,trivial,h0 E (of_decide_eq_false h1)⟩
 ·rw [lS] at h
  have:=of_decide_eq_false h
  omega
theorem HB {i n:Nat} (M:Mk) (E:Int) {A B:Prop} (ha:i < n->E=0->A) (hb:¬(i < n/\E=0)->B) :
  ∃Nb,b8 .lss (ii i) (ii n)=some Nb/\gd Nb true Nb true/\gd Nb true Nb true/\gd Nb true Nb true/\
   ∃W1,gV Nb true (fun r=>b9 (bh (oM M E) 7)=some r) W1/\∃SW,gV Nb true (fun r=>b8 .eql W1 (TV.i .i64 0)=some r) SW/\
   ∃SV,bf Nb SW (TV.b false)=some SV/\ak SV A B:=by
 refine⟨.b (sw i n),rfl,rfl,rfl,rfl,?_⟩
 cases h:sw (i:Int) (n:Int) with
 |true=>
  have hi:=ek h
  refine ax rfl rfl (ax rfl rfl ⟨_,rfl,aa (fun h2=>ha hi ?_) (fun h2=>hb ?_)⟩)
  ·rw [cz] at h2;exact of_decide_eq_true h2
  ·rw [cz] at h2;exact fun h3=>of_decide_eq_false h2 h3.2
 |false=>
  refine bu rfl (bu rfl ⟨_,rfl,bp rfl (hb ?_)⟩)
  rw [lS] at h
  have:=of_decide_eq_false h
  omega
abbrev Z2:TV:=.a [.l [],.l []]
def C0 (sy:D4) (P R:List ByteArray->List ByteArray->List Ch->List Pr->Prop) (o1 o2:TV) (l1 l2:List TV) (o3:TV) (l3 l4:List TV) (o4:TV) (l5 l6:List TV):Prop:=
 ∃(M:Mk) (E:Int) (nms prs:List ByteArray) (cs:List Ch) (ps:List Pr),o1=CM sy/\o2=Z2/\l1=[]/\l2=[]/\o3=oM M E/\M.MY=sy.ay/\Kw M/\l3=strs nms/\l4=strs prs/\o4=Z2/\l5=cs.map dy/\l6=ps.map n8/\P nms prs cs ps/\(E=0->R nms prs cs ps)
theorem ij {sy:D4} {P R:List ByteArray->List ByteArray->List Ch->List Pr->Prop} {M:Mk} {E:Int} {nms prs:List ByteArray} {cs:List Ch} {ps:List Pr} (hc:M.MY=sy.ay) (hM:Kw M) (hP:P nms prs cs ps) (hR:E=0->R nms prs cs ps) :
  C0 sy P R (CM sy) Z2 [] [] (oM M E) (strs nms) (strs prs) Z2 (cs.map dy) (ps.map n8):=
 ⟨M,E,nms,prs,cs,ps,rfl,rfl,rfl,rfl,rfl,hc,hM,rfl,rfl,rfl,rfl,rfl,hP,hR⟩
theorem vs_s {f:Nat} {ts:List TV} {K:TV->Prop} (h:VS prog f ts P8) (hk:∀b,K (.b b)):VS prog f ts (fun r=>bz false r/\K r):=h.mono fun r ⟨b,hb⟩=>by subst hb;exact⟨rfl,hk b⟩
def T4:List ByteArray->List ByteArray->List Ch->List Pr->Prop:=fun _ _ _ _=>True
def PF (sy:D4) (nms prs:List ByteArray) (cs:List Ch):Prop:=nms.length<=sy.ay.length/\prs.length<=4194304/\cs.length<=4194304/\∀c∈cs,c.rule.length<=8/\∀r∈c.rule,r.length<=4
def ZV (sy:D4) (k:Nat) (nms prs:List ByteArray) (cs:List Ch) (ps:List Pr):Prop:=PF sy nms prs cs/\ps.length=k/\∀x∈ps,gP x.body<=4194304
theorem JY (sy:D4) (hz:M6 sy) {Q:TV->Prop} (hQ:∀(p:Pg) (e:Int),(e=0->Gb p)->Q (.tp [oZ p,ii e]))
  {o371 o372:TV} {l373 l374:List TV} {o375:TV} {l376 l377:List TV} {o378:TV} {l379 l380:List TV}
  (h:C0 sy (ZV sy 0) T4 o371 o372 l373 l374 o375 l376 l377 o378 l379 l380) :
  ∃I809:Nat->TV->TV->List TV->List TV->TV->List TV->List TV->TV->List TV->List TV->TV->Prop,(∃n810,I809 n810 o371 o372 l373 l374 o375 l376 l377 o378 l379 l380 (TV.i .i64 0))/\∀n810:Nat,
 ∀o812:TV,∀o813:TV,∀l814:List TV,∀l815:List TV,∀o816:TV,∀l817:List TV,∀l818:List TV,∀o819:TV,∀l820:List TV,∀l821:List TV,∀x822:TV,I809 n810 o812 o813 l814 l815 o816 l817 l818 o819 l820 l821 x822->
 ∃v829,b9 (bh o812 2)=some v829/\
 ∃v830,e9 v829=some v830/\
 ∃v831,b8 .lss x822 v830=some v831/\
 gd v831 true v831 true/\gd v831 true v831 true/\gd v831 true v831 true/\∃v832,gV v831 true (fun r=>b9 (bh o816 7)=some r) v832/\
 ∃v833,gV v831 true (fun r=>b8 .eql v832 (TV.i .i64 0)=some r) v833/\
 ∃v834,bf v831 v833 (TV.b false)=some v834/\
 ak v834
 (∃I843:TV->TV->List TV->List TV->TV->List TV->List TV->TV->List TV->List TV->TV->Prop,
 (∃v844,b9 (bh o812 2)=some v844/\
 ∃v845,(oW v844 x822=some v845/\dh 3 v845)/\
 ∃v846,ny v845 1 none=some v846/\
 ∃v847,e9 v846=some v847/\
 ∃v848,b8 .gtr v847 (TV.i .i64 6)=some v848/\
 ak v848
 (∃v849,b9 (bh o816 7)=some v849/\
 ∃v850,b8 .eql v849 (TV.i .i64 0)=some v850/\
 ak v850
 (∃v851,av o816 7 1 (TV.i .i64 10)=some v851/\
 True/\bw []/\I843 o812 o813 l814 l815 v851 l817 l818 o819 l820 l821 x822)
 (True/\bw []/\I843 o812 o813 l814 l815 o816 l817 l818 o819 l820 l821 x822))
 (I843 o812 o813 l814 l815 o816 l817 l818 o819 l820 l821 x822))/\
 ∀o852:TV,∀o853:TV,∀l854:List TV,∀l855:List TV,∀o856:TV,∀l857:List TV,∀l858:List TV,∀o859:TV,∀l860:List TV,∀l861:List TV,∀x862:TV,I843 o852 o853 l854 l855 o856 l857 l858 o859 l860 l861 x862->∃I870:TV->TV->List TV->List TV->TV->List TV->List TV->TV->List TV->List TV->TV->Prop,
 (∃v871,b9 (bh o852 2)=some v871/\
 ∃v872,(oW v871 x862=some v872/\dh 3 v872)/\
 ∃v873,ny v872 1 none=some v873/\
 VS prog 70 [v873] fun r874=>bz true r874/\
 ak r874
 (∃v875,b9 (bh o856 7)=some v875/\
 ∃v876,b8 .eql v875 (TV.i .i64 0)=some v876/\
 ak v876
 (∃v877,av o856 7 1 (TV.i .i64 7)=some v877/\
 True/\bw []/\I870 o852 o853 l854 l855 v877 l857 l858 o859 l860 l861 x862)
 (True/\bw []/\I870 o852 o853 l854 l855 o856 l857 l858 o859 l860 l861 x862))
 (I870 o852 o853 l854 l855 o856 l857 l858 o859 l860 l861 x862))/\
 ∀o878:TV,∀o879:TV,∀l880:List TV,∀l881:List TV,∀o882:TV,∀l883:List TV,∀l884:List TV,∀o885:TV,∀l886:List TV,∀l887:List TV,∀x888:TV,I870 o878 o879 l880 l881 o882 l883 l884 o885 l886 l887 x888->∃v889,b9 (bh o878 2)=some v889/\
 ∃v890,(oW v889 x888=some v890/\dh 3 v890)/\
 ∃v891,ny v890 1 none=some v891/\
 ∃v892,av o882 4 1 x888=some v892/\
 ∃v893,av v892 5 1 v891=some v893/\
 ∃v894,b9 (bh v893 5)=some v894/\TV.Z7 v894=true/\∀p895:AV,∃v896,av v893 5 1 (TV.BK p895 v894)=some v896/\
 ∃v897,b9 (bh v896 5)=some v897/\
 ∃v898,e9 v897=some v898/\
 ∃v899,b9 (bh o878 2)=some v899/\
 ∃v900,(oW v899 x888=some v900/\dh 3 v900)/\
 ∃v901,ny v900 2 none=some v901/\
 (∃t,TV.uniq t=true/\bh v896 5=some t/\bh v896 5=some t)/\
 SN (fun (o902:TV) (l903:List TV) (l904:List TV) (l905:List TV)=>
 (∃t,TV.uniq t=true/\bh v896 5=some t/\bh o902 5=some t)/\
 ∃v906,av (TV.a [(TV.i .i64 0),(TV.l [])]) 0 1 v898=some v906/\
 ∃v907,av v906 1 1 (TV.l [])=some v907/\
 (Nat.beq 0 (0*2)&&Nat.beq 2 2)=true/\true=true/\∃v908,av v907 1 1 (TV.l l905)=some v908/\
 dh 2 v908/\
 ∃v909,gb (TV.l [v908])=some v909/\gX 2 v909/\
 ∃v910,gw 32 l887 v909=some v910/\
 ∃v911,av o885 1 1 (TV.l [])=some v911/\
 ∃v912,b8 .add x888 (TV.i .i64 1)=some v912/\
 ∃m811,m811 < n810/\I809 m811 o878 o879 l880 l881 o902 l903 l904 v911 l886 v910 v912)
 v896 l883 l884 v901)
 (∃v917,b9 (bh o816 7)=some v917/\
 ∃v918,b8 .neq v917 (TV.i .i64 0)=some v918/\
 ak v918
 (∃v919,b9 (bh o816 7)=some v919/\
 ∃v920,av o813 0 2 (TV.a [(TV.l []),(TV.l [])])=some v920/\
 True/\∃v921,c8 v920 0 2=some v921/\
 ∃v922,av v921 1 1 (TV.l [])=some v922/\
 ∃v923,av v922 0 1 (TV.l [])=some v923/\
 b7 [v923,v919]/\Q (TV.tp [v923,v919]))
 (∃v924,c8 o819 0 2=some v924/\
 ∃v925,av o813 0 2 v924=some v925/\
 True/\∃v926,c8 v925 0 2=some v926/\
 ∃v927,av v926 1 1 (TV.l l821)=some v927/\
 ∃v928,av v927 0 1 (TV.l l820)=some v928/\
 b7 [v928,(TV.i .i64 0)]/\Q (TV.tp [v928,(TV.i .i64 0)]))):=by
 refine⟨fun n o1 o2 l1 l2 o3 l3 l4 o4 l5 l6 x=>∃k:Nat,k<=sy.procs.length/\n=sy.procs.length - k/\x=ii k/\C0 sy (ZV sy k) T4 o1 o2 l1 l2 o3 l3 l4 o4 l5 l6,
  ⟨_,0,Nat.zero_le _,rfl,rfl,h⟩,?_⟩
 clear h
 rintro n o812 o813 l814 l815 o816 l817 l818 o819 l820 l821 x822 ⟨k,hk,rfl,rfl,M,E,nms,prs,cs,ps,rfl,rfl,rfl,rfl,rfl,hc,hM,rfl,rfl,rfl,rfl,rfl,hP,_⟩
 refine⟨_,rfl,_,rfl,HB M E (fun hkl hE=>?_) (fun hno=>?_)⟩
 ·rw [List.length_map] at hkl
  have hget:=k_ (f:=MU) hkl
  have hv:=hz.vars _ (List.getElem_mem hkl)
  have hbd:=hz.body _ (List.getElem_mem hkl)
  have hzp:=hz.procs
  generalize sy.procs[k]=x at hget hv hbd
  have idx:(oW (.l (sy.procs.map MU)) (ii k)=some (MU x)/\dh 3 (MU x)):=⟨eu hget,LQ x⟩
  refine⟨fun o1 o2 l1 l2 o3 l3 l4 o4 l5 l6 x=>x=ii k/\C0 sy (ZV sy k) T4 o1 o2 l1 l2 o3 l3 l4 o4 l5 l6,⟨_,rfl,_,idx,_,rfl,_,rfl,_,rfl,aa (fun _=>r_ M E 10 (by decide) (fun E' _=>⟨rfl,ij hc hM hP (fun _=>trivial)⟩)) (fun _=>⟨rfl,ij hc hM hP (fun _=>trivial)⟩)⟩,?_⟩
  clear hP hc hM hE
  rintro o852 o853 l854 l855 o856 l857 l858 o859 l860 l861 x862 ⟨rfl,M,E,nms,prs,cs,ps,rfl,rfl,rfl,rfl,rfl,hc,hM,rfl,rfl,rfl,rfl,rfl,hP,_⟩
  refine⟨fun o1 o2 l1 l2 o3 l3 l4 o4 l5 l6 x=>x=ii k/\C0 sy (ZV sy k) T4 o1 o2 l1 l2 o3 l3 l4 o4 l5 l6,⟨_,rfl,_,idx,_,rfl,Tg (s70 x.vars hv) (fun b=>aa (fun _=>r_ M E 7 (by decide) (fun E' _=>⟨rfl,ij hc hM hP (fun _=>trivial)⟩)) (fun _=>⟨rfl,ij hc hM hP (fun _=>trivial)⟩))⟩,?_⟩
  clear hP hc hM
  rintro o878 o879 l880 l881 o882 l883 l884 o885 l886 l887 x888 ⟨rfl,M,E,nms,prs,cs,ps,rfl,rfl,rfl,rfl,rfl,hc,hM,rfl,rfl,rfl,rfl,rfl,⟨hP,hpl,hpb⟩,_⟩
  refine⟨_,rfl,_,idx,_,rfl,_,rfl,_,rfl,_,rfl,rfl,fun p=>⟨oM ⟨M.MY,M.c1,M.c2,k,.BK p (.l (strs x.vars)),x.vars⟩ E,rfl,_,rfl,_,rfl,_,rfl,_,idx,_,rfl,⟨_,rfl,rfl,rfl⟩,?_⟩⟩
  have hM2:Kw ⟨M.MY,M.c1,M.c2,k,.BK p (.l (strs x.vars)),x.vars⟩:=⟨rfl,hv,hM.tags,hM.ay⟩
  refine s72 _ hM2 nms prs (by show nms.length<=M.MY.length;rw [hc];exact hP.1) hP.2.1 _ x.body (Nat.le_refl _) hbd E _ ?_
  intro E2 out hout
  refine⟨⟨_,rfl,rfl,rfl⟩,_,rfl,_,rfl,rfl,rfl,n8 (Pr.mk ((x.vars.map ss).length:Nat) out),rfl,rfl,_,rfl,rfl,(ps++[Pr.mk ((x.vars.map ss).length:Nat) out]).map n8,?_,Z2,rfl,_,c_ hkl (by omega),_,?_,k+1,by omega,rfl,rfl,ij (M:=⟨M.MY,M.c1,M.c2,k,.BK p (.l (strs x.vars)),x.vars⟩) hc hM2 ⟨hP,by simp [hpl],?_⟩ (fun _=>trivial)⟩
  ·rw [x_ (by simp only [List.length_map,List.length_singleton,most];omega) (by simp only [List.length_map,List.length_singleton,most];omega)]
   simp
  ·omega
  ·intro y hy
   rcases List.mem_append.1 hy with hy|hy
   ·exact hpb y hy
   ·rw [List.mem_singleton.1 hy];show gP out<=_;omega
 ·obtain⟨⟨hP1,hP2,hP3,hP4⟩,hpl,hpb⟩:=hP
  refine⟨_,rfl,_,rfl,aa (fun h=>?_) (fun h=>?_)⟩
  ·have hE:E≠0:=by
    intro h0;subst h0;cases h
   exact⟨_,rfl,Z2,rfl,trivial,_,rfl,_,rfl,oZ ⟨[],[]⟩,rfl,Nc rfl rfl,hQ ⟨[],[]⟩ E (fun h=>absurd h hE)⟩
  ·have hzp:=hz.procs
   exact⟨_,rfl,Z2,rfl,trivial,_,rfl,_,rfl,oZ ⟨cs,ps⟩,rfl,Nc rfl rfl,hQ ⟨cs,ps⟩ 0 (fun _=>⟨hP3,by show ps.length<=_;omega,fun c hc=>by have:=(hP4 c hc).1;omega,fun c hc r hr=>by have:=(hP4 c hc).2 r hr;omega,hpb⟩)⟩
end Go.Ax.eo

set_option maxRecDepth 100000
namespace Go.Ax.eo
open Go Go.Ax Go.Ax.V Go.Ax.Ft
def P4 (sy:D4) (nms prs:List ByteArray) (cs:List Ch) (ps:List Pr):Prop:=nms.length=cs.length/\cs.length<=sy.ay.length/\prs.length<=4194304/\ps=[]/\∀c∈cs,c.rule.length<=8/\∀r∈c.rule,r.length<=4
def R1 (sy:D4) (nms prs:List ByteArray) (cs:List Ch) (ps:List Pr):Prop:=cs.length=sy.ay.length/\(∀nc∈sy.ay,nc.tags.length<=4)/\∀c∈cs,c.tags<=4
def PR (sy:D4) (j k:Nat) (nms prs:List ByteArray) (cs:List Ch) (ps:List Pr):Prop:=P4 sy nms prs cs ps/\R1 sy nms prs cs ps/\∃ch,cs[j]?=some ch/\ch.rule.length=k
def Ar8 (arr:List Int):Prop:=arr.length=32/\∀x∈arr,0<=x/\x<=8
theorem Ta {arr:List Int} (h:Ar8 arr) {q:Nat} (hq:q < 32):∃x:Int,(.a (arr.map ii):TV)=.a (arr.map ii)/\(arr.map ii)[q]?=some (ii x)/\0<=x/\x<=8:=by
 have hl:q < arr.length:=by rw [h.1];exact hq
 refine⟨arr[q],rfl,by simp [hl],h.2 _ (List.getElem_mem hl)⟩
theorem Y_ {cs:List Ch} {j:Nat} {ch:Ch} (h:cs[j]?=some ch):gA (cs.map dy) j 4 none=some (ii ch.tags):=by
 unfold gA
 rw [List.getElem?_map,h];rfl
theorem S9 {cs:List Ch} {j:Nat} {ch:Ch} (h:cs[j]?=some ch):Ac (cs.map dy) j 5=some (ch.rule.map qy):=by
 unfold Ac
 rw [List.getElem?_map,h];rfl
theorem S_ {cs:List Ch} {j:Nat} {ch:Ch} (h:cs[j]?=some ch):(cs.map dy)[j]?=some (dy ch):=by
 rw [List.getElem?_map,h];rfl
theorem Uz {cs:List Ch} {j:Nat} {ch:Ch} (h:cs[j]?=some ch) (r:List (List Int)):fl (cs.map dy) j 5 1 (.l (r.map qy))=some ((cs.set j {ch with rule:=r}).map dy):=by
 unfold fl
 rw [List.getElem?_map,h,List.map_set];rfl
theorem Nl (sy:D4) (i j:Nat) (hi:i<=4194304) (top:Int) (ht0:0<=top) (ht:top<=7) (arr:List Int) (ha:Ar8 arr)
  {I368:Nat->TV->TV->List TV->List TV->TV->List TV->List TV->TV->List TV->List TV->TV->Prop} {n369:Nat}
  {o585 o586:TV} {l587 l588:List TV} {o589:TV} {l590 l591:List TV} {o592:TV} {l593 l594:List TV} {o595 x596 x597 x598:TV}
  (h:C0 sy (PR sy j 0) T4 o585 o586 l587 l588 o589 l590 l591 o592 l593 l594) (e1:o595=.a (arr.map ii)) (e2:x596=ii i) (e3:x597=ii j) (e4:x598=ii top)
  (hI:∀(o1 o2:TV) (l1 l2:List TV) (o3:TV) (l3 l4:List TV) (o4:TV) (l5 l6:List TV),C0 sy (P4 sy) (R1 sy) o1 o2 l1 l2 o3 l3 l4 o4 l5 l6->∃m,m < n369/\I368 m o1 o2 l1 l2 o3 l3 l4 o4 l5 l6 (ii ((i+1:Nat):Int))) :
  ∃I747:Nat->TV->TV->List TV->List TV->TV->List TV->List TV->TV->List TV->List TV->TV->TV->TV->TV->TV->Prop,(∃n748,I747 n748 o585 o586 l587 l588 o589 l590 l591 o592 l593 l594 o595 x596 x597 x598 (TV.i .i64 0))/\∀n748:Nat,
 ∀o750:TV,∀o751:TV,∀l752:List TV,∀l753:List TV,∀o754:TV,∀l755:List TV,∀l756:List TV,∀o757:TV,∀l758:List TV,∀l759:List TV,∀o760:TV,∀x761:TV,∀x762:TV,∀x763:TV,∀x764:TV,I747 n748 o750 o751 l752 l753 o754 l755 l756 o757 l758 l759 o760 x761 x762 x763 x764->
 ∃v766,b8 .leq x764 x763=some v766/\
 ak v766
 (∃I767:Nat->TV->TV->List TV->List TV->TV->List TV->List TV->TV->List TV->List TV->TV->TV->TV->TV->TV->List TV->TV->Prop,(∃n768,I767 n768 o750 o751 l752 l753 o754 l755 l756 o757 l758 l759 o760 x761 x762 x763 x764 [] (TV.i .i64 0))/\∀n768:Nat,
 ∀o770:TV,∀o771:TV,∀l772:List TV,∀l773:List TV,∀o774:TV,∀l775:List TV,∀l776:List TV,∀o777:TV,∀l778:List TV,∀l779:List TV,∀o780:TV,∀x781:TV,∀x782:TV,∀x783:TV,∀x784:TV,∀l785:List TV,∀x786:TV,I767 n768 o770 o771 l772 l773 o774 l775 l776 o777 l778 l779 o780 x781 x782 x783 x784 l785 x786->
 ∃v790,dz x782 (List.length l778)=some v790/\
 ∃v791,gA l778 v790 4 none=some v791/\
 ∃v792,b8 .lss x786 v791=some v792/\
 ak v792
 (∃v793,dz x784 8=some v793/\
 ∃v794,dz x786 4=some v794/\
 ∃v795,ny o780 ((0+v793*4)+v794*1) none=some v795/\
 ∃v796,b8 .sub v795 (TV.i .i64 1)=some v796/\
 (Nat.beq 0 (0*1)&&Nat.beq 1 1)=true/\dh 1 v796/\
 ∃v797,gb (TV.l [v796])=some v797/\gX 1 v797/\
 ∃v798,gw 8 l785 v797=some v798/\
 ∃v799,b8 .add x786 (TV.i .i64 1)=some v799/\
 ∃m769,m769 < n768/\I767 m769 o770 o771 l772 l773 o774 l775 l776 o777 l778 l779 o780 x781 x782 x783 x784 v798 v799)
 (∃v800,dz x782 (List.length l778)=some v800/\
 ∃v801,l778[v800]?=some v801/\
 (Nat.beq 0 (0*1)&&Nat.beq 1 1)=true/\true=true/\1=1/\∃v802,gb (TV.l [(TV.l l785)])=some v802/\gX 1 v802/\
 ∃v803,Ac l778 v800 5=some v803/\
 ∃v804,gw 24 v803 v802=some v804/\
 ∃v805,dz x782 (List.length l778)=some v805/\
 v800=v800/\v800=v800/\v800=v805/\∃v806,fl l778 v805 5 1 (TV.l v804)=some v806/\
 ∃v807,b8 .add x784 (TV.i .i64 1)=some v807/\
 ∃m749,m749 < n748/\I747 m749 o770 o771 l772 l773 o774 l775 l776 o777 v806 l779 o780 x781 x782 x783 v807))
 (∃v808,b8 .add x761 (TV.i .i64 1)=some v808/\
 ∃m370,m370 < n369/\I368 m370 o750 o751 l752 l753 o754 l755 l756 o757 l758 l759 v808):=by
 subst e1 e2 e3 e4
 refine⟨fun n o1 o2 l1 l2 o3 l3 l4 o4 l5 l6 a x1 x2 x3 x4=>∃k:Nat,(k:Int)<=top+1/\n=(top+1 - k).toNat/\a=.a (arr.map ii)/\x1=ii i/\x2=ii j/\x3=ii top/\x4=ii k/\C0 sy (PR sy j k) T4 o1 o2 l1 l2 o3 l3 l4 o4 l5 l6,⟨_,0,by omega,rfl,rfl,rfl,rfl,rfl,rfl,h⟩,?_⟩
 clear h
 rintro n o750 o751 l752 l753 o754 l755 l756 o757 l758 l759 o760 x761 x762 x763 x764 ⟨k,hk,rfl,rfl,rfl,rfl,rfl,rfl,h⟩
 obtain⟨M,E,nms,prs,cs,ps,rfl,rfl,rfl,rfl,rfl,hc,hM,rfl,rfl,rfl,rfl,rfl,⟨hP,hR,ch,hch,hcr⟩,_⟩:=h
 refine⟨_,Mz _ _,aa (fun h1=>?_) (fun h1=>?_)⟩
 ·have hkt:(k:Int)<=top:=by
   rw [lS,Bool.not_eq_true',decide_eq_false_iff_not] at h1
   omega
  have hjl:j < cs.length:=(List.getElem?_eq_some_iff.1 hch).1
  have hct:ch.tags<=4:=hR.2.2 ch (List.mem_of_getElem? hch)
  have hjm:dz (ii j) (cs.map dy).length=some j:=Fw (by rw [List.length_map];exact hjl)
  refine⟨fun n o1 o2 l1 l2 o3 l3 l4 o4 l5 l6 a x1 x2 x3 x4 r x5=>∃(t:Nat) (row:List Int),t<=4/\n=4 - t/\o1=CM sy/\o2=Z2/\l1=[]/\l2=[]/\o3=oM M E/\l3=strs nms/\l4=strs prs/\o4=Z2/\l5=cs.map dy/\l6=ps.map n8/\a=.a (arr.map ii)/\x1=ii i/\x2=ii j/\x3=ii top/\x4=ii k/\r=row.map ii/\row.length=t/\x5=ii t,
   ⟨_,0,[],by omega,rfl,rfl,rfl,rfl,rfl,rfl,rfl,rfl,rfl,rfl,rfl,rfl,rfl,rfl,rfl,rfl,rfl,rfl,rfl⟩,?_⟩
  rintro n o770 o771 l772 l773 o774 l775 l776 o777 l778 l779 o780 x781 x782 x783 x784 l785 x786 ⟨t,row,ht4,rfl,rfl,rfl,rfl,rfl,rfl,rfl,rfl,rfl,rfl,rfl,rfl,rfl,rfl,rfl,rfl,rfl,hrow,rfl⟩
  refine⟨j,hjm,_,Y_ hch,_,rfl,aa (fun h2=>?_) (fun h2=>?_)⟩
  ·have htl:(t:Int) < ch.tags:=by
    rw [lS] at h2
    exact of_decide_eq_true h2
   have ht4':t < 4:=by omega
   obtain⟨x,_,hx,hx0,hx8⟩:=Ta ha (q:=(0+k*4)+t*1) (by omega)
   refine⟨k,Fw (by omega),t,Fw (by omega),ii x,hx,_,SX (by omega) (by omega),rfl,rfl,_,rfl,rfl,(row++[x - 1]).map ii,?_,_,c_ ht4' (by omega),_,?_,t+1,row++[x - 1],by omega,rfl,rfl,rfl,rfl,rfl,rfl,rfl,rfl,rfl,rfl,rfl,rfl,rfl,rfl,rfl,rfl,rfl,by simp [hrow],rfl⟩
   ·rw [x_ (by simp only [List.length_map,List.length_singleton,most];omega) (by simp only [List.length_map,List.length_singleton,most];omega)]
    simp
   ·omega
  ·refine⟨j,hjm,_,S_ hch,rfl,rfl,rfl,_,rfl,rfl,_,S9 hch,(ch.rule++[row]).map qy,?_,j,hjm,rfl,rfl,rfl,_,Uz hch _,_,c_ (n:=8) (by omega) (by omega),_,?_,k+1,by omega,rfl,rfl,rfl,rfl,rfl,rfl,ij hc hM ⟨?_,?_,{ch with rule:=ch.rule++[row]},?_,?_⟩ (fun _=>trivial)⟩
   ·rw [x_ (by simp only [List.length_map,List.length_singleton,most];omega) (by simp only [List.length_map,List.length_singleton,most];omega)]
    simp [qy]
   ·omega
   ·obtain⟨h1,h2,h3,h4,h5⟩:=hP
    refine⟨by rw [List.length_set];exact h1,by rw [List.length_set];exact h2,h3,h4,fun c hc=>?_⟩
    rcases List.mem_or_eq_of_mem_set hc with hc|rfl
    ·exact h5 c hc
    ·refine⟨by simp only [List.length_append,List.length_singleton];omega,fun r hr=>?_⟩
     rcases List.mem_append.1 hr with hr|hr
     ·exact(h5 ch (List.mem_of_getElem? hch)).2 r hr
     ·rw [List.mem_singleton.1 hr];omega
   ·obtain⟨h1,h2,h3⟩:=hR
    refine⟨by rw [List.length_set];exact h1,h2,fun c hc=>?_⟩
    rcases List.mem_or_eq_of_mem_set hc with hc|rfl
    ·exact h3 c hc
    ·exact hct
   ·rw [List.getElem?_set_self hjl]
   ·simp only [List.length_append,List.length_singleton];omega
 ·exact⟨_,c_ (n:=4194305) (by omega) (by omega),hI _ _ _ _ _ _ _ _ _ _ (ij hc hM hP (fun _=>hR))⟩
end Go.Ax.eo

set_option maxRecDepth 100000
namespace Go.Ax.eo
open Go Go.Ax Go.Ax.V Go.Ax.Ft
theorem PZ {j:Int} {n:Nat} (h0:0<=j) (h:j.toNat < n):dz (ii j) n=some j.toNat:=by
 obtain⟨k,rfl⟩:=Int.eq_ofNat_of_zero_le h0
 exact Fw h
theorem Fe (cs:List TV):z8 cs []=some cs:=by cases cs<;>rfl
theorem Jo:∀(cs:List TV) (q:Nat) (x:TV),q < cs.length->Cn cs q [x]=some (cs.set q x)
 |y::cs,0,x,_=>by
  show (match z8 cs [] with|some l=>some (x::l)|none=>none)=_
  rw [Fe];rfl
 |y::cs,q+1,x,h=>by
  show (match Cn cs q [x] with|some l=>some (y::l)|none=>none)=_
  rw [Jo cs q x (by simpa using h)];rfl
theorem UA {arr:List Int} {q:Nat} (h:q < arr.length) (x:Int):av (.a (arr.map ii)) q 1 (ii x)=some (.a ((arr.set q x).map ii)):=by
 show (match Cn (arr.map ii) q [ii x] with|some l=>some (TV.a l)|none=>none)=_
 rw [Jo _ _ _ (by rw [List.length_map];exact h),List.map_set]
theorem mxm (a b c:Int):∃m,JC true [ii a,ii b,ii c]=some (ii m)/\(m=a\/m=b\/m=c):=by
 refine⟨bif sw (bif sw a b then b else a) c then c else (bif sw a b then b else a),rfl,?_⟩
 cases h:sw a b<;>simp only [cond_true,cond_false]
 ·cases sw a c<;>simp
 ·cases sw b c<;>simp
theorem Y2 {E:Int} (h:E=0):b8 .eql (ii E) (TV.i .i64 0)=some (.b true):=by subst h;rfl
theorem Y3 {E:Int} (h:E≠0):b8 .eql (ii E) (TV.i .i64 0)=some (.b false):=by
 show some (TV.b (mh E 0))=_
 rw [cz,decide_eq_false h]
theorem Nk (sy:D4) (hz:M6 sy) (i j:Nat) (hi:i < sy.rules.length) (hok:∀x∈sy.rules,∀m∈x.lR,TQ m)
  {I368:Nat->TV->TV->List TV->List TV->TV->List TV->List TV->TV->List TV->List TV->TV->Prop} {n369:Nat}
  {o446 o447:TV} {l448 l449:List TV} {o450:TV} {l451 l452:List TV} {o453:TV} {l454 l455:List TV} {x456 x457:TV}
  (h:C0 sy (PR sy j 0) T4 o446 o447 l448 l449 o450 l451 l452 o453 l454 l455) (e2:x456=ii i) (e3:x457=ii j)
  (hI:∀(o1 o2:TV) (l1 l2:List TV) (o3:TV) (l3 l4:List TV) (o4:TV) (l5 l6:List TV),C0 sy (P4 sy) (R1 sy) o1 o2 l1 l2 o3 l3 l4 o4 l5 l6->∃m,m < n369/\I368 m o1 o2 l1 l2 o3 l3 l4 o4 l5 l6 (ii ((i+1:Nat):Int))) :
  ∃I582:Nat->TV->TV->List TV->List TV->TV->List TV->List TV->TV->List TV->List TV->TV->TV->TV->TV->TV->Prop,(∃n583,I582 n583 o446 o447 l448 l449 o450 l451 l452 o453 l454 l455 V5 x456 x457 (TV.i .i64 0) (TV.i .i64 0))/\∀n583:Nat,
 ∀o585:TV,∀o586:TV,∀l587:List TV,∀l588:List TV,∀o589:TV,∀l590:List TV,∀l591:List TV,∀o592:TV,∀l593:List TV,∀l594:List TV,∀o595:TV,∀x596:TV,∀x597:TV,∀x598:TV,∀x599:TV,I582 n583 o585 o586 l587 l588 o589 l590 l591 o592 l593 l594 o595 x596 x597 x598 x599->
 ∃v608,b9 (bh o585 1)=some v608/\
 ∃v609,(oW v608 x596=some v609/\dh 2 v609)/\
 ∃v610,ny v609 1 none=some v610/\
 ∃v611,e9 v610=some v611/\
 ∃v612,b8 .lss x599 v611=some v612/\
 gd v612 true v612 true/\gd v612 true v612 true/\gd v612 true v612 true/\∃v613,gV v612 true (fun r=>b9 (bh o589 7)=some r) v613/\
 ∃v614,gV v612 true (fun r=>b8 .eql v613 (TV.i .i64 0)=some r) v614/\
 ∃v615,bf v612 v614 (TV.b false)=some v615/\
 ak v615
 (∃v616,b9 (bh o585 1)=some v616/\
 ∃v617,(oW v616 x596=some v617/\dh 2 v617)/\
 ∃v618,ny v617 1 none=some v618/\
 ∃v619,(oW v618 x599=some v619/\dh 3 v619)/\
 ∃v620,ny v619 0 (some 3)=some v620/\
 ∃v621,av (TV.a [(TV.i .i64 0),(TV.s ⟨#[]⟩),(TV.i .i64 0)]) 0 3 v620=some v621/\
 ∃I631:TV->TV->List TV->List TV->TV->List TV->List TV->TV->List TV->List TV->TV->TV->TV->TV->TV->TV->TV->Prop,
 (∃v632,b9 (bh o585 0)=some v632/\
 ∃v633,(oW v632 x597=some v633/\dh 6 v633)/\
 ∃v634,ny v633 5 none=some v634/\
 ∃v635,b9 (bh v621 1)=some v635/\
 VS prog 69 [v634,v635] fun r636=>bz true r636/\
 ∃v637,b8 .lss r636 (TV.i .i64 0)=some v637/\
 ak v637
 (∃v638,b9 (bh o589 7)=some v638/\
 ∃v639,b8 .eql v638 (TV.i .i64 0)=some v639/\
 ak v639
 (∃v640,av o589 7 1 (TV.i .i64 8)=some v640/\
 True/\bw []/\True/\I631 o585 o586 l587 l588 v640 l590 l591 o592 l593 l594 o595 v621 x596 x597 x598 x599 (TV.i .i64 0))
 (True/\bw []/\True/\I631 o585 o586 l587 l588 o589 l590 l591 o592 l593 l594 o595 v621 x596 x597 x598 x599 (TV.i .i64 0)))
 (True/\I631 o585 o586 l587 l588 o589 l590 l591 o592 l593 l594 o595 v621 x596 x597 x598 x599 r636))/\
 ∀o641:TV,∀o642:TV,∀l643:List TV,∀l644:List TV,∀o645:TV,∀l646:List TV,∀l647:List TV,∀o648:TV,∀l649:List TV,∀l650:List TV,∀o651:TV,∀o652:TV,∀x653:TV,∀x654:TV,∀x655:TV,∀x656:TV,∀x657:TV,I631 o641 o642 l643 l644 o645 l646 l647 o648 l649 l650 o651 o652 x653 x654 x655 x656 x657->∃I666:TV->TV->List TV->List TV->TV->List TV->List TV->TV->List TV->List TV->TV->TV->TV->TV->TV->TV->TV->Prop,
 (∃v667,b9 (bh o652 0)=some v667/\
 ∃v668,b8 .gtr v667 (TV.i .i64 7)=some v668/\
 gd v668 false v668 false/\∃v669,gV v668 false (fun r=>b9 (bh o652 2)=some r) v669/\
 ∃v670,gV v668 false (fun r=>b8 .gtr v669 (TV.i .i64 7)=some r) v670/\
 ∃v671,bf v668 (TV.b true) v670=some v671/\
 ak v671
 (∃v672,b9 (bh o645 7)=some v672/\
 ∃v673,b8 .eql v672 (TV.i .i64 0)=some v673/\
 ak v673
 (∃v674,av o645 7 1 (TV.i .i64 11)=some v674/\
 True/\bw []/\I666 o641 o642 l643 l644 v674 l646 l647 o648 l649 l650 o651 o652 x653 x654 x655 x656 x657)
 (True/\bw []/\I666 o641 o642 l643 l644 o645 l646 l647 o648 l649 l650 o651 o652 x653 x654 x655 x656 x657))
 (I666 o641 o642 l643 l644 o645 l646 l647 o648 l649 l650 o651 o652 x653 x654 x655 x656 x657))/\
 ∀o675:TV,∀o676:TV,∀l677:List TV,∀l678:List TV,∀o679:TV,∀l680:List TV,∀l681:List TV,∀o682:TV,∀l683:List TV,∀l684:List TV,∀o685:TV,∀o686:TV,∀x687:TV,∀x688:TV,∀x689:TV,∀x690:TV,∀x691:TV,I666 o675 o676 l677 l678 o679 l680 l681 o682 l683 l684 o685 o686 x687 x688 x689 x690 x691->∃I704:TV->TV->List TV->List TV->TV->List TV->List TV->TV->List TV->List TV->TV->TV->TV->TV->TV->TV->TV->Prop,
 (∃v705,b9 (bh o679 7)=some v705/\
 ∃v706,b8 .eql v705 (TV.i .i64 0)=some v706/\
 gd v706 true v706 true/\∃v707,gV v706 true (fun r=>b9 (bh o686 0)=some r) v707/\
 ∃v708,gV v706 true (fun r=>some x691=some r) v708/\
 ∃v709,(v706=.b true->dz v707 8=some v709)/\
 gd v706 true v706 true/\∃v710,(v706=.b true->dz v708 4=some v710)/\
 gd v706 true v706 true/\∃v711,gV v706 true (fun r=>ny o685 ((0+v709*4)+v710*1) none=some r) v711/\
 ∃v712,gV v706 true (fun r=>b8 .gtr v711 (TV.i .i64 0)=some r) v712/\
 ∃v713,bf v706 v712 (TV.b false)=some v713/\
 ak v713
 (∃v714,b9 (bh o679 7)=some v714/\
 ∃v715,b8 .eql v714 (TV.i .i64 0)=some v715/\
 ak v715
 (∃v716,av o679 7 1 (TV.i .i64 7)=some v716/\
 True/\bw []/\I704 o675 o676 l677 l678 v716 l680 l681 o682 l683 l684 o685 o686 x687 x688 x689 x690 x691)
 (True/\bw []/\I704 o675 o676 l677 l678 o679 l680 l681 o682 l683 l684 o685 o686 x687 x688 x689 x690 x691))
 (I704 o675 o676 l677 l678 o679 l680 l681 o682 l683 l684 o685 o686 x687 x688 x689 x690 x691))/\
 ∀o717:TV,∀o718:TV,∀l719:List TV,∀l720:List TV,∀o721:TV,∀l722:List TV,∀l723:List TV,∀o724:TV,∀l725:List TV,∀l726:List TV,∀o727:TV,∀o728:TV,∀x729:TV,∀x730:TV,∀x731:TV,∀x732:TV,∀x733:TV,I704 o717 o718 l719 l720 o721 l722 l723 o724 l725 l726 o727 o728 x729 x730 x731 x732 x733->∃v734,b9 (bh o721 7)=some v734/\
 ∃v735,b8 .eql v734 (TV.i .i64 0)=some v735/\
 ak v735
 (∃v736,b9 (bh o728 0)=some v736/\
 ∃v737,b9 (bh o728 2)=some v737/\
 ∃v738,b8 .add v737 (TV.i .i64 1)=some v738/\
 ∃v739,dz v736 8=some v739/\
 ∃v740,dz x733 4=some v740/\
 ∃v741,av o727 ((0+v739*4)+v740*1) 1 v738=some v741/\
 ∃v742,b9 (bh o728 0)=some v742/\
 ∃v743,b9 (bh o728 2)=some v743/\
 ∃v744,JC true [x731,v742,v743]=some v744/\
 ∃v745,b8 .add x732 (TV.i .i64 1)=some v745/\
 ∃m584,m584 < n583/\I582 m584 o717 o718 l719 l720 o721 l722 l723 o724 l725 l726 v741 x729 x730 v744 v745)
 (∃v746,b8 .add x732 (TV.i .i64 1)=some v746/\
 ∃m584,m584 < n583/\I582 m584 o717 o718 l719 l720 o721 l722 l723 o724 l725 l726 o727 x729 x730 x731 v746))
 (∃I747:Nat->TV->TV->List TV->List TV->TV->List TV->List TV->TV->List TV->List TV->TV->TV->TV->TV->TV->Prop,(∃n748,I747 n748 o585 o586 l587 l588 o589 l590 l591 o592 l593 l594 o595 x596 x597 x598 (TV.i .i64 0))/\∀n748:Nat,
 ∀o750:TV,∀o751:TV,∀l752:List TV,∀l753:List TV,∀o754:TV,∀l755:List TV,∀l756:List TV,∀o757:TV,∀l758:List TV,∀l759:List TV,∀o760:TV,∀x761:TV,∀x762:TV,∀x763:TV,∀x764:TV,I747 n748 o750 o751 l752 l753 o754 l755 l756 o757 l758 l759 o760 x761 x762 x763 x764->
 ∃v766,b8 .leq x764 x763=some v766/\
 ak v766
 (∃I767:Nat->TV->TV->List TV->List TV->TV->List TV->List TV->TV->List TV->List TV->TV->TV->TV->TV->TV->List TV->TV->Prop,(∃n768,I767 n768 o750 o751 l752 l753 o754 l755 l756 o757 l758 l759 o760 x761 x762 x763 x764 [] (TV.i .i64 0))/\∀n768:Nat,
 ∀o770:TV,∀o771:TV,∀l772:List TV,∀l773:List TV,∀o774:TV,∀l775:List TV,∀l776:List TV,∀o777:TV,∀l778:List TV,∀l779:List TV,∀o780:TV,∀x781:TV,∀x782:TV,∀x783:TV,∀x784:TV,∀l785:List TV,∀x786:TV,I767 n768 o770 o771 l772 l773 o774 l775 l776 o777 l778 l779 o780 x781 x782 x783 x784 l785 x786->
 ∃v790,dz x782 (List.length l778)=some v790/\
 ∃v791,gA l778 v790 4 none=some v791/\
 ∃v792,b8 .lss x786 v791=some v792/\
 ak v792
 (∃v793,dz x784 8=some v793/\
 ∃v794,dz x786 4=some v794/\
 ∃v795,ny o780 ((0+v793*4)+v794*1) none=some v795/\
 ∃v796,b8 .sub v795 (TV.i .i64 1)=some v796/\
 (Nat.beq 0 (0*1)&&Nat.beq 1 1)=true/\dh 1 v796/\
 ∃v797,gb (TV.l [v796])=some v797/\gX 1 v797/\
 ∃v798,gw 8 l785 v797=some v798/\
 ∃v799,b8 .add x786 (TV.i .i64 1)=some v799/\
 ∃m769,m769 < n768/\I767 m769 o770 o771 l772 l773 o774 l775 l776 o777 l778 l779 o780 x781 x782 x783 x784 v798 v799)
 (∃v800,dz x782 (List.length l778)=some v800/\
 ∃v801,l778[v800]?=some v801/\
 (Nat.beq 0 (0*1)&&Nat.beq 1 1)=true/\true=true/\1=1/\∃v802,gb (TV.l [(TV.l l785)])=some v802/\gX 1 v802/\
 ∃v803,Ac l778 v800 5=some v803/\
 ∃v804,gw 24 v803 v802=some v804/\
 ∃v805,dz x782 (List.length l778)=some v805/\
 v800=v800/\v800=v800/\v800=v805/\∃v806,fl l778 v805 5 1 (TV.l v804)=some v806/\
 ∃v807,b8 .add x784 (TV.i .i64 1)=some v807/\
 ∃m749,m749 < n748/\I747 m749 o770 o771 l772 l773 o774 l775 l776 o777 v806 l779 o780 x781 x782 x783 v807))
 (∃v808,b8 .add x761 (TV.i .i64 1)=some v808/\
 ∃m370,m370 < n369/\I368 m370 o750 o751 l752 l753 o754 l755 l756 o757 l758 l759 v808)):=by
 subst e2 e3
 have hrl:=hz.rules
 have hget:=k_ (f:=Oj) hi
 have hmv:=hz.lR _ (List.getElem_mem hi)
 have hok':=hok _ (List.getElem_mem hi)
 generalize sy.rules[i]=ru at hget hmv hok'
 have idx:(oW (.l (sy.rules.map Oj)) (ii i)=some (Oj ru)/\dh 2 (Oj ru)):=⟨eu hget,FP ru⟩
 refine⟨fun n o1 o2 l1 l2 o3 l3 l4 o4 l5 l6 a x1 x2 x3 x4=>∃(k:Nat) (top:Int) (arr:List Int),k<=ru.lR.length/\n=ru.lR.length - k/\0<=top/\top<=7/\Ar8 arr/\a=.a (arr.map ii)/\x1=ii i/\x2=ii j/\x3=ii top/\x4=ii k/\C0 sy (PR sy j 0) T4 o1 o2 l1 l2 o3 l3 l4 o4 l5 l6,
  ⟨_,0,0,List.replicate 32 0,Nat.zero_le _,rfl,by omega,by omega,⟨by simp,fun x hx=>by rw [List.eq_of_mem_replicate hx];omega⟩,rfl,rfl,rfl,rfl,rfl,h⟩,?_⟩
 clear h
 rintro n o585 o586 l587 l588 o589 l590 l591 o592 l593 l594 o595 x596 x597 x598 x599 ⟨k,top,arr,hk,rfl,ht0,ht7,ha,rfl,rfl,rfl,rfl,rfl,M,E,nms,prs,cs,ps,rfl,rfl,rfl,rfl,rfl,hc,hM,rfl,rfl,rfl,rfl,rfl,hP,_⟩
 refine⟨_,rfl,_,idx,_,rfl,_,rfl,HB M E (fun hkl hE=>?_) (fun hno=>?_)⟩
 ·rw [List.length_map] at hkl
  have hgm:=k_ (f:=Qv) hkl
  have hom:=hok' _ (List.getElem_mem hkl)
  generalize ru.lR[k]=mo at hgm hom
  have hjl:j < sy.ay.length:=by
   obtain⟨_,hR,ch,hch,_⟩:=hP
   rw [←hR.1]
   exact(List.getElem?_eq_some_iff.1 hch).1
  have hgc:=k_ (f:=vg) hjl
  have htl:=hP.2.1.2.1 _ (List.getElem_mem hjl)
  generalize sy.ay[j]=nc at hgc htl
  refine⟨_,rfl,_,idx,_,rfl,_,⟨eu hgm,Qu mo⟩,Qv mo,rfl,Qv mo,rfl,?_⟩
  refine⟨fun o1 o2 l1 l2 o3 l3 l4 o4 l5 l6 a q x1 x2 x3 x4 x5=>∃t:Int,a=.a (arr.map ii)/\q=Qv mo/\x1=ii i/\x2=ii j/\x3=ii top/\x4=ii k/\x5=ii t/\C0 sy (PR sy j 0) (fun _ _ _ _=>0<=t/\t < 4) o1 o2 l1 l2 o3 l3 l4 o4 l5 l6,?_,?_⟩
  ·refine⟨_,rfl,_,⟨eu hgc,CO nc⟩,_,rfl,_,rfl,oK (KQ nc.tags mo.tag (by omega)) ?_⟩
   rintro r ⟨m,rfl,hm1,hm2⟩
   exact⟨trivial,Ep M E 8 m (by decide) (fun E' hE'=>⟨0,rfl,rfl,rfl,rfl,rfl,rfl,rfl,ij hc hM hP (fun h0=>absurd h0 hE')⟩) (fun hm=>⟨m,rfl,rfl,rfl,rfl,rfl,rfl,rfl,ij hc hM hP (fun _=>⟨hm,by omega⟩)⟩)⟩
  clear hP hc hM hE
  rintro o641 o642 l643 l644 o645 l646 l647 o648 l649 l650 o651 o652 x653 x654 x655 x656 x657 ⟨t,rfl,rfl,rfl,rfl,rfl,rfl,rfl,M,E,nms,prs,cs,ps,rfl,rfl,rfl,rfl,rfl,hc,hM,rfl,rfl,rfl,rfl,rfl,hP,hR⟩
  refine⟨fun o1 o2 l1 l2 o3 l3 l4 o4 l5 l6 a q x1 x2 x3 x4 x5=>a=.a (arr.map ii)/\q=Qv mo/\x1=ii i/\x2=ii j/\x3=ii top/\x4=ii k/\x5=ii t/\C0 sy (PR sy j 0) (fun _ _ _ _=>(0<=t/\t < 4)/\mo.src<=7/\mo.dst<=7) o1 o2 l1 l2 o3 l3 l4 o4 l5 l6,?_,?_⟩
  ·refine⟨_,rfl,_,rfl,rfl,gO _ (fun h=>rfl) (gO _ (fun h=>by rw [h];rfl) (kq (aa (fun _=>r_ M E 11 (by decide) (fun E' hE'=>⟨rfl,rfl,rfl,rfl,rfl,rfl,rfl,ij hc hM hP (fun h0=>absurd h0 hE')⟩)) (fun h=>⟨rfl,rfl,rfl,rfl,rfl,rfl,rfl,ij hc hM hP (fun h0=>⟨hR h0,?_⟩)⟩))))⟩
   simp only [lS,Bool.or_eq_false_iff,decide_eq_false_iff_not] at h
   omega
  clear hP hc hM hR
  rintro o675 o676 l677 l678 o679 l680 l681 o682 l683 l684 o685 o686 x687 x688 x689 x690 x691 ⟨rfl,rfl,rfl,rfl,rfl,rfl,rfl,M,E,nms,prs,cs,ps,rfl,rfl,rfl,rfl,rfl,hc,hM,rfl,rfl,rfl,rfl,rfl,hP,hR⟩
  refine⟨fun o1 o2 l1 l2 o3 l3 l4 o4 l5 l6 a q x1 x2 x3 x4 x5=>a=.a (arr.map ii)/\q=Qv mo/\x1=ii i/\x2=ii j/\x3=ii top/\x4=ii k/\x5=ii t/\C0 sy (PR sy j 0) (fun _ _ _ _=>(0<=t/\t < 4)/\mo.src<=7/\mo.dst<=7) o1 o2 l1 l2 o3 l3 l4 o4 l5 l6,?_,?_⟩
  ·by_cases hE:E=0
   ·obtain⟨⟨ht0',ht4⟩,hs,hd⟩:=hR hE
    obtain⟨hs0,hd0⟩:=hom
    obtain⟨x,_,hx,_,_⟩:=Ta ha (q:=(0+mo.src.toNat*4)+t.toNat*1) (by omega)
    refine⟨_,rfl,.b true,Y2 hE,rfl,ax rfl rfl (ax rfl rfl ⟨mo.src.toNat,fun _=>PZ hs0 (by omega),rfl,t.toNat,fun _=>PZ ht0' (by omega),rfl,ax rfl hx (ax rfl rfl ⟨_,rfl,aa (fun _=>r_ M E 7 (by decide) (fun E' hE'=>⟨rfl,rfl,rfl,rfl,rfl,rfl,rfl,ij hc hM hP (fun h0=>absurd h0 hE')⟩)) (fun _=>⟨rfl,rfl,rfl,rfl,rfl,rfl,rfl,ij hc hM hP hR⟩)⟩)⟩)⟩
   ·refine⟨_,rfl,.b false,Y3 hE,rfl,bu rfl (bu rfl ⟨0,(fun h=>by cases h),rfl,0,(fun h=>by cases h),rfl,bu rfl (bu rfl ⟨_,rfl,bp rfl ⟨rfl,rfl,rfl,rfl,rfl,rfl,rfl,ij hc hM hP hR⟩⟩)⟩)⟩
  clear hP hc hM hR
  rintro o717 o718 l719 l720 o721 l722 l723 o724 l725 l726 o727 o728 x729 x730 x731 x732 x733 ⟨rfl,rfl,rfl,rfl,rfl,rfl,rfl,M,E,nms,prs,cs,ps,rfl,rfl,rfl,rfl,rfl,hc,hM,rfl,rfl,rfl,rfl,rfl,hP,hR⟩
  refine⟨_,rfl,_,rfl,aa (fun h=>?_) (fun h=>?_)⟩
  ·have hE:E=0:=by
    rw [cz] at h
    exact of_decide_eq_true h
   obtain⟨⟨ht0',ht4⟩,hs,hd⟩:=hR hE
   obtain⟨hs0,hd0⟩:=hom
   obtain⟨m,hm,hm'⟩:=mxm top mo.src mo.dst
   have hq:(0+mo.src.toNat*4)+t.toNat*1 < arr.length:=by rw [ha.1];omega
   refine⟨_,rfl,_,rfl,_,M3 (by omega) (by omega),_,PZ hs0 (by omega),_,PZ ht0' (by omega),_,UA hq _,_,rfl,_,rfl,_,hm,_,c_ hkl (by omega),_,?_,k+1,m,arr.set ((0+mo.src.toNat*4)+t.toNat*1) (mo.dst+1),by omega,rfl,by omega,by omega,⟨by rw [List.length_set];exact ha.1,fun x hx=>?_⟩,rfl,rfl,rfl,rfl,rfl,ij hc hM hP (fun _=>trivial)⟩
   ·omega
   ·rcases List.mem_or_eq_of_mem_set hx with hx|rfl
    ·exact ha.2 x hx
    ·omega
  ·exact⟨_,c_ hkl (by omega),_,by omega,k+1,top,arr,by omega,rfl,ht0,ht7,ha,rfl,rfl,rfl,rfl,rfl,ij hc hM hP (fun _=>trivial)⟩
 ·exact Nl sy i j (by omega) top ht0 ht7 arr ha (ij hc hM hP (fun _=>trivial)) rfl rfl rfl rfl hI
end Go.Ax.eo

set_option maxRecDepth 100000
namespace Go.Ax.eo
open Go Go.Ax Go.Ax.V Go.Ax.Ft
def PA (sy:D4) (k:Nat) (nms prs:List ByteArray) (cs:List Ch) (ps:List Pr):Prop:=nms.length=k/\cs.length=k/\k<=sy.ay.length/\prs=[]/\ps=[]/\∀c∈cs,c.rule=[]
def RA (sy:D4) (k:Nat) (nms prs:List ByteArray) (cs:List Ch) (ps:List Pr):Prop:=(∀nc∈sy.ay.take k,nc.tags.length<=4)/\∀c∈cs,c.tags<=4
def P3 (sy:D4) (nms prs:List ByteArray) (cs:List Ch) (ps:List Pr):Prop:=nms.length=cs.length/\cs.length<=sy.ay.length/\prs.length<=4194304/\ps=[]/\∀c∈cs,c.rule=[]
theorem P3.P4 {sy:D4} {nms prs:List ByteArray} {cs:List Ch} {ps:List Pr} (h:P3 sy nms prs cs ps):P4 sy nms prs cs ps:=
 ⟨h.1,h.2.1,h.2.2.1,h.2.2.2.1,fun c hc=>by rw [h.2.2.2.2 c hc];exact⟨Nat.zero_le _,fun r hr=>by cases hr⟩⟩
theorem P4.PF {sy:D4} (hz:M6 sy) {nms prs:List ByteArray} {cs:List Ch} {ps:List Pr} (h:P4 sy nms prs cs ps):ZV sy 0 nms prs cs ps:=by
 have:=hz.ay
 obtain⟨h1,h2,h3,rfl,h5⟩:=h
 exact⟨⟨by omega,h3,by omega,h5⟩,rfl,fun x hx=>by cases hx⟩
theorem Me {cs:List Ch} {j:Nat} {ch:Ch} (h:cs[j]?=some ch) (r:Int):fl (cs.map dy) j 2 1 (ii r)=some ((cs.set j {ch with src:=r}).map dy):=by
 unfold fl
 rw [List.getElem?_map,h,List.map_set];rfl
theorem Mf {cs:List Ch} {j:Nat} {ch:Ch} (h:cs[j]?=some ch) (r:Int):fl (cs.map dy) j 3 1 (ii r)=some ((cs.set j {ch with dst:=r}).map dy):=by
 unfold fl
 rw [List.getElem?_map,h,List.map_set];rfl
theorem P3.set {sy:D4} {nms prs:List ByteArray} {cs:List Ch} {ps:List Pr} (h:P3 sy nms prs cs ps) {j:Nat} {ch ch':Ch} (hj:cs[j]?=some ch) (hr:ch'.rule=ch.rule):P3 sy nms prs (cs.set j ch') ps:=by
 obtain⟨h1,h2,h3,h4,h5⟩:=h
 refine⟨by rw [List.length_set];exact h1,by rw [List.length_set];exact h2,h3,h4,fun c hc=>?_⟩
 rcases List.mem_or_eq_of_mem_set hc with hc|rfl
 ·exact h5 c hc
 ·rw [hr];exact h5 ch (List.mem_of_getElem? hj)
theorem R1.set {sy:D4} {nms prs:List ByteArray} {cs:List Ch} {ps:List Pr} (h:R1 sy nms prs cs ps) {j:Nat} {ch ch':Ch} (hj:cs[j]?=some ch) (hr:ch'.tags=ch.tags):R1 sy nms prs (cs.set j ch') ps:=by
 obtain⟨h1,h2,h3⟩:=h
 refine⟨by rw [List.length_set];exact h1,h2,fun c hc=>?_⟩
 rcases List.mem_or_eq_of_mem_set hc with hc|rfl
 ·exact h3 c hc
 ·rw [hr];exact h3 ch (List.mem_of_getElem? hj)
theorem s49 (sy:D4) (hz:M6 sy):VS prog 49 [CM sy] (fun r=>∃(p:Pg) (e:Int),r=.tp [oZ p,ii e]/\(e=0->Gb p)):=by
 have hzc:=hz.ay
 have hzp:=hz.procs
 have hzr:=hz.rules
 refine vs49 _ _ ?_
 unfold W49
 refine⟨rfl,_,rfl,oK (s67 sy hz) ?_⟩
 rintro r ⟨b,rfl,hb⟩
 refine⟨trivial,_,bg _,aa (fun h=>?_) (fun h=>?_)⟩
 ·exact⟨_,rfl,trivial,_,rfl,_,rfl,oZ ⟨[],[]⟩,rfl,Nc rfl rfl,⟨[],[]⟩,5,rfl,fun h=>absurd h (by decide)⟩
 have hok:=hb (by simpa using h)
 clear hb h
 have hM0:Kw ⟨sy.ay,.l (sy.rules.map Oj),.l (sy.procs.map MU),0,.l [],[]⟩:=⟨rfl,Nat.zero_le _,hz.tags,hz.ay⟩
 have hA0:PA sy 0 [] [] [] []:=⟨rfl,rfl,Nat.zero_le _,rfl,rfl,fun c hc=>by cases hc⟩
 have hR0:RA sy 0 [] [] [] []:=⟨fun c hc=>by simp at hc,fun c hc=>by cases hc⟩
 refine⟨_,rfl,_,rfl,rfl,oM ⟨sy.ay,.l (sy.rules.map Oj),.l (sy.procs.map MU),0,.l [],[]⟩ 0,rfl,?_⟩
 refine⟨C0 sy (PA sy 0) (RA sy 0),⟨_,rfl,_,rfl,_,rfl,aa (fun _=>r_ _ 0 10 (by decide) (fun E' _=>ij (prs:=[]) (nms:=[]) (cs:=[]) (ps:=[]) rfl hM0 hA0 (fun _=>hR0))) (fun _=>ij (prs:=[]) (nms:=[]) (cs:=[]) (ps:=[]) rfl hM0 hA0 (fun _=>hR0))⟩,?_⟩
 clear hM0 hA0 hR0
 intro o28 o29 l30 l31 o32 l33 l34 o35 l36 l37 h
 refine⟨fun n o1 o2 l1 l2 o3 l3 l4 o4 l5 l6 x=>∃k:Nat,k<=sy.ay.length/\n=sy.ay.length - k/\x=ii k/\C0 sy (PA sy k) (RA sy k) o1 o2 l1 l2 o3 l3 l4 o4 l5 l6,⟨_,0,Nat.zero_le _,rfl,rfl,h⟩,?_⟩
 clear h
 rintro n o41 o42 l43 l44 o45 l46 l47 o48 l49 l50 x51 ⟨k,hk,rfl,rfl,M,E,nms,prs,cs,ps,rfl,rfl,rfl,rfl,rfl,hc,hM,rfl,rfl,rfl,rfl,rfl,hP,hR⟩
 refine⟨_,rfl,_,rfl,HB M E (fun hkl hE=>?_) (fun hno=>?_)⟩
 ·rw [List.length_map] at hkl
  have hget:=k_ (f:=vg) hkl
  have htl:=hz.tags _ (List.getElem_mem hkl)
  have hsn:sy.ay[k]?=some sy.ay[k]:=List.getElem?_eq_getElem hkl
  generalize sy.ay[k]=c at hget htl hsn
  refine⟨_,rfl,_,⟨eu hget,CO c⟩,vg c,rfl,vg c,rfl,?_⟩
  refine⟨fun o1 o2 l1 l2 o3 l3 l4 o4 l5 l6 q x=>q=vg c/\x=ii k/\C0 sy (PA sy k) (RA sy k) o1 o2 l1 l2 o3 l3 l4 o4 l5 l6,?_,?_⟩
  ·refine⟨_,rfl,(KQ nms c.nm (by rw [hP.1];omega)).mono ?_⟩
   rintro r ⟨m,rfl,_,_⟩
   exact⟨rfl,_,rfl,aa (fun _=>r_ M E 7 (by decide) (fun E' hE'=>⟨rfl,rfl,ij hc hM hP (fun h0=>absurd h0 hE')⟩)) (fun _=>⟨rfl,rfl,ij hc hM hP hR⟩)⟩
  clear hP hc hM hE hR
  rintro o81 o82 l83 l84 o85 l86 l87 o88 l89 l90 o91 x92 ⟨rfl,rfl,M,E,nms,prs,cs,ps,rfl,rfl,rfl,rfl,rfl,hc,hM,rfl,rfl,rfl,rfl,rfl,hP,hR⟩
  refine⟨fun o1 o2 l1 l2 o3 l3 l4 o4 l5 l6 q x=>q=vg c/\x=ii k/\C0 sy (PA sy k) (fun a b d e=>RA sy k a b d e/\c.tags.length<=4) o1 o2 l1 l2 o3 l3 l4 o4 l5 l6,?_,?_⟩
  ·refine⟨_,rfl,_,rfl,rfl,gO _ (fun h=>rfl) (gO _ (fun h=>by rw [h];rfl) (kq ⟨rfl,gO _ (fun h=>rfl) (gO _ (fun h=>by rw [h];rfl) (gO _ (fun h=>by rw [h];rfl) (kq (aa (fun _=>r_ M E 10 (by decide) (fun E' hE'=>⟨rfl,rfl,ij hc hM hP (fun h0=>absurd h0 hE')⟩)) (fun h=>⟨rfl,rfl,ij hc hM hP (fun h0=>⟨hR h0,?_⟩)⟩)))))⟩))⟩
   simp only [lS,Bool.or_eq_false_iff,decide_eq_false_iff_not,List.length_map] at h
   omega
  clear hP hc hM hR
  rintro o118 o119 l120 l121 o122 l123 l124 o125 l126 l127 o128 x129 ⟨rfl,rfl,M,E,nms,prs,cs,ps,rfl,rfl,rfl,rfl,rfl,hc,hM,rfl,rfl,rfl,rfl,rfl,hP,hR⟩
  refine⟨fun o1 o2 l1 l2 o3 l3 l4 o4 l5 l6 q x=>q=vg c/\x=ii k/\C0 sy (PA sy k) (fun a b d e=>RA sy k a b d e/\c.tags.length<=4) o1 o2 l1 l2 o3 l3 l4 o4 l5 l6,?_,?_⟩
  ·exact⟨_,rfl,Tg (s70 c.tags htl) (fun b=>aa (fun _=>r_ M E 7 (by decide) (fun E' hE'=>⟨rfl,rfl,ij hc hM hP (fun h0=>absurd h0 hE')⟩)) (fun _=>⟨rfl,rfl,ij hc hM hP hR⟩))⟩
  clear hP hc hM hR
  rintro o141 o142 l143 l144 o145 l146 l147 o148 l149 l150 o151 x152 ⟨rfl,rfl,M,E,nms,prs,cs,ps,rfl,rfl,rfl,rfl,rfl,hc,hM,rfl,rfl,rfl,rfl,rfl,⟨hn,hcl,hkn,hpr,hps,hrl⟩,hR⟩
  refine⟨_,rfl,rfl,rfl,_,rfl,rfl,strs (nms++[c.nm]),?_,oM M E,rfl,_,rfl,_,rfl,_,rfl,_,rfl,_,rfl,_,rfl,_,rfl,rfl,dy ⟨c.kind,c.size,0,0,((c.tags.map ss).length:Nat),[]⟩,rfl,(cs++[Ch.mk c.kind c.size 0 0 ((c.tags.map ss).length:Nat) []]).map dy,?_,Z2,rfl,_,c_ hkl (by omega),_,?_,k+1,by omega,rfl,rfl,ij hc hM ⟨by simp [hn],by simp [hcl],by omega,hpr,hps,?_⟩ (fun h0=>⟨?_,?_⟩)⟩
  ·rw [x_ (by rw [oO];simp only [List.length_singleton,most];omega) (by rw [oO];simp only [List.length_singleton,most];omega)]
   simp [strs]
  ·rw [x_ (by simp only [List.length_map,List.length_singleton,most];omega) (by simp only [List.length_map,List.length_singleton,most];omega)]
   simp
  ·omega
  ·intro x hx
   rcases List.mem_append.1 hx with hx|hx
   ·exact hrl x hx
   ·rw [List.mem_singleton.1 hx]
  ·intro x hx
   rw [←l_ hsn] at hx
   rcases List.mem_append.1 hx with hx|hx
   ·exact(hR h0).1.1 x hx
   ·rw [List.mem_singleton.1 hx];exact(hR h0).2
  ·intro x hx
   rcases List.mem_append.1 hx with hx|hx
   ·exact(hR h0).1.2 x hx
   ·rw [List.mem_singleton.1 hx]
    have:=(hR h0).2
    show (((c.tags.map ss).length:Nat):Int)<=4
    rw [List.length_map];omega
 have hP':nms.length=cs.length/\cs.length<=sy.ay.length/\prs=[]/\ps=[]/\∀c∈cs,c.rule=[]:=by
  obtain⟨hn,hcl,hkn,hpr,hps,hrl⟩:=hP
  exact⟨by omega,by omega,hpr,hps,hrl⟩
 have hR':E=0->R1 sy nms prs cs ps:=fun h0=>by
  obtain⟨hn,hcl,hkn,hpr,hps,hrl⟩:=hP
  have hke:k=sy.ay.length:=by
   rw [List.length_map] at hno
   have:¬k < sy.ay.length:=fun h1=>hno ⟨h1,h0⟩
   omega
  obtain⟨h1,h2⟩:=hR h0
  rw [hke,List.take_length] at h1
  exact⟨by omega,h1,h2⟩
 clear hP hR hno hk
 refine⟨C0 sy (fun nms prs cs ps=>nms.length=cs.length/\cs.length<=sy.ay.length/\prs=[]/\ps=[]/\∀c∈cs,c.rule=[]) (R1 sy),?_,?_⟩
 ·exact⟨_,rfl,_,rfl,_,rfl,rfl,gO _ (fun h=>rfl) (gO _ (fun h=>by rw [h];rfl) (gO _ (fun h=>by rw [h];rfl) (kq (aa (fun _=>r_ M E 10 (by decide) (fun E' hE'=>ij hc hM hP' (fun h0=>absurd h0 hE'))) (fun h=>ij hc hM hP' hR')))))⟩
 clear hP' hR' hc hM
 rintro o189 o190 l191 l192 o193 l194 l195 o196 l197 l198 ⟨M,E,nms,prs,cs,ps,rfl,rfl,rfl,rfl,rfl,hc,hM,rfl,rfl,rfl,rfl,rfl,⟨h1,h2,rfl,h4,h5⟩,hR⟩
 refine⟨fun n o1 o2 l1 l2 o3 l3 l4 o4 l5 l6 x=>∃k:Nat,k<=sy.procs.length/\n=sy.procs.length - k/\x=ii k/\C0 sy (fun nms prs cs ps=>prs.length=k/\P3 sy nms prs cs ps) (R1 sy) o1 o2 l1 l2 o3 l3 l4 o4 l5 l6,⟨_,0,Nat.zero_le _,rfl,rfl,ij hc hM ⟨rfl,h1,h2,Nat.zero_le _,h4,h5⟩ hR⟩,?_⟩
 clear h1 h2 h4 h5 hR hc hM
 rintro n o202 o203 l204 l205 o206 l207 l208 o209 l210 l211 x212 ⟨k,hk,rfl,rfl,M,E,nms,prs,cs,ps,rfl,rfl,rfl,rfl,rfl,hc,hM,rfl,rfl,rfl,rfl,rfl,⟨hpk,hP⟩,hR⟩
 refine⟨_,rfl,_,rfl,HB M E (fun hkl hE=>?_) (fun hno=>?_)⟩
 ·rw [List.length_map] at hkl
  have hget:=k_ (f:=MU) hkl
  generalize sy.procs[k]=x at hget
  refine⟨_,rfl,_,⟨eu hget,LQ x⟩,_,rfl,rfl,rfl,_,rfl,rfl,strs (prs++[x.nm]),?_,oM M E,rfl,_,c_ hkl (by omega),_,?_,k+1,by omega,rfl,rfl,ij hc hM ⟨by simp [hpk],hP.1,hP.2.1,by simp only [List.length_append,List.length_singleton];omega,hP.2.2.2⟩ hR⟩
  ·rw [x_ (by rw [oO];simp only [List.length_singleton,most];omega) (by rw [oO];simp only [List.length_singleton,most];omega)]
   simp [strs]
  ·omega
 clear hno hk hpk
 refine⟨C0 sy (P3 sy) (R1 sy),?_,?_⟩
 ·refine vs_s (s70 prs hP.2.2.1) (fun b=>aa (fun _=>r_ M E 7 (by decide) (fun E' hE'=>ij hc hM hP (fun h0=>absurd h0 hE'))) (fun h=>ij hc hM hP hR))
 clear hP hR hc hM
 intro o241 o242 l243 l244 o245 l246 l247 o248 l249 l250 h
 refine⟨fun n o1 o2 l1 l2 o3 l3 l4 o4 l5 l6 x=>∃k:Nat,k<=sy.ay.length/\n=sy.ay.length - k/\x=ii k/\C0 sy (P3 sy) (R1 sy) o1 o2 l1 l2 o3 l3 l4 o4 l5 l6,⟨_,0,Nat.zero_le _,rfl,rfl,h⟩,?_⟩
 clear h
 rintro n o254 o255 l256 l257 o258 l259 l260 o261 l262 l263 x264 ⟨k,hk,rfl,rfl,M,E,nms,prs,cs,ps,rfl,rfl,rfl,rfl,rfl,hc,hM,rfl,rfl,rfl,rfl,rfl,hP,hR⟩
 refine⟨_,rfl,_,rfl,HB M E (fun hkl hE=>?_) (fun hno=>?_)⟩
 ·rw [List.length_map] at hkl
  have hget:=k_ (f:=vg) hkl
  generalize sy.ay[k]=c at hget
  have idx:(oW (.l (sy.ay.map vg)) (ii k)=some (vg c)/\dh 6 (vg c)):=⟨eu hget,CO c⟩
  have hkc:k < cs.length:=by rw [(hR hE).1];exact hkl
  refine⟨fun o1 o2 l1 l2 o3 l3 l4 o4 l5 l6 x=>x=ii k/\C0 sy (fun nms prs cs ps=>k < cs.length/\P3 sy nms prs cs ps) (R1 sy) o1 o2 l1 l2 o3 l3 l4 o4 l5 l6,?_,?_⟩
  ·refine⟨_,rfl,_,idx,_,rfl,(KQ prs c.src hP.2.2.1).mono ?_⟩
   rintro r ⟨m,rfl,_,_⟩
   have hch:cs[k]?=some cs[k]:=List.getElem?_eq_getElem hkc
   have hx:dz (ii k) (cs.map dy).length=some k:=Fw (by rw [List.length_map];exact hkc)
   exact⟨rfl,Ep M E 8 m (by decide) (fun E' hE'=>⟨k,hx,_,Me hch 0,rfl,ij hc hM ⟨by rw [List.length_set];exact hkc,hP.set hch rfl⟩ (fun h0=>absurd h0 hE')⟩)
    (fun _=>⟨k,hx,_,Me hch m,rfl,ij hc hM ⟨by rw [List.length_set];exact hkc,hP.set hch rfl⟩ (fun h0=>(hR h0).set hch rfl)⟩)⟩
  clear hP hR hc hM hkc hE
  rintro o306 o307 l308 l309 o310 l311 l312 o313 l314 l315 x316 ⟨rfl,M,E,nms,prs,cs,ps,rfl,rfl,rfl,rfl,rfl,hc,hM,rfl,rfl,rfl,rfl,rfl,⟨hkc,hP⟩,hR⟩
  refine⟨fun o1 o2 l1 l2 o3 l3 l4 o4 l5 l6 x=>x=ii k/\C0 sy (fun nms prs cs ps=>k < cs.length/\P3 sy nms prs cs ps) (R1 sy) o1 o2 l1 l2 o3 l3 l4 o4 l5 l6,?_,?_⟩
  ·refine⟨_,rfl,_,idx,_,rfl,(KQ prs c.dst hP.2.2.1).mono ?_⟩
   rintro r ⟨m,rfl,_,_⟩
   have hch:cs[k]?=some cs[k]:=List.getElem?_eq_getElem hkc
   have hx:dz (ii k) (cs.map dy).length=some k:=Fw (by rw [List.length_map];exact hkc)
   exact⟨rfl,Ep M E 8 m (by decide) (fun E' hE'=>⟨k,hx,_,Mf hch 0,rfl,ij hc hM ⟨by rw [List.length_set];exact hkc,hP.set hch rfl⟩ (fun h0=>absurd h0 hE')⟩)
    (fun _=>⟨k,hx,_,Mf hch m,rfl,ij hc hM ⟨by rw [List.length_set];exact hkc,hP.set hch rfl⟩ (fun h0=>(hR h0).set hch rfl)⟩)⟩
  clear hP hR hc hM hkc
  rintro o346 o347 l348 l349 o350 l351 l352 o353 l354 l355 x356 ⟨rfl,M,E,nms,prs,cs,ps,rfl,rfl,rfl,rfl,rfl,hc,hM,rfl,rfl,rfl,rfl,rfl,⟨hkc,hP⟩,hR⟩
  have hch:cs[k]?=some cs[k]:=List.getElem?_eq_getElem hkc
  have hx:dz (ii k) (cs.map dy).length=some k:=Fw (by rw [List.length_map];exact hkc)
  have l2:gA (cs.map dy) k 2 none=some (ii cs[k].src):=by
   unfold gA;rw [List.getElem?_map,hch];rfl
  have l3:gA (cs.map dy) k 3 none=some (ii cs[k].dst):=by
   unfold gA;rw [List.getElem?_map,hch];rfl
  exact⟨k,hx,_,l2,k,hx,_,l3,_,rfl,aa (fun _=>r_ M E 9 (by decide) (fun E' hE'=>⟨_,c_ hkl (by omega),_,by omega,k+1,by omega,rfl,rfl,ij hc hM hP (fun h0=>absurd h0 hE')⟩)) (fun _=>⟨_,c_ hkl (by omega),_,by omega,k+1,by omega,rfl,rfl,ij hc hM hP hR⟩)⟩
 clear hno hk
 refine⟨fun n o1 o2 l1 l2 o3 l3 l4 o4 l5 l6 x=>∃k:Nat,k<=sy.rules.length/\n=sy.rules.length - k/\x=ii k/\C0 sy (P4 sy) (R1 sy) o1 o2 l1 l2 o3 l3 l4 o4 l5 l6,⟨_,0,Nat.zero_le _,rfl,rfl,ij hc hM hP.P4 hR⟩,?_⟩
 clear hP hR hc hM
 rintro n o371 o372 l373 l374 o375 l376 l377 o378 l379 l380 x381 ⟨k,hk,rfl,rfl,M,E,nms,prs,cs,ps,rfl,rfl,rfl,rfl,rfl,hc,hM,rfl,rfl,rfl,rfl,rfl,hP,hR⟩
 have hQ:∀(p:Pg) (e:Int),(e=0->Gb p)->(fun (r:TV)=>∃(p:Pg) (e:Int),r=.tp [oZ p,ii e]/\(e=0->Gb p)) (.tp [oZ p,ii e]):=fun p e h=>⟨p,e,rfl,h⟩
 refine⟨_,rfl,_,rfl,HB M E (fun hkl hE=>?_) (fun hno=>?_)⟩
 ·rw [List.length_map] at hkl
  have hget:=k_ (f:=Oj) hkl
  generalize hru:sy.rules[k]=ru at hget
  have hR2:=hR hE
  have hnl:nms.length<=4194304:=by rw [hP.1,hR2.1];exact hzc
  refine⟨fun o1 o2 l1 l2 o3 l3 l4 o4 l5 l6 x y=>∃c:Int,x=ii k/\y=ii c/\C0 sy (fun a b d e=>P4 sy a b d e/\R1 sy a b d e) (fun nms _ _ _=>0<=c/\c < nms.length) o1 o2 l1 l2 o3 l3 l4 o4 l5 l6,?_,?_⟩
  ·refine⟨_,rfl,_,⟨eu hget,FP ru⟩,_,rfl,(KQ nms ru.chan hnl).mono ?_⟩
   rintro r ⟨m,rfl,hm1,hm2⟩
   exact⟨rfl,Ep M E 8 m (by decide) (fun E' hE'=>⟨0,rfl,rfl,ij hc hM ⟨hP,hR2⟩ (fun h0=>absurd h0 hE')⟩) (fun hm=>⟨m,rfl,rfl,ij hc hM ⟨hP,hR2⟩ (fun h0=>⟨hm,hm2⟩)⟩)⟩
  clear hP hR hR2 hc hM hnl hE
  rintro o411 o412 l413 l414 o415 l416 l417 o418 l419 l420 x421 x422 ⟨c,rfl,rfl,M,E,nms,prs,cs,ps,rfl,rfl,rfl,rfl,rfl,hc,hM,rfl,rfl,rfl,rfl,rfl,hP,hR⟩
  refine⟨fun o1 o2 l1 l2 o3 l3 l4 o4 l5 l6 x y=>x=ii k/\y=ii c/\C0 sy (fun a b d e=>P4 sy a b d e/\R1 sy a b d e) (fun a b cs e=>0<=c/\∃ch,cs[c.toNat]?=some ch/\ch.rule.length=0) o1 o2 l1 l2 o3 l3 l4 o4 l5 l6,?_,?_⟩
  ·by_cases hE:E=0
   ·obtain⟨hc0,hcn⟩:=hR hE
    have hcl:c.toNat < cs.length:=by rw [←hP.1.1];omega
    have hch:cs[c.toNat]?=some cs[c.toNat]:=List.getElem?_eq_getElem hcl
    generalize cs[c.toNat]=ch at hch
    have hln:PW (cs.map dy) c.toNat 5=some (ii (ch.rule.map qy).length):=by
     unfold PW;rw [S9 hch]
    refine⟨_,rfl,.b true,Y2 hE,rfl,ax rfl rfl ⟨rfl,c.toNat,fun _=>PZ hc0 (by rw [List.length_map];exact hcl),rfl,rfl,_,fun _=>S_ hch,rfl,ax rfl hln (ax rfl rfl ⟨_,rfl,aa (fun _=>r_ M E 7 (by decide) (fun E' hE'=>⟨rfl,rfl,ij hc hM hP (fun h0=>absurd h0 hE')⟩)) (fun h=>⟨rfl,rfl,ij hc hM hP (fun _=>⟨hc0,ch,hch,?_⟩)⟩)⟩)⟩⟩
    rw [List.length_map,lS,decide_eq_false_iff_not] at h
    omega
   ·exact⟨_,rfl,.b false,Y3 hE,rfl,bu rfl ⟨rfl,0,(fun h=>by cases h),rfl,rfl,qv,(fun h=>by cases h),rfl,bu rfl (bu rfl ⟨_,rfl,bp rfl ⟨rfl,rfl,ij hc hM hP (fun h0=>absurd h0 hE)⟩⟩)⟩⟩
  clear hP hR hc hM
  rintro o446 o447 l448 l449 o450 l451 l452 o453 l454 l455 x456 x457 ⟨rfl,rfl,M,E,nms,prs,cs,ps,rfl,rfl,rfl,rfl,rfl,hc,hM,rfl,rfl,rfl,rfl,rfl,hP,hR⟩
  refine⟨_,rfl,_,rfl,aa (fun h=>?_) (fun h=>?_)⟩
  ·exact JY sy hz (Q:=fun r=>∃(p:Pg) (e:Int),r=.tp [oZ p,ii e]/\(e=0->Gb p)) hQ (ij hc hM (hP.1.PF hz) (fun _=>trivial))
  ·have hE:E=0:=by
    have h':(!mh E 0)=false:=h
    rw [cz] at h'
    simpa using h'
   obtain⟨hc0,ch,hch,hrn⟩:=hR hE
   have hcc:ii c=ii (c.toNat:Int):=by rw [Int.toNat_of_nonneg hc0]
   exact Nk sy hz k c.toNat hkl hok (ij hc hM ⟨hP.1,hP.2,ch,hch,hrn⟩ (fun _=>trivial)) rfl hcc (fun o1 o2 l1 l2 o3 l3 l4 o4 l5 l6 hs=>⟨_,by omega,k+1,by omega,rfl,rfl,hs⟩)
 ·exact JY sy hz (Q:=fun r=>∃(p:Pg) (e:Int),r=.tp [oZ p,ii e]/\(e=0->Gb p)) hQ (ij hc hM (hP.PF hz) (fun _=>trivial))
end Go.Ax.eo
