/- Part 10 of the proof: LrFc, LrFd, LrFe, LrFg, LrFh, LrFi, LrFr, LrFs, LrFu, LrFv, LrFw, LrFx, LrFy, LrFz, LrGa, LrGb, LrGc. -/
import Derived.Test.YtamgnhdbeecapaaCr7
import Derived.Test.YtamgnhdbeecapaaCr9

set_option linter.unusedSimpArgs false
set_option linter.unusedVariables false
set_option maxRecDepth 100000
namespace Go.Ax.TryLr
open Go Go.Ax Go.Ax.V Go.Ax.Ft
theorem s81 (n lo hi:Int):VS prog 81 [ii n,ii lo,ii hi] (fun r=>r=.b (within n lo hi)):=by
 refine vs81 _ _ _ _ ?_
 unfold W81
 refine ⟨_,geq_i _ _,?_⟩
 refine gB _ (fun h=>by rfl) ?_
 refine gB _ (fun h=>by rfl) ?_
 refine gB _ (fun h=>by rw [h];exact leq_i _ _) (pkB ⟨trivial,trivial,?_⟩)
 rw [ltA_d,ltA_d,notlt,notlt]
 rfl
theorem isEmpty_d {α:Type} (l:List α):decide ((l.length:Int)=0)=l.isEmpty:=by cases l <;> simp <;> omega
theorem encEs_len (l:List Ex):(encEs l).length=l.length:=by rw [encEs_map,List.length_map]
theorem encSs_len (l:List Sm):(encSs l).length=l.length:=by rw [encSs_map,List.length_map]
theorem encAs_len (l:List Ar):(encAs l).length=l.length:=by rw [encAs_map,List.length_map]
theorem s141 (e:Ex):VS prog 141 [encE e] (fun r=>r=.b (noE e)):=by
 cases e with
 |mk k n v ks=>
 refine vs141 _ _ ?_
 unfold W141
 (repeat (first | refine ⟨rfl,?_⟩ | refine ⟨_,sub_o,?_⟩ | refine ⟨_,add_o,?_⟩ | refine ⟨_,rfl,?_⟩ | refine ⟨_,not_t _,?_⟩ | refine ⟨_,⟨rfl,rfl⟩,?_⟩ | refine gFf ?_ | refine gOt ?_ | refine pkF ?_ | refine pkT ?_ | refine pkB ?_ | refine pkO ?_ | refine gBa ?_ | refine gOa ?_))
 refine ⟨trivial,trivial,?_⟩
 simp only [eqA_d,encEs_len,isEmpty_d]
 rfl
theorem s142 (c:Co):VS prog 142 [encC c] (fun r=>r=.b (noC c)):=by
 obtain ⟨op,l,r⟩:=c
 have hl:=s141 l
 have hr:=s141 r
 obtain ⟨k1,n1,v1,ks1⟩:=l
 obtain ⟨k2,n2,v2,ks2⟩:=r
 refine vs142 _ _ ?_
 unfold W142
 (repeat (first | refine ⟨rfl,?_⟩ | refine ⟨_,sub_o,?_⟩ | refine ⟨_,add_o,?_⟩ | refine ⟨_,rfl,?_⟩ | refine ⟨_,not_t _,?_⟩ | refine ⟨_,⟨rfl,rfl⟩,?_⟩ | refine gFf ?_ | refine gOt ?_ | refine pkF ?_ | refine pkT ?_ | refine pkB ?_ | refine pkO ?_ | refine vs_eq hl ?_ | refine vs_eq hr ?_ | refine gBa ?_ | refine gB _ (fun h=>by first | exact vs_g hl | (rw [h];exact vs_g hl)) ?_ | refine gB _ (fun h=>by first | exact vs_g hr | (rw [h];exact vs_g hr)) ?_ | refine gOa ?_ | refine gO _ (fun h=>by first | exact vs_g hl | (rw [h];exact vs_g hl)) ?_ | refine gO _ (fun h=>by first | exact vs_g hr | (rw [h];exact vs_g hr)) ?_))
 refine ⟨trivial,trivial,?_⟩
 simp only [eqA_d]
 rfl
theorem s166 (k:Int):VS prog 166 [ii k] (fun r=>r=ii (kidsN k)):=by
 refine vs166 _ _ ?_
 unfold W166
 (repeat (first | refine ⟨rfl,?_⟩ | refine ⟨_,sub_o,?_⟩ | refine ⟨_,add_o,?_⟩ | refine ⟨_,rfl,?_⟩ | refine ⟨_,not_t _,?_⟩ | refine ⟨_,⟨rfl,rfl⟩,?_⟩ | refine gFf ?_ | refine gOt ?_ | refine pkF ?_ | refine pkT ?_ | refine pkB ?_ | refine pkO ?_ | refine gBa ?_ | refine gOa ?_))
 refine condK_by (fun h=>?_) (fun h=>?_)
 ·refine ⟨trivial,trivial,?_⟩
  simp only [eqA_d,Bool.or_eq_true,decide_eq_true_eq] at h
  simp [kidsN,h]
 simp only [eqA_d,Bool.or_eq_false_iff,decide_eq_false_iff_not] at h
 (repeat (first | refine ⟨rfl,?_⟩ | refine ⟨_,sub_o,?_⟩ | refine ⟨_,add_o,?_⟩ | refine ⟨_,rfl,?_⟩ | refine ⟨_,not_t _,?_⟩ | refine ⟨_,⟨rfl,rfl⟩,?_⟩ | refine gFf ?_ | refine gOt ?_ | refine pkF ?_ | refine pkT ?_ | refine pkB ?_ | refine pkO ?_ | refine gBa ?_ | refine gOa ?_))
 refine condK_by (fun h2=>?_) (fun h2=>?_)
 ·refine ⟨trivial,trivial,?_⟩
  simp only [eqA_d,decide_eq_true_eq] at h2
  simp [kidsN,h,h2]
 simp only [eqA_d,decide_eq_false_iff_not] at h2
 (repeat (first | refine ⟨rfl,?_⟩ | refine ⟨_,sub_o,?_⟩ | refine ⟨_,add_o,?_⟩ | refine ⟨_,rfl,?_⟩ | refine ⟨_,not_t _,?_⟩ | refine ⟨_,⟨rfl,rfl⟩,?_⟩ | refine gFf ?_ | refine gOt ?_ | refine pkF ?_ | refine pkT ?_ | refine pkB ?_ | refine pkO ?_ | refine vs_eq (s81 _ _ _) ?_ | refine gBa ?_ | refine gB _ (fun h=>by first | exact vs_g (s81 _ _ _) | (rw [h];exact vs_g (s81 _ _ _))) ?_ | refine gOa ?_ | refine gO _ (fun h=>by first | exact vs_g (s81 _ _ _) | (rw [h];exact vs_g (s81 _ _ _))) ?_))
 refine condK_by (fun h3=>?_) (fun h3=>?_)
 ·refine ⟨trivial,trivial,?_⟩
  simp only [within,Bool.and_eq_true,decide_eq_true_eq] at h3
  simp [kidsN,h,h2,h3]
 ·refine ⟨trivial,trivial,?_⟩
  have h4:¬(4≤k∧k≤8):=by
   intro hc
   simp [within,hc.1,hc.2] at h3
  simp [kidsN,h,h2,h4]
theorem s143 (vars:Int) (hv:0≤vars∧vars≤6):∀(e:Ex),szE e≤4194304→VS prog 143 [encE e,ii vars] (fun r=>r=.b (okE vars e))
 |.mk k n v ks,hB=>by
  have hks:szEs ks≤4194304:=by simp only [szE] at hB;omega
  have hk:=Nat.le_trans (szEs_len ks) hks
  have ih:∀e∈ks,VS prog 143 [encE e,ii vars] (fun r=>r=.b (okE vars e)):=fun e he=>s143 vars hv e (Nat.le_trans (szEs_mem he) hks)
  refine vs143 _ _ _ ?_
  unfold W143
  (repeat (first | refine ⟨rfl,?_⟩ | refine ⟨_,sub_o,?_⟩ | refine ⟨_,add_o,?_⟩ | refine ⟨_,rfl,?_⟩ | refine ⟨_,not_t _,?_⟩ | refine ⟨_,⟨rfl,rfl⟩,?_⟩ | refine gFf ?_ | refine gOt ?_ | refine pkF ?_ | refine pkT ?_ | refine pkB ?_ | refine pkO ?_ | refine vs_eq (s166 _) ?_ | refine gBa ?_ | refine gB _ (fun h=>by first | exact vs_g (s166 _) | (rw [h];exact vs_g (s166 _))) ?_ | refine gOa ?_ | refine gO _ (fun h=>by first | exact vs_g (s166 _) | (rw [h];exact vs_g (s166 _))) ?_))
  refine condK_by (fun h=>?_) (fun h=>?_)
  ·refine ⟨trivial,trivial,?_⟩
   simp only [eqA_d,encEs_len,Bool.not_eq_true',decide_eq_false_iff_not] at h
   have h':¬kidsN k=ks.length:=fun hc=>h hc.symm
   simp [okE,h']
  simp only [eqA_d,encEs_len,Bool.not_eq_false',decide_eq_true_eq] at h
  (repeat (first | refine ⟨rfl,?_⟩ | refine ⟨_,sub_o,?_⟩ | refine ⟨_,add_o,?_⟩ | refine ⟨_,rfl,?_⟩ | refine ⟨_,not_t _,?_⟩ | refine ⟨_,⟨rfl,rfl⟩,?_⟩ | refine gFf ?_ | refine gOt ?_ | refine pkF ?_ | refine pkT ?_ | refine pkB ?_ | refine pkO ?_ | refine vs_eq (s81 _ _ _) ?_ | refine gBa ?_ | refine gB _ (fun h=>by first | exact vs_g (s81 _ _ _) | (rw [h];exact vs_g (s81 _ _ _))) ?_ | refine gOa ?_ | refine gO _ (fun h=>by first | exact vs_g (s81 _ _ _) | (rw [h];exact vs_g (s81 _ _ _))) ?_ | refine gOBa ?_ | refine gOB _ (fun h h'=>by rw [h,h'];exact vs_g (s81 _ _ _)) ?_ | refine gOOa ?_ | refine gOO _ (fun h h'=>by rw [h,h'];exact vs_g (s81 _ _ _)) ?_ | refine gBBa ?_ | refine gBB _ (fun h h'=>by rw [h,h'];exact vs_g (s81 _ _ _)) ?_ | refine gBOa ?_ | refine gBO _ (fun h h'=>by rw [h,h'];exact vs_g (s81 _ _ _)) ?_))
  refine condK_by (fun h2=>?_) (fun h2=>?_)
  ·refine ⟨trivial,trivial,?_⟩
   congr 1
   simp only [eqA_d,within,Bool.or_eq_true,Bool.and_eq_true,Bool.not_eq_true',decide_eq_true_eq,decide_eq_false_iff_not,Bool.and_eq_false_iff] at h2
   unfold okE
   symm
   simp only [within,Bool.and_eq_false_iff,Bool.or_eq_false_iff,decide_eq_false_iff_not,Bool.not_eq_false',decide_eq_true_eq]
   omega
  (repeat (first | refine ⟨rfl,?_⟩ | refine ⟨_,sub_o,?_⟩ | refine ⟨_,add_o,?_⟩ | refine ⟨_,rfl,?_⟩ | refine ⟨_,not_t _,?_⟩ | refine ⟨_,⟨rfl,rfl⟩,?_⟩ | refine gFf ?_ | refine gOt ?_ | refine pkF ?_ | refine pkT ?_ | refine pkB ?_ | refine pkO ?_ | refine gBa ?_ | refine gOa ?_))
  refine ⟨fun m o x34 x36 x37 x38=>∃i:Nat,i≤ks.length∧m=ks.length - i∧o=encE (.mk k n v ks)∧x34=ii vars∧x36=.l (encEs ks)∧x37=ii ks.length∧x38=ii i∧(ks.take i).all (okE vars)=true,
   ⟨_,0,by omega,rfl,rfl,rfl,rfl,by rw [encEs_len],rfl,rfl⟩,?_⟩
  rintro m o x34 x36 x37 x38 ⟨i,hi,rfl,rfl,rfl,rfl,rfl,rfl,hall⟩
  refine ⟨_,rfl,condK_by (fun h3=>?_) (fun h3=>?_)⟩
  ·replace h3:=lt_len h3
   obtain ⟨x,hx⟩:∃x,ks[i]?=some x:=⟨_,List.getElem?_eq_getElem h3⟩
   have hx':(encEs ks)[i]?=some (encE x):=by rw [encEs_map,List.getElem?_map,hx];rfl
   refine ⟨_,⟨idx_i hx',encE_sz x⟩,?_⟩
   have hih:=ih x (List.mem_of_getElem? hx)
   obtain ⟨k',n',v',ks'⟩:=x
   (repeat (first | refine ⟨rfl,?_⟩ | refine ⟨_,sub_o,?_⟩ | refine ⟨_,add_o,?_⟩ | refine ⟨_,rfl,?_⟩ | refine ⟨_,not_t _,?_⟩ | refine ⟨_,⟨rfl,rfl⟩,?_⟩ | refine gFf ?_ | refine gOt ?_ | refine pkF ?_ | refine pkT ?_ | refine pkB ?_ | refine pkO ?_ | refine vs_eq hih ?_ | refine gBa ?_ | refine gB _ (fun h=>by first | exact vs_g hih | (rw [h];exact vs_g hih)) ?_ | refine gOa ?_ | refine gO _ (fun h=>by first | exact vs_g hih | (rw [h];exact vs_g hih)) ?_))
   refine condK_by (fun h4=>?_) (fun h4=>?_)
   ·refine ⟨trivial,trivial,?_⟩
    have:=not_all (f:=okE vars) hx (by simpa using h4)
    rw [okE,okEs_all,this];simp
   ·refine ⟨_,next_i h3 (by omega),_,by omega,i + 1,by omega,rfl,rfl,rfl,rfl,rfl,rfl,take_all hx hall (by simpa using h4)⟩
  ·obtain rfl:=ge_len hi h3
   rw [List.take_length] at hall
   (repeat (first | refine ⟨rfl,?_⟩ | refine ⟨_,sub_o,?_⟩ | refine ⟨_,add_o,?_⟩ | refine ⟨_,rfl,?_⟩ | refine ⟨_,not_t _,?_⟩ | refine ⟨_,⟨rfl,rfl⟩,?_⟩ | refine gFf ?_ | refine gOt ?_ | refine pkF ?_ | refine pkT ?_ | refine pkB ?_ | refine pkO ?_ | refine vs_eq (s81 _ _ _) ?_ | refine gBa ?_ | refine gB _ (fun h=>by first | exact vs_g (s81 _ _ _) | (rw [h];exact vs_g (s81 _ _ _))) ?_ | refine gOa ?_ | refine gO _ (fun h=>by first | exact vs_g (s81 _ _ _) | (rw [h];exact vs_g (s81 _ _ _))) ?_ | refine gOBa ?_ | refine gOB _ (fun h h'=>by rw [h,h'];exact vs_g (s81 _ _ _)) ?_ | refine gOOa ?_ | refine gOO _ (fun h h'=>by rw [h,h'];exact vs_g (s81 _ _ _)) ?_ | refine gBBa ?_ | refine gBB _ (fun h h'=>by rw [h,h'];exact vs_g (s81 _ _ _)) ?_ | refine gBOa ?_ | refine gBO _ (fun h h'=>by rw [h,h'];exact vs_g (s81 _ _ _)) ?_))
   refine ⟨trivial,trivial,?_⟩
   congr 1
   rw [okE,okEs_all,hall,h]
   simp only [eqA_d,Bool.or_eq_false_iff,Bool.and_eq_false_iff,Bool.not_eq_false',decide_eq_true_eq,decide_eq_false_iff_not,Bool.not_eq_true'] at h2
   obtain ⟨⟨h5,h6⟩,h7⟩:=h2
   simp [h5,h6,h7]
theorem s144 (vars:Int) (hv:0≤vars∧vars≤6) (c:Co) (hB:szC c≤4194304):VS prog 144 [encC c,ii vars] (fun r=>r=.b (okC vars c)):=by
 obtain ⟨op,l,r⟩:=c
 simp only [szC] at hB
 have hl:=s143 vars hv l (by omega)
 have hr:=s143 vars hv r (by omega)
 obtain ⟨k1,n1,v1,ks1⟩:=l
 obtain ⟨k2,n2,v2,ks2⟩:=r
 refine vs144 _ _ _ ?_
 unfold W144
 (repeat (first | refine ⟨rfl,?_⟩ | refine ⟨_,sub_o,?_⟩ | refine ⟨_,add_o,?_⟩ | refine ⟨_,rfl,?_⟩ | refine ⟨_,not_t _,?_⟩ | refine ⟨_,⟨rfl,rfl⟩,?_⟩ | refine gFf ?_ | refine gOt ?_ | refine pkF ?_ | refine pkT ?_ | refine pkB ?_ | refine pkO ?_ | refine vs_eq (s81 _ _ _) ?_ | refine vs_eq hl ?_ | refine vs_eq hr ?_ | refine gBa ?_ | refine gB _ (fun h=>by first | exact vs_g (s81 _ _ _) | (rw [h];exact vs_g (s81 _ _ _))) ?_ | refine gB _ (fun h=>by first | exact vs_g hl | (rw [h];exact vs_g hl)) ?_ | refine gB _ (fun h=>by first | exact vs_g hr | (rw [h];exact vs_g hr)) ?_ | refine gOa ?_ | refine gO _ (fun h=>by first | exact vs_g (s81 _ _ _) | (rw [h];exact vs_g (s81 _ _ _))) ?_ | refine gO _ (fun h=>by first | exact vs_g hl | (rw [h];exact vs_g hl)) ?_ | refine gO _ (fun h=>by first | exact vs_g hr | (rw [h];exact vs_g hr)) ?_))
 exact ⟨trivial,trivial,rfl⟩
theorem mx1 (a b:Int):(bif ltA a b then b else a)=max a b:=by
 rw [ltA_d,Int.max_def]
 by_cases h:a < b
 ·simp [h];omega
 ·simp [h];omega
theorem mx3 (a b c:Int):mnxT true [ii a,ii b,ii c]=some (ii (max (max a b) c)):=by
 show some (ii (bif ltA (bif ltA a b then b else a) c then c else (bif ltA a b then b else a)))=_
 rw [mx1,mx1]
theorem drop_cons {α:Type} {l:List α} {i:Nat} {x:α} (h:l[i]?=some x):l.drop i=x :: l.drop (i + 1):=by
 obtain ⟨h1,h2⟩:=List.getElem?_eq_some_iff.1 h
 rw [←h2];exact List.drop_eq_getElem_cons h1
theorem s104 (c:Ch) (hl:c.rule.length≤4194304) (hr:∀r∈c.rule,r.length≤4194304):VS prog 104 [encCh c] (fun r=>r=.b (ruled c)):=by
 refine vs104 _ _ ?_
 unfold W104
 (repeat (first | refine ⟨rfl,?_⟩ | refine ⟨_,sub_o,?_⟩ | refine ⟨_,add_o,?_⟩ | refine ⟨_,rfl,?_⟩ | refine ⟨_,not_t _,?_⟩ | refine ⟨_,⟨rfl,rfl⟩,?_⟩ | refine gFf ?_ | refine gOt ?_ | refine pkF ?_ | refine pkT ?_ | refine pkB ?_ | refine pkO ?_ | refine gBa ?_ | refine gOa ?_))
 refine ⟨fun m o x8 x9 x10 x11=>∃(i:Nat) (T:Int),i≤c.rule.length∧m=c.rule.length - i∧o=encCh c∧x8=ii T∧x9=.l (c.rule.map encR)∧x10=ii c.rule.length∧x11=ii i∧
   topRs c.rule.length c.tags 0 c.rule 0=topRs c.rule.length c.tags i (c.rule.drop i) T,⟨_,0,0,by omega,rfl,rfl,rfl,rfl,by rw [List.length_map],rfl,rfl⟩,?_⟩
 rintro m o x8 x9 x10 x11 ⟨i,T,hi,rfl,rfl,rfl,rfl,rfl,rfl,htop⟩
 refine ⟨_,rfl,condK_by (fun h3=>?_) (fun h3=>?_)⟩
 ·replace h3:=lt_len h3
  obtain ⟨row,hx⟩:∃x,c.rule[i]?=some x:=⟨_,List.getElem?_eq_getElem h3⟩
  have hrow:=hr row (List.mem_of_getElem? hx)
  have hx':(c.rule.map encR)[i]?=some (encR row):=by rw [List.getElem?_map,hx];rfl
  rw [drop_cons hx,topRs] at htop
  refine ⟨_,⟨idx_i hx',rfl⟩,?_⟩
  (repeat (first | refine ⟨rfl,?_⟩ | refine ⟨_,sub_o,?_⟩ | refine ⟨_,add_o,?_⟩ | refine ⟨_,rfl,?_⟩ | refine ⟨_,not_t _,?_⟩ | refine ⟨_,⟨rfl,rfl⟩,?_⟩ | refine gFf ?_ | refine gOt ?_ | refine pkF ?_ | refine pkT ?_ | refine pkB ?_ | refine pkO ?_ | refine gBa ?_ | refine gOa ?_))
  refine condK_by (fun h4=>?_) (fun h4=>?_)
  ·refine ⟨trivial,trivial,?_⟩
   simp only [eqA_d,Bool.not_eq_true',decide_eq_false_iff_not,List.length_map] at h4
   rw [if_neg h4] at htop
   congr 1
   unfold ruled;rw [htop]
  simp only [eqA_d,Bool.not_eq_false',decide_eq_true_eq,List.length_map] at h4
  rw [if_pos h4] at htop
  (repeat (first | refine ⟨rfl,?_⟩ | refine ⟨_,sub_o,?_⟩ | refine ⟨_,add_o,?_⟩ | refine ⟨_,rfl,?_⟩ | refine ⟨_,not_t _,?_⟩ | refine ⟨_,⟨rfl,rfl⟩,?_⟩ | refine gFf ?_ | refine gOt ?_ | refine pkF ?_ | refine pkT ?_ | refine pkB ?_ | refine pkO ?_ | refine gBa ?_ | refine gOa ?_))
  refine ⟨fun m o x24 x25 x27 x28 x29 x37 x38 x39=>∃(j:Nat) (U:Int),j≤row.length∧m=row.length - j∧o=encCh c∧x24=ii U∧x25=ii i∧x27=.l (c.rule.map encR)∧x28=ii c.rule.length∧x29=ii i∧
   x37=encR row∧x38=ii row.length∧x39=ii j∧topR c.rule.length i row T=topR c.rule.length i (row.drop j) U,⟨_,0,T,by omega,rfl,rfl,rfl,rfl,rfl,rfl,rfl,rfl,by rw [List.length_map],rfl,rfl⟩,?_⟩
  rintro m o x24 x25 x27 x28 x29 x37 x38 x39 ⟨j,U,hj,rfl,rfl,rfl,rfl,rfl,rfl,rfl,rfl,rfl,rfl,hin⟩
  refine ⟨_,rfl,condK_by (fun h5=>?_) (fun h5=>?_)⟩
  ·replace h5:=lt_len h5
   obtain ⟨x,hy⟩:∃x,row[j]?=some x:=⟨_,List.getElem?_eq_getElem h5⟩
   have hy':(row.map ii)[j]?=some (ii x):=by rw [List.getElem?_map,hy];rfl
   rw [drop_cons hy,topR] at hin
   refine ⟨_,⟨idx_i hy',rfl⟩,?_⟩
   refine ⟨_,rfl,_,rfl,_,rfl,?_⟩
   rw [List.length_map]
   refine ⟨_,sub_o,vs_eq (s81 _ _ _) ?_⟩
   (repeat (first | refine ⟨rfl,?_⟩ | refine ⟨_,sub_o,?_⟩ | refine ⟨_,add_o,?_⟩ | refine ⟨_,rfl,?_⟩ | refine ⟨_,not_t _,?_⟩ | refine ⟨_,⟨rfl,rfl⟩,?_⟩ | refine gFf ?_ | refine gOt ?_ | refine pkF ?_ | refine pkT ?_ | refine pkB ?_ | refine pkO ?_ | refine gBa ?_ | refine gOa ?_))
   refine condK_by (fun h6=>?_) (fun h6=>?_)
   ·refine ⟨trivial,trivial,?_⟩
    rw [if_neg (by simpa using h6)] at hin
    rw [hin] at htop
    congr 1
    unfold ruled;rw [htop]
   rw [if_pos (by simpa using h6)] at hin
   refine ⟨_,neq_i _ _,condK_by (fun h7=>?_) (fun h7=>?_)⟩
   ·simp only [eqA_d,Bool.not_eq_true',decide_eq_false_iff_not] at h7
    rw [if_neg h7] at hin
    exact ⟨_,mx3 _ _ _,_,next_i h5 (by omega),_,by omega,j + 1,_,by omega,rfl,rfl,rfl,rfl,rfl,rfl,rfl,rfl,rfl,rfl,hin⟩
   ·simp only [eqA_d,Bool.not_eq_false',decide_eq_true_eq] at h7
    rw [if_pos h7] at hin
    exact ⟨_,next_i h5 (by omega),_,by omega,j + 1,_,by omega,rfl,rfl,rfl,rfl,rfl,rfl,rfl,rfl,rfl,rfl,hin⟩
  ·obtain rfl:=ge_len hj h5
   rw [List.drop_length,topR] at hin
   rw [hin] at htop
   exact ⟨_,next_i h3 (by omega),_,by omega,i + 1,U,by omega,rfl,rfl,rfl,rfl,rfl,rfl,htop⟩
 ·obtain rfl:=ge_len hi h3
  rw [List.drop_length,topRs] at htop
  (repeat (first | refine ⟨rfl,?_⟩ | refine ⟨_,sub_o,?_⟩ | refine ⟨_,add_o,?_⟩ | refine ⟨_,rfl,?_⟩ | refine ⟨_,not_t _,?_⟩ | refine ⟨_,⟨rfl,rfl⟩,?_⟩ | refine gFf ?_ | refine gOt ?_ | refine pkF ?_ | refine pkT ?_ | refine pkB ?_ | refine pkO ?_ | refine gBa ?_ | refine gOa ?_ | refine gOBa ?_ | refine gOOa ?_ | refine gBBa ?_ | refine gBOa ?_))
  refine ⟨trivial,trivial,?_⟩
  congr 1
  unfold ruled
  rw [htop]
  simp only [List.length_map,ltA_d,eqA_d,notlt,isEmpty_d]
  rw [wrap_id (by omega) (by omega)]
theorem s82 (c:Ch) (procs:Int) (hp:0≤procs∧procs≤4194304) (hl:c.rule.length≤4194304) (hr:∀r∈c.rule,r.length≤4194304):VS prog 82 [encCh c,ii procs] (fun r=>r=.b (okCh procs c)):=by
 have h104:=s104 c hl hr
 refine vs82 _ _ _ ?_
 unfold W82
 (repeat (first | refine ⟨rfl,?_⟩ | refine ⟨_,sub_o,?_⟩ | refine ⟨_,add_o,?_⟩ | refine ⟨_,rfl,?_⟩ | refine ⟨_,not_t _,?_⟩ | refine ⟨_,⟨rfl,rfl⟩,?_⟩ | refine gFf ?_ | refine gOt ?_ | refine pkF ?_ | refine pkT ?_ | refine pkB ?_ | refine pkO ?_ | refine vs_eq (s81 _ _ _) ?_ | refine vs_eq h104 ?_ | refine gBa ?_ | refine gB _ (fun h=>by first | exact vs_g (s81 _ _ _) | (rw [h];exact vs_g (s81 _ _ _))) ?_ | refine gB _ (fun h=>by first | exact vs_g h104 | (rw [h];exact vs_g h104)) ?_ | refine gOa ?_ | refine gO _ (fun h=>by first | exact vs_g (s81 _ _ _) | (rw [h];exact vs_g (s81 _ _ _))) ?_ | refine gO _ (fun h=>by first | exact vs_g h104 | (rw [h];exact vs_g h104)) ?_))
 refine ⟨trivial,trivial,?_⟩
 simp only [eqA_d]
 rfl
theorem s146 (c:Ch):VS prog 146 [encCh c] (fun r=>r=ii c.src):=by
 refine vs146 _ _ ?_
 unfold W146
 (repeat (first | refine ⟨rfl,?_⟩ | refine ⟨_,sub_o,?_⟩ | refine ⟨_,add_o,?_⟩ | refine ⟨_,rfl,?_⟩ | refine ⟨_,not_t _,?_⟩ | refine ⟨_,⟨rfl,rfl⟩,?_⟩ | refine gFf ?_ | refine gOt ?_ | refine pkF ?_ | refine pkT ?_ | refine pkB ?_ | refine pkO ?_ | refine gBa ?_ | refine gOa ?_))
 exact ⟨trivial,trivial,rfl⟩
theorem s148 (c:Ch):VS prog 148 [encCh c] (fun r=>r=ii c.dst):=by
 refine vs148 _ _ ?_
 unfold W148
 (repeat (first | refine ⟨rfl,?_⟩ | refine ⟨_,sub_o,?_⟩ | refine ⟨_,add_o,?_⟩ | refine ⟨_,rfl,?_⟩ | refine ⟨_,not_t _,?_⟩ | refine ⟨_,⟨rfl,rfl⟩,?_⟩ | refine gFf ?_ | refine gOt ?_ | refine pkF ?_ | refine pkT ?_ | refine pkB ?_ | refine pkO ?_ | refine gBa ?_ | refine gOa ?_))
 exact ⟨trivial,trivial,rfl⟩
def encLk (p:Pg) (proc vars:Int):TV:=.a [.l (p.chans.map encCh),.l (p.procs.map encPr),ii proc,ii vars]
theorem end_in {chans:List Ch} {proc c:Int} {dst:Bool} (h:within c 0 (chans.length - 1)=true):∃(k:Nat) (x:Ch),c=k∧chans[k]?=some x∧endB chans proc dst c=decide ((bif dst then x.dst else x.src)=proc):=by
 simp only [within,Bool.and_eq_true,decide_eq_true_eq] at h
 obtain ⟨k,rfl⟩:=Int.eq_ofNat_of_zero_le h.1
 have hk:k < chans.length:=by omega
 refine ⟨k,chans[k],rfl,List.getElem?_eq_getElem hk,?_⟩
 show (match chans[k]? with | some x=>_ | none=>false)=_
 rw [List.getElem?_eq_getElem hk]
theorem end_out {chans:List Ch} {proc c:Int} {dst:Bool} (h:within c 0 (chans.length - 1)=false):endB chans proc dst c=false:=by
 unfold endB
 split
 ·rename_i k
  split
  ·rename_i x hx
   have:=(List.getElem?_eq_some_iff.1 hx).1
   simp [within] at h;omega
  ·rfl
 ·rfl
theorem s145 (p:Pg) (proc vars c:Int) (dst:Bool) (hl:p.chans.length≤4194304):VS prog 145 [encLk p proc vars,ii c,.f (bif dst then 148 else 146)] (fun r=>r=.b (endB p.chans proc dst c)):=by
 have hend:∀x,VS prog (bif dst then 148 else 146) [encCh x] (fun r=>r=ii (bif dst then x.dst else x.src)):=by
  cases dst
  ·exact s146
  ·exact s148
 refine vs145 _ _ _ _ ?_
 unfold W145
 have hl':(p.chans.map encCh).length≤4194304:=by rw [List.length_map];exact hl
 (repeat (first | refine ⟨rfl,?_⟩ | refine ⟨_,sub_o,?_⟩ | refine ⟨_,add_o,?_⟩ | refine ⟨_,rfl,?_⟩ | refine ⟨_,not_t _,?_⟩ | refine ⟨_,⟨rfl,rfl⟩,?_⟩ | refine gFf ?_ | refine gOt ?_ | refine pkF ?_ | refine pkT ?_ | refine pkB ?_ | refine pkO ?_ | refine gBa ?_ | refine gOa ?_))
 rw [List.length_map]
 refine vs_eq (s81 _ _ _) ?_
 cases hw:within c 0 (p.chans.length - 1) with
 |false=>
  (repeat (first | refine ⟨rfl,?_⟩ | refine ⟨_,sub_o,?_⟩ | refine ⟨_,add_o,?_⟩ | refine ⟨_,rfl,?_⟩ | refine ⟨_,not_t _,?_⟩ | refine ⟨_,⟨rfl,rfl⟩,?_⟩ | refine gFf ?_ | refine gOt ?_ | refine pkF ?_ | refine pkT ?_ | refine pkB ?_ | refine pkO ?_ | refine gBa ?_ | refine gOa ?_))
  refine ⟨0,fun h=>(by cases h),?_⟩
  (repeat (first | refine ⟨rfl,?_⟩ | refine ⟨_,sub_o,?_⟩ | refine ⟨_,add_o,?_⟩ | refine ⟨_,rfl,?_⟩ | refine ⟨_,not_t _,?_⟩ | refine ⟨_,⟨rfl,rfl⟩,?_⟩ | refine gFf ?_ | refine gOt ?_ | refine pkF ?_ | refine pkT ?_ | refine pkB ?_ | refine pkO ?_ | refine gBa ?_ | refine gOa ?_))
  refine ⟨trivial,trivial,?_⟩
  rw [end_out hw]
 |true=>
  obtain ⟨k,x,rfl,hx,he⟩:=end_in (proc:=proc) (dst:=dst) hw
  have hx':(p.chans.map encCh)[k]?=some (encCh x):=by rw [List.getElem?_map,hx];rfl
  (repeat (first | refine ⟨rfl,?_⟩ | refine ⟨_,sub_o,?_⟩ | refine ⟨_,add_o,?_⟩ | refine ⟨_,rfl,?_⟩ | refine ⟨_,not_t _,?_⟩ | refine ⟨_,⟨rfl,rfl⟩,?_⟩ | refine gFf ?_ | refine gOt ?_ | refine pkF ?_ | refine pkT ?_ | refine pkB ?_ | refine pkO ?_ | refine gBa ?_ | refine gOa ?_))
  refine gB _ (fun _=>⟨idx_i hx',encCh_sz x⟩) ?_
  (repeat (first | refine ⟨rfl,?_⟩ | refine ⟨_,sub_o,?_⟩ | refine ⟨_,add_o,?_⟩ | refine ⟨_,rfl,?_⟩ | refine ⟨_,not_t _,?_⟩ | refine ⟨_,⟨rfl,rfl⟩,?_⟩ | refine gFf ?_ | refine gOt ?_ | refine pkF ?_ | refine pkT ?_ | refine pkB ?_ | refine pkO ?_ | refine gBa ?_ | refine gOa ?_))
  refine ⟨_,fun _=>rfl,gB _ (fun _=>vs_g (hend x)) ?_⟩
  (repeat (first | refine ⟨rfl,?_⟩ | refine ⟨_,sub_o,?_⟩ | refine ⟨_,add_o,?_⟩ | refine ⟨_,rfl,?_⟩ | refine ⟨_,not_t _,?_⟩ | refine ⟨_,⟨rfl,rfl⟩,?_⟩ | refine gFf ?_ | refine gOt ?_ | refine pkF ?_ | refine pkT ?_ | refine pkB ?_ | refine pkO ?_ | refine gBa ?_ | refine gOa ?_))
  refine ⟨trivial,trivial,?_⟩
  rw [he,eqA_d]
theorem s147 (p:Pg) (proc vars tag:Int) {k:Nat} {x:Ch} (hx:p.chans[k]?=some x) (ht:1≤x.tags∧x.tags≤4):VS prog 147 [encLk p proc vars,ii k,ii tag] (fun r=>r=.b (tagB p.chans k tag)):=by
 have hx':(p.chans.map encCh)[k]?=some (encCh x):=by rw [List.getElem?_map,hx];rfl
 refine vs147 _ _ _ _ ?_
 unfold W147
 refine ⟨rfl,_,rfl,_,⟨idx_i hx',encCh_sz x⟩,?_⟩
 (repeat (first | refine ⟨rfl,?_⟩ | refine ⟨_,sub_o,?_⟩ | refine ⟨_,add_o,?_⟩ | refine ⟨_,rfl,?_⟩ | refine ⟨_,not_t _,?_⟩ | refine ⟨_,⟨rfl,rfl⟩,?_⟩ | refine gFf ?_ | refine gOt ?_ | refine pkF ?_ | refine pkT ?_ | refine pkB ?_ | refine pkO ?_ | refine vs_eq (s81 _ _ _) ?_ | refine gBa ?_ | refine gB _ (fun h=>by first | exact vs_g (s81 _ _ _) | (rw [h];exact vs_g (s81 _ _ _))) ?_ | refine gOa ?_ | refine gO _ (fun h=>by first | exact vs_g (s81 _ _ _) | (rw [h];exact vs_g (s81 _ _ _))) ?_))
 refine ⟨trivial,trivial,?_⟩
 show _=TV.b (match p.chans[(k:Int).toNat]? with | some x=>within tag 0 (x.tags - 1) | none=>false)
 rw [Int.toNat_natCast,hx]
def hadT (had:List Int):TV:=.a [.b (had.contains 0),.b (had.contains 1),.b (had.contains 2),.b (had.contains 3)]
theorem s149 (p:Pg) (proc vars:Int) (hv:0≤vars∧vars≤6) {k:Nat} {x:Ch} (hx:p.chans[k]?=some x) (ht:1≤x.tags∧x.tags≤4) (l:List Ar) (hl:l.length≤4194304)
  (ih:∀tag var body,Ar.mk tag var body∈l→VS prog 83 [encLk p proc vars,.l (encSs body)] (fun r=>r=.b (okSs p.chans proc vars body))) :
  VS prog 149 [encLk p proc vars,ii k,.l (encAs l)] (fun r=>r=.b (okAs p.chans proc vars k [] l&&!l.isEmpty)):=by
 refine vs149 _ _ _ _ ?_
 unfold W149
 (repeat (first | refine ⟨rfl,?_⟩ | refine ⟨_,sub_o,?_⟩ | refine ⟨_,add_o,?_⟩ | refine ⟨_,rfl,?_⟩ | refine ⟨_,not_t _,?_⟩ | refine ⟨_,⟨rfl,rfl⟩,?_⟩ | refine gFf ?_ | refine gOt ?_ | refine pkF ?_ | refine pkT ?_ | refine pkB ?_ | refine pkO ?_ | refine gBa ?_ | refine gOa ?_))
 refine ⟨fun m o5 o6 x7 x8 x10 x11 x12=>∃(i:Nat) (had:List Int),i≤l.length∧m=l.length - i∧o5=encLk p proc vars∧o6=hadT had∧x7=ii k∧x8=.l (encAs l)∧x10=.l (encAs l)∧x11=ii l.length∧x12=ii i∧
   okAs p.chans proc vars k [] l=okAs p.chans proc vars k had (l.drop i),⟨_,0,[],by omega,rfl,rfl,rfl,rfl,rfl,rfl,by rw [encAs_len],rfl,rfl⟩,?_⟩
 rintro m o5 o6 x7 x8 x10 x11 x12 ⟨i,had,hi,rfl,rfl,rfl,rfl,rfl,rfl,rfl,rfl,hok⟩
 refine ⟨_,rfl,condK_by (fun h3=>?_) (fun h3=>?_)⟩
 ·replace h3:=lt_len h3
  obtain ⟨y,hy⟩:∃x,l[i]?=some x:=⟨_,List.getElem?_eq_getElem h3⟩
  have hy':(encAs l)[i]?=some (encA y):=by rw [encAs_map,List.getElem?_map,hy];rfl
  rw [drop_cons hy] at hok
  obtain ⟨tag,var,body⟩:=y
  have hb:=ih tag var body (List.mem_of_getElem? hy)
  rw [okAs] at hok
  refine ⟨_,⟨idx_i hy',rfl⟩,?_⟩
  have h147:=s147 p proc vars tag hx ht
  cases htag:tagB p.chans k tag with
  |false=>
   rw [htag] at h147 hok
   (repeat (first | refine ⟨rfl,?_⟩ | refine ⟨_,sub_o,?_⟩ | refine ⟨_,add_o,?_⟩ | refine ⟨_,rfl,?_⟩ | refine ⟨_,not_t _,?_⟩ | refine ⟨_,⟨rfl,rfl⟩,?_⟩ | refine gFf ?_ | refine gOt ?_ | refine pkF ?_ | refine pkT ?_ | refine pkB ?_ | refine pkO ?_ | refine vs_eq h147 ?_ | refine gBa ?_ | refine gB _ (fun h=>by first | exact vs_g h147 | (rw [h];exact vs_g h147)) ?_ | refine gOa ?_ | refine gO _ (fun h=>by first | exact vs_g h147 | (rw [h];exact vs_g h147)) ?_))
   refine ⟨0,fun h=>(by cases h),?_⟩
   (repeat (first | refine ⟨rfl,?_⟩ | refine ⟨_,sub_o,?_⟩ | refine ⟨_,add_o,?_⟩ | refine ⟨_,rfl,?_⟩ | refine ⟨_,not_t _,?_⟩ | refine ⟨_,⟨rfl,rfl⟩,?_⟩ | refine gFf ?_ | refine gOt ?_ | refine pkF ?_ | refine pkT ?_ | refine pkB ?_ | refine pkO ?_ | refine vs_eq h147 ?_ | refine gBa ?_ | refine gB _ (fun h=>by first | exact vs_g h147 | (rw [h];exact vs_g h147)) ?_ | refine gOa ?_ | refine gO _ (fun h=>by first | exact vs_g h147 | (rw [h];exact vs_g h147)) ?_))
   refine condK_t rfl ⟨trivial,trivial,?_⟩
   rw [hok];rfl
  |true=>
   rw [htag] at h147 hok
   have htb:0≤tag∧tag≤3:=by
    have h:tagB p.chans (k:Int) tag=(match p.chans[(k:Int).toNat]? with | some x=>within tag 0 (x.tags - 1) | none=>false):=rfl
    rw [Int.toNat_natCast,hx] at h
    rw [h] at htag
    simp only [within,Bool.and_eq_true,decide_eq_true_eq] at htag
    omega
   obtain rfl | rfl | rfl | rfl:tag=0∨tag=1∨tag=2∨tag=3:=by omega
   all_goals
    (repeat (first | refine ⟨rfl,?_⟩ | refine ⟨_,sub_o,?_⟩ | refine ⟨_,add_o,?_⟩ | refine ⟨_,rfl,?_⟩ | refine ⟨_,not_t _,?_⟩ | refine ⟨_,⟨rfl,rfl⟩,?_⟩ | refine gFf ?_ | refine gOt ?_ | refine pkF ?_ | refine pkT ?_ | refine pkB ?_ | refine pkO ?_ | refine vs_eq h147 ?_ | refine gBa ?_ | refine gB _ (fun h=>by first | exact vs_g h147 | (rw [h];exact vs_g h147)) ?_ | refine gOa ?_ | refine gO _ (fun h=>by first | exact vs_g h147 | (rw [h];exact vs_g h147)) ?_))
    refine ⟨_,fun _=>rfl,?_⟩
    (repeat (first | refine ⟨rfl,?_⟩ | refine ⟨_,sub_o,?_⟩ | refine ⟨_,add_o,?_⟩ | refine ⟨_,rfl,?_⟩ | refine ⟨_,not_t _,?_⟩ | refine ⟨_,⟨rfl,rfl⟩,?_⟩ | refine gFf ?_ | refine gOt ?_ | refine pkF ?_ | refine pkT ?_ | refine pkB ?_ | refine pkO ?_ | refine vs_eq (s81 _ _ _) ?_ | refine vs_eq hb ?_ | refine gBa ?_ | refine gB _ (fun h=>by first | exact vs_g (s81 _ _ _) | (rw [h];exact vs_g (s81 _ _ _))) ?_ | refine gB _ (fun h=>by first | exact vs_g hb | (rw [h];exact vs_g hb)) ?_ | refine gOa ?_ | refine gO _ (fun h=>by first | exact vs_g (s81 _ _ _) | (rw [h];exact vs_g (s81 _ _ _))) ?_ | refine gO _ (fun h=>by first | exact vs_g hb | (rw [h];exact vs_g hb)) ?_))
    refine condK_by (fun h4=>?_) (fun h4=>?_)
    ·refine ⟨trivial,trivial,?_⟩
     rw [hok]
     simp only [Bool.or_eq_true,Bool.not_eq_true'] at h4
     rcases h4 with (h | h) | h <;> (rw [h];simp)
    ·simp only [Bool.or_eq_false_iff,Bool.not_eq_false'] at h4
     obtain ⟨⟨h5,h6⟩,h7⟩:=h4
     refine ⟨_,rfl,_,rfl,_,rfl,_,next_i h3 (by omega),_,by omega,i + 1,_,by omega,rfl,rfl,?_,rfl,rfl,rfl,rfl,rfl,by rw [hok,h5,h6,h7];rfl⟩
     simp [hadT]
 ·obtain rfl:=ge_len hi h3
  rw [List.drop_length,okAs] at hok
  (repeat (first | refine ⟨rfl,?_⟩ | refine ⟨_,sub_o,?_⟩ | refine ⟨_,add_o,?_⟩ | refine ⟨_,rfl,?_⟩ | refine ⟨_,not_t _,?_⟩ | refine ⟨_,⟨rfl,rfl⟩,?_⟩ | refine gFf ?_ | refine gOt ?_ | refine pkF ?_ | refine pkT ?_ | refine pkB ?_ | refine pkO ?_ | refine gBa ?_ | refine gOa ?_))
  refine ⟨trivial,trivial,?_⟩
  rw [hok,encAs_len,ltA_d]
  cases l <;> simp
end Go.Ax.TryLr

set_option linter.unusedSimpArgs false
set_option linter.unusedVariables false
set_option maxRecDepth 100000
namespace Go.Ax.TryLr
open Go Go.Ax Go.Ax.V Go.Ax.Ft
theorem s83 (p:Pg) (proc vars:Int) (l:List Sm) (hl:l.length≤4194304) (ih:∀s∈l,VS prog 105 [encLk p proc vars,encS s] (fun r=>r=.b (okS p.chans proc vars s))) :
  VS prog 83 [encLk p proc vars,.l (encSs l)] (fun r=>r=.b (okSs p.chans proc vars l)):=by
 refine vs83 _ _ _ ?_
 unfold W83
 (repeat (first | refine ⟨rfl,?_⟩ | refine ⟨_,sub_o,?_⟩ | refine ⟨_,add_o,?_⟩ | refine ⟨_,rfl,?_⟩ | refine ⟨_,not_t _,?_⟩ | refine ⟨_,⟨rfl,rfl⟩,?_⟩ | refine gFf ?_ | refine gOt ?_ | refine pkF ?_ | refine pkT ?_ | refine pkB ?_ | refine pkO ?_ | refine gBa ?_ | refine gOa ?_))
 refine ⟨fun m o5 x7 x8 x9=>∃i:Nat,i≤l.length∧m=l.length - i∧o5=encLk p proc vars∧x7=.l (encSs l)∧x8=ii l.length∧x9=ii i∧(l.take i).all (okS p.chans proc vars)=true,
  ⟨_,0,by omega,rfl,rfl,rfl,by rw [encSs_len],rfl,rfl⟩,?_⟩
 rintro m o5 x7 x8 x9 ⟨i,hi,rfl,rfl,rfl,rfl,rfl,hall⟩
 refine ⟨_,rfl,condK_by (fun h3=>?_) (fun h3=>?_)⟩
 ·replace h3:=lt_len h3
  obtain ⟨y,hy⟩:∃x,l[i]?=some x:=⟨_,List.getElem?_eq_getElem h3⟩
  have hy':(encSs l)[i]?=some (encS y):=by rw [encSs_map,List.getElem?_map,hy];rfl
  have hih:=ih y (List.mem_of_getElem? hy)
  refine ⟨_,⟨idx_i hy',encS_sz y⟩,?_⟩
  obtain ⟨kind,var,chan,tag,⟨k1,n1,v1,ks1⟩,⟨op,⟨k2,n2,v2,ks2⟩,⟨k3,n3,v3,ks3⟩⟩,body,els,arms⟩:=y
  (repeat (first | refine ⟨rfl,?_⟩ | refine ⟨_,sub_o,?_⟩ | refine ⟨_,add_o,?_⟩ | refine ⟨_,rfl,?_⟩ | refine ⟨_,not_t _,?_⟩ | refine ⟨_,⟨rfl,rfl⟩,?_⟩ | refine gFf ?_ | refine gOt ?_ | refine pkF ?_ | refine pkT ?_ | refine pkB ?_ | refine pkO ?_ | refine vs_eq hih ?_ | refine gBa ?_ | refine gB _ (fun h=>by first | exact vs_g hih | (rw [h];exact vs_g hih)) ?_ | refine gOa ?_ | refine gO _ (fun h=>by first | exact vs_g hih | (rw [h];exact vs_g hih)) ?_))
  refine condK_by (fun h4=>?_) (fun h4=>?_)
  ·refine ⟨trivial,trivial,?_⟩
   rw [okSs_all,not_all (f:=okS p.chans proc vars) hy (by simpa using h4)]
  ·exact ⟨_,next_i h3 (by omega),_,by omega,i + 1,by omega,rfl,rfl,rfl,rfl,rfl,take_all hy hall (by simpa using h4)⟩
 ·obtain rfl:=ge_len hi h3
  rw [List.take_length] at hall
  refine ⟨trivial,trivial,?_⟩
  rw [okSs_all,hall]
theorem end_some {chans:List Ch} {proc c:Int} {dst:Bool} (h:endB chans proc dst c=true):∃(k:Nat) (x:Ch),c=k∧chans[k]?=some x:=by
 unfold endB at h
 split at h
 ·rename_i k
  split at h
  ·rename_i x hx;exact ⟨k,x,rfl,hx⟩
  ·cases h
 ·cases h
theorem s105 (p:Pg) (proc:Int) (vars:Int) (hv:0≤vars∧vars≤6) (hc:p.chans.length≤4194304) (ht:∀x∈p.chans,1≤x.tags∧x.tags≤4) :
  ∀(n:Nat) (s:Sm),szS s≤n→n≤4194304→VS prog 105 [encLk p proc vars,encS s] (fun r=>r=.b (okS p.chans proc vars s)):=by
 intro n
 induction n with
 |zero=>intro s hs;have:=szS_pos s;omega
 |succ n ih=>
  intro s hs hn
  obtain ⟨kind,var,chan,tag,e,c,body,els,arms⟩:=s
  simp only [szS] at hs
  have hbody:VS prog 83 [encLk p proc vars,.l (encSs body)] (fun r=>r=.b (okSs p.chans proc vars body)):=
   s83 p proc vars body (by have:=szSs_len body;omega) (fun s hs'=>ih s (by have:=szSs_mem hs';omega) (by omega))
  have hels:VS prog 83 [encLk p proc vars,.l (encSs els)] (fun r=>r=.b (okSs p.chans proc vars els)):=
   s83 p proc vars els (by have:=szSs_len els;omega) (fun s hs'=>ih s (by have:=szSs_mem hs';omega) (by omega))
  have h141:=s141 e
  have h142:=s142 c
  have h143:=s143 vars hv e (by omega)
  have h144:=s144 vars hv c (by omega)
  have hsrc:=s145 p proc vars chan false hc
  have hdst:=s145 p proc vars chan true hc
  obtain ⟨k1,n1,v1,ks1⟩:=e
  obtain ⟨op,⟨k2,n2,v2,ks2⟩,⟨k3,n3,v3,ks3⟩⟩:=c
  refine vs105 _ _ _ ?_
  unfold W105
  (repeat (first | refine ⟨rfl,?_⟩ | refine ⟨_,sub_o,?_⟩ | refine ⟨_,add_o,?_⟩ | refine ⟨_,rfl,?_⟩ | refine ⟨_,not_t _,?_⟩ | refine ⟨_,⟨rfl,rfl⟩,?_⟩ | refine gFf ?_ | refine gOt ?_ | refine pkF ?_ | refine pkT ?_ | refine pkB ?_ | refine pkO ?_ | refine vs_eq h141 ?_ | refine vs_eq h142 ?_ | refine gBa ?_ | refine gB _ (fun h=>by first | exact vs_g h141 | (rw [h];exact vs_g h141)) ?_ | refine gB _ (fun h=>by first | exact vs_g h142 | (rw [h];exact vs_g h142)) ?_ | refine gOa ?_ | refine gO _ (fun h=>by first | exact vs_g h141 | (rw [h];exact vs_g h141)) ?_ | refine gO _ (fun h=>by first | exact vs_g h142 | (rw [h];exact vs_g h142)) ?_))
  refine condK_by (fun h=>?_) (fun h=>?_)
  ·obtain rfl:kind=1:=by simpa [eqA_d] using h
   (repeat (first | refine ⟨rfl,?_⟩ | refine ⟨_,sub_o,?_⟩ | refine ⟨_,add_o,?_⟩ | refine ⟨_,rfl,?_⟩ | refine ⟨_,not_t _,?_⟩ | refine ⟨_,⟨rfl,rfl⟩,?_⟩ | refine gFf ?_ | refine gOt ?_ | refine pkF ?_ | refine pkT ?_ | refine pkB ?_ | refine pkO ?_ | refine vs_eq h143 ?_ | refine vs_eq (s81 _ _ _) ?_ | refine gBa ?_ | refine gB _ (fun h=>by first | exact vs_g h143 | (rw [h];exact vs_g h143)) ?_ | refine gB _ (fun h=>by first | exact vs_g (s81 _ _ _) | (rw [h];exact vs_g (s81 _ _ _))) ?_ | refine gOa ?_ | refine gO _ (fun h=>by first | exact vs_g h143 | (rw [h];exact vs_g h143)) ?_ | refine gO _ (fun h=>by first | exact vs_g (s81 _ _ _) | (rw [h];exact vs_g (s81 _ _ _))) ?_))
   refine ⟨trivial,trivial,?_⟩
   congr 1
   unfold okS
   simp only [eqA_d,encSs_len,encAs_len,isEmpty_d,Bool.and_assoc,reduceIte,Int.reduceEq]
  have n1:¬kind=1:=by simpa [eqA_d] using h
  refine ⟨_,rfl,condK_by (fun h=>?_) (fun h=>?_)⟩
  ·obtain rfl:kind=7:=by simpa [eqA_d] using h
   (repeat (first | refine ⟨rfl,?_⟩ | refine ⟨_,sub_o,?_⟩ | refine ⟨_,add_o,?_⟩ | refine ⟨_,rfl,?_⟩ | refine ⟨_,not_t _,?_⟩ | refine ⟨_,⟨rfl,rfl⟩,?_⟩ | refine gFf ?_ | refine gOt ?_ | refine pkF ?_ | refine pkT ?_ | refine pkB ?_ | refine pkO ?_ | refine vs_eq (s81 _ _ _) ?_ | refine gBa ?_ | refine gB _ (fun h=>by first | exact vs_g (s81 _ _ _) | (rw [h];exact vs_g (s81 _ _ _))) ?_ | refine gOa ?_ | refine gO _ (fun h=>by first | exact vs_g (s81 _ _ _) | (rw [h];exact vs_g (s81 _ _ _))) ?_))
   refine ⟨trivial,trivial,?_⟩
   congr 1
   unfold okS
   simp only [eqA_d,encSs_len,encAs_len,isEmpty_d,Bool.and_assoc,reduceIte,Int.reduceEq]
  have n7:¬kind=7:=by simpa [eqA_d] using h
  refine ⟨_,rfl,condK_by (fun h=>?_) (fun h=>?_)⟩
  ·obtain rfl:kind=6:=by simpa [eqA_d] using h
   (repeat (first | refine ⟨rfl,?_⟩ | refine ⟨_,sub_o,?_⟩ | refine ⟨_,add_o,?_⟩ | refine ⟨_,rfl,?_⟩ | refine ⟨_,not_t _,?_⟩ | refine ⟨_,⟨rfl,rfl⟩,?_⟩ | refine gFf ?_ | refine gOt ?_ | refine pkF ?_ | refine pkT ?_ | refine pkB ?_ | refine pkO ?_ | refine vs_eq h144 ?_ | refine gBa ?_ | refine gB _ (fun h=>by first | exact vs_g h144 | (rw [h];exact vs_g h144)) ?_ | refine gOa ?_ | refine gO _ (fun h=>by first | exact vs_g h144 | (rw [h];exact vs_g h144)) ?_))
   refine ⟨trivial,trivial,?_⟩
   congr 1
   unfold okS
   simp only [eqA_d,encSs_len,encAs_len,isEmpty_d,Bool.and_assoc,reduceIte,Int.reduceEq]
  have n6:¬kind=6:=by simpa [eqA_d] using h
  refine ⟨_,rfl,condK_by (fun h=>?_) (fun h=>?_)⟩
  ·obtain rfl:kind=3:=by simpa [eqA_d] using h
   (repeat (first | refine ⟨rfl,?_⟩ | refine ⟨_,sub_o,?_⟩ | refine ⟨_,add_o,?_⟩ | refine ⟨_,rfl,?_⟩ | refine ⟨_,not_t _,?_⟩ | refine ⟨_,⟨rfl,rfl⟩,?_⟩ | refine gFf ?_ | refine gOt ?_ | refine pkF ?_ | refine pkT ?_ | refine pkB ?_ | refine pkO ?_ | refine vs_eq h144 ?_ | refine vs_eq hbody ?_ | refine gBa ?_ | refine gB _ (fun h=>by first | exact vs_g h144 | (rw [h];exact vs_g h144)) ?_ | refine gB _ (fun h=>by first | exact vs_g hbody | (rw [h];exact vs_g hbody)) ?_ | refine gOa ?_ | refine gO _ (fun h=>by first | exact vs_g h144 | (rw [h];exact vs_g h144)) ?_ | refine gO _ (fun h=>by first | exact vs_g hbody | (rw [h];exact vs_g hbody)) ?_))
   refine ⟨trivial,trivial,?_⟩
   congr 1
   unfold okS
   simp only [eqA_d,encSs_len,encAs_len,isEmpty_d,Bool.and_assoc,reduceIte,Int.reduceEq]
  have n3:¬kind=3:=by simpa [eqA_d] using h
  refine ⟨_,rfl,condK_by (fun h=>?_) (fun h=>?_)⟩
  ·obtain rfl:kind=2:=by simpa [eqA_d] using h
   (repeat (first | refine ⟨rfl,?_⟩ | refine ⟨_,sub_o,?_⟩ | refine ⟨_,add_o,?_⟩ | refine ⟨_,rfl,?_⟩ | refine ⟨_,not_t _,?_⟩ | refine ⟨_,⟨rfl,rfl⟩,?_⟩ | refine gFf ?_ | refine gOt ?_ | refine pkF ?_ | refine pkT ?_ | refine pkB ?_ | refine pkO ?_ | refine vs_eq h144 ?_ | refine vs_eq hbody ?_ | refine vs_eq hels ?_ | refine gBa ?_ | refine gB _ (fun h=>by first | exact vs_g h144 | (rw [h];exact vs_g h144)) ?_ | refine gB _ (fun h=>by first | exact vs_g hbody | (rw [h];exact vs_g hbody)) ?_ | refine gB _ (fun h=>by first | exact vs_g hels | (rw [h];exact vs_g hels)) ?_ | refine gOa ?_ | refine gO _ (fun h=>by first | exact vs_g h144 | (rw [h];exact vs_g h144)) ?_ | refine gO _ (fun h=>by first | exact vs_g hbody | (rw [h];exact vs_g hbody)) ?_ | refine gO _ (fun h=>by first | exact vs_g hels | (rw [h];exact vs_g hels)) ?_))
   refine ⟨trivial,trivial,?_⟩
   congr 1
   unfold okS
   simp only [eqA_d,encSs_len,encAs_len,isEmpty_d,Bool.and_assoc,reduceIte,Int.reduceEq]
  have n2:¬kind=2:=by simpa [eqA_d] using h
  refine ⟨_,rfl,condK_by (fun h=>?_) (fun h=>?_)⟩
  ·obtain rfl:kind=4:=by simpa [eqA_d] using h
   cases hE:endB p.chans proc false chan with
   |false=>
    rw [hE] at hsrc
    (repeat (first | refine ⟨rfl,?_⟩ | refine ⟨_,sub_o,?_⟩ | refine ⟨_,add_o,?_⟩ | refine ⟨_,rfl,?_⟩ | refine ⟨_,not_t _,?_⟩ | refine ⟨_,⟨rfl,rfl⟩,?_⟩ | refine gFf ?_ | refine gOt ?_ | refine pkF ?_ | refine pkT ?_ | refine pkB ?_ | refine pkO ?_ | refine vs_eq hsrc ?_ | refine gBa ?_ | refine gB _ (fun h=>by first | exact vs_g hsrc | (rw [h];exact vs_g hsrc)) ?_ | refine gOa ?_ | refine gO _ (fun h=>by first | exact vs_g hsrc | (rw [h];exact vs_g hsrc)) ?_))
    refine ⟨trivial,trivial,?_⟩
    congr 1
    unfold okS
    simp [hE]
   |true=>
    rw [hE] at hsrc
    obtain ⟨k,x,rfl,hx⟩:=end_some hE
    have h147:=s147 p proc vars tag hx (ht x (List.mem_of_getElem? hx))
    (repeat (first | refine ⟨rfl,?_⟩ | refine ⟨_,sub_o,?_⟩ | refine ⟨_,add_o,?_⟩ | refine ⟨_,rfl,?_⟩ | refine ⟨_,not_t _,?_⟩ | refine ⟨_,⟨rfl,rfl⟩,?_⟩ | refine gFf ?_ | refine gOt ?_ | refine pkF ?_ | refine pkT ?_ | refine pkB ?_ | refine pkO ?_ | refine vs_eq hsrc ?_ | refine vs_eq h147 ?_ | refine vs_eq h143 ?_ | refine gBa ?_ | refine gB _ (fun h=>by first | exact vs_g hsrc | (rw [h];exact vs_g hsrc)) ?_ | refine gB _ (fun h=>by first | exact vs_g h147 | (rw [h];exact vs_g h147)) ?_ | refine gB _ (fun h=>by first | exact vs_g h143 | (rw [h];exact vs_g h143)) ?_ | refine gOa ?_ | refine gO _ (fun h=>by first | exact vs_g hsrc | (rw [h];exact vs_g hsrc)) ?_ | refine gO _ (fun h=>by first | exact vs_g h147 | (rw [h];exact vs_g h147)) ?_ | refine gO _ (fun h=>by first | exact vs_g h143 | (rw [h];exact vs_g h143)) ?_))
    refine ⟨trivial,trivial,?_⟩
    congr 1
    unfold okS
    simp only [eqA_d,encSs_len,encAs_len,isEmpty_d,Bool.and_assoc,reduceIte,Int.reduceEq,hE]
  have n4:¬kind=4:=by simpa [eqA_d] using h
  refine ⟨_,rfl,condK_by (fun h=>?_) (fun h=>?_)⟩
  ·obtain rfl:kind=5:=by simpa [eqA_d] using h
   cases hE:endB p.chans proc true chan with
   |false=>
    rw [hE] at hdst
    (repeat (first | refine ⟨rfl,?_⟩ | refine ⟨_,sub_o,?_⟩ | refine ⟨_,add_o,?_⟩ | refine ⟨_,rfl,?_⟩ | refine ⟨_,not_t _,?_⟩ | refine ⟨_,⟨rfl,rfl⟩,?_⟩ | refine gFf ?_ | refine gOt ?_ | refine pkF ?_ | refine pkT ?_ | refine pkB ?_ | refine pkO ?_ | refine vs_eq hdst ?_ | refine gBa ?_ | refine gB _ (fun h=>by first | exact vs_g hdst | (rw [h];exact vs_g hdst)) ?_ | refine gOa ?_ | refine gO _ (fun h=>by first | exact vs_g hdst | (rw [h];exact vs_g hdst)) ?_))
    refine ⟨trivial,trivial,?_⟩
    congr 1
    unfold okS
    simp [hE]
   |true=>
    rw [hE] at hdst
    obtain ⟨k,x,rfl,hx⟩:=end_some hE
    have h149:=s149 p proc vars hv hx (ht x (List.mem_of_getElem? hx)) arms (by have:=szAs_len arms;omega) (fun tag var body hm=>s83 p proc vars body (by
     have:=szAs_mem hm;simp only [szA] at this;have:=szSs_len body;omega) (fun s hs'=>ih s (by
     have:=szAs_mem hm;simp only [szA] at this;have:=szSs_mem hs';omega) (by omega)))
    (repeat (first | refine ⟨rfl,?_⟩ | refine ⟨_,sub_o,?_⟩ | refine ⟨_,add_o,?_⟩ | refine ⟨_,rfl,?_⟩ | refine ⟨_,not_t _,?_⟩ | refine ⟨_,⟨rfl,rfl⟩,?_⟩ | refine gFf ?_ | refine gOt ?_ | refine pkF ?_ | refine pkT ?_ | refine pkB ?_ | refine pkO ?_ | refine vs_eq hdst ?_ | refine vs_eq h149 ?_ | refine gBa ?_ | refine gB _ (fun h=>by first | exact vs_g hdst | (rw [h];exact vs_g hdst)) ?_ | refine gB _ (fun h=>by first | exact vs_g h149 | (rw [h];exact vs_g h149)) ?_ | refine gOa ?_ | refine gO _ (fun h=>by first | exact vs_g hdst | (rw [h];exact vs_g hdst)) ?_ | refine gO _ (fun h=>by first | exact vs_g h149 | (rw [h];exact vs_g h149)) ?_))
    refine ⟨trivial,trivial,?_⟩
    congr 1
    unfold okS
    simp only [eqA_d,encSs_len,encAs_len,isEmpty_d,Bool.and_assoc,reduceIte,Int.reduceEq,hE]
  have n5:¬kind=5:=by simpa [eqA_d] using h
  refine ⟨trivial,trivial,?_⟩
  congr 1
  unfold okS
  simp [n1,n2,n3,n4,n5,n6,n7]
theorem s60 (p:Pg) (hz:szPg p):VS prog 60 [encPg p] (fun r=>r=.b (okPg p)):=by
 have hlc:=hz.chans
 have hlp:=hz.procs
 have hl1:(p.chans.map encCh).length=p.chans.length:=List.length_map _
 have hl2:(p.procs.map encPr).length=p.procs.length:=List.length_map _
 refine vs60 _ _ ?_
 unfold W60
 (repeat (first | refine ⟨rfl,?_⟩ | refine ⟨_,sub_o,?_⟩ | refine ⟨_,add_o,?_⟩ | refine ⟨_,rfl,?_⟩ | refine ⟨_,not_t _,?_⟩ | refine ⟨_,⟨rfl,rfl⟩,?_⟩ | refine gFf ?_ | refine gOt ?_ | refine pkF ?_ | refine pkT ?_ | refine pkB ?_ | refine pkO ?_ | refine vs_eq (s81 _ _ _) ?_ | refine gBa ?_ | refine gB _ (fun h=>by first | exact vs_g (s81 _ _ _) | (rw [h];exact vs_g (s81 _ _ _))) ?_ | refine gOa ?_ | refine gO _ (fun h=>by first | exact vs_g (s81 _ _ _) | (rw [h];exact vs_g (s81 _ _ _))) ?_))
 rw [hl1,hl2]
 refine condK_by (fun h=>?_) (fun h=>?_)
 ·refine ⟨trivial,trivial,?_⟩
  congr 1
  unfold okPg
  simp only [ltA_d,within,Bool.or_eq_true,Bool.not_eq_true',decide_eq_true_eq,Bool.and_eq_false_iff,decide_eq_false_iff_not] at h
  symm
  simp only [Bool.and_eq_false_iff,decide_eq_false_iff_not]
  omega
 simp only [ltA_d,within,Bool.or_eq_false_iff,Bool.not_eq_false',Bool.and_eq_true,decide_eq_true_eq,decide_eq_false_iff_not] at h
 obtain ⟨hc4,hp1,hp4⟩:=h
 have hok:okPg p=(p.chans.all (okCh p.procs.length)&&okPs p.chans 0 p.procs):=by
  unfold okPg
  rw [decide_eq_true (show p.chans.length≤4 by omega),decide_eq_true (show 1≤p.procs.length by omega),decide_eq_true (show p.procs.length≤4 by omega)]
  simp
 (repeat (first | refine ⟨rfl,?_⟩ | refine ⟨_,sub_o,?_⟩ | refine ⟨_,add_o,?_⟩ | refine ⟨_,rfl,?_⟩ | refine ⟨_,not_t _,?_⟩ | refine ⟨_,⟨rfl,rfl⟩,?_⟩ | refine gFf ?_ | refine gOt ?_ | refine pkF ?_ | refine pkT ?_ | refine pkB ?_ | refine pkO ?_ | refine gBa ?_ | refine gOa ?_))
 refine ⟨fun m o14 x16 x17 x18=>∃i:Nat,i≤p.chans.length∧m=p.chans.length - i∧o14=encPg p∧x16=.l (p.chans.map encCh)∧x17=ii p.chans.length∧x18=ii i∧(p.chans.take i).all (okCh p.procs.length)=true,
  ⟨_,0,by omega,rfl,rfl,rfl,by rw [hl1],rfl,rfl⟩,?_⟩
 rintro m o14 x16 x17 x18 ⟨i,hi,rfl,rfl,rfl,rfl,rfl,hall⟩
 refine ⟨_,rfl,condK_by (fun h3=>?_) (fun h3=>?_)⟩
 ·replace h3:=lt_len h3
  obtain ⟨y,hy⟩:∃x,p.chans[i]?=some x:=⟨_,List.getElem?_eq_getElem h3⟩
  have hy':(p.chans.map encCh)[i]?=some (encCh y):=by rw [List.getElem?_map,hy];rfl
  have hym:=List.mem_of_getElem? hy
  have h82:=s82 y p.procs.length (by omega) (hz.rules y hym) (hz.rows y hym)
  rw [←hl2] at h82
  refine ⟨_,⟨idx_i hy',rfl⟩,?_⟩
  (repeat (first | refine ⟨rfl,?_⟩ | refine ⟨_,sub_o,?_⟩ | refine ⟨_,add_o,?_⟩ | refine ⟨_,rfl,?_⟩ | refine ⟨_,not_t _,?_⟩ | refine ⟨_,⟨rfl,rfl⟩,?_⟩ | refine gFf ?_ | refine gOt ?_ | refine pkF ?_ | refine pkT ?_ | refine pkB ?_ | refine pkO ?_ | refine vs_eq h82 ?_ | refine gBa ?_ | refine gB _ (fun h=>by first | exact vs_g h82 | (rw [h];exact vs_g h82)) ?_ | refine gOa ?_ | refine gO _ (fun h=>by first | exact vs_g h82 | (rw [h];exact vs_g h82)) ?_))
  rw [hl2]
  refine condK_by (fun h4=>?_) (fun h4=>?_)
  ·refine ⟨trivial,trivial,?_⟩
   rw [hok,not_all (f:=okCh p.procs.length) hy (by simpa using h4)];rfl
  ·exact ⟨_,next_i h3 (by omega),_,by omega,i + 1,by omega,rfl,rfl,rfl,rfl,rfl,take_all hy hall (by simpa using h4)⟩
 obtain rfl:=ge_len hi h3
 rw [List.take_length] at hall
 rw [hall,Bool.true_and] at hok
 have htags:∀x∈p.chans,1≤x.tags∧x.tags≤4:=fun x hx=>by
  have:=List.all_eq_true.1 hall x hx
  simp only [okCh,within,Bool.and_eq_true,decide_eq_true_eq] at this
  omega
 (repeat (first | refine ⟨rfl,?_⟩ | refine ⟨_,sub_o,?_⟩ | refine ⟨_,add_o,?_⟩ | refine ⟨_,rfl,?_⟩ | refine ⟨_,not_t _,?_⟩ | refine ⟨_,⟨rfl,rfl⟩,?_⟩ | refine gFf ?_ | refine gOt ?_ | refine pkF ?_ | refine pkT ?_ | refine pkB ?_ | refine pkO ?_ | refine gBa ?_ | refine gOa ?_))
 refine ⟨fun m o34 x36 x37 x38=>∃i:Nat,i≤p.procs.length∧m=p.procs.length - i∧o34=encPg p∧x36=.l (p.procs.map encPr)∧x37=ii p.procs.length∧x38=ii i∧okPs p.chans 0 p.procs=okPs p.chans i (p.procs.drop i),
  ⟨_,0,by omega,rfl,rfl,rfl,by rw [hl2],rfl,rfl⟩,?_⟩
 rintro m o34 x36 x37 x38 ⟨i,hi,rfl,rfl,rfl,rfl,rfl,hps⟩
 refine ⟨_,rfl,condK_by (fun h3=>?_) (fun h3=>?_)⟩
 ·replace h3:=lt_len h3
  obtain ⟨y,hy⟩:∃x,p.procs[i]?=some x:=⟨_,List.getElem?_eq_getElem h3⟩
  have hy':(p.procs.map encPr)[i]?=some (encPr y):=by rw [List.getElem?_map,hy];rfl
  have hym:=List.mem_of_getElem? hy
  rw [drop_cons hy,okPs] at hps
  refine ⟨_,⟨idx_i hy',rfl⟩,?_⟩
  have hstep:∀(h:(!within y.vars 0 6||!okSs p.chans i y.vars y.body)=false),okPs p.chans 0 p.procs=okPs p.chans ((i + 1:Nat):Int) (p.procs.drop (i + 1)):=fun h=>by
   simp only [Bool.or_eq_false_iff,Bool.not_eq_false'] at h
   rw [hps,h.1,h.2];simp
  cases hw:within y.vars 0 6 with
  |false=>
   have h81:=s81 y.vars 0 6
   rw [hw] at h81
   (repeat (first | refine ⟨rfl,?_⟩ | refine ⟨_,sub_o,?_⟩ | refine ⟨_,add_o,?_⟩ | refine ⟨_,rfl,?_⟩ | refine ⟨_,not_t _,?_⟩ | refine ⟨_,⟨rfl,rfl⟩,?_⟩ | refine gFf ?_ | refine gOt ?_ | refine pkF ?_ | refine pkT ?_ | refine pkB ?_ | refine pkO ?_ | refine vs_eq h81 ?_ | refine gBa ?_ | refine gB _ (fun h=>by first | exact vs_g h81 | (rw [h];exact vs_g h81)) ?_ | refine gOa ?_ | refine gO _ (fun h=>by first | exact vs_g h81 | (rw [h];exact vs_g h81)) ?_))
   refine condK_t rfl ⟨trivial,trivial,?_⟩
   rw [hok,hps,hw];rfl
  |true=>
   have h81:=s81 y.vars 0 6
   rw [hw] at h81
   have hv:0≤y.vars∧y.vars≤6:=by simpa [within] using hw
   have h83:=s83 p i y.vars y.body (by have:=hz.body y hym;have:=szSs_len y.body;omega) (fun s hs=>s105 p i y.vars hv (by omega) htags 4194304 s (Nat.le_trans (szSs_mem hs) (hz.body y hym)) (Nat.le_refl _))
   (repeat (first | refine ⟨rfl,?_⟩ | refine ⟨_,sub_o,?_⟩ | refine ⟨_,add_o,?_⟩ | refine ⟨_,rfl,?_⟩ | refine ⟨_,not_t _,?_⟩ | refine ⟨_,⟨rfl,rfl⟩,?_⟩ | refine gFf ?_ | refine gOt ?_ | refine pkF ?_ | refine pkT ?_ | refine pkB ?_ | refine pkO ?_ | refine vs_eq h81 ?_ | refine vs_eq h83 ?_ | refine gBa ?_ | refine gB _ (fun h=>by first | exact vs_g h81 | (rw [h];exact vs_g h81)) ?_ | refine gB _ (fun h=>by first | exact vs_g h83 | (rw [h];exact vs_g h83)) ?_ | refine gOa ?_ | refine gO _ (fun h=>by first | exact vs_g h81 | (rw [h];exact vs_g h81)) ?_ | refine gO _ (fun h=>by first | exact vs_g h83 | (rw [h];exact vs_g h83)) ?_))
   refine condK_by (fun h4=>?_) (fun h4=>?_)
   ·refine ⟨trivial,trivial,?_⟩
    rw [hok,hps,hw]
    have h5:okSs p.chans i y.vars y.body=false:=by simpa using h4
    rw [h5];rfl
   ·exact ⟨_,next_i h3 (by omega),_,by omega,i + 1,by omega,rfl,rfl,rfl,rfl,rfl,hstep (by rw [hw];exact h4)⟩
 ·obtain rfl:=ge_len hi h3
  rw [List.drop_length,okPs] at hps
  refine ⟨trivial,trivial,?_⟩
  rw [hok,hps]
end Go.Ax.TryLr

set_option linter.unusedSimpArgs false
set_option linter.unusedVariables false
set_option maxRecDepth 100000
namespace Go.Ax.TryLr
open Go Go.Ax Go.Ax.V Go.Ax.Ft
theorem s41 (op:Int):VS prog 41 [ii op] (fun r=>r=ii (notI op)):=by
 refine vs41 _ _ ?_
 unfold W41
 refine ⟨_,rfl,condK_by (fun h=>?_) (fun h=>?_)⟩
 ·obtain rfl:op=1:=by simpa [eqA_d] using h
  exact ⟨trivial,trivial,rfl⟩
 have n1:¬op=1:=by simpa [eqA_d] using h
 refine ⟨_,rfl,condK_by (fun h=>?_) (fun h=>?_)⟩
 ·obtain rfl:op=2:=by simpa [eqA_d] using h
  exact ⟨trivial,trivial,rfl⟩
 have n2:¬op=2:=by simpa [eqA_d] using h
 refine ⟨_,rfl,condK_by (fun h=>?_) (fun h=>?_)⟩
 ·obtain rfl:op=3:=by simpa [eqA_d] using h
  exact ⟨trivial,trivial,rfl⟩
 have n3:¬op=3:=by simpa [eqA_d] using h
 refine ⟨_,rfl,condK_by (fun h=>?_) (fun h=>?_)⟩
 ·obtain rfl:op=4:=by simpa [eqA_d] using h
  exact ⟨trivial,trivial,rfl⟩
 have n4:¬op=4:=by simpa [eqA_d] using h
 refine ⟨_,rfl,condK_by (fun h=>?_) (fun h=>?_)⟩
 ·obtain rfl:op=5:=by simpa [eqA_d] using h
  exact ⟨trivial,trivial,rfl⟩
 have n5:¬op=5:=by simpa [eqA_d] using h
 refine ⟨_,rfl,condK_by (fun h=>?_) (fun h=>?_)⟩
 ·obtain rfl:op=6:=by simpa [eqA_d] using h
  exact ⟨trivial,trivial,rfl⟩
 have n6:¬op=6:=by simpa [eqA_d] using h
 refine ⟨trivial,trivial,?_⟩
 simp [notI,n1,n2,n3,n4,n5,n6]
theorem take_map {α β:Type} {l:List α} {f:α→β} {i:Nat} {x:α} (hx:l[i]?=some x):(l.take i).map f++[f x]=(l.take (i + 1)).map f:=by
 rw [←take_snoc hx];simp
theorem s106:∀(e:Ex),szE e≤4194304→VS prog 106 [encE e] (fun r=>r=encE e)
 |.mk k n v ks,hB=>by
  have hks:szEs ks≤4194304:=by simp only [szE] at hB;omega
  have hk:=Nat.le_trans (szEs_len ks) hks
  have ih:∀e∈ks,VS prog 106 [encE e] (fun r=>r=encE e):=fun e he=>s106 e (Nat.le_trans (szEs_mem he) hks)
  refine vs106 _ _ ?_
  unfold W106
  (repeat (first | refine ⟨rfl,?_⟩ | refine ⟨_,sub_o,?_⟩ | refine ⟨_,add_o,?_⟩ | refine ⟨_,rfl,?_⟩ | refine ⟨_,not_t _,?_⟩ | refine ⟨_,⟨rfl,rfl⟩,?_⟩ | refine gFf ?_ | refine gOt ?_ | refine pkF ?_ | refine pkT ?_ | refine pkB ?_ | refine pkO ?_ | refine gBa ?_ | refine gOa ?_))
  refine ⟨fun m o7 l8 o9 l10 x11 x12 x13=>∃i:Nat,i≤ks.length∧m=ks.length - i∧o7=.a [ii k,ii n,ii v,.l []]∧l8=(ks.take i).map encE∧o9=.a [ii 0,ii 0,ii 0,.l []]∧x11=.l (encEs ks)∧x12=ii ks.length∧x13=ii i,
   ⟨_,0,by omega,rfl,rfl,rfl,rfl,rfl,by rw [encEs_len],rfl⟩,?_⟩
  rintro m o7 l8 o9 l10 x11 x12 x13 ⟨i,hi,rfl,rfl,rfl,rfl,rfl,rfl,rfl⟩
  refine ⟨_,rfl,condK_by (fun h3=>?_) (fun h3=>?_)⟩
  ·replace h3:=lt_len h3
   obtain ⟨x,hx⟩:∃x,ks[i]?=some x:=⟨_,List.getElem?_eq_getElem h3⟩
   have hx':(encEs ks)[i]?=some (encE x):=by rw [encEs_map,List.getElem?_map,hx];rfl
   have hih:=ih x (List.mem_of_getElem? hx)
   refine ⟨_,⟨idx_i hx',encE_sz x⟩,?_⟩
   have hl:((ks.take i).map encE).length≤4194304:=by simp;omega
   have ht:=take_map (f:=encE) hx
   obtain ⟨k',n',v',ks'⟩:=x
   (repeat (first | refine ⟨rfl,?_⟩ | refine ⟨_,sub_o,?_⟩ | refine ⟨_,add_o,?_⟩ | refine ⟨_,rfl,?_⟩ | refine ⟨_,not_t _,?_⟩ | refine ⟨_,⟨rfl,rfl⟩,?_⟩ | refine gFf ?_ | refine gOt ?_ | refine pkF ?_ | refine pkT ?_ | refine pkB ?_ | refine pkO ?_ | refine vs_eq hih ?_ | refine gBa ?_ | refine gB _ (fun h=>by first | exact vs_g hih | (rw [h];exact vs_g hih)) ?_ | refine gOa ?_ | refine gO _ (fun h=>by first | exact vs_g hih | (rw [h];exact vs_g hih)) ?_))
   refine ⟨_,app_o,?_⟩
   rw [ht]
   exact ⟨_,rfl,_,next_i h3 (by omega),_,by omega,i + 1,by omega,rfl,rfl,rfl,rfl,rfl,rfl,rfl⟩
  ·obtain rfl:=ge_len hi h3
   (repeat (first | refine ⟨rfl,?_⟩ | refine ⟨_,sub_o,?_⟩ | refine ⟨_,add_o,?_⟩ | refine ⟨_,rfl,?_⟩ | refine ⟨_,not_t _,?_⟩ | refine ⟨_,⟨rfl,rfl⟩,?_⟩ | refine gFf ?_ | refine gOt ?_ | refine pkF ?_ | refine pkT ?_ | refine pkB ?_ | refine pkO ?_ | refine gBa ?_ | refine gOa ?_))
   refine ⟨trivial,_,rfl,_,rfl,trivial,?_⟩
   rw [List.take_length,←encEs_map];rfl
theorem s107 (c:Co) (hB:szC c≤4194304):VS prog 107 [encC c] (fun r=>r=encC c):=by
 obtain ⟨op,l,r⟩:=c
 simp only [szC] at hB
 have hl:=s106 l (by omega)
 have hr:=s106 r (by omega)
 obtain ⟨k1,n1,v1,ks1⟩:=l
 obtain ⟨k2,n2,v2,ks2⟩:=r
 refine vs107 _ _ ?_
 unfold W107
 (repeat (first | refine ⟨rfl,?_⟩ | refine ⟨_,sub_o,?_⟩ | refine ⟨_,add_o,?_⟩ | refine ⟨_,rfl,?_⟩ | refine ⟨_,not_t _,?_⟩ | refine ⟨_,⟨rfl,rfl⟩,?_⟩ | refine gFf ?_ | refine gOt ?_ | refine pkF ?_ | refine pkT ?_ | refine pkB ?_ | refine pkO ?_ | refine vs_eq hl ?_ | refine vs_eq hr ?_ | refine gBa ?_ | refine gB _ (fun h=>by first | exact vs_g hl | (rw [h];exact vs_g hl)) ?_ | refine gB _ (fun h=>by first | exact vs_g hr | (rw [h];exact vs_g hr)) ?_ | refine gOa ?_ | refine gO _ (fun h=>by first | exact vs_g hl | (rw [h];exact vs_g hl)) ?_ | refine gO _ (fun h=>by first | exact vs_g hr | (rw [h];exact vs_g hr)) ?_))
 exact ⟨trivial,_,rfl,trivial,rfl⟩
theorem s109 (c:Co) (hB:szC c≤4194304):VS prog 109 [encC c] (fun r=>r=encC (notC c)):=by
 have h:=s107 c hB
 obtain ⟨op,l,r⟩:=c
 obtain ⟨k1,n1,v1,ks1⟩:=l
 obtain ⟨k2,n2,v2,ks2⟩:=r
 refine vs109 _ _ ?_
 unfold W109
 (repeat (first | refine ⟨rfl,?_⟩ | refine ⟨_,sub_o,?_⟩ | refine ⟨_,add_o,?_⟩ | refine ⟨_,rfl,?_⟩ | refine ⟨_,not_t _,?_⟩ | refine ⟨_,⟨rfl,rfl⟩,?_⟩ | refine gFf ?_ | refine gOt ?_ | refine pkF ?_ | refine pkT ?_ | refine pkB ?_ | refine pkO ?_ | refine vs_eq h ?_ | refine vs_eq (s41 _) ?_ | refine gBa ?_ | refine gB _ (fun h=>by first | exact vs_g h | (rw [h];exact vs_g h)) ?_ | refine gB _ (fun h=>by first | exact vs_g (s41 _) | (rw [h];exact vs_g (s41 _))) ?_ | refine gOa ?_ | refine gO _ (fun h=>by first | exact vs_g h | (rw [h];exact vs_g h)) ?_ | refine gO _ (fun h=>by first | exact vs_g (s41 _) | (rw [h];exact vs_g (s41 _))) ?_))
 exact ⟨trivial,_,rfl,trivial,rfl⟩
def oG (g:Gr):TV:=.a [ii g.nodes,.l [],.l []]
def eE (g:Gr):List TV:=g.edges.map encEd
def eH (g:Gr):List TV:=g.heads.map ii
theorem t84 (g:Gr) (e:Ed) (hn:g.edges.length≤100000000) (Q:TV→List TV→List TV→TV→Prop) (h:Q (oG (g.edge e)) (eE (g.edge e)) (eH (g.edge e)) (.tp [])):S84 Q (oG g) (eE g) (eH g) (encEd e):=by
 have hl:(eE g).length≤100000000:=by simp [eE];omega
 have he:eE (g.edge e)=eE g++[encEd e]:=by simp [eE,Gr.edge]
 rw [he] at h
 refine sh84 _ _ _ _ _ ?_
 obtain ⟨a,b,c,d,f,t,⟨k1,n1,v1,ks1⟩,⟨op,⟨k2,n2,v2,ks2⟩,⟨k3,n3,v3,ks3⟩⟩⟩:=e
 unfold WS84
 (repeat (first | refine ⟨rfl,?_⟩ | refine ⟨_,sub_o,?_⟩ | refine ⟨_,add_o,?_⟩ | refine ⟨_,rfl,?_⟩ | refine ⟨_,not_t _,?_⟩ | refine ⟨_,⟨rfl,rfl⟩,?_⟩ | refine gFf ?_ | refine gOt ?_ | refine pkF ?_ | refine pkT ?_ | refine pkB ?_ | refine pkO ?_ | refine gBa ?_ | refine gOa ?_))
 refine ⟨_,app_o,?_⟩
 (repeat (first | refine ⟨rfl,?_⟩ | refine ⟨_,sub_o,?_⟩ | refine ⟨_,add_o,?_⟩ | refine ⟨_,rfl,?_⟩ | refine ⟨_,not_t _,?_⟩ | refine ⟨_,⟨rfl,rfl⟩,?_⟩ | refine gFf ?_ | refine gOt ?_ | refine pkF ?_ | refine pkT ?_ | refine pkB ?_ | refine pkO ?_ | refine gBa ?_ | refine gOa ?_))
 exact ⟨trivial,trivial,h⟩
theorem t85 (g:Gr) (hn:0≤g.nodes∧g.nodes≤100000000) (Q:TV→List TV→List TV→TV→Prop) (h:Q (oG g.node) (eE g.node) (eH g.node) (ii g.nodes)):S85 Q (oG g) (eE g) (eH g):=by
 refine sh85 _ _ _ _ ?_
 unfold WS85
 (repeat (first | refine ⟨rfl,?_⟩ | refine ⟨_,sub_o,?_⟩ | refine ⟨_,add_o,?_⟩ | refine ⟨_,rfl,?_⟩ | refine ⟨_,not_t _,?_⟩ | refine ⟨_,⟨rfl,rfl⟩,?_⟩ | refine gFf ?_ | refine gOt ?_ | refine pkF ?_ | refine pkT ?_ | refine pkB ?_ | refine pkO ?_ | refine gBa ?_ | refine gOa ?_))
 refine ⟨trivial,?_⟩
 rw [show g.nodes + 1 - 1=g.nodes by omega]
 exact h
structure grow (g g':Gr) (n:Nat):Prop where
 lo:g.nodes≤g'.nodes
 hi:g'.nodes≤g.nodes + n
 e:g'.edges.length≤g.edges.length + n
 h:g'.heads.length≤g.heads.length + n
theorem grow.refl (g:Gr):grow g g 0:=⟨by omega,by omega,by omega,by omega⟩
theorem grow.trans {g1 g2 g3:Gr} {n m:Nat} (h:grow g1 g2 n) (h':grow g2 g3 m):grow g1 g3 (n + m):=
 ⟨by have:=h.lo;have:=h'.lo;omega,by have:=h.hi;have:=h'.hi;omega,by have:=h.e;have:=h'.e;omega,by have:=h.h;have:=h'.h;omega⟩
theorem grow.le {g1 g2:Gr} {n m:Nat} (h:grow g1 g2 n) (hm:n≤m):grow g1 g2 m:=
 ⟨h.lo,by have:=h.hi;omega,by have:=h.e;omega,by have:=h.h;omega⟩
theorem grow_edge (g:Gr) (e:Ed):grow g (g.edge e) 1:=⟨by simp [Gr.edge],by simp [Gr.edge];omega,by simp [Gr.edge],by simp [Gr.edge]⟩
theorem grow_node (g:Gr):grow g g.node 1:=⟨by simp [Gr.node];omega,by simp [Gr.node],by simp [Gr.node],by simp [Gr.node]⟩
theorem grow_ne (g:Gr) (e:Ed):grow g (g.node.edge e) 1:=⟨by simp [Gr.node,Gr.edge];omega,by simp [Gr.node,Gr.edge],by simp [Gr.node,Gr.edge],by simp [Gr.node,Gr.edge]⟩
mutual
theorem stF_grow:∀(s:Sm) (a b:Int) (g:Gr),grow g (stF s a b g) (szS s - 1)
 |.mk kind var chan tag e c body els arms,a,b,g=>by
  have hs:szS (.mk kind var chan tag e c body els arms)=5 + szE e + szC c + szSs body + szSs els + szAs arms:=by rw [szS]
  rw [hs,stF]
  split
  ·exact (grow_edge _ _).le (by omega)
  split
  ·have h1:=(grow_ne g ⟨a,g.nodes,2,0,0,0,no0,c⟩).trans (laF_grow body g.nodes b _)
   have h2:=h1.trans (grow_ne _ ⟨a,(laF body g.nodes b (g.node.edge ⟨a,g.nodes,2,0,0,0,no0,c⟩)).nodes,2,0,0,0,no0,notC c⟩)
   exact (h2.trans (laF_grow els _ b _)).le (by omega)
  split
  ·have h0:grow g ((((g.head a).node).edge ⟨a,g.nodes,2,0,0,0,no0,c⟩).edge ⟨a,b,2,0,0,0,no0,notC c⟩) 2:=⟨by simp [Gr.node,Gr.edge,Gr.head];omega,by simp [Gr.node,Gr.edge,Gr.head];try omega,by simp [Gr.node,Gr.edge,Gr.head],by simp [Gr.node,Gr.edge,Gr.head]⟩
   exact (h0.trans (laF_grow body g.nodes a _)).le (by omega)
  split
  ·exact (grow_edge _ _).le (by omega)
  split
  ·exact (arF_grow chan arms a b g).le (by omega)
  split
  ·exact (grow_edge _ _).le (by omega)
  split
  ·exact (grow_edge _ _).le (by omega)
  ·exact (grow.refl g).le (by omega)
theorem laF_grow:∀(l:List Sm) (a b:Int) (g:Gr),grow g (laF l a b g) (szSs l + 1)
 |[],a,b,g=>by rw [laF];exact (grow_edge _ _).le (by omega)
 |[s],a,b,g=>by rw [laF];exact (stF_grow s a b g).le (by simp [szSs];omega)
 |s :: t :: r,a,b,g=>by
  rw [laF]
  have h1:=stF_grow s a g.nodes g.node
  have h2:=laF_grow (t :: r) g.nodes b (stF s a g.nodes g.node)
  have h0:=((grow_node g).trans h1).trans h2
  have:=szS_pos s
  exact h0.le (by simp only [szSs];omega)
theorem arF_grow:∀(chan:Int) (l:List Ar) (a b:Int) (g:Gr),grow g (arF chan l a b g) (szAs l)
 |chan,[],a,b,g=>by rw [arF];exact (grow.refl g).le (by simp [szAs])
 |chan,.mk tag var body :: r,a,b,g=>by
  rw [arF]
  have h1:=(grow_ne g ⟨a,g.nodes,4,var,chan,tag,no0,noCo⟩).trans (laF_grow body g.nodes b _)
  exact (h1.trans (arF_grow chan r a b _)).le (by simp only [szAs,szA];omega)
end
end Go.Ax.TryLr

set_option linter.unusedSimpArgs false
set_option linter.unusedVariables false
set_option maxRecDepth 100000
namespace Go.Ax.TryLr
open Go Go.Ax Go.Ax.V Go.Ax.Ft
structure fits (g:Gr) (n:Nat):Prop where
 lo:0≤g.nodes
 nn:g.nodes + n≤100000000
 e:g.edges.length + n≤100000000
 h:g.heads.length + n≤100000000
theorem fits.le {g:Gr} {n m:Nat} (h:fits g n) (hm:m≤n):fits g m:=⟨h.lo,by have:=h.nn;omega,by have:=h.e;omega,by have:=h.h;omega⟩
theorem fits.grow {g g':Gr} {n m:Nat} (h:fits g (n + m)) (hg:grow g g' n):fits g' m:=
 ⟨by have:=h.lo;have:=hg.lo;omega,by have:=h.nn;have:=hg.hi;omega,by have:=h.e;have:=hg.e;omega,by have:=h.h;have:=hg.h;omega⟩
def Sp86 (s:Sm):Prop:=∀(g:Gr) (a b:Int),fits g (szS s)→∀Q:TV→List TV→List TV→TV→Prop,Q (oG (stF s a b g)) (eE (stF s a b g)) (eH (stF s a b g)) (.tp [])→S86 Q (oG g) (eE g) (eH g) (encS s) (ii a) (ii b)
def Sp62 (l:List Sm):Prop:=∀(g:Gr) (a b:Int),fits g (szSs l + 1)→∀Q:TV→List TV→List TV→TV→Prop,Q (oG (laF l a b g)) (eE (laF l a b g)) (eH (laF l a b g)) (.tp [])→S62 Q (oG g) (eE g) (eH g) (.l (encSs l)) (ii a) (ii b)
theorem slT_take {es:List TV} {k:Nat} (hk:k≤es.length):slT (.l es) none (some (ii k))=some (.l (es.take k)):=by
 have h1:bdA (k:Int) es.length=some k:=by
  show (bif Nat.ble k es.length then some k else none)=some k
  rw [Nat.ble_eq_true_of_le hk];rfl
 show (match bdsT none (some (ii k)) es.length with | some (l,h)=>some (TV.l ((es.drop l).take (h - l))) | none=>none)=_
 unfold bdsT bdT
 simp only [h1]
 rfl
theorem szHd_of {n:Nat} {es:List TV} (h:∀e∈es,szOk n e):szHd n es:=by
 cases es with
 |nil=>trivial
 |cons e r=>exact h e List.mem_cons_self
theorem szHd_S (l:List Sm):szHd 20 (encSs l):=szHd_of (fun e he=>by
 rw [encSs_map] at he
 obtain ⟨s,_,rfl⟩:=List.mem_map.1 he
 exact encS_sz s)
theorem laF_cons {s:Sm} {r:List Sm} (hr:r≠[]) (a b:Int) (g:Gr):laF (s :: r) a b g=laF r g.nodes b (stF s a g.nodes g.node):=by
 cases r with
 |nil=>exact absurd rfl hr
 |cons t r=>rw [laF]
theorem szSs_drop {l:List Sm} {i:Nat} {s:Sm} (h:l[i]?=some s):szSs (l.drop i)=szS s + szSs (l.drop (i + 1)):=by
 rw [drop_cons h,szSs]
theorem t62 (l:List Sm) (hs:∀s∈l,Sp86 s):Sp62 l:=by
 intro g a b hf Q hQ
 have hll:=szSs_len l
 have hfn:=hf.nn
 have hfl:=hf.lo
 have hfe:=hf.e
 refine sh62 _ _ _ _ _ _ _ ?_
 unfold WS62
 refine ⟨_,rfl,_,rfl,condK_by (fun h=>?_) (fun h=>?_)⟩
 ·have hl:l=[]:=by
   simp only [eqA_d,encSs_len,decide_eq_true_eq] at h
   exact List.length_eq_zero_iff.1 (by omega)
  subst hl
  rw [laF] at hQ
  refine ⟨_,rfl,_,rfl,_,rfl,?_⟩
  exact t84 g ⟨a,b,0,0,0,0,no0,noCo⟩ (by omega) _ ⟨trivial,trivial,hQ⟩
 ·have hl:l.length≠0:=by
   simp only [eqA_d,encSs_len,decide_eq_false_iff_not] at h
   omega
  have hen:=encSs_len l
  refine ⟨_,rfl,_,sub_o,?_⟩
  rw [hen,show ((l.length:Int) - 1)=((l.length - 1:Nat):Int) by omega]
  refine ⟨_,⟨slT_take (by omega),fun es he=>by cases he;exact szHd_S l⟩,_,rfl,?_⟩
  have htl:((encSs l).take (l.length - 1)).length=l.length - 1:=by rw [List.length_take];omega
  rw [htl]
  refine ⟨fun m o17 l18 l19 x20 x21 x22 x23 x24 x25=>∃(i:Nat) (G:Gr) (a':Int),i≤l.length - 1∧m=l.length - 1 - i∧o17=oG G∧l18=eE G∧l19=eH G∧x20=.l (encSs l)∧x21=ii a'∧x22=ii b∧x23=.l ((encSs l).take (l.length - 1))∧x24=ii ((l.length - 1:Nat):Int)∧x25=ii i∧
   laF l a b g=laF (l.drop i) a' b G∧fits G (szSs (l.drop i) + 1),⟨_,0,g,a,by omega,rfl,rfl,rfl,rfl,rfl,rfl,rfl,rfl,rfl,rfl,rfl,hf⟩,?_⟩
  rintro m o17 l18 l19 x20 x21 x22 x23 x24 x25 ⟨i,G,a',hi,rfl,rfl,rfl,rfl,rfl,rfl,rfl,rfl,rfl,rfl,hla,hfit⟩
  refine ⟨_,rfl,condK_by (fun h3=>?_) (fun h3=>?_)⟩
  ·replace h3:=lt_len h3
   obtain ⟨x,hx⟩:∃x,l[i]?=some x:=⟨_,List.getElem?_eq_getElem (by omega)⟩
   have hx':((encSs l).take (l.length - 1))[i]?=some (encS x):=by rw [List.getElem?_take,if_pos h3,encSs_map,List.getElem?_map,hx];rfl
   have h86:=hs x (List.mem_of_getElem? hx)
   have hdr:=szSs_drop hx
   have hne:l.drop (i + 1)≠[]:=by
    intro hc
    have:=congrArg List.length hc
    simp at this;omega
   rw [drop_cons hx,laF_cons hne] at hla
   have hfn:=hfit.nn
   have hfl:=hfit.lo
   have hpos:=szS_pos x
   have hf1:fits G.node (szS x - 1 + (szSs (l.drop (i + 1)) + 1)):=(hfit.le (m:=1 + (szS x - 1 + (szSs (l.drop (i + 1)) + 1))) (by omega)).grow (grow_node G)
   have hf2:=hf1.grow (stF_grow x a' G.nodes G.node)
   have hsz:fits G.node (szS x):=hf1.le (by omega)
   refine ⟨_,⟨idx_i hx',encS_sz x⟩,?_⟩
   obtain ⟨kind,var,chan,tag,⟨k1,n1,v1,ks1⟩,⟨op,⟨k2,n2,v2,ks2⟩,⟨k3,n3,v3,ks3⟩⟩,body,els,arms⟩:=x
   refine ⟨_,rfl,_,rfl,t85 G (by omega) _ ?_⟩
   refine ⟨_,rfl,h86 G.node a' G.nodes hsz _ ?_⟩
   refine ⟨_,next_i h3 (by omega),_,by omega,i + 1,_,_,by omega,rfl,rfl,rfl,rfl,rfl,rfl,rfl,rfl,rfl,rfl,hla,hf2⟩
  ·obtain rfl:=ge_len hi h3
   obtain ⟨x,hx⟩:∃x,l[l.length - 1]?=some x:=⟨_,List.getElem?_eq_getElem (by omega)⟩
   have hx':(encSs l)[l.length - 1]?=some (encS x):=by rw [encSs_map,List.getElem?_map,hx];rfl
   have h86:=hs x (List.mem_of_getElem? hx)
   have hdr:=szSs_drop hx
   have hd0:l.drop (l.length - 1 + 1)=[]:=by rw [List.drop_eq_nil_iff];omega
   rw [drop_cons hx,hd0,laF] at hla
   rw [hla] at hQ
   refine ⟨_,rfl,_,sub_o,?_⟩
   rw [hen,show ((l.length:Int) - 1)=((l.length - 1:Nat):Int) by omega]
   refine ⟨_,⟨idx_i hx',encS_sz x⟩,?_⟩
   have hsz:fits G (szS x):=hfit.le (by omega)
   obtain ⟨kind,var,chan,tag,⟨k1,n1,v1,ks1⟩,⟨op,⟨k2,n2,v2,ks2⟩,⟨k3,n3,v3,ks3⟩⟩,body,els,arms⟩:=x
   exact ⟨_,rfl,h86 G a' b hsz _ ⟨trivial,trivial,hQ⟩⟩
end Go.Ax.TryLr

set_option linter.unusedSimpArgs false
set_option linter.unusedVariables false
set_option maxRecDepth 100000
namespace Go.Ax.TryLr
open Go Go.Ax Go.Ax.V Go.Ax.Ft
theorem t108 (l:List Sm) (hl:Sp62 l) (c:Co) (g:Gr) (a b:Int) (hf:fits g (1 + (szSs l + 1))) (Q:TV→List TV→List TV→TV→Prop)
  (hQ:Q (oG (laF l g.nodes b (g.node.edge ⟨a,g.nodes,2,0,0,0,no0,c⟩))) (eE (laF l g.nodes b (g.node.edge ⟨a,g.nodes,2,0,0,0,no0,c⟩))) (eH (laF l g.nodes b (g.node.edge ⟨a,g.nodes,2,0,0,0,no0,c⟩))) (.tp [])) :
  S108 Q (oG g) (eE g) (eH g) (encC c) (.l (encSs l)) (ii a) (ii b):=by
 have hn:=hf.nn
 have hlo:=hf.lo
 have he:=hf.e
 have hf2:=hf.grow (grow_ne g ⟨a,g.nodes,2,0,0,0,no0,c⟩)
 have h84:=t84 g.node ⟨a,g.nodes,2,0,0,0,no0,c⟩ (by simp only [Gr.node];omega)
 obtain ⟨op,⟨k2,n2,v2,ks2⟩,⟨k3,n3,v3,ks3⟩⟩:=c
 refine sh108 _ _ _ _ _ _ _ _ ?_
 unfold WS108
 refine ⟨rfl,t85 g (by omega) _ ?_⟩
 refine ⟨_,rfl,_,rfl,_,rfl,_,rfl,_,rfl,_,rfl,h84 _ ?_⟩
 exact hl _ _ _ hf2 _ ⟨trivial,trivial,hQ⟩
theorem t110 (kind var chan tag:Int) (e:Ex) (c:Co) (body els:List Sm) (arms:List Ar) (hc:szC c≤4194304) (hl:Sp62 body) (g:Gr) (a b:Int) (hf:fits g (2 + (szSs body + 1))) (Q:TV→List TV→List TV→TV→Prop)
  (hQ:let g':=laF body g.nodes a ((((g.head a).node).edge ⟨a,g.nodes,2,0,0,0,no0,c⟩).edge ⟨a,b,2,0,0,0,no0,notC c⟩)
   Q (oG g') (eE g') (eH g') (.tp [])):S110 Q (oG g) (eE g) (eH g) (encS (.mk kind var chan tag e c body els arms)) (ii a) (ii b):=by
 have hn:=hf.nn
 have hlo:=hf.lo
 have he:=hf.e
 have hh:=hf.h
 have hlh:(eH g).length≤100000000:=by simp [eH];omega
 have h0:grow g ((((g.head a).node).edge ⟨a,g.nodes,2,0,0,0,no0,c⟩).edge ⟨a,b,2,0,0,0,no0,notC c⟩) 2:=⟨by simp [Gr.node,Gr.edge,Gr.head];omega,by simp [Gr.node,Gr.edge,Gr.head];try omega,by simp [Gr.node,Gr.edge,Gr.head],by simp [Gr.node,Gr.edge,Gr.head]⟩
 have hf2:=hf.grow h0
 have h84:=t84 (g.head a).node ⟨a,g.nodes,2,0,0,0,no0,c⟩ (by simp only [Gr.node,Gr.head];omega)
 have h84':=t84 ((g.head a).node.edge ⟨a,g.nodes,2,0,0,0,no0,c⟩) ⟨a,b,2,0,0,0,no0,notC c⟩ (by simp only [Gr.node,Gr.head,Gr.edge,List.length_append,List.length_singleton];omega)
 have h107:=s107 c hc
 have h109:=s109 c hc
 have h85:=t85 (g.head a) (by simp only [Gr.head];omega)
 have heh:eH (g.head a)=eH g++[ii a]:=by simp [eH,Gr.head]
 rw [heh] at h85
 obtain ⟨k1,n1,v1,ks1⟩:=e
 obtain ⟨op,⟨k2,n2,v2,ks2⟩,⟨k3,n3,v3,ks3⟩⟩:=c
 refine sh110 _ _ _ _ _ _ _ ?_
 unfold WS110
 refine ⟨rfl,rfl,rfl,_,rfl,rfl,_,app_o,_,rfl,h85 _ ?_⟩
 refine ⟨_,rfl,vs_eq h107 ⟨_,rfl,_,rfl,_,rfl,_,rfl,_,rfl,h84 _ ?_⟩⟩
 refine ⟨_,rfl,vs_eq h109 ⟨_,rfl,_,rfl,_,rfl,_,rfl,_,rfl,h84' _ ?_⟩⟩
 refine ⟨_,rfl,hl _ _ _ hf2 _ ⟨trivial,trivial,hQ⟩⟩
theorem t111 (kind var chan tag:Int) (e:Ex) (c:Co) (body els:List Sm) (arms:List Ar) (hl:∀tag var body,Ar.mk tag var body∈arms→Sp62 body) (g:Gr) (a b:Int) (hf:fits g (szAs arms)) (Q:TV→List TV→List TV→TV→Prop)
  (hQ:Q (oG (arF chan arms a b g)) (eE (arF chan arms a b g)) (eH (arF chan arms a b g)) (.tp [])):S111 Q (oG g) (eE g) (eH g) (encS (.mk kind var chan tag e c body els arms)) (ii a) (ii b):=by
 have hlen:=szAs_len arms
 have hn:=hf.nn
 have hlo:=hf.lo
 obtain ⟨k1,n1,v1,ks1⟩:=e
 obtain ⟨op,⟨k2,n2,v2,ks2⟩,⟨k3,n3,v3,ks3⟩⟩:=c
 refine sh111 _ _ _ _ _ _ _ ?_
 unfold WS111
 refine ⟨rfl,_,rfl,_,rfl,?_⟩
 rw [encAs_len]
 refine ⟨fun m o6 l7 l8 o9 x10 x11 x12 x13 x14=>∃(i:Nat) (G:Gr),i≤arms.length∧m=arms.length - i∧o6=oG G∧l7=eE G∧l8=eH G∧o9=encS (.mk kind var chan tag (.mk k1 n1 v1 ks1) ⟨op,.mk k2 n2 v2 ks2,.mk k3 n3 v3 ks3⟩ body els arms)∧x10=ii a∧x11=ii b∧x12=.l (encAs arms)∧x13=ii arms.length∧x14=ii i∧
   arF chan arms a b g=arF chan (arms.drop i) a b G∧fits G (szAs (arms.drop i)),⟨_,0,g,by omega,rfl,rfl,rfl,rfl,rfl,rfl,rfl,rfl,rfl,rfl,rfl,hf⟩,?_⟩
 rintro m o6 l7 l8 o9 x10 x11 x12 x13 x14 ⟨i,G,hi,rfl,rfl,rfl,rfl,rfl,rfl,rfl,rfl,rfl,rfl,har,hfit⟩
 refine ⟨_,rfl,condK_by (fun h3=>?_) (fun h3=>?_)⟩
 ·replace h3:=lt_len h3
  obtain ⟨x,hx⟩:∃x,arms[i]?=some x:=⟨_,List.getElem?_eq_getElem h3⟩
  have hx':(encAs arms)[i]?=some (encA x):=by rw [encAs_map,List.getElem?_map,hx];rfl
  obtain ⟨t,v,bd⟩:=x
  have hb:=hl t v bd (List.mem_of_getElem? hx)
  rw [drop_cons hx,arF] at har
  rw [drop_cons hx,szAs,szA] at hfit
  have hfn:=hfit.nn
  have hfl:=hfit.lo
  have hfe:=hfit.e
  have hf1:fits (G.node.edge ⟨a,G.nodes,4,v,chan,t,no0,noCo⟩) ((szSs bd + 1) + szAs (arms.drop (i + 1))):=(hfit.le (m:=1 + ((szSs bd + 1) + szAs (arms.drop (i + 1)))) (by omega)).grow (grow_ne G _)
  have hf2:=hf1.grow (laF_grow bd G.nodes b _)
  have h84:=t84 G.node ⟨a,G.nodes,4,v,chan,t,no0,noCo⟩ (by simp only [Gr.node];omega)
  refine ⟨_,⟨idx_i hx',rfl⟩,_,rfl,_,rfl,t85 G (by omega) _ ?_⟩
  refine ⟨_,rfl,_,rfl,_,rfl,_,rfl,_,rfl,_,rfl,_,rfl,_,rfl,_,rfl,_,rfl,h84 _ ?_⟩
  refine ⟨_,rfl,hb _ _ _ (hf1.le (by omega)) _ ?_⟩
  exact ⟨_,next_i h3 (by omega),_,by omega,i + 1,_,by omega,rfl,rfl,rfl,rfl,rfl,rfl,rfl,rfl,rfl,rfl,har,hf2⟩
 ·obtain rfl:=ge_len hi h3
  rw [List.drop_length,arF] at har
  rw [har] at hQ
  exact ⟨trivial,trivial,hQ⟩
theorem t86:∀(n:Nat) (s:Sm),szS s≤n→n≤4194304→Sp86 s:=by
 intro n
 induction n with
 |zero=>intro s hs;have:=szS_pos s;omega
 |succ n ih=>
  intro s hs hn
  obtain ⟨kind,var,chan,tag,e,c,body,els,arms⟩:=s
  intro g a b hf Q hQ
  rw [szS] at hs hf
  have hbody:Sp62 body:=t62 body (fun s hs'=>ih s (by have:=szSs_mem hs';omega) (by omega))
  have hels:Sp62 els:=t62 els (fun s hs'=>ih s (by have:=szSs_mem hs';omega) (by omega))
  have harms:∀tag var body,Ar.mk tag var body∈arms→Sp62 body:=fun tag var body hm=>t62 body (fun s hs'=>ih s (by
   have:=szAs_mem hm;simp only [szA] at this;have:=szSs_mem hs';omega) (by omega))
  have h106:=s106 e (by omega)
  have h107:=s107 c (by omega)
  have h109:=s109 c (by omega)
  have t110':=t110 kind var chan tag e c body els arms (by omega) hbody g a b (hf.le (by omega))
  have t111':=t111 kind var chan tag e c body els arms harms g a b (hf.le (by omega))
  have hfe:=hf.e
  have h108:=t108 body hbody c g a b (hf.le (by omega))
  have hgb:=(grow_ne g ⟨a,g.nodes,2,0,0,0,no0,c⟩).trans (laF_grow body g.nodes b (g.node.edge ⟨a,g.nodes,2,0,0,0,no0,c⟩))
  have hfb:=(hf.le (m:=(1 + (szSs body + 1)) + (1 + (szSs els + 1))) (by omega)).grow hgb
  have h108':=t108 els hels (notC c) (laF body g.nodes b (g.node.edge ⟨a,g.nodes,2,0,0,0,no0,c⟩)) a b hfb
  have h1:=t84 g ⟨a,b,1,var,0,0,e,noCo⟩ (by omega)
  have h4:=t84 g ⟨a,b,3,0,chan,tag,e,noCo⟩ (by omega)
  have h6:=t84 g ⟨a,b,5,0,0,0,no0,c⟩ (by omega)
  have h7:=t84 g ⟨a,b,6,var,0,0,no0,noCo⟩ (by omega)
  obtain ⟨k1,n1,v1,ks1⟩:=e
  obtain ⟨op,⟨k2,n2,v2,ks2⟩,⟨k3,n3,v3,ks3⟩⟩:=c
  refine sh86 _ _ _ _ _ _ _ ?_
  rw [stF] at hQ
  unfold WS86
  refine ⟨rfl,_,rfl,_,rfl,condK_by (fun h=>?_) (fun h=>?_)⟩
  ·obtain rfl:kind=1:=by simpa [eqA_d] using h
   rw [if_pos rfl] at hQ
   exact ⟨_,rfl,_,rfl,vs_eq h106 ⟨_,rfl,_,rfl,_,rfl,_,rfl,_,rfl,_,rfl,h1 _ ⟨trivial,trivial,hQ⟩⟩⟩
  have m1:¬kind=1:=by simpa [eqA_d] using h
  rw [if_neg m1] at hQ
  refine ⟨_,rfl,condK_by (fun h=>?_) (fun h=>?_)⟩
  ·obtain rfl:kind=4:=by simpa [eqA_d] using h
   rw [if_neg (by decide),if_neg (by decide),if_pos rfl] at hQ
   exact ⟨_,rfl,_,rfl,_,rfl,vs_eq h106 ⟨_,rfl,_,rfl,_,rfl,_,rfl,_,rfl,_,rfl,_,rfl,h4 _ ⟨trivial,trivial,hQ⟩⟩⟩
  have m4:¬kind=4:=by simpa [eqA_d] using h
  refine ⟨_,rfl,condK_by (fun h=>?_) (fun h=>?_)⟩
  ·obtain rfl:kind=6:=by simpa [eqA_d] using h
   rw [if_neg (by decide),if_neg (by decide),if_neg (by decide),if_neg (by decide),if_pos rfl] at hQ
   exact ⟨_,rfl,vs_eq h107 ⟨_,rfl,_,rfl,_,rfl,_,rfl,_,rfl,h6 _ ⟨trivial,trivial,hQ⟩⟩⟩
  have m6:¬kind=6:=by simpa [eqA_d] using h
  refine ⟨_,rfl,condK_by (fun h=>?_) (fun h=>?_)⟩
  ·obtain rfl:kind=7:=by simpa [eqA_d] using h
   rw [if_neg (by decide),if_neg (by decide),if_neg (by decide),if_neg (by decide),if_neg (by decide),if_pos rfl] at hQ
   exact ⟨_,rfl,_,rfl,_,rfl,_,rfl,_,rfl,_,rfl,h7 _ ⟨trivial,trivial,hQ⟩⟩
  have m7:¬kind=7:=by simpa [eqA_d] using h
  refine ⟨_,rfl,condK_by (fun h=>?_) (fun h=>?_)⟩
  ·obtain rfl:kind=2:=by simpa [eqA_d] using h
   rw [if_pos rfl] at hQ
   exact ⟨_,rfl,vs_eq h107 ⟨_,rfl,h108 _ ⟨_,rfl,vs_eq h109 ⟨_,rfl,h108' _ ⟨trivial,trivial,hQ⟩⟩⟩⟩⟩
  have m2:¬kind=2:=by simpa [eqA_d] using h
  refine ⟨_,rfl,condK_by (fun h=>?_) (fun h=>?_)⟩
  ·obtain rfl:kind=3:=by simpa [eqA_d] using h
   rw [if_neg (by decide),if_pos rfl] at hQ
   exact ⟨_,rfl,t110' _ ⟨trivial,trivial,hQ⟩⟩
  have m3:¬kind=3:=by simpa [eqA_d] using h
  refine ⟨_,rfl,condK_by (fun h=>?_) (fun h=>?_)⟩
  ·obtain rfl:kind=5:=by simpa [eqA_d] using h
   rw [if_neg (by decide),if_neg (by decide),if_neg (by decide),if_pos rfl] at hQ
   exact ⟨_,rfl,t111' _ ⟨trivial,trivial,hQ⟩⟩
  have m5:¬kind=5:=by simpa [eqA_d] using h
  rw [if_neg m2,if_neg m3,if_neg m4,if_neg m5,if_neg m6,if_neg m7] at hQ
  exact ⟨trivial,trivial,hQ⟩
theorem u62 (l:List Sm) (hl:szSs l≤4194304):Sp62 l:=t62 l (fun s hs=>t86 4194304 s (Nat.le_trans (szSs_mem hs) hl) (Nat.le_refl _))
end Go.Ax.TryLr

set_option linter.unusedSimpArgs false
set_option linter.unusedVariables false
set_option maxRecDepth 100000
namespace Go.Ax.TryLr
open Go Go.Ax Go.Ax.V Go.Ax.Ft
theorem s56 (l:List Int) (hl:l.length≤4194304):VS prog 56 [encR l] (fun r=>r=encR l):=by
 refine vs56 _ _ ?_
 unfold W56
 refine ⟨_,rfl,fun b hb=>condK_by (fun h=>?_) (fun h=>?_)⟩
 ·refine ⟨trivial,trivial,?_⟩
  have:l=[]:=by
   cases l with
   |nil=>rfl
   |cons x r=>have:=hb (by simp);rw [h] at this;cases this
  subst this;rfl
 ·have hln:(l.map ii).length≤4194304:=by rw [List.length_map];exact hl
  exact ⟨_,rfl,szHd_of (fun e he=>by obtain ⟨x,_,rfl⟩:=List.mem_map.1 he;rfl),_,app_o,trivial,trivial,rfl⟩
theorem s61 (l:List Ch) (hl:l.length≤4194304) (hr:∀c∈l,c.rule.length≤4194304) (hr2:∀c∈l,∀r∈c.rule,r.length≤4194304):VS prog 61 [.l (l.map encCh)] (fun r=>r=.l (l.map encCh)):=by
 refine vs61 _ _ ?_
 unfold W61
 have hm:(l.map encCh).length=l.length:=List.length_map _
 refine ⟨_,rfl,fun m l6 x7 x8 x9=>∃i:Nat,i≤l.length∧m=l.length - i∧l6=(l.take i).map encCh∧x7=.l (l.map encCh)∧x8=ii l.length∧x9=ii i,⟨_,0,by omega,rfl,rfl,rfl,by rw [hm],rfl⟩,?_⟩
 rintro m l6 x7 x8 x9 ⟨i,hi,rfl,rfl,rfl,rfl,rfl⟩
 refine ⟨_,rfl,condK_by (fun h3=>?_) (fun h3=>?_)⟩
 ·replace h3:=lt_len h3
  obtain ⟨c,hx⟩:∃x,l[i]?=some x:=⟨_,List.getElem?_eq_getElem h3⟩
  have hx':(l.map encCh)[i]?=some (encCh c):=by rw [List.getElem?_map,hx];rfl
  have hc:=hr c (List.mem_of_getElem? hx)
  have hc2:=hr2 c (List.mem_of_getElem? hx)
  have hmr:(c.rule.map encR).length=c.rule.length:=List.length_map _
  refine ⟨_,⟨idx_i hx',rfl⟩,?_⟩
  (repeat (first | refine ⟨rfl,?_⟩ | refine ⟨_,sub_o,?_⟩ | refine ⟨_,add_o,?_⟩ | refine ⟨_,rfl,?_⟩ | refine ⟨_,not_t _,?_⟩ | refine ⟨_,⟨rfl,rfl⟩,?_⟩ | refine gFf ?_ | refine gOt ?_ | refine pkF ?_ | refine pkT ?_ | refine pkB ?_ | refine pkO ?_ | refine gBa ?_ | refine gOa ?_))
  refine ⟨fun m o20 l21 l23 x25 x26 x27 x31 x32 x33=>∃j:Nat,j≤c.rule.length∧m=c.rule.length - j∧o20=encCh {c with rule:=[]}∧l21=(c.rule.take j).map encR∧l23=(l.take i).map encCh∧x25=.l (l.map encCh)∧x26=ii l.length∧x27=ii i∧
   x31=.l (c.rule.map encR)∧x32=ii c.rule.length∧x33=ii j,⟨_,0,by omega,rfl,rfl,rfl,rfl,rfl,rfl,rfl,rfl,by rw [hmr],rfl⟩,?_⟩
  rintro m o20 l21 l23 x25 x26 x27 x31 x32 x33 ⟨j,hj,rfl,rfl,rfl,rfl,rfl,rfl,rfl,rfl,rfl,rfl⟩
  refine ⟨_,rfl,condK_by (fun h5=>?_) (fun h5=>?_)⟩
  ·replace h5:=lt_len h5
   obtain ⟨row,hy⟩:∃x,c.rule[j]?=some x:=⟨_,List.getElem?_eq_getElem h5⟩
   have hy':(c.rule.map encR)[j]?=some (encR row):=by rw [List.getElem?_map,hy];rfl
   have h56:=s56 row (hc2 row (List.mem_of_getElem? hy))
   have hl2:((c.rule.take j).map encR).length≤4194304:=by simp;omega
   have ht:=take_map (f:=encR) hy
   refine ⟨_,⟨idx_i hy',rfl⟩,_,rfl,vs_eq h56 ⟨rfl,rfl,_,rfl,rfl,_,app_o,?_⟩⟩
   rw [ht]
   exact ⟨_,rfl,_,next_i h5 (by omega),_,by omega,j + 1,by omega,rfl,rfl,rfl,rfl,rfl,rfl,rfl,rfl,rfl,rfl⟩
  ·obtain rfl:=ge_len hj h5
   have hl2:((l.take i).map encCh).length≤4194304:=by simp;omega
   have ht:=take_map (f:=encCh) hx
   refine ⟨_,rfl,rfl,rfl,_,rfl,rfl,_,rfl,rfl,_,app_o,?_⟩
   refine ⟨_,next_i h3 (by omega),_,by omega,i + 1,by omega,rfl,?_,rfl,rfl,rfl⟩
   rw [←ht,List.take_length];rfl
 ·obtain rfl:=ge_len hi h3
  rw [List.take_length]
  exact ⟨trivial,trivial,rfl⟩
theorem s155 (n:Int):VS prog 155 [ii n] (fun r=>r=.b false):=by
 refine vs155 _ _ ?_
 unfold W155
 (repeat (first | refine ⟨rfl,?_⟩ | refine ⟨_,sub_o,?_⟩ | refine ⟨_,add_o,?_⟩ | refine ⟨_,rfl,?_⟩ | refine ⟨_,not_t _,?_⟩ | refine ⟨_,⟨rfl,rfl⟩,?_⟩ | refine gFf ?_ | refine gOt ?_ | refine pkF ?_ | refine pkT ?_ | refine pkB ?_ | refine pkO ?_ | refine gBa ?_ | refine gOa ?_))
 refine ⟨trivial,trivial,?_⟩
 rw [eqA_d];simp
end Go.Ax.TryLr

set_option linter.unusedSimpArgs false
set_option linter.unusedVariables false
set_option maxRecDepth 100000
namespace Go.Ax.TryLr
open Go Go.Ax Go.Ax.V Go.Ax.Ft
theorem s125 (e:Ex):VS prog 125 [encE e] (fun r=>r=.b (noE e)):=by
 obtain ⟨k,n,v,ks⟩:=e
 refine vs125 _ _ ?_
 unfold W125
 (repeat (first | refine ⟨rfl,?_⟩ | refine ⟨_,sub_o,?_⟩ | refine ⟨_,add_o,?_⟩ | refine ⟨_,rfl,?_⟩ | refine ⟨_,not_t _,?_⟩ | refine ⟨_,⟨rfl,rfl⟩,?_⟩ | refine gFf ?_ | refine gOt ?_ | refine pkF ?_ | refine pkT ?_ | refine pkB ?_ | refine pkO ?_ | refine gBa ?_ | refine gOa ?_))
 refine ⟨trivial,trivial,?_⟩
 simp only [eqA_d,encEs_len,isEmpty_d]
 rfl
theorem s124 (c:Co):VS prog 124 [encC c] (fun r=>r=.b (noC c)):=by
 obtain ⟨op,l,r⟩:=c
 have hl:=s125 l
 have hr:=s125 r
 obtain ⟨k1,n1,v1,ks1⟩:=l
 obtain ⟨k2,n2,v2,ks2⟩:=r
 refine vs124 _ _ ?_
 unfold W124
 (repeat (first | refine ⟨rfl,?_⟩ | refine ⟨_,sub_o,?_⟩ | refine ⟨_,add_o,?_⟩ | refine ⟨_,rfl,?_⟩ | refine ⟨_,not_t _,?_⟩ | refine ⟨_,⟨rfl,rfl⟩,?_⟩ | refine gFf ?_ | refine gOt ?_ | refine pkF ?_ | refine pkT ?_ | refine pkB ?_ | refine pkO ?_ | refine vs_eq hl ?_ | refine vs_eq hr ?_ | refine gBa ?_ | refine gB _ (fun h=>by first | exact vs_g hl | (rw [h];exact vs_g hl)) ?_ | refine gB _ (fun h=>by first | exact vs_g hr | (rw [h];exact vs_g hr)) ?_ | refine gOa ?_ | refine gO _ (fun h=>by first | exact vs_g hl | (rw [h];exact vs_g hl)) ?_ | refine gO _ (fun h=>by first | exact vs_g hr | (rw [h];exact vs_g hr)) ?_))
 refine ⟨trivial,trivial,?_⟩
 simp only [eqA_d]
 rfl
theorem okE_1 (vars n v:Int) (ks:List Ex):okE vars (.mk 1 n v ks)=(within n 0 2147483647&&decide (v=0)&&ks.isEmpty):=by
 cases ks with
 |nil=>simp [okE,okEs,kidsN,Bool.and_comm]
 |cons x r=>
  have h0:(0:Int)=(r.length:Int) + 1↔False:=⟨fun h=>by omega,fun h=>h.elim⟩
  simp [okE,kidsN,h0]
theorem okE_2 (vars n v:Int) (ks:List Ex):okE vars (.mk 2 n v ks)=(decide (n=0)&&within v 0 (vars - 1)&&ks.isEmpty):=by
 cases ks with
 |nil=>
  by_cases h:n=0
  ·subst h;simp [okE,okEs,kidsN,within]
  ·simp [okE,okEs,kidsN,h]
 |cons x r=>
  have h0:(0:Int)=(r.length:Int) + 1↔False:=⟨fun h=>by omega,fun h=>h.elim⟩
  simp [okE,kidsN,h0]
theorem okE_3 (vars n v:Int) (ks:List Ex):okE vars (.mk 3 n v ks)=(decide (n=0)&&decide (v=0)&&decide ((ks.length:Int)=1)&&okEs vars ks):=by
 by_cases h:n=0
 ·subst h
  simp only [okE,kidsN,within]
  by_cases h1:(ks.length:Int)=1
  ·simp [h1];try (by_cases hv:v=0 <;> simp [hv])
  ·have:¬(1:Int)=ks.length:=fun hc=>h1 hc.symm
   simp [h1,this]
 ·simp [okE,h]
theorem okE_4 (vars k n v:Int) (ks:List Ex) (hk:4≤k∧k≤8):okE vars (.mk k n v ks)=(decide (n=0)&&decide (v=0)&&decide ((ks.length:Int)=2)&&okEs vars ks):=by
 have n1:¬k=1:=by omega
 have n2:¬k=2:=by omega
 have n3:¬k=3:=by omega
 by_cases h:n=0
 ·subst h
  simp only [okE,kidsN,within]
  by_cases h1:(ks.length:Int)=2
  ·simp [h1,n1,n2,n3,hk];try (by_cases hv:v=0 <;> simp [hv])
  ·have:¬(2:Int)=ks.length:=fun hc=>h1 hc.symm
   simp [h1,this,n1,n2,n3,hk]
 ·simp [okE,h,n1]
theorem okE_0 (vars k n v:Int) (ks:List Ex) (n1:¬k=1) (n2:¬k=2) (n3:¬k=3) (n4:¬(4≤k∧k≤8)):okE vars (.mk k n v ks)=false:=by
 have:¬(-1:Int)=ks.length:=by omega
 simp [okE,kidsN,n1,n2,n3,n4,this]
theorem s123 (vars:Int) (hv:0≤vars∧vars≤6):∀(e:Ex),VS prog 123 [encE e,ii vars] (fun r=>r=.b (okE vars e))
 |.mk k n v ks=>by
  have ih:∀e∈ks,VS prog 123 [encE e,ii vars] (fun r=>r=.b (okE vars e)):=fun e he=>s123 vars hv e
  refine vs123 _ _ _ ?_
  unfold W123
  (repeat (first | refine ⟨rfl,?_⟩ | refine ⟨_,sub_o,?_⟩ | refine ⟨_,add_o,?_⟩ | refine ⟨_,rfl,?_⟩ | refine ⟨_,not_t _,?_⟩ | refine ⟨_,⟨rfl,rfl⟩,?_⟩ | refine gFf ?_ | refine gOt ?_ | refine pkF ?_ | refine pkT ?_ | refine pkB ?_ | refine pkO ?_ | refine gBa ?_ | refine gOa ?_))
  refine condK_by (fun h=>?_) (fun h=>?_)
  ·obtain rfl:k=1:=by simpa [eqA_d] using h
   (repeat (first | refine ⟨rfl,?_⟩ | refine ⟨_,sub_o,?_⟩ | refine ⟨_,add_o,?_⟩ | refine ⟨_,rfl,?_⟩ | refine ⟨_,not_t _,?_⟩ | refine ⟨_,⟨rfl,rfl⟩,?_⟩ | refine gFf ?_ | refine gOt ?_ | refine pkF ?_ | refine pkT ?_ | refine pkB ?_ | refine pkO ?_ | refine gBa ?_ | refine gOa ?_))
   refine ⟨trivial,trivial,?_⟩
   rw [okE_1]
   simp only [eqA_d,ltA_d,notlt,encEs_len,isEmpty_d];rfl
  have m1:¬k=1:=by simpa [eqA_d] using h
  (repeat (first | refine ⟨rfl,?_⟩ | refine ⟨_,sub_o,?_⟩ | refine ⟨_,add_o,?_⟩ | refine ⟨_,rfl,?_⟩ | refine ⟨_,not_t _,?_⟩ | refine ⟨_,⟨rfl,rfl⟩,?_⟩ | refine gFf ?_ | refine gOt ?_ | refine pkF ?_ | refine pkT ?_ | refine pkB ?_ | refine pkO ?_ | refine gBa ?_ | refine gOa ?_))
  refine condK_by (fun h=>?_) (fun h=>?_)
  ·obtain rfl:k=2:=by simpa [eqA_d] using h
   (repeat (first | refine ⟨rfl,?_⟩ | refine ⟨_,sub_o,?_⟩ | refine ⟨_,add_o,?_⟩ | refine ⟨_,rfl,?_⟩ | refine ⟨_,not_t _,?_⟩ | refine ⟨_,⟨rfl,rfl⟩,?_⟩ | refine gFf ?_ | refine gOt ?_ | refine pkF ?_ | refine pkT ?_ | refine pkB ?_ | refine pkO ?_ | refine gBa ?_ | refine gOa ?_))
   refine ⟨trivial,trivial,?_⟩
   rw [okE_2]
   simp only [eqA_d,ltA_d,notlt,encEs_len,isEmpty_d,within]
   have:decide (v < vars)=decide (v≤vars - 1):=by
    by_cases h:v < vars
    ·have:v≤vars - 1:=by omega
     simp [h,this]
    ·have:¬v≤vars - 1:=by omega
     simp [h,this]
   rw [this];simp only [Bool.and_assoc]
  have m2:¬k=2:=by simpa [eqA_d] using h
  (repeat (first | refine ⟨rfl,?_⟩ | refine ⟨_,sub_o,?_⟩ | refine ⟨_,add_o,?_⟩ | refine ⟨_,rfl,?_⟩ | refine ⟨_,not_t _,?_⟩ | refine ⟨_,⟨rfl,rfl⟩,?_⟩ | refine gFf ?_ | refine gOt ?_ | refine pkF ?_ | refine pkT ?_ | refine pkB ?_ | refine pkO ?_ | refine gBa ?_ | refine gOa ?_))
  refine condK_by (fun h=>?_) (fun h=>?_)
  ·obtain rfl:k=3:=by simpa [eqA_d] using h
   rw [okE_3]
   by_cases hl:(ks.length:Int)=1
   ·obtain ⟨x,rfl⟩:∃x,ks=[x]:=by
     match ks,hl with
     |[x],_=>exact ⟨x,rfl⟩
     |[],h=>simp at h
     |x :: y :: r,h=>simp at h;omega
    have hx:=ih x (by simp)
    obtain ⟨k1,n1,v1,ks1⟩:=x
    (repeat (first | refine ⟨rfl,?_⟩ | refine ⟨_,sub_o,?_⟩ | refine ⟨_,add_o,?_⟩ | refine ⟨_,rfl,?_⟩ | refine ⟨_,not_t _,?_⟩ | refine ⟨_,⟨rfl,rfl⟩,?_⟩ | refine gFf ?_ | refine gOt ?_ | refine pkF ?_ | refine pkT ?_ | refine pkB ?_ | refine pkO ?_ | refine vs_eq hx ?_ | refine gBa ?_ | refine gB _ (fun h=>by first | exact vs_g hx | (rw [h];exact vs_g hx)) ?_ | refine gOa ?_ | refine gO _ (fun h=>by first | exact vs_g hx | (rw [h];exact vs_g hx)) ?_))
    refine ⟨trivial,trivial,?_⟩
    simp [eqA_d,okEs,encEs_len]
   ·have e1:eqA ((encEs ks).length:Int) 1=false:=by rw [encEs_len,eqA_d];simpa using hl
    (repeat (first | refine ⟨rfl,?_⟩ | refine ⟨_,sub_o,?_⟩ | refine ⟨_,add_o,?_⟩ | refine ⟨_,rfl,?_⟩ | refine ⟨_,not_t _,?_⟩ | refine ⟨_,⟨rfl,rfl⟩,?_⟩ | refine gFf ?_ | refine gOt ?_ | refine pkF ?_ | refine pkT ?_ | refine pkB ?_ | refine pkO ?_ | refine gBa ?_ | refine gOa ?_))
    simp only [e1,Bool.and_false]
    (repeat (first | refine ⟨rfl,?_⟩ | refine ⟨_,sub_o,?_⟩ | refine ⟨_,add_o,?_⟩ | refine ⟨_,rfl,?_⟩ | refine ⟨_,not_t _,?_⟩ | refine ⟨_,⟨rfl,rfl⟩,?_⟩ | refine gFf ?_ | refine gOt ?_ | refine pkF ?_ | refine pkT ?_ | refine pkB ?_ | refine pkO ?_ | refine gBa ?_ | refine gOa ?_))
    refine ⟨trivial,trivial,?_⟩
    simp [hl]
  have m3:¬k=3:=by simpa [eqA_d] using h
  (repeat (first | refine ⟨rfl,?_⟩ | refine ⟨_,sub_o,?_⟩ | refine ⟨_,add_o,?_⟩ | refine ⟨_,rfl,?_⟩ | refine ⟨_,not_t _,?_⟩ | refine ⟨_,⟨rfl,rfl⟩,?_⟩ | refine gFf ?_ | refine gOt ?_ | refine pkF ?_ | refine pkT ?_ | refine pkB ?_ | refine pkO ?_ | refine gBa ?_ | refine gOa ?_))
  refine condK_by (fun h=>?_) (fun h=>?_)
  ·have hk:4≤k∧k≤8:=by simpa [ltA_d,notlt] using h
   rw [okE_4 vars k n v ks hk]
   by_cases hl:(ks.length:Int)=2
   ·obtain ⟨x,y,rfl⟩:∃x y,ks=[x,y]:=by
     match ks,hl with
     |[x,y],_=>exact ⟨x,y,rfl⟩
     |[],h=>simp at h
     |[x],h=>simp at h
     |x :: y :: z :: r,h=>simp at h;omega
    have hx:=ih x (by simp)
    have hy:=ih y (by simp)
    obtain ⟨k1,n1,v1,ks1⟩:=x
    obtain ⟨k2,n2,v2,ks2⟩:=y
    (repeat (first | refine ⟨rfl,?_⟩ | refine ⟨_,sub_o,?_⟩ | refine ⟨_,add_o,?_⟩ | refine ⟨_,rfl,?_⟩ | refine ⟨_,not_t _,?_⟩ | refine ⟨_,⟨rfl,rfl⟩,?_⟩ | refine gFf ?_ | refine gOt ?_ | refine pkF ?_ | refine pkT ?_ | refine pkB ?_ | refine pkO ?_ | refine vs_eq hx ?_ | refine vs_eq hy ?_ | refine gBa ?_ | refine gB _ (fun h=>by first | exact vs_g hx | (rw [h];exact vs_g hx)) ?_ | refine gB _ (fun h=>by first | exact vs_g hy | (rw [h];exact vs_g hy)) ?_ | refine gOa ?_ | refine gO _ (fun h=>by first | exact vs_g hx | (rw [h];exact vs_g hx)) ?_ | refine gO _ (fun h=>by first | exact vs_g hy | (rw [h];exact vs_g hy)) ?_))
    refine ⟨trivial,trivial,?_⟩
    simp [eqA_d,okEs,encEs_len,Bool.and_assoc]
   ·have e1:eqA ((encEs ks).length:Int) 2=false:=by rw [encEs_len,eqA_d];simpa using hl
    (repeat (first | refine ⟨rfl,?_⟩ | refine ⟨_,sub_o,?_⟩ | refine ⟨_,add_o,?_⟩ | refine ⟨_,rfl,?_⟩ | refine ⟨_,not_t _,?_⟩ | refine ⟨_,⟨rfl,rfl⟩,?_⟩ | refine gFf ?_ | refine gOt ?_ | refine pkF ?_ | refine pkT ?_ | refine pkB ?_ | refine pkO ?_ | refine gBa ?_ | refine gOa ?_))
    simp only [e1,Bool.and_false]
    (repeat (first | refine ⟨rfl,?_⟩ | refine ⟨_,sub_o,?_⟩ | refine ⟨_,add_o,?_⟩ | refine ⟨_,rfl,?_⟩ | refine ⟨_,not_t _,?_⟩ | refine ⟨_,⟨rfl,rfl⟩,?_⟩ | refine gFf ?_ | refine gOt ?_ | refine pkF ?_ | refine pkT ?_ | refine pkB ?_ | refine pkO ?_ | refine gBa ?_ | refine gOa ?_))
    refine ⟨trivial,trivial,?_⟩
    simp [hl]
  ·have hk:¬(4≤k∧k≤8):=by
    intro hc
    simp [ltA_d,notlt,hc.1,hc.2] at h
   refine ⟨trivial,trivial,?_⟩
   rw [okE_0 vars k n v ks m1 m2 m3 hk]
theorem s126 (vars:Int) (hv:0≤vars∧vars≤6) (c:Co):VS prog 126 [encC c,ii vars] (fun r=>r=.b (okC vars c)):=by
 obtain ⟨op,l,r⟩:=c
 have hl:=s123 vars hv l
 have hr:=s123 vars hv r
 obtain ⟨k1,n1,v1,ks1⟩:=l
 obtain ⟨k2,n2,v2,ks2⟩:=r
 refine vs126 _ _ _ ?_
 unfold W126
 (repeat (first | refine ⟨rfl,?_⟩ | refine ⟨_,sub_o,?_⟩ | refine ⟨_,add_o,?_⟩ | refine ⟨_,rfl,?_⟩ | refine ⟨_,not_t _,?_⟩ | refine ⟨_,⟨rfl,rfl⟩,?_⟩ | refine gFf ?_ | refine gOt ?_ | refine pkF ?_ | refine pkT ?_ | refine pkB ?_ | refine pkO ?_ | refine vs_eq hl ?_ | refine vs_eq hr ?_ | refine gBa ?_ | refine gB _ (fun h=>by first | exact vs_g hl | (rw [h];exact vs_g hl)) ?_ | refine gB _ (fun h=>by first | exact vs_g hr | (rw [h];exact vs_g hr)) ?_ | refine gOa ?_ | refine gO _ (fun h=>by first | exact vs_g hl | (rw [h];exact vs_g hl)) ?_ | refine gO _ (fun h=>by first | exact vs_g hr | (rw [h];exact vs_g hr)) ?_))
 refine ⟨trivial,trivial,?_⟩
 simp only [ltA_d,notlt];rfl
end Go.Ax.TryLr

set_option linter.unusedSimpArgs false
set_option linter.unusedVariables false
set_option maxRecDepth 100000
namespace Go.Ax.TryLr
open Go Go.Ax Go.Ax.V Go.Ax.Ft
theorem s66 (p:Pg) (proc:Nat) (vars:Int) (l:List Sm) (hl:l.length≤4194304) (ih:∀s∈l,VS prog 91 [encS s,encPg p,ii proc] (fun r=>r=.b (okS p.chans proc vars s))) :
  VS prog 66 [.l (encSs l),encPg p,ii proc] (fun r=>r=.b (okSs p.chans proc vars l)):=by
 refine vs66 _ _ _ _ ?_
 unfold W66
 refine ⟨rfl,fun m o4 x5 x6 x8=>∃i:Nat,i≤l.length∧m=l.length - i∧o4=encPg p∧x5=.l (encSs l)∧x6=ii proc∧x8=ii i∧(l.take i).all (okS p.chans proc vars)=true,
  ⟨_,0,by omega,rfl,rfl,rfl,rfl,rfl,rfl⟩,?_⟩
 rintro m o4 x5 x6 x8 ⟨i,hi,rfl,rfl,rfl,rfl,rfl,hall⟩
 refine ⟨_,rfl,_,rfl,condK_by (fun h3=>?_) (fun h3=>?_)⟩
 ·rw [encSs_len] at h3
  replace h3:=lt_len h3
  obtain ⟨y,hy⟩:∃x,l[i]?=some x:=⟨_,List.getElem?_eq_getElem h3⟩
  have hy':(encSs l)[i]?=some (encS y):=by rw [encSs_map,List.getElem?_map,hy];rfl
  have hih:=ih y (List.mem_of_getElem? hy)
  refine ⟨_,⟨idx_i hy',encS_sz y⟩,?_⟩
  obtain ⟨kind,var,chan,tag,⟨k1,n1,v1,ks1⟩,⟨op,⟨k2,n2,v2,ks2⟩,⟨k3,n3,v3,ks3⟩⟩,body,els,arms⟩:=y
  (repeat (first | refine ⟨rfl,?_⟩ | refine ⟨_,sub_o,?_⟩ | refine ⟨_,add_o,?_⟩ | refine ⟨_,rfl,?_⟩ | refine ⟨_,not_t _,?_⟩ | refine ⟨_,⟨rfl,rfl⟩,?_⟩ | refine gFf ?_ | refine gOt ?_ | refine pkF ?_ | refine pkT ?_ | refine pkB ?_ | refine pkO ?_ | refine vs_eq hih ?_ | refine gBa ?_ | refine gB _ (fun h=>by first | exact vs_g hih | (rw [h];exact vs_g hih)) ?_ | refine gOa ?_ | refine gO _ (fun h=>by first | exact vs_g hih | (rw [h];exact vs_g hih)) ?_))
  refine condK_by (fun h4=>?_) (fun h4=>?_)
  ·refine ⟨trivial,trivial,?_⟩
   rw [okSs_all,not_all (f:=okS p.chans proc vars) hy (by simpa using h4)]
  ·exact ⟨_,next_i h3 (by omega),_,by omega,i + 1,by omega,rfl,rfl,rfl,rfl,rfl,take_all hy hall (by simpa using h4)⟩
 ·rw [encSs_len] at h3
  obtain rfl:=ge_len hi h3
  rw [List.take_length] at hall
  refine ⟨trivial,trivial,?_⟩
  rw [okSs_all,hall]
theorem chan_in {chans:List Ch} {c:Int} (h:(decide (0≤c)&&decide (c < chans.length))=true):∃(k:Nat) (x:Ch),c=k∧chans[k]?=some x:=by
 simp only [Bool.and_eq_true,decide_eq_true_eq] at h
 obtain ⟨k,rfl⟩:=Int.eq_ofNat_of_zero_le h.1
 exact ⟨k,chans[k]'(by omega),rfl,List.getElem?_eq_getElem _⟩
theorem chan_out {chans:List Ch} {c proc:Int} {dst:Bool} (h:(decide (0≤c)&&decide (c < chans.length))=false):endB chans proc dst c=false:=by
 unfold endB
 split
 ·rename_i k
  split
  ·rename_i x hx
   have:=(List.getElem?_eq_some_iff.1 hx).1
   simp at h;omega
  ·rfl
 ·rfl
theorem endB_k {chans:List Ch} {k:Nat} {x:Ch} {proc:Int} {dst:Bool} (h:chans[k]?=some x):endB chans proc dst k=decide ((bif dst then x.dst else x.src)=proc):=by
 show (match chans[k]? with | some x=>_ | none=>false)=_
 rw [h]
theorem tagB_k {chans:List Ch} {k:Nat} {x:Ch} {tag:Int} (h:chans[k]?=some x):tagB chans k tag=(decide (0≤tag)&&decide (tag < x.tags)):=by
 show (match chans[(k:Int).toNat]? with | some x=>within tag 0 (x.tags - 1) | none=>false)=_
 rw [Int.toNat_natCast,h]
 simp only [within]
 congr 1
 by_cases h:tag < x.tags
 ·have:tag≤x.tags - 1:=by omega
  simp [h,this]
 ·have:¬tag≤x.tags - 1:=by omega
  simp [h,this]
theorem var_w (var vars:Int):(decide (0≤var)&&decide (var < vars))=within var 0 (vars - 1):=by
 simp only [within]
 congr 1
 by_cases h:var < vars
 ·have:var≤vars - 1:=by omega
  simp [h,this]
 ·have:¬var≤vars - 1:=by omega
  simp [h,this]
theorem ix4 {t:Nat} (h:t < 4):ixN (ii t) 4=some t:=by
 match t,h with
 |0,_=>rfl
 |1,_=>rfl
 |2,_=>rfl
 |3,_=>rfl
theorem had_ld (had:List Int) {t:Nat} (h:t < 4):ldT (hadT had) (0 + t*1) none=some (.b (had.contains (t:Int))):=by
 match t,h with
 |0,_=>rfl
 |1,_=>rfl
 |2,_=>rfl
 |3,_=>rfl
theorem had_put (had:List Int) {t:Nat} (h:t < 4):putT (hadT had) (0 + t*1) 1 (.b true)=some (hadT ((t:Int) :: had)):=by
 match t,h with
 |0,_=>simp [hadT];rfl
 |1,_=>simp [hadT];rfl
 |2,_=>simp [hadT];rfl
 |3,_=>simp [hadT];rfl
set_option maxHeartbeats 2000000 in
theorem s91_5 (p:Pg) (proc:Nat) (y:Pr) (hy:p.procs[proc]?=some y) (hc:p.chans.length≤4194304) (ht:∀x∈p.chans,1≤x.tags∧x.tags≤4)
  (var chan tag:Int) (e:Ex) (c:Co) (body els:List Sm) (arms:List Ar) (harms:∀tag var body,Ar.mk tag var body∈arms→VS prog 66 [.l (encSs body),encPg p,ii proc] (fun r=>r=.b (okSs p.chans proc y.vars body)))
  (harl:arms.length≤4194304) (h125:VS prog 125 [encE e] (fun r=>r=.b (noE e))) (h124:VS prog 124 [encC c] (fun r=>r=.b (noC c))) :
  VS prog 91 [encS (.mk 5 var chan tag e c body els arms),encPg p,ii proc] (fun r=>r=.b (okS p.chans proc y.vars (.mk 5 var chan tag e c body els arms))):=by
 have hy':(p.procs.map encPr)[proc]?=some (encPr y):=by rw [List.getElem?_map,hy];rfl
 have hlc:(p.chans.map encCh).length=p.chans.length:=List.length_map _
 obtain ⟨k1,n1,v1,ks1⟩:=e
 obtain ⟨op,⟨k2,n2,v2,ks2⟩,⟨k3,n3,v3,ks3⟩⟩:=c
 refine vs91 _ _ _ _ ?_
 unfold W91
 refine ⟨rfl,rfl,_,rfl,_,⟨idx_i hy',rfl⟩,?_⟩
 (repeat (first | refine ⟨rfl,?_⟩ | refine ⟨_,sub_o,?_⟩ | refine ⟨_,add_o,?_⟩ | refine ⟨_,rfl,?_⟩ | refine ⟨_,not_t _,?_⟩ | refine ⟨_,⟨rfl,rfl⟩,?_⟩ | refine gFf ?_ | refine gOt ?_ | refine pkF ?_ | refine pkT ?_ | refine pkB ?_ | refine pkO ?_ | refine gBa ?_ | refine gOa ?_))
 rw [hlc]
 have hchd:(!ltA chan 0&&ltA chan (p.chans.length:Int))=(decide (0≤chan)&&decide (chan < p.chans.length)):=by rw [ltA_d,ltA_d,notlt]
 rw [hchd]
 cases hch:(decide (0≤chan)&&decide (chan < (p.chans.length:Int))) with
 |false=>
  have hE:=chan_out (proc:=proc) (dst:=true) hch
  simp only [Bool.not_false,Bool.true_or]
  (repeat (first | refine ⟨rfl,?_⟩ | refine ⟨_,sub_o,?_⟩ | refine ⟨_,add_o,?_⟩ | refine ⟨_,rfl,?_⟩ | refine ⟨_,not_t _,?_⟩ | refine ⟨_,⟨rfl,rfl⟩,?_⟩ | refine gFf ?_ | refine gOt ?_ | refine pkF ?_ | refine pkT ?_ | refine pkB ?_ | refine pkO ?_ | refine gBa ?_ | refine gOa ?_))
  refine condK_t rfl ⟨trivial,trivial,?_⟩
  congr 1
  unfold okS
  simp [hE]
 |true=>
  obtain ⟨k,x,rfl,hx⟩:=chan_in hch
  have hx':(p.chans.map encCh)[k]?=some (encCh x):=by rw [List.getElem?_map,hx];rfl
  have hE:=endB_k (proc:=proc) (dst:=true) hx
  simp only [Bool.not_true,Bool.false_or]
  refine gO _ (fun h=>by rw [h];exact ⟨idx_i hx',rfl⟩) ?_
  (repeat (first | refine ⟨rfl,?_⟩ | refine ⟨_,sub_o,?_⟩ | refine ⟨_,add_o,?_⟩ | refine ⟨_,rfl,?_⟩ | refine ⟨_,not_t _,?_⟩ | refine ⟨_,⟨rfl,rfl⟩,?_⟩ | refine gFf ?_ | refine gOt ?_ | refine pkF ?_ | refine pkT ?_ | refine pkB ?_ | refine pkO ?_ | refine vs_eq h125 ?_ | refine vs_eq h124 ?_ | refine gBa ?_ | refine gB _ (fun h=>by first | exact vs_g h125 | (rw [h];exact vs_g h125)) ?_ | refine gB _ (fun h=>by first | exact vs_g h124 | (rw [h];exact vs_g h124)) ?_ | refine gOa ?_ | refine gO _ (fun h=>by first | exact vs_g h125 | (rw [h];exact vs_g h125)) ?_ | refine gO _ (fun h=>by first | exact vs_g h124 | (rw [h];exact vs_g h124)) ?_))
  refine condK_by (fun h4=>?_) (fun h4=>?_)
  ·refine ⟨trivial,trivial,?_⟩
   congr 1
   symm
   rw [Bool.eq_false_iff]
   intro hall
   unfold okS at hall
   simp only [reduceIte,Int.reduceEq,Bool.and_eq_true,decide_eq_true_eq,hE,cond_true,List.isEmpty_iff,Bool.not_eq_true',List.isEmpty_eq_false_iff] at hall
   obtain ⟨⟨⟨⟨⟨⟨⟨⟨e1,e2⟩,e3⟩,e4⟩,e5⟩,e6⟩,e7⟩,e8⟩,e9⟩:=hall
   subst e3 e4 e5 e6
   simp [eqA_d,ltA_d,encAs_len,e1,e2,e7,encSs] at h4
   exact e9 h4
  ·simp only [Bool.or_eq_false_iff,ltA_d,eqA_d,encSs_len,encAs_len,decide_eq_false_iff_not,Bool.not_eq_false',decide_eq_true_eq] at h4
   obtain ⟨⟨⟨⟨⟨⟨⟨e1,e2⟩,e3⟩,e4⟩,e5⟩,e6⟩,e7⟩,e8⟩:=h4
   have hb0:body=[]:=List.length_eq_zero_iff.1 (by omega)
   have he0:els=[]:=List.length_eq_zero_iff.1 (by omega)
   have ha0:arms≠[]:=fun hc=>e3 (by rw [hc];rfl)
   have hok:okS p.chans proc y.vars (.mk 5 var k tag (.mk k1 n1 v1 ks1) ⟨op,.mk k2 n2 v2 ks2,.mk k3 n3 v3 ks3⟩ body els arms)=okAs p.chans proc y.vars k [] arms:=by
    unfold okS
    simp [hb0,he0,ha0,e4,e5,e6,e7,e8,hE]
   rw [hok]
   have htg:=ht x (List.mem_of_getElem? hx)
   refine ⟨fun m o1 o2 o3 x4 x5 x6=>∃(i:Nat) (had:List Int),i≤arms.length∧m=arms.length - i∧o1=encS (.mk 5 var k tag (.mk k1 n1 v1 ks1) ⟨op,.mk k2 n2 v2 ks2,.mk k3 n3 v3 ks3⟩ body els arms)∧o2=encPg p∧o3=hadT had∧x4=ii proc∧x5=ii y.vars∧x6=ii i∧
    okAs p.chans proc y.vars k [] arms=okAs p.chans proc y.vars k had (arms.drop i),⟨_,0,[],by omega,rfl,rfl,rfl,rfl,rfl,rfl,rfl,rfl⟩,?_⟩
   rintro m o1 o2 o3 x4 x5 x6 ⟨i,had,hi,rfl,rfl,rfl,rfl,rfl,rfl,rfl,hoka⟩
   refine ⟨_,rfl,_,rfl,_,rfl,condK_by (fun h3=>?_) (fun h3=>?_)⟩
   ·rw [encAs_len] at h3
    replace h3:=lt_len h3
    obtain ⟨w,hw⟩:∃x,arms[i]?=some x:=⟨_,List.getElem?_eq_getElem h3⟩
    have hw':(encAs arms)[i]?=some (encA w):=by rw [encAs_map,List.getElem?_map,hw];rfl
    rw [drop_cons hw] at hoka
    obtain ⟨tg,vr,bd⟩:=w
    have hb:=harms tg vr bd (List.mem_of_getElem? hw)
    rw [okAs,tagB_k hx] at hoka
    refine ⟨_,rfl,_,⟨idx_i hw',rfl⟩,?_⟩
    (repeat (first | refine ⟨rfl,?_⟩ | refine ⟨_,sub_o,?_⟩ | refine ⟨_,add_o,?_⟩ | refine ⟨_,rfl,?_⟩ | refine ⟨_,not_t _,?_⟩ | refine ⟨_,⟨rfl,rfl⟩,?_⟩ | refine gFf ?_ | refine gOt ?_ | refine pkF ?_ | refine pkT ?_ | refine pkB ?_ | refine pkO ?_ | refine gBa ?_ | refine gOa ?_))
    refine gO _ (fun h=>by rw [h];exact ⟨idx_i hx',rfl⟩) ?_
    (repeat (first | refine ⟨rfl,?_⟩ | refine ⟨_,sub_o,?_⟩ | refine ⟨_,add_o,?_⟩ | refine ⟨_,rfl,?_⟩ | refine ⟨_,not_t _,?_⟩ | refine ⟨_,⟨rfl,rfl⟩,?_⟩ | refine gFf ?_ | refine gOt ?_ | refine pkF ?_ | refine pkT ?_ | refine pkB ?_ | refine pkO ?_ | refine gBa ?_ | refine gOa ?_))
    have hdec:(ltA tg 0||!ltA tg x.tags)=!(decide (0≤tg)&&decide (tg < x.tags)):=by
     rw [ltA_d,ltA_d,Bool.not_and]
     congr 1
     by_cases h:tg < 0
     ·have:¬0≤tg:=by omega
      simp [h,this]
     ·have:0≤tg:=by omega
      simp [h,this]
    rw [hdec]
    cases htag:(decide (0≤tg)&&decide (tg < x.tags)) with
    |false=>
     (repeat (first | refine ⟨rfl,?_⟩ | refine ⟨_,sub_o,?_⟩ | refine ⟨_,add_o,?_⟩ | refine ⟨_,rfl,?_⟩ | refine ⟨_,not_t _,?_⟩ | refine ⟨_,⟨rfl,rfl⟩,?_⟩ | refine gFf ?_ | refine gOt ?_ | refine pkF ?_ | refine pkT ?_ | refine pkB ?_ | refine pkO ?_ | refine gBa ?_ | refine gOa ?_))
     refine ⟨0,fun h=>(by cases h),?_⟩
     (repeat (first | refine ⟨rfl,?_⟩ | refine ⟨_,sub_o,?_⟩ | refine ⟨_,add_o,?_⟩ | refine ⟨_,rfl,?_⟩ | refine ⟨_,not_t _,?_⟩ | refine ⟨_,⟨rfl,rfl⟩,?_⟩ | refine gFf ?_ | refine gOt ?_ | refine pkF ?_ | refine pkT ?_ | refine pkB ?_ | refine pkO ?_ | refine gBa ?_ | refine gOa ?_))
     refine condK_t rfl ⟨trivial,trivial,?_⟩
     rw [hoka,htag];rfl
    |true=>
     obtain ⟨t,rfl⟩:∃t:Nat,tg=t:=Int.eq_ofNat_of_zero_le (by simp at htag;omega)
     have h4:t < 4:=by simp at htag;omega
     (repeat (first | refine ⟨rfl,?_⟩ | refine ⟨_,sub_o,?_⟩ | refine ⟨_,add_o,?_⟩ | refine ⟨_,rfl,?_⟩ | refine ⟨_,not_t _,?_⟩ | refine ⟨_,⟨rfl,rfl⟩,?_⟩ | refine gFf ?_ | refine gOt ?_ | refine pkF ?_ | refine pkT ?_ | refine pkB ?_ | refine pkO ?_ | refine gBa ?_ | refine gOa ?_))
     refine ⟨t,fun _=>ix4 h4,?_⟩
     refine ⟨rfl,gO _ (fun _=>had_ld had h4) ?_⟩
     (repeat (first | refine ⟨rfl,?_⟩ | refine ⟨_,sub_o,?_⟩ | refine ⟨_,add_o,?_⟩ | refine ⟨_,rfl,?_⟩ | refine ⟨_,not_t _,?_⟩ | refine ⟨_,⟨rfl,rfl⟩,?_⟩ | refine gFf ?_ | refine gOt ?_ | refine pkF ?_ | refine pkT ?_ | refine pkB ?_ | refine pkO ?_ | refine vs_eq hb ?_ | refine gBa ?_ | refine gB _ (fun h=>by first | exact vs_g hb | (rw [h];exact vs_g hb)) ?_ | refine gOa ?_ | refine gO _ (fun h=>by first | exact vs_g hb | (rw [h];exact vs_g hb)) ?_))
     refine condK_by (fun h5=>?_) (fun h5=>?_)
     ·refine ⟨trivial,trivial,?_⟩
      rw [hoka,htag]
      simp only [ltA_d] at h5
      congr 1
      symm
      rw [Bool.eq_false_iff]
      intro hall
      simp only [within,Bool.true_and,Bool.and_eq_true,Bool.not_eq_true',decide_eq_true_eq] at hall
      obtain ⟨⟨⟨g1,g2⟩,g3⟩,g4⟩:=hall
      simp only [g1,g3,Bool.or_eq_true,Bool.not_eq_true',decide_eq_true_eq,decide_eq_false_iff_not] at h5
      simp at h5
      omega
     ·simp only [ltA_d,Bool.or_eq_false_iff,Bool.not_eq_false',decide_eq_true_eq,decide_eq_false_iff_not] at h5
      refine ⟨_,rfl,_,ix4 h4,_,had_put had h4,_,next_i h3 (by omega),_,by omega,i + 1,_,by omega,rfl,rfl,rfl,rfl,rfl,rfl,rfl,?_⟩
      rw [hoka,htag]
      obtain ⟨⟨⟨g1,g2⟩,g3⟩,g4⟩:=h5
      have g5:within vr 0 (y.vars - 1)=true:=by
       simp only [within,Bool.and_eq_true,decide_eq_true_eq];omega
      rw [g1,g4,g5];rfl
   ·rw [encAs_len] at h3
    obtain rfl:=ge_len hi h3
    rw [List.drop_length,okAs] at hoka
    refine ⟨trivial,trivial,?_⟩
    rw [hoka]
set_option maxHeartbeats 2000000 in
theorem s91 (p:Pg) (proc:Nat) (y:Pr) (hy:p.procs[proc]?=some y) (hv:0≤y.vars∧y.vars≤6) (hc:p.chans.length≤4194304) (ht:∀x∈p.chans,1≤x.tags∧x.tags≤4) :
  ∀(n:Nat) (s:Sm),szS s≤n→n≤4194304→VS prog 91 [encS s,encPg p,ii proc] (fun r=>r=.b (okS p.chans proc y.vars s)):=by
 intro n
 induction n with
 |zero=>intro s hs;have:=szS_pos s;omega
 |succ n ih=>
  intro s hs hn
  obtain ⟨kind,var,chan,tag,e,c,body,els,arms⟩:=s
  rw [szS] at hs
  have hbody:VS prog 66 [.l (encSs body),encPg p,ii proc] (fun r=>r=.b (okSs p.chans proc y.vars body)):=
   s66 p proc y.vars body (by have:=szSs_len body;omega) (fun s hs'=>ih s (by have:=szSs_mem hs';omega) (by omega))
  have hels:VS prog 66 [.l (encSs els),encPg p,ii proc] (fun r=>r=.b (okSs p.chans proc y.vars els)):=
   s66 p proc y.vars els (by have:=szSs_len els;omega) (fun s hs'=>ih s (by have:=szSs_mem hs';omega) (by omega))
  have harms:∀tag var body,Ar.mk tag var body∈arms→VS prog 66 [.l (encSs body),encPg p,ii proc] (fun r=>r=.b (okSs p.chans proc y.vars body)):=fun tag var body hm=>
   s66 p proc y.vars body (by have:=szAs_mem hm;simp only [szA] at this;have:=szSs_len body;omega) (fun s hs'=>ih s (by have:=szAs_mem hm;simp only [szA] at this;have:=szSs_mem hs';omega) (by omega))
  have harl:=szAs_len arms
  have h125:=s125 e
  have h124:=s124 c
  have h123:=s123 y.vars hv e
  have h126:=s126 y.vars hv c
  have hy':(p.procs.map encPr)[proc]?=some (encPr y):=by rw [List.getElem?_map,hy];rfl
  have hlc:(p.chans.map encCh).length=p.chans.length:=List.length_map _
  by_cases k5:kind=5
  ·subst k5
   exact s91_5 p proc y hy hc ht var chan tag e c body els arms harms (by omega) h125 h124
  obtain ⟨k1,n1,v1,ks1⟩:=e
  obtain ⟨op,⟨k2,n2,v2,ks2⟩,⟨k3,n3,v3,ks3⟩⟩:=c
  refine vs91 _ _ _ _ ?_
  unfold W91
  refine ⟨rfl,rfl,_,rfl,_,⟨idx_i hy',rfl⟩,?_⟩
  (repeat (first | refine ⟨rfl,?_⟩ | refine ⟨_,sub_o,?_⟩ | refine ⟨_,add_o,?_⟩ | refine ⟨_,rfl,?_⟩ | refine ⟨_,not_t _,?_⟩ | refine ⟨_,⟨rfl,rfl⟩,?_⟩ | refine gFf ?_ | refine gOt ?_ | refine pkF ?_ | refine pkT ?_ | refine pkB ?_ | refine pkO ?_ | refine gBa ?_ | refine gOa ?_))
  rw [hlc]
  refine condK_by (fun h=>?_) (fun h=>?_)
  ·obtain rfl:kind=1:=by simpa [eqA_d] using h
   (repeat (first | refine ⟨rfl,?_⟩ | refine ⟨_,sub_o,?_⟩ | refine ⟨_,add_o,?_⟩ | refine ⟨_,rfl,?_⟩ | refine ⟨_,not_t _,?_⟩ | refine ⟨_,⟨rfl,rfl⟩,?_⟩ | refine gFf ?_ | refine gOt ?_ | refine pkF ?_ | refine pkT ?_ | refine pkB ?_ | refine pkO ?_ | refine vs_eq h123 ?_ | refine vs_eq h124 ?_ | refine gBa ?_ | refine gB _ (fun h=>by first | exact vs_g h123 | (rw [h];exact vs_g h123)) ?_ | refine gB _ (fun h=>by first | exact vs_g h124 | (rw [h];exact vs_g h124)) ?_ | refine gOa ?_ | refine gO _ (fun h=>by first | exact vs_g h123 | (rw [h];exact vs_g h123)) ?_ | refine gO _ (fun h=>by first | exact vs_g h124 | (rw [h];exact vs_g h124)) ?_))
   refine ⟨trivial,trivial,?_⟩
   congr 1
   unfold okS
   simp only [eqA_d,ltA_d,notlt,encSs_len,encAs_len,isEmpty_d,var_w,reduceIte,Int.reduceEq]
   ac_rfl
  have m1:¬kind=1:=by simpa [eqA_d] using h
  refine ⟨_,rfl,condK_by (fun h=>condK_t h ?_) (fun h=>?_)⟩
  ·obtain rfl:kind=2:=by simpa [eqA_d] using h
   (repeat (first | refine ⟨rfl,?_⟩ | refine ⟨_,sub_o,?_⟩ | refine ⟨_,add_o,?_⟩ | refine ⟨_,rfl,?_⟩ | refine ⟨_,not_t _,?_⟩ | refine ⟨_,⟨rfl,rfl⟩,?_⟩ | refine gFf ?_ | refine gOt ?_ | refine pkF ?_ | refine pkT ?_ | refine pkB ?_ | refine pkO ?_ | refine vs_eq h125 ?_ | refine vs_eq h126 ?_ | refine vs_eq hbody ?_ | refine vs_eq hels ?_ | refine gBa ?_ | refine gB _ (fun h=>by first | exact vs_g h125 | (rw [h];exact vs_g h125)) ?_ | refine gB _ (fun h=>by first | exact vs_g h126 | (rw [h];exact vs_g h126)) ?_ | refine gB _ (fun h=>by first | exact vs_g hbody | (rw [h];exact vs_g hbody)) ?_ | refine gB _ (fun h=>by first | exact vs_g hels | (rw [h];exact vs_g hels)) ?_ | refine gOa ?_ | refine gO _ (fun h=>by first | exact vs_g h125 | (rw [h];exact vs_g h125)) ?_ | refine gO _ (fun h=>by first | exact vs_g h126 | (rw [h];exact vs_g h126)) ?_ | refine gO _ (fun h=>by first | exact vs_g hbody | (rw [h];exact vs_g hbody)) ?_ | refine gO _ (fun h=>by first | exact vs_g hels | (rw [h];exact vs_g hels)) ?_ | refine gOBa ?_ | refine gOB _ (fun h h'=>by rw [h,h'];exact vs_g h125) ?_ | refine gOB _ (fun h h'=>by rw [h,h'];exact vs_g h126) ?_ | refine gOB _ (fun h h'=>by rw [h,h'];exact vs_g hbody) ?_ | refine gOB _ (fun h h'=>by rw [h,h'];exact vs_g hels) ?_ | refine gOOa ?_ | refine gOO _ (fun h h'=>by rw [h,h'];exact vs_g h125) ?_ | refine gOO _ (fun h h'=>by rw [h,h'];exact vs_g h126) ?_ | refine gOO _ (fun h h'=>by rw [h,h'];exact vs_g hbody) ?_ | refine gOO _ (fun h h'=>by rw [h,h'];exact vs_g hels) ?_ | refine gBBa ?_ | refine gBB _ (fun h h'=>by rw [h,h'];exact vs_g h125) ?_ | refine gBB _ (fun h h'=>by rw [h,h'];exact vs_g h126) ?_ | refine gBB _ (fun h h'=>by rw [h,h'];exact vs_g hbody) ?_ | refine gBB _ (fun h h'=>by rw [h,h'];exact vs_g hels) ?_ | refine gBOa ?_ | refine gBO _ (fun h h'=>by rw [h,h'];exact vs_g h125) ?_ | refine gBO _ (fun h h'=>by rw [h,h'];exact vs_g h126) ?_ | refine gBO _ (fun h h'=>by rw [h,h'];exact vs_g hbody) ?_ | refine gBO _ (fun h h'=>by rw [h,h'];exact vs_g hels) ?_))
   refine ⟨trivial,trivial,?_⟩
   congr 1
   unfold okS
   simp only [eqA_d,ltA_d,notlt,encSs_len,encAs_len,isEmpty_d,var_w,reduceIte,Int.reduceEq,Bool.and_true,Bool.true_and]
   ac_rfl
  have m2:¬kind=2:=by simpa [eqA_d] using h
  refine ⟨_,rfl,condK_by (fun h=>?_) (fun h=>?_)⟩
  ·obtain rfl:kind=3:=by simpa [eqA_d] using h
   have e2:eqA 3 2=false:=rfl
   (repeat (first | refine ⟨rfl,?_⟩ | refine ⟨_,sub_o,?_⟩ | refine ⟨_,add_o,?_⟩ | refine ⟨_,rfl,?_⟩ | refine ⟨_,not_t _,?_⟩ | refine ⟨_,⟨rfl,rfl⟩,?_⟩ | refine gFf ?_ | refine gOt ?_ | refine pkF ?_ | refine pkT ?_ | refine pkB ?_ | refine pkO ?_ | refine vs_eq h125 ?_ | refine vs_eq h126 ?_ | refine vs_eq hbody ?_ | refine vs_eq hels ?_ | refine gBa ?_ | refine gB _ (fun h=>by first | exact vs_g h125 | (rw [h];exact vs_g h125)) ?_ | refine gB _ (fun h=>by first | exact vs_g h126 | (rw [h];exact vs_g h126)) ?_ | refine gB _ (fun h=>by first | exact vs_g hbody | (rw [h];exact vs_g hbody)) ?_ | refine gB _ (fun h=>by first | exact vs_g hels | (rw [h];exact vs_g hels)) ?_ | refine gOa ?_ | refine gO _ (fun h=>by first | exact vs_g h125 | (rw [h];exact vs_g h125)) ?_ | refine gO _ (fun h=>by first | exact vs_g h126 | (rw [h];exact vs_g h126)) ?_ | refine gO _ (fun h=>by first | exact vs_g hbody | (rw [h];exact vs_g hbody)) ?_ | refine gO _ (fun h=>by first | exact vs_g hels | (rw [h];exact vs_g hels)) ?_ | refine gOBa ?_ | refine gOB _ (fun h h'=>by rw [h,h'];exact vs_g h125) ?_ | refine gOB _ (fun h h'=>by rw [h,h'];exact vs_g h126) ?_ | refine gOB _ (fun h h'=>by rw [h,h'];exact vs_g hbody) ?_ | refine gOB _ (fun h h'=>by rw [h,h'];exact vs_g hels) ?_ | refine gOOa ?_ | refine gOO _ (fun h h'=>by rw [h,h'];exact vs_g h125) ?_ | refine gOO _ (fun h h'=>by rw [h,h'];exact vs_g h126) ?_ | refine gOO _ (fun h h'=>by rw [h,h'];exact vs_g hbody) ?_ | refine gOO _ (fun h h'=>by rw [h,h'];exact vs_g hels) ?_ | refine gBBa ?_ | refine gBB _ (fun h h'=>by rw [h,h'];exact vs_g h125) ?_ | refine gBB _ (fun h h'=>by rw [h,h'];exact vs_g h126) ?_ | refine gBB _ (fun h h'=>by rw [h,h'];exact vs_g hbody) ?_ | refine gBB _ (fun h h'=>by rw [h,h'];exact vs_g hels) ?_ | refine gBOa ?_ | refine gBO _ (fun h h'=>by rw [h,h'];exact vs_g h125) ?_ | refine gBO _ (fun h h'=>by rw [h,h'];exact vs_g h126) ?_ | refine gBO _ (fun h h'=>by rw [h,h'];exact vs_g hbody) ?_ | refine gBO _ (fun h h'=>by rw [h,h'];exact vs_g hels) ?_))
   refine ⟨trivial,trivial,?_⟩
   congr 1
   unfold okS
   simp only [eqA_d,ltA_d,notlt,encSs_len,encAs_len,isEmpty_d,var_w,reduceIte,Int.reduceEq,Bool.and_true,Bool.true_and,decide_false,Bool.false_or]
   cases els with
   |nil=>
    simp only [List.isEmpty_nil,okSs,Bool.and_true,Bool.true_and]
    ac_rfl
   |cons x r=>simp
  have m3:¬kind=3:=by simpa [eqA_d] using h
  have hchd:(!ltA chan 0&&ltA chan (p.chans.length:Int))=(decide (0≤chan)&&decide (chan < p.chans.length)):=by rw [ltA_d,ltA_d,notlt]
  rw [hchd]
  refine ⟨_,rfl,condK_by (fun h=>?_) (fun h=>?_)⟩
  ·obtain rfl:kind=4:=by simpa [eqA_d] using h
   cases hch:(decide (0≤chan)&&decide (chan < (p.chans.length:Int))) with
   |false=>
    have hE:=chan_out (proc:=proc) (dst:=false) hch
    (repeat (first | refine ⟨rfl,?_⟩ | refine ⟨_,sub_o,?_⟩ | refine ⟨_,add_o,?_⟩ | refine ⟨_,rfl,?_⟩ | refine ⟨_,not_t _,?_⟩ | refine ⟨_,⟨rfl,rfl⟩,?_⟩ | refine gFf ?_ | refine gOt ?_ | refine pkF ?_ | refine pkT ?_ | refine pkB ?_ | refine pkO ?_ | refine gBa ?_ | refine gOa ?_))
    refine ⟨trivial,trivial,?_⟩
    congr 1
    unfold okS
    simp [hE]
   |true=>
    obtain ⟨k,x,rfl,hx⟩:=chan_in hch
    have hx':(p.chans.map encCh)[k]?=some (encCh x):=by rw [List.getElem?_map,hx];rfl
    have hE:=endB_k (proc:=proc) (dst:=false) hx
    have hT:=tagB_k (tag:=tag) hx
    (repeat (first | refine ⟨rfl,?_⟩ | refine ⟨_,sub_o,?_⟩ | refine ⟨_,add_o,?_⟩ | refine ⟨_,rfl,?_⟩ | refine ⟨_,not_t _,?_⟩ | refine ⟨_,⟨rfl,rfl⟩,?_⟩ | refine gFf ?_ | refine gOt ?_ | refine pkF ?_ | refine pkT ?_ | refine pkB ?_ | refine pkO ?_ | refine gBa ?_ | refine gOa ?_))
    refine gB _ (fun h=>by rw [h];exact ⟨idx_i hx',rfl⟩) ?_
    (repeat (first | refine ⟨rfl,?_⟩ | refine ⟨_,sub_o,?_⟩ | refine ⟨_,add_o,?_⟩ | refine ⟨_,rfl,?_⟩ | refine ⟨_,not_t _,?_⟩ | refine ⟨_,⟨rfl,rfl⟩,?_⟩ | refine gFf ?_ | refine gOt ?_ | refine pkF ?_ | refine pkT ?_ | refine pkB ?_ | refine pkO ?_ | refine gBa ?_ | refine gOa ?_))
    refine gB _ (fun h=>by rw [h];exact ⟨idx_i hx',rfl⟩) ?_
    (repeat (first | refine ⟨rfl,?_⟩ | refine ⟨_,sub_o,?_⟩ | refine ⟨_,add_o,?_⟩ | refine ⟨_,rfl,?_⟩ | refine ⟨_,not_t _,?_⟩ | refine ⟨_,⟨rfl,rfl⟩,?_⟩ | refine gFf ?_ | refine gOt ?_ | refine pkF ?_ | refine pkT ?_ | refine pkB ?_ | refine pkO ?_ | refine vs_eq h123 ?_ | refine vs_eq h124 ?_ | refine gBa ?_ | refine gB _ (fun h=>by first | exact vs_g h123 | (rw [h];exact vs_g h123)) ?_ | refine gB _ (fun h=>by first | exact vs_g h124 | (rw [h];exact vs_g h124)) ?_ | refine gOa ?_ | refine gO _ (fun h=>by first | exact vs_g h123 | (rw [h];exact vs_g h123)) ?_ | refine gO _ (fun h=>by first | exact vs_g h124 | (rw [h];exact vs_g h124)) ?_))
    refine ⟨trivial,trivial,?_⟩
    congr 1
    unfold okS
    simp only [eqA_d,ltA_d,notlt,encSs_len,encAs_len,isEmpty_d,reduceIte,Int.reduceEq,Bool.and_true,Bool.true_and,hE,hT,cond_false]
    ac_rfl
  have m4:¬kind=4:=by simpa [eqA_d] using h
  refine ⟨_,rfl,condK_by (fun h=>?_) (fun h=>?_)⟩
  ·exact absurd (by simpa [eqA_d] using h) k5
  have m5:¬kind=5:=by simpa [eqA_d] using h
  refine ⟨_,rfl,condK_by (fun h=>?_) (fun h=>?_)⟩
  ·obtain rfl:kind=6:=by simpa [eqA_d] using h
   (repeat (first | refine ⟨rfl,?_⟩ | refine ⟨_,sub_o,?_⟩ | refine ⟨_,add_o,?_⟩ | refine ⟨_,rfl,?_⟩ | refine ⟨_,not_t _,?_⟩ | refine ⟨_,⟨rfl,rfl⟩,?_⟩ | refine gFf ?_ | refine gOt ?_ | refine pkF ?_ | refine pkT ?_ | refine pkB ?_ | refine pkO ?_ | refine vs_eq h125 ?_ | refine vs_eq h126 ?_ | refine gBa ?_ | refine gB _ (fun h=>by first | exact vs_g h125 | (rw [h];exact vs_g h125)) ?_ | refine gB _ (fun h=>by first | exact vs_g h126 | (rw [h];exact vs_g h126)) ?_ | refine gOa ?_ | refine gO _ (fun h=>by first | exact vs_g h125 | (rw [h];exact vs_g h125)) ?_ | refine gO _ (fun h=>by first | exact vs_g h126 | (rw [h];exact vs_g h126)) ?_))
   refine ⟨trivial,trivial,?_⟩
   congr 1
   unfold okS
   simp only [eqA_d,ltA_d,notlt,encSs_len,encAs_len,isEmpty_d,var_w,reduceIte,Int.reduceEq,Bool.and_true,Bool.true_and]
   ac_rfl
  have m6:¬kind=6:=by simpa [eqA_d] using h
  refine ⟨_,rfl,condK_by (fun h=>?_) (fun h=>?_)⟩
  ·obtain rfl:kind=7:=by simpa [eqA_d] using h
   (repeat (first | refine ⟨rfl,?_⟩ | refine ⟨_,sub_o,?_⟩ | refine ⟨_,add_o,?_⟩ | refine ⟨_,rfl,?_⟩ | refine ⟨_,not_t _,?_⟩ | refine ⟨_,⟨rfl,rfl⟩,?_⟩ | refine gFf ?_ | refine gOt ?_ | refine pkF ?_ | refine pkT ?_ | refine pkB ?_ | refine pkO ?_ | refine vs_eq h125 ?_ | refine vs_eq h124 ?_ | refine gBa ?_ | refine gB _ (fun h=>by first | exact vs_g h125 | (rw [h];exact vs_g h125)) ?_ | refine gB _ (fun h=>by first | exact vs_g h124 | (rw [h];exact vs_g h124)) ?_ | refine gOa ?_ | refine gO _ (fun h=>by first | exact vs_g h125 | (rw [h];exact vs_g h125)) ?_ | refine gO _ (fun h=>by first | exact vs_g h124 | (rw [h];exact vs_g h124)) ?_))
   refine ⟨trivial,trivial,?_⟩
   congr 1
   unfold okS
   simp only [eqA_d,ltA_d,notlt,encSs_len,encAs_len,isEmpty_d,var_w,reduceIte,Int.reduceEq,Bool.and_true,Bool.true_and]
   ac_rfl
  have m7:¬kind=7:=by simpa [eqA_d] using h
  refine ⟨trivial,trivial,?_⟩
  congr 1
  unfold okS
  simp [m1,m2,m3,m4,m5,m6,m7]
end Go.Ax.TryLr

set_option linter.unusedSimpArgs false
set_option linter.unusedVariables false
set_option maxRecDepth 100000
namespace Go.Ax.TryLr
open Go Go.Ax Go.Ax.V Go.Ax.Ft
set_option maxHeartbeats 2000000 in
theorem s47 (p:Pg) (hz:szPg p):VS prog 47 [encPg p] (fun r=>r=.b (okPg p)):=by
 have hlc:=hz.chans
 have hlp:=hz.procs
 have hl1:(p.chans.map encCh).length=p.chans.length:=List.length_map _
 have hl2:(p.procs.map encPr).length=p.procs.length:=List.length_map _
 refine vs47 _ _ ?_
 unfold W47
 (repeat (first | refine ⟨rfl,?_⟩ | refine ⟨_,sub_o,?_⟩ | refine ⟨_,add_o,?_⟩ | refine ⟨_,rfl,?_⟩ | refine ⟨_,not_t _,?_⟩ | refine ⟨_,⟨rfl,rfl⟩,?_⟩ | refine gFf ?_ | refine gOt ?_ | refine pkF ?_ | refine pkT ?_ | refine pkB ?_ | refine pkO ?_ | refine gBa ?_ | refine gOa ?_))
 rw [hl1,hl2]
 refine condK_by (fun h=>?_) (fun h=>?_)
 ·refine ⟨trivial,trivial,?_⟩
  congr 1
  unfold okPg
  simp only [ltA_d,Bool.or_eq_true,decide_eq_true_eq] at h
  symm
  simp only [Bool.and_eq_false_iff,decide_eq_false_iff_not]
  omega
 simp only [ltA_d,Bool.or_eq_false_iff,decide_eq_false_iff_not] at h
 obtain ⟨⟨hc4,hp1⟩,hp4⟩:=h
 have hok:okPg p=(p.chans.all (okCh p.procs.length)&&okPs p.chans 0 p.procs):=by
  unfold okPg
  rw [decide_eq_true (show p.chans.length≤4 by omega),decide_eq_true (show 1≤p.procs.length by omega),decide_eq_true (show p.procs.length≤4 by omega)]
  simp
 refine ⟨fun m o x=>∃i:Nat,i≤p.chans.length∧m=p.chans.length - i∧o=encPg p∧x=ii i∧(p.chans.take i).all (okCh p.procs.length)=true,⟨_,0,by omega,rfl,rfl,rfl,rfl⟩,?_⟩
 rintro m o x ⟨i,hi,rfl,rfl,rfl,hall⟩
 refine ⟨_,rfl,_,rfl,_,rfl,condK_by (fun h3=>?_) (fun h3=>?_)⟩
 ·rw [hl1] at h3
  replace h3:=lt_len h3
  obtain ⟨c,hy⟩:∃x,p.chans[i]?=some x:=⟨_,List.getElem?_eq_getElem h3⟩
  have hy':(p.chans.map encCh)[i]?=some (encCh c):=by rw [List.getElem?_map,hy];rfl
  have hym:=List.mem_of_getElem? hy
  have hrl:=hz.rules c hym
  have hmr:(c.rule.map encR).length=c.rule.length:=List.length_map _
  refine ⟨_,rfl,_,⟨idx_i hy',rfl⟩,?_⟩
  (repeat (first | refine ⟨rfl,?_⟩ | refine ⟨_,sub_o,?_⟩ | refine ⟨_,add_o,?_⟩ | refine ⟨_,rfl,?_⟩ | refine ⟨_,not_t _,?_⟩ | refine ⟨_,⟨rfl,rfl⟩,?_⟩ | refine gFf ?_ | refine gOt ?_ | refine pkF ?_ | refine pkT ?_ | refine pkB ?_ | refine pkO ?_ | refine gBa ?_ | refine gOa ?_))
  rw [hl2,hmr]
  refine condK_by (fun h4=>?_) (fun h4=>?_)
  ·refine ⟨trivial,trivial,?_⟩
   rw [hok]
   have hbad:okCh p.procs.length c=false:=by
    rw [Bool.eq_false_iff]
    intro hall
    simp only [okCh,within,Bool.and_eq_true,decide_eq_true_eq,Bool.not_eq_true',decide_eq_false_iff_not] at hall
    obtain ⟨⟨⟨⟨⟨⟨⟨a1,a2⟩,b1,b2⟩,c1,c2⟩,d1,d2⟩,e1,e2⟩,f1⟩,g1⟩:=hall
    have g2:c.rule.length≤8:=by
     unfold ruled at g1
     split at g1
     ·simp only [Bool.or_eq_true,Bool.and_eq_true,decide_eq_true_eq] at g1
      rcases g1 with g1 | g1
      ·rw [List.isEmpty_iff.1 g1];simp
      ·omega
     ·cases g1
    simp only [ltA_d,eqA_d,Bool.or_eq_true,Bool.not_eq_true',decide_eq_true_eq,decide_eq_false_iff_not] at h4
    omega
   rw [not_all (f:=okCh p.procs.length) hy hbad];rfl
  simp only [ltA_d,eqA_d,Bool.or_eq_false_iff,Bool.not_eq_false',decide_eq_true_eq,decide_eq_false_iff_not] at h4
  have hch:okCh p.procs.length c=ruled c:=by
   simp only [okCh,within]
   have e1:decide (0≤c.kind)=true:=by simp;omega
   have e2:decide (c.kind≤2)=true:=by simp;omega
   have e3:decide (1≤c.size)=true:=by simp;omega
   have e4:decide (c.size≤16)=true:=by simp;omega
   have e5:decide (1≤c.tags)=true:=by simp;omega
   have e6:decide (c.tags≤4)=true:=by simp;omega
   have e7:decide (0≤c.src)=true:=by simp;omega
   have e8:decide (c.src≤(p.procs.length:Int) - 1)=true:=by simp;omega
   have e9:decide (0≤c.dst)=true:=by simp;omega
   have e10:decide (c.dst≤(p.procs.length:Int) - 1)=true:=by simp;omega
   have e11:decide (c.src=c.dst)=false:=by simp;omega
   rw [e1,e2,e3,e4,e5,e6,e7,e8,e9,e10,e11];simp
  have hbad:ruled c=false→okPg p=false:=fun hr=>by rw [hok,not_all (f:=okCh p.procs.length) hy (by rw [hch,hr])];rfl
  refine ⟨fun m o1 o2 x1 x2 x3=>∃(j:Nat) (T:Int),j≤c.rule.length∧m=c.rule.length - j∧o1=encPg p∧o2=encCh c∧x1=ii i∧x2=ii T∧x3=ii j∧topRs c.rule.length c.tags 0 c.rule 0=topRs c.rule.length c.tags j (c.rule.drop j) T,
   ⟨_,0,0,by omega,rfl,rfl,rfl,rfl,rfl,rfl,rfl⟩,?_⟩
  rintro m o1 o2 x1 x2 x3 ⟨j,T,hj,rfl,rfl,rfl,rfl,rfl,rfl,htop⟩
  refine ⟨_,rfl,_,rfl,_,rfl,condK_by (fun h5=>?_) (fun h5=>?_)⟩
  ·rw [hmr] at h5
   replace h5:=lt_len h5
   obtain ⟨row,hx⟩:∃x,c.rule[j]?=some x:=⟨_,List.getElem?_eq_getElem h5⟩
   have hx':(c.rule.map encR)[j]?=some (encR row):=by rw [List.getElem?_map,hx];rfl
   have hrow:(row.map ii).length=row.length:=List.length_map _
   rw [drop_cons hx,topRs] at htop
   refine ⟨_,rfl,_,⟨idx_i hx',rfl⟩,_,rfl,_,rfl,_,rfl,_,rfl,?_⟩
   rw [hrow]
   refine condK_by (fun h6=>?_) (fun h6=>?_)
   ·refine ⟨trivial,trivial,?_⟩
    simp only [eqA_d,Bool.not_eq_true',decide_eq_false_iff_not] at h6
    rw [if_neg h6] at htop
    rw [hbad (by unfold ruled;rw [htop])]
   simp only [eqA_d,Bool.not_eq_false',decide_eq_true_eq] at h6
   rw [if_pos h6] at htop
   refine ⟨fun m o1 o2 x1 x2 x3 x4=>∃(q:Nat) (U:Int),q≤row.length∧m=row.length - q∧o1=encPg p∧o2=encCh c∧x1=ii i∧x2=ii U∧x3=ii j∧x4=ii q∧topR c.rule.length j row T=topR c.rule.length j (row.drop q) U,
    ⟨_,0,T,by omega,rfl,rfl,rfl,rfl,rfl,rfl,rfl,rfl⟩,?_⟩
   rintro m o1 o2 x1 x2 x3 x4 ⟨q,U,hq,rfl,rfl,rfl,rfl,rfl,rfl,rfl,hin⟩
   refine ⟨_,rfl,_,rfl,condK_by (fun h7=>?_) (fun h7=>?_)⟩
   ·rw [←h6] at h7
    replace h7:=lt_len h7
    obtain ⟨x,hw⟩:∃x,row[q]?=some x:=⟨_,List.getElem?_eq_getElem h7⟩
    have hw':(row.map ii)[q]?=some (ii x):=by rw [List.getElem?_map,hw];rfl
    rw [drop_cons hw,topR] at hin
    refine ⟨_,rfl,_,⟨idx_i hx',rfl⟩,_,rfl,_,⟨idx_i hw',rfl⟩,?_⟩
    (repeat (first | refine ⟨rfl,?_⟩ | refine ⟨_,sub_o,?_⟩ | refine ⟨_,add_o,?_⟩ | refine ⟨_,rfl,?_⟩ | refine ⟨_,not_t _,?_⟩ | refine ⟨_,⟨rfl,rfl⟩,?_⟩ | refine gFf ?_ | refine gOt ?_ | refine pkF ?_ | refine pkT ?_ | refine pkB ?_ | refine pkO ?_ | refine gBa ?_ | refine gOa ?_))
    rw [hmr]
    refine condK_by (fun h8=>?_) (fun h8=>?_)
    ·refine ⟨trivial,trivial,?_⟩
     have hn:¬within x (-1) ((c.rule.length:Int) - 1)=true:=by
      simp only [ltA_d,Bool.or_eq_true,Bool.not_eq_true',decide_eq_true_eq,decide_eq_false_iff_not] at h8
      simp only [within,Bool.and_eq_true,decide_eq_true_eq]
      omega
     rw [if_neg hn] at hin
     rw [hin] at htop
     rw [hbad (by unfold ruled;rw [htop])]
    have hn:within x (-1) ((c.rule.length:Int) - 1)=true:=by
     simp only [ltA_d,Bool.or_eq_false_iff,Bool.not_eq_false',decide_eq_true_eq,decide_eq_false_iff_not] at h8
     simp only [within,Bool.and_eq_true,decide_eq_true_eq]
     omega
    rw [if_pos hn] at hin
    simp only [within,Bool.and_eq_true,decide_eq_true_eq] at hn
    refine ⟨_,geq_i _ _,condK_by (fun h9=>?_) (fun h9=>?_)⟩
    ·simp only [ltA_d,Bool.not_eq_true',decide_eq_false_iff_not] at h9
     rw [if_neg (by omega)] at hin
     exact ⟨_,mx3 _ _ _,_,next_i h7 (by omega),_,by omega,q + 1,_,by omega,rfl,rfl,rfl,rfl,rfl,rfl,rfl,hin⟩
    ·simp only [ltA_d,Bool.not_eq_false',decide_eq_true_eq] at h9
     rw [if_pos (by omega)] at hin
     exact ⟨_,next_i h7 (by omega),_,by omega,q + 1,_,by omega,rfl,rfl,rfl,rfl,rfl,rfl,rfl,hin⟩
   ·rw [←h6] at h7
    obtain rfl:=ge_len hq h7
    rw [List.drop_length,topR] at hin
    rw [hin] at htop
    exact ⟨_,next_i h5 (by omega),_,by omega,j + 1,U,by omega,rfl,rfl,rfl,rfl,rfl,rfl,htop⟩
  ·rw [hmr] at h5
   obtain rfl:=ge_len hj h5
   rw [List.drop_length,topRs] at htop
   (repeat (first | refine ⟨rfl,?_⟩ | refine ⟨_,sub_o,?_⟩ | refine ⟨_,add_o,?_⟩ | refine ⟨_,rfl,?_⟩ | refine ⟨_,not_t _,?_⟩ | refine ⟨_,⟨rfl,rfl⟩,?_⟩ | refine gFf ?_ | refine gOt ?_ | refine pkF ?_ | refine pkT ?_ | refine pkB ?_ | refine pkO ?_ | refine gBa ?_ | refine gOa ?_))
   rw [hmr]
   refine condK_by (fun h8=>?_) (fun h8=>?_)
   ·refine ⟨trivial,trivial,?_⟩
    simp only [ltA_d,eqA_d,Bool.and_eq_true,Bool.not_eq_true',decide_eq_true_eq,decide_eq_false_iff_not] at h8
    have hr:ruled c=false:=by
     unfold ruled
     rw [htop]
     have e1:c.rule.isEmpty=false:=by
      cases hcr:c.rule with
      |nil=>rw [hcr] at h8;simp at h8
      |cons a b=>rfl
     have e2:decide (T=(c.rule.length:Int) - 1)=false:=by simpa using h8.2
     simp only [e1,e2];rfl
    rw [hbad hr]
   ·have hr:ruled c=true:=by
     unfold ruled
     rw [htop]
     simp only [ltA_d,eqA_d,Bool.and_eq_false_iff,Bool.not_eq_false',decide_eq_true_eq,decide_eq_false_iff_not] at h8
     cases hcr:c.rule with
     |nil=>rfl
     |cons a b=>
      have hpos:0 < (c.rule.length:Int):=by rw [hcr];simp only [List.length_cons];omega
      have e2:T=(c.rule.length:Int) - 1:=by omega
      have e3:(c.rule.length:Int)≤8:=by omega
      rw [hcr] at e2 e3
      simp only [Bool.or_eq_true,Bool.and_eq_true,decide_eq_true_eq]
      exact .inr ⟨e2,e3⟩
    exact ⟨_,next_i h3 (by omega),_,by omega,i + 1,by omega,rfl,rfl,rfl,take_all hy hall (by rw [hch,hr])⟩
 ·rw [hl1] at h3
  obtain rfl:=ge_len hi h3
  rw [List.take_length] at hall
  rw [hall,Bool.true_and] at hok
  have htags:∀x∈p.chans,1≤x.tags∧x.tags≤4:=fun x hx=>by
   have:=List.all_eq_true.1 hall x hx
   simp only [okCh,within,Bool.and_eq_true,decide_eq_true_eq] at this
   omega
  refine ⟨fun m o x=>∃i:Nat,i≤p.procs.length∧m=p.procs.length - i∧o=encPg p∧x=ii i∧okPs p.chans 0 p.procs=okPs p.chans i (p.procs.drop i),⟨_,0,by omega,rfl,rfl,rfl,rfl⟩,?_⟩
  rintro m o x ⟨i,hi,rfl,rfl,rfl,hps⟩
  refine ⟨_,rfl,_,rfl,_,rfl,condK_by (fun h4=>?_) (fun h4=>?_)⟩
  ·rw [hl2] at h4
   replace h4:=lt_len h4
   obtain ⟨y,hy⟩:∃x,p.procs[i]?=some x:=⟨_,List.getElem?_eq_getElem h4⟩
   have hy':(p.procs.map encPr)[i]?=some (encPr y):=by rw [List.getElem?_map,hy];rfl
   have hym:=List.mem_of_getElem? hy
   rw [drop_cons hy,okPs] at hps
   refine ⟨_,rfl,_,⟨idx_i hy',rfl⟩,?_⟩
   (repeat (first | refine ⟨rfl,?_⟩ | refine ⟨_,sub_o,?_⟩ | refine ⟨_,add_o,?_⟩ | refine ⟨_,rfl,?_⟩ | refine ⟨_,not_t _,?_⟩ | refine ⟨_,⟨rfl,rfl⟩,?_⟩ | refine gFf ?_ | refine gOt ?_ | refine pkF ?_ | refine pkT ?_ | refine pkB ?_ | refine pkO ?_ | refine gBa ?_ | refine gOa ?_))
   refine gO _ (fun h=>by rw [h];exact ⟨idx_i hy',rfl⟩) ?_
   (repeat (first | refine ⟨rfl,?_⟩ | refine ⟨_,sub_o,?_⟩ | refine ⟨_,add_o,?_⟩ | refine ⟨_,rfl,?_⟩ | refine ⟨_,not_t _,?_⟩ | refine ⟨_,⟨rfl,rfl⟩,?_⟩ | refine gFf ?_ | refine gOt ?_ | refine pkF ?_ | refine pkT ?_ | refine pkB ?_ | refine pkO ?_ | refine gBa ?_ | refine gOa ?_))
   refine gO _ (fun h=>by rw [h];exact ⟨idx_i hy',rfl⟩) ?_
   have hdec:(ltA y.vars 0||ltA 6 y.vars)=!within y.vars 0 6:=by
    rw [ltA_d,ltA_d,within,Bool.not_and]
    congr 1
    ·by_cases h:y.vars < 0
     ·have:¬0≤y.vars:=by omega
      simp [h,this]
     ·have:0≤y.vars:=by omega
      simp [h,this]
    ·by_cases h:6 < y.vars
     ·have:¬y.vars≤6:=by omega
      simp [h,this]
     ·have:y.vars≤6:=by omega
      simp [h,this]
   rw [hdec]
   cases hw:within y.vars 0 6 with
   |false=>
    (repeat (first | refine ⟨rfl,?_⟩ | refine ⟨_,sub_o,?_⟩ | refine ⟨_,add_o,?_⟩ | refine ⟨_,rfl,?_⟩ | refine ⟨_,not_t _,?_⟩ | refine ⟨_,⟨rfl,rfl⟩,?_⟩ | refine gFf ?_ | refine gOt ?_ | refine pkF ?_ | refine pkT ?_ | refine pkB ?_ | refine pkO ?_ | refine gBa ?_ | refine gOa ?_))
    refine condK_t rfl ⟨trivial,trivial,?_⟩
    rw [hok,hps,hw];rfl
   |true=>
    have hv:0≤y.vars∧y.vars≤6:=by simpa [within] using hw
    have hbo:=hz.body y hym
    have h66:=s66 p i y.vars y.body (by have:=szSs_len y.body;omega) (fun s hs=>s91 p i y hy hv (by omega) htags 4194304 s (Nat.le_trans (szSs_mem hs) hbo) (Nat.le_refl _))
    (repeat (first | refine ⟨rfl,?_⟩ | refine ⟨_,sub_o,?_⟩ | refine ⟨_,add_o,?_⟩ | refine ⟨_,rfl,?_⟩ | refine ⟨_,not_t _,?_⟩ | refine ⟨_,⟨rfl,rfl⟩,?_⟩ | refine gFf ?_ | refine gOt ?_ | refine pkF ?_ | refine pkT ?_ | refine pkB ?_ | refine pkO ?_ | refine vs_eq h66 ?_ | refine gBa ?_ | refine gB _ (fun h=>by first | exact vs_g h66 | (rw [h];exact vs_g h66)) ?_ | refine gOa ?_ | refine gO _ (fun h=>by first | exact vs_g h66 | (rw [h];exact vs_g h66)) ?_))
    refine condK_by (fun h5=>?_) (fun h5=>?_)
    ·refine ⟨trivial,trivial,?_⟩
     have h6:okSs p.chans i y.vars y.body=false:=by simpa using h5
     rw [hok,hps,hw,h6];rfl
    ·have h6:okSs p.chans i y.vars y.body=true:=by simpa using h5
     rw [hw,h6] at hps
     exact ⟨_,next_i h4 (by omega),_,by omega,i + 1,by omega,rfl,rfl,rfl,by rw [hps];simp⟩
  ·rw [hl2] at h4
   obtain rfl:=ge_len hi h4
   rw [List.drop_length,okPs] at hps
   refine ⟨trivial,trivial,?_⟩
   rw [hok,hps]
end Go.Ax.TryLr

set_option linter.unusedSimpArgs false
set_option linter.unusedVariables false
set_option maxRecDepth 100000
namespace Go.Ax.TryLr
open Go Go.Ax Go.Ax.V Go.Ax.Ft
theorem s36:∀(e:Ex),szE e≤4194304→VS prog 36 [encE e] (fun r=>r=encE e)
 |.mk k n v ks,hB=>by
  have hks:szEs ks≤4194304:=by simp only [szE] at hB;omega
  have hk:=Nat.le_trans (szEs_len ks) hks
  have ih:∀e∈ks,VS prog 36 [encE e] (fun r=>r=encE e):=fun e he=>s36 e (Nat.le_trans (szEs_mem he) hks)
  refine vs36 _ _ ?_
  unfold W36
  (repeat (first | refine ⟨rfl,?_⟩ | refine ⟨_,sub_o,?_⟩ | refine ⟨_,add_o,?_⟩ | refine ⟨_,rfl,?_⟩ | refine ⟨_,not_t _,?_⟩ | refine ⟨_,⟨rfl,rfl⟩,?_⟩ | refine gFf ?_ | refine gOt ?_ | refine pkF ?_ | refine pkT ?_ | refine pkB ?_ | refine pkO ?_ | refine gBa ?_ | refine gOa ?_))
  refine ⟨fun m o11 o12 l13 o14 l15 x16=>∃i:Nat,i≤ks.length∧m=ks.length - i∧o11=encE (.mk k n v ks)∧o12=.a [ii 0,ii 0,ii 0,.l []]∧o14=.a [ii k,ii n,ii v,.l []]∧l15=(ks.take i).map encE∧x16=ii i,
   ⟨_,0,by omega,rfl,rfl,rfl,rfl,rfl,rfl⟩,?_⟩
  rintro m o11 o12 l13 o14 l15 x16 ⟨i,hi,rfl,rfl,rfl,rfl,rfl,rfl⟩
  refine ⟨_,rfl,_,rfl,_,rfl,condK_by (fun h3=>?_) (fun h3=>?_)⟩
  ·rw [encEs_len] at h3
   replace h3:=lt_len h3
   obtain ⟨x,hx⟩:∃x,ks[i]?=some x:=⟨_,List.getElem?_eq_getElem h3⟩
   have hx':(encEs ks)[i]?=some (encE x):=by rw [encEs_map,List.getElem?_map,hx];rfl
   have hih:=ih x (List.mem_of_getElem? hx)
   refine ⟨_,rfl,_,⟨idx_i hx',encE_sz x⟩,?_⟩
   have hl:((ks.take i).map encE).length≤4194304:=by simp;omega
   have ht:=take_map (f:=encE) hx
   obtain ⟨k',n',v',ks'⟩:=x
   (repeat (first | refine ⟨rfl,?_⟩ | refine ⟨_,sub_o,?_⟩ | refine ⟨_,add_o,?_⟩ | refine ⟨_,rfl,?_⟩ | refine ⟨_,not_t _,?_⟩ | refine ⟨_,⟨rfl,rfl⟩,?_⟩ | refine gFf ?_ | refine gOt ?_ | refine pkF ?_ | refine pkT ?_ | refine pkB ?_ | refine pkO ?_ | refine vs_eq hih ?_ | refine gBa ?_ | refine gB _ (fun h=>by first | exact vs_g hih | (rw [h];exact vs_g hih)) ?_ | refine gOa ?_ | refine gO _ (fun h=>by first | exact vs_g hih | (rw [h];exact vs_g hih)) ?_))
   refine ⟨_,app_o,?_⟩
   rw [ht]
   exact ⟨_,rfl,_,next_i h3 (by omega),_,by omega,i + 1,by omega,rfl,rfl,rfl,rfl,rfl,rfl⟩
  ·rw [encEs_len] at h3
   obtain rfl:=ge_len hi h3
   (repeat (first | refine ⟨rfl,?_⟩ | refine ⟨_,sub_o,?_⟩ | refine ⟨_,add_o,?_⟩ | refine ⟨_,rfl,?_⟩ | refine ⟨_,not_t _,?_⟩ | refine ⟨_,⟨rfl,rfl⟩,?_⟩ | refine gFf ?_ | refine gOt ?_ | refine pkF ?_ | refine pkT ?_ | refine pkB ?_ | refine pkO ?_ | refine gBa ?_ | refine gOa ?_))
   refine ⟨trivial,_,rfl,_,rfl,trivial,?_⟩
   rw [List.take_length,←encEs_map];rfl
theorem s64:∀(n:Nat) (l:List Sm),szSs l≤n→n≤4194304→VS prog 64 [.l (encSs l)] (fun r=>r=.l (encSs l)):=by
 intro n
 induction n with
 |zero=>
  intro l hl _
  have:l=[]:=by
   cases l with
   |nil=>rfl
   |cons s r=>have:=szS_pos s;simp only [szSs] at hl;omega
  subst this
  refine vs64 _ _ ?_
  unfold W64
  refine ⟨fun m x4 l5 x6=>x4=.l []∧l5=[]∧x6=ii 0,⟨0,rfl,rfl,rfl⟩,?_⟩
  rintro m x4 l5 x6 ⟨rfl,rfl,rfl⟩
  exact ⟨_,rfl,_,rfl,condK_f rfl ⟨trivial,trivial,rfl⟩⟩
 |succ n ih=>
  intro l hl hn
  have hll:=szSs_len l
  refine vs64 _ _ ?_
  unfold W64
  refine ⟨fun m x4 l5 x6=>∃i:Nat,i≤l.length∧m=l.length - i∧x4=.l (encSs l)∧l5=(l.take i).map encS∧x6=ii i,⟨_,0,by omega,rfl,rfl,rfl,rfl⟩,?_⟩
  rintro m x4 l5 x6 ⟨i,hi,rfl,rfl,rfl,rfl⟩
  refine ⟨_,rfl,_,rfl,condK_by (fun h3=>?_) (fun h3=>?_)⟩
  ·rw [encSs_len] at h3
   replace h3:=lt_len h3
   obtain ⟨s,hx⟩:∃x,l[i]?=some x:=⟨_,List.getElem?_eq_getElem h3⟩
   have hx':(encSs l)[i]?=some (encS s):=by rw [encSs_map,List.getElem?_map,hx];rfl
   have hsz:=szSs_mem (List.mem_of_getElem? hx)
   have htk:=take_map (f:=encS) hx
   refine ⟨_,⟨idx_i hx',encS_sz s⟩,?_⟩
   obtain ⟨kind,var,chan,tag,e,c,body,els,arms⟩:=s
   rw [szS] at hsz
   have hbody:=ih body (by omega) (by omega)
   have hels:=ih els (by omega) (by omega)
   have harms:∀tag var body,Ar.mk tag var body∈arms→VS prog 64 [.l (encSs body)] (fun r=>r=.l (encSs body)):=fun tag var body hm=>ih body (by have:=szAs_mem hm;simp only [szA] at this;omega) (by omega)
   have harl:=szAs_len arms
   have hcl:szE c.l≤4194304:=by have:=hsz;simp only [szC] at this;omega
   have hcr:szE c.r≤4194304:=by have:=hsz;simp only [szC] at this;omega
   have he:=s36 e (by omega)
   have h1:=s36 c.l hcl
   have h2:=s36 c.r hcr
   obtain ⟨k1,n1,v1,ks1⟩:=e
   obtain ⟨op,⟨k2,n2,v2,ks2⟩,⟨k3,n3,v3,ks3⟩⟩:=c
   (repeat (first | refine ⟨rfl,?_⟩ | refine ⟨_,sub_o,?_⟩ | refine ⟨_,add_o,?_⟩ | refine ⟨_,rfl,?_⟩ | refine ⟨_,not_t _,?_⟩ | refine ⟨_,⟨rfl,rfl⟩,?_⟩ | refine gFf ?_ | refine gOt ?_ | refine pkF ?_ | refine pkT ?_ | refine pkB ?_ | refine pkO ?_ | refine vs_eq he ?_ | refine vs_eq h1 ?_ | refine vs_eq h2 ?_ | refine vs_eq hbody ?_ | refine vs_eq hels ?_ | refine gBa ?_ | refine gB _ (fun h=>by first | exact vs_g he | (rw [h];exact vs_g he)) ?_ | refine gB _ (fun h=>by first | exact vs_g h1 | (rw [h];exact vs_g h1)) ?_ | refine gB _ (fun h=>by first | exact vs_g h2 | (rw [h];exact vs_g h2)) ?_ | refine gB _ (fun h=>by first | exact vs_g hbody | (rw [h];exact vs_g hbody)) ?_ | refine gB _ (fun h=>by first | exact vs_g hels | (rw [h];exact vs_g hels)) ?_ | refine gOa ?_ | refine gO _ (fun h=>by first | exact vs_g he | (rw [h];exact vs_g he)) ?_ | refine gO _ (fun h=>by first | exact vs_g h1 | (rw [h];exact vs_g h1)) ?_ | refine gO _ (fun h=>by first | exact vs_g h2 | (rw [h];exact vs_g h2)) ?_ | refine gO _ (fun h=>by first | exact vs_g hbody | (rw [h];exact vs_g hbody)) ?_ | refine gO _ (fun h=>by first | exact vs_g hels | (rw [h];exact vs_g hels)) ?_))
   refine ⟨fun m o42 o43 l44 x45 l46 x47 x48=>∃j:Nat,j≤arms.length∧m=arms.length - j∧o42=encS (.mk kind var chan tag (.mk k1 n1 v1 ks1) ⟨op,.mk k2 n2 v2 ks2,.mk k3 n3 v3 ks3⟩ body els arms)∧
    o43=encS (.mk kind var chan tag (.mk k1 n1 v1 ks1) ⟨op,.mk k2 n2 v2 ks2,.mk k3 n3 v3 ks3⟩ body els [])∧l44=(arms.take j).map encA∧x45=.l (encSs l)∧l46=(l.take i).map encS∧x47=ii i∧x48=ii j,
    ⟨_,0,by omega,rfl,rfl,rfl,rfl,rfl,rfl,rfl,rfl⟩,?_⟩
   rintro m o42 o43 l44 x45 l46 x47 x48 ⟨j,hj,rfl,rfl,rfl,rfl,rfl,rfl,rfl,rfl⟩
   refine ⟨_,rfl,_,rfl,_,rfl,condK_by (fun h5=>?_) (fun h5=>?_)⟩
   ·rw [encAs_len] at h5
    replace h5:=lt_len h5
    obtain ⟨w,hw⟩:∃x,arms[j]?=some x:=⟨_,List.getElem?_eq_getElem h5⟩
    have hw':(encAs arms)[j]?=some (encA w):=by rw [encAs_map,List.getElem?_map,hw];rfl
    have hta:=take_map (f:=encA) hw
    have hla:((arms.take j).map encA).length≤4194304:=by simp;omega
    obtain ⟨tg,vr,bd⟩:=w
    have hb:=harms tg vr bd (List.mem_of_getElem? hw)
    refine ⟨_,rfl,_,⟨idx_i hw',rfl⟩,_,rfl,_,rfl,_,⟨idx_i hw',rfl⟩,_,rfl,_,rfl,_,⟨idx_i hw',rfl⟩,_,rfl,vs_eq hb ⟨_,rfl,_,rfl,_,rfl,rfl,rfl,_,rfl,rfl,_,app_o,?_⟩⟩
    exact ⟨_,rfl,_,next_i h5 (by omega),_,by omega,j + 1,by omega,rfl,rfl,rfl,hta,rfl,rfl,rfl,rfl⟩
   ·rw [encAs_len] at h5
    obtain rfl:=ge_len hj h5
    rw [List.take_length,←encAs_map]
    have hls:((l.take i).map encS).length≤4194304:=by simp;omega
    refine ⟨_,rfl,rfl,rfl,_,rfl,rfl,_,rfl,rfl,_,app_o,?_⟩
    refine ⟨_,next_i h3 (by omega),_,by omega,i + 1,by omega,rfl,rfl,?_,rfl⟩
    rw [←htk];rfl
  ·rw [encSs_len] at h3
   obtain rfl:=ge_len hi h3
   rw [List.take_length,←encSs_map]
   exact ⟨trivial,trivial,rfl⟩
theorem s44 (p:Pg) (hz:szPg p):VS prog 44 [encPg p] (fun r=>r=encPg p):=by
 have hlc:=hz.chans
 have hlp:=hz.procs
 have hl1:(p.chans.map encCh).length=p.chans.length:=List.length_map _
 have hl2:(p.procs.map encPr).length=p.procs.length:=List.length_map _
 refine vs44 _ _ ?_
 unfold W44
 refine ⟨rfl,fun m o4 o5 l6 l7 o8 l9 l10 x11=>∃i:Nat,i≤p.chans.length∧m=p.chans.length - i∧o4=encPg p∧o5=.a [.l [],.l []]∧o8=.a [.l [],.l []]∧l9=(p.chans.take i).map encCh∧l10=[]∧x11=ii i,⟨_,0,by omega,rfl,rfl,rfl,rfl,rfl,rfl,rfl⟩,?_⟩
 rintro m o4 o5 l6 l7 o8 l9 l10 x11 ⟨i,hi,rfl,rfl,rfl,rfl,rfl,rfl,rfl⟩
 refine ⟨_,rfl,_,rfl,_,rfl,condK_by (fun h3=>?_) (fun h3=>?_)⟩
 ·rw [hl1] at h3
  replace h3:=lt_len h3
  obtain ⟨c,hx⟩:∃x,p.chans[i]?=some x:=⟨_,List.getElem?_eq_getElem h3⟩
  have hx':(p.chans.map encCh)[i]?=some (encCh c):=by rw [List.getElem?_map,hx];rfl
  have hcm:=List.mem_of_getElem? hx
  have hrl:=hz.rules c hcm
  have hrr:=hz.rows c hcm
  have hmr:(c.rule.map encR).length=c.rule.length:=List.length_map _
  have htk:=take_map (f:=encCh) hx
  refine ⟨_,rfl,_,⟨idx_i hx',rfl⟩,?_⟩
  (repeat (first | refine ⟨rfl,?_⟩ | refine ⟨_,sub_o,?_⟩ | refine ⟨_,add_o,?_⟩ | refine ⟨_,rfl,?_⟩ | refine ⟨_,not_t _,?_⟩ | refine ⟨_,⟨rfl,rfl⟩,?_⟩ | refine gFf ?_ | refine gOt ?_ | refine pkF ?_ | refine pkT ?_ | refine pkB ?_ | refine pkO ?_ | refine gBa ?_ | refine gOa ?_))
  refine ⟨fun m o33 o34 l35 l36 o37 l38 l39 o40 o41 l42 x43 x44=>∃j:Nat,j≤c.rule.length∧m=c.rule.length - j∧o33=encPg p∧o34=.a [.l [],.l []]∧o37=.a [.l [],.l []]∧l38=(p.chans.take i).map encCh∧l39=[]∧o40=encCh c∧o41=encCh {c with rule:=[]}∧
   l42=(c.rule.take j).map encR∧x43=ii i∧x44=ii j,⟨_,0,by omega,rfl,rfl,rfl,rfl,rfl,rfl,rfl,rfl,rfl,rfl,rfl⟩,?_⟩
  rintro m o33 o34 l35 l36 o37 l38 l39 o40 o41 l42 x43 x44 ⟨j,hj,rfl,rfl,rfl,rfl,rfl,rfl,rfl,rfl,rfl,rfl,rfl⟩
  refine ⟨_,rfl,_,rfl,_,rfl,condK_by (fun h5=>?_) (fun h5=>?_)⟩
  ·rw [hmr] at h5
   replace h5:=lt_len h5
   obtain ⟨row,hy⟩:∃x,c.rule[j]?=some x:=⟨_,List.getElem?_eq_getElem h5⟩
   have hy':(c.rule.map encR)[j]?=some (encR row):=by rw [List.getElem?_map,hy];rfl
   have hrow:=hrr row (List.mem_of_getElem? hy)
   have hrm:(row.map ii).length=row.length:=List.length_map _
   have hta:=take_map (f:=encR) hy
   have hla:((c.rule.take j).map encR).length≤4194304:=by simp;omega
   refine ⟨_,rfl,_,⟨idx_i hy',rfl⟩,_,rfl,_,rfl,szHd_of (fun e he=>by obtain ⟨x,_,rfl⟩:=List.mem_map.1 he;rfl),_,app_o,rfl,rfl,rfl,_,rfl,rfl,_,app_o,?_⟩
   exact ⟨_,rfl,_,next_i h5 (by omega),_,by omega,j + 1,by omega,rfl,rfl,rfl,rfl,rfl,rfl,rfl,rfl,hta,rfl,rfl⟩
  ·rw [hmr] at h5
   obtain rfl:=ge_len hj h5
   rw [List.take_length]
   have hls:((p.chans.take i).map encCh).length≤4194304:=by simp;omega
   refine ⟨_,rfl,rfl,rfl,_,rfl,rfl,_,rfl,rfl,_,app_o,?_⟩
   exact ⟨_,rfl,_,next_i h3 (by omega),_,by omega,i + 1,by omega,rfl,rfl,rfl,rfl,htk,rfl,rfl⟩
 ·rw [hl1] at h3
  obtain rfl:=ge_len hi h3
  rw [List.take_length]
  refine ⟨fun m o4 o5 l6 l7 o8 l9 l10 x11=>∃i:Nat,i≤p.procs.length∧m=p.procs.length - i∧o4=encPg p∧o5=.a [.l [],.l []]∧o8=.a [.l [],.l []]∧l9=p.chans.map encCh∧l10=(p.procs.take i).map encPr∧x11=ii i,⟨_,0,by omega,rfl,rfl,rfl,rfl,rfl,rfl,rfl⟩,?_⟩
  rintro m o4 o5 l6 l7 o8 l9 l10 x11 ⟨i,hi,rfl,rfl,rfl,rfl,rfl,rfl,rfl⟩
  refine ⟨_,rfl,_,rfl,_,rfl,condK_by (fun h4=>?_) (fun h4=>?_)⟩
  ·rw [hl2] at h4
   replace h4:=lt_len h4
   obtain ⟨y,hx⟩:∃x,p.procs[i]?=some x:=⟨_,List.getElem?_eq_getElem h4⟩
   have hx':(p.procs.map encPr)[i]?=some (encPr y):=by rw [List.getElem?_map,hx];rfl
   have hb:=hz.body y (List.mem_of_getElem? hx)
   have h64:=s64 4194304 y.body hb (Nat.le_refl _)
   have htk:=take_map (f:=encPr) hx
   have hls:((p.procs.take i).map encPr).length≤4194304:=by simp;omega
   refine ⟨_,rfl,_,⟨idx_i hx',rfl⟩,_,rfl,_,rfl,_,⟨idx_i hx',rfl⟩,_,rfl,vs_eq h64 ⟨_,rfl,_,rfl,rfl,rfl,_,rfl,rfl,_,app_o,?_⟩⟩
   exact ⟨_,rfl,_,next_i h4 (by omega),_,by omega,i + 1,by omega,rfl,rfl,rfl,rfl,rfl,htk,rfl⟩
  ·rw [hl2] at h4
   obtain rfl:=ge_len hi h4
   rw [List.take_length]
   exact ⟨_,rfl,_,rfl,trivial,_,rfl,_,rfl,_,rfl,trivial,rfl⟩
theorem s48 (op:Int):VS prog 48 [ii op] (fun r=>r=ii (notI op)):=by
 refine vs48 _ _ ?_
 unfold W48
 (repeat (first | refine ⟨rfl,?_⟩ | refine ⟨_,sub_o,?_⟩ | refine ⟨_,add_o,?_⟩ | refine ⟨_,rfl,?_⟩ | refine ⟨_,not_t _,?_⟩ | refine ⟨_,⟨rfl,rfl⟩,?_⟩ | refine gFf ?_ | refine gOt ?_ | refine pkF ?_ | refine pkT ?_ | refine pkB ?_ | refine pkO ?_ | refine gBa ?_ | refine gOa ?_))
 refine condK_by (fun h=>?_) (fun h=>?_)
 ·refine ⟨trivial,trivial,?_⟩
  simp only [ltA_d,Bool.or_eq_true,decide_eq_true_eq] at h
  have e:notI op=0:=by
   unfold notI
   rw [if_neg (by omega),if_neg (by omega),if_neg (by omega),if_neg (by omega),if_neg (by omega),if_neg (by omega)]
  rw [e]
 ·simp only [ltA_d,Bool.or_eq_false_iff,decide_eq_false_iff_not] at h
  obtain rfl | rfl | rfl | rfl | rfl | rfl:op=1∨op=2∨op=3∨op=4∨op=5∨op=6:=by omega
  all_goals
   (repeat (first | refine ⟨rfl,?_⟩ | refine ⟨_,sub_o,?_⟩ | refine ⟨_,add_o,?_⟩ | refine ⟨_,rfl,?_⟩ | refine ⟨_,not_t _,?_⟩ | refine ⟨_,⟨rfl,rfl⟩,?_⟩ | refine gFf ?_ | refine gOt ?_ | refine pkF ?_ | refine pkT ?_ | refine pkB ?_ | refine pkO ?_ | refine gBa ?_ | refine gOa ?_))
   exact ⟨trivial,trivial,rfl⟩
end Go.Ax.TryLr

set_option linter.unusedSimpArgs false
set_option linter.unusedVariables false
set_option maxRecDepth 100000
namespace Go.Ax.TryLr
open Go Go.Ax Go.Ax.V Go.Ax.Ft
def Sp90 (s:Sm):Prop:=∀(g:Gr) (a b:Int),fits g (szS s)→∀Q:TV→List TV→List TV→TV→Prop,Q (oG (stF s a b g)) (eE (stF s a b g)) (eH (stF s a b g)) (.tp [])→S90 Q (oG g) (eE g) (eH g) (encS s) (ii a) (ii b)
def Sp65 (l:List Sm):Prop:=∀(g:Gr) (a b:Int),fits g (szSs l + 1)→∀Q:TV→List TV→List TV→TV→Prop,Q (oG (laF l a b g)) (eE (laF l a b g)) (eH (laF l a b g)) (.tp [])→S65 Q (oG g) (eE g) (eH g) (.l (encSs l)) (ii a) (ii b)
theorem t89 (g:Gr) (hn:0≤g.nodes∧g.nodes≤100000000) (Q:TV→List TV→List TV→TV→Prop) (h:Q (oG g.node) (eE g.node) (eH g.node) (ii g.nodes)):S89 Q (oG g) (eE g) (eH g):=by
 refine sh89 _ _ _ _ ?_
 unfold WS89
 (repeat (first | refine ⟨rfl,?_⟩ | refine ⟨_,sub_o,?_⟩ | refine ⟨_,add_o,?_⟩ | refine ⟨_,rfl,?_⟩ | refine ⟨_,not_t _,?_⟩ | refine ⟨_,⟨rfl,rfl⟩,?_⟩ | refine gFf ?_ | refine gOt ?_ | refine pkF ?_ | refine pkT ?_ | refine pkB ?_ | refine pkO ?_ | refine gBa ?_ | refine gOa ?_))
 refine ⟨trivial,?_⟩
 rw [show g.nodes + 1 - 1=g.nodes by omega]
 exact h
theorem eE_edge (g:Gr) (e:Ed):eE (g.edge e)=eE g++[encEd e]:=by simp [eE,Gr.edge]
theorem t65 (l:List Sm) (hs:∀s∈l,Sp90 s):Sp65 l:=by
 intro g a b hf Q hQ
 have hll:=szSs_len l
 have hfn:=hf.nn
 have hfl:=hf.lo
 have hfe:=hf.e
 have hen:=encSs_len l
 refine sh65 _ _ _ _ _ _ _ ?_
 unfold WS65
 refine ⟨_,rfl,_,rfl,condK_by (fun h=>?_) (fun h=>?_)⟩
 ·have hl:l=[]:=by
   simp only [eqA_d,encSs_len,decide_eq_true_eq] at h
   exact List.length_eq_zero_iff.1 (by omega)
  subst hl
  rw [laF,eE_edge] at hQ
  have hel:(eE g).length≤100000000:=by simp [eE];omega
  refine ⟨_,rfl,_,rfl,rfl,rfl,_,rfl,_,rfl,_,rfl,rfl,_,rfl,rfl,_,app_o,_,rfl,?_⟩
  refine ⟨fun m o14 l15 l16 x17 x18 x19 x20=>o14=oG g∧l15=eE g++[encEd ⟨a,b,0,0,0,0,no0,noCo⟩]∧l16=eH g∧x17=.l []∧x20=ii 0,⟨0,rfl,rfl,rfl,rfl,rfl⟩,?_⟩
  rintro m o14 l15 l16 x17 x18 x19 x20 ⟨rfl,rfl,rfl,rfl,rfl⟩
  exact ⟨_,rfl,_,rfl,condK_f rfl ⟨trivial,trivial,hQ⟩⟩
 ·have hl:l.length≠0:=by
   simp only [eqA_d,encSs_len,decide_eq_false_iff_not] at h
   omega
  refine ⟨fun m o47 l48 l49 x50 x51 x52 x53=>∃(i:Nat) (G:Gr) (a':Int),i≤l.length∧m=l.length - i∧o47=oG G∧l48=eE G∧l49=eH G∧x50=.l (encSs l)∧x51=ii a'∧x52=ii b∧x53=ii i∧
   (i < l.length→laF l a b g=laF (l.drop i) a' b G∧fits G (szSs (l.drop i) + 1))∧(i=l.length→laF l a b g=G),⟨_,0,g,a,by omega,rfl,rfl,rfl,rfl,rfl,rfl,rfl,rfl,fun _=>⟨rfl,hf⟩,fun h=>absurd h.symm hl⟩,?_⟩
  rintro m o47 l48 l49 x50 x51 x52 x53 ⟨i,G,a',hi,rfl,rfl,rfl,rfl,rfl,rfl,rfl,rfl,hA,hB⟩
  refine ⟨_,rfl,_,rfl,condK_by (fun h3=>?_) (fun h3=>?_)⟩
  ·rw [hen] at h3
   replace h3:=lt_len h3
   obtain ⟨hla,hfit⟩:=hA h3
   obtain ⟨x,hx⟩:∃x,l[i]?=some x:=⟨_,List.getElem?_eq_getElem h3⟩
   have hx':(encSs l)[i]?=some (encS x):=by rw [encSs_map,List.getElem?_map,hx];rfl
   have h86:=hs x (List.mem_of_getElem? hx)
   have hdr:=szSs_drop hx
   have hfn:=hfit.nn
   have hfl:=hfit.lo
   have hpos:=szS_pos x
   have hxz:=encS_sz x
   refine ⟨_,rfl,_,sub_o,_,rfl,?_⟩
   rw [hen]
   refine condK_by (fun h4=>?_) (fun h4=>?_)
   ·have h4':i < l.length - 1:=by
     rw [ltA_d,decide_eq_true_eq] at h4;omega
    have hne:l.drop (i + 1)≠[]:=by
     intro hc
     have:=congrArg List.length hc
     simp at this;omega
    rw [drop_cons hx,laF_cons hne] at hla
    have hf1:fits G.node (szS x - 1 + (szSs (l.drop (i + 1)) + 1)):=(hfit.le (m:=1 + (szS x - 1 + (szSs (l.drop (i + 1)) + 1))) (by omega)).grow (grow_node G)
    have hf2:=hf1.grow (stF_grow x a' G.nodes G.node)
    have hsz:fits G.node (szS x):=hf1.le (by omega)
    have h90:=h86 G.node a' G.nodes hsz
    refine t89 G (by omega) _ ?_
    refine ⟨_,⟨idx_i hx',hxz⟩,?_⟩
    obtain ⟨kind,var,chan,tag,⟨k1,n1,v1,ks1⟩,⟨op,⟨k2,n2,v2,ks2⟩,⟨k3,n3,v3,ks3⟩⟩,body,els,arms⟩:=x
    refine ⟨_,rfl,h90 _ ?_⟩
    refine ⟨_,next_i h3 (by omega),_,by omega,i + 1,_,_,by omega,rfl,rfl,rfl,rfl,rfl,rfl,rfl,rfl,fun _=>⟨hla,hf2⟩,fun h=>by omega⟩
   ·have h4':i + 1=l.length:=by
     rw [ltA_d,decide_eq_false_iff_not] at h4;omega
    have hd0:l.drop (i + 1)=[]:=by rw [List.drop_eq_nil_iff];omega
    rw [drop_cons hx,hd0,laF] at hla
    have h90:=h86 G a' b (hfit.le (by omega))
    refine ⟨_,⟨idx_i hx',hxz⟩,?_⟩
    obtain ⟨kind,var,chan,tag,⟨k1,n1,v1,ks1⟩,⟨op,⟨k2,n2,v2,ks2⟩,⟨k3,n3,v3,ks3⟩⟩,body,els,arms⟩:=x
    refine ⟨_,rfl,h90 _ ?_⟩
    refine ⟨_,next_i h3 (by omega),_,by omega,i + 1,_,_,by omega,rfl,rfl,rfl,rfl,rfl,rfl,rfl,rfl,fun h=>by omega,fun _=>hla⟩
  ·rw [hen] at h3
   obtain rfl:=ge_len hi h3
   rw [hB rfl] at hQ
   exact ⟨trivial,trivial,hQ⟩
theorem t90:∀(n:Nat) (s:Sm),szS s≤n→n≤4194304→Sp90 s:=by
 intro n
 induction n with
 |zero=>intro s hs;have:=szS_pos s;omega
 |succ n ih=>
  intro s hs hn
  obtain ⟨kind,var,chan,tag,e,c,body,els,arms⟩:=s
  intro g a b hf Q hQ
  rw [szS] at hs hf
  have hbody:Sp65 body:=t65 body (fun s hs'=>ih s (by have:=szSs_mem hs';omega) (by omega))
  have hels:Sp65 els:=t65 els (fun s hs'=>ih s (by have:=szSs_mem hs';omega) (by omega))
  have harms:∀tag var body,Ar.mk tag var body∈arms→Sp65 body:=fun tag var body hm=>t65 body (fun s hs'=>ih s (by
   have:=szAs_mem hm;simp only [szA] at this;have:=szSs_mem hs';omega) (by omega))
  have h48:=s48 c.op
  have hfe:=hf.e
  have hfh:=hf.h
  have hfn:=hf.nn
  have hfl:=hf.lo
  have hel:(eE g).length≤100000000:=by simp [eE];omega
  have hhl:(eH g).length≤100000000:=by simp [eH];omega
  have h89:=t89 g (by omega)
  refine sh90 _ _ _ _ _ _ _ ?_
  rw [stF] at hQ
  by_cases m1:kind=1
  ·subst m1
   rw [if_pos rfl,eE_edge] at hQ
   obtain ⟨k1,n1,v1,ks1⟩:=e
   obtain ⟨op,⟨k2,n2,v2,ks2⟩,⟨k3,n3,v3,ks3⟩⟩:=c
   unfold WS90
   refine ⟨rfl,_,rfl,_,rfl,condK_t rfl ?_⟩
   exact ⟨_,rfl,_,rfl,_,rfl,_,rfl,_,rfl,_,rfl,_,rfl,rfl,rfl,_,rfl,_,rfl,rfl,_,rfl,rfl,_,app_o,_,rfl,trivial,trivial,hQ⟩
  rw [if_neg m1] at hQ
  by_cases m2:kind=2
  ·subst m2
   rw [if_pos rfl] at hQ
   have hgb:=(grow_ne g ⟨a,g.nodes,2,0,0,0,no0,c⟩).trans (laF_grow body g.nodes b (g.node.edge ⟨a,g.nodes,2,0,0,0,no0,c⟩))
   have hf1:=(hf.le (m:=1 + (szSs body + 1)) (by omega)).grow (grow_ne g ⟨a,g.nodes,2,0,0,0,no0,c⟩)
   have hb1:=hbody (g.node.edge ⟨a,g.nodes,2,0,0,0,no0,c⟩) g.nodes b hf1
   have hf2:=(hf.le (m:=(1 + (szSs body + 1)) + (1 + (szSs els + 1))) (by omega)).grow hgb
   generalize hg1:laF body g.nodes b (g.node.edge ⟨a,g.nodes,2,0,0,0,no0,c⟩)=g1 at hQ hf2 hb1
   have hf3:=hf2.grow (grow_ne g1 ⟨a,g1.nodes,2,0,0,0,no0,notC c⟩)
   have hb2:=hels (g1.node.edge ⟨a,g1.nodes,2,0,0,0,no0,notC c⟩) g1.nodes b hf3
   have hn2:=hf2.nn
   have hlo2:=hf2.lo
   have he2:=hf2.e
   have h89':=t89 g1 (by omega)
   have hel2:(eE g1).length≤100000000:=by simp [eE];omega
   rw [eE_edge] at hb1 hb2
   obtain ⟨k1,n1,v1,ks1⟩:=e
   obtain ⟨op,⟨k2,n2,v2,ks2⟩,⟨k3,n3,v3,ks3⟩⟩:=c
   unfold WS90
   refine ⟨rfl,_,rfl,_,rfl,condK_f rfl ⟨_,rfl,condK_t rfl ?_⟩⟩
   refine h89 _ ⟨_,rfl,_,rfl,_,rfl,_,rfl,_,rfl,rfl,rfl,_,rfl,rfl,_,rfl,rfl,_,app_o (es:=eE g),_,rfl,_,rfl,hb1 _ ?_⟩
   refine h89' _ ⟨_,rfl,vs_eq h48 ⟨_,rfl,_,rfl,_,rfl,_,rfl,_,rfl,_,rfl,_,rfl,_,rfl,_,rfl,rfl,rfl,_,rfl,rfl,_,rfl,rfl,_,app_o (es:=eE g1),_,rfl,_,rfl,hb2 _ ?_⟩⟩
   exact ⟨trivial,trivial,hQ⟩
  rw [if_neg m2] at hQ
  by_cases m3:kind=3
  ·subst m3
   rw [if_pos rfl] at hQ
   have h0:grow g ((((g.head a).node).edge ⟨a,g.nodes,2,0,0,0,no0,c⟩).edge ⟨a,b,2,0,0,0,no0,notC c⟩) 2:=⟨by simp [Gr.node,Gr.edge,Gr.head];omega,by simp [Gr.node,Gr.edge,Gr.head];try omega,by simp [Gr.node,Gr.edge,Gr.head],by simp [Gr.node,Gr.edge,Gr.head]⟩
   have hf2:=(hf.le (m:=2 + (szSs body + 1)) (by omega)).grow h0
   have hb1:=hbody _ g.nodes a hf2
   have h85:=t89 (g.head a) (by simp only [Gr.head];omega)
   have heh:eH (g.head a)=eH g++[ii a]:=by simp [eH,Gr.head]
   rw [heh] at h85
   have heE:eE ((((g.head a).node).edge ⟨a,g.nodes,2,0,0,0,no0,c⟩).edge ⟨a,b,2,0,0,0,no0,notC c⟩)=eE g++[encEd ⟨a,g.nodes,2,0,0,0,no0,c⟩,encEd ⟨a,b,2,0,0,0,no0,notC c⟩]:=by simp [eE,Gr.edge,Gr.node,Gr.head]
   have heH:eH ((((g.head a).node).edge ⟨a,g.nodes,2,0,0,0,no0,c⟩).edge ⟨a,b,2,0,0,0,no0,notC c⟩)=eH g++[ii a]:=by simp [eH,Gr.edge,Gr.node,Gr.head]
   rw [heE,heH] at hb1
   have heH':eH (g.head a).node=eH g++[ii a]:=by simp [eH,Gr.node,Gr.head]
   rw [heH'] at h85
   obtain ⟨k1,n1,v1,ks1⟩:=e
   obtain ⟨op,⟨k2,n2,v2,ks2⟩,⟨k3,n3,v3,ks3⟩⟩:=c
   unfold WS90
   refine ⟨rfl,_,rfl,_,rfl,condK_f rfl ⟨_,rfl,condK_f rfl ⟨_,rfl,condK_t rfl ?_⟩⟩⟩
   refine ⟨rfl,rfl,_,rfl,rfl,_,app_o,_,rfl,h85 _ ?_⟩
   refine ⟨_,rfl,_,rfl,_,rfl,_,rfl,_,rfl,_,rfl,vs_eq h48 ⟨_,rfl,_,rfl,_,rfl,_,rfl,_,rfl,_,rfl,_,rfl,_,rfl,_,rfl,rfl,rfl,_,rfl,rfl,rfl,rfl,_,rfl,rfl,_,rfl,rfl,_,app_i (es:=eE g) (by simp only [List.length_cons,List.length_nil,most];omega) (by simp only [List.length_cons,List.length_nil,most];omega),_,rfl,_,rfl,hb1 _ ?_⟩⟩
   exact ⟨trivial,trivial,hQ⟩
  rw [if_neg m3] at hQ
  by_cases m4:kind=4
  ·subst m4
   rw [if_pos rfl,eE_edge] at hQ
   obtain ⟨k1,n1,v1,ks1⟩:=e
   obtain ⟨op,⟨k2,n2,v2,ks2⟩,⟨k3,n3,v3,ks3⟩⟩:=c
   unfold WS90
   refine ⟨rfl,_,rfl,_,rfl,condK_f rfl ⟨_,rfl,condK_f rfl ⟨_,rfl,condK_f rfl ⟨_,rfl,condK_t rfl ?_⟩⟩⟩⟩
   exact ⟨_,rfl,_,rfl,_,rfl,_,rfl,_,rfl,_,rfl,_,rfl,_,rfl,_,rfl,rfl,rfl,_,rfl,_,rfl,rfl,_,rfl,rfl,_,app_o,_,rfl,trivial,trivial,hQ⟩
  rw [if_neg m4] at hQ
  by_cases m5:kind=5
  ·subst m5
   rw [if_pos rfl] at hQ
   have hlen:=szAs_len arms
   obtain ⟨k1,n1,v1,ks1⟩:=e
   obtain ⟨op,⟨k2,n2,v2,ks2⟩,⟨k3,n3,v3,ks3⟩⟩:=c
   unfold WS90
   refine ⟨rfl,_,rfl,_,rfl,condK_f rfl ⟨_,rfl,condK_f rfl ⟨_,rfl,condK_f rfl ⟨_,rfl,condK_f rfl ⟨_,rfl,condK_t rfl ?_⟩⟩⟩⟩⟩
   refine ⟨fun m o111 l112 l113 o114 x115 x116 x117=>∃(i:Nat) (G:Gr),i≤arms.length∧m=arms.length - i∧o111=oG G∧l112=eE G∧l113=eH G∧o114=encS (.mk 5 var chan tag (.mk k1 n1 v1 ks1) ⟨op,.mk k2 n2 v2 ks2,.mk k3 n3 v3 ks3⟩ body els arms)∧x115=ii a∧x116=ii b∧x117=ii i∧
    arF chan arms a b g=arF chan (arms.drop i) a b G∧fits G (szAs (arms.drop i)),⟨_,0,g,by omega,rfl,rfl,rfl,rfl,rfl,rfl,rfl,rfl,rfl,hf.le (by simp only [List.drop_zero];omega)⟩,?_⟩
   rintro m o111 l112 l113 o114 x115 x116 x117 ⟨i,G,hi,rfl,rfl,rfl,rfl,rfl,rfl,rfl,rfl,har,hfit⟩
   refine ⟨_,rfl,_,rfl,_,rfl,?_⟩
   rw [encAs_len]
   refine condK_by (fun h3=>?_) (fun h3=>?_)
   ·replace h3:=lt_len h3
    obtain ⟨x,hx⟩:∃x,arms[i]?=some x:=⟨_,List.getElem?_eq_getElem h3⟩
    have hx':(encAs arms)[i]?=some (encA x):=by rw [encAs_map,List.getElem?_map,hx];rfl
    obtain ⟨t,v,bd⟩:=x
    have hb:=harms t v bd (List.mem_of_getElem? hx)
    rw [drop_cons hx,arF] at har
    rw [drop_cons hx,szAs,szA] at hfit
    have hfn:=hfit.nn
    have hfl:=hfit.lo
    have hfe:=hfit.e
    have hf1:fits (G.node.edge ⟨a,G.nodes,4,v,chan,t,no0,noCo⟩) ((szSs bd + 1) + szAs (arms.drop (i + 1))):=(hfit.le (m:=1 + ((szSs bd + 1) + szAs (arms.drop (i + 1)))) (by omega)).grow (grow_ne G _)
    have hf2:=hf1.grow (laF_grow bd G.nodes b _)
    have hb1:=hb _ G.nodes b (hf1.le (m:=szSs bd + 1) (by omega))
    rw [eE_edge] at hb1
    have hel2:(eE G).length≤100000000:=by simp [eE];omega
    refine t89 G (by omega) _ ⟨_,rfl,_,rfl,_,⟨idx_i hx',rfl⟩,_,rfl,_,rfl,_,⟨idx_i hx',rfl⟩,_,rfl,_,rfl,_,rfl,_,rfl,_,rfl,_,rfl,_,rfl,rfl,rfl,_,rfl,_,rfl,_,rfl,rfl,_,rfl,rfl,_,app_o (es:=eE G),_,rfl,_,rfl,_,⟨idx_i hx',rfl⟩,_,rfl,hb1 _ ?_⟩
    exact ⟨_,next_i h3 (by omega),_,by omega,i + 1,_,by omega,rfl,rfl,rfl,rfl,rfl,rfl,rfl,rfl,har,hf2⟩
   ·obtain rfl:=ge_len hi h3
    rw [List.drop_length,arF] at har
    rw [har] at hQ
    exact ⟨trivial,trivial,hQ⟩
  rw [if_neg m5] at hQ
  by_cases m6:kind=6
  ·subst m6
   rw [if_pos rfl,eE_edge] at hQ
   obtain ⟨k1,n1,v1,ks1⟩:=e
   obtain ⟨op,⟨k2,n2,v2,ks2⟩,⟨k3,n3,v3,ks3⟩⟩:=c
   unfold WS90
   refine ⟨rfl,_,rfl,_,rfl,condK_f rfl ⟨_,rfl,condK_f rfl ⟨_,rfl,condK_f rfl ⟨_,rfl,condK_f rfl ⟨_,rfl,condK_f rfl ⟨_,rfl,condK_t rfl ?_⟩⟩⟩⟩⟩⟩
   exact ⟨_,rfl,_,rfl,_,rfl,_,rfl,_,rfl,rfl,rfl,_,rfl,rfl,_,rfl,rfl,_,app_o,_,rfl,trivial,trivial,hQ⟩
  rw [if_neg m6] at hQ
  by_cases m7:kind=7
  ·subst m7
   rw [if_pos rfl,eE_edge] at hQ
   obtain ⟨k1,n1,v1,ks1⟩:=e
   obtain ⟨op,⟨k2,n2,v2,ks2⟩,⟨k3,n3,v3,ks3⟩⟩:=c
   unfold WS90
   refine ⟨rfl,_,rfl,_,rfl,condK_f rfl ⟨_,rfl,condK_f rfl ⟨_,rfl,condK_f rfl ⟨_,rfl,condK_f rfl ⟨_,rfl,condK_f rfl ⟨_,rfl,condK_f rfl ⟨_,rfl,condK_t rfl ?_⟩⟩⟩⟩⟩⟩⟩
   exact ⟨_,rfl,_,rfl,_,rfl,_,rfl,_,rfl,rfl,rfl,_,rfl,_,rfl,_,rfl,rfl,_,rfl,rfl,_,app_o,_,rfl,trivial,trivial,hQ⟩
  rw [if_neg m7] at hQ
  obtain ⟨k1,n1,v1,ks1⟩:=e
  obtain ⟨op,⟨k2,n2,v2,ks2⟩,⟨k3,n3,v3,ks3⟩⟩:=c
  have eqf:∀k:Int,kind≠k→binT .eql (ii kind) (ii k)=some (.b false):=fun k h=>by
   show some (TV.b (eqA kind k))=_
   rw [eqA_d,decide_eq_false h]
  unfold WS90
  exact ⟨rfl,_,rfl,_,eqf _ m1,condK_f rfl ⟨_,eqf _ m2,condK_f rfl ⟨_,eqf _ m3,condK_f rfl ⟨_,eqf _ m4,condK_f rfl ⟨_,eqf _ m5,condK_f rfl ⟨_,eqf _ m6,condK_f rfl ⟨_,eqf _ m7,condK_f rfl ⟨trivial,trivial,hQ⟩⟩⟩⟩⟩⟩⟩⟩
theorem u65 (l:List Sm) (hl:szSs l≤4194304):Sp65 l:=t65 l (fun s hs=>t90 4194304 s (Nat.le_trans (szSs_mem hs) hl) (Nat.le_refl _))
end Go.Ax.TryLr

set_option linter.unusedSimpArgs false
set_option linter.unusedVariables false
set_option maxRecDepth 100000
namespace Go.Ax.TryLr
open Go Go.Ax Go.Ax.V Go.Ax.Ft
def errB (p:Pg):Int:=if okPg p=false then 1 else if p.procs.all (fun x=>decide ((rawF x).edges.length≤400))=false then 10 else 0
def cntB (p:Pg):Nat:=if okPg p=false then 0 else if p.procs.all (fun x=>decide ((rawF x).edges.length≤400))=false then 0 else p.procs.length
def isB (p:Pg) (r:TV):Prop:=∃(c v:TV) (gs:List TV),r=.tp [.a [c,.l gs,v],ii (errB p)]∧gs.length=cntB p
theorem ix_n {j n:Nat} (h:j < n):ixN (ii j) n=some j:=by
 show ixA (j:Int) n=some j
 have hb:Nat.blt j n=true:=Nat.ble_eq_true_of_le h
 show (bif Nat.blt j n then some j else none)=some j
 rw [hb];rfl
theorem ld_n {es:List TV} {j:Nat} {a:Int} (h:es[j]?=some (ii a)):ldE es j 0 none=some (ii a):=by
 unfold ldE;rw [h];rfl
theorem set_n {es:List TV} {j:Nat} {a b:Int} (h:es[j]?=some (ii a)):setE es j 0 1 (ii b)=some (es.set j (ii b)):=by
 unfold setE;rw [h];rfl
theorem dec_n {j:Nat} (h:j + 1≤4611686018427387904):binT .sub (ii ((j + 1:Nat):Int)) (ii 1)=some (ii (j:Int)):=by
 have:=sub_o (a:=((j + 1:Nat):Int)) (b:=1)
 rw [this,show ((j + 1:Nat):Int) - 1=(j:Int) by omega]
theorem gt_0 (j:Nat):binT .gtr (ii ((j + 1:Nat):Int)) (ii 0)=some (.b true):=by
 show some (TV.b (ltA 0 ((j + 1:Nat):Int)))=_
 rw [ltA_d,decide_eq_true (by omega)]
theorem at_n {hs:List Int} {j:Nat} (h:j < hs.length):∃a,hs[j]?=some a∧(hs.map ii)[j]?=some (ii a):=
 ⟨_,List.getElem?_eq_getElem h,by rw [List.getElem?_map,List.getElem?_eq_getElem h];rfl⟩
def swapI (hs:List Int) (j:Nat) (a b:Int):List Int:=(hs.set j b).set (j + 1) a
theorem swapI_len (hs:List Int) (j:Nat) (a b:Int):(swapI hs j a b).length=hs.length:=by simp [swapI]
theorem swap_map (hs:List Int) (j:Nat) (a b:Int):((hs.map ii).set j (ii b)).set (j + 1) (ii a)=(swapI hs j a b).map ii:=by
 simp [swapI,List.map_set]
theorem s45 (p:Pg) (hz:szPg p):VS prog 45 [encPg p] (isB p):=by
 have hlc:=hz.chans
 have hlp:=hz.procs
 have hl2:(p.procs.map encPr).length=p.procs.length:=List.length_map _
 have h47:=s47 p hz
 refine vs45 _ _ ?_
 unfold W45
 (repeat (first | refine ⟨rfl,?_⟩ | refine ⟨_,sub_o,?_⟩ | refine ⟨_,add_o,?_⟩ | refine ⟨_,rfl,?_⟩ | refine ⟨_,not_t _,?_⟩ | refine ⟨_,⟨rfl,rfl⟩,?_⟩ | refine gFf ?_ | refine gOt ?_ | refine pkF ?_ | refine pkT ?_ | refine pkB ?_ | refine pkO ?_ | refine vs_eq h47 ?_ | refine gBa ?_ | refine gB _ (fun h=>by first | exact vs_g h47 | (rw [h];exact vs_g h47)) ?_ | refine gOa ?_ | refine gO _ (fun h=>by first | exact vs_g h47 | (rw [h];exact vs_g h47)) ?_))
 refine condK_by (fun h=>?_) (fun h=>?_)
 ·refine ⟨_,rfl,trivial,_,rfl,_,rfl,_,rfl,_,rfl,tup2 rfl rfl,?_⟩
  have h':okPg p=false:=by simpa using h
  have e1:errB p=1:=by unfold errB;rw [if_pos h']
  have e2:cntB p=0:=by unfold cntB;rw [if_pos h']
  unfold isB;rw [e1,e2]
  exact ⟨_,_,_,rfl,rfl⟩
 have hok:okPg p=true:=by simpa using h
 refine ⟨_,rfl,_,rfl,_,rfl,?_⟩
 refine ⟨fun m o15 o16 l17 l18 l19 o20 l21 l22 x23=>∃i:Nat,i≤p.procs.length∧m=p.procs.length - i∧o15=encPg p∧o16=.a [.l [],.l [],.l []]∧o20=.a [.l (p.chans.map encCh),.l [],.l []]∧l21.length=i∧l22.length=i∧x23=ii i∧(p.procs.take i).all (fun x=>decide ((rawF x).edges.length≤400))=true,⟨_,0,by omega,rfl,rfl,rfl,rfl,rfl,rfl,rfl,rfl⟩,?_⟩
 rintro m o15 o16 l17 l18 l19 o20 l21 l22 x23 ⟨i,hi,rfl,rfl,rfl,rfl,hg1,hg2,rfl,hall⟩
 refine ⟨_,rfl,_,rfl,_,rfl,?_⟩
 refine condK_by (fun h3=>?_) (fun h3=>?_)
 ·rw [hl2] at h3
  replace h3:=lt_len h3
  obtain ⟨x,hx⟩:∃x,p.procs[i]?=some x:=⟨_,List.getElem?_eq_getElem h3⟩
  have hx':(p.procs.map encPr)[i]?=some (encPr x):=by rw [List.getElem?_map,hx];rfl
  have hxm:=List.mem_of_getElem? hx
  have hb:=hz.body x hxm
  refine ⟨_,rfl,_,rfl,_,rfl,_,⟨idx_i hx',rfl⟩,_,rfl,?_⟩
  refine u65 x.body hb ⟨2,[],[]⟩ 0 1 ⟨(by decide:(0:Int)≤2),(by omega:(2:Int) + ((szSs x.body + 1:Nat):Int)≤100000000),by simp only [List.length_nil];omega,by simp only [List.length_nil];omega⟩ _ ?_
  have hgr:=(laF_grow x.body 0 1 ⟨2,[],[]⟩).h
  have hle:(eE (rawF x)).length=(rawF x).edges.length:=List.length_map _
  refine ⟨_,rfl,_,rfl,condK_by (fun h4=>?_) (fun h4=>?_)⟩
  ·have h5:¬(rawF x).edges.length≤400:=by
    have h4':ltA 400 ((eE (rawF x)).length:Int)=true:=h4
    rw [hle,ltA_d,decide_eq_true_eq] at h4'
    omega
   refine ⟨_,rfl,trivial,_,rfl,_,rfl,_,rfl,_,rfl,tup2 rfl rfl,?_⟩
   have h6:(p.procs.all fun x=>decide ((rawF x).edges.length≤400))=false:=not_all hx (by simpa using h5)
   have e1:errB p=10:=by unfold errB;rw [if_neg (by rw [hok];decide),if_pos h6]
   have e2:cntB p=0:=by unfold cntB;rw [if_neg (by rw [hok];decide),if_pos h6]
   unfold isB;rw [e1,e2]
   exact ⟨_,_,_,rfl,rfl⟩
  ·have h5:(rawF x).edges.length≤400:=by
    have h4':ltA 400 ((eE (rawF x)).length:Int)=false:=h4
    rw [hle,ltA_d,decide_eq_false_iff_not] at h4'
    omega
   have hHl:(rawF x).heads.length≤100000000:=by
    have:(rawF x).heads.length≤0 + _:=hgr
    omega
   refine ⟨fun m o46 o47 l48 l49 l50 o51 l52 l53 o54 l55 l56 x57 x58=>∃(hs:List Int) (k:Nat),hs.length=(rawF x).heads.length∧m=hs.length - k∧1≤k∧o46=encPg p∧o47=.a [.l [],.l [],.l []]∧o51=.a [.l (p.chans.map encCh),.l [],.l []]∧l52.length=i∧l53.length=i∧
    o54=oG (rawF x)∧l56=hs.map ii∧x57=ii i∧x58=ii k,⟨_,(rawF x).heads,1,rfl,rfl,Nat.le_refl _,rfl,rfl,rfl,hg1,hg2,rfl,rfl,rfl,rfl⟩,?_⟩
   rintro m o46 o47 l48 l49 l50 o51 l52 l53 o54 l55 l56 x57 x58 ⟨hs,k,hhl,rfl,hk,rfl,rfl,rfl,hg1,hg2,rfl,rfl,rfl,rfl⟩
   have hml:(hs.map ii).length=hs.length:=List.length_map _
   refine ⟨_,rfl,_,rfl,condK_by (fun h7=>?_) (fun h7=>?_)⟩
   ·rw [hml] at h7
    replace h7:=lt_len h7
    refine ⟨fun m o64 o65 l66 l67 l68 o69 l70 l71 o72 l73 l74 x75 x76 x77=>∃(hs:List Int) (j:Nat),hs.length=(rawF x).heads.length∧m=j∧j < hs.length∧o64=encPg p∧o65=.a [.l [],.l [],.l []]∧o69=.a [.l (p.chans.map encCh),.l [],.l []]∧l70.length=i∧l71.length=i∧
     o72=oG (rawF x)∧l74=hs.map ii∧x75=ii i∧x76=ii k∧x77=ii j,⟨_,hs,k,hhl,rfl,h7,rfl,rfl,rfl,hg1,hg2,rfl,rfl,rfl,rfl,rfl⟩,?_⟩
    rintro j o64 o65 l66 l67 l68 o69 l70 l71 o72 l73 l74 x75 x76 x77 ⟨hs',_,hhl',rfl,hj,rfl,rfl,rfl,hg1,hg2,rfl,rfl,rfl,rfl,rfl⟩
    have hml':(hs'.map ii).length=hs'.length:=List.length_map _
    have hk4:hs.length - (k + 1) < hs.length - k:=by omega
    match j,hj with
    |0,hj=>
     refine ⟨_,rfl,rfl,gV_f rfl (gV_f rfl ⟨rfl,0,(fun h=>by cases h),rfl,gV_f rfl ⟨rfl,gV_f rfl ⟨rfl,0,(fun h=>by cases h),rfl,gV_f rfl (gV_f rfl ⟨_,rfl,condK_f rfl ?_⟩)⟩⟩⟩)⟩
     exact ⟨_,next_i h7 (by omega),_,hk4,hs',k + 1,hhl',by rw [hhl,hhl'],by omega,rfl,rfl,rfl,hg1,hg2,rfl,rfl,rfl,rfl⟩
    |j + 1,hj=>
     obtain ⟨a,ha,ha'⟩:=at_n (hs:=hs') (j:=j) (by omega)
     obtain ⟨b,hb2,hb'⟩:=at_n hj
     have hd:=dec_n (j:=j) (by omega)
     have hx1:=ix_n (j:=j) (n:=(hs'.map ii).length) (by omega)
     have hx2:=ix_n (j:=j + 1) (n:=(hs'.map ii).length) (by omega)
     refine ⟨_,gt_0 j,rfl,gV_t rfl rfl (gV_t rfl hd ⟨rfl,_,(fun _=>hx1),rfl,gV_t rfl (ld_n ha') ⟨rfl,gV_t rfl rfl ⟨rfl,_,(fun _=>hx2),rfl,gV_t rfl (ld_n hb') (gV_t (v:=.b (ltA b a)) rfl rfl ⟨.b (ltA b a),rfl,condK_by (fun h8=>?_) (fun h8=>?_)⟩)⟩⟩⟩)⟩
     ·have hs2:=set_n (b:=b) ha'
      have hb3:((hs'.map ii).set j (ii b))[j + 1]?=some (ii b):=by rw [List.getElem?_set_ne (by omega)];exact hb'
      have hs3:=set_n (b:=a) hb3
      have hx3:=ix_n (j:=j + 1) (n:=((hs'.map ii).set j (ii b)).length) (by rw [List.length_set];omega)
      rw [swap_map] at hs3
      exact ⟨_,hd,_,hx2,_,ld_n hb',_,hd,_,hx1,_,ld_n ha',_,hx1,_,hs2,_,hx3,_,hs3,_,hd,_,Nat.lt_succ_self j,swapI hs' j a b,j,by rw [swapI_len];exact hhl',rfl,by rw [swapI_len];omega,rfl,rfl,rfl,hg1,hg2,rfl,rfl,rfl,rfl,rfl⟩
     ·exact ⟨_,next_i h7 (by omega),_,hk4,hs',k + 1,hhl',by rw [hhl,hhl'],by omega,rfl,rfl,rfl,hg1,hg2,rfl,rfl,rfl,rfl⟩
   ·have hl3:l52.length≤4194304:=by omega
    have hl4:l53.length≤4194304:=by omega
    refine ⟨_,rfl,rfl,rfl,_,rfl,_,rfl,rfl,_,rfl,rfl,_,app_o,?_⟩
    refine ⟨_,rfl,_,⟨idx_i hx',rfl⟩,_,rfl,rfl,rfl,_,rfl,rfl,_,app_o,?_⟩
    refine ⟨_,rfl,_,rfl,_,next_i h3 (by omega),_,by omega,i + 1,by omega,rfl,rfl,rfl,rfl,by rw [List.length_append,hg1];rfl,by rw [List.length_append,hg2];rfl,rfl,take_all hx hall (by simpa using h5)⟩
 ·rw [hl2] at h3
  obtain rfl:=ge_len hi h3
  rw [List.take_length] at hall
  refine ⟨_,rfl,_,rfl,trivial,_,rfl,_,rfl,_,rfl,tup2 rfl rfl,?_⟩
  have e1:errB p=0:=by unfold errB;rw [if_neg (by rw [hok];decide),if_neg (by rw [hall];decide)]
  have e2:cntB p=p.procs.length:=by unfold cntB;rw [if_neg (by rw [hok];decide),if_neg (by rw [hall];decide)]
  unfold isB;rw [e1,e2]
  exact ⟨_,_,_,rfl,hg1⟩
end Go.Ax.TryLr

set_option linter.unusedSimpArgs false
set_option linter.unusedVariables false
set_option maxRecDepth 100000
namespace Go.Ax.TryLr
open Go Go.Ax Go.Ax.V Go.Ax.Ft
def swp (hs:List Int) (j k:Int):List Int:=(hs.set j.toNat (hs.getD k.toNat 0)).set k.toNat (hs.getD j.toNat 0)
inductive Sw (a b:Int) (hs:List Int):List Int→Prop where
 |refl:Sw a b hs hs
 |step {hs':List Int} (j k:Int) (h:Sw a b hs hs') (h1:a≤j) (h2:j < b) (h3:a≤k) (h4:k < b):Sw a b hs (swp hs' j k)
theorem swp_len (hs:List Int) (j k:Int):(swp hs j k).length=hs.length:=by simp [swp]
theorem Sw.len {a b:Int} {hs hs':List Int} (h:Sw a b hs hs'):hs'.length=hs.length:=by
 induction h with
 |refl=>rfl
 |step j k h h1 h2 h3 h4 ih=>rw [swp_len,ih]
theorem Sw.trans {a b:Int} {h1 h2 h3:List Int} (h:Sw a b h1 h2) (h':Sw a b h2 h3):Sw a b h1 h3:=by
 induction h' with
 |refl=>exact h
 |step j k _ e1 e2 e3 e4 ih=>exact .step j k ih e1 e2 e3 e4
theorem Sw.wide {a b a' b':Int} {hs hs':List Int} (h:Sw a b hs hs') (ha:a'≤a) (hb:b≤b'):Sw a' b' hs hs':=by
 induction h with
 |refl=>exact .refl
 |step j k _ e1 e2 e3 e4 ih=>exact .step j k ih (by omega) (by omega) (by omega) (by omega)
theorem ix_o {hs:List Int} {j:Int} (h0:0≤j:=by omega) (h:j < hs.length:=by first | omega | (simp only [List.length_set];omega)):ixN (ii j) (List.length (hs.map ii))=some j.toNat:=by
 have:=ix_n (j:=j.toNat) (n:=(hs.map ii).length) (by rw [List.length_map];omega)
 rw [show ((j.toNat:Nat):Int)=j by omega] at this
 exact this
theorem at_o {hs:List Int} {j:Int} (h0:0≤j) (h:j < hs.length):(hs.map ii)[j.toNat]?=some (ii (hs.getD j.toNat 0)):=by
 have hj:j.toNat < hs.length:=by omega
 rw [List.getElem?_map,List.getElem?_eq_getElem hj,List.getD_eq_getElem?_getD,List.getElem?_eq_getElem hj];rfl
theorem ld_o {hs:List Int} {j:Int} (h0:0≤j:=by omega) (h:j < hs.length:=by first | omega | (simp only [List.length_set];omega)):ldE (hs.map ii) j.toNat 0 none=some (ii (hs.getD j.toNat 0)):=ld_n (at_o h0 h)
theorem set_o {hs:List Int} {j x:Int} (h0:0≤j:=by omega) (h:j < hs.length:=by first | omega | (simp only [List.length_set];omega)):setE (hs.map ii) j.toNat 0 1 (ii x)=some ((hs.set j.toNat x).map ii):=by
 rw [set_n (at_o h0 h),List.map_set]
theorem quo_o {a b:Int} (ha:0≤a:=by omega) (h2:a < 9223372036854775808:=by omega) (hb:0 < b:=by omega):binT .quo (ii a) (ii b)=some (ii (a / b)):=by
 have e:a.tdiv b=a / b:=Int.tdiv_eq_ediv_of_nonneg ha
 have h3:a / b≤a:=Int.ediv_le_self b ha
 have h4:0≤a / b:=Int.ediv_nonneg ha (by omega)
 rw [←e]
 exact quo_i (by omega) (by omega) (by omega)
theorem mul_o {a b:Int} (h1:-9223372036854775808≤a*b:=by omega) (h2:a*b < 9223372036854775808:=by omega):binT .mul (ii a) (ii b)=some (ii (a*b)):=mul_i h1 h2
theorem by_lss {x y:Int} {K:TV→Prop} (h1:x < y→K (.b true)) (h2:y≤x→K (.b false)):∃v,binT .lss (ii x) (ii y)=some v∧K v:=by
 refine ⟨.b (ltA x y),rfl,?_⟩
 rw [ltA_d]
 by_cases h:x < y
 ·rw [decide_eq_true h];exact h1 h
 ·rw [decide_eq_false h];exact h2 (by omega)
theorem by_gtr {x y:Int} {K:TV→Prop} (h1:y < x→K (.b true)) (h2:x≤y→K (.b false)):∃v,binT .gtr (ii x) (ii y)=some v∧K v:=by
 refine ⟨.b (ltA y x),rfl,?_⟩
 rw [ltA_d]
 by_cases h:y < x
 ·rw [decide_eq_true h];exact h1 h
 ·rw [decide_eq_false h];exact h2 (by omega)
theorem by_leq {x y:Int} {K:TV→Prop} (h1:x≤y→K (.b true)) (h2:y < x→K (.b false)):∃v,binT .leq (ii x) (ii y)=some v∧K v:=by
 refine ⟨.b (!ltA y x),rfl,?_⟩
 rw [ltA_d]
 by_cases h:y < x
 ·rw [decide_eq_true h];exact h2 h
 ·rw [decide_eq_false h];exact h1 (by omega)
theorem by_geq {x y:Int} {K:TV→Prop} (h1:y≤x→K (.b true)) (h2:x < y→K (.b false)):∃v,binT .geq (ii x) (ii y)=some v∧K v:=by
 refine ⟨.b (!ltA x y),rfl,?_⟩
 rw [ltA_d]
 by_cases h:x < y
 ·rw [decide_eq_true h];exact h2 h
 ·rw [decide_eq_false h];exact h1 (by omega)
theorem by_eql {x y:Int} {K:TV→Prop} (h1:x=y→K (.b true)) (h2:x≠y→K (.b false)):∃v,binT .eql (ii x) (ii y)=some v∧K v:=by
 refine ⟨.b (eqA x y),rfl,?_⟩
 rw [eqA_d]
 by_cases h:x=y
 ·rw [decide_eq_true h];exact h1 h
 ·rw [decide_eq_false h];exact h2 h
theorem s118 (a b:Int):VS prog 118 [ii a,ii b] (fun r=>r=.b (ltA a b)):=by
 refine vs118 _ _ _ ?_
 unfold W118
 exact vs_eq (s155 a) (gV_f rfl (gV_f rfl (gV_f rfl ⟨_,rfl,gV_t rfl rfl (gV_t rfl rfl (gV_t rfl rfl ⟨_,rfl,trivial,trivial,rfl⟩))⟩)))
attribute [local irreducible] S112 S113 S116 S150
theorem t112 (hs:List Int) (a b:Int) (ha:0≤a) (hb:b≤hs.length) (hn:hs.length≤100000000) (Q:List TV→TV→Prop) (hQ:∀hs',Sw a b hs hs'→Q (hs'.map ii) (.tp [])) (hab:a≤b):S112 Q (hs.map ii) (ii a) (ii b):=by
 refine sh112 _ _ _ _ ?_
 unfold WS112
 (first | refine ⟨_,sub_o,?_⟩ | refine ⟨_,add_o,?_⟩ | refine ⟨_,mul_o,?_⟩ | refine ⟨_,quo_o,?_⟩ | refine ⟨_,ix_o,?_⟩ | refine ⟨_,ld_o,?_⟩ | refine ⟨_,set_o,?_⟩ | refine by_lss (fun h=>?_) (fun h=>?_) | refine by_gtr (fun h=>?_) (fun h=>?_) | refine by_leq (fun h=>?_) (fun h=>?_) | refine by_geq (fun h=>?_) (fun h=>?_) | refine by_eql (fun h=>?_) (fun h=>?_) | refine ⟨rfl,_,fun _=>ix_o,?_⟩ | refine ⟨rfl,0,(fun h=>by cases h),?_⟩ | refine ⟨rfl,gV_t rfl ld_o ?_⟩ | refine ⟨rfl,gV_f rfl ?_⟩ | refine gV_t rfl rfl ?_ | refine gV_t rfl sub_o ?_ | refine gV_t rfl add_o ?_ | refine gV_t rfl (vs_g (s118 _ _)) ?_ | refine gV_t rfl (not_t _) ?_ | refine gV_f rfl ?_ | refine vs_eq (s118 _ _) ?_ | refine ⟨_,not_t _,?_⟩ | refine condK_t rfl ?_ | refine condK_f rfl ?_ | refine condK_by (fun h=>?_) (fun h=>?_) | refine ⟨_,rfl,?_⟩ | fail)
 refine ⟨fun n l5 x6 x7 x8=>∃(hs':List Int) (i:Int),Sw a b hs hs'∧n=(b - i).toNat∧a + 1≤i∧l5=hs'.map ii∧x6=ii a∧x7=ii b∧x8=ii i,⟨_,hs,a + 1,.refl,rfl,Int.le_refl _,rfl,rfl,rfl,rfl⟩,?_⟩
 rintro n l5 x6 x7 x8 ⟨h1,i,hsw,rfl,hi,rfl,rfl,rfl,rfl⟩
 refine by_lss (fun h=>condK_t rfl ?_) (fun h=>condK_f rfl ⟨trivial,trivial,hQ _ hsw⟩)
 refine ⟨fun n l13 x14 x15 x16 x17=>∃(hs':List Int) (j:Int),Sw a b hs hs'∧n=j.toNat∧a≤j∧j≤i∧l13=hs'.map ii∧x14=ii a∧x15=ii b∧x16=ii i∧x17=ii j,⟨_,h1,i,hsw,rfl,by omega,by omega,rfl,rfl,rfl,rfl,rfl⟩,?_⟩
 rintro n l13 x14 x15 x16 x17 ⟨h2,j,hsw,rfl,hj,hji,rfl,rfl,rfl,rfl,rfl⟩
 have hl:=hsw.len
 repeat' (first | refine ⟨_,sub_o,?_⟩ | refine ⟨_,add_o,?_⟩ | refine ⟨_,mul_o,?_⟩ | refine ⟨_,quo_o,?_⟩ | refine ⟨_,ix_o,?_⟩ | refine ⟨_,ld_o,?_⟩ | refine ⟨_,set_o,?_⟩ | refine by_lss (fun h=>?_) (fun h=>?_) | refine by_gtr (fun h=>?_) (fun h=>?_) | refine by_leq (fun h=>?_) (fun h=>?_) | refine by_geq (fun h=>?_) (fun h=>?_) | refine by_eql (fun h=>?_) (fun h=>?_) | refine ⟨rfl,_,fun _=>ix_o,?_⟩ | refine ⟨rfl,0,(fun h=>by cases h),?_⟩ | refine ⟨rfl,gV_t rfl ld_o ?_⟩ | refine ⟨rfl,gV_f rfl ?_⟩ | refine gV_t rfl rfl ?_ | refine gV_t rfl sub_o ?_ | refine gV_t rfl add_o ?_ | refine gV_t rfl (vs_g (s118 _ _)) ?_ | refine gV_t rfl (not_t _) ?_ | refine gV_f rfl ?_ | refine vs_eq (s118 _ _) ?_ | refine ⟨_,not_t _,?_⟩ | refine condK_t rfl ?_ | refine condK_f rfl ?_ | refine condK_by (fun h=>?_) (fun h=>?_) | refine ⟨_,rfl,?_⟩ | fail)
 ·exact ⟨_,by omega,_,j - 1,.step j (j - 1) hsw (by omega) (by omega) (by omega) (by omega),rfl,by omega,by omega,rfl,rfl,rfl,rfl,rfl⟩
 all_goals exact ⟨_,by omega,_,i + 1,hsw,rfl,by omega,rfl,rfl,rfl,rfl⟩
theorem t116 (hs:List Int) (a b:Int) (ha:0≤a) (hb:b≤hs.length) (hn:hs.length≤100000000) (Q:List TV→TV→Prop) (hQ:∀hs',Sw a b hs hs'→Q (hs'.map ii) (.tp [])) (hab:a≤b):S116 Q (hs.map ii) (ii a) (ii b):=by
 refine sh116 _ _ _ _ ?_
 unfold WS116
 (first | refine ⟨_,sub_o,?_⟩ | refine ⟨_,add_o,?_⟩ | refine ⟨_,mul_o,?_⟩ | refine ⟨_,quo_o,?_⟩ | refine ⟨_,ix_o,?_⟩ | refine ⟨_,ld_o,?_⟩ | refine ⟨_,set_o,?_⟩ | refine by_lss (fun h=>?_) (fun h=>?_) | refine by_gtr (fun h=>?_) (fun h=>?_) | refine by_leq (fun h=>?_) (fun h=>?_) | refine by_geq (fun h=>?_) (fun h=>?_) | refine by_eql (fun h=>?_) (fun h=>?_) | refine ⟨rfl,_,fun _=>ix_o,?_⟩ | refine ⟨rfl,0,(fun h=>by cases h),?_⟩ | refine ⟨rfl,gV_t rfl ld_o ?_⟩ | refine ⟨rfl,gV_f rfl ?_⟩ | refine gV_t rfl rfl ?_ | refine gV_t rfl sub_o ?_ | refine gV_t rfl add_o ?_ | refine gV_t rfl (vs_g (s118 _ _)) ?_ | refine gV_t rfl (not_t _) ?_ | refine gV_f rfl ?_ | refine vs_eq (s118 _ _) ?_ | refine ⟨_,not_t _,?_⟩ | refine condK_t rfl ?_ | refine condK_f rfl ?_ | refine condK_by (fun h=>?_) (fun h=>?_) | refine ⟨_,rfl,?_⟩ | fail)
 refine ⟨fun n l5 x6 x7=>∃(hs':List Int) (i j:Int),Sw a b hs hs'∧n=(j + 1 - i).toNat∧a≤i∧j < b∧-1≤j∧l5=hs'.map ii∧x6=ii i∧x7=ii j,⟨_,hs,a,b - 1,.refl,rfl,by omega,by omega,by omega,rfl,rfl,rfl⟩,?_⟩
 rintro n l5 x6 x7 ⟨h1,i,j,hsw,rfl,hi,hj,hj0,rfl,rfl,rfl⟩
 have hl:=hsw.len
 refine by_lss (fun h=>condK_t rfl ?_) (fun h=>condK_f rfl ⟨trivial,trivial,hQ _ hsw⟩)
 repeat' (first | refine ⟨_,sub_o,?_⟩ | refine ⟨_,add_o,?_⟩ | refine ⟨_,mul_o,?_⟩ | refine ⟨_,quo_o,?_⟩ | refine ⟨_,ix_o,?_⟩ | refine ⟨_,ld_o,?_⟩ | refine ⟨_,set_o,?_⟩ | refine by_lss (fun h=>?_) (fun h=>?_) | refine by_gtr (fun h=>?_) (fun h=>?_) | refine by_leq (fun h=>?_) (fun h=>?_) | refine by_geq (fun h=>?_) (fun h=>?_) | refine by_eql (fun h=>?_) (fun h=>?_) | refine ⟨rfl,_,fun _=>ix_o,?_⟩ | refine ⟨rfl,0,(fun h=>by cases h),?_⟩ | refine ⟨rfl,gV_t rfl ld_o ?_⟩ | refine ⟨rfl,gV_f rfl ?_⟩ | refine gV_t rfl rfl ?_ | refine gV_t rfl sub_o ?_ | refine gV_t rfl add_o ?_ | refine gV_t rfl (vs_g (s118 _ _)) ?_ | refine gV_t rfl (not_t _) ?_ | refine gV_f rfl ?_ | refine vs_eq (s118 _ _) ?_ | refine ⟨_,not_t _,?_⟩ | refine condK_t rfl ?_ | refine condK_f rfl ?_ | refine condK_by (fun h=>?_) (fun h=>?_) | refine ⟨_,rfl,?_⟩ | fail)
 exact ⟨_,by omega,_,i + 1,j - 1,.step i j hsw (by omega) (by omega) (by omega) (by omega),rfl,by omega,by omega,by omega,rfl,rfl,rfl⟩
set_option maxHeartbeats 2000000 in
theorem t150 (hs:List Int) (a b lo hi:Int) (ha:0≤a) (hb:b≤hs.length) (hn:hs.length≤100000000) (h0:0≤lo) (hh:a + hi≤b) (Q:List TV→TV→Prop) (hQ:∀hs',Sw a b hs hs'→Q (hs'.map ii) (.tp [])) (hlo:lo≤hs.length) (hhi:0≤hi):S150 Q (hs.map ii) (ii lo) (ii hi) (ii a):=by
 refine sh150 _ _ _ _ _ ?_
 unfold WS150
 refine ⟨fun n l4 x5 x6 x7=>∃(hs':List Int) (r:Int),Sw a b hs hs'∧n=(hi - r).toNat∧0≤r∧r≤hs.length∧l4=hs'.map ii∧x5=ii hi∧x6=ii a∧x7=ii r,⟨_,hs,lo,.refl,rfl,h0,hlo,rfl,rfl,rfl,rfl⟩,?_⟩
 rintro n l4 x5 x6 x7 ⟨h1,r,hsw,rfl,hr,hr2,rfl,rfl,rfl,rfl⟩
 have hl:=hsw.len
 repeat' (first | refine ⟨_,sub_o,?_⟩ | refine ⟨_,add_o,?_⟩ | refine ⟨_,mul_o,?_⟩ | refine ⟨_,quo_o,?_⟩ | refine ⟨_,ix_o,?_⟩ | refine ⟨_,ld_o,?_⟩ | refine ⟨_,set_o,?_⟩ | refine by_lss (fun h=>?_) (fun h=>?_) | refine by_gtr (fun h=>?_) (fun h=>?_) | refine by_leq (fun h=>?_) (fun h=>?_) | refine by_geq (fun h=>?_) (fun h=>?_) | refine by_eql (fun h=>?_) (fun h=>?_) | refine ⟨rfl,_,fun _=>ix_o,?_⟩ | refine ⟨rfl,0,(fun h=>by cases h),?_⟩ | refine ⟨rfl,gV_t rfl ld_o ?_⟩ | refine ⟨rfl,gV_f rfl ?_⟩ | refine gV_t rfl rfl ?_ | refine gV_t rfl sub_o ?_ | refine gV_t rfl add_o ?_ | refine gV_t rfl (vs_g (s118 _ _)) ?_ | refine gV_t rfl (not_t _) ?_ | refine gV_f rfl ?_ | refine vs_eq (s118 _ _) ?_ | refine ⟨_,not_t _,?_⟩ | refine condK_t rfl ?_ | refine condK_f rfl ?_ | refine condK_by (fun h=>?_) (fun h=>?_) | refine ⟨_,rfl,?_⟩ | fail)
 all_goals first
  |exact ⟨trivial,trivial,hQ _ hsw⟩
  |exact ⟨_,by omega,_,2*r + 1 + 1,.step (a + r) (a + (2*r + 1 + 1)) hsw (by omega) (by omega) (by omega) (by omega),rfl,by omega,by omega,rfl,rfl,rfl,rfl⟩
  |exact ⟨_,by omega,_,2*r + 1,.step (a + r) (a + (2*r + 1)) hsw (by omega) (by omega) (by omega) (by omega),rfl,by omega,by omega,rfl,rfl,rfl,rfl⟩
theorem t113 (hs:List Int) (a b:Int) (ha:0≤a) (hb:b≤hs.length) (hn:hs.length≤100000000) (hab:a < b) (Q:List TV→TV→Prop) (hQ:∀hs',Sw a b hs hs'→Q (hs'.map ii) (.tp [])):S113 Q (hs.map ii) (ii a) (ii b):=by
 refine sh113 _ _ _ _ ?_
 unfold WS113
 repeat (first | refine ⟨_,sub_o,?_⟩ | refine ⟨_,add_o,?_⟩ | refine ⟨_,mul_o,?_⟩ | refine ⟨_,quo_o,?_⟩ | refine ⟨_,ix_o,?_⟩ | refine ⟨_,ld_o,?_⟩ | refine ⟨_,set_o,?_⟩ | refine by_lss (fun h=>?_) (fun h=>?_) | refine by_gtr (fun h=>?_) (fun h=>?_) | refine by_leq (fun h=>?_) (fun h=>?_) | refine by_geq (fun h=>?_) (fun h=>?_) | refine by_eql (fun h=>?_) (fun h=>?_) | refine ⟨rfl,_,fun _=>ix_o,?_⟩ | refine ⟨rfl,0,(fun h=>by cases h),?_⟩ | refine ⟨rfl,gV_t rfl ld_o ?_⟩ | refine ⟨rfl,gV_f rfl ?_⟩ | refine gV_t rfl rfl ?_ | refine gV_t rfl sub_o ?_ | refine gV_t rfl add_o ?_ | refine gV_t rfl (vs_g (s118 _ _)) ?_ | refine gV_t rfl (not_t _) ?_ | refine gV_f rfl ?_ | refine vs_eq (s118 _ _) ?_ | refine ⟨_,not_t _,?_⟩ | refine condK_t rfl ?_ | refine condK_f rfl ?_ | refine condK_by (fun h=>?_) (fun h=>?_) | refine ⟨_,rfl,?_⟩ | fail)
 refine ⟨fun n l7 x8 x9 x10 x11=>∃(hs':List Int) (i:Int),Sw a b hs hs'∧n=(i + 1).toNat∧-1≤i∧i≤hs.length∧l7=hs'.map ii∧x8=ii a∧x9=ii 0∧x10=ii (b - a)∧x11=ii i,⟨_,hs,_,.refl,rfl,by omega,by omega,rfl,rfl,rfl,rfl,rfl⟩,?_⟩
 rintro n l7 x8 x9 x10 x11 ⟨h1,i,hsw,rfl,hi,hi2,rfl,rfl,rfl,rfl,rfl⟩
 have hl:=hsw.len
 refine by_geq (fun h=>condK_t rfl ?_) (fun h=>condK_f rfl ?_)
 ·refine t150 h1 a b i (b - a) ha (by omega) (by omega) (by omega) (by omega) _ (fun h2 hsw2=>?_) (by omega) (by omega)
  (first | refine ⟨_,sub_o,?_⟩ | refine ⟨_,add_o,?_⟩ | refine ⟨_,mul_o,?_⟩ | refine ⟨_,quo_o,?_⟩ | refine ⟨_,ix_o,?_⟩ | refine ⟨_,ld_o,?_⟩ | refine ⟨_,set_o,?_⟩ | refine by_lss (fun h=>?_) (fun h=>?_) | refine by_gtr (fun h=>?_) (fun h=>?_) | refine by_leq (fun h=>?_) (fun h=>?_) | refine by_geq (fun h=>?_) (fun h=>?_) | refine by_eql (fun h=>?_) (fun h=>?_) | refine ⟨rfl,_,fun _=>ix_o,?_⟩ | refine ⟨rfl,0,(fun h=>by cases h),?_⟩ | refine ⟨rfl,gV_t rfl ld_o ?_⟩ | refine ⟨rfl,gV_f rfl ?_⟩ | refine gV_t rfl rfl ?_ | refine gV_t rfl sub_o ?_ | refine gV_t rfl add_o ?_ | refine gV_t rfl (vs_g (s118 _ _)) ?_ | refine gV_t rfl (not_t _) ?_ | refine gV_f rfl ?_ | refine vs_eq (s118 _ _) ?_ | refine ⟨_,not_t _,?_⟩ | refine condK_t rfl ?_ | refine condK_f rfl ?_ | refine condK_by (fun h=>?_) (fun h=>?_) | refine ⟨_,rfl,?_⟩ | fail)
  exact ⟨_,by omega,_,i - 1,hsw.trans hsw2,rfl,by omega,by omega,rfl,rfl,rfl,rfl,rfl⟩
 ·(first | refine ⟨_,sub_o,?_⟩ | refine ⟨_,add_o,?_⟩ | refine ⟨_,mul_o,?_⟩ | refine ⟨_,quo_o,?_⟩ | refine ⟨_,ix_o,?_⟩ | refine ⟨_,ld_o,?_⟩ | refine ⟨_,set_o,?_⟩ | refine by_lss (fun h=>?_) (fun h=>?_) | refine by_gtr (fun h=>?_) (fun h=>?_) | refine by_leq (fun h=>?_) (fun h=>?_) | refine by_geq (fun h=>?_) (fun h=>?_) | refine by_eql (fun h=>?_) (fun h=>?_) | refine ⟨rfl,_,fun _=>ix_o,?_⟩ | refine ⟨rfl,0,(fun h=>by cases h),?_⟩ | refine ⟨rfl,gV_t rfl ld_o ?_⟩ | refine ⟨rfl,gV_f rfl ?_⟩ | refine gV_t rfl rfl ?_ | refine gV_t rfl sub_o ?_ | refine gV_t rfl add_o ?_ | refine gV_t rfl (vs_g (s118 _ _)) ?_ | refine gV_t rfl (not_t _) ?_ | refine gV_f rfl ?_ | refine vs_eq (s118 _ _) ?_ | refine ⟨_,not_t _,?_⟩ | refine condK_t rfl ?_ | refine condK_f rfl ?_ | refine condK_by (fun h=>?_) (fun h=>?_) | refine ⟨_,rfl,?_⟩ | fail)
  refine ⟨fun n l20 x21 x22 x23=>∃(hs':List Int) (i:Int),Sw a b hs hs'∧n=(i + 1).toNat∧-1≤i∧i < b - a∧l20=hs'.map ii∧x21=ii a∧x22=ii 0∧x23=ii i,⟨_,h1,_,hsw,rfl,by omega,by omega,rfl,rfl,rfl,rfl⟩,?_⟩
  rintro n l20 x21 x22 x23 ⟨h2,i,hsw,rfl,hi,hi2,rfl,rfl,rfl,rfl⟩
  have hl:=hsw.len
  refine by_geq (fun h=>condK_t rfl ?_) (fun h=>condK_f rfl ⟨trivial,trivial,hQ _ hsw⟩)
  repeat' (first | refine ⟨_,sub_o,?_⟩ | refine ⟨_,add_o,?_⟩ | refine ⟨_,mul_o,?_⟩ | refine ⟨_,quo_o,?_⟩ | refine ⟨_,ix_o,?_⟩ | refine ⟨_,ld_o,?_⟩ | refine ⟨_,set_o,?_⟩ | refine by_lss (fun h=>?_) (fun h=>?_) | refine by_gtr (fun h=>?_) (fun h=>?_) | refine by_leq (fun h=>?_) (fun h=>?_) | refine by_geq (fun h=>?_) (fun h=>?_) | refine by_eql (fun h=>?_) (fun h=>?_) | refine ⟨rfl,_,fun _=>ix_o,?_⟩ | refine ⟨rfl,0,(fun h=>by cases h),?_⟩ | refine ⟨rfl,gV_t rfl ld_o ?_⟩ | refine ⟨rfl,gV_f rfl ?_⟩ | refine gV_t rfl rfl ?_ | refine gV_t rfl sub_o ?_ | refine gV_t rfl add_o ?_ | refine gV_t rfl (vs_g (s118 _ _)) ?_ | refine gV_t rfl (not_t _) ?_ | refine gV_f rfl ?_ | refine vs_eq (s118 _ _) ?_ | refine ⟨_,not_t _,?_⟩ | refine condK_t rfl ?_ | refine condK_f rfl ?_ | refine condK_by (fun h=>?_) (fun h=>?_) | refine ⟨_,rfl,?_⟩ | fail)
  refine t150 (swp h2 a (a + i)) a b 0 i ha (by rw [swp_len];omega) (by rw [swp_len];omega) (by omega) (by omega) _ (fun h3 hsw3=>?_) (by omega) (by omega)
  (first | refine ⟨_,sub_o,?_⟩ | refine ⟨_,add_o,?_⟩ | refine ⟨_,mul_o,?_⟩ | refine ⟨_,quo_o,?_⟩ | refine ⟨_,ix_o,?_⟩ | refine ⟨_,ld_o,?_⟩ | refine ⟨_,set_o,?_⟩ | refine by_lss (fun h=>?_) (fun h=>?_) | refine by_gtr (fun h=>?_) (fun h=>?_) | refine by_leq (fun h=>?_) (fun h=>?_) | refine by_geq (fun h=>?_) (fun h=>?_) | refine by_eql (fun h=>?_) (fun h=>?_) | refine ⟨rfl,_,fun _=>ix_o,?_⟩ | refine ⟨rfl,0,(fun h=>by cases h),?_⟩ | refine ⟨rfl,gV_t rfl ld_o ?_⟩ | refine ⟨rfl,gV_f rfl ?_⟩ | refine gV_t rfl rfl ?_ | refine gV_t rfl sub_o ?_ | refine gV_t rfl add_o ?_ | refine gV_t rfl (vs_g (s118 _ _)) ?_ | refine gV_t rfl (not_t _) ?_ | refine gV_f rfl ?_ | refine vs_eq (s118 _ _) ?_ | refine ⟨_,not_t _,?_⟩ | refine condK_t rfl ?_ | refine condK_f rfl ?_ | refine condK_by (fun h=>?_) (fun h=>?_) | refine ⟨_,rfl,?_⟩ | fail)
  exact ⟨_,by omega,_,i - 1,(Sw.step a (a + i) hsw (by omega) (by omega) (by omega) (by omega)).trans hsw3,rfl,by omega,by omega,rfl,rfl,rfl,rfl⟩
end Go.Ax.TryLr

set_option linter.unusedSimpArgs false
set_option linter.unusedVariables false
set_option maxRecDepth 100000
namespace Go.Ax.TryLr
open Go Go.Ax Go.Ax.V Go.Ax.Ft
theorem wrap_u {n:Int} (h1:0≤n) (h2:n < 18446744073709551616):wrapA .u64 n=n:=by
 unfold wrapA
 have:inR .u64 n=true:=by
  cases n with
  |ofNat m=>have h2':(m:Int) < 18446744073709551616:=h2;simp only [inR];simp;omega
  |negSucc m=>omega
 rw [this];rfl
def lenOf (n:Nat):Option TV:=(convT .u8 (.i .u64 n)).bind fun v=>(idxST zz7 v).bind fun w=>(convT .i64 w).bind fun x=>binT .add (ii 0) x
def lenGood (n:Nat):Bool:=match lenOf n with
 |some (.i .i64 (.ofNat m))=>Nat.blt n (2 ^ m)&&(Nat.beq n 0||Nat.ble (2 ^ m) (2*n))&&Nat.ble m 8
 |_=>false
theorem lenAll:(List.range 256).all lenGood=true:=by kernel_rfl
theorem len_of {n:Nat} (h:n < 256):∃m:Nat,lenOf n=some (ii m)∧n < 2 ^ m∧(n=0∨2 ^ m≤2*n)∧m≤8:=by
 have hg:=List.all_eq_true.1 lenAll n (List.mem_range.2 h)
 unfold lenGood at hg
 split at hg
 ·rename_i m heq
  simp only [Bool.and_eq_true,Bool.or_eq_true,Nat.blt_eq,Nat.beq_eq,Nat.ble_eq] at hg
  exact ⟨m,heq,hg.1.1,hg.1.2,hg.2⟩
 ·cases hg
theorem t122 {n:Nat} (h:n < 256):VS prog 122 [.i .u64 n] (fun r=>∃m:Nat,r=ii m∧n < 2 ^ m∧(n=0∨2 ^ m≤2*n)∧m≤8):=by
 obtain ⟨m,hm,h1,h2,h3⟩:=len_of h
 unfold lenOf at hm
 obtain ⟨v,hv,hm⟩:=Option.bind_eq_some_iff.1 hm
 obtain ⟨w,hw,hm⟩:=Option.bind_eq_some_iff.1 hm
 obtain ⟨x,hx,hm⟩:=Option.bind_eq_some_iff.1 hm
 have hge:∀k:Int,256≤k→binT .geq (.i .u64 n) (.i .u64 k)=some (.b false):=fun k hk=>by
  show some (TV.b (!ltA n k))=_
  rw [ltA_d,decide_eq_true (by omega)];rfl
 refine vs122 _ _ ?_
 unfold W122
 refine ⟨_,hge _ (by decide),condK_f rfl ⟨_,hge _ (by decide),condK_f rfl ⟨_,hge _ (by decide),condK_f rfl ?_⟩⟩⟩
 exact ⟨_,hv,_,hw,_,hx,_,hm,trivial,trivial,_,rfl,h1,h2,h3⟩
theorem t88 {n:Nat} (h:n < 256):VS prog 88 [.i .u64 n] (fun r=>∃m:Nat,r=ii m∧n < 2 ^ m∧(n=0∨2 ^ m≤2*n)∧m≤8):=by
 refine vs88 _ _ ?_
 unfold W88
 refine condK_f rfl (vs_ex (t122 h) (fun r hr=>?_))
 exact ⟨by obtain ⟨m,rfl,_⟩:=hr;trivial,trivial,trivial,hr⟩
theorem t151 {n:Nat} (h:n < 256):VS prog 151 [ii n] (fun r=>∃p:Nat,r=.i .u64 p∧n < p∧(n=0∨p≤2*n)∧1≤p∧p≤256):=by
 refine vs151 _ _ ?_
 unfold W151
 refine ⟨_,rfl,?_⟩
 rw [wrap_u (by omega) (by omega)]
 refine vs_ex (t88 h) (fun r hr=>?_)
 obtain ⟨m,rfl,h1,h2,h3⟩:=hr
 have e:∃p:Nat,binT .shl (.i .u64 1) (ii m)=some (.i .u64 p)∧p=2 ^ m:=by
  match m,h3 with
  |0,_=>exact ⟨_,rfl,rfl⟩
  |1,_=>exact ⟨_,rfl,rfl⟩
  |2,_=>exact ⟨_,rfl,rfl⟩
  |3,_=>exact ⟨_,rfl,rfl⟩
  |4,_=>exact ⟨_,rfl,rfl⟩
  |5,_=>exact ⟨_,rfl,rfl⟩
  |6,_=>exact ⟨_,rfl,rfl⟩
  |7,_=>exact ⟨_,rfl,rfl⟩
  |8,_=>exact ⟨_,rfl,rfl⟩
 obtain ⟨p,hp,hpm⟩:=e
 have h4:2 ^ m≤2 ^ 8:=Nat.pow_le_pow_right (by decide) h3
 have h5:0 < 2 ^ m:=Nat.pow_pos (by decide)
 exact ⟨trivial,_,hp,trivial,trivial,p,rfl,by omega,by omega,by omega,by omega⟩
theorem t152 (x:Int) (Q:TV→TV→Prop) (hQ:∀y,Q (.a [.i .u64 y]) (.i .u64 y)):S152 Q (.a [.i .u64 x]):=by
 refine sh152 _ _ ?_
 unfold WS152
 exact ⟨_,rfl,_,rfl,_,rfl,_,rfl,_,rfl,_,rfl,_,rfl,_,rfl,_,rfl,_,rfl,_,rfl,_,rfl,_,rfl,_,rfl,_,rfl,_,rfl,trivial,hQ _⟩
theorem and_lt (y:Int) {p:Nat} (h1:1≤p) (h2:p≤256):∃z:Int,0≤z∧z < p∧binT .and (.i .u64 y) (.i .u64 ((p:Int) - 1))=some (.i .u64 z):=by
 refine ⟨_,?_,?_,rfl⟩
 all_goals
  have e:(BitVec.ofInt 64 ((p:Int) - 1)).toNat=p - 1:=by
   rw [show ((p:Int) - 1)=((p - 1:Nat):Int) by omega,BitVec.ofInt_natCast,BitVec.toNat_ofNat]
   omega
  have h3:(BitVec.ofInt 64 y&&& BitVec.ofInt 64 ((p:Int) - 1)).toNat≤p - 1:=by
   rw [BitVec.toNat_and,e];exact Nat.and_le_right
  have e2:IntKind.u64.wrap (BitVec.ofInt IntKind.u64.bits y&&& BitVec.ofInt IntKind.u64.bits ((p:Int) - 1)).toNat=((BitVec.ofInt 64 y&&& BitVec.ofInt 64 ((p:Int) - 1)).toNat:Int):=by
   have hw:∀n:Int,IntKind.u64.wrap n=n % 18446744073709551616:=fun n=>by simp [IntKind.wrap,IntKind.bits,IntKind.signed]
   rw [hw]
   show ((BitVec.ofInt 64 y&&& BitVec.ofInt 64 ((p:Int) - 1)).toNat:Int) % 18446744073709551616=_
   omega
  rw [e2]
  omega
attribute [local irreducible] S152 S114
theorem t114 (hs:List Int) (a b:Int) (ha:0≤a) (hb:b≤hs.length) (hn:hs.length≤100000000) (hab:a≤b) (hl:b - a < 256) (Q:List TV→TV→Prop) (hQ:∀hs',Sw a b hs hs'→Q (hs'.map ii) (.tp [])):S114 Q (hs.map ii) (ii a) (ii b):=by
 refine sh114 _ _ _ _ ?_
 unfold WS114
 (first | refine ⟨_,sub_o,?_⟩ | refine ⟨_,add_o,?_⟩ | refine ⟨_,mul_o,?_⟩ | refine ⟨_,quo_o,?_⟩ | refine ⟨_,ix_o,?_⟩ | refine ⟨_,ld_o,?_⟩ | refine ⟨_,set_o,?_⟩ | refine by_lss (fun h=>?_) (fun h=>?_) | refine by_gtr (fun h=>?_) (fun h=>?_) | refine by_leq (fun h=>?_) (fun h=>?_) | refine by_geq (fun h=>?_) (fun h=>?_) | refine by_eql (fun h=>?_) (fun h=>?_) | refine ⟨rfl,_,fun _=>ix_o,?_⟩ | refine ⟨rfl,0,(fun h=>by cases h),?_⟩ | refine ⟨rfl,gV_t rfl ld_o ?_⟩ | refine ⟨rfl,gV_f rfl ?_⟩ | refine gV_t rfl rfl ?_ | refine gV_t rfl sub_o ?_ | refine gV_t rfl add_o ?_ | refine gV_t rfl (vs_g (s118 _ _)) ?_ | refine gV_t rfl (not_t _) ?_ | refine gV_f rfl ?_ | refine vs_eq (s118 _ _) ?_ | refine ⟨_,not_t _,?_⟩ | refine condK_t rfl ?_ | refine condK_f rfl ?_ | refine condK_by (fun h=>?_) (fun h=>?_) | refine ⟨_,rfl,?_⟩ | fail)
 refine by_geq (fun h=>condK_t rfl ?_) (fun h=>condK_f rfl ⟨trivial,trivial,hQ _ .refl⟩)
 obtain ⟨n,hn'⟩:∃n:Nat,b - a=n:=⟨(b - a).toNat,by omega⟩
 rw [hn'] at h ⊢
 refine ⟨_,rfl,_,rfl,vs_ex (t151 (n:=n) (by omega)) (fun r hr=>?_)⟩
 obtain ⟨p,rfl,h1,h2,h3,h4⟩:=hr
 refine ⟨trivial,?_⟩
 repeat (first | refine ⟨_,sub_o,?_⟩ | refine ⟨_,add_o,?_⟩ | refine ⟨_,mul_o,?_⟩ | refine ⟨_,quo_o,?_⟩ | refine ⟨_,ix_o,?_⟩ | refine ⟨_,ld_o,?_⟩ | refine ⟨_,set_o,?_⟩ | refine by_lss (fun h=>?_) (fun h=>?_) | refine by_gtr (fun h=>?_) (fun h=>?_) | refine by_leq (fun h=>?_) (fun h=>?_) | refine by_geq (fun h=>?_) (fun h=>?_) | refine by_eql (fun h=>?_) (fun h=>?_) | refine ⟨rfl,_,fun _=>ix_o,?_⟩ | refine ⟨rfl,0,(fun h=>by cases h),?_⟩ | refine ⟨rfl,gV_t rfl ld_o ?_⟩ | refine ⟨rfl,gV_f rfl ?_⟩ | refine gV_t rfl rfl ?_ | refine gV_t rfl sub_o ?_ | refine gV_t rfl add_o ?_ | refine gV_t rfl (vs_g (s118 _ _)) ?_ | refine gV_t rfl (not_t _) ?_ | refine gV_f rfl ?_ | refine vs_eq (s118 _ _) ?_ | refine ⟨_,not_t _,?_⟩ | refine condK_t rfl ?_ | refine condK_f rfl ?_ | refine condK_by (fun h=>?_) (fun h=>?_) | refine ⟨_,rfl,?_⟩ | fail)
 refine ⟨fun k o13 l14 x15 x16 x17 x18=>∃(hs':List Int) (y i:Int),Sw a b hs hs'∧k=(a + n / 4*2 + 2 - i).toNat∧a + n / 4*2 - 1≤i∧o13=.a [.i .u64 y]∧l14=hs'.map ii∧x15=ii a∧x16=ii n∧x17=.i .u64 p∧x18=ii i,⟨_,hs,_,_,.refl,rfl,by omega,rfl,rfl,rfl,rfl,rfl,rfl⟩,?_⟩
 rintro k o13 l14 x15 x16 x17 x18 ⟨hs1,y,i,hsw,rfl,hi,rfl,rfl,rfl,rfl,rfl,rfl⟩
 have hl:=hsw.len
 iterate 4 (first | refine ⟨_,sub_o,?_⟩ | refine ⟨_,add_o,?_⟩ | refine ⟨_,mul_o,?_⟩ | refine ⟨_,quo_o,?_⟩ | refine ⟨_,ix_o,?_⟩ | refine ⟨_,ld_o,?_⟩ | refine ⟨_,set_o,?_⟩ | refine by_lss (fun h=>?_) (fun h=>?_) | refine by_gtr (fun h=>?_) (fun h=>?_) | refine by_leq (fun h=>?_) (fun h=>?_) | refine by_geq (fun h=>?_) (fun h=>?_) | refine by_eql (fun h=>?_) (fun h=>?_) | refine ⟨rfl,_,fun _=>ix_o,?_⟩ | refine ⟨rfl,0,(fun h=>by cases h),?_⟩ | refine ⟨rfl,gV_t rfl ld_o ?_⟩ | refine ⟨rfl,gV_f rfl ?_⟩ | refine gV_t rfl rfl ?_ | refine gV_t rfl sub_o ?_ | refine gV_t rfl add_o ?_ | refine gV_t rfl (vs_g (s118 _ _)) ?_ | refine gV_t rfl (not_t _) ?_ | refine gV_f rfl ?_ | refine vs_eq (s118 _ _) ?_ | refine ⟨_,not_t _,?_⟩ | refine condK_t rfl ?_ | refine condK_f rfl ?_ | refine condK_by (fun h=>?_) (fun h=>?_) | refine ⟨_,rfl,?_⟩ | fail)
 refine by_leq (fun h=>condK_t rfl ?_) (fun h=>condK_f rfl ⟨trivial,trivial,hQ _ hsw⟩)
 refine t152 y _ (fun y'=>?_)
 refine ⟨_,rfl,?_⟩
 obtain ⟨z,hz0,hz1,hz⟩:=and_lt y' h3 h4
 have e1:wrapA .u64 ((p:Int) - 1)=(p:Int) - 1:=wrap_u (by omega) (by omega)
 rw [e1]
 refine ⟨_,hz,_,rfl,?_⟩
 rw [wrap_id (by omega) (by omega)]
 repeat' (first | refine ⟨_,sub_o,?_⟩ | refine ⟨_,add_o,?_⟩ | refine ⟨_,mul_o,?_⟩ | refine ⟨_,quo_o,?_⟩ | refine ⟨_,ix_o,?_⟩ | refine ⟨_,ld_o,?_⟩ | refine ⟨_,set_o,?_⟩ | refine by_lss (fun h=>?_) (fun h=>?_) | refine by_gtr (fun h=>?_) (fun h=>?_) | refine by_leq (fun h=>?_) (fun h=>?_) | refine by_geq (fun h=>?_) (fun h=>?_) | refine by_eql (fun h=>?_) (fun h=>?_) | refine ⟨rfl,_,fun _=>ix_o,?_⟩ | refine ⟨rfl,0,(fun h=>by cases h),?_⟩ | refine ⟨rfl,gV_t rfl ld_o ?_⟩ | refine ⟨rfl,gV_f rfl ?_⟩ | refine gV_t rfl rfl ?_ | refine gV_t rfl sub_o ?_ | refine gV_t rfl add_o ?_ | refine gV_t rfl (vs_g (s118 _ _)) ?_ | refine gV_t rfl (not_t _) ?_ | refine gV_f rfl ?_ | refine vs_eq (s118 _ _) ?_ | refine ⟨_,not_t _,?_⟩ | refine condK_t rfl ?_ | refine condK_f rfl ?_ | refine condK_by (fun h=>?_) (fun h=>?_) | refine ⟨_,rfl,?_⟩ | fail)
 ·exact ⟨_,by omega,_,y',i + 1,.step i (a + (z - n)) hsw (by omega) (by omega) (by omega) (by omega),rfl,by omega,rfl,rfl,rfl,rfl,rfl,rfl⟩
 ·exact ⟨_,by omega,_,y',i + 1,.step i (a + z) hsw (by omega) (by omega) (by omega) (by omega),rfl,by omega,rfl,rfl,rfl,rfl,rfl,rfl⟩
end Go.Ax.TryLr

set_option linter.unusedSimpArgs false
set_option linter.unusedVariables false
set_option maxRecDepth 100000
namespace Go.Ax.TryLr
open Go Go.Ax Go.Ax.V Go.Ax.Ft
attribute [local irreducible] S87 S112 S113 S114 S115 S116 S117 S119 S120 S150 S152 S153 S154 S167
theorem t167 (hs:List Int) (x y c:Int) (hx:0≤x∧x < hs.length) (hy:0≤y∧y < hs.length) (hn:hs.length≤100000000) (hc:0≤c∧c≤100) (Q:List TV→TV→TV→Prop)
  (hQ:∀u v c',(u=x∧v=y∨u=y∧v=x)→c≤c'→c'≤c + 1→Q (hs.map ii) (.a [ii c']) (.tp [ii u,ii v])):S167 Q (hs.map ii) (ii x) (ii y) (.a [ii c]):=by
 refine sh167 _ _ _ _ _ ?_
 unfold WS167
 repeat' (first | refine ⟨_,sub_o,?_⟩ | refine ⟨_,add_o,?_⟩ | refine ⟨_,mul_o,?_⟩ | refine ⟨_,quo_o,?_⟩ | refine ⟨_,ix_o,?_⟩ | refine ⟨_,ld_o,?_⟩ | refine ⟨_,set_o,?_⟩ | refine by_lss (fun h=>?_) (fun h=>?_) | refine by_gtr (fun h=>?_) (fun h=>?_) | refine by_leq (fun h=>?_) (fun h=>?_) | refine by_geq (fun h=>?_) (fun h=>?_) | refine by_eql (fun h=>?_) (fun h=>?_) | refine ⟨rfl,_,fun _=>ix_o,?_⟩ | refine ⟨rfl,0,(fun h=>by cases h),?_⟩ | refine ⟨rfl,gV_t rfl ld_o ?_⟩ | refine ⟨rfl,gV_f rfl ?_⟩ | refine gV_t rfl rfl ?_ | refine gV_t rfl sub_o ?_ | refine gV_t rfl add_o ?_ | refine gV_t rfl (vs_g (s118 _ _)) ?_ | refine gV_t rfl (not_t _) ?_ | refine gV_f rfl ?_ | refine vs_eq (s118 _ _) ?_ | refine ⟨_,not_t _,?_⟩ | refine condK_t rfl ?_ | refine condK_f rfl ?_ | refine condK_by (fun h=>?_) (fun h=>?_) | refine ⟨_,rfl,?_⟩ | fail)
 ·exact ⟨trivial,⟨rfl,rfl,trivial⟩,hQ y x (c + 1) (.inr ⟨rfl,rfl⟩) (by omega) (by omega)⟩
 ·exact ⟨trivial,⟨rfl,rfl,trivial⟩,hQ x y c (.inl ⟨rfl,rfl⟩) (by omega) (by omega)⟩
theorem t154 (hs:List Int) (x y z c lo hi:Int) (h0:0≤lo) (h1:hi≤hs.length) (hx:lo≤x∧x < hi) (hy:lo≤y∧y < hi) (hz:lo≤z∧z < hi) (hn:hs.length≤100000000) (hc:0≤c∧c≤50) (Q:List TV→TV→TV→Prop)
  (hQ:∀r c',lo≤r→r < hi→c≤c'→c'≤c + 3→Q (hs.map ii) (.a [ii c']) (ii r)):S154 Q (hs.map ii) (ii x) (ii y) (ii z) (.a [ii c]):=by
 refine sh154 _ _ _ _ _ _ ?_
 unfold WS154
 refine t167 hs x y c (by omega) (by omega) hn (by omega) _ (fun u v c1 h2 h3 h4=>?_)
 refine ⟨_,rfl,_,rfl,t167 hs v z c1 (by omega) (by omega) hn (by omega) _ (fun u' v' c2 h5 h6 h7=>?_)⟩
 refine ⟨_,rfl,_,rfl,t167 hs u u' c2 (by omega) (by omega) hn (by omega) _ (fun u'' v'' c3 h8 h9 h10=>?_)⟩
 exact ⟨_,rfl,_,rfl,trivial,hQ _ _ (by omega) (by omega) (by omega) (by omega)⟩
theorem t153 (hs:List Int) (x c lo hi:Int) (h0:0≤lo) (h1:hi≤hs.length) (hx:lo≤x - 1∧x + 1 < hi) (hn:hs.length≤100000000) (hc:0≤c∧c≤50) (Q:List TV→TV→TV→Prop)
  (hQ:∀r c',lo≤r→r < hi→c≤c'→c'≤c + 3→Q (hs.map ii) (.a [ii c']) (ii r)):S153 Q (hs.map ii) (ii x) (.a [ii c]):=by
 refine sh153 _ _ _ _ ?_
 unfold WS153
 refine ⟨_,sub_o,_,add_o,t154 hs (x - 1) x (x + 1) c lo hi h0 h1 (by omega) (by omega) (by omega) hn hc _ (fun r c' e1 e2 e3 e4=>?_)⟩
 exact ⟨trivial,hQ _ _ e1 e2 e3 e4⟩
set_option maxHeartbeats 1000000 in
theorem t115 (hs:List Int) (a b:Int) (ha:0≤a) (hb:b≤hs.length) (hn:hs.length≤100000000) (hab:a < b) (Q:List TV→TV→Prop)
  (hQ:∀p h:Int,a≤p→p < b→Q (hs.map ii) (.tp [ii p,ii h])):S115 Q (hs.map ii) (ii a) (ii b):=by
 refine sh115 _ _ _ _ ?_
 unfold WS115
 iterate 10 (first | refine ⟨_,sub_o,?_⟩ | refine ⟨_,add_o,?_⟩ | refine ⟨_,mul_o,?_⟩ | refine ⟨_,quo_o,?_⟩ | refine ⟨_,ix_o,?_⟩ | refine ⟨_,ld_o,?_⟩ | refine ⟨_,set_o,?_⟩ | refine by_lss (fun h=>?_) (fun h=>?_) | refine by_gtr (fun h=>?_) (fun h=>?_) | refine by_leq (fun h=>?_) (fun h=>?_) | refine by_geq (fun h=>?_) (fun h=>?_) | refine by_eql (fun h=>?_) (fun h=>?_) | refine ⟨rfl,_,fun _=>ix_o,?_⟩ | refine ⟨rfl,0,(fun h=>by cases h),?_⟩ | refine ⟨rfl,gV_t rfl ld_o ?_⟩ | refine ⟨rfl,gV_f rfl ?_⟩ | refine gV_t rfl rfl ?_ | refine gV_t rfl sub_o ?_ | refine gV_t rfl add_o ?_ | refine gV_t rfl (vs_g (s118 _ _)) ?_ | refine gV_t rfl (not_t _) ?_ | refine gV_f rfl ?_ | refine vs_eq (s118 _ _) ?_ | refine ⟨_,not_t _,?_⟩ | refine condK_t rfl ?_ | refine condK_f rfl ?_ | refine condK_by (fun h=>?_) (fun h=>?_) | refine ⟨_,rfl,?_⟩ | fail)
 refine by_geq (fun h=>condK_t rfl ?_) (fun h=>condK_f rfl ?_)
 ·refine by_geq (fun h=>condK_t rfl ?_) (fun h=>condK_f rfl ?_)
  ·refine t153 hs _ 0 a b ha hb (by omega) hn (by omega) _ (fun r1 c1 e1 e2 e3 e4=>?_)
   refine t153 hs _ c1 a b ha hb (by omega) hn (by omega) _ (fun r2 c2 f1 f2 f3 f4=>?_)
   refine t153 hs _ c2 a b ha hb (by omega) hn (by omega) _ (fun r3 c3 g1 g2 g3 g4=>?_)
   refine t154 hs r1 r2 r3 c3 a b ha hb (by omega) (by omega) (by omega) hn (by omega) _ (fun r c4 i1 i2 i3 i4=>?_)
   repeat' (first | refine ⟨_,sub_o,?_⟩ | refine ⟨_,add_o,?_⟩ | refine ⟨_,mul_o,?_⟩ | refine ⟨_,quo_o,?_⟩ | refine ⟨_,ix_o,?_⟩ | refine ⟨_,ld_o,?_⟩ | refine ⟨_,set_o,?_⟩ | refine by_lss (fun h=>?_) (fun h=>?_) | refine by_gtr (fun h=>?_) (fun h=>?_) | refine by_leq (fun h=>?_) (fun h=>?_) | refine by_geq (fun h=>?_) (fun h=>?_) | refine by_eql (fun h=>?_) (fun h=>?_) | refine ⟨rfl,_,fun _=>ix_o,?_⟩ | refine ⟨rfl,0,(fun h=>by cases h),?_⟩ | refine ⟨rfl,gV_t rfl ld_o ?_⟩ | refine ⟨rfl,gV_f rfl ?_⟩ | refine gV_t rfl rfl ?_ | refine gV_t rfl sub_o ?_ | refine gV_t rfl add_o ?_ | refine gV_t rfl (vs_g (s118 _ _)) ?_ | refine gV_t rfl (not_t _) ?_ | refine gV_f rfl ?_ | refine vs_eq (s118 _ _) ?_ | refine ⟨_,not_t _,?_⟩ | refine condK_t rfl ?_ | refine condK_f rfl ?_ | refine condK_by (fun h=>?_) (fun h=>?_) | refine ⟨_,rfl,?_⟩ | fail)
   all_goals exact ⟨trivial,⟨rfl,rfl,trivial⟩,hQ _ _ i1 i2⟩
  ·refine t154 hs _ _ _ 0 a b ha hb (by omega) (by omega) (by omega) hn (by omega) _ (fun r c4 i1 i2 i3 i4=>?_)
   repeat' (first | refine ⟨_,sub_o,?_⟩ | refine ⟨_,add_o,?_⟩ | refine ⟨_,mul_o,?_⟩ | refine ⟨_,quo_o,?_⟩ | refine ⟨_,ix_o,?_⟩ | refine ⟨_,ld_o,?_⟩ | refine ⟨_,set_o,?_⟩ | refine by_lss (fun h=>?_) (fun h=>?_) | refine by_gtr (fun h=>?_) (fun h=>?_) | refine by_leq (fun h=>?_) (fun h=>?_) | refine by_geq (fun h=>?_) (fun h=>?_) | refine by_eql (fun h=>?_) (fun h=>?_) | refine ⟨rfl,_,fun _=>ix_o,?_⟩ | refine ⟨rfl,0,(fun h=>by cases h),?_⟩ | refine ⟨rfl,gV_t rfl ld_o ?_⟩ | refine ⟨rfl,gV_f rfl ?_⟩ | refine gV_t rfl rfl ?_ | refine gV_t rfl sub_o ?_ | refine gV_t rfl add_o ?_ | refine gV_t rfl (vs_g (s118 _ _)) ?_ | refine gV_t rfl (not_t _) ?_ | refine gV_f rfl ?_ | refine vs_eq (s118 _ _) ?_ | refine ⟨_,not_t _,?_⟩ | refine condK_t rfl ?_ | refine condK_f rfl ?_ | refine condK_by (fun h=>?_) (fun h=>?_) | refine ⟨_,rfl,?_⟩ | fail)
   all_goals exact ⟨trivial,⟨rfl,rfl,trivial⟩,hQ _ _ i1 i2⟩
 ·repeat' (first | refine ⟨_,sub_o,?_⟩ | refine ⟨_,add_o,?_⟩ | refine ⟨_,mul_o,?_⟩ | refine ⟨_,quo_o,?_⟩ | refine ⟨_,ix_o,?_⟩ | refine ⟨_,ld_o,?_⟩ | refine ⟨_,set_o,?_⟩ | refine by_lss (fun h=>?_) (fun h=>?_) | refine by_gtr (fun h=>?_) (fun h=>?_) | refine by_leq (fun h=>?_) (fun h=>?_) | refine by_geq (fun h=>?_) (fun h=>?_) | refine by_eql (fun h=>?_) (fun h=>?_) | refine ⟨rfl,_,fun _=>ix_o,?_⟩ | refine ⟨rfl,0,(fun h=>by cases h),?_⟩ | refine ⟨rfl,gV_t rfl ld_o ?_⟩ | refine ⟨rfl,gV_f rfl ?_⟩ | refine gV_t rfl rfl ?_ | refine gV_t rfl sub_o ?_ | refine gV_t rfl add_o ?_ | refine gV_t rfl (vs_g (s118 _ _)) ?_ | refine gV_t rfl (not_t _) ?_ | refine gV_f rfl ?_ | refine vs_eq (s118 _ _) ?_ | refine ⟨_,not_t _,?_⟩ | refine condK_t rfl ?_ | refine condK_f rfl ?_ | refine condK_by (fun h=>?_) (fun h=>?_) | refine ⟨_,rfl,?_⟩ | fail)
  all_goals exact ⟨trivial,⟨rfl,rfl,trivial⟩,hQ _ _ (by omega) (by omega)⟩
theorem lp2 {n3:Nat} {I2:Nat→List TV→TV→TV→TV→TV→Prop} (hs:List Int) (a b i c:Int) (ha:0≤a) (hai:a≤i) (hb:b≤hs.length) (hn:hs.length≤100000000) (hc:0≤c∧c < 5) (hib:i≤b)
  (hk:∀hs',Sw 0 b hs hs'→∃m4,m4 < n3∧I2 m4 (hs'.map ii) (ii a) (ii b) (ii i) (ii (c + 1))) :
  ∃I67:Nat→List TV→TV→TV→TV→TV→TV→Prop,(∃n68,I67 n68 (hs.map ii) (ii a) (ii b) (ii i) (ii c) (ii (i + 1)))∧∀n68:Nat,
 ∀l70:List TV,∀x71:TV,∀x72:TV,∀x73:TV,∀x74:TV,∀x75:TV,I67 n68 l70 x71 x72 x73 x74 x75→
 ∃v76,binT .lss x75 x72=some v76∧
 condK v76
 (∃v77,ixN x75 (List.length l70)=some v77∧
 ∃v78,ldE l70 v77 0 none=some v78∧
 ∃v79,binT .sub x75 (TV.i .i64 1)=some v79∧
 ∃v80,ixN v79 (List.length l70)=some v80∧
 ∃v81,ldE l70 v80 0 none=some v81∧
 VS prog 118 [v78,v81] fun r82=>scOk true r82∧
 ∃v83,unT .not r82=some v83∧
 condK v83
 (∃v84,binT .add x74 (TV.i .i64 1)=some v84∧
 ∃m4,m4 < n3∧I2 m4 l70 x71 x72 x73 v84)
 (∃v85,binT .sub x75 (TV.i .i64 1)=some v85∧
 ∃v86,binT .sub x75 (TV.i .i64 1)=some v86∧
 ∃v87,ixN v86 (List.length l70)=some v87∧
 ∃v88,ldE l70 v87 0 none=some v88∧
 ∃v89,ixN x75 (List.length l70)=some v89∧
 ∃v90,ldE l70 v89 0 none=some v90∧
 ∃v91,ixN x75 (List.length l70)=some v91∧
 ∃v92,setE l70 v91 0 1 v88=some v92∧
 ∃v93,ixN v85 (List.length v92)=some v93∧
 ∃v94,setE v92 v93 0 1 v90=some v94∧
 ∃v95,binT .add x75 (TV.i .i64 1)=some v95∧
 ∃m69,m69 < n68∧I67 m69 v94 x71 x72 x73 x74 v95))
 (∃v96,binT .add x74 (TV.i .i64 1)=some v96∧
 ∃m4,m4 < n3∧I2 m4 l70 x71 x72 x73 v96):=by
 refine ⟨fun n l70 x71 x72 x73 x74 x75=>∃(hs':List Int) (j:Int),Sw 0 b hs hs'∧n=(b - j).toNat∧i < j∧j≤b + 1∧l70=hs'.map ii∧x71=ii a∧x72=ii b∧x73=ii i∧x74=ii c∧x75=ii j,⟨_,hs,i + 1,.refl,rfl,by omega,by omega,rfl,rfl,rfl,rfl,rfl,rfl⟩,?_⟩
 rintro n l70 x71 x72 x73 x74 x75 ⟨h1,j,hsw,rfl,hj,hj2,rfl,rfl,rfl,rfl,rfl,rfl⟩
 have hl:=hsw.len
 refine by_lss (fun h=>condK_t rfl ?_) (fun h=>condK_f rfl ⟨_,add_o,hk _ hsw⟩)
 repeat' (first | refine ⟨_,sub_o,?_⟩ | refine ⟨_,add_o,?_⟩ | refine ⟨_,mul_o,?_⟩ | refine ⟨_,quo_o,?_⟩ | refine ⟨_,ix_o,?_⟩ | refine ⟨_,ld_o,?_⟩ | refine ⟨_,set_o,?_⟩ | refine by_lss (fun h=>?_) (fun h=>?_) | refine by_gtr (fun h=>?_) (fun h=>?_) | refine by_leq (fun h=>?_) (fun h=>?_) | refine by_geq (fun h=>?_) (fun h=>?_) | refine by_eql (fun h=>?_) (fun h=>?_) | refine ⟨rfl,_,fun _=>ix_o,?_⟩ | refine ⟨rfl,0,(fun h=>by cases h),?_⟩ | refine ⟨rfl,gV_t rfl ld_o ?_⟩ | refine ⟨rfl,gV_f rfl ?_⟩ | refine gV_t rfl rfl ?_ | refine gV_t rfl sub_o ?_ | refine gV_t rfl add_o ?_ | refine gV_t rfl (vs_g (s118 _ _)) ?_ | refine gV_t rfl (not_t _) ?_ | refine gV_f rfl ?_ | refine vs_eq (s118 _ _) ?_ | refine ⟨_,not_t _,?_⟩ | refine condK_t rfl ?_ | refine condK_f rfl ?_ | refine condK_by (fun h=>?_) (fun h=>?_) | refine ⟨_,rfl,?_⟩ | fail)
 ·exact hk _ hsw
 ·exact ⟨_,by omega,_,j + 1,.step j (j - 1) hsw (by omega) (by omega) (by omega) (by omega),rfl,by omega,by omega,rfl,rfl,rfl,rfl,rfl,rfl⟩
def I117 (hs:List Int) (a b:Int) (n:Nat) (l:List TV) (x7 x8 x9 x10:TV):Prop:=∃(hs':List Int) (i c:Int),Sw 0 b hs hs'∧n=(5 - c).toNat∧a < i∧i≤b∧0≤c∧c≤5∧l=hs'.map ii∧x7=ii a∧x8=ii b∧x9=ii i∧x10=ii c
set_option maxHeartbeats 2000000 in
theorem t117 (hs:List Int) (a b:Int) (ha:0≤a) (hb:b≤hs.length) (hn:hs.length≤100000000) (hab:a < b) (Q:List TV→TV→Prop) (hQ:∀hs' t,Sw 0 b hs hs'→Q (hs'.map ii) (.b t)):S117 Q (hs.map ii) (ii a) (ii b):=by
 refine sh117 _ _ _ _ ?_
 unfold WS117
 (first | refine ⟨_,sub_o,?_⟩ | refine ⟨_,add_o,?_⟩ | refine ⟨_,mul_o,?_⟩ | refine ⟨_,quo_o,?_⟩ | refine ⟨_,ix_o,?_⟩ | refine ⟨_,ld_o,?_⟩ | refine ⟨_,set_o,?_⟩ | refine by_lss (fun h=>?_) (fun h=>?_) | refine by_gtr (fun h=>?_) (fun h=>?_) | refine by_leq (fun h=>?_) (fun h=>?_) | refine by_geq (fun h=>?_) (fun h=>?_) | refine by_eql (fun h=>?_) (fun h=>?_) | refine ⟨rfl,_,fun _=>ix_o,?_⟩ | refine ⟨rfl,0,(fun h=>by cases h),?_⟩ | refine ⟨rfl,gV_t rfl ld_o ?_⟩ | refine ⟨rfl,gV_f rfl ?_⟩ | refine gV_t rfl rfl ?_ | refine gV_t rfl sub_o ?_ | refine gV_t rfl add_o ?_ | refine gV_t rfl (vs_g (s118 _ _)) ?_ | refine gV_t rfl (not_t _) ?_ | refine gV_f rfl ?_ | refine vs_eq (s118 _ _) ?_ | refine ⟨_,not_t _,?_⟩ | refine condK_t rfl ?_ | refine condK_f rfl ?_ | refine condK_by (fun h=>?_) (fun h=>?_) | refine ⟨_,rfl,?_⟩ | fail)
 refine ⟨I117 hs a b,⟨_,hs,a + 1,0,.refl,rfl,by omega,by omega,by omega,by omega,rfl,rfl,rfl,rfl,rfl⟩,?_⟩
 rintro n l5 x6 x7 x8 x9 ⟨h1,i,c,hsw,rfl,hi,hib,hc0,hc5,rfl,rfl,rfl,rfl,rfl⟩
 refine by_lss (fun h=>condK_t rfl ?_) (fun h=>condK_f rfl ⟨trivial,hQ _ _ hsw⟩)
 refine ⟨fun n l14 x15 x16 x17 x18=>∃i:Int,n=(b - i).toNat∧a < i∧i≤b∧l14=h1.map ii∧x15=ii a∧x16=ii b∧x17=ii i∧x18=ii c,⟨_,i,rfl,hi,hib,rfl,rfl,rfl,rfl,rfl⟩,?_⟩
 rintro n l14 x15 x16 x17 x18 ⟨i,rfl,hi,hib,rfl,rfl,rfl,rfl,rfl⟩
 have hl:=hsw.len
 have rest:∀h2,Sw 0 b hs h2→∃m4,m4 < (5 - c).toNat∧I117 hs a b m4 (h2.map ii) (ii a) (ii b) (ii i) (ii (c + 1)):=fun h2 hs2=>
  ⟨_,by omega,h2,i,c + 1,hs2,rfl,hi,hib,by omega,by omega,rfl,rfl,rfl,rfl,rfl⟩
 have L2:=fun (h2:List Int) (hs2:Sw 0 b hs h2)=>lp2 (n3:=(5 - c).toNat) (I2:=I117 hs a b) h2 a b i c ha (by omega) (by rw [hs2.len];exact hb) (by rw [hs2.len];exact hn) (by omega) (by omega) (fun h3 hs3=>rest h3 (hs2.trans hs3))
 have fin:=fun (h2:List Int) (hs2:Sw 0 b hs h2) (t:Bool)=>hQ h2 t hs2
 have hsw2:i < b→Sw 0 b hs (swp h1 i (i - 1)):=fun hlt=>.step i (i - 1) hsw (by omega) (by omega) (by omega) (by omega)
 repeat' (first | refine ⟨_,sub_o,?_⟩ | refine ⟨_,add_o,?_⟩ | refine ⟨_,mul_o,?_⟩ | refine ⟨_,quo_o,?_⟩ | refine ⟨_,ix_o,?_⟩ | refine ⟨_,ld_o,?_⟩ | refine ⟨_,set_o,?_⟩ | refine by_lss (fun h=>?_) (fun h=>?_) | refine by_gtr (fun h=>?_) (fun h=>?_) | refine by_leq (fun h=>?_) (fun h=>?_) | refine by_geq (fun h=>?_) (fun h=>?_) | refine by_eql (fun h=>?_) (fun h=>?_) | refine ⟨rfl,_,fun _=>ix_o,?_⟩ | refine ⟨rfl,0,(fun h=>by cases h),?_⟩ | refine ⟨rfl,gV_t rfl ld_o ?_⟩ | refine ⟨rfl,gV_f rfl ?_⟩ | refine gV_t rfl rfl ?_ | refine gV_t rfl sub_o ?_ | refine gV_t rfl add_o ?_ | refine gV_t rfl (vs_g (s118 _ _)) ?_ | refine gV_t rfl (not_t _) ?_ | refine gV_f rfl ?_ | refine vs_eq (s118 _ _) ?_ | refine ⟨_,not_t _,?_⟩ | refine condK_t rfl ?_ | refine condK_f rfl ?_ | refine condK_by (fun h=>?_) (fun h=>?_) | refine ⟨_,rfl,?_⟩ | fail)
 all_goals first
  |exact ⟨_,by omega,i + 1,rfl,by omega,by omega,rfl,rfl,rfl,rfl,rfl⟩
  |exact ⟨trivial,hQ _ _ hsw⟩
  |exact L2 _ (hsw2 (by omega))
  |exact rest _ (hsw2 (by omega))
  |skip
 all_goals
  refine ⟨fun n l50 x51 x52 x53 x54 x55=>∃(hs':List Int) (j:Int),Sw 0 b hs hs'∧n=j.toNat∧0≤j∧j < b∧l50=hs'.map ii∧x51=ii a∧x52=ii b∧x53=ii i∧x54=ii c∧x55=ii j,⟨_,swp h1 i (i - 1),i - 1,hsw2 (by omega),rfl,by omega,by omega,rfl,rfl,rfl,rfl,rfl,rfl⟩,?_⟩
  rintro n l50 x51 x52 x53 x54 x55 ⟨h3,j,hsw3,rfl,hj0,hj1,rfl,rfl,rfl,rfl,rfl,rfl⟩
  have hl3:=hsw3.len
  repeat' (first | refine ⟨_,sub_o,?_⟩ | refine ⟨_,add_o,?_⟩ | refine ⟨_,mul_o,?_⟩ | refine ⟨_,quo_o,?_⟩ | refine ⟨_,ix_o,?_⟩ | refine ⟨_,ld_o,?_⟩ | refine ⟨_,set_o,?_⟩ | refine by_lss (fun h=>?_) (fun h=>?_) | refine by_gtr (fun h=>?_) (fun h=>?_) | refine by_leq (fun h=>?_) (fun h=>?_) | refine by_geq (fun h=>?_) (fun h=>?_) | refine by_eql (fun h=>?_) (fun h=>?_) | refine ⟨rfl,_,fun _=>ix_o,?_⟩ | refine ⟨rfl,0,(fun h=>by cases h),?_⟩ | refine ⟨rfl,gV_t rfl ld_o ?_⟩ | refine ⟨rfl,gV_f rfl ?_⟩ | refine gV_t rfl rfl ?_ | refine gV_t rfl sub_o ?_ | refine gV_t rfl add_o ?_ | refine gV_t rfl (vs_g (s118 _ _)) ?_ | refine gV_t rfl (not_t _) ?_ | refine gV_f rfl ?_ | refine vs_eq (s118 _ _) ?_ | refine ⟨_,not_t _,?_⟩ | refine condK_t rfl ?_ | refine condK_f rfl ?_ | refine condK_by (fun h=>?_) (fun h=>?_) | refine ⟨_,rfl,?_⟩ | fail)
  all_goals first
   |exact L2 h3 hsw3
   |exact rest _ hsw3
   |exact ⟨_,by omega,_,j - 1,.step j (j - 1) hsw3 (by omega) (by omega) (by omega) (by omega),rfl,by omega,by omega,rfl,rfl,rfl,rfl,rfl,rfl⟩
set_option maxHeartbeats 2000000 in
theorem t119 (hs:List Int) (a b p:Int) (ha:0≤a) (hb:b≤hs.length) (hn:hs.length≤100000000) (hp:a≤p∧p < b) (Q:List TV→TV→Prop) (hQ:∀hs' m,Sw a b hs hs'→a < m→m≤b→Q (hs'.map ii) (ii m)):S119 Q (hs.map ii) (ii a) (ii b) (ii p):=by
 refine sh119 _ _ _ _ _ ?_
 unfold WS119
 repeat (first | refine ⟨_,sub_o,?_⟩ | refine ⟨_,add_o,?_⟩ | refine ⟨_,mul_o,?_⟩ | refine ⟨_,quo_o,?_⟩ | refine ⟨_,ix_o,?_⟩ | refine ⟨_,ld_o,?_⟩ | refine ⟨_,set_o,?_⟩ | refine by_lss (fun h=>?_) (fun h=>?_) | refine by_gtr (fun h=>?_) (fun h=>?_) | refine by_leq (fun h=>?_) (fun h=>?_) | refine by_geq (fun h=>?_) (fun h=>?_) | refine by_eql (fun h=>?_) (fun h=>?_) | refine ⟨rfl,_,fun _=>ix_o,?_⟩ | refine ⟨rfl,0,(fun h=>by cases h),?_⟩ | refine ⟨rfl,gV_t rfl ld_o ?_⟩ | refine ⟨rfl,gV_f rfl ?_⟩ | refine gV_t rfl rfl ?_ | refine gV_t rfl sub_o ?_ | refine gV_t rfl add_o ?_ | refine gV_t rfl (vs_g (s118 _ _)) ?_ | refine gV_t rfl (not_t _) ?_ | refine gV_f rfl ?_ | refine vs_eq (s118 _ _) ?_ | refine ⟨_,not_t _,?_⟩ | refine condK_t rfl ?_ | refine condK_f rfl ?_ | refine condK_by (fun h=>?_) (fun h=>?_) | refine ⟨_,rfl,?_⟩ | fail)
 have hsw0:Sw a b hs (swp hs a p):=.step a p .refl (by omega) (by omega) (by omega) (by omega)
 refine ⟨fun n l14 x15 x16 x17=>∃(hs':List Int) (i j:Int),Sw a b hs hs'∧n=(j + 1 - i).toNat∧a < i∧i≤b∧a - 1≤j∧j < b∧l14=hs'.map ii∧x15=ii a∧x16=ii i∧x17=ii j,⟨_,swp hs a p,a + 1,b - 1,hsw0,rfl,by omega,by omega,by omega,by omega,rfl,rfl,rfl,rfl⟩,?_⟩
 rintro n l14 x15 x16 x17 ⟨h1,i,j,hsw,rfl,hi,hib,hj,hjb,rfl,rfl,rfl,rfl⟩
 have hl:=hsw.len
 refine ⟨fun n l21 x22 x23 x24=>∃i':Int,n=(j + 1 - i').toNat∧i≤i'∧i'≤b∧l21=h1.map ii∧x22=ii a∧x23=ii i'∧x24=ii j,⟨_,i,rfl,Int.le_refl _,hib,rfl,rfl,rfl,rfl⟩,?_⟩
 rintro n l21 x22 x23 x24 ⟨i',rfl,hi',hib',rfl,rfl,rfl,rfl⟩
 have second:∃I36:Nat→List TV→TV→TV→TV→Prop,(∃n37,I36 n37 (h1.map ii) (ii a) (ii i') (ii j))∧∀n37 l39 x40 x41 x42,I36 n37 l39 x40 x41 x42→∃j':Int,n37=(j' + 1 - i').toNat∧j'≤j∧a - 1≤j'∧l39=h1.map ii∧x40=ii a∧x41=ii i'∧x42=ii j':=⟨_,⟨_,j,rfl,Int.le_refl _,hj,rfl,rfl,rfl,rfl⟩,fun _ _ _ _ _ h=>h⟩
 clear second
 have inner:True:=trivial
 repeat' (first | refine ⟨_,sub_o,?_⟩ | refine ⟨_,add_o,?_⟩ | refine ⟨_,mul_o,?_⟩ | refine ⟨_,quo_o,?_⟩ | refine ⟨_,ix_o,?_⟩ | refine ⟨_,ld_o,?_⟩ | refine ⟨_,set_o,?_⟩ | refine by_lss (fun h=>?_) (fun h=>?_) | refine by_gtr (fun h=>?_) (fun h=>?_) | refine by_leq (fun h=>?_) (fun h=>?_) | refine by_geq (fun h=>?_) (fun h=>?_) | refine by_eql (fun h=>?_) (fun h=>?_) | refine ⟨rfl,_,fun _=>ix_o,?_⟩ | refine ⟨rfl,0,(fun h=>by cases h),?_⟩ | refine ⟨rfl,gV_t rfl ld_o ?_⟩ | refine ⟨rfl,gV_f rfl ?_⟩ | refine gV_t rfl rfl ?_ | refine gV_t rfl sub_o ?_ | refine gV_t rfl add_o ?_ | refine gV_t rfl (vs_g (s118 _ _)) ?_ | refine gV_t rfl (not_t _) ?_ | refine gV_f rfl ?_ | refine vs_eq (s118 _ _) ?_ | refine ⟨_,not_t _,?_⟩ | refine condK_t rfl ?_ | refine condK_f rfl ?_ | refine condK_by (fun h=>?_) (fun h=>?_) | refine ⟨_,rfl,?_⟩ | fail)
 all_goals first
  |exact ⟨_,by omega,i' + 1,rfl,by omega,by omega,rfl,rfl,rfl,rfl⟩
  |skip
 all_goals
  refine ⟨fun n l39 x40 x41 x42=>∃j':Int,n=(j' + 1 - i').toNat∧j'≤j∧a - 1≤j'∧l39=h1.map ii∧x40=ii a∧x41=ii i'∧x42=ii j',⟨_,j,rfl,Int.le_refl _,hj,rfl,rfl,rfl,rfl⟩,?_⟩
  rintro n l39 x40 x41 x42 ⟨j',rfl,hj',hja,rfl,rfl,rfl,rfl⟩
  repeat' (first | refine ⟨_,sub_o,?_⟩ | refine ⟨_,add_o,?_⟩ | refine ⟨_,mul_o,?_⟩ | refine ⟨_,quo_o,?_⟩ | refine ⟨_,ix_o,?_⟩ | refine ⟨_,ld_o,?_⟩ | refine ⟨_,set_o,?_⟩ | refine by_lss (fun h=>?_) (fun h=>?_) | refine by_gtr (fun h=>?_) (fun h=>?_) | refine by_leq (fun h=>?_) (fun h=>?_) | refine by_geq (fun h=>?_) (fun h=>?_) | refine by_eql (fun h=>?_) (fun h=>?_) | refine ⟨rfl,_,fun _=>ix_o,?_⟩ | refine ⟨rfl,0,(fun h=>by cases h),?_⟩ | refine ⟨rfl,gV_t rfl ld_o ?_⟩ | refine ⟨rfl,gV_f rfl ?_⟩ | refine gV_t rfl rfl ?_ | refine gV_t rfl sub_o ?_ | refine gV_t rfl add_o ?_ | refine gV_t rfl (vs_g (s118 _ _)) ?_ | refine gV_t rfl (not_t _) ?_ | refine gV_f rfl ?_ | refine vs_eq (s118 _ _) ?_ | refine ⟨_,not_t _,?_⟩ | refine condK_t rfl ?_ | refine condK_f rfl ?_ | refine condK_by (fun h=>?_) (fun h=>?_) | refine ⟨_,rfl,?_⟩ | fail)
  all_goals first
   |exact ⟨_,by omega,j' - 1,rfl,by omega,by omega,rfl,rfl,rfl,rfl⟩
   |exact ⟨trivial,hQ _ _ hsw (by omega) (by omega)⟩
   |exact ⟨_,by omega,_,i' + 1,j' - 1,.step i' j' hsw (by omega) (by omega) (by omega) (by omega),rfl,by omega,by omega,by omega,by omega,rfl,rfl,rfl,rfl⟩
end Go.Ax.TryLr

set_option linter.unusedSimpArgs false
set_option linter.unusedVariables false
set_option maxRecDepth 100000
namespace Go.Ax.TryLr
open Go Go.Ax Go.Ax.V Go.Ax.Ft
attribute [local irreducible] S87 S112 S113 S114 S115 S116 S117 S119 S120 S150 S152 S153 S154 S167
set_option maxHeartbeats 4000000 in
theorem t120 (hs:List Int) (a b p:Int) (ha:0≤a) (hb:b≤hs.length) (hn:hs.length≤100000000) (hp:a≤p∧p < b) (Q:List TV→TV→Prop) (hQ:∀hs' m t,Sw a b hs hs'→a≤m→m < b→Q (hs'.map ii) (.tp [ii m,.b t])):S120 Q (hs.map ii) (ii a) (ii b) (ii p):=by
 refine sh120 _ _ _ _ _ ?_
 unfold WS120
 repeat (first | refine ⟨_,sub_o,?_⟩ | refine ⟨_,add_o,?_⟩ | refine ⟨_,mul_o,?_⟩ | refine ⟨_,quo_o,?_⟩ | refine ⟨_,ix_o,?_⟩ | refine ⟨_,ld_o,?_⟩ | refine ⟨_,set_o,?_⟩ | refine by_lss (fun h=>?_) (fun h=>?_) | refine by_gtr (fun h=>?_) (fun h=>?_) | refine by_leq (fun h=>?_) (fun h=>?_) | refine by_geq (fun h=>?_) (fun h=>?_) | refine by_eql (fun h=>?_) (fun h=>?_) | refine ⟨rfl,_,fun _=>ix_o,?_⟩ | refine ⟨rfl,0,(fun h=>by cases h),?_⟩ | refine ⟨rfl,gV_t rfl ld_o ?_⟩ | refine ⟨rfl,gV_f rfl ?_⟩ | refine gV_t rfl rfl ?_ | refine gV_t rfl sub_o ?_ | refine gV_t rfl add_o ?_ | refine gV_t rfl (vs_g (s118 _ _)) ?_ | refine gV_t rfl (not_t _) ?_ | refine gV_f rfl ?_ | refine vs_eq (s118 _ _) ?_ | refine ⟨_,not_t _,?_⟩ | refine condK_t rfl ?_ | refine condK_f rfl ?_ | refine condK_by (fun h=>?_) (fun h=>?_) | refine ⟨_,rfl,?_⟩ | fail)
 have hsw0:Sw a b hs (swp hs a p):=.step a p .refl (by omega) (by omega) (by omega) (by omega)
 have hl:=hsw0.len
 refine ⟨fun n l14 x15 x16 x17=>∃i:Int,n=(b - i).toNat∧a < i∧i≤b∧l14=(swp hs a p).map ii∧x15=ii a∧x16=ii i∧x17=ii (b - 1),⟨_,a + 1,rfl,by omega,by omega,rfl,rfl,rfl,rfl⟩,?_⟩
 rintro n l14 x15 x16 x17 ⟨i,rfl,hi,hib,rfl,rfl,rfl,rfl⟩
 repeat' (first | refine ⟨_,sub_o,?_⟩ | refine ⟨_,add_o,?_⟩ | refine ⟨_,mul_o,?_⟩ | refine ⟨_,quo_o,?_⟩ | refine ⟨_,ix_o,?_⟩ | refine ⟨_,ld_o,?_⟩ | refine ⟨_,set_o,?_⟩ | refine by_lss (fun h=>?_) (fun h=>?_) | refine by_gtr (fun h=>?_) (fun h=>?_) | refine by_leq (fun h=>?_) (fun h=>?_) | refine by_geq (fun h=>?_) (fun h=>?_) | refine by_eql (fun h=>?_) (fun h=>?_) | refine ⟨rfl,_,fun _=>ix_o,?_⟩ | refine ⟨rfl,0,(fun h=>by cases h),?_⟩ | refine ⟨rfl,gV_t rfl ld_o ?_⟩ | refine ⟨rfl,gV_f rfl ?_⟩ | refine gV_t rfl rfl ?_ | refine gV_t rfl sub_o ?_ | refine gV_t rfl add_o ?_ | refine gV_t rfl (vs_g (s118 _ _)) ?_ | refine gV_t rfl (not_t _) ?_ | refine gV_f rfl ?_ | refine vs_eq (s118 _ _) ?_ | refine ⟨_,not_t _,?_⟩ | refine condK_t rfl ?_ | refine condK_f rfl ?_ | refine condK_by (fun h=>?_) (fun h=>?_) | refine ⟨_,rfl,?_⟩ | fail)
 all_goals first
  |exact ⟨_,by omega,i + 1,rfl,by omega,by omega,rfl,rfl,rfl,rfl⟩
  |skip
 all_goals
  refine ⟨fun n l31 x32 x33 x34=>∃j:Int,n=(j + 1 - a).toNat∧a≤j∧j < b∧l31=(swp hs a p).map ii∧x32=ii a∧x33=ii i∧x34=ii j,⟨_,b - 1,rfl,by omega,by omega,rfl,rfl,rfl,rfl⟩,?_⟩
  rintro n l31 x32 x33 x34 ⟨j,rfl,hj,hjb,rfl,rfl,rfl,rfl⟩
  repeat' (first | refine ⟨_,sub_o,?_⟩ | refine ⟨_,add_o,?_⟩ | refine ⟨_,mul_o,?_⟩ | refine ⟨_,quo_o,?_⟩ | refine ⟨_,ix_o,?_⟩ | refine ⟨_,ld_o,?_⟩ | refine ⟨_,set_o,?_⟩ | refine by_lss (fun h=>?_) (fun h=>?_) | refine by_gtr (fun h=>?_) (fun h=>?_) | refine by_leq (fun h=>?_) (fun h=>?_) | refine by_geq (fun h=>?_) (fun h=>?_) | refine by_eql (fun h=>?_) (fun h=>?_) | refine ⟨rfl,_,fun _=>ix_o,?_⟩ | refine ⟨rfl,0,(fun h=>by cases h),?_⟩ | refine ⟨rfl,gV_t rfl ld_o ?_⟩ | refine ⟨rfl,gV_f rfl ?_⟩ | refine gV_t rfl rfl ?_ | refine gV_t rfl sub_o ?_ | refine gV_t rfl add_o ?_ | refine gV_t rfl (vs_g (s118 _ _)) ?_ | refine gV_t rfl (not_t _) ?_ | refine gV_f rfl ?_ | refine vs_eq (s118 _ _) ?_ | refine ⟨_,not_t _,?_⟩ | refine condK_t rfl ?_ | refine condK_f rfl ?_ | refine condK_by (fun h=>?_) (fun h=>?_) | refine ⟨_,rfl,?_⟩ | fail)
  all_goals first
   |exact ⟨_,by omega,j - 1,rfl,by omega,by omega,rfl,rfl,rfl,rfl⟩
   |exact ⟨trivial,⟨rfl,rfl,trivial⟩,hQ _ _ _ (.step j a hsw0 (by omega) (by omega) (by omega) (by omega)) (by omega) (by omega)⟩
   |skip
  all_goals
   refine ⟨fun n l68 x69 x70 x71=>∃(hs':List Int) (i j:Int),Sw a b hs hs'∧n=(j + 1 - i).toNat∧a < i∧i≤b∧a≤j∧j < b∧l68=hs'.map ii∧x69=ii a∧x70=ii i∧x71=ii j,⟨_,_,i + 1,j - 1,.step i j hsw0 (by omega) (by omega) (by omega) (by omega),rfl,by omega,by omega,by omega,by omega,rfl,rfl,rfl,rfl⟩,?_⟩
   rintro n l68 x69 x70 x71 ⟨h1,i1,j1,hsw1,rfl,hi1,hib1,hj1,hjb1,rfl,rfl,rfl,rfl⟩
   have hl1:=hsw1.len
   refine ⟨fun n l75 x76 x77 x78=>∃i2:Int,n=(b - i2).toNat∧i1≤i2∧i2≤b∧l75=h1.map ii∧x76=ii a∧x77=ii i2∧x78=ii j1,⟨_,i1,rfl,by omega,by omega,rfl,rfl,rfl,rfl⟩,?_⟩
   rintro n l75 x76 x77 x78 ⟨i2,rfl,hi2,hib2,rfl,rfl,rfl,rfl⟩
   repeat' (first | refine ⟨_,sub_o,?_⟩ | refine ⟨_,add_o,?_⟩ | refine ⟨_,mul_o,?_⟩ | refine ⟨_,quo_o,?_⟩ | refine ⟨_,ix_o,?_⟩ | refine ⟨_,ld_o,?_⟩ | refine ⟨_,set_o,?_⟩ | refine by_lss (fun h=>?_) (fun h=>?_) | refine by_gtr (fun h=>?_) (fun h=>?_) | refine by_leq (fun h=>?_) (fun h=>?_) | refine by_geq (fun h=>?_) (fun h=>?_) | refine by_eql (fun h=>?_) (fun h=>?_) | refine ⟨rfl,_,fun _=>ix_o,?_⟩ | refine ⟨rfl,0,(fun h=>by cases h),?_⟩ | refine ⟨rfl,gV_t rfl ld_o ?_⟩ | refine ⟨rfl,gV_f rfl ?_⟩ | refine gV_t rfl rfl ?_ | refine gV_t rfl sub_o ?_ | refine gV_t rfl add_o ?_ | refine gV_t rfl (vs_g (s118 _ _)) ?_ | refine gV_t rfl (not_t _) ?_ | refine gV_f rfl ?_ | refine vs_eq (s118 _ _) ?_ | refine ⟨_,not_t _,?_⟩ | refine condK_t rfl ?_ | refine condK_f rfl ?_ | refine condK_by (fun h=>?_) (fun h=>?_) | refine ⟨_,rfl,?_⟩ | fail)
   all_goals first
    |exact ⟨_,by omega,i2 + 1,rfl,by omega,by omega,rfl,rfl,rfl,rfl⟩
    |skip
   all_goals
    refine ⟨fun n l92 x93 x94 x95=>∃j2:Int,n=(j2 + 1 - a).toNat∧a≤j2∧j2≤j1∧l92=h1.map ii∧x93=ii a∧x94=ii i2∧x95=ii j2,⟨_,j1,rfl,by omega,by omega,rfl,rfl,rfl,rfl⟩,?_⟩
    rintro n l92 x93 x94 x95 ⟨j2,rfl,hj2,hjb2,rfl,rfl,rfl,rfl⟩
    repeat' (first | refine ⟨_,sub_o,?_⟩ | refine ⟨_,add_o,?_⟩ | refine ⟨_,mul_o,?_⟩ | refine ⟨_,quo_o,?_⟩ | refine ⟨_,ix_o,?_⟩ | refine ⟨_,ld_o,?_⟩ | refine ⟨_,set_o,?_⟩ | refine by_lss (fun h=>?_) (fun h=>?_) | refine by_gtr (fun h=>?_) (fun h=>?_) | refine by_leq (fun h=>?_) (fun h=>?_) | refine by_geq (fun h=>?_) (fun h=>?_) | refine by_eql (fun h=>?_) (fun h=>?_) | refine ⟨rfl,_,fun _=>ix_o,?_⟩ | refine ⟨rfl,0,(fun h=>by cases h),?_⟩ | refine ⟨rfl,gV_t rfl ld_o ?_⟩ | refine ⟨rfl,gV_f rfl ?_⟩ | refine gV_t rfl rfl ?_ | refine gV_t rfl sub_o ?_ | refine gV_t rfl add_o ?_ | refine gV_t rfl (vs_g (s118 _ _)) ?_ | refine gV_t rfl (not_t _) ?_ | refine gV_f rfl ?_ | refine vs_eq (s118 _ _) ?_ | refine ⟨_,not_t _,?_⟩ | refine condK_t rfl ?_ | refine condK_f rfl ?_ | refine condK_by (fun h=>?_) (fun h=>?_) | refine ⟨_,rfl,?_⟩ | fail)
    all_goals first
     |exact ⟨_,by omega,j2 - 1,rfl,by omega,by omega,rfl,rfl,rfl,rfl⟩
     |exact ⟨trivial,⟨rfl,rfl,trivial⟩,hQ _ _ _ (.step j2 a hsw1 (by omega) (by omega) (by omega) (by omega)) (by omega) (by omega)⟩
     |exact ⟨_,by omega,_,i2 + 1,j2 - 1,.step i2 j2 hsw1 (by omega) (by omega) (by omega) (by omega),rfl,by omega,by omega,by omega,by omega,rfl,rfl,rfl,rfl⟩
set_option maxHeartbeats 4000000 in
theorem tl87 {n2:Nat} {I1:Nat→List TV→TV→TV→TV→TV→TV→Prop} (hs:List Int) (a b p lim:Int) (u w:Bool) (ha:0≤a) (hb:b≤hs.length) (hn:hs.length≤100000000) (hp:a≤p∧p < b)
  (hk:∀hs' a' b' u' w',Sw 0 hs.length hs hs'→a≤a'→b'≤b→a'≤b'→b' - a' < b - a→∃m3,m3 < n2∧I1 m3 (hs'.map ii) (ii a') (ii b') (ii lim) (.b u') (.b w'))
  (rc:∀hs' a' b' Q',Sw 0 hs.length hs hs'→a≤a'→b'≤b→a'≤b'→b' - a' < b - a→(∀hs'',Sw 0 hs.length hs' hs''→Q' (hs''.map ii) (.tp []))→S87 Q' (hs'.map ii) (ii a') (ii b') (ii lim)) :
 ∃v38,binT .gtr (ii a) (TV.i .i64 0)=some v38∧
 ∃v39,gV v38 true (fun r=>some (ii a)=some r) v39∧
 ∃v40,gV v38 true (fun r=>binT .sub v39 (TV.i .i64 1)=some r) v40∧
 gd v38 true v38 true∧∃v41,(v38=.b true→ixN v40 (List.length (hs.map ii))=some v41)∧
 gd v38 true v38 true∧∃v42,gV v38 true (fun r=>ldE (hs.map ii) v41 0 none=some r) v42∧
 ∃v43,gV v38 true (fun r=>some (ii p)=some r) v43∧
 gd v38 true v38 true∧∃v44,(v38=.b true→ixN v43 (List.length (hs.map ii))=some v44)∧
 gd v38 true v38 true∧∃v45,gV v38 true (fun r=>ldE (hs.map ii) v44 0 none=some r) v45∧
 ∃v46,gV v38 true (fun r=>VS prog 118 [v42,v45] fun r'=>r'=r∧scOk true r) v46∧
 ∃v47,gV v38 true (fun r=>unT .not v46=some r) v47∧
 ∃v48,pickT v38 v47 (TV.b false)=some v48∧
 condK v48
 (S119 (fun (l49:List TV) (r50:TV)=>
 ∃m3,m3 < n2∧I1 m3 l49 r50 (ii b) (ii lim) (.b u) (.b w))
 (hs.map ii) (ii a) (ii b) (ii p))
 (S120 (fun (l51:List TV) (r52:TV)=>
 ∃v53,extT 0 r52=some v53∧
 ∃v54,extT 1 r52=some v54∧
 ∃v55,binT .sub v53 (ii a)=some v55∧
 ∃v56,binT .sub (ii b) v53=some v56∧
 ∃v57,binT .quo (ii (b - a)) (TV.i .i64 8)=some v57∧
 ∃v58,binT .lss v55 v56=some v58∧
 condK v58
 (∃v59,binT .geq v55 v57=some v59∧
 S87 (fun (l60:List TV) (r61:TV)=>
 ∃v62,binT .add v53 (TV.i .i64 1)=some v62∧
 ∃m3,m3 < n2∧I1 m3 l60 v62 (ii b) (ii lim) v59 v54)
 l51 (ii a) v53 (ii lim))
 (∃v63,binT .geq v56 v57=some v63∧
 ∃v64,binT .add v53 (TV.i .i64 1)=some v64∧
 S87 (fun (l65:List TV) (r66:TV)=>
 ∃m3,m3 < n2∧I1 m3 l65 (ii a) v53 (ii lim) v63 v54)
 l51 v64 (ii b) (ii lim)))
 (hs.map ii) (ii a) (ii b) (ii p)):=by
 have hpa:=hp
 repeat' (first | refine ⟨_,sub_o,?_⟩ | refine ⟨_,add_o,?_⟩ | refine ⟨_,mul_o,?_⟩ | refine ⟨_,quo_o,?_⟩ | refine ⟨_,ix_o,?_⟩ | refine ⟨_,ld_o,?_⟩ | refine ⟨_,set_o,?_⟩ | refine by_lss (fun h=>?_) (fun h=>?_) | refine by_gtr (fun h=>?_) (fun h=>?_) | refine by_leq (fun h=>?_) (fun h=>?_) | refine by_geq (fun h=>?_) (fun h=>?_) | refine by_eql (fun h=>?_) (fun h=>?_) | refine ⟨rfl,_,fun _=>ix_o,?_⟩ | refine ⟨rfl,0,(fun h=>by cases h),?_⟩ | refine ⟨rfl,gV_t rfl ld_o ?_⟩ | refine ⟨rfl,gV_f rfl ?_⟩ | refine gV_t rfl rfl ?_ | refine gV_t rfl sub_o ?_ | refine gV_t rfl add_o ?_ | refine gV_t rfl (vs_g (s118 _ _)) ?_ | refine gV_t rfl (not_t _) ?_ | refine gV_f rfl ?_ | refine vs_eq (s118 _ _) ?_ | refine ⟨_,not_t _,?_⟩ | refine condK_t rfl ?_ | refine condK_f rfl ?_ | refine condK_by (fun h=>?_) (fun h=>?_) | refine ⟨_,rfl,?_⟩ | fail)
 all_goals first
  |refine t119 hs a b p ha hb hn hp _ (fun hs' m hsw h1 h2=>?_)
   exact hk hs' m b _ _ (hsw.wide ha (by omega)) (by omega) (by omega) (by omega) (by omega)
  |refine t120 hs a b p ha hb hn hp _ (fun hs' m t hsw h1 h2=>?_)
   have hl:=hsw.len
   have hsw':=hsw.wide ha hb
   repeat' (first | refine ⟨_,sub_o,?_⟩ | refine ⟨_,add_o,?_⟩ | refine ⟨_,mul_o,?_⟩ | refine ⟨_,quo_o,?_⟩ | refine ⟨_,ix_o,?_⟩ | refine ⟨_,ld_o,?_⟩ | refine ⟨_,set_o,?_⟩ | refine by_lss (fun h=>?_) (fun h=>?_) | refine by_gtr (fun h=>?_) (fun h=>?_) | refine by_leq (fun h=>?_) (fun h=>?_) | refine by_geq (fun h=>?_) (fun h=>?_) | refine by_eql (fun h=>?_) (fun h=>?_) | refine ⟨rfl,_,fun _=>ix_o,?_⟩ | refine ⟨rfl,0,(fun h=>by cases h),?_⟩ | refine ⟨rfl,gV_t rfl ld_o ?_⟩ | refine ⟨rfl,gV_f rfl ?_⟩ | refine gV_t rfl rfl ?_ | refine gV_t rfl sub_o ?_ | refine gV_t rfl add_o ?_ | refine gV_t rfl (vs_g (s118 _ _)) ?_ | refine gV_t rfl (not_t _) ?_ | refine gV_f rfl ?_ | refine vs_eq (s118 _ _) ?_ | refine ⟨_,not_t _,?_⟩ | refine condK_t rfl ?_ | refine condK_f rfl ?_ | refine condK_by (fun h=>?_) (fun h=>?_) | refine ⟨_,rfl,?_⟩ | fail)
   all_goals
    refine rc hs' _ _ _ hsw' (by omega) (by omega) (by omega) (by omega) (fun hs'' hsw''=>?_)
    first
     |exact hk hs'' _ _ _ _ (hsw'.trans hsw'') (by omega) (by omega) (by omega) (by omega)
     |exact ⟨_,add_o,hk hs'' _ _ _ _ (hsw'.trans hsw'') (by omega) (by omega) (by omega) (by omega)⟩
def I87 (hs:List Int) (a b:Int) (n:Nat) (l:List TV) (x5 x6 x7 x8 x9:TV):Prop:=∃(hs':List Int) (a' b' lim:Int) (u w:Bool),Sw 0 hs.length hs hs'∧n=(b' - a').toNat∧a≤a'∧b'≤b∧a'≤b'∧0≤lim∧lim≤64∧l=hs'.map ii∧x5=ii a'∧x6=ii b'∧x7=ii lim∧x8=.b u∧x9=.b w
set_option maxHeartbeats 4000000 in
theorem t87:∀(N:Nat) (hs:List Int) (a b lim:Int),(b - a).toNat < N→0≤a→a≤b→b≤hs.length→hs.length < 256→0≤lim→lim≤64→∀Q:List TV→TV→Prop,(∀hs',Sw 0 hs.length hs hs'→Q (hs'.map ii) (.tp []))→S87 Q (hs.map ii) (ii a) (ii b) (ii lim):=by
 intro N
 induction N with
 |zero=>intro hs a b lim h;omega
 |succ N ih=>
  intro hs a b lim hN ha hab hb hn hl0 hl1 Q hQ
  refine sh87 _ _ _ _ _ ?_
  unfold WS87
  refine ⟨I87 hs a b,⟨_,hs,a,b,lim,true,true,.refl,rfl,by omega,by omega,hab,hl0,hl1,rfl,rfl,rfl,rfl,rfl,rfl⟩,?_⟩
  rintro n l4 x5 x6 x7 x8 x9 ⟨h1,a1,b1,lm,u,w,hsw,rfl,haa,hbb,hab1,hm0,hm1,rfl,rfl,rfl,rfl,rfl,rfl⟩
  have hlen:=hsw.len
  have T:=fun (lm:Int) (h0:0≤lm) (h9:lm≤64) (u w:Bool) (hX:List Int) (hswX:Sw 0 hs.length hs hX) (p:Int) (hp1:a1≤p) (hp2:p < b1)=>
   tl87 (n2:=(b1 - a1).toNat) (I1:=I87 hs a b) hX a1 b1 p lm u w (by omega) (by rw [hswX.len];omega) (by rw [hswX.len];omega) ⟨hp1,hp2⟩
    (fun hs' a' b' u' w' hsw' e1 e2 e3 e4=>⟨_,by omega,hs',a',b',lm,u',w',hswX.trans (by rw [hswX.len] at hsw';exact hsw'),rfl,by omega,by omega,by omega,h0,h9,rfl,rfl,rfl,rfl,rfl,rfl⟩)
    (fun hs' a' b' Q' hsw' e1 e2 e3 e4 hq=>ih hs' a' b' lm (by omega) (by omega) e3 (by rw [hsw'.len,hswX.len];omega) (by rw [hsw'.len,hswX.len];omega) h0 h9 Q' (fun hs'' hsw''=>hq hs'' (by rw [hsw'.len] at hsw'';exact hsw'')))
  refine ⟨_,sub_o,?_⟩
  refine by_leq (fun h=>condK_t rfl (t112 h1 a1 b1 (by omega) (by omega) (by omega) _ (fun h2 hsw2=>⟨trivial,trivial,hQ _ (hsw.trans (hsw2.wide (by omega) (by omega)))⟩) hab1)) (fun h12=>condK_f rfl ?_)
  refine by_eql (fun h=>condK_t rfl (t113 h1 a1 b1 (by omega) (by omega) (by omega) (by omega) _ (fun h2 hsw2=>⟨trivial,trivial,hQ _ (hsw.trans (hsw2.wide (by omega) (by omega)))⟩))) (fun hlm=>condK_f rfl ?_)
  have pt:∀(lm:Int),0≤lm→lm≤64→True:=fun _ _ _=>trivial
  cases u <;> cases w
  all_goals
   iterate 2 (first | refine ⟨_,sub_o,?_⟩ | refine ⟨_,add_o,?_⟩ | refine ⟨_,mul_o,?_⟩ | refine ⟨_,quo_o,?_⟩ | refine ⟨_,ix_o,?_⟩ | refine ⟨_,ld_o,?_⟩ | refine ⟨_,set_o,?_⟩ | refine by_lss (fun h=>?_) (fun h=>?_) | refine by_gtr (fun h=>?_) (fun h=>?_) | refine by_leq (fun h=>?_) (fun h=>?_) | refine by_geq (fun h=>?_) (fun h=>?_) | refine by_eql (fun h=>?_) (fun h=>?_) | refine ⟨rfl,_,fun _=>ix_o,?_⟩ | refine ⟨rfl,0,(fun h=>by cases h),?_⟩ | refine ⟨rfl,gV_t rfl ld_o ?_⟩ | refine ⟨rfl,gV_f rfl ?_⟩ | refine gV_t rfl rfl ?_ | refine gV_t rfl sub_o ?_ | refine gV_t rfl add_o ?_ | refine gV_t rfl (vs_g (s118 _ _)) ?_ | refine gV_t rfl (not_t _) ?_ | refine gV_f rfl ?_ | refine vs_eq (s118 _ _) ?_ | refine ⟨_,not_t _,?_⟩ | refine condK_t rfl ?_ | refine condK_f rfl ?_ | refine condK_by (fun h=>?_) (fun h=>?_) | refine ⟨_,rfl,?_⟩ | fail)
   first
    |refine t114 h1 a1 b1 (by omega) (by omega) (by omega) (by omega) (by omega) _ (fun h2 hsw2=>?_)
     (first | refine ⟨_,sub_o,?_⟩ | refine ⟨_,add_o,?_⟩ | refine ⟨_,mul_o,?_⟩ | refine ⟨_,quo_o,?_⟩ | refine ⟨_,ix_o,?_⟩ | refine ⟨_,ld_o,?_⟩ | refine ⟨_,set_o,?_⟩ | refine by_lss (fun h=>?_) (fun h=>?_) | refine by_gtr (fun h=>?_) (fun h=>?_) | refine by_leq (fun h=>?_) (fun h=>?_) | refine by_geq (fun h=>?_) (fun h=>?_) | refine by_eql (fun h=>?_) (fun h=>?_) | refine ⟨rfl,_,fun _=>ix_o,?_⟩ | refine ⟨rfl,0,(fun h=>by cases h),?_⟩ | refine ⟨rfl,gV_t rfl ld_o ?_⟩ | refine ⟨rfl,gV_f rfl ?_⟩ | refine gV_t rfl rfl ?_ | refine gV_t rfl sub_o ?_ | refine gV_t rfl add_o ?_ | refine gV_t rfl (vs_g (s118 _ _)) ?_ | refine gV_t rfl (not_t _) ?_ | refine gV_f rfl ?_ | refine vs_eq (s118 _ _) ?_ | refine ⟨_,not_t _,?_⟩ | refine condK_t rfl ?_ | refine condK_f rfl ?_ | refine condK_by (fun h=>?_) (fun h=>?_) | refine ⟨_,rfl,?_⟩ | fail)
    |obtain ⟨h2,hsw2⟩:∃h2,Sw a1 b1 h1 h2∧h2=h1:=⟨h1,.refl,rfl⟩
     obtain ⟨hsw2,rfl⟩:=hsw2
   have hsw3:=hsw.trans (hsw2.wide (by omega:(0:Int)≤a1) (by omega:b1≤(hs.length:Int)))
   have hl3:=hsw3.len
   refine t115 h2 a1 b1 (by omega) (by omega) (by omega) (by omega) _ (fun p hint hp1 hp2=>?_)
   refine ⟨_,rfl,_,rfl,?_⟩
   refine by_eql (fun h=>condK_t rfl ?_) (fun h=>condK_f rfl ?_)
   ·refine t116 h2 a1 b1 (by omega) (by omega) (by omega) _ (fun h4 hsw4=>?_) hab1
    have hsw5:=hsw3.trans (hsw4.wide (by omega:(0:Int)≤a1) (by omega:b1≤(hs.length:Int)))
    have hl5:=hsw5.len
    iterate 3 (first | refine ⟨_,sub_o,?_⟩ | refine ⟨_,add_o,?_⟩ | refine ⟨_,mul_o,?_⟩ | refine ⟨_,quo_o,?_⟩ | refine ⟨_,ix_o,?_⟩ | refine ⟨_,ld_o,?_⟩ | refine ⟨_,set_o,?_⟩ | refine by_lss (fun h=>?_) (fun h=>?_) | refine by_gtr (fun h=>?_) (fun h=>?_) | refine by_leq (fun h=>?_) (fun h=>?_) | refine by_geq (fun h=>?_) (fun h=>?_) | refine by_eql (fun h=>?_) (fun h=>?_) | refine ⟨rfl,_,fun _=>ix_o,?_⟩ | refine ⟨rfl,0,(fun h=>by cases h),?_⟩ | refine ⟨rfl,gV_t rfl ld_o ?_⟩ | refine ⟨rfl,gV_f rfl ?_⟩ | refine gV_t rfl rfl ?_ | refine gV_t rfl sub_o ?_ | refine gV_t rfl add_o ?_ | refine gV_t rfl (vs_g (s118 _ _)) ?_ | refine gV_t rfl (not_t _) ?_ | refine gV_f rfl ?_ | refine vs_eq (s118 _ _) ?_ | refine ⟨_,not_t _,?_⟩ | refine condK_t rfl ?_ | refine condK_f rfl ?_ | refine condK_by (fun h=>?_) (fun h=>?_) | refine ⟨_,rfl,?_⟩ | fail)
    repeat' (first | exact T _ (by omega) (by omega) _ _ _ hsw5 _ (by omega) (by omega) | (first | refine ⟨_,sub_o,?_⟩ | refine ⟨_,add_o,?_⟩ | refine ⟨_,mul_o,?_⟩ | refine ⟨_,quo_o,?_⟩ | refine ⟨_,ix_o,?_⟩ | refine ⟨_,ld_o,?_⟩ | refine ⟨_,set_o,?_⟩ | refine by_lss (fun h=>?_) (fun h=>?_) | refine by_gtr (fun h=>?_) (fun h=>?_) | refine by_leq (fun h=>?_) (fun h=>?_) | refine by_geq (fun h=>?_) (fun h=>?_) | refine by_eql (fun h=>?_) (fun h=>?_) | refine ⟨rfl,_,fun _=>ix_o,?_⟩ | refine ⟨rfl,0,(fun h=>by cases h),?_⟩ | refine ⟨rfl,gV_t rfl ld_o ?_⟩ | refine ⟨rfl,gV_f rfl ?_⟩ | refine gV_t rfl rfl ?_ | refine gV_t rfl sub_o ?_ | refine gV_t rfl add_o ?_ | refine gV_t rfl (vs_g (s118 _ _)) ?_ | refine gV_t rfl (not_t _) ?_ | refine gV_f rfl ?_ | refine vs_eq (s118 _ _) ?_ | refine ⟨_,not_t _,?_⟩ | refine condK_t rfl ?_ | refine condK_f rfl ?_ | refine condK_by (fun h=>?_) (fun h=>?_) | refine ⟨_,rfl,?_⟩ | fail))
    all_goals
     refine t117 h4 a1 b1 (by omega) (by omega) (by omega) (by omega) _ (fun h6 t hsw6=>?_)
     have hsw7:=hsw5.trans (hsw6.wide (by omega:(0:Int)≤0) (by omega:b1≤(hs.length:Int)))
     exact condK_by (fun _=>⟨trivial,trivial,hQ _ hsw7⟩) (fun _=>T _ (by omega) (by omega) _ _ _ hsw7 _ (by omega) (by omega))
   ·repeat' (first | exact T _ (by omega) (by omega) _ _ _ hsw3 _ (by omega) (by omega) | (first | refine ⟨_,sub_o,?_⟩ | refine ⟨_,add_o,?_⟩ | refine ⟨_,mul_o,?_⟩ | refine ⟨_,quo_o,?_⟩ | refine ⟨_,ix_o,?_⟩ | refine ⟨_,ld_o,?_⟩ | refine ⟨_,set_o,?_⟩ | refine by_lss (fun h=>?_) (fun h=>?_) | refine by_gtr (fun h=>?_) (fun h=>?_) | refine by_leq (fun h=>?_) (fun h=>?_) | refine by_geq (fun h=>?_) (fun h=>?_) | refine by_eql (fun h=>?_) (fun h=>?_) | refine ⟨rfl,_,fun _=>ix_o,?_⟩ | refine ⟨rfl,0,(fun h=>by cases h),?_⟩ | refine ⟨rfl,gV_t rfl ld_o ?_⟩ | refine ⟨rfl,gV_f rfl ?_⟩ | refine gV_t rfl rfl ?_ | refine gV_t rfl sub_o ?_ | refine gV_t rfl add_o ?_ | refine gV_t rfl (vs_g (s118 _ _)) ?_ | refine gV_t rfl (not_t _) ?_ | refine gV_f rfl ?_ | refine vs_eq (s118 _ _) ?_ | refine ⟨_,not_t _,?_⟩ | refine condK_t rfl ?_ | refine condK_f rfl ?_ | refine condK_by (fun h=>?_) (fun h=>?_) | refine ⟨_,rfl,?_⟩ | fail))
    all_goals
     refine t117 h2 a1 b1 (by omega) (by omega) (by omega) (by omega) _ (fun h6 t hsw6=>?_)
     have hsw7:=hsw3.trans (hsw6.wide (by omega:(0:Int)≤0) (by omega:b1≤(hs.length:Int)))
     exact condK_by (fun _=>⟨trivial,trivial,hQ _ hsw7⟩) (fun _=>T _ (by omega) (by omega) _ _ _ hsw7 _ (by omega) (by omega))
theorem t63 (hs:List Int) (hn:hs.length < 256) (Q:List TV→TV→Prop) (hQ:∀hs':List Int,hs'.length=hs.length→Q (hs'.map ii) (.tp [])):S63 Q (hs.map ii):=by
 refine sh63 _ _ ?_
 unfold WS63
 refine ⟨_,rfl,_,rfl,?_⟩
 rw [List.length_map,wrap_u (by omega) (by omega)]
 refine vs_ex (t88 hn) (fun r hr=>?_)
 obtain ⟨m,rfl,h1,h2,h3⟩:=hr
 refine ⟨trivial,t87 _ hs 0 hs.length m (Nat.lt_succ_self _) (by omega) (by omega) (by omega) hn (by omega) (by omega) _ (fun hs' hsw=>⟨trivial,trivial,hQ _ hsw.len⟩)⟩
end Go.Ax.TryLr

set_option linter.unusedSimpArgs false
set_option linter.unusedVariables false
set_option maxRecDepth 100000
namespace Go.Ax.TryLr
open Go Go.Ax Go.Ax.V Go.Ax.Ft
mutual
theorem stF_he:∀(s:Sm) (a b:Int) (g:Gr),2*g.heads.length≤g.edges.length→2*(stF s a b g).heads.length≤(stF s a b g).edges.length
 |.mk kind var chan tag e c body els arms,a,b,g,h=>by
  rw [stF]
  split
  ·simp [Gr.edge];omega
  split
  ·exact laF_he els _ _ _ (by
    have:=laF_he body g.nodes b (g.node.edge ⟨a,g.nodes,2,0,0,0,no0,c⟩) (by simp [Gr.edge,Gr.node];omega)
    simp only [Gr.edge,Gr.node,List.length_append,List.length_singleton] at this ⊢;omega)
  split
  ·exact laF_he body _ _ _ (by simp [Gr.edge,Gr.node,Gr.head];omega)
  split
  ·simp [Gr.edge];omega
  split
  ·exact arF_he chan arms a b g h
  split
  ·simp [Gr.edge];omega
  split
  ·simp [Gr.edge];omega
  ·exact h
theorem laF_he:∀(l:List Sm) (a b:Int) (g:Gr),2*g.heads.length≤g.edges.length→2*(laF l a b g).heads.length≤(laF l a b g).edges.length
 |[],a,b,g,h=>by rw [laF];simp [Gr.edge];omega
 |[s],a,b,g,h=>by rw [laF];exact stF_he s a b g h
 |s :: t :: r,a,b,g,h=>by
  rw [laF]
  exact laF_he (t :: r) _ _ _ (stF_he s _ _ _ (by simpa [Gr.node] using h))
theorem arF_he (chan:Int):∀(l:List Ar) (a b:Int) (g:Gr),2*g.heads.length≤g.edges.length→2*(arF chan l a b g).heads.length≤(arF chan l a b g).edges.length
 |[],a,b,g,h=>by rw [arF];exact h
 |.mk tag var body :: r,a,b,g,h=>by
  rw [arF]
  exact arF_he chan r _ _ _ (laF_he body _ _ _ (by simp [Gr.edge,Gr.node];omega))
end
theorem raw_he (x:Pr):2*(rawF x).heads.length≤(rawF x).edges.length:=laF_he _ _ _ _ (by simp)
theorem s43w (p:Pg) (hz:szPg p):VS prog 43 [encPg p] (isB p):=by
 have hlc:=hz.chans
 have hlp:=hz.procs
 have hl2:(p.procs.map encPr).length=p.procs.length:=List.length_map _
 have h60:=s60 p hz
 have h61:=s61 p.chans hlc hz.rules hz.rows
 refine vs43 _ _ ?_
 unfold W43
 (repeat (first | refine ⟨rfl,?_⟩ | refine ⟨_,sub_o,?_⟩ | refine ⟨_,add_o,?_⟩ | refine ⟨_,rfl,?_⟩ | refine ⟨_,not_t _,?_⟩ | refine ⟨_,⟨rfl,rfl⟩,?_⟩ | refine gFf ?_ | refine gOt ?_ | refine pkF ?_ | refine pkT ?_ | refine pkB ?_ | refine pkO ?_ | refine vs_eq h60 ?_ | refine gBa ?_ | refine gB _ (fun h=>by first | exact vs_g h60 | (rw [h];exact vs_g h60)) ?_ | refine gOa ?_ | refine gO _ (fun h=>by first | exact vs_g h60 | (rw [h];exact vs_g h60)) ?_))
 refine condK_by (fun h=>?_) (fun h=>?_)
 ·refine ⟨_,rfl,trivial,_,rfl,_,rfl,_,rfl,_,rfl,tup2 rfl rfl,?_⟩
  have h':okPg p=false:=by simpa using h
  have e1:errB p=1:=by unfold errB;rw [if_pos h']
  have e2:cntB p=0:=by unfold cntB;rw [if_pos h']
  unfold isB;rw [e1,e2]
  exact ⟨_,_,_,rfl,rfl⟩
 have hok:okPg p=true:=by simpa using h
 (repeat (first | refine ⟨rfl,?_⟩ | refine ⟨_,sub_o,?_⟩ | refine ⟨_,add_o,?_⟩ | refine ⟨_,rfl,?_⟩ | refine ⟨_,not_t _,?_⟩ | refine ⟨_,⟨rfl,rfl⟩,?_⟩ | refine gFf ?_ | refine gOt ?_ | refine pkF ?_ | refine pkT ?_ | refine pkB ?_ | refine pkO ?_ | refine vs_eq h61 ?_ | refine gBa ?_ | refine gB _ (fun h=>by first | exact vs_g h61 | (rw [h];exact vs_g h61)) ?_ | refine gOa ?_ | refine gO _ (fun h=>by first | exact vs_g h61 | (rw [h];exact vs_g h61)) ?_))
 refine ⟨fun m o18 l19 l20 l21 o22 l23 l24 x26 x27 x28=>∃i:Nat,i≤p.procs.length∧m=p.procs.length - i∧o18=.a [.l [],.l [],.l []]∧o22=.a [.l (p.chans.map encCh),.l [],.l []]∧l23.length=i∧l24.length=i∧
   x26=.l (p.procs.map encPr)∧x27=ii p.procs.length∧x28=ii i∧(p.procs.take i).all (fun x=>decide ((rawF x).edges.length≤400))=true,⟨_,0,by omega,rfl,rfl,rfl,rfl,rfl,rfl,by rw [hl2],rfl,rfl⟩,?_⟩
 rintro m o18 l19 l20 l21 o22 l23 l24 x26 x27 x28 ⟨i,hi,rfl,rfl,rfl,hg1,hg2,rfl,rfl,rfl,hall⟩
 refine ⟨_,rfl,condK_by (fun h3=>?_) (fun h3=>?_)⟩
 ·replace h3:=lt_len h3
  obtain ⟨x,hx⟩:∃x,p.procs[i]?=some x:=⟨_,List.getElem?_eq_getElem h3⟩
  have hx':(p.procs.map encPr)[i]?=some (encPr x):=by rw [List.getElem?_map,hx];rfl
  have hxm:=List.mem_of_getElem? hx
  have hb:=hz.body x hxm
  refine ⟨_,⟨idx_i hx',rfl⟩,_,rfl,_,rfl,_,rfl,_,rfl,_,rfl,?_⟩
  refine u62 x.body hb ⟨2,[],[]⟩ 0 1 ⟨(by decide:(0:Int)≤2),(by omega:(2:Int) + ((szSs x.body + 1:Nat):Int)≤100000000),by simp only [List.length_nil];omega,by simp only [List.length_nil];omega⟩ _ ?_
  have hle:(eE (rawF x)).length=(rawF x).edges.length:=List.length_map _
  refine ⟨_,rfl,_,rfl,condK_by (fun h4=>?_) (fun h4=>?_)⟩
  ·have h5:¬(rawF x).edges.length≤400:=by
    have h4':ltA 400 ((eE (rawF x)).length:Int)=true:=h4
    rw [hle,ltA_d,decide_eq_true_eq] at h4'
    omega
   refine ⟨_,rfl,trivial,_,rfl,_,rfl,_,rfl,_,rfl,tup2 rfl rfl,?_⟩
   have h6:(p.procs.all fun x=>decide ((rawF x).edges.length≤400))=false:=not_all hx (by simpa using h5)
   have e1:errB p=10:=by unfold errB;rw [if_neg (by rw [hok];decide),if_pos h6]
   have e2:cntB p=0:=by unfold cntB;rw [if_neg (by rw [hok];decide),if_pos h6]
   unfold isB;rw [e1,e2]
   exact ⟨_,_,_,rfl,rfl⟩
  ·have h5:(rawF x).edges.length≤400:=by
    have h4':ltA 400 ((eE (rawF x)).length:Int)=false:=h4
    rw [hle,ltA_d,decide_eq_false_iff_not] at h4'
    omega
   have hhe:=raw_he x
   have hl3:l23.length≤4194304:=by omega
   have hl4:l24.length≤4194304:=by omega
   refine t63 (rawF x).heads (by omega) _ (fun hs' hlen=>?_)
   refine ⟨_,rfl,rfl,rfl,_,rfl,_,rfl,rfl,_,rfl,rfl,_,app_o,?_⟩
   refine ⟨_,rfl,rfl,rfl,_,rfl,rfl,_,app_o,?_⟩
   refine ⟨_,rfl,_,rfl,_,next_i h3 (by omega),_,by omega,i + 1,by omega,rfl,rfl,rfl,by rw [List.length_append,hg1];rfl,by rw [List.length_append,hg2];rfl,rfl,rfl,rfl,take_all hx hall (by simpa using h5)⟩
 ·obtain rfl:=ge_len hi h3
  rw [List.take_length] at hall
  refine ⟨_,rfl,_,rfl,trivial,_,rfl,_,rfl,_,rfl,tup2 rfl rfl,?_⟩
  have e1:errB p=0:=by unfold errB;rw [if_neg (by rw [hok];decide),if_neg (by rw [hall];decide)]
  have e2:cntB p=p.procs.length:=by unfold cntB;rw [if_neg (by rw [hok];decide),if_neg (by rw [hall];decide)]
  unfold isB;rw [e1,e2]
  exact ⟨_,_,_,rfl,hg1⟩
theorem err1 (p:Pg):errB p=1↔okPg p=false:=by
 unfold errB
 constructor
 ·intro h
  by_cases h1:okPg p=false
  ·exact h1
  ·rw [if_neg h1] at h;split at h <;> omega
 ·intro h;rw [if_pos h]
theorem s11 (p:Pg) (hz:szPg p) (h46:VS prog 46 [] (fun r=>r=.b true)):VS prog 11 [encPg p] (fun r=>r=.b true):=by
 refine vs11 _ _ ?_
 unfold W11
 refine ⟨rfl,_,rfl,vs_eq (s44 p hz) (vs_ex (s43w p hz) (fun r hr=>?_))⟩
 obtain ⟨c1,w1,g1,rfl,hg1⟩:=hr
 refine ⟨trivial,_,rfl,_,rfl,_,rfl,_,rfl,vs_ex (s45 p hz) (fun r hr=>?_)⟩
 obtain ⟨c2,w2,g2,rfl,hg2⟩:=hr
 refine ⟨trivial,_,rfl,_,rfl,_,rfl,vs_eq h46 ?_⟩
 have hne:binT .neq (ii (errB p)) (ii (errB p))=some (.b false):=by
  rw [neq_i,eqA_d];simp
 have hle:binT .neq (ii (g1.length:Int)) (ii (g2.length:Int))=some (.b false):=by
  rw [neq_i,eqA_d,hg1,hg2];simp
 refine ⟨_,rfl,gV_t rfl rfl (gV_t rfl rfl (gV_t rfl hne ⟨_,rfl,rfl,gV_t rfl rfl (gV_t rfl rfl ⟨rfl,gV_t rfl rfl (gV_t rfl rfl (gV_t rfl hle ⟨_,rfl,condK_f rfl ?_⟩))⟩)⟩))⟩
 have e:binT .neq (ii (errB p)) (ii 1)=some (.b (!eqA (errB p) 1)):=neq_i _ _
 by_cases h1:errB p=1
 ·have hk:=(err1 p).1 h1
  have e':binT .neq (ii (errB p)) (ii 1)=some (.b false):=by rw [e,h1];rfl
  have h47:=s47 p hz
  rw [hk] at h47
  exact ⟨_,e',gV_t rfl rfl (gV_t rfl (vs_g h47) (gV_t rfl rfl ⟨_,rfl,trivial,trivial,rfl⟩))⟩
 ·have e':binT .neq (ii (errB p)) (ii 1)=some (.b true):=by rw [e,eqA_d,decide_eq_false h1];rfl
  exact ⟨_,e',gV_f rfl (gV_f rfl (gV_f rfl ⟨_,rfl,trivial,trivial,rfl⟩))⟩
end Go.Ax.TryLr
