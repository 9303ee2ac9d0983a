/- Part 5 of the proof: V5, V6, V7, V8, V9, V10, V12, VS, V11, VD, VE, V13, V14, V15, V16, V18. -/
import Derived.Test.YtamgnhdbeecapaaCq4
set_option linter.unusedSimpArgs false
set_option linter.unusedVariables false
noncomputable section
namespace Go.Ax.V
section
variable {prog:Map aq} {cf:eI} {nt:Nat} {A:aY} {V:aF} {st:St} {d:Option Nat} {g:G} {k:aF->Prop}
theorem gj {α:Type} (l:List α) (a n j:Nat):((l.drop a).take n)[j]?=if j < n then l[a+j]? else none:=by rw [P0,P3]
theorem Eb {z:Nat} {es:List TV} {row row' ce':List AV} {i:Nat} {e e':TV} (hE:we z es row) (hi:es[i]?=some e) (hc:ld e' ce') (hl:ce'.length=z) (hf:∀x∈ce',AV.flat x=true)
  (hl':row'.length=row.length) (hr:∀j,row'[j]?=if i*z<=j/\j < i*z+z then ce'[j - i*z]? else row[j]?):we z (es.set i e') row':=by
 have hlt:i < es.length:=(PV.1 hi).1;refine⟨by rw [hl',hE.len,Qb],fun x hx=>?_,fun j e1 hj=>?_⟩
 ·obtain⟨q,hq⟩:=List.getElem?_of_mem hx;rw [hr] at hq;split at hq
  ·exact hf x (P4 hq)
  ·exact hE.flat x (P4 hq)
 ·rw [List.getElem?_set] at hj;by_cases e:i=j
  ·subst e;rw [if_pos rfl,if_pos hlt] at hj;cases hj;have:(row'.drop (i*z)).take z=ce':=by
    apply List.ext_getElem?;intro q;rw [gj];by_cases hq:q < z
    ·rw [if_pos hq,hr,if_pos ⟨by omega,by omega⟩];congr 1;omega
    ·rw [if_neg hq];exact(List.getElem?_eq_none_iff.2 (by omega)).symm
   rw [this];exact hc
  ·rw [if_neg e] at hj;have:(row'.drop (j*z)).take z=(row.drop (j*z)).take z:=by
    apply List.ext_getElem?;intro q;rw [gj,gj];by_cases hq:q < z
    ·rw [if_pos hq,if_pos hq,hr,if_neg];rintro⟨h1,h2⟩;rcases Nat.lt_or_gt_of_ne e with h|h
     ·have:=bO (z:=z) h;omega
     ·have:=bO (z:=z) h;omega
    ·rw [if_neg hq,if_neg hq]
   rw [this];exact hE.el j e1 hj
theorem I0 {H:ay} {z:Nat} {es es':List TV} {id g b len cap:Nat} {ex:Bool} (hs:qe H z es (.ref id g b z len cap ex)) {i off sz:Nat} {t:TV} {as:List AV} {xs:List TV} {A:aY} (hp:kf es i off sz t=some es') (hx:aU A t [] as xs) :
  as.length=sz/\∃cells cells',H.get id=some (.row g cells)/\cO cells (b+i*z+off) as=some cells'/\qe (H.put (some (.row g cells')) id) z es' (.ref id g b z len cap ex):=by
 obtain⟨hz,hs⟩:=hs;rcases hs with ⟨_,e|e⟩|⟨id',g',b',cells,e,hH,hb,hE⟩
 ·cases e
 ·cases e
 ·cases e;unfold kf at hp;split at hp
  ·cases hp
  rename_i e1 he1;split at hp
  ·rename_i e1' hp';cases hp;have hlt:i < es.length:=(PV.1 he1).1;obtain⟨ts,ht1,ht2⟩:=dK.1 (hE.el i e1 he1);have hce:aU A e1 [] (((cells.drop b).drop (i*z)).take z) ts:=⟨ht1,ht2.1,fun j w hj=>by simp [bq] at hj,fun j t x ht hx=>⟨ht2.2 j t x ht hx,fG hE.flat _ _ x (P4 hx)⟩⟩;obtain⟨hn,ce',us,h3,h4,h5⟩:=e8 hce hx hp';obtain⟨hov,hat⟩:=dG h3;obtain⟨hb1,_⟩:=cP h3;have hl:=hE.len;rw [P9] at hl;have h9:=bO (z:=z) hlt;have hz':(((cells.drop b).drop (i*z)).take z).length=z:=by simp only [P8,P9];omega
   rw [hz'] at hb1 hov;have qxD:cO cells (b+i*z+off) as=some (cells.take (b+i*z+off)++as++cells.drop (b+i*z+off+as.length)):=by rw [fN,if_pos (by omega)]
   obtain⟨hl2,qza⟩:=dG qxD;refine⟨hn,cells,_,hH,qxD,hz,.inr ⟨id,g,b,_,by simp only [Qb],by rw [Map.au,if_pos rfl],by omega,?_⟩⟩;refine Eb (ce':=ce') hE he1 (dK.2 ⟨us,h4.cells,h4.len,fun j t x ht hx=>((h4.at_ j t x ht hx):Can t x/\_).1⟩) hov (fun x hx=>?_) (by simp only [P9];omega) (fun j=>?_)
   ·obtain⟨q,hq⟩:=List.getElem?_of_mem hx;have hlq:q < us.length:=by rw [h4.len];exact(PV.1 hq).1
    exact((h4.at_ q _ x (PU hlq) hq):Can _ x/\_).2
   ·rw [P3,qza,P3];by_cases hj:i*z<=j/\j < i*z+z
    ·rw [if_pos hj,hat,gj,P3];by_cases hq:off<=j - i*z/\j - i*z < off+as.length
     ·rw [if_pos hq,if_pos (by omega)];congr 1;omega
     ·rw [if_neg hq,if_neg (by omega),if_pos (by omega)];congr 1;omega
    ·rw [if_neg hj,if_neg (by omega)]
  ·cases hp
theorem J1 {A:aY} {H:ay} {K s io iz ver:Nat} {hole:Option Nat} {es es':List TV} {b:Nat} {cells as:List AV} {xs:List TV} {i off sz:Nat} {t:TV} (hio:io < s) (hb:b<=cells.length) (hG:B0 A H K s io iz ver hole es (cells.drop b)) (hap:mY off sz io=true)
  (hp:kf es i off sz t=some es') (hx:aU A t [] as xs):as.length=sz/\es'.length=es.length/\∃cells',cO cells (b+i*s+off) as=some cells'/\b<=cells'.length/\B0 A H K s io iz ver hole es' (cells'.drop b):=by
 unfold kf at hp;split at hp
 ·cases hp
 rename_i e1 he1;split at hp;rotate_left
 ·cases hp
 rename_i e1' hp';cases hp;have hlt:i < es.length:=(PV.1 he1).1;obtain⟨ts,hce,hts⟩:=sy hG hio he1;obtain⟨hn,ce',us,h3,h4,h5⟩:=e8 hce hx hp';rw [nu] at h4;have qxi:iM off sz [(io,VV.ow K ver i)]=[(io,VV.ow K ver i)]:=by simp only [mY,Ql,Qo,Qp] at hap;simp only [iM,cond_eq_ite,Qk,Qo,Qp];rw [if_neg (by omega)]
 rw [qxi] at h4;obtain⟨hov,hat⟩:=dG h3;obtain⟨hb1,_⟩:=cP h3;have hl:=hG.len;rw [P9] at hl;have h9:=bO (z:=s) hlt;have hz':(((cells.drop b).drop (i*s)).take s).length=s:=by simp only [P8,P9];omega
 rw [hz'] at hb1 hov;have qxD:cO cells (b+i*s+off) as=some (cells.take (b+i*s+off)++as++cells.drop (b+i*s+off+as.length)):=by rw [fN,if_pos (by omega)]
 obtain⟨hl2,qza⟩:=dG qxD;have hcell:∀q,(List.drop b (cells.take (b+i*s+off)++as++cells.drop (b+i*s+off+as.length)))[q]?=if i*s<=q/\q < i*s+s then ce'[q - i*s]? else (cells.drop b)[q]?:=by
  intro q;rw [P3,qza,P3];by_cases hj:i*s<=q/\q < i*s+s
  ·rw [if_pos hj,hat,gj,P3];by_cases hq:off<=q - i*s/\q - i*s < off+as.length
   ·rw [if_pos hq,if_pos (by omega)];congr 1;omega
   ·rw [if_neg hq,if_neg (by omega),if_pos (by omega)];congr 1;omega
  ·rw [if_neg hj,if_neg (by omega)]
 refine⟨hn,by rw [Qb],_,qxD,by omega,by rw [P9,Qb];omega,fun j e he=>?_⟩;rw [List.getElem?_set] at he;by_cases hij:i=j
 ·subst hij;rw [if_pos rfl,if_pos hlt] at he;cases he;have hus:us.length=s:=by rw [h4.len];exact hov
  have qwL:∀o,o < s->(List.drop b (cells.take (b+i*s+off)++as++cells.drop (b+i*s+off+as.length)))[i*s+o]?=ce'[o]?:=fun o ho=>by rw [hcell,if_pos (by omega)];congr 1;omega
  refine⟨us,h4.cells,hus,fun o t x hne ht hxx=>?_,?_⟩
  ·have ho:o < s:=by rw [←hus];exact(PV.1 ht).1
   rw [qwL o ho] at hxx;have:=h4.at_ o t x ht hxx;rw [aZ,if_neg (Ne.symm hne)] at this;exact this
  ·obtain⟨ts0,g1,g2,g3,x,g4,g5,g6⟩:=hG.el i e1 he1;have qwW:ts0=ts:=by have:=hce.cells;rw [g1] at this;cases this;rfl
   subst qwW;obtain⟨ts1,xs1,us1,q1,q2,q3,q4,q5,q6,q7⟩:=bP hp';rw [g1] at q1;cases q1;rw [h4.cells] at q4;cases q4;have hoff:¬(off<=io/\io < off+sz):=by simp only [mY,Ql,Qo,Qp] at hap;omega
   refine⟨x,?_,g5,fun hn=>?_⟩
   ·rw [qwL io hio,hat,if_neg (by rw [hn];exact hoff),gj,if_pos hio];exact g4
   ·obtain⟨l,g7,g8⟩:=g6 hn;exact⟨l,by rw [q7,if_neg hoff];exact g7,g8⟩
 ·rw [if_neg hij] at he;obtain⟨ts0,g1,g2,g3,x,g4,g5,g6⟩:=hG.el j e he;have hne:∀o,o < s->¬(i*s<=j*s+o/\j*s+o < i*s+s):=fun o ho=>by
   rcases Nat.lt_or_gt_of_ne hij with h|h
   ·have:=bO (z:=s) h;omega
   ·have:=bO (z:=s) h;omega
  refine⟨ts0,g1,g2,fun o t y h1 h2 h3=>?_,x,?_,g5,g6⟩
  ·have ho:o < s:=by rw [←g2];exact(PV.1 h2).1
   rw [hcell,if_neg (hne o ho)] at h3;exact g3 o t y h1 h2 h3
  ·rw [hcell,if_neg (hne io hio)];exact g4
theorem B0.mono {A A':aY} {H H':ay} {K s io iz ver qjk:Nat} {hole:Option Nat} {es:List TV} {cs:List AV} (h:B0 A H K s io iz ver hole es cs) (hA:∀j x,A (.i K ver j)=some x->A' (.i K qjk j)=some x)
  (hH:∀j x id,hole≠some j->A (.i K ver j)=some x->bY x=some id->H'.get id=H.get id):B0 A' H' K s io iz qjk hole es cs:=by
 refine⟨h.len,fun j e he=>?_⟩;obtain⟨ts,g1,g2,g3,x,g4,g5,g6⟩:=h.el j e he;refine⟨ts,g1,g2,g3,x,g4,hA j x g5,fun hn=>?_⟩;obtain⟨l,g7,g8⟩:=g6 hn;exact⟨l,g7,g8.mono fun id hi=>hH j x id hn g5 hi⟩
theorem ig.GX {V:aF} {O s io iz ver v0:Nat} {hole qzX:Option Nat} {es es0:List TV} (h:V.H.get O=some (.gn O s io iz v0 qzX es0)) (hv:v0<=ver):ig V (bk V O (.gn O s io iz ver hole es)):=by
 refine⟨fun _ h=>h,fun K s' io' iz' qjk qzY es' hK=>?_⟩;simp only [bk,Map.au] at hK;split at hK
 ·cases hK;exact .inr ⟨s,io,iz,v0,qzX,es0,h,hv⟩
 ·exact .inr ⟨s',io',iz',qjk,qzY,es',hK,Qy _⟩
theorem HT {A:aY} {H H':ay} {O s io iz ver:Nat} {es es':List TV} {id g b:Nat} {cs:List AV} {i:Nat} {l l':List TV} (hG:B0 A H O s io iz ver none es cs) (hl:qb es i io=some l) (hp:kf es i io 1 (.l l')=some es') {x:AV} (hx:A (.i O ver i)=some x)
  (hs:qe H' iz l' x) (hH:∀j y id,j≠i->A (.i O ver j)=some y->bY y=some id->H'.get id=H.get id):es'.length=es.length/\B0 A H' O s io iz ver none es' cs:=by
 unfold kf at hp;split at hp
 ·cases hp
 rename_i e1 he1;split at hp;rotate_left
 ·cases hp
 rename_i e1' hp';cases hp;have hlt:i < es.length:=(PV.1 he1).1;refine⟨by rw [Qb],by rw [hG.len,Qb],fun j e he=>?_⟩;rw [List.getElem?_set] at he;by_cases hij:i=j
 ·subst hij;rw [if_pos rfl,if_pos hlt] at he;cases he;obtain⟨ts,g1,g2,g3,y,g4,g5,g6⟩:=hG.el i e1 he1;rw [hx] at g5;cases g5;obtain⟨ts1,xs1,us1,q1,q2,q3,q4,q5,q6,q7⟩:=bP hp';rw [g1] at q1;cases q1;cases q2;refine⟨us1,q4,by rw [q5,g2],fun o t z hne ht hz=>?_,x,g4,hx,fun _=>⟨l',?_,hs⟩⟩
  ·rw [q7,if_neg (by omega)] at ht;exact g3 o t z hne ht hz
  ·rw [q7,if_pos (by omega),Nat.sub_self];rfl
 ·rw [if_neg hij] at he;obtain⟨ts,g1,g2,g3,y,g4,g5,g6⟩:=hG.el j e he;refine⟨ts,g1,g2,g3,y,g4,g5,fun hn=>?_⟩;obtain⟨l2,g7,g8⟩:=g6 hn;exact⟨l2,g7,g8.mono fun id hi=>hH j y id (Ne.symm hij) g5 hi⟩
def qw (A:aY) (K ver i:Nat) (x:AV):aY
 |.s O=>A (.s O)
 |.i K' v j=>if K'=K/\v=ver+1 then (if j=i then some x else A (.i K ver j)) else A (.i K' v j)
theorem jy {A:aY} {K ver i:Nat} {x:AV} {K' v j:Nat} (h:¬(K'=K/\v=ver+1)):qw A K ver i x (.i K' v j)=A (.i K' v j):=if_neg h
theorem jz {A:aY} {K ver i:Nat} {x:AV} {j:Nat}:qw A K ver i x (.i K (ver+1) j)=if j=i then some x else A (.i K ver j):=if_pos ⟨rfl,rfl⟩
theorem wq {A:aY} {K ver i:Nat} {x:AV} {O:Nat} {o:VO} {y:AV} {id:Nat} (hne:O≠K) (hv:fV A O y o):cY (qw A K ver i x) o y id↔cY A o y id:=by
 cases o with
 |gn K' s io iz v hole es=>
  obtain⟨rfl,_⟩:=hv;have e:∀j,qw A K ver i x (.i K' v j)=A (.i K' v j):=fun j=>jy (fun h=>hne h.1)
  simp only [cY,e]
 |_=>exact Iff.rfl
theorem Ii {A:aY} {V:aF} {st:St} (hR:R A V st) {K N s io iz ver:Nat} {hole:Option Nat} {es es' l:List TV} {id g b:Nat} {cells:List AV} {i:Nat} {x:AV} (hv:V.H.get K=some (.gn K s io iz ver hole es)) (hA:A K=some (.ref id g b s es.length es.length false))
  (hH:st.H.get id=some (.row g cells)) (hb:b<=cells.length) (hG:B0 A st.H K s io iz ver hole es (cells.drop b)) (q1:0 < s) (q2:io < s) (q3:0 < iz) (hN:V.H.get N=some (.gr iz l)) (hx:A N=some x) (hNK:N≠K) (hho:hole=none\/hole=some i)
  (hp:kf es i io 1 (.l l)=some es'):∃cells',cO cells (b+i*s+io) [x]=some cells'/\R (qw A K ver i x) (bk (bx V N) K (.gn K s io iz (ver+1) none es')) ⟨st.env,st.H.put (some (.row g cells')) id,st.nx⟩/\
   Fr V A st.H st.nx (bk (bx V N) K (.gn K s io iz (ver+1) none es')) (qw A K ver i x) (st.H.put (some (.row g cells')) id) st.nx/\Ext V A (bk (bx V N) K (.gn K s io iz (ver+1) none es')) (qw A K ver i x):=by
 obtain⟨_,hv1,hv0,hv2,hv3⟩:=hR.eK K _ _ hv hA;have hol:∀j,j≠i->hole≠some j:=fun j hj he=>by rcases hho with h|h<;>rw [h] at he<;>cases he;exact hj rfl
 obtain⟨y,hy,hsN⟩:=hR.heap N _ hN;rw [hx] at hy;cases hy;have idN:∀id',bY x=some id'->cY A (.gr iz l) x id':=fun id' h=>.inl h
 have idK:cY A (.gn K s io iz ver hole es) (.ref id g b s es.length es.length false) id:=.inl rfl;have xne:∀id',bY x=some id'->id'≠id:=fun id' h he=>by subst he;exact hNK (hR.inj N K _ _ _ _ id' hN hv hx hA (idN _ h) idK)
 unfold kf at hp;split at hp
 ·cases hp
 rename_i e1 he1;split at hp;rotate_left
 ·cases hp
 rename_i e1' hp';cases hp;have hlt:i < es.length:=(PV.1 he1).1;have hl:=hG.len;rw [P9] at hl;have h9:=bO (z:=s) hlt;have qxD:cO cells (b+i*s+io) [x]=some (cells.take (b+i*s+io)++[x]++cells.drop (b+i*s+io+1)):=by rw [fN,if_pos (by simp only [P_];omega)];rfl
 obtain⟨hl2,qza⟩:=dG qxD;generalize cells.take (b+i*s+io)++[x]++cells.drop (b+i*s+io+1)=cells' at qxD hl2 qza;have hcell:∀q,(cells'.drop b)[q]?=if q=i*s+io then some x else (cells.drop b)[q]?:=by
  intro q;rw [P3,qza,P3];simp only [P_];by_cases hq:q=i*s+io
  ·subst hq;rw [if_pos rfl,if_pos (by omega),show b+(i*s+io) - (b+i*s+io)=0 by omega];rfl
  ·rw [if_neg hq,if_neg (by omega)]
 have hmono:∀n y,A n=some y->qw A K ver i x n=some y:=fun n y hn=>by
  cases n with
  |s O=>exact hn
  |i K' v j=>
   by_cases he:K'=K/\v=ver+1
   ·obtain⟨rfl,rfl⟩:=he;rw [hv1 (ver+1) j (by omega)] at hn;cases hn
   ·rw [jy he];exact hn
 have qq9:∀id',id'≠id->(st.H.put (some (.row g cells')) id).get id'=st.H.get id':=fun id' h=>by rw [Map.au,if_neg h]
 have hlen':(es.set i e1').length=es.length:=Qb;have idsNew:∀id',cY (qw A K ver i x) (.gn K s io iz (ver+1) none (es.set i e1')) (.ref id g b s es.length es.length false) id'->cY A (.gn K s io iz ver hole es) (.ref id g b s es.length es.length false) id'\/bY x=some id':=by
  rintro id' (h|⟨j,y,h1,h2,h3⟩)
  ·exact .inl (.inl h)
  ·rw [jz] at h2;split at h2
   ·cases h2;exact .inr h3
   ·rename_i hji;exact .inl (.inr ⟨j,y,hol j hji,h2,h3⟩)
 have get':∀(O':Nat) o',(bk (bx V N) K (.gn K s io iz (ver+1) none (es.set i e1'))).H.get O'=some o'->(O'=K/\o'=.gn K s io iz (ver+1) none (es.set i e1'))\/(O'≠K/\O'≠N/\V.H.get O'=some o'):=fun O' o' h=>by
  simp only [bk,Map.au] at h;split at h
  ·rename_i e;cases h;exact .inl ⟨e,rfl⟩
  ·rename_i e;obtain⟨h1,h2⟩:=dh h;exact .inr ⟨e,h1,h2⟩
 refine⟨cells',qxD,⟨fun t e he=>?_,fun O' o' ho=>?_,fun O1 O2 o1 o2 a1 a2 id' ho1 ho2 ha1 ha2 hi1 hi2=>?_,fun n hn=>?_,fun n y hn=>?_,fun id' ob hh=>?_,fun O' o' y ho hy=>?_⟩,⟨Qy _,fun id' _ hn=>?_,fun id' ⟨O',o',y,h1,h2,h3⟩=>?_⟩,⟨hmono,fun n y hn=>?_,?_⟩⟩
 ·obtain⟨a,h1,h2⟩:=hR.env t e he;exact⟨a,h1,fun hh=>(h2 hh).mono hmono⟩
 ·rcases get' O' o' ho with ⟨rfl,rfl⟩|⟨hne,qjZ,h⟩
  ·refine⟨_,hA,q1,q2,q3,.inr ⟨id,g,b,cells',by rw [hlen'],by rw [Map.au,if_pos rfl],by omega,by rw [P9,hlen'];omega,fun j e he=>?_⟩⟩;rw [List.getElem?_set] at he;by_cases hij:i=j
   ·subst hij;rw [if_pos rfl,if_pos hlt] at he;cases he;obtain⟨ts,g1,g2,g3,y,g4,g5,g6⟩:=hG.el i e1 he1;obtain⟨ts1,xs1,us1,p1,p2,p3,p4,p5,p6,p7⟩:=bP hp';rw [g1] at p1;cases p1;cases p2;refine⟨us1,p4,by rw [p5,g2],fun o t z hno ht hz=>?_,x,by rw [hcell,if_pos rfl],by rw [jz,if_pos rfl],fun _=>⟨l,?_,qe.mono (fun id' hi=>qq9 id' (xne id' hi)) (show qe st.H iz l x from hsN)⟩⟩
    ·rw [p7,if_neg (by omega)] at ht;rw [hcell,if_neg (by omega)] at hz;exact g3 o t z hno ht hz
    ·rw [p7,if_pos (by omega),Nat.sub_self];rfl
   ·rw [if_neg hij] at he;obtain⟨ts,g1,g2,g3,y,g4,g5,g6⟩:=hG.el j e he;have hne:∀o,o < s->j*s+o≠i*s+io:=fun o ho=>by
     rcases Nat.lt_or_gt_of_ne hij with h|h
     ·have:=bO (z:=s) h;omega
     ·have:=bO (z:=s) h;omega
    refine⟨ts,g1,g2,fun o t z hno ht hz=>?_,y,by rw [hcell,if_neg (hne io q2)];exact g4,by rw [jz,if_neg (Ne.symm hij)];exact g5,fun _=>?_⟩
    ·have ho:o < s:=by rw [←g2];exact(PV.1 ht).1
     rw [hcell,if_neg (hne o ho)] at hz;exact g3 o t z hno ht hz
    ·obtain⟨l2,g7,g8⟩:=g6 (hol j (Ne.symm hij));exact⟨l2,g7,g8.mono fun id' hi=>qq9 id' (fun he=>hv3 j y id' (hol j (Ne.symm hij)) g5 hi (by rw [he];rfl))⟩
  ·obtain⟨a,h1,h2⟩:=hR.heap O' o' h;refine⟨a,hmono _ _ h1,h2.mono hmono (fun id' hi=>qq9 id' (fun he=>?_))⟩;subst he;exact hne (hR.inj O' K _ _ _ _ id' h hv h1 hA hi idK)
 ·have sh:∀{O':Nat} {o':VO} {a':AV},(bk (bx V N) K (.gn K s io iz (ver+1) none (es.set i e1'))).H.get O'=some o'->A O'=some a'->cY (qw A K ver i x) o' a' id'->∃(P:Nat) (p:VO) (ap:AV),V.H.get P=some p/\A P=some ap/\cY A p ap id'/\(P=O'\/(P=N/\O'=K)):=by
   intro O' o' a' ho ha hi;rcases get' O' o' ho with ⟨rfl,rfl⟩|⟨hne,qjZ,h⟩
   ·rw [hA] at ha;cases ha;rcases idsNew _ hi with h|h
    ·exact⟨_,_,_,hv,hA,h,.inl rfl⟩
    ·exact⟨_,_,_,hN,hx,idN _ h,.inr ⟨rfl,rfl⟩⟩
   ·exact⟨O',o',a',h,ha,(wq hne (hR.eK O' _ _ h ha)).1 hi,.inl rfl⟩
  obtain⟨P1,p1,x1,r1,r2,r3,r4⟩:=sh ho1 ha1 hi1;obtain⟨P2,p2,x2,t1,t2,t3,t4⟩:=sh ho2 ha2 hi2;have hPP:=hR.inj P1 P2 _ _ _ _ id' r1 t1 r2 t2 r3 t3;have notN:∀{O':Nat} {o':VO},(bk (bx V N) K (.gn K s io iz (ver+1) none (es.set i e1'))).H.get O'=some o'->O'≠N:=fun {O' o'} h he=>by
   rcases get' O' o' h with ⟨h1,_⟩|⟨_,h1,_⟩
   ·exact hNK (he▸h1)
   ·exact h1 he
  rcases r4 with rfl|⟨rfl,rfl⟩
  ·rcases t4 with rfl|⟨rfl,rfl⟩
   ·exact hPP
   ·exact absurd hPP (notN ho1)
  ·rcases t4 with rfl|⟨h1,h2⟩
   ·exact absurd hPP.symm (notN ho2)
   ·exact h2.symm
 ·have hn':V.us.get n.base=none:=hn;have h0:=hR.used n hn';cases n with
  |s O=>exact h0
  |i K' v j=>
   rw [jy]
   ·exact h0
   ·rintro⟨rfl,rfl⟩;have:=hR.used (.s K') hn';rw [hA] at this;cases this
 ·cases n with
  |s O=>exact hR.one _ _ hn
  |i K' v j=>
   by_cases he:K'=K/\v=ver+1
   ·obtain⟨rfl,rfl⟩:=he;rw [jz] at hn;split at hn
    ·cases hn;exact hR.one _ _ hx
    ·exact hR.one _ _ hn
   ·rw [jy he] at hn;exact hR.one _ _ hn
 ·have hh':(st.H.put (some (.row g cells')) id).get id'=some ob:=hh;rw [Map.au] at hh';split at hh'
  ·rename_i e;subst e;exact hR.fresh _ _ hH
  ·exact hR.fresh _ _ hh'
 ·rcases get' O' o' ho with ⟨rfl,rfl⟩|⟨hne,qjZ,h⟩
  ·have hy':A O'=some y:=hy;rw [hA] at hy';cases hy';refine⟨rfl,fun v j hvv=>?_,fun j y hy=>?_,fun j j' y y' id' _ _ h1 h2 h3 h4=>?_,fun j y id' _ h1 h2=>?_⟩
   ·rw [jy (fun h=>by omega)];exact hv1 v j (by omega)
   ·rw [jz] at hy;split at hy
    ·rename_i e;subst e;rw [hlen'];exact hlt
    ·rw [hlen'];exact hv0 j y hy
   ·rw [jz] at h1 h2;split at h1
    ·cases h1;split at h2
     ·rename_i e1 e2;rw [e1,e2]
     ·rename_i e1 e2;exact absurd (hR.inj N O' _ _ _ _ id' hN hv hx hA (idN _ h3) (.inr ⟨j',y',hol j' e2,h2,h4⟩)) hNK
    ·split at h2
     ·cases h2;rename_i e1 e2;exact absurd (hR.inj N O' _ _ _ _ id' hN hv hx hA (idN _ h4) (.inr ⟨j,y,hol j e1,h1,h3⟩)) hNK
     ·rename_i e1 e2;exact hv2 j j' y y' id' (hol j e1) (hol j' e2) h1 h2 h3 h4
   ·rw [jz] at h1;split at h1
    ·cases h1;intro h;cases h;exact xne _ h2 rfl
    ·rename_i e1;exact hv3 j y id' (hol j e1) h1 h2
  ·have hk:=hR.eK O' o' y h hy;cases o' with
   |gn K' s' io' iz' v' qzY es2=>
    obtain⟨rfl,k1,k0,k2,k3⟩:=hk;have e:∀v j,qw A K ver i x (.i K' v j)=A (.i K' v j):=fun v j=>jy (fun h=>hne h.1)
    refine⟨rfl,fun v j hv=>by rw [e];exact k1 v j hv,fun j x=>by rw [e];exact k0 j x,fun j j' x x' id=>?_,fun j x id=>?_⟩
    ·rw [e,e];exact k2 j j' x x' id
    ·rw [e];exact k3 j x id
   |_=>trivial
 ·exact qq9 id' (fun he=>hn (he▸⟨K,_,_,hv,hA,idK⟩))
 ·left;rcases get' O' o' h1 with ⟨rfl,rfl⟩|⟨hne,qjZ,h⟩
  ·have h2':A O'=some y:=h2;rw [hA] at h2';cases h2';rcases idsNew _ h3 with h|h
   ·exact⟨O',_,_,hv,hA,h⟩
   ·exact⟨N,_,_,hN,hx,idN _ h⟩
  ·exact⟨O',o',y,h,h2,(wq hne (hR.eK O' _ _ h h2)).1 h3⟩
 ·cases n with
  |s O=>exact .inl hn
  |i K' v j=>
   by_cases he:K'=K/\v=ver+1
   ·obtain⟨rfl,rfl⟩:=he;exact .inr (.inr ⟨K',ver+1,j,s,io,iz,ver,hole,es,rfl,hv,by omega⟩)
   ·rw [jy he] at hn;exact .inl hn
 ·refine⟨fun _ h=>h,fun K2 s2 io2 iz2 v2 h2 es2 hK=>?_⟩;rcases get' K2 _ hK with ⟨rfl,e⟩|⟨_,_,h⟩
  ·cases e;exact .inr ⟨s,io,iz,ver,hole,es,hv,by omega⟩
  ·exact .inr ⟨s2,io2,iz2,v2,h2,es2,h,Qy _⟩
theorem lA {cf:eI} {sz:Nat} {a x:aH} {id gg off:Nat} {cells cells' as:List AV} (he:ev st.env a=.ptr id gg off) (hx:(ev st.env x).cells?=some as) (hn:as.length=sz)
  (hH:st.H.get id=some (.row gg cells)) (ho:cO cells off as=some cells'):fj cf (.store sz a x) (ev st.env) st.H st.nx=some (c8,st.H.put (some (.row gg cells')) id,st.nx):=by
 have hp:kind (.store sz a x)=.plan fun ρ=>iV ρ sz a x:=rfl
 simp only [fj,hp,iV,he,hx,cond_eq_ite,Qn,if_pos hn,bS,dO,cM,fH,hH,ot,if_pos,ho,om]
theorem Fq (hR:R A V st) {sz:Nat} {a x:aH} (h:dz V none a fun w=>dz V none x fun x=>gm V sz w x k):bM cf nt A V st none (.store sz a x) k:=by
 obtain⟨w,hw,h⟩:=bG (g:=none) hR trivial h;obtain⟨y,hy,hk⟩:=bG (g:=none) hR trivial h;generalize he:ev st.env a=p at hw;have done:∀(o:VO) {O:Nat} {o0:VO} {id gg off:Nat} {pa:AV} {cells cells' as:List AV},V.H.get O=some o0->A O=some pa->bY pa=some id->o0.pl=true->o.pl=true->ev st.env a=.ptr id gg off->(ev st.env x).cells?=some as->as.length=sz->
   st.H.get id=some (.row gg cells)->cO cells off as=some cells'->OR A (st.H.put (some (.row gg cells')) id) o pa->k (bk V O o)->bM cf nt A V st none (.store sz a x) k:=by
  intro o O o0 id gg off pa cells cells' as h1 h2 h3 p0 p1 h4 h5 h6 h7 h8 h9 h10;obtain⟨g1,g2⟩:=ng hR h1 h2 ((cj p0).2 h3) h9 (fun id hi=>(cj p0).2 ((cj p1).1 hi)) (fun _=>mj p1);exact⟨_,_,_,lA h4 h5 h6 h7 h8,st.env,rfl,_,A,g1,g2,Ext.xj _ (ig.set p1),h10⟩
 cases hw<;>first|(cases hk;done)|skip
 ·rename_i O off id hO;simp only [gm] at hk;split at hk
  ·rename_i v ovs hv;split at hk
   ·rename_i t o hs;obtain⟨u,hp,hk⟩:=hk;obtain⟨z,hz,id',cs,ts,rfl,hH,hc⟩:=hR.heap O _ hv;rw [hO] at hz;cases hz;obtain⟨_,xs,_,_,hxs,_⟩:=bP hp;obtain⟨as,h1,h2⟩:=fP hR.one hy hs hxs;obtain⟨hn,cs',us,h3,h4,h5⟩:=e8 hc h2 hp;exact done (.ob u (nu off o (iM off sz ovs))) hv hO rfl rfl rfl he h1 hn hH h3 ⟨_,cs',us,rfl,by rw [Map.au,if_pos rfl],h4⟩ hk
   ·cases hk
  ·cases hk
 ·rename_i O off id hO;simp only [gm] at hk;split at hk
  ·rename_i v ovs hv;split at hk;rotate_left
   ·cases hk
   split at hk
   ·rename_i t;obtain⟨u,hp,hk⟩:=hk;obtain⟨z,hz,id',cs,ts,rfl,hH,hc⟩:=hR.heap O _ hv;rw [hO] at hz;cases hz;obtain⟨_,xs,_,_,hxs,_⟩:=bP hp;obtain⟨as,h1,h2⟩:=fP hR.one hy rfl hxs;obtain⟨hn,cs',us,h3,h4,h5⟩:=e8 hc h2 hp;exact done (.ob u []) hv hO rfl rfl rfl he h1 hn hH h3 ⟨_,cs',us,rfl,by rw [Map.au,if_pos rfl],h4⟩ hk
   ·cases hk
  ·cases hk
 ·rename_i O i off id gg b z len cap ex hO;simp only [gm] at hk;split at hk
  ·rename_i z' es hv;split at hk
   ·rename_i t;obtain⟨es',hp,hk⟩:=hk;obtain⟨y',hy',hs⟩:=hR.heap O _ hv;rw [hO] at hy';cases hy';obtain⟨hz,hs⟩:=hs;rcases hs with ⟨_,e|e⟩|⟨id',g',b',cells,e,hH,hb,hE⟩
    ·cases e
    ·cases e
    ·cases e;unfold kf at hp;split at hp
     ·cases hp
     rename_i e1 he1;split at hp
     ·rename_i e1' hp';cases hp;have hlt:i < es.length:=(PV.1 he1).1;obtain⟨ts,ht1,ht2⟩:=dK.1 (hE.el i e1 he1);obtain⟨_,xs,_,_,hxs,_⟩:=bP hp';obtain⟨as,h1,h2⟩:=fP hR.one hy rfl hxs;have hce:aU A e1 [] (((cells.drop b).drop (i*z)).take z) ts:=⟨ht1,ht2.1,fun j w hj=>by simp [bq] at hj,fun j t x ht hx=>⟨ht2.2 j t x ht hx,fG hE.flat _ _ x (P4 hx)⟩⟩;obtain⟨hn,ce',us,h3,h4,h5⟩:=e8 hce h2 hp';obtain⟨hov,hat⟩:=dG h3;obtain⟨hb1,_⟩:=cP h3;have hl:=hE.len;rw [P9] at hl;have h9:=bO (z:=z) hlt;have hz':(((cells.drop b).drop (i*z)).take z).length=z:=by simp only [P8,P9];omega
      rw [hz'] at hb1 hov;have qxD:cO cells (b+i*z+off) as=some (cells.take (b+i*z+off)++as++cells.drop (b+i*z+off+as.length)):=by rw [fN,if_pos (by omega)]
      obtain⟨hl2,qza⟩:=dG qxD;refine done (.gr z (es.set i e1')) hv hO rfl rfl rfl he h1 hn hH qxD ⟨hz,.inr ⟨id,gg,b,_,by simp only [Qb],by rw [Map.au,if_pos rfl],by omega,?_⟩⟩ hk;refine Eb (ce':=ce') hE he1 (dK.2 ⟨us,h4.cells,h4.len,fun j t x ht hx=>((h4.at_ j t x ht hx):Can t x/\_).1⟩) hov (fun x hx=>?_) (by simp only [P9];omega) (fun j=>?_)
      ·obtain⟨q,hq⟩:=List.getElem?_of_mem hx;have hlq:q < us.length:=by rw [h4.len];exact(PV.1 hq).1
       exact((h4.at_ q _ x (PU hlq) hq):Can _ x/\_).2
      ·rw [P3,qza,P3];by_cases hj:i*z<=j/\j < i*z+z
       ·rw [if_pos hj,hat,gj,P3];by_cases hq:off<=j - i*z/\j - i*z < off+as.length
        ·rw [if_pos hq,if_pos (by omega)];congr 1;omega
        ·rw [if_neg hq,if_neg (by omega),if_pos (by omega)];congr 1;omega
       ·rw [if_neg hj,if_neg (by omega)]
     ·cases hp
   ·cases hk
  ·rename_i K s io iz ver hole es hv;split at hk;rotate_left
   ·cases hk
   rename_i hK;rw [Qn] at hK;subst hK;obtain⟨z',hz',hs⟩:=hR.heap K _ hv;rw [hO] at hz';cases hz';obtain⟨rfl,rfl,rfl,rfl,p1,p2,p3,cells,hH,hb,hG⟩:=D0 hs;obtain⟨_,hv1,hv0,hv2,hv3⟩:=hR.eK K _ _ hv hO;split at hk
   ·rename_i t;split at hk;rotate_left
    ·cases hk
    rename_i hap;obtain⟨es',hp,hk⟩:=hk;have hp0:=hp;unfold kf at hp0;split at hp0
    ·cases hp0
    split at hp0;rotate_left
    ·cases hp0
    rename_i hp';obtain⟨_,xs,_,_,hxs,_⟩:=bP hp';obtain⟨as,h1,h2⟩:=fP hR.one hy rfl hxs;obtain⟨hn,hlen,cells',h3,hb',hG'⟩:=J1 p2 hb hG hap hp h2;have hid:cY A (.gn K z io iz ver hole es) (.ref id gg b z es.length es.length false) id:=.inl rfl;obtain⟨g1,g2⟩:=ng (o:=.gn K z io iz ver hole es') (ob:=.row gg cells') hR hv hO hid ⟨p1,p2,p3,.inr ⟨id,gg,b,cells',by rw [hlen],by rw [Map.au,if_pos rfl],hb',hG'.mono (fun j x h=>h) (fun j x id' hn' hx hi=>by rw [Map.au,if_neg];rintro rfl;exact hv3 j x id' hn' hx hi rfl)⟩⟩ (fun id hi=>hi) (fun hvk=>⟨rfl,hv1,fun j x hx=>by rw [hlen];exact hv0 j x hx,hv2,hv3⟩)
    exact⟨_,_,_,lA he h1 hn hH h3,st.env,rfl,_,A,g1,g2,Ext.xj _ (ig.GX hv (Qy _)),hk⟩
   ·rename_i N;split at hk;rotate_left
    ·cases hk
    rename_i hsz;simp only [Qk,Qn,Qm] at hsz;obtain⟨rfl,rfl,hNK⟩:=hsz;have hNK:N≠K:=by rintro rfl;simp at hNK
    split at hk;rotate_left
    ·cases hk
    rename_i z' l hN;split at hk;rotate_left
    ·cases hk
    rename_i hz';rw [Qn] at hz';subst hz';have hho:(hole=none\/hole=some i)/\∃es',kf es i off 1 (.l l)=some es'/\k (bk (bx V N) K (.gn K z off z' (ver+1) none es')):=by
     unfold GA at hk;split at hk
     ·exact⟨.inl rfl,hk⟩
     ·obtain⟨rfl,hk⟩:=hk;exact⟨.inr rfl,hk⟩
    clear hk;obtain⟨hho,es',hp,hk⟩:=hho;have hyN:A N=some (ev st.env x):=by cases hy;assumption
    obtain⟨cells',h3,g1,g2,g3⟩:=Ii hR hv hO hH hb hG p1 p2 p3 hN hyN hNK hho hp;have hone:=hR.one _ _ hyN;have hcs:(ev st.env x).cells?=some [ev st.env x]:=by cases hq:ev st.env x<;>rw [hq] at hone<;>first|rfl|cases hone
    exact⟨_,_,_,lA he hcs rfl hH h3,st.env,rfl,_,_,g1,g2,g3,hk⟩
   ·cases hk
  ·cases hk
 ·rename_i O v i j off id gg b z len cap ex hA;obtain⟨s,io,iz,es,ho,hk⟩:=cx hk;split at hk;rotate_left
  ·cases hk
  rename_i t;obtain⟨l,hl,l',hp,es',hp2,hk⟩:=hk;obtain⟨a0,ha0,hs⟩:=hR.heap O _ ho;obtain⟨_,hv1,hv0,hv2,hv3⟩:=hR.eK O _ _ ho ha0;have hsl:=oM hs hl (by simp) hA;obtain rfl:=Cj hsl;have hp0:=hp;unfold kf at hp0;split at hp0
  ·cases hp0
  split at hp0;rotate_left
  ·cases hp0
  rename_i hp';obtain⟨_,xs,_,_,hxs,_⟩:=bP hp';obtain⟨as,h1,h2⟩:=fP hR.one hy rfl hxs;obtain⟨hn,cells,cells',hH,h3,qzp⟩:=I0 hsl hp h2;have hid:cY A (.gn O s io z v none es) a0 id:=.inr ⟨i,_,by simp,hA,rfl⟩;have hne:∀q y id',q≠i->A (.i O v q)=some y->bY y=some id'->(st.H.put (some (.row gg cells')) id).get id'=st.H.get id':=fun q y id' hq hqy hi=>by rw [Map.au,if_neg];rintro rfl;exact hq (hv2 q i y _ id' (by simp) (by simp) hqy hA hi rfl)
  obtain⟨q1,q2,q3,hs⟩:=hs;rcases hs with ⟨rfl,_⟩|⟨id0,g0,b0,qjh,rfl,hH0,hb0,hG⟩
  ·obtain⟨e,he',_⟩:=xI hl;simp at he'
  ·obtain⟨hlen,hG'⟩:=HT (id:=id) (g:=gg) (b:=b) hG hl hp2 hA qzp hne;obtain⟨g1,g2⟩:=ng (o:=.gn O s io z v none es') (ob:=.row gg cells') hR ho ha0 hid ⟨q1,q2,q3,.inr ⟨id0,g0,b0,qjh,by rw [hlen],by
     rw [Map.au,if_neg]
     ·exact hH0
     ·rintro rfl;exact hv3 i _ _ (by simp) hA rfl rfl,hb0,hG'⟩⟩ (fun id hi=>hi) (fun hvk=>⟨rfl,hv1,fun j x hx=>by rw [hlen];exact hv0 j x hx,hv2,hv3⟩)
   exact⟨_,_,_,lA he h1 hn hH h3,st.env,rfl,_,A,g1,g2,Ext.xj _ (ig.GX ho (Qy _)),hk⟩
end
end Go.Ax.V
namespace Go.Ax.V
section
variable {prog:Map aq} {cf:eI} {nt:Nat} {A:aY} {V:aF} {st:St} {d:Option Nat} {g:G} {k:aF->Prop}
theorem kN {a:AV} (h:a.flat=true) (d:Nat) (H:ay):bt (d+1) H a=[]:=by cases a<;>first|rfl|cases h
theorem uy {cs:List AV} (h:∀x∈cs,AV.flat x=true) (d:Nat) (H:ay):cs.flatMap (bt (d+1) H)=[]:=by rw [List.flatMap_eq_nil_iff];exact fun x hx=>kN (h x hx) d H
theorem sw {a:AV} (h:a.eN=true) (d:Nat) (H:ay):bt (d+2) H a=[]:=by
 rcases tU h with h|⟨cs,rfl,h'⟩
 ·exact kN h (d+1) H
 ·rw [uE,uy h']
theorem lJ {a:AV} (h:a.plain=true) (d:Nat) (H:ay):bt (d+3) H a=[]:=by
 rcases wY h with h|⟨cs,rfl,h'⟩
 ·exact sw h (d+1) H
 ·rw [uz,List.flatMap_eq_nil_iff];exact fun x hx=>sw (h' x hx) d H
theorem DW {H:ay} {sz:Nat} {es:List TV} {a:AV} (h:qe H sz es a) (d:Nat):∀id∈bt (d+2) H a,bY a=some id:=by
 obtain⟨hz,h⟩:=h;rcases h with ⟨rfl,rfl|rfl⟩|⟨id,g,b,cells,rfl,hH,hb,he⟩
 ·intro id hi;cases hi
 ·intro id hi;cases hi
 ·intro id' hi;have hl:cells.length=b+es.length*sz:=by have:=he.len;rw [P9] at this;omega
  have hc:cut cells b (Nat.mul es.length sz)=some (cells.drop b):=by rw [cJ,if_pos (by show b+es.length*sz<=_;omega),Qu];rw [P9];show _<=es.length*sz;omega
  rw [oL,hH] at hi;simp only [hc,uy he.flat] at hi;simp at hi;subst hi;rfl
structure Sub (V V':aF):Prop where
 env:V'.env=V.env
 us:V'.us=V.us
 H:∀O o,V'.H.get O=some o->V.H.get O=some o
theorem Sub.refl (V:aF):Sub V V:=⟨rfl,rfl,fun _ _ h=>h⟩
theorem Sub.trans {V V1 V2:aF} (h:Sub V V1) (h':Sub V1 V2):Sub V V2:=⟨h'.env.trans h.env,h'.us.trans h.us,fun O o hh=>h.H O o (h'.H O o hh)⟩
theorem Sub.own {V V':aF} (h:Sub V V') {A:aY} {id:Nat} (ho:b8 V' A id):b8 V A id:=let ⟨O,o,a,h1,h2,h3⟩:=ho;⟨O,o,a,h.H _ _ h1,h2,h3⟩
theorem Sub.r {V V':aF} (h:Sub V V') {A:aY} {st:St} (hR:R A V st):R A V' st:=hR.sub h.env h.us h.H
theorem Sub.ev {V V':aF} (h:Sub V V'):ig V V':=ig.IA h.us h.H
theorem Ext.sub {V V1 V':aF} {A A':aY} (h:Ext V1 A V' A') (hs:Sub V V1):Ext V A V' A':=(Ext.xj A hs.ev).trans h
theorem bw (V:aF) (O:Nat):Sub V (bx V O):=⟨rfl,rfl,fun _ _ h=>(dh h).2⟩
theorem mG (V:aF) (w:VV):Sub V (jT V w):=by cases w<;>first|exact bw V _|exact Sub.refl V
theorem iw:∀(l:List (Nat×VV)) (V:aF),Sub V (jU V l)
 |[],V=>Sub.refl V
 |(_,w)::r,V=>(mG V w).trans (iw r _)
theorem cX {V:aF} {A:aY} {st:St} (hR:R A V st) {O:Nat} {o:VO} {a:AV} {id:Nat} (hV:V.H.get O=some o) (hA:A O=some a) (hi:cY A o a id):¬b8 (bx V O) A id:=by rintro⟨O',o',a',h1,h2,h3⟩;obtain⟨hne,h1'⟩:=dh h1;exact hne (hR.inj O' O _ _ a' a id h1' hV h2 hA h3 hi)
theorem gJ {j:Nat} {w:VV}:∀{l:List (Nat×VV)},bq j l=some w->(j,w)∈l
 |[],h=>by cases h
 |(i,w')::r,h=>by
  rw [aZ] at h;split at h
  ·rename_i e;subst e;cases h;exact Qc
  ·exact Qd _ (gJ h)
theorem xO:∀{l:List (Nat×VV)} {V:aF} {O:Nat} {j:Nat},(j,VV.sl O)∈l->(jU V l).H.get O=none
 |(i,w)::r,V,O,j,h=>by
  have keep:∀{V:aF},V.H.get O=none->(jU V r).H.get O=none:=fun {V} hn=>by
   cases hh:(jU V r).H.get O with
   |none=>rfl
   |some o=>have:=(iw r V).H O o hh;rw [hn] at this;cases this
  rcases Qf.1 h with h|h
  ·cases h;exact keep (by show (V.H.put none O).get O=none;rw [Map.au,if_pos rfl])
  ·exact xO (l:=r) (V:=jT V w) h
theorem DZ {V V':aF} {A:aY} {st:St} (hR:R A V st) (hs:Sub V V') {O:Nat} {o:VO} {a:AV} {id:Nat} (hV:V.H.get O=some o) (hA:A O=some a) (hi:cY A o a id) (hg:V'.H.get O=none):¬b8 V' A id:=by rintro⟨O',o',a',h1,h2,h3⟩;have:=hR.inj O' O _ _ a' a id (hs.H _ _ h1) hV h2 hA h3 hi;subst this;rw [hg] at h1;cases h1
def G8 (fz:Bool) (st:St) (x:aH):AV:=match fz with
 |true=>mR st.H (ev st.env) x
 |false=>ev st.env x
theorem qo {st:St} {x:aH} {a':AV} (h:aP deep st.H (ev st.env x)=some a'):mR st.H (ev st.env) x=a':=by simp only [mR,h]
theorem jE {n:Nat} {t:TV} (h:eo n t):∃l,bH t=some l/\l.length=n:=by
 unfold eo at h;split at h
 ·rename_i l hl;exact⟨l,hl,h⟩
 ·cases h
def Whole (o:VO):Prop:=(∃z es,o=.gr z es)\/∃K s io iz ver es,o=.gn K s io iz ver none es
theorem u_ {V:aF} {O:Nat} {k:List TV->Prop} (h:pW V (.sl O) k):∃o,V.H.get O=some o/\Whole o/\∃es,k es/\(∀{A:aY} {H:ay} {a:AV} (d:Nat),OR A H o a->∃a',aP (d+3) H a=some a'/\Can (.l es) a'/\a'.flat=true/\(a.plain=true->a'=a)):=by
 simp only [pW] at h;split at h
 ·rename_i z es ho;exact⟨_,ho,.inl ⟨z,es,rfl⟩,es,h,fun d hor=>let ⟨a',h1,h2,h3,h4,_⟩:=u9 hor (d+1);⟨a',h1,h2,h3,h4⟩⟩
 ·rename_i K s io iz ver es ho;exact⟨_,ho,.inr ⟨_,_,_,_,_,_,rfl⟩,es,h,fun d hor=>D1 hor d⟩
 ·cases h
theorem lI {A:aY} {H:ay} {o:VO} {a:AV} (hw:Whole o) (h:OR A H o a) (d:Nat):∀id∈bt (d+3) H a,cY A o a id:=by
 rcases hw with ⟨z,es,rfl⟩|⟨K,s,io,iz,ver,es,rfl⟩
 ·exact fun id hi=>.inl (DW h (d+1) id hi)
 ·obtain⟨hs,hio,hiz,h⟩:=h;rcases h with ⟨rfl,rfl|rfl⟩|⟨id,g,b,cells,rfl,hH,hb,he⟩
  ·intro id hi;cases hi
  ·intro id hi;cases hi
  ·intro id' hi;have hl:cells.length=b+es.length*s:=by have:=he.len;rw [P9] at this;omega
   have hc:cut cells b (Nat.mul es.length s)=some (cells.drop b):=by rw [cJ,if_pos (by show b+es.length*s<=_;omega),Qu];rw [P9];show _<=es.length*s;omega
   rw [oL,hH] at hi;simp only [hc] at hi;rcases Qf.1 hi with rfl|hi
   ·exact .inl rfl
   obtain⟨x,hx,hi⟩:=List.mem_flatMap.1 hi;obtain⟨q,hq⟩:=List.getElem?_of_mem hx;have hlt:q < es.length*s:=by have:=(PV.1 hq).1;rw [he.len] at this;exact this
   have hj:q / s < es.length:=(Nat.div_lt_iff_lt_mul hs).2 hlt;have hqe:q=q / s*s+q % s:=by rw [Nat.mul_comm];exact(Nat.div_add_mod q s).symm
   obtain⟨ts,g1,g2,g3,x',g4,g5,g6⟩:=he.el (q / s) _ (PU hj);have ho:q % s < ts.length:=by rw [g2];exact Nat.mod_lt _ hs
   by_cases hoo:q % s=io
   ·obtain⟨l,g7,g8⟩:=g6 (by simp);rw [hqe,hoo,g4] at hq;cases hq;exact .inr ⟨q / s,x,by simp,g5,DW g8 d id' hi⟩
   ·obtain⟨p1,p2⟩:=g3 (q % s) _ x hoo (PU ho) (by rw [←hqe];exact hq);have hh:bt (d+2) H x=[]:=kN p2 (d+1) H;rw [hh] at hi;cases hi
theorem mo {V:aF}:∀{l:List (Nat×VV)} {v:TV} {k:TV->Prop},tn V l v k->∀j O,(j,VV.sl O)∈l->∃o,V.H.get O=some o/\Whole o
 |[],v,k,h,j,O,hm=>by cases hm
 |(off,w)::r,v,k,h,j,O,hm=>by
  have ex:∀{l:List (Nat×VV)} {v:TV} {k:TV->Prop},tn V l v k->∃u,k u:=by
   intro l
   induction l with
   |nil=>intro v k h;exact⟨v,h⟩
   |cons p l ih=>intro v k h;obtain⟨off,w⟩:=p;obtain⟨u,hu⟩:=ih h;obtain⟨es,u',_,hk⟩:=m_ hu;exact⟨u',hk⟩
  rcases Qf.1 hm with hm|hm
  ·cases hm;obtain⟨u,hu⟩:∃u,pW V (.sl O) (fun es=>∃u',dS u off 1 (.l es)=some u'/\k u'):=ex (l:=r) h;obtain⟨o,h1,h2,_⟩:=u_ hu;exact⟨o,h1,h2⟩
  ·exact mo (l:=r) h j O hm
theorem rU:∀{l:List (Nat×VV)},FA l=true->∀j O v i,(j,VV.ow O v i) ∉ l
 |[],h,j,O,v,i,hm=>by cases hm
 |(j',w)::r,h,j,O,v,i,hm=>by
  rcases Qf.1 hm with h1|h1
  ·cases h1;cases h
  ·clear hm;cases w<;>first|(cases h;done)|exact rU (l:=r) h j O v i h1
structure Lm (A:aY) (st:St) (fz:Bool) (sz:Nat) (V:aF) (j:Nat) (parts:List (Nat×Nat×aH)) (ts:List TV) (V':aF):Prop where
 sub:Sub V V'
 len:ts.length=parts.length
 fill:∀cells:List AV,(j+parts.length)*sz<=cells.length->∃cells',fill (G8 fz st) parts cells=some cells'/\cells'.length=cells.length/\(∀q,q < j*sz->cells'[q]?=cells[q]?)/\
  (∀q,(j+parts.length)*sz<=q->cells'[q]?=cells[q]?)/\(∀q x,j*sz<=q->q < (j+parts.length)*sz->cells'[q]?=some x->x.flat=true)/\∀i t,ts[i]?=some t->ld t ((cells'.drop ((j+i)*sz)).take sz)
 b6:fz=true->∃l,cw (aP deep st.H) (parts.map fun p=>ev st.env p.2.2)=some l
 ids:fz=true->∀id∈(parts.map fun p=>ev st.env p.2.2).flatMap (bt deep st.H),b8 V A id/\¬b8 V' A id
theorem sL {fz:Bool} {sz j off n:Nat} {x:aH} {r:List (Nat×Nat×aH)} {V V1 V':aF} {t:TV} {ts:List TV} {a':AV} {l:List TV} {as:List AV} (hoff:off=j*sz) (hn:n=sz)
  (qjY:G8 fz st x=a') (hc:bH t=some l) (hl:l.length=n) (has:a'.cells?=some as) (hca:BR l as) (hs:Sub V V1) (him:fz=true->aP deep st.H (ev st.env x)=some a')
  (hid:fz=true->∀id∈bt deep st.H (ev st.env x),b8 V A id/\¬b8 V1 A id) (h:Lm A st fz sz V1 (j+1) r ts V'):Lm A st fz sz V j ((off,n,x)::r) (t::ts) V':=by
 subst hoff;subst hn;refine⟨hs.trans h.sub,by simp [h.len],fun cells hcl=>?_,fun hf=>?_,fun hf id qxu=>?_⟩
 ·rw [Qa] at hcl;have hal:as.length=n:=by rw [←hca.1.1];exact hl
  have hj1:(j+1)*n=j*n+n:=by rw [Nat.add_mul,Nat.one_mul]
  have hj2:(j+1+r.length)*n=(j+(r.length+1))*n:=by congr 1;omega
  have hle:(j+1)*n<=(j+(r.length+1))*n:=Nat.mul_le_mul_right n (by omega);have hov:cO cells (j*n) as=some (cells.take (j*n)++as++cells.drop (j*n+as.length)):=by rw [fN,if_pos (by omega)]
  obtain⟨ho1,ho2⟩:=dG hov;obtain⟨cells',g1,g2,g3,g4,gf,g5⟩:=h.fill _ (by rw [ho1];omega);refine⟨cells',?_,by rw [g2,ho1],fun q hq=>?_,fun q hq=>?_,fun q y hq1 hq2 hy=>?_,fun i u hu=>?_⟩
  ·rw [jO];simp only [qjY,has,cond_eq_ite,Qn,if_pos hal,hov,g1]
  ·rw [g3 q (by omega),ho2,if_neg (by omega)]
  ·rw [Qa] at hq;rw [g4 q (by omega),ho2,if_neg (by omega)]
  ·rw [Qa] at hq2;by_cases hq:q < (j+1)*n
   ·rw [g3 q hq,ho2,if_pos (by omega)] at hy;exact hca.2 y (P4 hy)
   ·exact gf q y (by omega) (by omega) hy
  ·cases i with
   |zero=>
    simp at hu;subst hu;have:(cells'.drop (j*n)).take n=as:=by
     apply List.ext_getElem?;intro q;rw [gj];by_cases hq:q < n
     ·rw [if_pos hq,g3 _ (by omega),ho2,if_pos (by omega)];congr 1;omega
     ·rw [if_neg hq];exact(List.getElem?_eq_none_iff.2 (by omega)).symm
    rw [Nat.add_zero,this];exact dK.2 ⟨l,hc,hca.1⟩
   |succ i=>have:=g5 i u (by simpa using hu);rwa [show j+1+i=j+(i+1) by omega] at this
 ·obtain⟨l',hl'⟩:=h.b6 hf;exact⟨a'::l',by rw [List.map_cons,b7];simp only [him hf,hl']⟩
 ·rw [List.map_cons,List.flatMap_cons,Qg] at qxu;rcases qxu with hi|hi
  ·obtain⟨h1,h2⟩:=hid hf id hi;exact⟨h1,fun ho=>h2 (h.sub.own ho)⟩
  ·obtain⟨h1,h2⟩:=h.ids hf id hi;exact⟨hs.own h1,h2⟩
theorem gW {fz:Bool} {sz:Nat}:∀(parts:List (Nat×Nat×aH)) (j:Nat) (V:aF) (k:List TV->aF->Prop),R A V st->gX V none fz sz j parts k->∃ts V',k ts V'/\Lm A st fz sz V j parts ts V'
 |[],j,V,k,hR,hk=>⟨[],V,hk,⟨Sub.refl V,rfl,fun cells _=>⟨cells,rfl,rfl,fun _ _=>rfl,fun _ _=>rfl,fun q x h1 h2=>by simp at h2;omega,fun i t hi=>by simp at hi⟩,fun _=>⟨[],rfl⟩,fun _ id hi=>by simp at hi⟩⟩
 |(off,n,x)::r,j,V,k,hR,hk=>by
  obtain⟨h1,hk⟩:=hk;rw [Qk,Qn,Qn] at h1;obtain⟨hoff,hn⟩:=h1;obtain⟨w,hw,hq⟩:=bG (g:=none) hR trivial hk;clear hk;have tree:∀{t:TV} {k':List TV->aF->Prop},Can t (ev st.env x)->eo n t->gX V none fz sz (j+1) r k'->(∀ts V',k' ts V'->k (t::ts) V')->∃ts V',k ts V'/\Lm A st fz sz V j ((off,n,x)::r) ts V':=by
   intro t k' hc hs hk hkk;obtain⟨l,hl1,hl2⟩:=jE hs;obtain⟨as,h1,h2⟩:=oY hc hl1;obtain⟨ts,V',g1,g2⟩:=gW r (j+1) V k' hR hk;have him:aP deep st.H (ev st.env x)=some (ev st.env x):=gu (fK hc) 27 _;refine⟨t::ts,V',hkk _ _ g1,sL hoff hn ?_ hl1 hl2 h1 h2 (Sub.refl V) (fun _=>him) (fun _ id hi=>?_) g2⟩
   ·cases fz with
    |true=>exact qo him
    |false=>rfl
   ·have hh:bt deep st.H (ev st.env x)=[]:=lJ (fK hc) 27 _;rw [hh] at hi;cases hi
  generalize he:ev st.env x=a at hw;cases hw with
  |tr hc=>exact tree (he▸hc) hq.1 hq.2 (fun _ _ h=>h)
  |bT=>exact tree (he▸Can.nil) (by rw [hq.1];rfl) hq.2 (fun _ _ h=>h)
  |jL=>exact tree (he▸fl) (by rw [hq.1];rfl) hq.2 (fun _ _ h=>h)
  |@sl O _ hO=>obtain⟨rfl,rfl,hk⟩:=hq;obtain⟨ob,ho,hwh,es,hk,him⟩:=u_ hk;obtain⟨y,hy,hs⟩:=hR.heap O _ ho;rw [hO] at hy;cases hy;obtain⟨a',g1,g2,g3,g4⟩:=him 27 hs;have hsub:Sub V (jT V (.sl O)):=mG V _;obtain⟨ts,V',g6,g7⟩:=gW r (j+1) _ _ (hsub.r hR) hk;obtain⟨as,p1,p2⟩:=oY (t:=.l es) g2 rfl;refine⟨_,V',g6,sL hoff hn (qo (by rw [he];exact g1)) rfl rfl p1 p2 hsub (fun _=>by rw [he];exact g1) (fun _ id hi=>?_) g7⟩;rw [he] at hi;have hid:=lI hwh hs 27 id hi;exact⟨⟨O,_,a,ho,hO,hid⟩,cX hR ho hO hid⟩
  |@st t o cs tl hv hc=>
   obtain⟨hfz,hk⟩:=hq;rw [Qk] at hfz;obtain⟨rfl,qzZ⟩:=hfz;have qxI:=mo hk;obtain⟨u,us,cs',h1,h2,h3,⟨hs,hk⟩,h5,h6⟩:=oX hR hc hk 26;obtain⟨l',rfl⟩:=h5 _ hv;cases h2;have hsub:Sub V (jU V o):=iw o V;obtain⟨ts,V',g6,g7⟩:=gW r (j+1) _ _ (hsub.r hR) hk;have him:aP deep st.H (ev st.env x)=some (.agg cs'):=by rw [he];show aP (29+1) _ _=_;rw [eV,h1]
   refine⟨_,V',g6,sL hoff hn (qo him) rfl hs rfl h3 hsub (fun _=>him) (fun _ id hi=>?_) g7⟩;rw [he] at hi;have hi':id∈cs.flatMap (bt 29 st.H):=hi;obtain⟨y,hy,hi'⟩:=List.mem_flatMap.1 hi';obtain⟨q,hq⟩:=List.getElem?_of_mem hy;have hlt:q < tl.length:=by rw [hc.len];exact(PV.1 hq).1
   have hat:=hc.at_ q _ y (PU hlt) hq;cases ho:bq q o with
   |none=>rw [ho] at hat;have hh:bt 29 st.H y=[]:=kN hat.2 28 _;rw [hh] at hi';cases hi'
   |some w=>
    rw [ho] at hat;cases w<;>first|(exact absurd hat (by intro hh;exact hh))|skip
    ·rcases hat with e|e<;>(rw [e] at hi';cases hi')
    ·rename_i O;have hO:A O=some y:=hat;obtain⟨ob,hO',hwh⟩:=qxI q O (gJ ho);obtain⟨y',hy',hs'⟩:=hR.heap O _ hO';rw [hO] at hy';cases hy';have qwI:=lI hwh hs' 26 id hi';exact⟨⟨O,_,y,hO',hO,qwI⟩,DZ hR hsub hO' hO qwI (xO (gJ ho))⟩
    ·exact absurd (gJ ho) (rU qzZ _ _ _ _)
  |_=>cases hq
end
end Go.Ax.V
namespace Go.Ax.V
section
variable {prog:Map aq} {cf:eI} {nt:Nat} {A:aY} {V:aF} {st:St} {d:Option Nat} {g:G} {k:aF->Prop}
theorem cV {n:Nat} {p:Prop} (h:pos n p):0 < n/\p:=by
 unfold pos at h;rw [cond_eq_ite] at h;split at h
 ·rename_i hh;exact⟨by simpa using hh,h⟩
 ·cases h
theorem aV {a b:Nat} {p:Prop} (h:same a b p):a=b/\p:=by
 unfold same at h;rw [cond_eq_ite] at h;split at h
 ·rename_i hh;exact⟨by simpa using hh,h⟩
 ·cases h
theorem gY:∀(l:List Nat) (H:ay) (id:Nat),(drop H l).get id=if id∈l then none else H.get id
 |[],H,id=>by simp [drop]
 |i::l,H,id=>by
  rw [drop,gY l,Map.au];by_cases h:id∈l
  ·rw [if_pos h,if_pos (Qd _ h)]
  ·rw [if_neg h];by_cases e:id=i
   ·rw [if_pos e,if_pos (by rw [e];exact Qc)]
   ·rw [if_neg e,if_neg (by intro hh;rcases Qf.1 hh with hh|hh;exact e hh;exact h hh)]
theorem uo {fz:Bool} {sz:Nat} {parts:List (Nat×Nat×aH)} {ts:List TV} {V':aF} (h:Lm A st fz sz V 0 parts ts V') {zero:List AV} (hl:ts.length*sz=zero.length) :
  ∃cs,fill (G8 fz st) parts zero=some cs/\we sz ts cs:=by
 have hlen:=h.len;obtain⟨cs,g1,g2,g3,g4,gf,g5⟩:=h.fill zero (by rw [Nat.zero_add,←h.len,hl];exact Qy _);refine⟨cs,g1,by rw [g2,hl],fun x hx=>?_,fun j e hj=>by have:=g5 j e hj;rwa [Nat.zero_add] at this⟩;obtain⟨q,hq⟩:=List.getElem?_of_mem hx;have:=(PV.1 hq).1;exact gf q x (by omega) (by rw [Nat.zero_add,←h.len,hl,←g2];exact this) hq
theorem Dy (hR:R A V st) {es len:Nat} {zero:List AV} {parts:List (Nat×Nat×aH)} (h:pos es (gX V none false es 0 parts fun ts V'=>same ts.length len (same zero.length (ts.length*es) (fZ nt V' d none .sl (.gr es ts) k)))):bM cf nt A V st d (.eR es len zero parts) k:=by
 obtain⟨hz,h⟩:=cV h;obtain⟨ts,V',hk,hE⟩:=gW parts 0 V _ hR h;obtain⟨hl,hk⟩:=aV hk;obtain⟨hl2,hk⟩:=aV hk;obtain⟨cs,h1,h2⟩:=uo hE (zero:=zero) hl2.symm;have hfr:=gP (A:=A) (V:=V') (st:=st) (a:=.ref st.nx 0 0 es ts.length ts.length false) (v:=.ref st.nx 0 0 es ts.length ts.length false) (ob:=.row 0 cs) (hE.sub.r hR) hk
  (fun A' hA=>⟨hz,.inr ⟨_,_,_,cs,rfl,by rw [Map.au,if_pos rfl],Qx _,by simpa using h2⟩⟩) rfl rfl (fun A' O hO=>.sl hO)
 obtain⟨e',p1,V2,A2,p2,p3,p4⟩:=hfr;refine qg (f:=fun id=>.ref id 0 0 es len len false) (ob:=.row 0 cs) rfl (by have this:fill (ev st.env) parts zero=some cs:=h1;simp only [iK,this]) ⟨e',by rw [←hl];exact p1,V2,A2,p2,⟨p3.le,fun id hid hn=>p3.same id hid (fun ho=>hn (hE.sub.own ho)),fun id ho=>(p3.own id ho).imp hE.sub.own (fun x=>x)⟩,p4.1.sub hE.sub,p4.2⟩
theorem A5 {l:List AV} {f:AV->Bool} (h:∀x∈l,f x=true):bz f l=true:=aJ.2 h
theorem Dv (hR:R A V st) {fz:Bool} {len:Nat} {zero:List AV} {parts:List (Nat×Nat×aH)} {gd:Option (Nat×Bool)} (h:AO nt V d none fz len zero parts k) :
  ∃v H' nx',jb cf ⟨d,.aQ len zero parts,gd,fz⟩ (ev st.env) st.H st.nx=some (v,H',nx')/\Next nt A V st d v H' nx' k:=by
 unfold AO at h;simp only at h;split at h
 ·split at h<;>first|(cases h;done)|skip
  split at h<;>first|(cases h;done)|skip
  split at h<;>first|(cases h;done)|skip
  exact⟨.b6 [] 0 (some 0),st.H,st.nx,rfl,ax hR (fun _=>.jL) h⟩
 ·rename_i n;obtain⟨hz,h⟩:=cV h;obtain⟨hm,h⟩:=aV h;obtain⟨ts,V',hk,hE⟩:=gW parts 0 V _ hR h;obtain⟨hl,hk⟩:=aV hk;obtain⟨cs,h1,h2⟩:=uo hE (zero:=zero) (by rw [hl,Nat.mul_comm];exact hm);have hcan:Can (.l ts) (.b6 cs (n+1) (some (n+1))):=by have:=vQ hz h2 (some (n+1));rwa [hl] at this
  cases fz with
  |false=>refine⟨.b6 cs (n+1) (some (n+1)),st.H,st.nx,?_,ji (hE.sub.r hR) (Fr.IA fun O o hh=>hE.sub.H O o hh) (Ext.xj _ hE.sub.ev) (fun _=>.tr hcan) hk⟩;have h1':fill (ev st.env) parts zero=some cs:=h1;simp only [jb,fj,kind,c5,h1',A5 h2.flat,cond_true,cond_false,bS]
  |true=>
   obtain⟨l,hl'⟩:=hE.b6 rfl;have qxk:=hE.ids rfl;have h1':fill (mR st.H (ev st.env)) parts zero=some cs:=h1;have qq9:=gY ((parts.map fun p=>ev st.env p.2.2).flatMap (bt deep st.H)) st.H;refine⟨.b6 cs (n+1) (some (n+1)),drop st.H ((parts.map fun p=>ev st.env p.2.2).flatMap (bt deep st.H)),st.nx,?_,ji (A1:=A) (V1:=V') ⟨(hE.sub.r hR).env,fun O o ho=>?_,(hE.sub.r hR).inj,(hE.sub.r hR).used,hR.one,fun id o ho=>?_,(hE.sub.r hR).eK⟩ ⟨Qy _,fun id _ hn=>?_,fun id ho=>.inl (hE.sub.own ho)⟩ (Ext.xj _ hE.sub.ev) (fun _=>.tr hcan) hk⟩
   ·simp only [jb,hl',c5,h1',A5 h2.flat,cond_true]
   ·obtain⟨a,ha,hor⟩:=(hE.sub.r hR).heap O o ho;refine⟨a,ha,hor.mono (fun _ _ h=>h) (fun id hi=>?_)⟩;show (drop st.H _).get id=st.H.get id;rw [qq9,if_neg];exact fun hm=>(qxk id hm).2 ⟨O,o,a,ho,ha,hi⟩
   ·have ho':(drop st.H _).get id=some o:=ho;rw [qq9] at ho';split at ho'
    ·cases ho'
    ·exact hR.fresh id o ho'
   ·rw [qq9,if_neg];exact fun hm=>hn (qxk id hm).1
theorem HW {s io n:Nat} {a:AV} {as:List AV} {t u:TV} {ts:List TV} {o:Nat} {ovs:List (Nat×VV)} (hc:aU A t ovs as ts) (hl:ts.length=s) (hio:io < s) (hov:∀j,bq j ovs=if j=io then some .bT else none) (hp:dS t io 1 (.l [])=some u):VR A (.gl s io [u]) (.b6 as 1 (some 1)):=by
 obtain⟨ts',xs,us,p1,p2,p3,p4,p5,p6,p7⟩:=bP hp;have:=hc.cells.symm.trans p1;cases this;cases p2;have hla:as.length=s:=by rw [←hc.len];exact hl
 refine VR.gl (es:=[u]) (by omega) hio (by simp [hla]) (fun x hx=>?_) (fun j e he=>?_)
 ·obtain⟨q,hq⟩:=List.getElem?_of_mem hx;have hlt:q < ts.length:=by rw [hc.len];exact(PV.1 hq).1
  have:=hc.at_ q _ x (PU hlt) hq;rw [hov] at this;split at this
  ·rcases this with rfl|rfl<;>rfl
  ·exact this.2
 ·cases j with
  |succ j=>simp at he
  |zero=>
   simp at he;subst he;refine⟨us,p4,by rw [p5,hl],fun o t z hne ht hz=>?_,?_,fun x hx=>?_⟩
   ·rw [Nat.zero_mul,Nat.zero_add] at hz;rw [p7,if_neg (by omega)] at ht;have:=hc.at_ o t z ht hz;rw [hov,if_neg hne] at this;exact this.1
   ·rw [p7,if_pos (by omega),Nat.sub_self];rfl
   ·rw [Nat.zero_mul,Nat.zero_add] at hx;have hlt:io < ts.length:=by omega
    have:=hc.at_ io _ x (PU hlt) hx;rw [hov,if_pos rfl] at this;exact this
theorem xU {ρ:aH->AV} {n:Nat} {x:aH} {zero as:List AV} (hc:(ρ x).cells?=some as) (hn:as.length=n) (hz:zero.length=n):fill ρ [(0,n,x)] zero=some as:=by
 rw [jO];simp only [hc,cond_eq_ite,Qn,if_pos hn];have:cO zero 0 as=some as:=by rw [fN,if_pos (by omega),List.take_zero,List.nil_append,Nat.zero_add,List.drop_of_length_le (by omega),List.append_nil]
 rw [this];rfl
theorem Dw {sh:Sh} (hR:R A V st) {fz:Bool} {len:Nat} {zero:List AV} {parts:List (Nat×Nat×aH)} {gd:Option (Nat×Bool)} (h:pR sh nt V d none fz len zero parts k) :
  ∃v H' nx',jb cf ⟨d,.aQ len zero parts,gd,fz⟩ (ev st.env) st.H st.nx=some (v,H',nx')/\Next nt A V st d v H' nx' k:=by
 unfold pR at h;split at h
 ·exact Dv hR h
 rename_i c hcc;simp only at h;split at h;rotate_left
 ·cases h
 rename_i off n x;split at h;rotate_left
 ·cases h
 rename_i hb;simp only [Qk,Qn] at hb;obtain⟨rfl,rfl,rfl,hz⟩:=hb;obtain⟨w,hw,hk⟩:=bG (g:=none) hR trivial h;have fin:∀{as:List AV},(ev st.env x).cells?=some as->as.length=Bv c->(∀y∈as,AV.flat y=true)->Next nt A V st d (.b6 as 1 (some 1)) st.H st.nx k->∃v H' nx',jb cf ⟨d,.aQ 1 zero [(0,Bv c,x)],gd,fz⟩ (ev st.env) st.H st.nx=some (v,H',nx')/\Next nt A V st d v H' nx' k:=by
  intro as h1 h2 h3 h4;have hfl:bz AV.flat as=true:=aJ.2 h3;refine⟨.b6 as 1 (some 1),st.H,st.nx,?_,h4⟩;cases fz with
  |false=>simp only [jb,fj,kind,c5,xU h1 h2 hz,hfl,cond_true,cond_false,bS]
  |true=>
   have hpl:(ev st.env x).plain=true:=by
    cases hq:ev st.env x<;>rw [hq] at h1<;>first|(cases h1;done)|rfl|skip
    all_goals (cases h1;first|exact hfl|exact h3 _ Qc)
   have him:aP deep st.H (ev st.env x)=some (ev st.env x):=gu hpl 27 _;have qxk:bt deep st.H (ev st.env x)=[]:=lJ hpl 27 _;have qjY:(mR st.H (ev st.env) x)=ev st.env x:=qo him;have hf2:fill (mR st.H (ev st.env)) [(0,Bv c,x)] zero=some as:=xU (by rw [qjY];exact h1) h2 hz;have hm:cw (aP deep st.H) [ev st.env x]=some [ev st.env x]:=by rw [b7,him];rfl
   simp only [jb,cond_true,List.map_cons,List.map_nil,hm,c5,hf2,hfl,List.flatMap_cons,List.flatMap_nil,qxk,List.append_nil];rfl
 unfold H9 at hk;split at hk
 ·split at hk;rotate_left
  ·cases hk
  rename_i hb;simp only [Qk,Qn] at hb;obtain⟨hs1,hi0⟩:=hb;have hw':ev st.env x=.ak\/ev st.env x=.b6 [] 0 (some 0):=by
   generalize ev st.env x=p at hw;cases hw
   ·exact .inl rfl
   ·exact .inr rfl
  have hc1:(ev st.env x).cells?=some [ev st.env x]:=by rcases hw' with e|e<;>rw [e]<;>rfl
  refine fin hc1 (by rw [hs1];rfl) (fun y hy=>by rw [Qh] at hy;subst hy;rcases hw' with e|e<;>rw [e]<;>rfl) (ax hR (fun _=>?_) hk);refine VR.gl (es:=[.l []]) (by omega) (by omega) rfl (fun y hy=>by rw [Qh] at hy;subst hy;rcases hw' with e|e<;>rw [e]<;>rfl) (fun j e he=>?_);cases j with
  |succ j=>simp at he
  |zero=>
   simp at he;subst he;refine⟨[.l []],rfl,rfl,fun o t z hne ht hz=>?_,rfl,fun y hy=>?_⟩
   ·cases o with
    |zero=>exact absurd rfl hne
    |succ o=>simp at ht
   ·simp at hy;subst hy;exact hw'
 ·rename_i t ovs;split at hk;rotate_left
  ·cases hk
  rename_i o;split at hk;rotate_left
  ·cases hk
  rename_i hb;simp only [Qk,Qn,Qp] at hb;obtain⟨rfl,hio⟩:=hb;obtain⟨hso,u,hp,hk⟩:=hk;generalize he:ev st.env x=p at hw fin;cases hw with
  |@st _ _ cs ts hv hc=>
   obtain⟨l,h1,h2⟩:=jE hso;have:=hc.cells.symm.trans h1;cases this;have hov:∀j,bq j [(FG c,VV.bT)]=if j=FG c then some .bT else none:=fun j=>by
    rw [aZ];by_cases e:FG c=j
    ·rw [if_pos e,if_pos e.symm]
    ·rw [if_neg e,if_neg (Ne.symm e)];rfl
   have hla:cs.length=Bv c:=by rw [←hc.len];exact h2
   refine fin rfl hla (fun y hy=>?_) (ax hR (fun _=>HW (a:=.ak) (o:=0) (n:=0) hc h2 hio hov hp) hk);obtain⟨q,hq⟩:=List.getElem?_of_mem hy;have hlt:q < ts.length:=by rw [hc.len];exact(PV.1 hq).1
   have:=hc.at_ q _ y (PU hlt) hq;rw [hov] at this;split at this
   ·rcases this with rfl|rfl<;>rfl
   ·exact this.2
 ·cases hk
theorem Fv (hR:R A V st) (ha:act g) {x:aH} (h:dz V g x fun w=>vJ nt V d g w k):bM cf nt A V st d (.iN x) k:=by
 obtain⟨w,hw,hk⟩:=bG hR ha h;generalize he:ev st.env x=p at hw;cases hw with
 |ptr h=>exact aM rfl (by simp only [gG,he]) (ax hR (fun _=>.ptr h) hk)
 |pd h=>exact aM rfl (by simp only [gG,he]) (ax hR (fun _=>.pd h) hk)
 |ea h=>exact aM rfl (by simp only [gG,he]) (ax hR (fun _=>.ea h) hk)
 |pt hl hf h=>exact aM rfl (by simp only [gG,he]) (ax hR (fun _=>.pt hl hf h) hk)
 |_=>cases hk
theorem IK {O i off off' id gg b sz len cap:Nat} {ex:Bool} (h:A O=some (.ref id gg b sz len cap ex)):VR A (.ea O i (off+off')) (.ptr id gg (Nat.add (b+i*sz+off) off')):=by have:=VR.ea (A:=A) (i:=i) (off:=off+off') h;rwa [←Nat.add_assoc] at this
theorem IL {O v i j off off' id gg b sz len cap:Nat} {ex:Bool} (h:A (.i O v i)=some (.ref id gg b sz len cap ex)):VR A (.e2 O v i j (off+off')) (.ptr id gg (Nat.add (b+j*sz+off) off')):=by have:=VR.e2 (A:=A) (k:=j) (off:=off+off') h;rwa [←Nat.add_assoc] at this
theorem Gf {v:TV} {cs:List AV} {b off off' n:Nat} (hl:b+n<=cs.length) (hf:∀x∈cs,AV.flat x=true) (h:ld v ((cs.drop b).take n)):VR A (.pt v (off+off')) (.fh cs (Nat.add (b+off) off')):=by have:=VR.pt (A:=A) (off:=off+off') hl hf h;rwa [←Nat.add_assoc] at this
theorem Fx (hR:R A V st) (ha:act g) {off:Nat} {x:aH} (h:dz V g x fun w=>vK nt V d g off w k):bM cf nt A V st d (.gR off x) k:=by
 obtain⟨w,hw,hk⟩:=bG hR ha h;generalize he:ev st.env x=p at hw;cases hw with
 |ptr h=>exact aM rfl (by simp only [fY,he];rfl) (ax hR (fun _=>.ptr h) hk)
 |pd h=>exact aM rfl (by simp only [fY,he];rfl) (ax hR (fun _=>.pd h) hk)
 |ea h=>exact aM rfl (by simp only [fY,he]) (ax hR (fun _=>IK h) hk)
 |pt hl hf h=>exact aM rfl (by simp only [fY,he]) (ax hR (fun _=>Gf hl hf h) hk)
 |e2 h=>exact aM rfl (by simp only [fY,he]) (ax hR (fun _=>IL h) hk)
 |_=>cases hk
theorem JC (hR:R A V st) (ha:act g) {off:Nat} {sz:Option Nat} {x:aH} (h:dz V g x fun w=>xW nt V d g off sz w k):bM cf nt A V st d (.Bz off sz x) k:=by
 obtain⟨w,hw,hk⟩:=bG hR ha h;generalize he:ev st.env x=p at hw;have fin:∀{cs l:List AV} {v:AV},ev st.env x=.agg cs->cut cs off (bZ sz)=some l->Ak sz l=some v->Next nt A V st d v st.H st.nx k->bM cf nt A V st d (.Bz off sz x) k:=
  fun h1 h2 h3 h4=>aM rfl (by simp only [w9,h1,h2,h3,dI]) h4
 cases hw with
 |@tr v _ hc=>
  obtain⟨r,h1,h2⟩:=aS hR ha hk;unfold J5 at h1;split at h1
  ·rename_i cs;cases hc with
   |a ts as hl hf hh=>obtain⟨l,y,h3,h4,h5⟩:=nG (cs:=as) rfl ⟨⟨hl,hh⟩,hf⟩ h1;exact fin he h3 h4 (h2 _ h5)
  ·cases h1
 |@st v ovs cs ts hv hc=>
  simp only [xW] at hk;split at hk
  ·split at hk
   ·rename_i w hw;have hlt:=hc.keys _ _ hw;have hx:cs[off]?=some (cs[off]'(by rw [←hc.len];exact hlt)):=PU _;have hs:=hc.at_ off _ _ (PU hlt) hx;rw [hw] at hs;refine fin he (kY hx) rfl (ax hR (fun _=>?_) hk);cases w<;>first|(exact absurd hs (by intro hh;exact hh))|skip
    ·rcases hs with e|e
     ·rw [e];exact .bT
     ·rw [e];exact .jL
    ·exact .sl hs
    ·exact .ow hs
   ·rename_i ho;obtain⟨r,h1,h2⟩:=aS hR ha hk;obtain⟨y,h3,h4,_⟩:=n4 hc h1 ho;exact fin he h3 rfl (h2 _ h4)
  ·rename_i n;split at hk
   ·rename_i ho;obtain⟨r,h1,h2⟩:=aS hR ha hk;obtain⟨l,ls,h3,h4,h5⟩:=gw hc h1;rw [ho] at h5;exact fin he h3 rfl (h2 _ (qz h5 h4))
   ·rename_i p r ho;split at hk
    ·obtain⟨u,h1,h2⟩:=hk;obtain⟨l,ls,h3,h4,h5⟩:=gw hc h1;rw [ho] at h5;exact fin he h3 rfl (ax hR (fun _=>.st h4 h5) h2)
    ·cases hk
 |_=>cases hk
theorem kL {i:TV} {n m:Nat} {a:AV} (h:vw i n=some m) (hc:Can i a):∃k z,a=.int k z/\DO z n=some m/\m < n:=by
 unfold vw at h;split at h
 ·rename_i k z;cases hc;exact⟨k,z,rfl,h,(nJ h).2⟩
 ·cases h
theorem Fw (hR:R A V st) (ha:act g) {es:Nat} {x i:aH} (h:dz V g x fun w=>ia V g i fun i=>AP nt V d g es w i k):bM cf nt A V st d (.bL es x i) k:=by
 obtain⟨w,hw,hk⟩:=bG hR ha h;obtain⟨iv,hi,hk⟩:=bQ hR ha hk;obtain⟨hz,hk⟩:=cV hk;generalize he:ev st.env x=p at hw;cases hw with
 |@tr v _ hc=>
  obtain⟨e,⟨h1,h2⟩,h3⟩:=ri ha hk;unfold fo at h1;split at h1
  ·rename_i es';split at h1
   ·rename_i m hm;obtain⟨ki,zi,g1,g2,g3⟩:=kL hm hi;cases hc with
    |nil=>simp at g3
    |b6 _ cs n sz c hn hcl hsz hf hh=>
     subst hn;have hE:=hh m e h1;obtain⟨l,hl1,hl2⟩:=jE h2;obtain⟨ts,ht1,ht2⟩:=dK.1 hE;rw [hl1] at ht1;cases ht1;have hmn:=bO (z:=sz) g3;have qjV:((cs.drop (m*sz)).take sz).length=sz:=by simp only [P8,P9];omega
     have qjU:sz=es:=by rw [←hl2,ht2.1,qjV]
     subst qjU;refine aM (v:=.fh cs (m*sz)) rfl ?_ (ax hR (fun _=>?_) h3)
     ·simp only [gH,g1,he,g2];cases cs with
      |nil=>simp at hcl;omega
      |cons _ _=>rfl
     ·exact VR.pt (b:=m*sz) (off:=0) (n:=sz) (by omega) hf hE
   ·cases h1
  ·cases h1
 |@sl O _ hO=>
  dsimp only at hk;split at hk
  ·rename_i z es' ho;obtain⟨rfl,hk2⟩:=aV hk;obtain⟨m,h1,h2⟩:=jh ha hk2;obtain⟨ki,zi,g1,g2,g3⟩:=kL h1 hi;obtain⟨y,hy,hs⟩:=hR.heap O _ ho;rw [hO] at hy;cases hy;obtain⟨_,hs⟩:=hs;rcases hs with ⟨e,_⟩|⟨id,gg,b,cells,e,hH,hb,hE⟩
   ·subst e;simp at g3
   ·subst e;exact aM (v:=.ptr id gg (b+m*z)) rfl (by simp only [gH,g1,he,g2,cond_eq_ite,Qn,if_pos];rfl) (ax hR (fun _=>VR.ea (off:=0) hO) h2)
  ·rename_i K s io iz ver hole es' ho;obtain⟨rfl,hk2⟩:=aV hk;obtain⟨m,h1,h2⟩:=jh ha hk2;obtain⟨ki,zi,g1,g2,g3⟩:=kL h1 hi;obtain⟨y,hy,hs⟩:=hR.heap O _ ho;rw [hO] at hy;cases hy;obtain⟨_,_,_,hs⟩:=hs;rcases hs with ⟨e,_⟩|⟨id,gg,b,cells,e,hH,hb,hE⟩
   ·subst e;simp at g3
   ·subst e;exact aM (v:=.ptr id gg (b+m*s)) rfl (by simp only [gH,g1,he,g2,cond_eq_ite,Qn,if_pos];rfl) (ax hR (fun _=>VR.ea (off:=0) hO) h2)
  ·cases hk
 |@ow O v j _ hA=>
  obtain⟨s,io,iz,es',ho,hk⟩:=cx hk;obtain⟨rfl,hk2⟩:=aV hk;obtain⟨m,h1,h2⟩:=jh ha hk2;unfold NO at h1;split at h1;rotate_left
  ·cases h1
  rename_i l hl;obtain⟨ki,zi,g1,g2,g3⟩:=kL h1 hi;obtain⟨y,hy,hs⟩:=hR.heap O _ ho;have hsl:=oM hs hl (by simp) hA;rcases hsl.2 with ⟨e,_⟩|⟨id,gg,b,cells,e,hH,hb,hE⟩
  ·subst e;simp at g3
  ·subst e;exact aM (v:=.ptr id gg (b+m*iz)) rfl (by simp only [gH,g1,he,g2,cond_eq_ite,Qn,if_pos];rfl) (ax hR (fun _=>VR.e2 (off:=0) hA) h2)
 |_=>cases hk
theorem Hx (hR:R A V st) (ha:act g) {len es:Nat} {x i:aH} (h:dz V g x fun w=>ia V g i fun i=>zF nt V d g len es w i k):bM cf nt A V st d (.kO len es x i) k:=by
 obtain⟨w,hw,hk⟩:=bG hR ha h;obtain⟨iv,hi,hk⟩:=bQ hR ha hk;generalize he:ev st.env x=p at hw;have fin:∀{m:Nat} {v:AV},vw iv len=some m->(∀ki zi,ev st.env i=.int ki zi->DO zi len=some m->kz (ev st.env) len es x i=some (.val v))->Next nt A V st d v st.H st.nx k->bM cf nt A V st d (.kO len es x i) k:=by intro m v h1 h2 h3;obtain⟨ki,zi,g1,g2,g3⟩:=kL h1 hi;exact aM rfl (h2 ki zi g1 g2) h3
 cases hw with
 |@ptr O off id hO=>obtain⟨m,h1,h2⟩:=jh ha hk;exact fin h1 (fun ki zi g1 g2=>by simp only [kz,g1,g2,he];rfl) (ax hR (fun _=>VR.pd hO) h2)
 |@pd O off id hO=>obtain⟨m,h1,h2⟩:=jh ha hk;exact fin h1 (fun ki zi g1 g2=>by simp only [kz,g1,g2,he];rfl) (ax hR (fun _=>VR.pd hO) h2)
 |@pt v cs b off n hl hf hcc=>obtain⟨m,h1,h2⟩:=jh ha hk;exact fin h1 (fun ki zi g1 g2=>by simp only [kz,g1,g2,he];rfl) (ax hR (fun _=>Gf hl hf hcc) h2)
 |_=>cases hk
end
end Go.Ax.V
namespace Go.Ax.V
section
variable {prog:Map aq} {cf:eI} {nt:Nat} {A:aY} {V:aF} {st:St} {d:Option Nat} {g:G} {k:aF->Prop}
theorem u7 {sz z:Nat} {es:List TV} {cs:List AV} {n:Nat} (h:Bc sz es) (hn:es.length=n) (hc:cs.length=n*z) (hh:∀(j:Nat) (e:TV),es[j]?=some e->ld e ((cs.drop (j*z)).take z)):es=[]\/sz=z:=by
 cases es with
 |nil=>exact .inl rfl
 |cons e r=>
  right;obtain⟨l,hl1,hl2⟩:=jE h;obtain⟨ts,ht1,ht2⟩:=dK.1 (hh 0 e rfl);rw [hl1] at ht1;cases ht1;rw [←hl2,ht2.1];have:z<=cs.length:=by rw [hc,←hn,Qa,Nat.add_mul,Nat.one_mul];omega
  simp only [P8,P9];omega
structure Ir (H:ay) (sz:Nat) (xs:List TV) (a:AV) (src:Src) (l:List AV):Prop where
 eq:cQ sz a=some (xs.length,src)
 get:cM H src.q=some l
 el:we sz xs (src.cs l)
theorem oV (sz:Nat):we sz [] []:=⟨by simp,fun x hx=>by simp at hx,fun j e h=>by simp at h⟩
theorem GW {H:ay} {sz:Nat} {es:List TV} {a:AV} (h:qe H sz es a):∃src l,Ir H sz es a src l:=by
 obtain⟨hz,h⟩:=h;rcases h with ⟨rfl,rfl|rfl⟩|⟨id,g,b,cells,rfl,hH,hb,he⟩
 ·exact⟨.list [],[],rfl,rfl,oV sz⟩
 ·exact⟨.list [],[],by simp [cQ],rfl,oV sz⟩
 ·have hl:=he.len;rw [P9] at hl;refine⟨.qh ⟨id,g,b,es.length*sz⟩,cells.drop b,by simp [cQ],?_,he⟩;simp only [Src.q,cM,hH,cond_eq_ite,Qn,if_pos];rw [cJ,if_pos (by omega),Qu (by rw [P9];omega)]
theorem wF (hR:R A V st) {sz:Nat} (hz:0 < sz) {w:VV} {a:AV} (hw:VR A w a) {k:List TV->Prop} (hk:yK V sz w k):∃xs src l,Ir st.H sz xs a src l/\k xs:=by
 cases hw with
 |@tr v _ hc=>
  obtain⟨xs,h1,h2,h3⟩:=hk;cases v<;>first|(cases h1;done)|skip
  cases h1;cases hc with
  |nil=>exact⟨[],.list [],[],⟨rfl,rfl,oV sz⟩,h3⟩
  |b6 _ cs n z c hn hcl hsz hf hh=>
   refine⟨xs,.list cs,[],?_,h3⟩;rcases u7 h2 hn hcl hh with rfl|rfl
   ·simp at hn;subst hn;have:cs=[]:=Qt.1 (by omega);subst this;exact⟨by simp [cQ],rfl,oV sz⟩
   ·exact⟨by simp [cQ,hn,hcl],rfl,⟨by show cs.length=_;rw [hcl,hn],hf,hh⟩⟩
 |bT=>exact⟨[],.list [],[],⟨rfl,rfl,oV sz⟩,hk⟩
 |jL=>exact⟨[],.list [],[],⟨by simp [cQ],rfl,oV sz⟩,hk⟩
 |@sl O _ hO=>
  simp only [yK] at hk;split at hk
  ·rename_i z es ho;obtain⟨rfl,hk2⟩:=aV hk;obtain⟨y,hy,hs⟩:=hR.heap O _ ho;rw [hO] at hy;cases hy;obtain⟨src,l,h⟩:=GW hs;exact⟨es,src,l,h,hk2⟩
  ·cases hk
 |_=>cases hk
theorem uW {bytes:Nat} {es xs l:List TV} (h:k8 bytes es xs=some l):l=es++xs/\(es.length+xs.length)*bytes<=most/\es.length+xs.length<=most:=by
 unfold k8 at h;rw [cond_eq_ite] at h;split at h
 ·rename_i hh;rw [Qk,Qo,Qo] at hh;cases h;exact⟨rfl,hh.1,hh.2⟩
 ·cases h
theorem n8 (hR:R A V st) {V1:aF} (hR1:R A V1 st) (qxg:∀id,b8 V1 A id->b8 V A id) (hev:ig V V1) {sz bytes:Nat} {es xs l:List TV} {s x:AV} {src:Src} {lc:List AV} (hsl:qe st.H sz es s) (hone:s.one=true) (hown:∀id,bY s=some id->¬b8 V1 A id/\b8 V A id)
  (hx:Ir st.H sz xs x src lc) (qkd:k8 bytes es xs=some l) {so xo:aH} (e1:ev st.env so=s) (e2:ev st.env xo=x) (hk:fZ nt V1 d g .sl (.gr sz l) k):bM cf nt A V st d (.app sz bytes so xo) k:=by
 obtain⟨rfl,hb1,hb2⟩:=uW qkd;have hz:=hsl.1;have qxd:kind (.app sz bytes so xo)=.plan fun ρ=>lX sz bytes (ρ so) (ρ xo):=rfl
 by_cases hm:xs=[]
 ·subst hm;refine aM (v:=s) qxd ?_ (mK (a:=s) (nx':=st.nx) hR1 qxg hk (Qy _) hR.fresh (fun _ _=>rfl) (fun _ _ _=>rfl) (fun A' _=>by rw [List.append_nil];exact hsl) hone (fun id hi=>⟨(hown id hi).1,.inl (hown id hi).2⟩) (fun A' O hO=>.sl hO) rfl hev);have qzp:vz s=true:=by rcases hsl.2 with ⟨_,rfl|rfl⟩|⟨id,g,b,cells,rfl,_⟩<;>rfl
  simp only [lX,e1,e2,hx.eq,List.length_nil,cond_eq_ite,Qn,if_pos,qzp]
 ·have hm0:xs.length≠0:=fun h=>hm (Qt.1 h)
  obtain⟨hz,hsl⟩:=hsl;have fresh:∀(n:Nat),n=(es++xs).length->∀cells,we sz (es++xs) cells->Next nt A V st d (.ref st.nx 0 0 sz n n false) (st.H.put (some (.row 0 cells)) st.nx) (st.nx+1) k:=by
   intro n hn cells hE;subst hn;obtain⟨e',p1,V2,A2,p2,p3,p4⟩:=gP (A:=A) (V:=V1) (st:=st) (a:=.ref st.nx 0 0 sz (es++xs).length (es++xs).length false) (v:=.ref st.nx 0 0 sz (es++xs).length (es++xs).length false) (ob:=.row 0 cells) hR1 hk
    (fun A' hA=>⟨hz,.inr ⟨_,_,_,cells,rfl,by rw [Map.au,if_pos rfl],Qx _,hE⟩⟩) rfl rfl (fun A' O hO=>.sl hO)
   exact⟨e',p1,V2,A2,p2,⟨p3.le,fun id hid hn=>p3.same id hid (fun ho=>hn (qxg _ ho)),fun id ho=>(p3.own id ho).imp (qxg _) (fun x=>x)⟩,(Ext.xj A hev).trans p4.1,p4.2⟩
  rcases hsl with ⟨rfl,rfl|rfl⟩|⟨id,gg,b,cells,rfl,hH,hb,hE⟩
  ·refine⟨_,_,_,?_,fresh xs.length (by simp) (src.cs lc) (by simpa using hx.el)⟩;simp only [List.length_nil,Nat.zero_add] at hb1 hb2;simp only [fj,qxd,lX,e1,e2,hx.eq,cond_eq_ite,Qn,if_neg hm0,Qk,Qo];rw [if_pos ⟨hb1,hb2⟩];simp only [bS,dO,hx.get,fH,om]
  ·refine⟨_,_,_,?_,fresh (0+xs.length) (by simp) (src.cs lc) (by simpa using hx.el)⟩;simp only [List.length_nil] at hb1 hb2;simp only [fj,qxd,lX,e1,e2,hx.eq,cond_eq_ite,Qn,if_neg hm0,Qk,Qo,Qp];rw [if_pos ⟨⟨⟨by show 0 < 0+xs.length;omega,by simp⟩,hb1⟩,hb2⟩];simp only [bS,dO,hx.get,fH,om,List.nil_append];rfl
  ·have hl:=hE.len;rw [P9] at hl;obtain⟨hn1,hn2⟩:=hown id rfl;have hE2:=uN hE hx.el;refine⟨.ref id (gg+1) 0 sz (es.length+xs.length) (es.length+xs.length) false,st.H.put (some (.row (gg+1) (cells.drop b++src.cs lc))) id,st.nx,?_,
    mK (a:=.ref id (gg+1) 0 sz (es.length+xs.length) (es.length+xs.length) false) hR1 qxg hk (Qy _) (fun i o hh=>?_) (fun i ho=>?_) (fun i _ hn=>?_) (fun A' _=>⟨hz,.inr ⟨id,gg+1,0,_,by rw [P7],by rw [Map.au,if_pos rfl],Qx _,hE2⟩⟩) rfl (fun i hi=>?_) (fun A' O hO=>.sl hO) rfl hev⟩
   ·simp only [fj,qxd,lX,e1,e2,hx.eq,cond_eq_ite,Qn,if_neg hm0,Qk,Qo,if_pos];rw [if_pos ⟨⟨trivial,hb1⟩,hb2⟩];simp only [s6,cond_eq_ite,Qo];rw [if_neg (by show ¬(es.length+xs.length<=es.length);omega),if_neg (by decide)];simp only [bS,dO,hx.get,fH,hH,ot,cond_eq_ite,Qn,if_pos];rw [if_pos (by show b+es.length*sz=cells.length;omega)];simp only [om];rfl
   ·rw [Map.au] at hh;split at hh
    ·rename_i e;subst e;exact hR.fe hn2
    ·exact hR.fresh i o hh
   ·rw [Map.au,if_neg];rintro rfl;exact hn1 ho
   ·rw [Map.au,if_neg];rintro rfl;exact hn hn2
   ·cases hi;exact⟨hn1,.inl hn2⟩
theorem HU (hR:R A V st) {O s io iz v i:Nat} {es:List TV} {x:AV} (ho:V.H.get O=some (.gn O s io iz v none es)) (hx:A (.i O v i)=some x) :
  R A (bk V O (.gn O s io iz v (some i) es)) st/\(∀id,b8 (bk V O (.gn O s io iz v (some i) es)) A id->b8 V A id)/\∀id,bY x=some id->¬b8 (bk V O (.gn O s io iz v (some i) es)) A id:=by
 obtain⟨a,hA,hs⟩:=hR.heap O _ ho;obtain⟨_,hv1,hv0,hv2,hv3⟩:=hR.eK O _ _ ho hA;have ids:∀id,cY A (.gn O s io iz v (some i) es) a id->cY A (.gn O s io iz v none es) a id:=by
  rintro id (h|⟨j,y,h1,h2,h3⟩)
  ·exact .inl h
  ·exact .inr ⟨j,y,by simp,h2,h3⟩
 have get':∀(O':Nat) o',(bk V O (.gn O s io iz v (some i) es)).H.get O'=some o'->(O'=O/\o'=.gn O s io iz v (some i) es)\/(O'≠O/\V.H.get O'=some o'):=fun O' o' h=>by
  simp only [bk,Map.au] at h;split at h
  ·rename_i e;cases h;exact .inl ⟨e,rfl⟩
  ·rename_i e;exact .inr ⟨e,h⟩
 have up:∀{O':Nat} {o':VO} {y:AV} {id:Nat},(bk V O (.gn O s io iz v (some i) es)).H.get O'=some o'->A O'=some y->cY A o' y id->∃o2,V.H.get O'=some o2/\cY A o2 y id:=fun {O' o' y id} h hy hi=>by
  rcases get' O' o' h with ⟨rfl,rfl⟩|⟨_,h⟩
  ·rw [hA] at hy;cases hy;exact⟨_,ho,ids id hi⟩
  ·exact⟨o',h,hi⟩
 refine⟨⟨hR.env,fun O' o' h=>?_,fun O1 O2 o1 o2 a1 a2 id h1 h2 r1 r2 i1 i2=>?_,hR.used,hR.one,hR.fresh,fun O' o' y h hy=>?_⟩,fun id ⟨O',o',y,h1,h2,h3⟩=>?_,fun id hi ⟨O',o',y,h1,h2,h3⟩=>?_⟩
 ·rcases get' O' o' h with ⟨rfl,rfl⟩|⟨_,h⟩
  ·refine⟨a,hA,hs.1,hs.2.1,hs.2.2.1,hs.2.2.2.imp (fun h=>h) ?_⟩;rintro⟨id,g,b,cells,rfl,h5,h6,h7⟩;refine⟨id,g,b,cells,rfl,h5,h6,h7.len,fun j e he=>?_⟩;obtain⟨ts,g1,g2,g3,x',g4,g5,g6⟩:=h7.el j e he;exact⟨ts,g1,g2,g3,x',g4,g5,fun _=>g6 (by simp)⟩
  ·exact hR.heap O' o' h
 ·obtain⟨p1,q1,q2⟩:=up h1 r1 i1;obtain⟨p2,q3,q4⟩:=up h2 r2 i2;exact hR.inj O1 O2 _ _ a1 a2 id q1 q3 r1 r2 q2 q4
 ·rcases get' O' o' h with ⟨rfl,rfl⟩|⟨_,h⟩
  ·have hy':A O'=some y:=hy;rw [hA] at hy';cases hy';exact⟨rfl,hv1,hv0,fun j j' x x' id _ _=>hv2 j j' x x' id (by simp) (by simp),fun j x id _=>hv3 j x id (by simp)⟩
  ·exact hR.eK O' o' y h hy
 ·obtain⟨p,q1,q2⟩:=up h1 h2 h3;exact⟨O',p,y,q1,h2,q2⟩
 ·have hin:cY A (.gn O s io iz v none es) a id:=.inr ⟨i,x,by simp,hx,hi⟩;rcases get' O' o' h1 with ⟨rfl,rfl⟩|⟨hne,h⟩
  ·have h2':A O'=some y:=h2;rw [hA] at h2';cases h2';rcases h3 with h3|⟨j,z,k1,k2,k3⟩
   ·exact hv3 i x id (by simp) hx hi h3
   ·exact k1 (by rw [hv2 j i z x id (by simp) (by simp) k2 hx k3 hi])
  ·exact hne (hR.inj O' O _ _ _ _ id h ho h2 hA h3 hin)
structure Cg (H:ay) (s io iz:Nat) (es:List TV) (cs:List AV) (inn:Nat->Option AV):Prop where
 len:cs.length=es.length*s
 el:∀(j:Nat) (e:TV),es[j]?=some e->∃ts,bH e=some ts/\ts.length=s/\(∀(o:Nat) t x,o≠io->ts[o]?=some t->cs[j*s+o]?=some x->Can t x/\x.flat=true)/\
  ∃x,cs[j*s+io]?=some x/\inn j=some x/\∃l,ts[io]?=some (.l l)/\qe H iz l x
 fin:∀j x,inn j=some x->j < es.length/\x.one=true
theorem Cg.gn {H:ay} {s io iz:Nat} {es:List TV} {cs:List AV} {inn:Nat->Option AV} (h:Cg H s io iz es cs inn) {A':aY} {K:Nat} (hA:∀j,A' (.i K 0 j)=inn j):B0 A' H K s io iz 0 none es cs:=
 ⟨h.len,fun j e he=>let ⟨ts,g1,g2,g3,x,g4,g5,g6⟩:=h.el j e he;⟨ts,g1,g2,g3,x,g4,by rw [hA];exact g5,fun _=>g6⟩⟩
theorem Cg.append {H:ay} {s io iz:Nat} {es xs:List TV} {cs ds:List AV} {i1 i2:Nat->Option AV} (hs:io < s) (h:Cg H s io iz es cs i1) (h':Cg H s io iz xs ds i2):Cg H s io iz (es++xs) (cs++ds) (fun j=>if j < es.length then i1 j else i2 (j - es.length)):=by
 refine⟨by rw [P7,P7,h.len,h'.len,Nat.add_mul],fun j e hj=>?_,fun j x hj=>?_⟩
 ·by_cases hlt:j < es.length
  ·rw [PW hlt] at hj;have h9:=bO (z:=s) hlt;obtain⟨ts,g1,g2,g3,x,g4,g5,g6⟩:=h.el j e hj;have ap:∀o,o < s->(cs++ds)[j*s+o]?=cs[j*s+o]?:=fun o ho=>PW (by rw [h.len];omega)
   exact⟨ts,g1,g2,fun o t y hne ht hy=>g3 o t y hne ht (by rw [←ap o (by rw [←g2];exact(PV.1 ht).1)];exact hy),x,by rw [ap io hs];exact g4,by simp only [if_pos hlt];exact g5,g6⟩
  ·rw [PX (by omega)] at hj;have e1:j*s=cs.length+(j - es.length)*s:=by rw [h.len,←Nat.add_mul];congr 1;omega
   obtain⟨ts,g1,g2,g3,x,g4,g5,g6⟩:=h'.el _ e hj;have ap:∀o,(cs++ds)[j*s+o]?=ds[(j - es.length)*s+o]?:=fun o=>by rw [PX (by omega)];congr 1;omega
   exact⟨ts,g1,g2,fun o t y hne ht hy=>g3 o t y hne ht (by rw [←ap o];exact hy),x,by rw [ap io];exact g4,by simp only [if_neg hlt];exact g5,g6⟩
 ·replace hj:(if j < es.length then i1 j else i2 (j - es.length))=some x:=hj;split at hj
  ·rename_i hlt;obtain⟨p,q⟩:=h.fin j x hj;exact⟨by rw [P7];omega,q⟩
  ·rename_i hlt;obtain⟨p,q⟩:=h'.fin _ x hj;exact⟨by rw [P7];omega,q⟩
theorem Cg.mono {H H':ay} {s io iz:Nat} {es:List TV} {cs:List AV} {inn:Nat->Option AV} (h:Cg H s io iz es cs inn) (hH:∀j x id,inn j=some x->bY x=some id->H'.get id=H.get id):Cg H' s io iz es cs inn:=
 ⟨h.len,fun j e he=>let ⟨ts,g1,g2,g3,x,g4,g5,l,g6,g7⟩:=h.el j e he;⟨ts,g1,g2,g3,x,g4,g5,l,g6,qe.mono (fun id hi=>hH j x id g5 hi) g7⟩,h.fin⟩
theorem J2 {H:ay} {s io iz:Nat} {es:List TV} {cs:List AV} (hiz:0 < iz) (hio:io < s) (hl:cs.length=es.length*s) (hf:∀x∈cs,AV.flat x=true)
  (h:∀(j:Nat) (e:TV),es[j]?=some e->∃ts,bH e=some ts/\ts.length=s/\(∀(o:Nat) t x,o≠io->ts[o]?=some t->cs[j*s+o]?=some x->Can t x)/\
   ts[io]?=some (.l [])/\∀x,cs[j*s+io]?=some x->x=.ak\/x=.b6 [] 0 (some 0)) :
  Cg H s io iz es cs (fun j=>if j < es.length then cs[j*s+io]? else none)/\∀j x,(if j < es.length then cs[j*s+io]? else none)=some x->bY x=none:=by
 have nil:∀j x,j < es.length->cs[j*s+io]?=some x->x=.ak\/x=.b6 [] 0 (some 0):=fun j x hj hx=>by obtain⟨ts,g1,g2,g3,g4,g5⟩:=h j _ (PU hj);exact g5 x hx
 refine⟨⟨hl,fun j e he=>?_,fun j x hj=>?_⟩,fun j x hj=>?_⟩
 ·obtain⟨ts,g1,g2,g3,g4,g5⟩:=h j e he;have hlt:=(PV.1 he).1;have h9:=bO (z:=s) hlt;have hx:cs[j*s+io]?=some (cs[j*s+io]'(by omega)):=PU _;exact⟨ts,g1,g2,fun o t y hne ht hy=>⟨g3 o t y hne ht hy,hf y (P4 hy)⟩,_,hx,by simp only [if_pos hlt];exact hx,[],g4,hiz,.inl ⟨rfl,g5 _ hx⟩⟩
 ·split at hj
  ·rename_i hlt;exact⟨hlt,by rcases nil j x hlt hj with rfl|rfl<;>rfl⟩
  ·cases hj
 ·split at hj
  ·rename_i hlt;rcases nil j x hlt hj with rfl|rfl<;>rfl
  ·cases hj
theorem Gh {A:aY} {s io:Nat} {xs:List TV} {a:AV} (h:VR A (.gl s io xs) a):0 < s/\io < s/\∃cs,a=.b6 cs xs.length (some xs.length)/\cs.length=xs.length*s/\(∀x∈cs,AV.flat x=true)/\
  (∀(j:Nat) (e:TV),xs[j]?=some e->∃ts,bH e=some ts/\ts.length=s/\(∀(o:Nat) t x,o≠io->ts[o]?=some t->cs[j*s+o]?=some x->Can t x)/\
   ts[io]?=some (.l [])/\∀x,cs[j*s+io]?=some x->x=.ak\/x=.b6 [] 0 (some 0)):=by
 cases h with
 |gl h1 h2 h3 h4 h5=>exact⟨h1,h2,_,rfl,h3,h4,h5⟩
theorem HV {A':aY} {H':ay} {K s io iz:Nat} {l:List TV} {a:AV} {inn:Nat->Option AV} (q1:0 < s) (q2:io < s) (q3:0 < iz) (hA:∀j,A' (.i K 0 j)=inn j) (hv:∀v j,0 < v->A' (.i K v j)=none)
  (hc:(l=[]/\(a=.ak\/a=.b6 [] 0 (some 0))/\∀j,inn j=none)\/∃id g b cells,a=.ref id g b s l.length l.length false/\H'.get id=some (.row g cells)/\b<=cells.length/\Cg H' s io iz l (cells.drop b) inn)
  (hd:∀j j' x x' id,inn j=some x->inn j'=some x'->bY x=some id->bY x'=some id->j=j') (ho:∀j x id,inn j=some x->bY x=some id->bY a≠some id) :
  OR A' H' (.gn K s io iz 0 none l) a/\fV A' K a (.gn K s io iz 0 none l)/\∀id,cY A' (.gn K s io iz 0 none l) a id->bY a=some id\/∃j x,inn j=some x/\bY x=some id:=by
 refine⟨⟨q1,q2,q3,?_⟩,⟨rfl,hv,fun j x hj=>?_,fun j j' x x' id _ _ h1 h2=>?_,fun j x id _ h1=>?_⟩,fun id hi=>?_⟩
 ·rcases hc with ⟨h1,h2,_⟩|⟨id,g,b,cells,h1,h2,h3,h4⟩
  ·exact .inl ⟨h1,h2⟩
  ·exact .inr ⟨id,g,b,cells,h1,h2,h3,h4.gn hA⟩
 ·rw [hA] at hj;rcases hc with ⟨_,_,h3⟩|⟨id,g,b,cells,h1,h2,h3,h4⟩
  ·rw [h3] at hj;cases hj
  ·exact(h4.fin j x hj).1
 ·rw [hA] at h1 h2;exact hd j j' x x' id h1 h2
 ·rw [hA] at h1;exact ho j x id h1
 ·rcases hi with hi|⟨j,x,_,h2,h3⟩
  ·exact .inl hi
  ·rw [hA] at h2;exact .inr ⟨j,x,h2,h3⟩
theorem EC (hR:R A V st) {V1:aF} (hR1:R A V1 st) (qxg:∀id,b8 V1 A id->b8 V A id) (hev:ig V V1) {s io iz bytes dd:Nat} {es xs l:List TV} {sv:AV} {qxC:Nat->Option AV} {so xo:aH} (q2:io < s) (q3:0 < iz)
  (hD:(es=[]/\(sv=.ak\/sv=.b6 [] 0 (some 0))/\∀j,qxC j=none)\/∃id g b cells,sv=.ref id g b s es.length es.length false/\st.H.get id=some (.row g cells)/\b<=cells.length/\Cg st.H s io iz es (cells.drop b) qxC) (hone:sv.one=true)
  (hi1:∀id,bY sv=some id->¬b8 V1 A id/\b8 V A id) (hi2:∀j x id,qxC j=some x->bY x=some id->¬b8 V1 A id/\b8 V A id)
  (hd:∀j j' x x' id,qxC j=some x->qxC j'=some x'->bY x=some id->bY x'=some id->j=j') (ho:∀j x id,qxC j=some x->bY x=some id->bY sv≠some id)
  (e1:ev st.env so=sv) (hx:VR A (.gl s io xs) (ev st.env xo)) (qkd:k8 bytes es xs=some l) (hk:fZ nt V1 (some dd) g .sl (.gn dd s io iz 0 none l) k):bM cf nt A V st (some dd) (.app s bytes so xo) k:=by
 obtain⟨rfl,hb1,hb2⟩:=uW qkd;obtain⟨q1,_,cs,e2,hcl,hcf,hel⟩:=Gh hx;obtain⟨hcg,hcn⟩:=J2 (H:=st.H) (iz:=iz) q3 q2 hcl hcf hel;generalize hix:(fun j=>if j < xs.length then cs[j*s+io]? else none)=innx at hcg;have qjc:∀j x,innx j=some x->bY x=none:=fun j x h=>hcn j x (by rw [←hix] at h;exact h)
 have qxd:kind (.app s bytes so xo)=.plan fun ρ=>lX s bytes (ρ so) (ρ xo):=rfl
 have hsrc:cQ s (.b6 cs xs.length (some xs.length))=some (xs.length,.list cs):=by simp only [cQ,cond_eq_ite,Qn];rw [if_pos (by show xs.length*s=cs.length;omega)]
 have mk:∀{a:AV} {H':ay} {nx':Nat} (inn:Nat->Option AV),(∀j x,inn j=some x->x.one=true)->st.nx<=nx'->(∀id ob,H'.get id=some ob->id < nx')->(∀id,b8 V1 A id->H'.get id=st.H.get id)->(∀id,id < st.nx->¬b8 V A id->H'.get id=st.H.get id)->
   a.one=true->((es++xs=[]/\(a=.ak\/a=.b6 [] 0 (some 0))/\∀j,inn j=none)\/∃id g b cells,a=.ref id g b s (es++xs).length (es++xs).length false/\H'.get id=some (.row g cells)/\b<=cells.length/\Cg H' s io iz (es++xs) (cells.drop b) inn)->
   (∀j j' x x' id,inn j=some x->inn j'=some x'->bY x=some id->bY x'=some id->j=j')->(∀j x id,inn j=some x->bY x=some id->bY a≠some id)->
   (∀id,bY a=some id->¬b8 V1 A id/\(b8 V A id\/st.nx<=id))->(∀j x id,inn j=some x->bY x=some id->¬b8 V1 A id/\b8 V A id)->Next nt A V st (some dd) a H' nx' k:=by
  intro a H' nx' inn r1 r2 r3 r4 r5 r6 r7 r8 r9 r10 r11;refine ud (inn:=inn) hR1 qxg hk r2 r3 r4 r5 r1 (fun A' d' hd' hm h0 h1=>?_) r6 (fun A' O hO=>.sl hO) hev;cases hd';obtain⟨t1,t2,t3⟩:=HV q1 q2 q3 h0 h1 r7 r8 r9;refine⟨t1,t2,fun id hi=>?_⟩;rcases t3 id hi with h|⟨j,x,h2,h3⟩
  ·exact r10 id h
  ·exact⟨(r11 j x id h2 h3).1,.inl (r11 j x id h2 h3).2⟩
 by_cases hm:xs=[]
 ·subst hm;have qzp:vz sv=true:=by rcases hD with ⟨_,rfl|rfl,_⟩|⟨id,g,b,cells,rfl,_⟩<;>rfl
  refine aM (v:=sv) qxd ?_ (mk qxC (fun j x h=>?_) (Qy _) hR.fresh (fun _ _=>rfl) (fun _ _ _=>rfl) hone ?_ hd ho (fun id hi=>⟨(hi1 id hi).1,.inl (hi1 id hi).2⟩) hi2)
  ·simp only [List.length_nil] at hsrc e2;simp only [lX,e1,e2,hsrc,cond_eq_ite,Qn,if_pos,qzp]
  ·rcases hD with ⟨_,_,h3⟩|⟨id,g,b,cells,_,_,_,h4⟩
   ·rw [h3] at h;cases h
   ·exact(h4.fin j x h).2
  ·rw [List.append_nil];exact hD
 ·have hm0:xs.length≠0:=fun h=>hm (Qt.1 h)
  have fresh:∀(n:Nat),n=(es++xs).length->es=[]->Next nt A V st (some dd) (.ref st.nx 0 0 s n n false) (st.H.put (some (.row 0 cs)) st.nx) (st.nx+1) k:=by
   intro n hn hes;subst hes;subst hn;have hno:∀id,b8 V1 A id->id≠st.nx:=fun id ho he=>by have:=hR.fe (qxg id ho);omega
   refine mk innx (fun j x h=>(hcg.fin j x h).2) (Nat.le_succ _) (fun id ob hh=>?_) (fun id ho=>by rw [Map.au,if_neg (hno id ho)]) (fun id hlt _=>by rw [Map.au,if_neg (by omega)]) rfl (.inr ⟨st.nx,0,0,cs,rfl,by rw [Map.au,if_pos rfl],Qx _,?_⟩)
    (fun j j' x x' id h1 h2 h3=>by rw [qjc j x h1] at h3;cases h3) (fun j x id h1 h3=>by rw [qjc j x h1] at h3;cases h3) (fun id hi=>by cases hi;exact⟨fun ho=>hno _ ho rfl,.inr (Qy _)⟩) (fun j x id h1 h3=>by rw [qjc j x h1] at h3;cases h3)
   ·rw [Map.au] at hh;split at hh
    ·omega
    ·have:=hR.fresh _ _ hh;omega
   ·rw [List.drop_zero,List.nil_append];exact hcg.mono (fun j x id h1 h3=>by rw [qjc j x h1] at h3;cases h3)
  rcases hD with ⟨rfl,rfl|rfl,_⟩|⟨id,gg,b,cells,rfl,hH,hb,hE⟩
  ·refine⟨_,_,_,?_,fresh xs.length (by simp) rfl⟩;simp only [List.length_nil,Nat.zero_add] at hb1 hb2;simp only [fj,qxd,lX,e1,e2,hsrc,cond_eq_ite,Qn,if_neg hm0,Qk,Qo];rw [if_pos ⟨hb1,hb2⟩];simp only [bS,dO,Src.q,cM,fH,om,Src.cs]
  ·refine⟨_,_,_,?_,fresh (0+xs.length) (by simp) rfl⟩;simp only [List.length_nil] at hb1 hb2;simp only [fj,qxd,lX,e1,e2,hsrc,cond_eq_ite,Qn,if_neg hm0,Qk,Qo,Qp];rw [if_pos ⟨⟨⟨by show 0 < 0+xs.length;omega,by simp⟩,hb1⟩,hb2⟩];simp only [bS,dO,Src.q,cM,fH,om,Src.cs,List.nil_append];rfl
  ·have hl:=hE.len;rw [P9] at hl;obtain⟨hn1,hn2⟩:=hi1 id rfl;have hE2:=Cg.append q2 hE hcg;have both:∀j x id',(if j < es.length then qxC j else innx (j - es.length))=some x->bY x=some id'->qxC j=some x:=fun j x id' h h3=>by
    split at h
    ·exact h
    ·rw [qjc _ x h] at h3;cases h3
   refine⟨.ref id (gg+1) 0 s (es.length+xs.length) (es.length+xs.length) false,st.H.put (some (.row (gg+1) (cells.drop b++cs))) id,st.nx,?_,
    mk (fun j=>if j < es.length then qxC j else innx (j - es.length)) (fun j x h=>(hE2.fin j x h).2) (Qy _) (fun i o hh=>?_) (fun i hoi=>?_) (fun i _ hn=>?_) rfl (.inr ⟨id,gg+1,0,_,by rw [P7],by rw [Map.au,if_pos rfl],Qx _,?_⟩)
     (fun j j' x x' id' h1 h2 h3 h4=>hd j j' x x' id' (both j x id' h1 h3) (both j' x' id' h2 h4) h3 h4) (fun j x id' h1 h3=>ho j x id' (both j x id' h1 h3) h3) (fun i hi=>?_) (fun j x id' h1 h3=>hi2 j x id' (both j x id' h1 h3) h3)⟩
   ·simp only [fj,qxd,lX,e1,e2,hsrc,cond_eq_ite,Qn,if_neg hm0,Qk,Qo,if_pos];rw [if_pos ⟨⟨trivial,hb1⟩,hb2⟩];simp only [s6,cond_eq_ite,Qo];rw [if_neg (by show ¬(es.length+xs.length<=es.length);omega),if_neg (by decide)];simp only [bS,dO,Src.q,cM,fH,hH,ot,cond_eq_ite,Qn,if_pos];rw [if_pos (by show b+es.length*s=cells.length;omega)];simp only [om];rfl
   ·rw [Map.au] at hh;split at hh
    ·rename_i e;subst e;exact hR.fe hn2
    ·exact hR.fresh i o hh
   ·rw [Map.au,if_neg];rintro rfl;exact hn1 hoi
   ·rw [Map.au,if_neg];rintro rfl;exact hn hn2
   ·rw [List.drop_zero];refine hE2.mono fun j x id' h1 h3=>?_
    rw [Map.au,if_neg];rintro rfl;exact ho j x id' (both j x id' h1 h3) h3 rfl
   ·cases hi;exact⟨hn1,.inl hn2⟩
theorem JJ {sh:Sh} (hR:R A V st) (ha:act g) {es bytes:Nat} {s x:aH} (h:dz V g s fun w=>dz V g x fun x=>uL sh nt V d g es bytes w x k):bM cf nt A V st d (.app es bytes s x) k:=by
 obtain⟨w,hw,h⟩:=bG hR ha h;obtain⟨y,hy,hk⟩:=bG hR ha h;unfold uL at hk;split at hk
 ·rename_i s' io xs;have hse:=(aV hk).1;replace hk:=(aV hk).2;subst hse;unfold vN at hk;cases d with
  |none=>cases hk
  |some dd=>
  dsimp only at hk;obtain⟨_,q2,_⟩:=Gh hy;have nilD:∀{sv:AV},(sv=.ak\/sv=.b6 [] 0 (some 0))->ev st.env s=sv->Nat.blt 0 (ER (sh.gc dd))=true->(∃l,k8 bytes [] xs=some l/\fZ nt V (some dd) g .sl (.gn dd s' io (ER (sh.gc dd)) 0 none l) k)->bM cf nt A V st (some dd) (.app s' bytes s x) k:=by rintro sv hsv e1 hz ⟨l,h1,h2⟩;exact EC (es:=[]) (qxC:=fun _=>none) hR hR (fun _ h=>h) (ig.refl V) q2 (by simpa using hz) (.inl ⟨rfl,hsv,fun _=>rfl⟩) (by rcases hsv with rfl|rfl<;>rfl) (fun id hi=>by rcases hsv with rfl|rfl<;>cases hi) (fun j x id h=>by cases h) (fun j j' x x' id h=>by cases h) (fun j x id h=>by cases h) e1 hy h1 h2
  generalize e1:ev st.env s=a at hw;cases hw with
  |bT=>
   simp only at hk;split at hk
   ·rename_i hb;rw [Qk] at hb;exact nilD (.inl rfl) e1 hb.2 hk
   ·cases hk
  |jL=>
   simp only at hk;split at hk
   ·rename_i hb;rw [Qk] at hb;exact nilD (.inr rfl) e1 hb.2 hk
   ·cases hk
  |@sl O _ hO=>
   simp only at hk;split at hk;rotate_left
   ·cases hk
   rename_i K s2 io2 iz ver es ho;split at hk;rotate_left
   ·cases hk
   rename_i hb;simp only [Qk,Qn] at hb;obtain⟨rfl,rfl⟩:=hb;obtain⟨l,h1,h2⟩:=hk;obtain⟨y',hy',hs⟩:=hR.heap O _ ho;rw [hO] at hy';cases hy';obtain⟨rfl,hv1,hv0,hv2,hv3⟩:=hR.eK O _ _ ho hO;obtain⟨p1,p2,p3,hs⟩:=hs;refine EC (es:=es) (qxC:=fun j=>A (.i K ver j)) hR (hR.bx K) (fun _ h=>(bw V K).own h) (bw V K).ev p2 p3 ?_ (hR.one _ _ hO) (fun id hi=>⟨cX hR ho hO (.inl hi),⟨K,_,_,ho,hO,.inl hi⟩⟩)
    (fun j x id h3 h4=>⟨cX hR ho hO (.inr ⟨j,x,by simp,h3,h4⟩),⟨K,_,_,ho,hO,.inr ⟨j,x,by simp,h3,h4⟩⟩⟩) (fun j j' x x' id=>hv2 j j' x x' id (by simp) (by simp)) (fun j x id=>hv3 j x id (by simp)) e1 hy h1 h2
   rcases hs with ⟨h3,h4⟩|⟨id,g',b,cells,h3,h4,h5,h6⟩
   ·exact .inl ⟨h3,h4,fun j=>by
     cases hq:A (.i K ver j) with
     |none=>rfl
     |some x=>have:=hv0 j x hq;rw [h3] at this;simp at this⟩
   ·exact .inr ⟨id,g',b,cells,h3,h4,h5,h6.len,fun j e he=>(let ⟨ts,g1,g2,g3,x,g4,g5,g6⟩:=h6.el j e he;⟨ts,g1,g2,g3,x,g4,g5,g6 (by simp)⟩),fun j x hx=>⟨hv0 j x hx,hR.one _ _ hx⟩⟩
  |_=>cases hk
 rename_i hngl;obtain⟨hz,hk⟩:=cV hk;obtain⟨xs,src,l,hx,hk⟩:=wF hR hz hy hk;generalize e1:ev st.env s=a at hw;cases hw with
 |bT=>obtain⟨l',h1,h2⟩:=hk;exact n8 hR hR (fun _ h=>h) (ig.refl V) ⟨hz,.inl ⟨rfl,.inl rfl⟩⟩ rfl (fun id hi=>by cases hi) hx h1 e1 rfl h2
 |jL=>obtain⟨l',h1,h2⟩:=hk;exact n8 hR hR (fun _ h=>h) (ig.refl V) ⟨hz,.inl ⟨rfl,.inr rfl⟩⟩ rfl (fun id hi=>by cases hi) hx h1 e1 rfl h2
 |@sl O _ hO=>
  dsimp only at hk;split at hk
  ·rename_i z es' ho;obtain⟨rfl,l',h1,h2⟩:=aV hk;obtain⟨y',hy',hs⟩:=hR.heap O _ ho;rw [hO] at hy';cases hy';exact n8 hR (hR.bx O) (fun _ h=>(bw V O).own h) (bw V O).ev hs (hR.one _ _ hO) (fun id hi=>⟨cX hR ho hO (.inl hi),⟨O,_,_,ho,hO,.inl hi⟩⟩) hx h1 e1 rfl h2
  ·cases hk
 |@ow O v i _ hA=>dsimp only at hk;obtain⟨s2,io,iz,es',ho,hk⟩:=cx hk;obtain⟨rfl,l0,h0,l',h1,h2⟩:=aV hk;obtain⟨y',hy',hs⟩:=hR.heap O _ ho;obtain⟨r1,r2,r3⟩:=HU hR ho hA;exact n8 hR r1 r2 (ig.GX ho (Qy _)) (oM hs h0 (by simp) hA) (hR.one _ _ hA) (fun id hi=>⟨r3 id hi,⟨O,_,_,ho,hy',.inr ⟨i,_,by simp,hA,hi⟩⟩⟩) hx h1 e1 rfl h2
 |_=>cases hk
theorem JA (hR:R A V st) (ha:act g) {str:Bool} {x:aH} (h:dz V g x fun w=>AL nt V d g str w k):bM cf nt A V st d (.len str x) k:=by
 obtain⟨w,hw,hk⟩:=bG hR ha h;generalize he:ev st.env x=p at hw;cases str with
 |true=>
  cases hw with
  |@tr v _ hc=>
   obtain⟨r,h1,h2⟩:=aS hR ha hk;cases v<;>first|(cases h1;done)|skip
   cases h1;cases hc;exact aM rfl (by simp only [iX,he]) (h2 _ (.i _ _))
  |_=>cases hk
 |false=>
  cases hw with
  |@tr v _ hc=>
   obtain⟨r,h1,h2⟩:=aS hR ha hk;cases v<;>first|(cases h1;done)|skip
   cases h1;cases hc with
   |nil=>exact aM rfl (by simp only [iX,he];rfl) (h2 _ (.i _ _))
   |b6 _ cs n z c hn=>subst hn;exact aM rfl (by simp only [iX,he]) (h2 _ (.i _ _))
  |bT=>obtain⟨r,h1,h2⟩:=aS hR ha hk;cases h1;exact aM rfl (by simp only [iX,he]) (h2 _ (.i _ _))
  |jL=>obtain⟨r,h1,h2⟩:=aS hR ha hk;cases h1;exact aM (v:=.int .i64 ((0:Nat):Int)) rfl (by simp only [iX,he]) (h2 _ (.i _ _))
  |@sl O _ hO=>
   simp only [AL] at hk;split at hk
   ·rename_i z es ho;obtain⟨y,hy,hs⟩:=hR.heap O _ ho;rw [hO] at hy;cases hy;obtain⟨r,h1,h2⟩:=aS hR ha hk;cases h1;rcases hs.2 with ⟨rfl,rfl|rfl⟩|⟨id,gg,b,cells,rfl,_⟩
    ·exact aM (v:=.int .i64 0) rfl (by simp only [iX,he]) (h2 _ (.i _ _))
    ·exact aM (v:=.int .i64 ((0:Nat):Int)) rfl (by simp only [iX,he]) (h2 _ (.i _ _))
    ·exact aM rfl (by simp only [iX,he]) (h2 _ (.i _ _))
   ·rename_i K s io iz ver hole es ho;obtain⟨y,hy,hs⟩:=hR.heap O _ ho;rw [hO] at hy;cases hy;obtain⟨r,h1,h2⟩:=aS hR ha hk;cases h1;rcases hs.2.2.2 with ⟨rfl,rfl|rfl⟩|⟨id,gg,b,cells,rfl,_⟩
    ·exact aM (v:=.int .i64 0) rfl (by simp only [iX,he]) (h2 _ (.i _ _))
    ·exact aM (v:=.int .i64 ((0:Nat):Int)) rfl (by simp only [iX,he]) (h2 _ (.i _ _))
    ·exact aM rfl (by simp only [iX,he]) (h2 _ (.i _ _))
   ·cases hk
  |@ow O v j _ hA=>
   obtain⟨s,io,iz,es,ho,hk⟩:=cx hk;obtain⟨y,hy,hs⟩:=hR.heap O _ ho;obtain⟨r,h1,h2⟩:=aS hR ha hk;unfold JS at h1;split at h1;rotate_left
   ·cases h1
   rename_i l hl;cases h1;have hsl:=oM hs hl (by simp) hA;rcases hsl.2 with ⟨rfl,rfl|rfl⟩|⟨id,gg,b,cells,rfl,_⟩
   ·exact aM (v:=.int .i64 0) rfl (by simp only [iX,he]) (h2 _ (.i _ _))
   ·exact aM (v:=.int .i64 ((0:Nat):Int)) rfl (by simp only [iX,he]) (h2 _ (.i _ _))
   ·exact aM rfl (by simp only [iX,he]) (h2 _ (.i _ _))
  |_=>cases hk
end
end Go.Ax.V
namespace Go.Ax.V
section
variable {prog:Map aq} {cf:eI} {nt:Nat} {A:aY} {V:aF} {st:St} {d:Option Nat} {g:G} {k:aF->Prop}
def Lx (e:Env) (x:Option aH) (v:Option TV):Prop:=match x with|none=>v=none|some x=>∃u,v=some u/\Can u (ev e x)
theorem qu {e:Env} {x:Option aH} {v:Option TV} (h:Lx e x v) {other y r:Nat} (hb:EV v other y=some r):AZ (ev e) x other y=some r:=by
 cases x with
 |none=>cases h;exact hb
 |some x=>
  obtain⟨u,rfl,hc⟩:=h;cases u<;>first|(cases hb;done)|skip
  generalize he:ev e x=p at hc;cases hc;simp only [AZ,he];exact hb
theorem A4 {e:Env} {lo hi:Option aH} {l h:Option TV} (hl:Lx e lo l) (hh:Lx e hi h) {n a b:Nat} (hb:F9 l h n=some (a,b)):jd (ev e) lo hi none n n=some (a,b,n)/\a<=b/\b<=n:=by
 unfold F9 at hb;split at hb
 ·cases hb
 rename_i b' h1;split at hb
 ·cases hb
 rename_i a' h2;cases hb;have le:∀{x:Option TV} {o y r:Nat},EV x o y=some r->o<=y->r<=y:=fun {x o y r} hb ho=>by
  unfold EV at hb;split at hb
  ·cases hb;exact ho
  ·exact(n6 hb).2
  ·cases hb
 refine⟨?_,le h2 (Qx _),le h1 (Qy _)⟩;have e0:AZ (ev e) none n n=some n:=rfl;simp only [jd,e0,qu hh h1,qu hl h2]
theorem lE (h:R A V st) (ha:act g) {x:Option aH} {k:Option TV->Prop} (hk:oC V g x k):∃v,k v/\Lx st.env x v:=by obtain⟨v,h1,h2⟩:=Dq h ha hk;exact⟨v,h1,by cases x<;>exact h2⟩
theorem zH {sz:Nat} {es:List TV} {cs:List AV} (h:we sz es cs) {a b:Nat} (hab:a<=b) (hb:b<=es.length):we sz ((es.drop a).take (b - a)) ((cs.drop (a*sz)).take ((b - a)*sz)):=by
 have h1:a*sz+(b - a)*sz=b*sz:=by rw [←Nat.add_mul];congr 1;omega
 have h2:b*sz<=es.length*sz:=Nat.mul_le_mul_right sz hb;have hl:=h.len;refine⟨by simp only [P8,P9];rw [Nat.min_eq_left (by omega),Nat.min_eq_left (by omega)],fG h.flat _ _,fun j e hj=>?_⟩;rw [gj] at hj;split at hj
 ·rename_i hlt;have h3:=bO (z:=sz) hlt;have:((((cs.drop (a*sz)).take ((b - a)*sz)).drop (j*sz)).take sz)=(cs.drop ((a+j)*sz)).take sz:=by rw [List.drop_take,List.take_take,List.drop_drop,Nat.min_eq_left (by omega),Nat.add_mul]
  rw [this];exact h.el _ e hj
 ·cases hj
theorem oW {x:Option aH} (h:jl x=true):∃k,x=some (.c (.int k (.ofNat 0))):=by
 unfold jl at h;split at h
 ·exact⟨_,rfl⟩
 ·cases h
def Nl (mx:Option aH) (c:Option Nat) (m a:Nat):Option Nat:=match mx with
 |some _=>some (m - a)
 |none=>match c with
  |some c=>some (c - a)
  |none=>none
theorem va {es n a b m:Nat} {ρ:aH->AV} {cs cs':List AV} {lo hi mx:Option aH} {c:Option Nat} (q1:n*es=cs.length) (hb:jd ρ lo hi mx n n=some (a,b,m)) (q2:cut cs (a*es) ((b - a)*es)=some cs') :
  yN es ρ (.b6 cs n c) lo hi mx=some (.b6 cs' (b - a) (Nl mx c m a)):=by
 have h1:Nat.beq (Nat.mul n es) cs.length=true:=by simpa using q1
 have h2:cut cs (Nat.mul a es) (Nat.mul (Nat.sub b a) es)=some cs':=q2;simp only [yN,h1,hb,h2,cond_true];cases mx<;>cases c<;>rfl
theorem Ht (hR:R A V st) (ha:act g) {es:Nat} {x:aH} {lo hi mx:Option aH} (h:dz V g x fun w=>zD nt V d g es w lo hi mx k):bM cf nt A V st d (.iR es x lo hi mx) k:=by
 obtain⟨w,hw,hk⟩:=bG hR ha h;have hz:=(cV hk).1;replace hk:=(cV hk).2;clear h;have qxd:kind (.iR es x lo hi mx)=.plan fun ρ=>dI (yN es ρ (ρ x) lo hi mx):=rfl
 generalize he:ev st.env x=p at hw;have fin:∀{v:AV},yN es (ev st.env) p lo hi mx=some v->Next nt A V st d v st.H st.nx k->bM cf nt A V st d (.iR es x lo hi mx) k:=
  fun h1 h2=>aM qxd (by rw [he,h1];rfl) h2
 cases hw with
 |@sl O _ hO=>
  dsimp only at hk;split at hk;rotate_left
  ·cases hk
  rename_i z xs ho;split at hk;rotate_left
  ·cases hk
  split at hk;rotate_left
  ·cases hk
  obtain⟨rfl,hk2⟩:=aV hk;obtain⟨l,⟨m,h1,h2⟩,hl⟩:=lE (g:=none) hR trivial hk2;obtain⟨y,hy,hs⟩:=hR.heap O _ ho;rw [hO] at hy;cases hy;have hm:m<=xs.length:=by
   unfold EV at h1;split at h1
   ·cases h1;exact Qx _
   ·exact(n6 h1).2
   ·cases h1
  have hb:jd (ev st.env) lo none none xs.length xs.length=some (m,xs.length,xs.length):=by
   have e0:∀n,AZ (ev st.env) none n xs.length=some n:=fun _=>rfl
   simp only [jd,e0,qu hl h1]
  have nxt:∀{a:AV},a.one=true->qe st.H z (xs.drop m) a->(∀id,bY a=some id->bY p=some id)->Next nt A V st d a st.H st.nx k:=fun {a} h3 h4 h5=>
   uc (a:=a) (nx':=st.nx) (hR.bx O) (bw V O).H h2 (Qy _) hR.fresh (fun _ _=>rfl) (fun _ _ _=>rfl) (fun A' _=>h4) h3
    (fun id hi=>⟨cX hR ho hO (.inl (h5 id hi)),.inl ⟨O,_,_,ho,hO,.inl (h5 id hi)⟩⟩) (fun A' O hO=>.sl hO)
  rcases hs.2 with ⟨rfl,rfl|rfl⟩|⟨id,gg,b,cells,rfl,hH,hbl,hE⟩
  ·simp at hm;subst hm;exact fin (by simp only [yN];simp only [List.length_nil] at hb;rw [hb]) (nxt rfl ⟨hz,.inl ⟨by simp,.inl rfl⟩⟩ (fun id hi=>hi))
  ·simp at hm;subst hm;refine fin (v:=.b6 [] 0 (some 0)) ?_ (nxt rfl ⟨hz,.inl ⟨by simp,.inr rfl⟩⟩ (fun id hi=>hi));simp only [List.length_nil] at hb;simp only [yN,cond_eq_ite,Qn];rw [if_pos (by simp),hb];simp [cJ]
  ·have hl':=hE.len;rw [P9] at hl';refine fin (v:=.ref id gg (b+m*z) z (xs.length - m) (xs.length - m) false) ?_ (nxt rfl ⟨hz,.inr ⟨id,gg,b+m*z,cells,by simp,hH,?_,?_⟩⟩ (fun id hi=>hi))
   ·simp only [yN,cond_eq_ite,Qn,if_pos,hb];rfl
   ·have:=Nat.mul_le_mul_right z hm;omega
   ·have hE':=zH hE hm (Qy _);have e1:(xs.drop m).take (xs.length - m)=xs.drop m:=Qu (by simp);have e2:((cells.drop b).drop (m*z)).take ((xs.length - m)*z)=cells.drop (b+m*z):=by rw [List.drop_drop,Qu];rw [P9,Nat.sub_mul];omega
    rwa [e1,e2] at hE'
 |@tr v _ hc=>
  dsimp only at hk;split at hk
  ·obtain⟨l,hk1,hl⟩:=lE hR ha hk;obtain⟨h,hk2,hh⟩:=lE hR ha hk1;obtain⟨r,⟨h1,h2⟩,h3⟩:=ri ha hk2;clear hk hk1 hk2;unfold NL at h1;split at h1
   ·rename_i xs;split at h1
    ·rename_i a b hab;cases h1;obtain⟨hb,qve,qkf⟩:=A4 hl hh hab;cases hc with
     |nil=>refine fin (v:=.ak) (by simp only [yN];simp only [List.length_nil] at hb;rw [hb]) (ax hR (fun _=>.tr ?_) h3);simp;exact .nil
     |b6 _ cs n z c hn hcl hsz hf hcc=>
      subst hn;have hE:we z xs cs:=⟨hcl,hf,hcc⟩;have qxi:∀z',(z'=z\/xs=[])->xs.length*z'=cs.length/\cut cs (a*z') ((b - a)*z')=some ((cs.drop (a*z)).take ((b - a)*z)):=by
       intro z' hz';rcases hz' with rfl|rfl
       ·refine⟨hcl.symm,?_⟩;have:=Nat.mul_le_mul_right z' qkf;have h1:a*z'+(b - a)*z'=b*z':=by rw [←Nat.add_mul];congr 1;omega
        rw [cJ,if_pos (by omega)]
       ·simp only [List.length_nil,Nat.zero_mul] at hcl qkf ⊢;have:cs=[]:=Qt.1 hcl;subst this;have:b=0:=by omega
        subst this;have:a=0:=by omega
        subst this;simp [cJ]
      obtain⟨q1,q2⟩:=qxi es (by rcases u7 (h2 xs rfl) rfl hcl hcc with h|h;exact .inr h;exact .inl h);have hE':=zH hE qve qkf;have hcan:∀c',Can (.l ((xs.drop a).take (b - a))) (.b6 ((cs.drop (a*z)).take ((b - a)*z)) (b - a) c'):=fun c'=>by have:=vQ hsz hE' c';rwa [show ((xs.drop a).take (b - a)).length=b - a by simp;omega] at this
      exact fin (va q1 hb q2) (ax hR (fun _=>.tr (hcan _)) h3)
    ·cases h1
   ·cases h1
  ·split at hk
   ·rename_i qxj;simp only [Qk] at qxj;obtain⟨⟨⟨hc1,hc2⟩,hc3⟩,hc4⟩:=qxj;obtain⟨k1,rfl⟩:=oW hc1;obtain⟨k2,hm2⟩:=oW hc2;cases hm2;obtain rfl:lo=none:=(by cases lo<;>first|rfl|cases hc3);obtain⟨l,h1,hsz,h2⟩:=hk;cases v<;>first|(cases h1;done)|skip
    cases h1;cases hc with
    |nil=>exact fin (v:=.ak) rfl (ax hR (fun _=>.bT) h2)
    |b6 _ cs n z c hn hcl hz' hf hcc=>
     refine fin (v:=.b6 [] 0 (some 0)) ?_ (ax hR (fun _=>.jL) h2);have q1:n*es=cs.length:=by
      rcases u7 hsz hn hcl hcc with h|h
      ·subst h;simp at hn;subst hn;simp at hcl;simp [hcl]
      ·rw [h,hcl]
     have hb:jd (ev st.env) none (some (.c (.int k1 (.ofNat 0)))) (some (.c (.int k2 (.ofNat 0)))) n n=some (0,0,0):=by rfl
     exact va q1 hb (by simp [cJ])
   ·cases hk
 |bT=>
  dsimp only at hk;split at hk
  ·rename_i qxj;simp only [Qk] at qxj;obtain⟨⟨hc1,hc2⟩,hc3⟩:=qxj;obtain⟨k1,rfl⟩:=oW hc1;obtain⟨k2,rfl⟩:=oW hc2;obtain rfl:lo=none:=(by cases lo<;>first|rfl|cases hc3);exact fin (v:=.ak) rfl (ax hR (fun _=>.bT) hk)
  ·cases hk
 |jL=>
  dsimp only at hk;split at hk
  ·rename_i qxj;simp only [Qk] at qxj;obtain⟨⟨hc1,hc2⟩,hc3⟩:=qxj;obtain⟨k1,rfl⟩:=oW hc1;obtain⟨k2,rfl⟩:=oW hc2;obtain rfl:lo=none:=(by cases lo<;>first|rfl|cases hc3);refine fin (v:=.b6 [] 0 (some 0)) ?_ (ax hR (fun _=>.jL) hk);have hb:jd (ev st.env) none (some (.c (.int k1 (.ofNat 0)))) (some (.c (.int k2 (.ofNat 0)))) 0 0=some (0,0,0):=by rfl
   exact va (by simp) hb (by simp [cJ])
  ·cases hk
 |_=>cases hk
theorem Fu (hR:R A V st) {len es:Nat} {x:aH} {hi:Option aH} (hz:0 < es) (h:dz V none x fun w=>jR nt V d len es w hi k):bM cf nt A V st d (.iE len es x none hi none) k:=by
 obtain⟨w,hw,hk⟩:=bG (g:=none) hR trivial h;generalize he:ev st.env x=p at hw;have go:∀{O off id:Nat} {v:TV} {ovs:List (Nat×VV)} {u:TV},p=.ptr id 0 off->A O=some (.ptr id 0 0)->V.H.get O=some (.ob v ovs)->dr v off (len*es)=some u->(oC V none hi fun h=>∃m,EV h len len=some m/\cy nt V d none (.sa O off m es) k)->bM cf nt A V st d (.iE len es x none hi none) k:=by
  intro O off id v ovs u e0 hO ho hu hk;subst e0;obtain⟨l,⟨m,h1,h2⟩,hl⟩:=lE (g:=none) hR trivial hk;obtain⟨z,hz',id',cs,ts,rfl,hH,hc⟩:=hR.heap O _ ho;rw [hO] at hz';cases hz';obtain⟨ts',_,q2,q3,_⟩:=gp hu;have:=hc.cells.symm.trans q2;cases this;have hb:jd (ev st.env) none hi none len len=some (0,m,len):=by
   have e0:∀n y,AZ (ev st.env) none n y=some n:=fun _ _=>rfl
   simp only [jd,e0,qu hl h1]
  have qxi:cut cs off (Nat.mul len es)=some ((cs.drop off).take (len*es)):=by rw [cJ];exact if_pos (by rw [←hc.len];exact q3)
  have qxd:kind (.iE len es x none hi none)=.plan fun ρ=>iW ρ len es x none hi none:=rfl
  refine⟨.ref id 0 off es m len true,st.H,st.nx,?_,ax hR (fun _=>.sa hz hO) h2⟩;simp only [fj,qxd,iW,he,hb,bS,dO,cM,hH,Nat.beq_refl,cond_true,qxi,fH,om];simp
 cases hw with
 |@ptr O off id hO=>
  simp only [jR] at hk;split at hk
  ·rename_i v ovs ho;obtain⟨u,h1,h2⟩:=hk;exact go rfl hO ho h1 h2
  ·cases hk
 |@pd O off id hO=>
  simp only [jR] at hk;split at hk
  ·rename_i v ovs ho;obtain⟨u,h1,h2⟩:=hk;exact go rfl hO ho h1 h2
  ·cases hk
 |_=>cases hk
theorem FU {sz:Nat} {es:List TV} {cs:List AV} (h:we sz es cs) (n:Nat):we sz (es.take n) (cs.take (min es.length n*sz)):=by
 have:=zH h (a:=0) (b:=min es.length n) (Qx _) (Nat.min_le_left _ _);rw [Nat.zero_mul,List.drop_zero,List.drop_zero,Nat.sub_zero] at this;have e:es.take (min es.length n)=es.take n:=by rw [List.take_eq_take_min (i:=n),Nat.min_comm]
 rwa [e] at this
theorem JG (hR:R A V st) {es:Nat} {s x:aH} (hz:0 < es) (h:dz V none s fun w=>dz V none x fun x=>xX nt V d es w x k):bM cf nt A V st d (.BY es s x) k:=by
 obtain⟨w,hw,h⟩:=bG (g:=none) hR trivial h;obtain⟨y,hy,hk⟩:=bG (g:=none) hR trivial h;generalize he:ev st.env s=p at hw;cases hw with
 |@sa O off n z id cap hz' hO=>
  simp only [xX] at hk;obtain⟨rfl,hk⟩:=aV hk;split at hk;rotate_left
  ·cases hk
  rename_i v ovs ho;split at hk;rotate_left
  ·cases hk
  obtain⟨xs,src,l,hx,u,hcp,hk⟩:=wF hR hz hy hk;obtain⟨q,hq,id',cs,ts,rfl,hH,hc⟩:=hR.heap O _ ho;rw [hO] at hq;cases hq;obtain⟨cs',us,h3,h4⟩:=x5 hc hcp (FU hx.el n);have qxd:kind (.BY z s x)=.plan fun ρ=>x4 z (ρ s) (ρ x):=rfl
  have qz9:first (src.cs l) (Nat.mul (min xs.length n) z)=some ((src.cs l).take (min xs.length n*z)):=by rw [nR];exact if_pos (by rw [hx.el.len];exact Nat.mul_le_mul_right z (Nat.min_le_left _ _))
  obtain⟨g1,g2⟩:=ng (o:=.ob u []) (ob:=.row 0 cs') hR ho hO (.inl rfl) ⟨_,cs',us,rfl,by rw [Map.au,if_pos rfl],h4⟩ (fun id hi=>(cj rfl).2 ((cj rfl).1 hi)) (fun _=>mj rfl);obtain⟨e',p1,V2,A2,p2,p3,p4,p5⟩:=ax (g:=none) (v:=.int .i64 ((min xs.length n:Nat):Int)) g1 (fun _=>VR.tr (.i _ _)) hk;refine⟨.int .i64 ((min xs.length n:Nat):Int),_,_,?_,e',p1,V2,A2,p2,g2.trans p3,(Ext.xj A (ig.set rfl)).trans p4,p5⟩;simp only [fj,qxd,x4,he,hx.eq,Nat.beq_refl,cond_true,bS,dO,hx.get,fH,hH,ot,qz9,h3,om];rw [show (min (xs.length:Int) (n:Int))=((min xs.length n:Nat):Int) by omega]
 |_=>cases hk
end
end Go.Ax.V
namespace Go.Ax.V
section
variable {prog:Map aq} {cf:eI} {nt:Nat} {A:aY} {V:aF} {st:St} {d:Option Nat} {g:G} {k:aF->Prop}
theorem wO (zero:List AV):∀m,(rows m zero).length=m*zero.length
 |0=>by simp [rows]
 |m+1=>by have:=wO zero m;unfold rows at this ⊢;rw [List.replicate_succ,List.flatten_cons,P7,this,Nat.add_mul,Nat.one_mul,Nat.add_comm]
theorem wN (zero:List AV):∀m j,j < m->((rows m zero).drop (j*zero.length)).take zero.length=zero
 |0,j,h=>by omega
 |m+1,0,h=>by unfold rows;rw [List.replicate_succ,List.flatten_cons,Nat.zero_mul,List.drop_zero,List.take_left]
 |m+1,j+1,h=>by have:=wN zero m j (by omega);unfold rows at this ⊢;rw [List.replicate_succ,List.flatten_cons,Nat.add_mul,Nat.one_mul,Nat.add_comm,List.drop_append,List.drop_of_length_le (by omega),List.nil_append];rwa [show zero.length+j*zero.length - zero.length=j*zero.length by omega]
theorem uT {cs:List AV} (h:bz c6 cs=true):eT (bV cs) cs/\∀x∈cs,AV.flat x=true:=by refine⟨⟨gy cs,fun j t x ht hx=>?_⟩,fun x hx=>(hU (aJ.1 h x hx)).2⟩;rw [k6,hx] at ht;cases ht;exact(hU (aJ.1 h x (P4 hx))).1
theorem B2 {zero:List AV} (h:bz c6 zero=true):ld (zZ zero.length zero) zero:=by
 have hb:=(uT h).1;have ag:ld (.a (bV zero)) zero:=.a _ _ hb.1 hb.2;unfold zZ;split
 ·rename_i hl
  match zero,hl,h with
  |[x],_,h=>have hx:=aJ.1 h x Qc;refine .one _ _ ?_ (hU hx).1;cases x<;>first|rfl|cases hx
 ·exact ag
theorem Hv (hR:R A V st) {es bytes:Nat} {zero:List AV} {n:aH} (h:pos es <| match bz c6 zero&&Nat.beq zero.length es with
   |true=>ia V none n fun n=>∃m,HA bytes n=some m/\fZ nt V d none .sl (.gr es (List.replicate m (zZ es zero))) k
   |false=>False):bM cf nt A V st d (.kG es bytes zero n) k:=by
 have hz:=(cV h).1;replace h:=(cV h).2;split at h
 ·rename_i hc;rw [Qk,Qn] at hc;obtain⟨hc,rfl⟩:=hc;obtain⟨v,hv,m,h1,h2⟩:=bQ (g:=none) hR trivial h;unfold HA at h1;split at h1
  ·rename_i ki z;generalize he:ev st.env n=p at hv;cases hv;split at h1
   ·rename_i m' hm;rw [cond_eq_ite] at h1;split at h1
    ·rename_i qxj;cases h1;refine qg (f:=fun id=>.ref id 0 0 zero.length m m false) (ob:=.row 0 (rows m zero)) rfl ?_ (gP hR h2 (fun A' hA=>⟨hz,.inr ⟨st.nx,0,0,rows m zero,by simp,by rw [Map.au,if_pos rfl],Qx _,?_⟩⟩) rfl rfl (fun A' O hO=>.sl hO))
     ·simp only [pE,he,hm,qxj,cond_true]
     ·rw [List.drop_zero];refine⟨by rw [wO,List.length_replicate],fun x hx=>?_,fun j e hj=>?_⟩
      ·unfold rows at hx;obtain⟨l,hl,hx⟩:=List.mem_flatten.1 hx;rw [List.mem_replicate] at hl;rw [hl.2] at hx;exact(uT hc).2 x hx
      ·have hlt:j < m:=by have:=(PV.1 hj).1;simpa using this
       rw [List.getElem?_replicate,if_pos hlt] at hj;cases hj;rw [wN zero m j hlt];exact B2 hc
    ·cases h1
   ·cases h1
  ·cases h1
 ·cases h
theorem JI (hR:R A V st) (ha:act g) {op:BinOp} {x y:aH} (h:ia V g x fun x=>ia V g y fun y=>di nt V d g (bF op x y) k):bM cf nt A V st d (.bin op x y) k:=by
 obtain⟨u,h1,h⟩:=bQ hR ha h;obtain⟨w,h2,h⟩:=bQ hR ha h;obtain⟨r,h3,h4⟩:=aS hR ha h;obtain⟨c,h5,h6⟩:=Es h3 h1 h2;have hk:kind (.bin op x y)=.plan fun ρ=>dI (yj op (ρ x) (ρ y)):=rfl
 exact aM hk (by simp only [h5,dI]) (h4 _ h6)
theorem M3 (hR:R A V st) (ha:act g) {op:UnOp} {x:aH} (h:ia V g x fun x=>di nt V d g (yu op x) k):bM cf nt A V st d (.un op x) k:=by
 obtain⟨u,h1,h⟩:=bQ hR ha h;obtain⟨r,h3,h4⟩:=aS hR ha h;obtain⟨c,h5,h6⟩:=E6 h3 h1;have hk:kind (.un op x)=.plan fun ρ=>dI (GO op (ρ x)):=rfl
 exact aM hk (by simp only [h5,dI]) (h4 _ h6)
theorem Hy (hR:R A V st) (ha:act g) {c:IntKind} {x:aH} (h:ia V g x fun x=>di nt V d g (AU c x) k):bM cf nt A V st d (.conv c x) k:=by
 obtain⟨u,h1,h⟩:=bQ hR ha h;obtain⟨r,h3,h4⟩:=aS hR ha h;unfold AU at h3;split at h3
 ·cases h3;generalize he:ev st.env x=p at h1;cases h1;exact aM rfl (by simp only [pG,he]) (h4 _ (.i _ _))
 ·cases h3
theorem FO {t:yD} {neg:Bool} {x y r:TV} {a b:AV} (h:J_ t neg x y=some r) (ha:Can x a) (hb:Can y b):∃c,ES t a b=some c/\r=.b (bif neg then !c else c):=by
 cases t with
 |one l=>
  simp only [J_] at h;cases hx:nQ x with
  |none=>rw [hx] at h;cases h
  |some x'=>
   rw [hx] at h;cases hy:nQ y with
   |none=>rw [hy] at h;cases h
   |some y'=>
    rw [hy] at h;simp only at h;cases hc:D9 l x' y' with
    |none=>rw [hc] at h;cases h
    |some c=>rw [hc] at h;cases h;exact⟨c,by rw [gv hx ha,gv hy hb];exact hc,by cases neg<;>rfl⟩
 |agg ls=>
  cases ha<;>first|(cases h;done)|skip
  rename_i xs as hl hf hh;cases hb<;>first|(cases h;done)|skip
  rename_i ys bs hl' hf' hh';simp only [J_] at h;cases hx:kS xs with
  |none=>rw [hx] at h;cases h
  |some x'=>
   rw [hx] at h;cases hy:kS ys with
   |none=>rw [hy] at h;cases h
   |some y'=>
    rw [hy] at h;simp only at h;cases hc:yz ls x' y' with
    |none=>rw [hc] at h;cases h
    |some c=>rw [hc] at h;cases h;refine⟨c,?_,by cases neg<;>rfl⟩;rw [jN hx ⟨hl,hh⟩,jN hy ⟨hl',hh'⟩];exact hc
 |slice=>cases h
theorem JF (hR:R A V st) (ha:act g) {t:yD} {neg:Bool} {x y:aH} (h:ia V g x fun x=>ia V g y fun y=>di nt V d g (J_ t neg x y) k):bM cf nt A V st d (.eq t neg x y) k:=by
 obtain⟨u,h1,h⟩:=bQ hR ha h;obtain⟨w,h2,h⟩:=bQ hR ha h;obtain⟨r,h3,h4⟩:=aS hR ha h;have hk:kind (.eq t neg x y)=.plan fun ρ=>Dn ρ t neg x y:=rfl
 obtain⟨c,h5,rfl⟩:=FO h3 h1 h2;exact aM hk (by simp only [Dn,h5];cases neg<;>rfl) (h4 _ (.b _))
theorem JE (hR:R A V st) {neg:Bool} {x y:aH} (hy:DS y=true) (h:ia V none x fun x=>∃es:List TV,uq x=some es/\∀b:Bool,(es≠[]->b=neg)->cy nt V d none (.tr (.b b)) k):bM cf nt A V st d (.eq .slice neg x y) k:=by
 obtain⟨u,h1,es,h2,h3⟩:=bQ (g:=none) hR trivial h;have hk:kind (.eq .slice neg x y)=.plan fun ρ=>Dn ρ .slice neg x y:=rfl
 have hyv:ev st.env y=.ak:=by
  cases y with
  |c v=>cases v<;>first|rfl|cases hy
  |t n=>cases hy
 have hc:∃c,ES .slice (ev st.env x) .ak=some c/\(es≠[]->c=false):=by
  generalize ev st.env x=a at h1;cases h1<;>first|(cases h2;done)|skip
  ·cases h2;exact⟨true,rfl,fun h=>absurd rfl h⟩
  ·exact⟨false,rfl,fun _=>rfl⟩
 obtain⟨c,h4,h5⟩:=hc;refine aM hk (v:=.bool (bif neg then !c else c)) (by simp only [Dn,hyv,h4];cases neg<;>rfl) (ax hR (fun _=>.tr (.b _)) (h3 _ (fun hne=>?_)));rw [h5 hne];cases neg<;>rfl
theorem Jz (hR:R A V st) (ha:act g) {mx:Bool} {xs:List aH} (h:CG V g xs fun xs=>di nt V d g (DD mx xs) k):bM cf nt A V st d (.yw mx xs) k:=by
 obtain⟨vs,h1,h⟩:=wT hR ha h;obtain⟨r,h3,h4⟩:=aS hR ha h;unfold DD at h3;split at h3
 ·rename_i v l hl;split at h3
  ·rename_i r' hr;have e:=jN hl h1;have hk:kind (.yw mx xs)=.plan fun ρ=>vl ρ mx xs:=rfl
   exact aM hk (by simp only [vl,e,hr,dI]) (h4 _ (oO h3))
  ·cases h3
 ·cases h3
theorem JB (hR:R A V st) (ha:act g) {x i:aH} (h:ia V g x fun x=>ia V g i fun i=>di nt V d g (DV x i) k):bM cf nt A V st d (.idx x i) k:=by
 obtain⟨u,h1,h⟩:=bQ hR ha h;obtain⟨w,h2,h⟩:=bQ hR ha h;obtain⟨r,h3,h4⟩:=aS hR ha h;unfold DV at h3;split at h3
 ·split at h3
  ·split at h3
   ·rename_i b hb;cases h3;generalize e1:ev st.env x=p at h1;generalize e2:ev st.env i=q at h2;cases h1;cases h2;exact aM rfl (by simp only [w8,e1,e2,hb]) (h4 _ (.i _ _))
   ·cases h3
  ·cases h3
 ·cases h3
theorem Fs (hR:R A V st) (ha:act g) {x:aH} {lo hi:Option aH} (h:ia V g x fun x=>oC V g lo fun lo=>oC V g hi fun hi=>di nt V d g (yL x lo hi) k):bM cf nt A V st d (.jY x lo hi) k:=by
 obtain⟨u,h1,h⟩:=bQ hR ha h;obtain⟨l,h,hl⟩:=lE hR ha h;obtain⟨hv,h,hh⟩:=lE hR ha h;obtain⟨r,h3,h4⟩:=aS hR ha h;unfold yL at h3;split at h3
 ·split at h3
  ·rename_i a b hab;cases h3;obtain⟨hb,_,_⟩:=A4 hl hh hab;generalize e1:ev st.env x=p at h1;cases h1;exact aM rfl (by simp only [ku,e1,hb]) (h4 _ (.s _))
  ·cases h3
 ·cases h3
theorem JD (hR:R A V st) (ha:act g) {i:Nat} {x:aH} (h:ia V g x fun x=>di nt V d g (nT i x) k):bM cf nt A V st d (.ext i x) k:=by
 obtain⟨u,h1,h⟩:=bQ hR ha h;obtain⟨r,h3,h4⟩:=aS hR ha h;unfold nT at h3;split at h3
 ·rename_i vs;generalize e1:ev st.env x=p at h1;cases h1 with
  |tp _ as hl hf hh=>
   have hlt:i < as.length:=by rw [←hl];exact(PV.1 h3).1
   have hx:as[i]?=some as[i]:=PU hlt;exact aM rfl (by simp only [w_,e1,hx,dI]) (h4 _ (hh i r _ h3 hx))
 ·cases h3
def sc (t:TV):Bool:=match t with|.l _=>false|.a _=>false|.tp _=>false|.pZ _ _=>false|_=>true
theorem nM {d:Nat} {H:ay} {v a:AV} (h:aP (d+1) H v=some a) (hi:∀cs n c,a≠.b6 cs n c) (ha:∀cs,a≠.agg cs) (ht:∀cs,a≠.dM cs):v=a:=by
 cases v with
 |ref id g off es len cap ex=>
  rw [ei] at h;split at h
  ·rw [cond_eq_ite] at h;split at h
   ·split at h
    ·split at h
     ·cases h;exact absurd rfl (hi _ _ _)
     ·cases h
    ·cases h
   ·cases h
  ·cases h
 |agg cs=>
  rw [eV] at h;split at h
  ·cases h;exact absurd rfl (ha _)
  ·cases h
 |dM cs=>
  rw [fy] at h;split at h
  ·cases h;exact absurd rfl (ht _)
  ·cases h
 |ptr=>cases h
 |j5=>cases h
 |_=>exact Qv h
theorem gA {t:TV} {a v:AV} (h:Can t a) (hs:sc t=true) {d:Nat} {H:ay} (him:aP (d+1) H v=some a):own (d+1) H v=true:=by
 cases h<;>first|(cases hs;done)|skip
 all_goals
  have:=nM him (fun _ _ _ h=>by cases h) (fun _ h=>by cases h) (fun _ h=>by cases h);subst this;rfl
theorem yo {ts:List TV} {as vs:List AV} {d:Nat} {H:ay} (f:TV->Bool) (ho:∀t a v,Can t a->f t=true->aP d H v=some a->own d H v=true) (hc:eT ts as) (hs:∀t∈ts,f t=true) (hm:cw (aP d H) vs=some as):bz (own d H) vs=true:=by
 rw [aJ];intro v hv;obtain⟨j,hj⟩:=List.getElem?_of_mem hv;obtain⟨hl,hat⟩:=eY hm;obtain⟨a,ha,him⟩:=hat j v hj;have hlt:j < ts.length:=by rw [hc.1];exact(PV.1 ha).1
 exact ho _ a v (hc.2 j _ a (PU hlt) ha) (hs _ (P5 hlt)) him
theorem tL {t:TV} {a v:AV} (h:Can t a) (hs:t.z9=true) {d:Nat} {H:ay} (him:aP (d+2) H v=some a):own (d+2) H v=true:=by
 cases h with
 |a ts as hl hf hh=>
  have hs':=aJ.1 hs;cases v with
  |agg cs=>
   rw [eV] at him;split at him
   ·rename_i cs' hm;cases him;rw [Af];exact yo sc (fun t a v h1 h2 h3=>gA h1 h2 h3) ⟨hl,hh⟩ (fun t ht=>hs' t ht) hm
   ·cases him
  |ref id g off es len cap ex=>
   rw [ei] at him;split at him
   ·rw [cond_eq_ite] at him;split at him
    ·split at him
     ·split at him<;>cases him
     ·cases him
    ·cases him
   ·cases him
  |dM cs=>rw [fy] at him;split at him<;>cases him
  |_=>cases him
 |tp ts as hl hf hh=>cases hs
 |pZ x u hf h=>cases hs
 |nil=>cases hs
 |b6=>cases hs
 |i k n=>exact gA (.i k n) rfl him
 |b x=>exact gA (.b x) rfl him
 |s x=>exact gA (.s x) rfl him
 |f n=>exact gA (.f n) rfl him
 |np=>exact gA .np rfl him
theorem Cn {t:TV} {a v:AV} (h:Can t a) (hs:t.Be=true) {d:Nat} {H:ay} (him:aP (d+3) H v=some a):own (d+3) H v=true:=by
 cases h with
 |tp ts as hl hf hh=>
  have hs':=aJ.1 hs;cases v with
  |dM cs=>
   rw [fy] at him;split at him
   ·rename_i cs' hm;cases him;rw [Ae];exact yo TV.z9 (fun t a v h1 h2 h3=>tL h1 h2 h3) ⟨hl,hh⟩ (fun t ht=>hs' t ht) hm
   ·cases him
  |ref id g off es len cap ex=>
   rw [ei] at him;split at him
   ·rw [cond_eq_ite] at him;split at him
    ·split at him
     ·split at him<;>cases him
     ·cases him
    ·cases him
   ·cases him
  |agg cs=>rw [eV] at him;split at him<;>cases him
  |_=>cases him
 |a ts as hl hf hh=>exact tL (.a ts as hl hf hh) hs him
 |nil=>cases hs
 |b6=>cases hs
 |i k n=>exact gA (.i k n) rfl him
 |b x=>exact gA (.b x) rfl him
 |s x=>exact gA (.s x) rfl him
 |f n=>exact gA (.f n) rfl him
 |pZ x u hf h=>cases hs
 |np=>exact gA .np rfl him
theorem uO {ts:List TV} {Q:TV->Prop} {f:Nat} {vs as':List AV} {H:ay} {nx:Nat} {p:Bool} (h:VS prog f ts fun r=>qR p r/\Q r) (h1:cw (aP deep H) vs=some as') (h2:eT ts as')
  (h3:bz AV.plain vs=true->as'=vs) (h4:p=true->bz AV.plain vs=true):∃v r,bK (aN prog) f vs .borrow H nx=some (v,H,nx)/\Can r v/\Q r:=by
 obtain⟨v,H',nx',g1,a,g2,r,g3,g4,g5⟩:=h as' h2;by_cases hp:bz AV.plain vs=true
 ·have e:=h3 hp;subst e;refine⟨a,r,?_,g3,g5⟩;have hend:d_ (some (v,H',nx')) false=some a:=by
   simp only [d_,cond_eq_ite];rw [if_neg (by decide)];by_cases hv:v.plain=true
   ·rw [if_pos hv];have:aP deep H' v=some v:=gu hv 27 _;rw [this] at g2;exact g2
   ·rw [if_neg hv];exact g2
  simp only [bK,hp,cond_true,g1,hend]
 ·have hpf:p=false:=by cases p with|true=>exact absurd (h4 rfl) hp|false=>rfl
  subst hpf;refine⟨a,r,?_,g3,g5⟩;have ho:own deep H' v=true:=Cn (d:=27) g3 g4 g2;have hpb:bz AV.plain vs=false:=by simpa using hp
  simp only [bK,hpb,cond_false,h1,g1,d_,cond_true,ho,g2]
theorem zM {ts:List TV} {Q:TV->Prop} {f:Nat} {vs as':List AV} {H:ay} {nx:Nat} (h:Lh prog f ts Q) (h1:cw (aP deep H) vs=some as') (h2:eT ts as')
  (h3:bz AV.plain vs=true->as'=vs):∃v r,bK (aN prog) f vs .borrow H nx=some (v,H,nx)/\Can r v/\Q r:=by
 obtain⟨v,H',nx',g1,ho,a,g2,r,g3,g5⟩:=h as' h2;by_cases hp:bz AV.plain vs=true
 ·have e:=h3 hp;subst e;refine⟨a,r,?_,g3,g5⟩;have hend:d_ (some (v,H',nx')) false=some a:=by
   simp only [d_,cond_eq_ite];rw [if_neg (by decide)];by_cases hv:v.plain=true
   ·rw [if_pos hv];have:aP deep H' v=some v:=gu hv 27 _;rw [this] at g2;exact g2
   ·rw [if_neg hv];exact g2
  simp only [bK,hp,cond_true,g1,hend]
 ·refine⟨a,r,?_,g3,g5⟩;have hpb:bz AV.plain vs=false:=by simpa using hp
  simp only [bK,hpb,cond_false,h1,g1,d_,cond_true,ho,g2]
theorem vm {sh:Sh} (hR:R A V st) (ha:act g) {f:Nat} {args:List aH} (h:sG sh prog nt V d g f args k):∃v,bK (aN prog) f (args.map (ev st.env)) .borrow st.H st.nx=some (v,st.H,st.nx)/\Next nt A V st d v st.H st.nx k:=by
 obtain⟨p,ts,as',hk,h1,h2,h3,h4⟩:=uV hR ha args _ h;cases g with
 |none=>
  dsimp only at hk;split at hk
  ·obtain⟨v,r,g1,g2,g3⟩:=uO (nx:=st.nx) hk h1 h2 h3 h4;exact⟨v,g1,ax hR (fun _=>.tr g2) g3⟩
  ·obtain⟨v,r,g1,g2,g3⟩:=zM (nx:=st.nx) hk h1 h2 h3;exact⟨v,g1,ax hR (fun _=>.tr g2) g3⟩
 |some q=>
  obtain⟨c,bb⟩:=q;obtain⟨r,hg,hput⟩:=hk;have hc:c=.b bb:=ha;subst hc;have hg':VS prog f ts fun r'=>r'=r/\qR p r:=by unfold gV at hg;cases bb<;>exact hg
  have hg'':VS prog f ts fun r'=>qR p r'/\r'=r:=hg'.mono (fun r' ⟨e,hs⟩=>by subst e;exact⟨hs,rfl⟩)
  obtain⟨v,r',g1,g2,g3⟩:=uO (nx:=st.nx) hg'' h1 h2 h3 h4;subst g3;exact⟨v,g1,ax hR (fun _=>.tr g2) hput⟩
end
end Go.Ax.V
namespace Go.Ax.V
section
variable {prog:Map aq} {nt:Nat}
section
variable {A:aY} {V:aF} {st:St}
theorem Aa (hR:R A V st) {n:Nat} {k:TV->Prop} (h:ia V none (.t n) k):∃c a,st.env.get n=some a/\Can c a/\k c:=by
 obtain⟨c,h1,h2⟩:=bQ (g:=none) hR trivial h;simp only [ia,dz] at h;split at h
 ·cases h
 ·rename_i e he;obtain⟨a,ha,_⟩:=hR.env n e he;rw [vH ha] at h1;exact⟨c,a,ha,h1,h2⟩
end
theorem gD {A:aY} {V:aF} {st:St} (h:R A V st) {t:Nat} {w:VV} {a:AV} (ha:st.env.get t=some a) (hw:VR A w a):R A (fL V t w) st where
 env t' e he:=by
  simp only [fL,Map.au] at he;split at he
  ·rename_i ht;subst ht;cases he;exact⟨a,ha,fun _=>hw⟩
  ·exact h.env t' e he
 heap:=h.heap
 inj:=h.inj
 used:=h.used
 one:=h.one
 fresh:=h.fresh
 eK:=h.eK
theorem ue {A0:aY} {Vc:aF} {st:St} (hR:R A0 Vc st) {O:Nat} {o:VO} {k:aF->Prop} {a:AV} {inn:Nat->Option AV} {I:Nat->Prop} (h:ny Vc O o k) (hi1:∀j x,inn j=some x->x.one=true)
  (hO:∀A':aY,(∀O x,A0 O=some x->A' O=some x)->(∀j,A' (.i O 0 j)=inn j)->(∀v j,0 < v->A' (.i O v j)=none)->OR A' st.H o a/\fV A' O a o/\∀id,cY A' o a id->I id) (h1:a.one=true)
  (hI:∀id,I id->¬b8 Vc A0 id):∃Vc' A',k Vc'/\R A' Vc' st/\(∀O' x,A0 O'=some x->A' O'=some x)/\A' O=some a/\Vc'.env=Vc.env/\(∀id,b8 Vc' A' id->b8 Vc A0 id\/I id)/\Vc'.H.get O=some o/\
   (∀(O':Nat) x,A' O'=some x->A0 O'=some x\/O'=O)/\(∀n x,A' n=some x->A0 n=some x\/Vc.us.get n.base=none):=by
 unfold ny at h;split at h
 ·cases h
 rename_i hus;have hnone:∀n:TN,n.base=O->A0 n=none:=fun n hn=>hR.used n (by rw [hn];exact hus)
 have hA':=oR (a:=a) (inn:=inn) hnone;obtain⟨g1,g2,g3⟩:=hO (jr A0 O a inn) hA' (fun j=>D6) (fun v j hv=>AF hv);refine⟨_,jr A0 O a inn,h,GF hR.env hR.heap hR.inj hR.used hR.one hR.fresh hR.eK hus h1 hi1 g1 g2 (fun id hi=>hI id (g3 id hi)),hA',jQ,rfl,fun id ⟨O',o',x,ho,hx,hi⟩=>?_,by simp only [Map.au,if_pos],fun O' x hx=>?_,fun n x hx=>?_⟩
 ·simp only [Map.au] at ho;by_cases e:O'=O
  ·subst e;rw [if_pos rfl] at ho;cases ho;rw [jQ] at hx;cases hx;exact .inr (g3 id hi)
  ·rw [if_neg e] at ho;have hx':A0 O'=some x:=by rwa [dQ (n:=.s O') e] at hx
   rw [kT e (hR.eK O' _ _ ho hx')] at hi;exact .inl ⟨O',o',x,ho,hx',hi⟩
 ·by_cases e:O'=O
  ·exact .inr e
  ·exact .inl (by rwa [dQ (n:=.s O') e] at hx)
 ·by_cases e:n.base=O
  ·exact .inr (by rw [e];exact hus)
  ·exact .inl (by rwa [dQ e] at hx)
theorem xu {A0:aY} {Vc:aF} {st:St} (hR:R A0 Vc st) {O:Nat} {o:VO} {k:aF->Prop} {a:AV} (h:ny Vc O o k) (hO:∀A':aY,(∀O x,A0 O=some x->A' O=some x)->OR A' st.H o a) (h1:a.one=true)
  (hid:∀id,bY a=some id->¬b8 Vc A0 id) (hpl:o.pl=true:=by rfl):∃Vc' A',k Vc'/\R A' Vc' st/\(∀O' x,A0 O'=some x->A' O'=some x)/\A' O=some a/\Vc'.env=Vc.env/\(∀id,b8 Vc' A' id->b8 Vc A0 id\/bY a=some id)/\Vc'.H.get O=some o/\
   (∀(O':Nat) x,A' O'=some x->A0 O'=some x\/O'=O):=
 let ⟨Vc',A',g1,g2,g3,g4,g5,g6,g7,g8,_⟩:=ue (inn:=fun _=>none) hR h (fun j x h=>by cases h) (fun A' h2 _ _=>⟨hO A' h2,mj hpl,fun id hi=>(cj hpl).1 hi⟩) h1 hid
 ⟨Vc',A',g1,g2,g3,g4,g5,g6,g7,g8⟩
def Told (H:ay) (sz:Nat) (es:List TV) (x:AV) (inn:Nat->Option AV) (I:Nat->Prop):Prop:=
 (∀j y,inn j=some y->y.one=true)/\∀(A':aY) (t:Nat),(∀j,A' (.i t 0 j)=inn j)->(∀v j,0 < v->A' (.i t v j)=none)->OR A' H (iY t sz es) x/\fV A' t x (iY t sz es)/\∀id,cY A' (iY t sz es) x id->I id
theorem jk {A0:aY} {Vc:aF} {st:St} (hR:R A0 Vc st) {O sz:Nat} {es:List TV} {k:aF->Prop} {a:AV} {inn:Nat->Option AV} {I:Nat->Prop} (h:ny Vc O (iY O sz es) k) (hT:Told st.H sz es a inn I) (h1:a.one=true) (hI:∀id,I id->¬b8 Vc A0 id) :
  ∃Vc' A',k Vc'/\R A' Vc' st/\(∀O' x,A0 O'=some x->A' O'=some x)/\A' O=some a/\Vc'.env=Vc.env/\(∀id,b8 Vc' A' id->b8 Vc A0 id\/I id)/\Vc'.H.get O=some (iY O sz es)/\
   (∀(O':Nat) x,A' O'=some x->A0 O'=some x\/O'=O)/\(∀n x,A' n=some x->A0 n=some x\/Vc.us.get n.base=none):=
 ue hR h hT.1 (fun A' _ h2 h3=>hT.2 A' O h2 h3) h1 hI
structure A6 (V:aF) (A:aY) (Vc:aF) (A0:aY) (st:St):Prop where
 old:R A V st
 new:R A0 Vc st
 apart:∀id,b8 V A id->¬b8 Vc A0 id
def yt (A0 A:aY):Prop:=∀(O:Nat) id,A0 O=some (.ptr id 0 0)->A O=some (.ptr id 0 0)
theorem Dh {sz:Nat} (h:Nat.blt sz D2=true) (hp:eu sz=true):0 < sz:=by unfold eu at hp;rw [h] at hp;simpa using hp
theorem Di {sz:Nat} (h:Nat.blt sz D2=false) (hp:eu sz=true):0 < Bv sz/\FG sz < Bv sz/\0 < ER sz:=by unfold eu at hp;rw [h] at hp;simpa using hp
theorem B_ {H:ay} {sz:Nat} {x:AV} {I:Nat->Prop} (hp:eu sz=true) (hx:x=.ak\/x=.b6 [] 0 (some 0)):Told H sz [] x (fun _=>none) I:=by
 have hi:∀id,bY x=some id->False:=fun id h=>by rcases hx with rfl|rfl<;>cases h
 refine⟨fun j y h=>(by cases h),fun A' t h1 h2=>?_⟩;unfold iY;cases hb:Nat.blt sz D2 with
 |true=>exact⟨⟨Dh hb hp,.inl ⟨rfl,hx⟩⟩,trivial,fun id h=>(hi id ((cj rfl).1 h)).elim⟩
 |false=>
  obtain⟨p1,p2,p3⟩:=Di hb hp;refine⟨⟨p1,p2,p3,.inl ⟨rfl,hx⟩⟩,⟨rfl,h2,fun j x hj=>(by rw [h1] at hj;cases hj),fun j j' x x' id _ _ hj=>(by rw [h1] at hj;cases hj),fun j x id _ hj=>(by rw [h1] at hj;cases hj)⟩,fun id h=>?_⟩;rcases h with h|⟨j,y,_,hj,_⟩
  ·exact(hi id h).elim
  ·rw [h1] at hj;cases hj
theorem lq {V:aF} {A:aY} {Vc:aF} {A0:aY} {st:St} (h:A6 V A Vc A0 st) {sz:Nat} {w:VV} {x:AV} (hw:uX A w x) {k:List TV->aF->Prop} (hk:gz V sz w k) :
  ∃es V',k es V'/\V'=jT V w/\Sub V V'/\(eu sz=true->∃inn,Told st.H sz es x inn fun id=>b8 V A id/\¬b8 V' A id)/\x.one=true/\(∀id,x≠.ptr id 0 0):=by
 cases w<;>first|(cases hk;done)|skip
 ·refine⟨[],V,hk,rfl,Sub.refl V,fun hz=>⟨_,B_ hz hw⟩,?_,?_⟩<;>rcases hw with rfl|rfl<;>first|rfl|(intro id hi;cases hi)
 ·rename_i O;have hA:A O=some x:=hw;simp only [gz] at hk;split at hk
  ·rename_i z es ho;split at hk;rotate_left
   ·cases hk
   rename_i hb;obtain⟨rfl,hk2⟩:=aV hk;obtain⟨y,hy,hs⟩:=h.old.heap O _ ho;rw [hA] at hy;cases hy;refine⟨es,_,hk2,rfl,bw V O,fun _=>⟨fun _=>none,fun j y h=>(by cases h),fun A' t _ _=>?_⟩,h.old.one O x hA,fun id e=>?_⟩
   ·unfold iY;rw [hb];refine⟨hs,trivial,fun id hi=>?_⟩;have hi':cY A (.gr z es) x id:=.inl ((cj rfl).1 hi);exact⟨⟨O,_,x,ho,hA,hi'⟩,cX h.old ho hA hi'⟩
   ·rcases hs.2 with ⟨_,e'|e'⟩|⟨_,_,_,_,e',_⟩<;>(rw [e] at e';cases e')
  ·rename_i K s io iz ver es ho;split at hk;rotate_left
   ·cases hk
   rename_i hsz;simp only [Bt,Qk,Qm,Qn] at hsz;obtain⟨hb,rfl,rfl,rfl⟩:=hsz;obtain⟨y,hy,hs⟩:=h.old.heap O _ ho;rw [hA] at hy;cases hy;obtain⟨rfl,hv1,hv0,hv2,hv3⟩:=h.old.eK O _ _ ho hA;refine⟨es,_,hk,rfl,bw V K,fun _=>⟨fun j=>if j < es.length then A (.i K ver j) else none,fun j y hj=>?_,fun A' t h1 h2=>?_⟩,h.old.one K x hA,fun id e=>?_⟩
   ·simp only at hj;split at hj
    ·exact h.old.one _ _ hj
    ·cases hj
   ·unfold iY;rw [hb];have e1:∀j,j < es.length->A' (.i t 0 j)=A (.i K ver j):=fun j hj=>(h1 j).trans (if_pos hj)
    have e2:∀j y,A' (.i t 0 j)=some y->j < es.length/\A (.i K ver j)=some y:=fun j y hy=>by
     rw [h1] at hy;simp only at hy;split at hy
     ·rename_i hj;exact⟨hj,hy⟩
     ·cases hy
    obtain⟨q1,q2,q3,q4⟩:=hs;refine⟨⟨q1,q2,q3,q4.imp (fun h=>h) ?_⟩,⟨rfl,h2,fun j x hx=>?_,fun j j' x x' id _ _ hx hx'=>?_,fun j x id _ hx=>?_⟩,fun id hi=>?_⟩
    ·rintro⟨id,g,b,cells,rfl,p1,p2,p3⟩;refine⟨id,g,b,cells,rfl,p1,p2,p3.len,fun j e he=>?_⟩;obtain⟨ts,g1,g2,g3,y,g4,g5,g6⟩:=p3.el j e he;exact⟨ts,g1,g2,g3,y,g4,by rw [e1 j (PV.1 he).1];exact g5,g6⟩
    ·exact(e2 j x hx).1
    ·exact hv2 j j' x x' id (by simp) (by simp) (e2 j x hx).2 (e2 j' x' hx').2
    ·exact hv3 j x id (by simp) (e2 j x hx).2
    ·have hi':cY A (.gn K (Bv sz) (FG sz) (ER sz) ver none es) x id:=by
      rcases hi with hi|⟨j,y,p1,p2,p3⟩
      ·exact .inl hi
      ·exact .inr ⟨j,y,by simp,(e2 j y p2).2,p3⟩
     exact⟨⟨K,_,x,ho,hA,hi'⟩,cX h.old ho hA hi'⟩
   ·rcases hs.2.2.2 with ⟨_,e'|e'⟩|⟨_,_,_,_,e',_⟩<;>(rw [e] at e';cases e')
  ·cases hk
theorem A6.sub {V V':aF} {A:aY} {Vc:aF} {A0:aY} {st:St} (h:A6 V A Vc A0 st) (hs:Sub V V'):A6 V' A Vc A0 st:=
 ⟨hs.r h.old,h.new,fun id ho=>h.apart id (hs.own ho)⟩
theorem gq {l:List (Nat×Nat)}:∀{ovs:List (Nat×VV)},kK ovs l=true->∀j w,bq j ovs=some w->de j l=true
 |[],h,j,w,ho=>by simp [bq] at ho
 |(i,w')::r,h,j,w,ho=>by
  simp only [kK,Qk] at h;rw [aZ] at ho;split at ho
  ·rename_i e;subst e;exact h.1
  ·exact gq h.2 j w ho
theorem gI {O j:Nat}:∀{l:List (Nat×Nat)},bq j (iL O l)=if de j l=true then some (.sl (u6 O j)) else none
 |[]=>by simp [iL,bq,de]
 |(i,z)::l=>by
  simp only [iL,aZ,gI (l:=l),de,Ql,Qn];by_cases e:i=j
  ·subst e;simp
  ·rw [if_neg e];by_cases hk:de j l=true
   ·rw [if_pos hk,if_pos (.inr hk)]
   ·rw [if_neg hk,if_neg];rintro(h|h)
    ·exact e h.symm
    ·exact hk h
theorem lu {Rt:Type} {O:Nat} {st:St} {ovs:List (Nat×VV)} {cs:List AV} {A:aY} (hsl:∀j w,bq j ovs=some w->∃x,cs[j]?=some x/\uX A w x):∀(offs:List (Nat×Nat)) (V Vc:aF) (A0:aY) (I:JL offs Rt) (k kc:Rt->aF->Prop),
  (∀p∈offs,eu p.2=true)->A6 V A Vc A0 st->iu V ovs offs I k->EG O offs Vc I kc->∃i V' Vc' A',k i V'/\kc i Vc'/\V'=kn V ovs offs/\A6 V' A Vc' A' st/\yt A' A0/\Sub V V'/\(∀O' x,A0 O'=some x->A' O'=some x)/\Vc'.env=Vc.env/\
   (∀id,b8 Vc' A' id->b8 Vc A0 id\/b8 V A id)/\(∀j,de j offs=true->∃x,cs[j]?=some x/\A' (u6 O j)=some x)
 |[],V,Vc,A0,I,k,kc,hz,h,hk,hkc=>⟨I,V,Vc,A0,hk,hkc,rfl,h,fun _ _ h=>h,Sub.refl V,fun _ _ h=>h,rfl,fun id h=>.inl h,fun j hj=>by cases hj⟩
 |(off,sz)::offs,V,Vc,A0,I,k,kc,hz,h,hk,hkc=>by
  simp only [iu] at hk;split at hk
  ·rename_i w hw;obtain⟨x,hx,hs⟩:=hsl off w hw;obtain⟨es,V1,hk1,hV1,hs1,qxJ,hone,hnp⟩:=lq h hs hk;have qz3:=hkc es;obtain⟨inn,hT⟩:=qxJ (hz (off,sz) Qc);obtain⟨Vc1,A1,qz2,hR1,hA1,hAo,qxp,hown,_,qxy,_⟩:=jk h.new qz3 hT hone (fun id hi=>h.apart id hi.1);have h1:A6 V1 A Vc1 A1 st:=⟨hs1.r h.old,hR1,fun id ho hc=>(hown id hc).elim (fun hc=>h.apart id (hs1.own ho) hc) (fun hi=>hi.2 ho)⟩;have hag:yt A1 A0:=fun O' id hO'=>by
    rcases qxy O' _ hO' with hh|rfl
    ·exact hh
    ·rw [hAo] at hO';cases hO';exact absurd rfl (hnp id)
   obtain⟨i,V',Vc',A',g1,g2,g0,g3,g3a,g4,g5,g6,g7,g8⟩:=lu hsl offs V1 Vc1 A1 (I es) k kc (fun p hp=>hz p (Qd _ hp)) h1 hk1 qz2;refine⟨i,V',Vc',A',g1,g2,by rw [g0,hV1];simp only [kn,hw],g3,fun O' id hO'=>hag O' id (g3a O' id hO'),hs1.trans g4,fun O' y hy=>g5 _ _ (hA1 _ _ hy),g6.trans qxp,fun id ho=>?_,fun j hj=>?_⟩
   ·rcases g7 id ho with ho|ho
    ·rcases hown id ho with ho|hi
     ·exact .inl ho
     ·exact .inr hi.1
    ·exact .inr (hs1.own ho)
   ·simp only [de,Ql,Qn] at hj;rcases hj with rfl|hj
    ·exact⟨x,hx,g5 _ _ hAo⟩
    ·exact g8 j hj
  ·cases hk
theorem jI {st:St} {A:aY}:∀(J:List tg) (V Vc:aF) (A0:aY) (I:JT J Prop) (k:aF->Prop),J.all kV=true->A6 V A Vc A0 st->yt A0 A->pY J V I->k_ J Vc I k->
  ∃Vc' A',k Vc'/\R A' Vc' st/\(∀id,b8 Vc' A' id->b8 Vc A0 id\/b8 V A id)/\A6 (fR J V) A Vc' A' st/\Sub V (fR J V)
 |[],V,Vc,A0,I,k,hp,h,hag,hk,hkc=>⟨Vc,A0,hkc hk,h.new,fun id h=>.inl h,h,Sub.refl V⟩
 |.tr t::J,V,Vc,A0,I,k,hp,h,hag,hk,hkc=>by rw [List.all_cons,Qk] at hp;obtain⟨v,a,ha,hc,hk⟩:=Aa h.old hk;obtain⟨Vc',A',g1,g2,g3,g4⟩:=jI J V _ A0 (I v) k hp.2 ⟨h.old,gD h.new ha (.tr hc),h.apart⟩ hag hk (hkc v);exact⟨Vc',A',g1,g2,g3,g4⟩
 |.sl t sz::J,V,Vc,A0,I,k,hp,h,hag,hk,hkc=>by
  rw [List.all_cons,Qk] at hp;have hz:eu sz=true:=hp.1;have hk':dz V none (.t t) fun w=>gz V sz w fun es V'=>pY J V' (I es):=hk
  simp only [dz] at hk';split at hk'
  ·cases hk'
  rename_i e he;obtain⟨a,ha,hv⟩:=h.old.env t e he;split at hk';rotate_left
  ·cases hk'
  rename_i hg;have hv':=hv (fun c bb hh=>by rw [hg] at hh;cases hh);have hsl:uX A e.v a:=by
   have hne:=hk';unfold gz at hne;generalize e.v=w at hv' hne;cases hv'<;>first|(cases hne;done)|skip
   ·exact .inl rfl
   ·exact .inr rfl
   ·assumption
  obtain⟨es,V1,hk1,hV1,hs1,qxJ,hone,hnp⟩:=lq h hsl hk';have qz3:=hkc es;obtain⟨inn,hT⟩:=qxJ hz;obtain⟨Vc1,A1,qz2,hR1,hA1,hAo,qxp,hown,_,qxy,_⟩:=jk h.new qz3 hT hone (fun id hi=>h.apart id hi.1);have h1:A6 V1 A (fL Vc1 t (.sl t)) A1 st:=⟨hs1.r h.old,gD hR1 ha (.sl hAo),fun id ho hc=>(hown id hc).elim (fun hc=>h.apart id (hs1.own ho) hc) (fun hi=>hi.2 ho)⟩;have qvd:yt A1 A:=fun O' id hO'=>by
   rcases qxy O' _ hO' with hh|rfl
   ·exact hag O' id hh
   ·rw [hAo] at hO';cases hO';exact absurd rfl (hnp id)
  obtain⟨Vc',A',g1,g2,g3,g4,g5⟩:=jI J V1 _ A1 (I es) k hp.2 h1 qvd hk1 qz2;have hvv:ct V (.t t)=e.v:=by simp only [ct,he]
  have qxb:fR (.sl t sz::J) V=fR J V1:=by simp only [fR];rw [hvv,hV1]
  refine⟨Vc',A',g1,g2,fun id ho=>?_,by rw [qxb];exact g4,by rw [qxb];exact hs1.trans g5⟩;rcases g3 id ho with ho|ho
  ·rcases hown id ho with ho|hi
   ·exact .inl ho
   ·exact .inr hi.1
  ·exact .inr (hs1.own ho)
 |.pt t O off::J,V,Vc,A0,I,k,hp,h,hag,hk,hkc=>by
  rw [List.all_cons,Qk] at hp;simp only [k_] at hkc;split at hkc;rotate_left
  ·cases hkc
  rename_i v ovs hO;obtain⟨y,hy,id,cs,ts,rfl,hH,hc⟩:=h.new.heap O _ hO;have qvb:=hag O id hy;have hk':dz V none (.t t) fun w=>match w with
   |.ptr O' off'=>same O' O (same off' off (pY J V I))
   |_=>False:=hk
  simp only [dz] at hk';split at hk'
  ·cases hk'
  rename_i e he;obtain⟨a,ha,hv⟩:=h.old.env t e he;split at hk';rotate_left
  ·cases hk'
  rename_i hg;have hv':=hv (fun c bb hh=>by rw [hg] at hh;cases hh);generalize e.v=w at hv' hk';cases hv'<;>first|(cases hk';done)|skip
  rename_i O' off' id' hO';obtain⟨rfl,hk'⟩:=aV hk';obtain⟨rfl,hk'⟩:=aV hk';rw [qvb] at hO';cases hO';obtain⟨Vc',A',g1,g2,g3,g4⟩:=jI J V _ A0 I k hp.2 ⟨h.old,gD h.new ha (.ptr hy),h.apart⟩ hag hk' hkc;exact⟨Vc',A',g1,g2,g3,g4⟩
 |.ps t t0::J,V,Vc,A0,I,k,hp,h,hag,hk,hkc=>by
  rw [List.all_cons,Qk] at hp;have hk':dz V none (.t t0) fun w0=>dz V none (.t t) fun w=>match w0 with
   |.sl O=>(match w with
    |.sl O'=>same O' O (pY J V I)
    |_=>False)
   |_=>False:=hk
  simp only [dz] at hk';split at hk'
  ·cases hk'
  rename_i e0 he0;obtain⟨a0,ha0,hv0⟩:=h.old.env t0 e0 he0;split at hk';rotate_left
  ·cases hk'
  rename_i hg0;have qwE:=hv0 (fun c bb hh=>by rw [hg0] at hh;cases hh);split at hk'
  ·cases hk'
  rename_i e he;obtain⟨a,ha,hv⟩:=h.old.env t e he;split at hk';rotate_left
  ·cases hk'
  rename_i hg;have hv':=hv (fun c bb hh=>by rw [hg] at hh;cases hh);generalize e0.v=w0 at qwE hk';cases qwE<;>first|(cases hk';done)|skip
  rename_i O hO0;generalize e.v=w at hv' hk';cases hv'<;>first|(cases hk';done)|skip
  rename_i O' hO;have hk2:same O' O (pY J V I):=hk';clear hk';obtain⟨rfl,hk'⟩:=aV hk2;rw [hO0] at hO;cases hO;simp only [k_] at hkc;split at hkc;rotate_left
  ·cases hkc
  rename_i c hc;split at hkc;rotate_left
  ·cases hkc
  rename_i hcg;split at hkc;rotate_left
  ·cases hkc
  rename_i P hcv;obtain⟨a',ha',hw⟩:=h.new.env t0 c hc;have hw':=hw (fun c bb hh=>by rw [hcg] at hh;cases hh);rw [ha0] at ha';cases ha';rw [hcv] at hw';obtain⟨Vc',A',g1,g2,g3,g4⟩:=jI J V _ A0 I k hp.2 ⟨h.old,gD h.new ha hw',h.apart⟩ hag hk' hkc;exact⟨Vc',A',g1,g2,g3,g4⟩
 |.ob O offs::J,V,Vc,A0,I,k,hp,h,hag,hk,hkc=>by
  rw [List.all_cons,Qk] at hp;have hz:∀p∈offs,eu p.2=true:=fun p hm=>Qj.1 hp.1 p hm
  simp only [pY] at hk;split at hk;rotate_left
  ·cases hk
  rename_i v ovs hO;split at hk;rotate_left
  ·cases hk
  rename_i hkeys;obtain⟨y,hy,id,cs,ts,rfl,hH,hc⟩:=h.old.heap O _ hO;have hsl:∀j w,bq j ovs=some w->∃x,cs[j]?=some x/\uX A w x:=fun j w hj=>by have hlt:=hc.keys j w hj;have hx:cs[j]?=some (cs[j]'(by rw [←hc.len];exact hlt)):=PU _;have:=hc.at_ j _ _ (PU hlt) hx;rw [hj] at this;exact⟨_,hx,this⟩
  have qxh:=cX h.old hO hy (id:=id) (.inl rfl);have qxt:b8 V A id:=⟨O,_,_,hO,hy,.inl rfl⟩;have h1:A6 (bx V O) A Vc A0 st:=h.sub (bw V O);obtain⟨i,V',Vc',A',g1,g2,g0,g3,g3a,g4,g5,g6,g7,g8⟩:=lu hsl offs (bx V O) Vc A0 (I v) (fun I V'=>pY J V' I) _ hz h1 hk (hkc v);have hor:∀A3:aY,(∀O x,A' O=some x->A3 O=some x)->OR A3 st.H (.ob v (iL O offs)) (.ptr id 0 0):=by
   intro A3 hA3;refine⟨id,cs,ts,rfl,hH,⟨hc.cells,hc.len,fun j w hj=>?_,fun j t x ht hx=>?_⟩⟩
   ·rw [gI] at hj;split at hj
    ·rename_i hh;obtain⟨x,hx,_⟩:=g8 j hh;rw [hc.len];exact(PV.1 hx).1
    ·cases hj
   ·rw [gI];by_cases hh:de j offs=true
    ·rw [if_pos hh];obtain⟨x',hx',hA'⟩:=g8 j hh;rw [hx] at hx';cases hx';exact hA3 _ _ hA'
    ·rw [if_neg hh];have:=hc.at_ j t x ht hx;cases ho:bq j ovs with
     |none=>rw [ho] at this;exact this
     |some w=>exact absurd (gq hkeys j w ho) hh
  obtain⟨Vc2,A2,p1,p2,p3,p4,p5,p6,p7,p8⟩:=xu g3.new (a:=.ptr id 0 0) g2 hor rfl (fun id' hi=>by
   cases hi;intro ho;rcases g7 _ ho with ho|ho
   ·exact h.apart _ qxt ho
   ·exact qxh ho)
  have h2:A6 V' A Vc2 A2 st:=⟨g3.old,p2,fun id' ho hc'=>by
   rcases p6 id' hc' with hc'|hi
   ·exact g3.apart id' ho hc'
   ·cases hi;exact qxh (g4.own ho)⟩
  have qvc:yt A2 A:=fun O' id' hO'=>by
   rcases p8 O' _ hO' with hh|rfl
   ·exact hag O' id' (g3a O' id' hh)
   ·rw [p4] at hO';cases hO';exact hy
  obtain⟨Vc3,A3,q1,q2,q3,q4,q5⟩:=jI J V' Vc2 A2 i k hp.2 h2 qvc g1 p1;have qxb:fR (.ob O offs::J) V=fR J V':=by simp only [fR,hO];rw [g0]
  refine⟨Vc3,A3,q1,q2,fun id' ho=>?_,by rw [qxb];exact q4,by rw [qxb];exact((bw V O).trans g4).trans q5⟩;rcases q3 id' ho with ho|ho
  ·rcases p6 id' ho with ho|hi
   ·rcases g7 id' ho with ho|ho
    ·exact .inl ho
    ·exact .inr ((bw V O).own ho)
   ·cases hi;exact .inr qxt
  ·exact .inr ((bw V O).own (g4.own ho))
 |.st t offs::J,V,Vc,A0,I,k,hp,h,hag,hk,hkc=>by
  rw [List.all_cons,Qk] at hp;have hz:∀p∈offs,eu p.2=true:=fun p hm=>Qj.1 hp.1 p hm
  have hk':dz V none (.t t) fun w=>match w with
   |.st v ovs=>(match kK ovs offs with
    |true=>iu (R:=JT J Prop) V ovs offs (I v) fun I V'=>pY J V' I
    |false=>False)
   |_=>False:=hk
  simp only [dz] at hk';split at hk'
  ·cases hk'
  rename_i e he;obtain⟨a,ha,hv⟩:=h.old.env t e he;split at hk';rotate_left
  ·cases hk'
  rename_i hg;have hv':=hv (fun c bb hh=>by rw [hg] at hh;cases hh);have hvv:ct V (.t t)=e.v:=by simp only [ct,he]
  generalize e.v=w at hv' hk' hvv;cases hv'<;>first|(cases hk';done)|skip
  rename_i v ovs cs ts hts hc;simp only at hk';split at hk';rotate_left
  ·cases hk'
  rename_i hkeys;have hsl:∀j w,bq j ovs=some w->∃x,cs[j]?=some x/\uX A w x:=fun j w hj=>by have hlt:=hc.keys j w hj;have hx:cs[j]?=some (cs[j]'(by rw [←hc.len];exact hlt)):=PU _;have:=hc.at_ j _ _ (PU hlt) hx;rw [hj] at this;exact⟨_,hx,this⟩
  obtain⟨i,V',Vc',A',g1,g2,g0,g3,g3a,g4,g5,g6,g7,g8⟩:=lu hsl offs V Vc A0 (I v) (fun I V'=>pY J V' I) _ hz h hk' (hkc v);have hcr:aU A' v (iL t offs) cs ts:=by
   refine⟨hc.cells,hc.len,fun j w hj=>?_,fun j t' x ht hx=>?_⟩
   ·rw [gI] at hj;split at hj
    ·rename_i hh;obtain⟨x,hx,_⟩:=g8 j hh;rw [hc.len];exact(PV.1 hx).1
    ·cases hj
   ·rw [gI];by_cases hh:de j offs=true
    ·rw [if_pos hh];obtain⟨x',hx',hA'⟩:=g8 j hh;rw [hx] at hx';cases hx';exact hA'
    ·rw [if_neg hh];have:=hc.at_ j t' x ht hx;cases ho:bq j ovs with
     |none=>rw [ho] at this;exact this
     |some w=>exact absurd (gq hkeys j w ho) hh
  obtain⟨Vc3,A3,q1,q2,q3,q4,q5⟩:=jI J V' (fL Vc' t (.st v (iL t offs))) A' i k hp.2 ⟨g3.old,gD g3.new ha (.st hts hcr),g3.apart⟩ (fun O' id' hO'=>hag O' id' (g3a O' id' hO')) g1 g2;have qxb:fR (.st t offs::J) V=fR J V':=by simp only [fR,hvv];rw [g0]
  refine⟨Vc3,A3,q1,q2,fun id' ho=>?_,by rw [qxb];exact q4,by rw [qxb];exact g4.trans q5⟩;rcases q3 id' ho with ho|ho
  ·rcases g7 id' ho with ho|ho
   ·exact .inl ho
   ·exact .inr ho
  ·exact .inr (g4.own ho)
theorem R.zero {A:aY} {V:aF} {st:St} (h:R A V st):R (fun _=>none) V0 st:=
 ⟨fun t e he=>(by cases he),fun O o ho=>(by cases ho),fun O O' o o' a a' id ho=>(by cases ho),fun _ _=>rfl,fun O a ha=>(by cases ha),h.fresh,fun O o a ho=>(by cases ho)⟩
theorem xx {A:aY} {V:aF} {st:St} (h:R A V st) {J:List tg} {I:JT J Prop} {k:aF->Prop} (hp:J.all kV=true) (hk:pY J V I) (hkc:k_ J V0 I k):∃Vc A',k Vc/\R A' Vc st/\Fr V A st.H st.nx Vc A' st.H st.nx:=by
 have y8:∀id,¬b8 V0 (fun _=>none) id:=fun id ⟨O,o,a,ho,_⟩=>by cases ho
 obtain⟨Vc,A',g1,g2,g3,_⟩:=jI J V V0 (fun _=>none) I k hp ⟨h,h.zero,fun id _ hc=>y8 id hc⟩ (fun O id hO=>by cases hO) hk hkc;exact⟨Vc,A',g1,g2,⟨Qy _,fun _ _ _=>rfl,fun id ho=>(g3 id ho).elim (fun h=>absurd h (y8 id)) .inl⟩⟩
end
end Go.Ax.V
namespace Go.Ax.V
def EP (prog:Map aq) (f np:Nat) (Jout:List tg) (Q:JT Jout Prop) (Vc:aF):Prop:=
 ∀(A:aY) (as:List AV) (H:ay) (nx:Nat),as.length=np->R A Vc ⟨cI as 0 .leaf,H,nx⟩->
  ∃v H' nx' A' V',aN prog f as H nx=some (v,H',nx')/\R A' V' ⟨(cI as 0 .leaf).put (some v) np,H',nx'⟩/\pY Jout V' Q/\Fr Vc A H nx V' A' H' nx'
def Ov (prog:Map aq) (f np:Nat) (Jin Jout:List tg) (Q:JT Jout Prop):JT Jin Prop:=Gx Jin V0 (EP prog f np Jout Q)
def Nz (prog:Map aq) (f:Nat) (T:aF->List VV->(VV->aF->Prop)->Prop):Prop:=
 ∀(A:aY) (V:aF) (st:St) (ws:List VV) (as:List AV) (k:VV->aF->Prop),R A V st->ws.length=as.length->(∀(j:Nat) w a,ws[j]?=some w->as[j]?=some a->VR A w a)->T V ws k->
  ∃v H' nx' A' V' w,aN prog f as st.H st.nx=some (v,H',nx')/\R A' V' ⟨st.env,H',nx'⟩/\VR A' w v/\Ext V A V' A'/\Fr V A st.H st.nx V' A' H' nx'/\k w V'
structure n9 (prog:Map aq) (sh:Sh):Prop where
 vs:sh.vs=Ov prog
 inl:∀f T,sh.inl f=some T->Nz prog f T
theorem uf {n:Nat}:∀{l:List Nat},lV n l=true↔n∈l
 |[]=>by simp [lV]
 |m::l=>by simp [lV,uf (l:=l)]
theorem lM {us:Map Unit} {O:Nat} (h:kR us O=true):us.get O=none:=by
 unfold kR at h;split at h
 ·cases h
 ·assumption
theorem kF {V:aF} {O:Nat} {o:VO} {k:aF->Prop} (hf:kR V.us O=true) (h:k (gh V O o)):ny V O o k:=by have hn:=lM hf;unfold ny;rw [hn];exact h
def BP (V V':aF):Prop:=∀T,V.us.get T=some ()->V'.us.get T=some ()/\V'.H.get T=V.H.get T
theorem oJ {V:aF} {O:Nat} {o:VO} (hf:kR V.us O=true):BP V (gh V O o):=by
 intro T hT;have hne:T≠O:=by rintro rfl;rw [lM hf] at hT;cases hT
 exact⟨by simp only [gh,Map.au,if_neg hne];exact hT,by simp only [gh,Map.au,if_neg hne]⟩
theorem BP.trans {V V1 V2:aF} (h:BP V V1) (h':BP V1 V2):BP V V2:=fun T hT=>let ⟨a,b⟩:=h T hT;let ⟨c,d⟩:=h' T a;⟨c,d.trans b⟩
theorem vZ {Rt:Type} {O:Nat}:∀(offs:List (Nat×Nat)) (V:aF) (us:Map Unit) (k:aF->Rt) (kk:Rt->aF->Prop),Jy O offs V.us=some us->(∀V',V'.us=us->BP V V'->kk (k V') V')->EG O offs V (Lv O offs V k) kk
 |[],V,us,k,kk,h,hk=>by cases h;exact hk V rfl (fun T hT=>⟨hT,rfl⟩)
 |(off,sz)::offs,V,us,k,kk,h,hk=>by
  simp only [Jy,cond_eq_ite] at h;split at h
  ·rename_i hf;intro es;refine kF hf ?_;exact vZ offs _ us k kk h (fun V' h1 h2=>hk V' h1 ((oJ hf).trans h2))
  ·cases h
theorem lU:∀(J:List tg) (V:aF) (obs:List Nat) (k:aF->Prop),Bm J V.us obs=true->(∀O∈obs,V.us.get O=some ()/\∃v ov,V.H.get O=some (.ob v ov))->k_ J V (Gx J V k) k
 |[],V,obs,k,h,ho=>fun hk=>hk
 |.tr t::J,V,obs,k,h,ho=>fun v=>lU J (fL V t (.tr v)) obs k h ho
 |.sl t sz::J,V,obs,k,h,ho=>by simp only [Bm,Qk] at h;intro es;refine kF h.1 ?_;refine lU J _ obs k h.2 (fun O hO=>?_);obtain⟨h1,v,ov,h2⟩:=ho O hO;obtain⟨h3,h4⟩:=oJ (o:=iY t sz es) h.1 O h1;exact⟨h3,v,ov,by rw [←h2];exact h4⟩
 |.pt t O off::J,V,obs,k,h,ho=>by simp only [Bm,Qk] at h;obtain⟨h1,v,ov,h2⟩:=ho O (uf.1 h.1);simp only [k_,h2];exact lU J (fL V t (.ptr O off)) obs k h.2 ho
 |.ob O offs::J,V,obs,k,h,ho=>by
  simp only [Bm] at h;split at h
  ·rename_i us hus;rw [Qk] at h;intro v;refine vZ offs V us _ _ hus (fun V' hu hkp=>?_);have hf:kR V'.us O=true:=by rw [hu];exact h.1
   refine kF hf ?_;refine lU J _ (O::obs) k (by show Bm J (V'.us.put (some ()) O) (O::obs)=true;rw [hu];exact h.2) (fun O' hO'=>?_);rcases Qf.1 hO' with rfl|hO'
   ·exact⟨by simp only [gh,Map.au,if_pos],v,iL O' offs,by simp only [gh,Map.au,if_pos]⟩
   ·obtain⟨h1,v',ov,h2⟩:=ho O' hO';obtain⟨h3,h4⟩:=(hkp.trans (oJ (o:=.ob v (iL O offs)) hf)) O' h1;exact⟨h3,v',ov,by rw [←h2];exact h4⟩
  ·cases h
 |.st t offs::J,V,obs,k,h,ho=>by
  simp only [Bm] at h;split at h
  ·rename_i us hus;intro v;refine vZ offs V us _ _ hus (fun V' hu hkp=>?_);refine lU J _ obs k (by show Bm J V'.us obs=true;rw [hu];exact h) (fun O' hO'=>?_);obtain⟨h1,v',ov,h2⟩:=ho O' hO';obtain⟨h3,h4⟩:=hkp O' h1;exact⟨h3,v',ov,by rw [←h2];exact h4⟩
  ·cases h
 |.ps t t0::J,V,obs,k,h,ho=>by cases h
section
variable {prog:Map aq} {nt:Nat}
theorem oz {A:aY} {V:aF} {st:St} (hR:R A V st) {O:Nat} {o:VO} {a:AV} (hA:A O=some a) (hO:OR A st.H o a) (hid:∀id,bY a=some id->¬b8 V A id) (hpl:o.pl=true:=by rfl) :
  R A (bk V O o) st/\∀id,b8 (bk V O o) A id->b8 V A id\/bY a=some id:=by
 refine⟨⟨hR.env,fun O' o' ho=>?_,fun O1 O2 o1 o2 a1 a2 id ho1 ho2 ha1 ha2 hi1 hi2=>?_,hR.used,hR.one,hR.fresh,fun O' o' x ho hx=>?_⟩,fun id ⟨O',o',x,ho,hx,hi⟩=>?_⟩
 ·simp only [bk,Map.au] at ho;split at ho
  ·rename_i e;subst e;cases ho;exact⟨a,hA,hO⟩
  ·exact hR.heap O' o' ho
 ·simp only [bk,Map.au] at ho1 ho2;by_cases e1:O1=O
  ·by_cases e2:O2=O
   ·rw [e1,e2]
   ·subst e1;rw [if_neg e2] at ho2;rw [if_pos rfl] at ho1;cases ho1;rw [hA] at ha1;cases ha1;exact absurd ⟨O2,_,a2,ho2,ha2,hi2⟩ (hid id ((cj hpl).1 hi1))
  ·rw [if_neg e1] at ho1;by_cases e2:O2=O
   ·subst e2;rw [if_pos rfl] at ho2;cases ho2;rw [hA] at ha2;cases ha2;exact absurd ⟨O1,_,a1,ho1,ha1,hi1⟩ (hid id ((cj hpl).1 hi2))
   ·rw [if_neg e2] at ho2;exact hR.inj O1 O2 _ _ a1 a2 id ho1 ho2 ha1 ha2 hi1 hi2
 ·simp only [bk,Map.au] at ho;split at ho
  ·rename_i e;subst e;cases ho;exact mj hpl
  ·exact hR.eK O' o' x ho hx
 ·simp only [bk,Map.au] at ho;by_cases e:O'=O
  ·subst e;rw [if_pos rfl] at ho;cases ho;rw [hA] at hx;cases hx;exact .inr ((cj hpl).1 hi)
  ·rw [if_neg e] at ho;exact .inl ⟨O',o',x,ho,hx,hi⟩
structure wh (V2:aF) (A2:aY) (st2:St) (Vr:aF) (A:aY) (st:St):Prop where
 old:R A2 V2 st2
 new:R A Vr st
 H:st.H=st2.H
 nx:st.nx=st2.nx
 apart:∀id,b8 V2 A2 id->¬b8 Vr A id
theorem mq {V2 Vr:aF} {A2 A:aY} {st2 st:St} (h:wh V2 A2 st2 Vr A st) {sz:Nat} {w:VV} {x:AV} (hw:uX A2 w x) {k:List TV->aF->Prop} (hk:gz V2 sz w k) :
  ∃es V',k es V'/\Sub V2 V'/\(eu sz=true->∃inn,Told st.H sz es x inn fun id=>b8 V2 A2 id/\¬b8 V' A2 id)/\x.one=true:=by
 obtain⟨es,V',h1,_,h2,h3,h4,h5⟩:=lq (Vc:=V0) (A0:=fun _=>none) (st:=st2) ⟨h.old,h.old.zero,fun id _ ⟨O,o,a,ho,_⟩=>(by cases ho)⟩ hw hk;exact⟨es,V',h1,h2,by rw [h.H];exact h3,h4⟩
theorem mw {Rt:Type} {d:Nat} {st2 st:St} {ovs:List (Nat×VV)} {cs:List AV} {A2:aY} (hsl:∀j w,bq j ovs=some w->∃x,cs[j]?=some x/\uX A2 w x):∀(offs:List (Nat×Nat)) (V2 Vr:aF) (A:aY) (us:Map Unit) (kc:aF->Rt) (k:Rt->aF->Prop),
  (∀p∈offs,eu p.2=true)->wh V2 A2 st2 Vr A st->y7 d offs Vr.us=some us->iu V2 ovs offs (El d offs Vr kc) k->
  ∃V2' Vr' A',k (kc Vr') V2'/\wh V2' A2 st2 Vr' A' st/\Sub V2 V2'/\Vr'.us=us/\(∀O x,A O=some x->A' O=some x)/\(∀id,b8 Vr' A' id->b8 Vr A id\/b8 V2 A2 id)/\(∀j,de j offs=true->∃x,cs[j]?=some x/\A' (mm d j)=some x)/\
   (∀n x,A' n=some x->A n=some x\/Vr.us.get n.base=none)/\ig Vr Vr'
 |[],V2,Vr,A,us,kc,k,hz,h,hus,hk=>by cases hus;exact⟨V2,Vr,A,hk,h,Sub.refl V2,rfl,fun _ _ h=>h,fun id h=>.inl h,fun j hj=>(by cases hj),fun _ _ h=>.inl h,ig.refl Vr⟩
 |(off,sz)::offs,V2,Vr,A,us,kc,k,hz,h,hus,hk=>by
  simp only [y7,cond_eq_ite] at hus;split at hus;rotate_left
  ·cases hus
  rename_i hf;simp only [iu] at hk;split at hk;rotate_left
  ·cases hk
  rename_i w hw;obtain⟨x,hx,hs⟩:=hsl off w hw;obtain⟨es,V1,hk1,hs1,qxJ,hone⟩:=mq h hs hk;obtain⟨inn,hT⟩:=qxJ (hz (off,sz) Qc);obtain⟨Vr1,A1,hV1,hR1,hA1,hAo,qxp,hown,_,qxy,hnew⟩:=jk (k:=fun V'=>V'=gh Vr (mm d off) (iY (mm d off) sz es)) h.new (kF hf rfl) hT hone (fun id hi=>h.apart id hi.1);subst hV1;have hb:wh V1 A2 st2 (gh Vr (mm d off) (iY (mm d off) sz es)) A1 st:=⟨hs1.r h.old,hR1,h.H,h.nx,fun id ho hc=>(hown id hc).elim (fun hc=>h.apart id (hs1.own ho) hc) (fun hi=>hi.2 ho)⟩;obtain⟨V2',Vr',A',g1,g2,g3,g4,g5,g6,g7,g8,g9⟩:=mw hsl offs V1 _ A1 us kc k (fun p hp=>hz p (Qd _ hp)) hb hus hk1;have hev:ig Vr (gh Vr (mm d off) (iY (mm d off) sz es)):=ig.name (lM hf);refine⟨V2',Vr',A',g1,g2,hs1.trans g3,g4,fun O y hy=>g5 _ _ (hA1 _ _ hy),fun id ho=>?_,fun j hj=>?_,fun n x hx=>(g8 n x hx).elim (fun h=>hnew n x h) (fun h=>.inr (hev.us _ h)),hev.trans g9⟩
  ·rcases g6 id ho with ho|ho
   ·rcases hown id ho with ho|hi
    ·exact .inl ho
    ·exact .inr hi.1
   ·exact .inr (hs1.own ho)
  ·simp only [de,Ql,Qn] at hj;rcases hj with rfl|hj
   ·exact⟨x,hx,g5 _ _ hAo⟩
   ·exact g7 j hj
theorem nk {d j:Nat}:∀{l:List (Nat×Nat)},bq j (p_ d l)=if de j l=true then some (.sl (mm d j)) else none
 |[]=>by simp [p_,bq,de]
 |(i,z)::l=>by
  simp only [p_,aZ,nk (l:=l),de,Ql,Qn];by_cases e:i=j
  ·subst e;simp
  ·rw [if_neg e];by_cases hk:de j l=true
   ·rw [if_pos hk,if_pos (.inr hk)]
   ·rw [if_neg hk,if_neg];rintro(h|h)
    ·exact e h.symm
    ·exact hk h
theorem Ac {A:aY} {V:aF} {st:St} (hR:R A V st) {n:Nat} {k:VV->Prop} (h:dz V none (.t n) k):∃e a,V.env.get n=some e/\st.env.get n=some a/\VR A e.v a/\k e.v:=by
 simp only [dz] at h;split at h
 ·cases h
 rename_i e he;obtain⟨a,ha,hv⟩:=hR.env n e he;split at h
 ·rename_i hg;exact⟨e,a,he,ha,hv (fun c bb hh=>by rw [hg] at hh;cases hh),h⟩
 ·cases h
theorem Ay {d:Nat} {offs:List (Nat×Nat)} {ks:List PK} {w:VV} {ws:List VV} {ims:List Iv} (h:cz d (.ob offs::ks) (w::ws)=some ims):∃O l,w=.ptr O 0/\cz d ks ws=some l/\ims=.ob O d::.pt::l:=by
 cases w with
 |ptr O off=>
  cases off with
  |zero=>
   simp only [cz] at h;split at h
   ·rename_i l hl;cases h;exact⟨O,l,rfl,hl,rfl⟩
   ·cases h
  |succ n=>simp [cz] at h
 |_=>simp [cz] at h
theorem Aw {d sz:Nat} {ks:List PK} {w:VV} {ws:List VV} {ims:List Iv} (h:cz d (.sl sz::ks) (w::ws)=some ims):∃O l,w=.sl O/\cz d ks ws=some l/\ims=.sl O::l:=by
 cases w with
 |sl O=>
  simp only [cz] at h;split at h
  ·rename_i l hl;cases h;exact⟨O,l,rfl,hl,rfl⟩
  ·cases h
 |_=>simp [cz] at h
theorem vI {V:aF} {t:Nat} {w:VV}:ig V (fL V t w):=ig.IA rfl (fun _ _ h=>h)
theorem qn {np d:Nat} {rk:RK} {k:aF->Prop} {v:AV} {st2 st:St}:∀(ks:List PK) (i:Nat) (ws:List VV) (as:List AV) (ims:List Iv) (V2 Vr:aF) (A2 A:aY),cz d ks ws=some ims->(ga np rk ks i).all kV=true->Du nt (ga np rk ks i) ims Vr.us=true->
  wh V2 A2 st2 Vr A st->(∀(j:Nat) w a,ws[j]?=some w->as[j]?=some a->VR A w a)->ws.length=as.length->(∀(j:Nat) a,as[j]?=some a->st2.env.get (i+j)=some a)->st2.env.get np=some v->st.env.get d=some v->
  pY (ga np rk ks i) V2 (sR (ga np rk ks i) ims Vr k)->∃Vr' A',k Vr'/\R A' Vr' st/\(∀O x,A O=some x->A' O=some x)/\(∀id,b8 Vr' A' id->b8 Vr A id\/b8 V2 A2 id)/\Nat.blt d nt=true/\(∀n x,A' n=some x->A n=some x\/Vr.us.get n.base=none)/\ig Vr Vr'
 |[],i,ws,as,ims,V2,Vr,A2,A,him,hp,hok,h,hw,hl,has,hnp,hd,hk=>by
  cases ws with
  |cons _ _=>cases him
  |nil=>
   cases him;cases rk with
   |tr=>have hk0:ia V2 none (.t np) (fun v=>k (fL Vr d (.tr v))):=hk;have qx7:(Nat.blt d nt&&true)=true:=hok;rw [Bool.and_true] at qx7;clear hk hok;obtain⟨u,a,ha,hc,hk1⟩:=Aa h.old hk0;rw [hnp] at ha;cases ha;exact⟨_,A,hk1,gD h.new hd (.tr hc),fun _ _ h=>h,fun id ho=>.inl ho,qx7,fun _ _ h=>.inl h,vI⟩
   |sl sz=>
    have hz:eu sz=true:=by simp only [ga,HR,List.all_cons,Qk] at hp;exact hp.1
    have hk0:dz V2 none (.t np) (fun w=>gz V2 sz w fun es V'=>k (fL (gh Vr d (iY d sz es)) d (.sl d))):=hk;have qx7:(Nat.blt d nt&&(kR Vr.us d&&true))=true:=hok;rw [Bool.and_true,Qk] at qx7;clear hk hok;obtain⟨e,a,he,ha,hv,hk⟩:=Ac h.old hk0;rw [hnp] at ha;cases ha;have hsl:uX A2 e.v v:=by
     have hne:=hk;unfold gz at hne;generalize e.v=w at hv hne;cases hv<;>first|(cases hne;done)|skip
     ·exact .inl rfl
     ·exact .inr rfl
     ·assumption
    obtain⟨es,V1,hk1,hs1,qxJ,hone⟩:=mq h hsl hk;obtain⟨hlt,hf⟩:=qx7;obtain⟨inn,hT⟩:=qxJ hz;obtain⟨Vr1,A1,hV1,hR1,hA1,hAo,qxp,hown,_,qxy,hnew⟩:=jk (k:=fun V'=>V'=gh Vr d (iY d sz es)) h.new (kF hf rfl) hT hone (fun id hi=>h.apart id hi.1);subst hV1;exact⟨_,A1,hk1,gD hR1 hd (.sl hAo),hA1,fun id ho=>(hown id ho).imp (fun h=>h) (fun hi=>hi.1),hlt,hnew,(ig.name (lM hf)).trans vI⟩
   |st offs=>
    have hz:∀p∈offs,eu p.2=true:=by simp only [ga,HR,List.all_cons,Qk] at hp;exact fun p hm=>Qj.1 hp.1 p hm
    have hk0:dz V2 none (.t np) (fun w=>match w with
     |.st v ovs=>(match kK ovs offs with
      |true=>iu (R:=Prop) V2 ovs offs (El (R:=Prop) (l8 d) offs Vr fun V'=>k (fL V' d (.st v (p_ (l8 d) offs)))) fun I V'=>I
      |false=>False)
     |_=>False):=hk
    have qx7:(Nat.blt d nt&&(match y7 (l8 d) offs Vr.us with
     |some us=>true
     |none=>false))=true:=by
     have h0:(Nat.blt d nt&&(match y7 (l8 d) offs Vr.us with
      |some us=>Du nt [] [] us
      |none=>false))=true:=hok
     rw [Qk] at h0 ⊢;refine⟨h0.1,?_⟩;have h1:=h0.2;split at h1
     ·rfl
     ·cases h1
    rw [Qk] at qx7;clear hk hok;obtain⟨e,a,he,ha,hv,hk⟩:=Ac h.old hk0;rw [hnp] at ha;cases ha;obtain⟨hlt,hus⟩:=qx7;split at hus;rotate_left
    ·cases hus
    rename_i us qwT;generalize e.v=w at hv hk;cases hv<;>first|(cases hk;done)|skip
    rename_i v ovs cs ts hts hc;simp only at hk;split at hk;rotate_left
    ·cases hk
    rename_i hkeys;have hsl:∀j w,bq j ovs=some w->∃x,cs[j]?=some x/\uX A2 w x:=fun j w hj=>by have hlt:=hc.keys j w hj;have hx:cs[j]?=some (cs[j]'(by rw [←hc.len];exact hlt)):=PU _;have:=hc.at_ j _ _ (PU hlt) hx;rw [hj] at this;exact⟨_,hx,this⟩
    obtain⟨V2',Vr',A',g1,g2,g3,g4,g5,g6,g7,g8,g9⟩:=mw (Rt:=Prop) (d:=l8 d) hsl offs V2 Vr A us _ _ hz h qwT hk;have hcr:aU A' v (p_ (l8 d) offs) cs ts:=by
     refine⟨hc.cells,hc.len,fun j w hj=>?_,fun j t' x ht hx=>?_⟩
     ·rw [nk] at hj;split at hj
      ·rename_i hh;obtain⟨x,hx,_⟩:=g7 j hh;rw [hc.len];exact(PV.1 hx).1
      ·cases hj
     ·rw [nk];by_cases hh:de j offs=true
      ·rw [if_pos hh];obtain⟨x',hx',hA'⟩:=g7 j hh;rw [hx] at hx';cases hx';exact hA'
      ·rw [if_neg hh];have:=hc.at_ j t' x ht hx;cases ho:bq j ovs with
       |none=>rw [ho] at this;exact this
       |some w=>exact absurd (gq hkeys j w ho) hh
    exact⟨_,A',g1,gD g2.new hd (.st hts hcr),g5,g6,hlt,g8,g9.trans vI⟩
 |.tr::ks,i,ws,as,ims,V2,Vr,A2,A,him,hp,hok,h,hw,hl,has,hnp,hd,hk=>by
  cases ws with
  |nil=>simp [cz] at him
  |cons w ws=>
   cases as with
   |nil=>cases hl
   |cons a as=>
    have qw3:cz d ks ws=some ims:=by simpa only [cz] using him
    simp only [ga] at hp hok hk;exact qn ks (i+1) ws as ims V2 Vr A2 A qw3 hp hok h (fun j w' a' h1 h2=>hw (j+1) w' a' (by simpa using h1) (by simpa using h2)) (Nat.succ.inj hl) (fun j a' h1=>by have:=has (j+1) a' (by simpa using h1);rwa [show i+(j+1)=i+1+j by omega] at this) hnp hd hk
 |.ob offs::ks,i,ws,as,ims,V2,Vr,A2,A,him,hp,hok,h,hw,hl,has,hnp,hd,hk=>by
  cases ws with
  |nil=>simp [cz] at him
  |cons w ws=>
   cases as with
   |nil=>cases hl
   |cons a as=>
    obtain⟨O,l,rfl,qj6,rfl⟩:=Ay him
    ·simp only [ga,List.all_cons,Qk] at hp;have hz:∀p∈offs,eu p.2=true:=fun p hm=>Qj.1 hp.1 p hm
     simp only [ga,Du] at hok;split at hok;rotate_left
     ·cases hok
     rename_i us hus;have hwa:=hw 0 _ a rfl rfl;cases hwa with
     |@ptr _ _ id hAO=>
     simp only [ga,pY] at hk;split at hk;rotate_left
     ·cases hk
     rename_i v2 ovs hO2;split at hk;rotate_left
     ·cases hk
     rename_i hkeys;obtain⟨y,hy,id2,cs,ts,rfl,hH,hc⟩:=h.old.heap i _ hO2;have hsl:∀j w,bq j ovs=some w->∃x,cs[j]?=some x/\uX A2 w x:=fun j w hj=>by have hlt:=hc.keys j w hj;have hx:cs[j]?=some (cs[j]'(by rw [←hc.len];exact hlt)):=PU _;have:=hc.at_ j _ _ (PU hlt) hx;rw [hj] at this;exact⟨_,hx,this⟩
     have qxh:=cX h.old hO2 hy (id:=id2) (.inl rfl);have qxt:b8 V2 A2 id2:=⟨i,_,_,hO2,hy,.inl rfl⟩;have hb1:wh (bx V2 i) A2 st2 Vr A st:=⟨(bw V2 i).r h.old,h.new,h.H,h.nx,fun id' ho=>h.apart id' ((bw V2 i).own ho),⟩;obtain⟨V2',Vr',A',g1,g2,g3,g4,g5,g6,g7,g8,g9⟩:=mw hsl offs (bx V2 i) Vr A us _ _ hz hb1 hus hk;have hk3:dz V2' none (.t i) fun w=>match w with
      |.ptr O' off'=>same O' i (same off' 0 (pY (ga np rk ks (i+1)) V2' (sR (ga np rk ks (i+1)) l (bk Vr' O (.ob v2 (p_ d offs))) k)))
      |_=>False:=g1
     obtain⟨e,a',he,ha',hv',hk3⟩:=Ac g2.old hk3;have ha0:=has 0 _ rfl;rw [Nat.add_zero,ha'] at ha0;cases ha0;generalize e.v=w' at hv' hk3;cases w'<;>first|(cases hk3;done)|skip
     rename_i O' off';have hOi:=(aV hk3).1;have hoff:=(aV (aV hk3).2).1;have hk4:=(aV (aV hk3).2).2;clear hk3;have hOi:=hOi.symm;subst hOi;subst hoff;cases hv' with
     |ptr hO'=>
     rw [hy] at hO';cases hO';have qvh:=g5 _ _ hAO;have hor:OR A' st.H (.ob v2 (p_ d offs)) (.ptr id 0 0):=by
      refine⟨id,cs,ts,rfl,by rw [h.H];exact hH,⟨hc.cells,hc.len,fun j w hj=>?_,fun j t x ht hx=>?_⟩⟩
      ·rw [nk] at hj;split at hj
       ·rename_i hh;obtain⟨x,hx,_⟩:=g7 j hh;rw [hc.len];exact(PV.1 hx).1
       ·cases hj
      ·rw [nk];by_cases hh:de j offs=true
       ·rw [if_pos hh];obtain⟨x',hx',hA'⟩:=g7 j hh;rw [hx] at hx';cases hx';exact hA'
       ·rw [if_neg hh];have:=hc.at_ j t x ht hx;cases ho:bq j ovs with
        |none=>rw [ho] at this;exact this
        |some w=>exact absurd (gq hkeys j w ho) hh
     obtain⟨p1,p2⟩:=oz g2.new qvh hor (fun id' hi ho=>by
      cases hi;rcases g6 _ ho with ho|ho
      ·exact h.apart _ qxt ho
      ·exact qxh ho)
     have hb2:wh V2' A2 st2 (bk Vr' O (.ob v2 (p_ d offs))) A' st:=⟨g2.old,p1,h.H,h.nx,fun id' ho hc'=>(p2 id' hc').elim (fun hc'=>g2.apart id' ho hc') (fun hi=>by cases hi;exact qxh (g3.own ho))⟩;obtain⟨Vr2,A3,q1,q2,q3,q4,q5,q6,q7⟩:=qn ks (i+1) ws as l V2' _ A2 A' qj6 hp.2.2 (by rw [show (bk Vr' O (VO.ob v2 (p_ d offs))).us=us from g4];exact hok) hb2
      (fun j w' a' h1 h2=>(hw (j+1) w' a' (by simpa using h1) (by simpa using h2)).mono g5) (Nat.succ.inj hl) (fun j a' h1=>by have:=has (j+1) a' (by simpa using h1);rwa [show i+(j+1)=i+1+j by omega] at this) hnp hd hk4
     refine⟨Vr2,A3,q1,q2,fun O x hx=>q3 _ _ (g5 _ _ hx),fun id' ho=>?_,q5,fun n x hx=>(q6 n x hx).elim (fun h=>g8 n x h) (fun h=>.inr (g9.us _ h)),(g9.trans (ig.set rfl)).trans q7⟩;rcases q4 id' ho with ho|ho
     ·rcases p2 id' ho with ho|hi
      ·exact(g6 id' ho).imp (fun h=>h) (bw V2 i).own
      ·cases hi;exact .inr qxt
     ·exact .inr ((bw V2 i).own (g3.own ho))
 |.sl sz::ks,i,ws,as,ims,V2,Vr,A2,A,him,hp,hok,h,hw,hl,has,hnp,hd,hk=>by
  cases ws with
  |nil=>simp [cz] at him
  |cons w ws=>
   cases as with
   |nil=>cases hl
   |cons a as=>
    obtain⟨O,l,rfl,qj6,rfl⟩:=Aw him;simp only [ga,List.all_cons,Qk] at hp;have hz:eu sz=true:=hp.1;simp only [ga,Du,Qk] at hok;obtain⟨hlt,hok⟩:=hok;have hwa:=hw 0 _ a rfl rfl;cases hwa with
    |@sl _ _ hAO=>
    have hk':dz V2 none (.t i) fun w=>gz V2 sz w fun es V'=>pY (ga np rk ks (i+1)) V' (sR (ga np rk ks (i+1)) l (bk Vr O (.gr sz es)) k):=hk
    obtain⟨e,a',he,ha',hv',hk'⟩:=Ac h.old hk';have ha0:=has 0 _ rfl;rw [Nat.add_zero,ha'] at ha0;cases ha0;have hsl:uX A2 e.v a:=by
     have hne:=hk';unfold gz at hne;generalize e.v=w at hv' hne;cases hv'<;>first|(cases hne;done)|skip
     ·exact .inl rfl
     ·exact .inr rfl
     ·assumption
    obtain⟨es,V1,hk1,hs1,qxJ,hone⟩:=mq h hsl hk';obtain⟨inn,hT⟩:=qxJ hz;have hTO:qe st.H sz es a/\∀id,bY a=some id->b8 V2 A2 id/\¬b8 V1 A2 id:=by obtain⟨q1,_,q3⟩:=hT.2 (fun n=>match n with|.s _=>none|.i _ v j=>if v=0 then inn j else none) 0 (fun j=>if_pos rfl) (fun v j hv=>if_neg (by omega));unfold iY at q1 q3;rw [hlt] at q1 q3;exact⟨q1,fun id hi=>q3 id (.inl hi)⟩
    have hid:=hTO.2;obtain⟨p1,p2⟩:=oz h.new (o:=.gr sz es) hAO hTO.1 (fun id hi=>h.apart id (hid id hi).1);have hb:wh V1 A2 st2 (bk Vr O (.gr sz es)) A st:=⟨hs1.r h.old,p1,h.H,h.nx,fun id ho hc=>(p2 id hc).elim (fun hc=>h.apart id (hs1.own ho) hc) (fun hi=>(hid id hi).2 ho)⟩;obtain⟨Vr2,A3,q1,q2,q3,q4,q5,q6,q7⟩:=qn ks (i+1) ws as l V1 (bk Vr O (.gr sz es)) A2 A qj6 hp.2 hok hb
     (fun j w' a' h1 h2=>hw (j+1) w' a' (by simpa using h1) (by simpa using h2)) (Nat.succ.inj hl) (fun j a' h1=>by have:=has (j+1) a' (by simpa using h1);rwa [show i+(j+1)=i+1+j by omega] at this) hnp hd hk1
    refine⟨Vr2,A3,q1,q2,q3,fun id ho=>?_,q5,q6,(ig.set rfl).trans q7⟩;rcases q4 id ho with ho|ho
    ·exact(p2 id ho).imp (fun h=>h) (fun hi=>(hid id hi).1)
    ·exact .inr (hs1.own ho)
theorem ru {A:aY} {V:aF} {st:St} (hR:R A V st):∀(xs:List aH) (k:List VV->Prop),Fk V xs k->∃ws,ws.length=(xs.map (ev st.env)).length/\(∀(j:Nat) w a,ws[j]?=some w->(xs.map (ev st.env))[j]?=some a->VR A w a)/\k ws
 |[],k,h=>⟨[],rfl,fun j w a hw=>by simp at hw,h⟩
 |x::xs,k,h=>by
  obtain⟨w,hw,h⟩:=bG (g:=none) hR trivial h;obtain⟨ws,h1,h2,h3⟩:=ru hR xs _ h;refine⟨w::ws,by simpa using h1,fun j w' a hj ha=>?_,h3⟩;cases j with
  |zero=>simp at hj ha;subst hj;subst ha;exact hw
  |succ j=>exact h2 j w' a (by simpa using hj) (by simpa using ha)
theorem nK {d:Nat}:∀(ks:List PK) (ws:List VV) (ims:List Iv),cz d ks ws=some ims->ks.length=ws.length
 |[],[],ims,h=>rfl
 |[],_::_,ims,h=>by simp [cz] at h
 |k::ks,[],ims,h=>by cases k<;>simp [cz] at h
 |.tr::ks,w::ws,ims,h=>by
  have h':cz d ks ws=some ims:=by simpa only [cz] using h
  simp [nK ks ws ims h']
 |.ob offs::ks,w::ws,ims,h=>by obtain⟨O,l,_,h',_⟩:=Ay h;simp [nK ks ws l h']
 |.sl sz::ks,w::ws,ims,h=>by obtain⟨O,l,_,h',_⟩:=Aw h;simp [nK ks ws l h']
theorem oK:∀(as:List AV) (i:Nat) (e:Env) (j:Nat),(cI as i e).get j=if i<=j/\j < i+as.length then as[j - i]? else e.get j
 |[],i,e,j=>by simp only [cI,List.length_nil];rw [if_neg (by omega)]
 |a::as,i,e,j=>by
  simp only [cI,oK as (i+1),Map.au,Qa];by_cases h:i+1<=j/\j < i+1+as.length
  ·rw [if_pos h,if_pos (by omega),show j - i=(j - (i+1))+1 by omega,List.getElem?_cons_succ]
  ·rw [if_neg h];by_cases e1:j=i
   ·subst e1;rw [if_pos rfl,if_pos (by omega)];simp
   ·rw [if_neg e1,if_neg (by omega)]
theorem Bb {V:aF} {e:Map VE} {sz:Nat} {w:VV} {k k':List TV->aF->Prop} (hk:∀es V',V'.env=V.env->k es V'->k' es {V' with env:=e}) (h:gz V sz w k):gz {V with env:=e} sz w k':=by
 cases w<;>first|(cases h;done)|skip
 ·exact hk [] V rfl h
 ·rename_i O;have gen:∀x:Option VO,(match x with
    |some (.gr z es)=>(match Nat.blt z D2 with
     |true=>same z sz (k es (bx V O))
     |false=>False)
    |some (.gn _ s io iz _ none es)=>(match Bt sz s io iz with
     |true=>k es (bx V O)
     |false=>False)
    |_=>False)->(match x with
    |some (.gr z es)=>(match Nat.blt z D2 with
     |true=>same z sz (k' es (bx {V with env:=e} O))
     |false=>False)
    |some (.gn _ s io iz _ none es)=>(match Bt sz s io iz with
     |true=>k' es (bx {V with env:=e} O)
     |false=>False)
    |_=>False):=by
   intro x hx;split at hx
   ·rename_i z es;cases hb:Nat.blt z D2 with
    |false=>rw [hb] at hx;cases hx
    |true=>rw [hb] at hx;obtain⟨rfl,hx2⟩:=aV hx;show same z z _;unfold same;rw [cond_eq_ite,if_pos (by simp)];exact hk es (bx V O) rfl hx2
   ·rename_i s io iz ver es;cases hb:Bt sz s io iz with
    |false=>rw [hb] at hx;cases hx
    |true=>rw [hb] at hx;exact hk es (bx V O) rfl hx
   ·cases hx
  exact gen (V.H.get O) h
theorem qk {st stc:St} (hH:stc.H=st.H) (hnx:stc.nx=st.nx):∀(ks:List PK) (i:Nat) (ws:List VV) (as:List AV) (V Vc:aF) (A A0:aY) (I:JT (wj ks i) Prop) (k:aF->Prop),(wj ks i).all kV=true->R A V st->R A0 Vc stc->(∀id,b8 V A id->¬b8 Vc A0 id)->
  (∀(j:Nat) w a,ws[j]?=some w->as[j]?=some a->VR A w a)->ws.length=as.length->(∀(j:Nat) a,as[j]?=some a->stc.env.get (i+j)=some a)->BT ks i ws V I->k_ (wj ks i) Vc I k->
  ∃Vc' A',k Vc'/\R A' Vc' stc/\(∀id,b8 Vc' A' id->b8 Vc A0 id\/b8 V A id)/\(∀id,b8 (fu ks ws V) A id->¬b8 Vc' A' id)/\Sub V (fu ks ws V)
 |[],i,ws,as,V,Vc,A,A0,I,k,hp,hR,hRc,hap,hw,hl,has,hk,hkc=>by
  cases ws with
  |nil=>exact⟨Vc,A0,hkc hk,hRc,fun id h=>.inl h,hap,Sub.refl V⟩
  |cons w ws=>cases hk
 |.tr::ks,i,ws,as,V,Vc,A,A0,I,k,hp,hR,hRc,hap,hw,hl,has,hk,hkc=>by
  cases ws with
  |nil=>cases hk
  |cons w ws=>
   cases as with
   |nil=>cases hl
   |cons a as=>
    simp only [wj,List.all_cons,Qk] at hp;simp only [BT] at hk;obtain⟨v,hc,hk⟩:=z5 (hw 0 w a rfl rfl) hk;obtain⟨Vc',A',g1,g2,g3,g4,g5⟩:=qk hH hnx ks (i+1) ws as V (fL Vc i (.tr v)) A A0 (I v) k hp.2 hR (gD hRc (has 0 a rfl) (.tr hc)) hap (fun j w' a' h1 h2=>hw (j+1) w' a' (by simpa using h1) (by simpa using h2)) (Nat.succ.inj hl)
     (fun j a' h1=>by have:=has (j+1) a' (by simpa using h1);rwa [show i+(j+1)=i+1+j by omega] at this) hk (hkc v)
    exact⟨Vc',A',g1,g2,g3,g4,g5⟩
 |.ob offs::ks,i,ws,as,V,Vc,A,A0,I,k,hp,hR,hRc,hap,hw,hl,has,hk,hkc=>by
  cases ws with
  |nil=>cases hk
  |cons w ws=>
   cases as with
   |nil=>cases hl
   |cons a as=>
    simp only [wj,List.all_cons,Qk] at hp;have hz:∀p∈offs,eu p.2=true:=fun p hm=>Qj.1 hp.1 p hm
    cases w<;>first|(cases hk;done)|skip
    rename_i O off;cases off with
    |succ n=>cases hk
    |zero=>
    simp only [BT] at hk;split at hk;rotate_left
    ·cases hk
    rename_i v ovs hO;split at hk;rotate_left
    ·cases hk
    rename_i hkeys;have hwa:=hw 0 _ a rfl rfl;cases hwa with
    |@ptr _ _ id hAO=>
    obtain⟨y,hy,id',cs,ts,rfl,hHc,hc⟩:=hR.heap O _ hO;rw [hAO] at hy;cases hy;have hsl:∀j w,bq j ovs=some w->∃x,cs[j]?=some x/\uX A w x:=fun j w hj=>by have hlt:=hc.keys j w hj;have hx:cs[j]?=some (cs[j]'(by rw [←hc.len];exact hlt)):=PU _;have:=hc.at_ j _ _ (PU hlt) hx;rw [hj] at this;exact⟨_,hx,this⟩
    have qxh:=cX hR hO hAO (id:=id) (.inl rfl);have qxt:b8 V A id:=⟨O,_,_,hO,hAO,.inl rfl⟩;have hRe:R A {bx V O with env:=.leaf} stc:=⟨fun t e he=>(by cases he),fun O' o' ho=>by obtain⟨x,hx,hor⟩:=hR.heap O' o' (dh ho).2;exact⟨x,hx,hor.mono (fun _ _ h=>h) (fun _ _=>by rw [hH])⟩,fun O1 O2 o1 o2 a1 a2 id' h1 h2=>hR.inj O1 O2 o1 o2 a1 a2 id' (dh h1).2 (dh h2).2,hR.used,hR.one,hRc.fresh,fun O' o' x ho hx=>hR.eK O' o' x (dh ho).2 hx⟩
    have h1:A6 {bx V O with env:=.leaf} A Vc A0 stc:=⟨hRe,hRc,fun id' ho=>hap id' ((bw V O).own ho)⟩;have hk':iu (R:=JT (.pt i i 0::wj ks (i+1)) Prop) {bx V O with env:=.leaf} ovs offs (I v) fun I V'=>BT ks (i+1) ws {V' with env:=V.env} I:=by
     have gen:∀(offs:List (Nat×Nat)) (V1:aF) (J:JL offs (JT (.pt i i 0::wj ks (i+1)) Prop)),V1.env=V.env->iu V1 ovs offs J (fun I V'=>BT ks (i+1) ws V' I)->iu {V1 with env:=.leaf} ovs offs J fun I V'=>BT ks (i+1) ws {V' with env:=V.env} I:=by
      intro offs
      induction offs with
      |nil=>intro V1 J he h;show BT ks (i+1) ws {V1 with env:=V.env} J;rw [←he];exact h
      |cons p offs ih=>
       obtain⟨off,sz⟩:=p;intro V1 J he h;simp only [iu] at h ⊢;split at h
       ·rename_i w hw;exact Bb (fun es V' he' h'=>ih V' (J es) (he'.trans he) h') h
       ·cases h
     exact gen offs (bx V O) (I v) rfl hk
    obtain⟨i2,V',Vc',A',g1,g2,g0,g3,g3a,g4,g5,g6,g7,g8⟩:=lu hsl offs {bx V O with env:=.leaf} Vc A0 (I v) _ _ hz h1 hk' (hkc v);have hor:∀A3:aY,(∀O x,A' O=some x->A3 O=some x)->OR A3 stc.H (.ob v (iL i offs)) (.ptr id 0 0):=by
     intro A3 hA3;refine⟨id,cs,ts,rfl,by rw [hH];exact hHc,⟨hc.cells,hc.len,fun j w hj=>?_,fun j t x ht hx=>?_⟩⟩
     ·rw [gI] at hj;split at hj
      ·rename_i hh;obtain⟨x,hx,_⟩:=g8 j hh;rw [hc.len];exact(PV.1 hx).1
      ·cases hj
     ·rw [gI];by_cases hh:de j offs=true
      ·rw [if_pos hh];obtain⟨x',hx',hA'⟩:=g8 j hh;rw [hx] at hx';cases hx';exact hA3 _ _ hA'
      ·rw [if_neg hh];have:=hc.at_ j t x ht hx;cases ho:bq j ovs with
       |none=>rw [ho] at this;exact this
       |some w=>exact absurd (gq hkeys j w ho) hh
    obtain⟨Vc2,A2,p1,p2,p3,p4,p5,p6,p7,p8⟩:=xu g3.new (a:=.ptr id 0 0) g2 hor rfl (fun id' hi ho=>by
     cases hi;rcases g7 _ ho with ho|ho
     ·exact hap _ qxt ho
     ·exact qxh ho)
    have p1':k_ (.pt i i 0::wj ks (i+1)) Vc2 i2 k:=p1;simp only [k_,p7] at p1';have hR':R A {V' with env:=V.env} st:=by have hs:Sub V {V' with env:=V.env}:=⟨rfl,g4.us,fun O' o' ho=>(dh (g4.H O' o' ho)).2⟩;exact hs.r hR
    obtain⟨Vc3,A3,q1,q2,q3,q4,q5⟩:=qk hH hnx ks (i+1) ws as {V' with env:=V.env} (fL Vc2 i (.ptr i 0)) A A2 i2 k hp.2.2 hR' (gD p2 (has 0 _ rfl) (.ptr p4)) (fun id' ho hc'=>by
      rcases p6 id' hc' with hc'|hi
      ·exact g3.apart id' ho hc'
      ·cases hi;exact qxh (g4.own ho)) (fun j w' a' h1 h2=>hw (j+1) w' a' (by simpa using h1) (by simpa using h2)) (Nat.succ.inj hl)
     (fun j a' h1=>by have:=has (j+1) a' (by simpa using h1);rwa [show i+(j+1)=i+1+j by omega] at this) g1 p1'
    have qzT:∀(offs:List (Nat×Nat)) (V1:aF),V1.env=V.env->{kn {V1 with env:=.leaf} ovs offs with env:=V.env}=kn V1 ovs offs:=by
     intro offs
     induction offs with
     |nil=>intro V1 he;simp only [kn];rw [←he]
     |cons p offs ih=>
      obtain⟨off,sz⟩:=p;intro V1 he;simp only [kn];split
      ·rename_i w hw;cases w<;>first|exact ih V1 he|exact ih (bx V1 _) he
      ·exact ih V1 he
    have qxb:fu (.ob offs::ks) (.ptr O 0::ws) V=fu ks ws {V' with env:=V.env}:=by simp only [fu,hO];rw [g0,qzT offs (bx V O) rfl]
    refine⟨Vc3,A3,q1,q2,fun id' ho=>?_,by rw [qxb];exact q4,by rw [qxb];exact(⟨rfl,g4.us,fun O' o' ho=>(dh (g4.H O' o' ho)).2⟩:Sub V {V' with env:=V.env}).trans q5⟩;rcases q3 id' ho with ho|ho
    ·rcases p6 id' ho with ho|hi
     ·rcases g7 id' ho with ho|ho
      ·exact .inl ho
      ·exact .inr ((bw V O).own ho)
     ·cases hi;exact .inr qxt
    ·exact .inr ((bw V O).own (g4.own ho))
 |.sl sz::ks,i,ws,as,V,Vc,A,A0,I,k,hp,hR,hRc,hap,hw,hl,has,hk,hkc=>by
  cases ws with
  |nil=>cases hk
  |cons w ws=>
   cases as with
   |nil=>cases hl
   |cons a as=>
    simp only [wj,List.all_cons,Qk] at hp;have hz:eu sz=true:=hp.1;cases w<;>first|(cases hk;done)|skip
    rename_i O;have hwa:=hw 0 _ a rfl rfl;cases hwa with
    |@sl _ _ hAO=>
    have hk0:gz V sz (.sl O) fun es V'=>BT ks (i+1) ws V' (I es):=hk
    obtain⟨es,V1,hk,hV1,hs1,qxJ,hone,_⟩:=lq (Vc:=V0) (A0:=fun _=>none) (st:=st) ⟨hR,hR.zero,fun id _ ⟨O,o,a,ho,_⟩=>(by cases ho)⟩ (w:=.sl O) hAO hk0;have qvf:V1=bx V O:=hV1;subst qvf;obtain⟨inn,hT⟩:=qxJ hz;have qz3:=hkc es;obtain⟨Vc1,A1,qz2,hR1,hA1,hAo,qxp,hown,_,qxy,_⟩:=jk hRc qz3 (by rw [hH];exact hT) hone (fun id (hi:b8 V A id/\¬b8 (bx V O) A id)=>hap id hi.1);obtain⟨Vc',A',g1,g2,g3,g4,g5⟩:=qk hH hnx ks (i+1) ws as (bx V O) (fL Vc1 i (.sl i)) A A1 (I es) k hp.2 (hR.bx O) (gD hR1 (has 0 a rfl) (.sl hAo)) (fun id hoo hc=>(hown id hc).elim (fun hc=>hap id ((bw V O).own hoo) hc) (fun hi=>hi.2 hoo))
     (fun j w' a' h1 h2=>hw (j+1) w' a' (by simpa using h1) (by simpa using h2)) (Nat.succ.inj hl) (fun j a' h1=>by have:=has (j+1) a' (by simpa using h1);rwa [show i+(j+1)=i+1+j by omega] at this) hk qz2
    refine⟨Vc',A',g1,g2,fun id hoo=>?_,g4,(bw V O).trans g5⟩;rcases g3 id hoo with hoo|hoo
    ·rcases hown id hoo with hoo|hi
     ·exact .inl hoo
     ·exact .inr hi.1
    ·exact .inr ((bw V O).own hoo)
theorem Ag {sh:Sh} (hsh:n9 prog sh) {A:aY} {V:aF} {st:St} (hR:R A V st) {d:Option Nat} {f:Nat} {args:List aH} {k:aF->Prop} (h:qp sh nt V d f args k):bM (aN prog) nt A V st d (.call f args .share) k:=by
 unfold qp at h;cases d with
 |none=>cases h
 |some d=>
 simp only at h;split at h
 ·rename_i T hT;obtain⟨ws,hwl,hw,h⟩:=ru hR args _ h;obtain⟨v,H',nx',A',V',w,h1,h2,h3,h4,h5,h6⟩:=hsh.inl f T hT A V st ws _ _ hR hwl hw h;exact⟨v,H',nx',h1,ji (A1:=A') (V1:=V') h2 h5 h4 (fun _=>h3) h6⟩
 split at h
 ·cases h
 rename_i sg hsg;obtain⟨ws,hwl,hw,h⟩:=ru hR args _ h;split at h
 ·cases h
 rename_i ims him;split at h
 ·cases h
 rename_i hok;simp only [Qk] at hok;obtain⟨⟨hp1,hp2⟩,hn,hi⟩:=hok;rw [hsh.vs] at h;generalize has:args.map (ev st.env)=as at hwl hw;have hal:=lU (wj sg.ks 0) V0 [] (EP prog f sg.ks.length (ga sg.ks.length sg.rk sg.ks 0) (sR (ga sg.ks.length sg.rk sg.ks 0) ims {fu sg.ks ws V with env:=V.env.put none d} k)) hn (fun O hO=>by cases hO);have y8:∀id,¬b8 V0 (fun _=>none) id:=fun id ⟨O,o,a,ho,_⟩=>by cases ho
 have qvg:R (fun _=>none) V0 ⟨cI as 0 .leaf,st.H,st.nx⟩:=⟨fun t e he=>(by cases he),fun O o ho=>(by cases ho),fun O O' o o' a a' id ho=>(by cases ho),fun _ _=>rfl,fun O a ha=>(by cases ha),hR.fresh,fun O o a ho=>(by cases ho)⟩;obtain⟨Vc,A1,g1,g2,g3,g4,g5⟩:=qk (st:=st) (stc:=⟨cI as 0 .leaf,st.H,st.nx⟩) rfl rfl sg.ks 0 ws as V V0 A (fun _=>none) _ _ hp1 hR qvg (fun id _ hc=>y8 id hc) hw hwl (fun j a ha=>by show (cI as 0 .leaf).get (0+j)=_;have hjl:=(PV.1 ha).1;rw [oK,if_pos (by omega)];simpa using ha) h hal
 have hlen:as.length=sg.ks.length:=by rw [←hwl,nK _ _ _ him]
 obtain⟨v,H',nx',A2,V2,q1,q2,q3,q4⟩:=g1 A1 as st.H st.nx hlen g2;have ownV:∀id,b8 (fu sg.ks ws V) A id->b8 V A id:=fun id ho=>g5.own ho
 have hlt:∀id,b8 (fu sg.ks ws V) A id->id < st.nx:=fun id ho=>hR.fe (ownV id ho)
 have qzR:∀id,b8 (fu sg.ks ws V) A id->H'.get id=st.H.get id:=fun id ho=>q4.same id (hlt id ho) (g4 id ho)
 have hRr:R A {fu sg.ks ws V with env:=V.env.put none d} ⟨st.env.put (some v) d,H',nx'⟩:=by
  refine⟨fun t e he=>?_,fun O o ho=>?_,(g5.r hR).inj,fun n hu=>hR.used n (by rw [←hu];exact congrArg (fun m=>Map.get m n.base) g5.us.symm),hR.one,q2.fresh,(g5.r hR).eK⟩
  ·have he':(V.env.put none d).get t=some e:=he;rw [Map.au] at he';split at he'
   ·cases he'
   ·rename_i hne;obtain⟨a,ha,hv⟩:=hR.env t e he';exact⟨a,by show (st.env.put (some v) d).get t=_;rw [Map.au,if_neg hne];exact ha,hv⟩
  ·obtain⟨a,ha,hor⟩:=(g5.r hR).heap O o ho;exact⟨a,ha,hor.mono (fun _ _ h=>h) (fun id hi=>qzR id ⟨O,o,a,ho,ha,hi⟩)⟩
 have hb:wh V2 A2 ⟨(cI as 0 .leaf).put (some v) sg.ks.length,H',nx'⟩ {fu sg.ks ws V with env:=V.env.put none d} A ⟨st.env.put (some v) d,H',nx'⟩:=
  ⟨q2,hRr,rfl,rfl,fun id ho hc=>by
   rcases q4.own id ho with ho|hle
   ·exact g4 id hc ho
   ·have:=hlt id hc;omega⟩
 obtain⟨Vr',A3,p1,p2,p3,p4,p5,p6,p7⟩:=qn (nt:=nt) (st2:=⟨(cI as 0 .leaf).put (some v) sg.ks.length,H',nx'⟩) (st:=⟨st.env.put (some v) d,H',nx'⟩) (v:=v) (d:=d) sg.ks 0 ws as ims V2 _ A2 A him hp2 (by
   have e:({fu sg.ks ws V with env:=V.env.put none d}:aF).us=V.us:=g5.us;rw [e];exact hi) hb hw hwl (fun j a ha=>by
   show ((cI as 0 .leaf).put (some v) sg.ks.length).get (0+j)=_;have hjl:=(PV.1 ha).1;rw [Map.au,if_neg (by omega),oK,if_pos (by omega)];simpa using ha) (by show ((cI as 0 .leaf).put (some v) sg.ks.length).get _=_;rw [Map.au,if_pos rfl]) (by show (st.env.put (some v) d).get d=_;rw [Map.au,if_pos rfl]) q3
 refine⟨v,H',nx',?_,st.env.put (some v) d,by simp only [rz,cond_eq_ite,if_pos p5],Vr',A3,p2,⟨q4.le,fun id hid hno=>q4.same id hid (fun hc=>?_),fun id ho=>?_⟩,⟨p3,fun n x hx=>(p6 n x hx).imp (fun h=>h) (fun h=>.inl (by have e:({fu sg.ks ws V with env:=V.env.put none d}:aF).us=V.us:=g5.us;rw [←e];exact h)),(show ig V {fu sg.ks ws V with env:=V.env.put none d} from ig.IA g5.us g5.H).trans p7⟩,p1⟩
 ·have hk:kind (.call f args .share)=.call f args .share:=rfl;simp only [fj,hk,bK,has];exact q1
 ·rcases g3 id hc with hc|hc
  ·exact y8 id hc
  ·exact hno hc
 ·rcases p4 id ho with ho|ho
  ·exact .inl (ownV id ho)
  ·rcases q4.own id ho with ho|hle
   ·rcases g3 id ho with hc|hc
    ·exact absurd hc (y8 id)
    ·exact .inl hc
   ·exact .inr hle
end
end Go.Ax.V
namespace Go.Ax.V
section
variable {sh:Sh} {prog:Map aq} {cf:eI} {nt:Nat} {A:aY} {V:aF} {st:St} {d:Option Nat} {g:G} {k:aF->Prop}
theorem xG {sh:Sh} {nt:Nat} {V:aF} {d:Option Nat} {p:TV×Bool} {fz:Bool} {len:Nat} {zero:List AV} {parts:List (Nat×Nat×aH)} {k:aF->Prop} (h:pR sh nt V d (some p) fz len zero parts k):False:=by unfold pR at h;split at h<;>cases h
theorem AJ (hsh:n9 prog sh) (hR:R A V st) (ha:act g) {op:dV} (h:lW sh prog nt V d g op k):bM (aN prog) nt A V st d op k:=by
 cases op with
 |mv x=>exact M4 hR ha h
 |pick c a b=>exact Hu hR ha h
 |alloc zero=>exact Fz hR h
 |box x=>exact JH hR ha h
 |build zero parts=>
  cases g with
  |none=>exact Fy hR h
  |some p=>exact Dx hR ha h
 |eR es len zero parts=>
  cases g with
  |none=>exact Dy hR h
  |some p=>cases h
 |aQ len zero parts=>
  cases g with
  |none=>obtain⟨v,H',nx',h1,h2⟩:=Dw (cf:=aN prog) (gd:=none) (fz:=false) hR h;exact⟨v,H',nx',h1,h2⟩
  |some p=>exact(xG h).elim
 |load sz a=>exact Hw hR ha h
 |store sz a x=>
  cases g with
  |none=>
   cases d with
   |none=>exact Fq hR h
   |some d=>cases h
  |some p=>cases h
 |iN x=>exact Fv hR ha h
 |bin op x y=>exact JI hR ha h
 |eq t neg x y=>
  cases t with
  |slice=>
   cases g with
   |none=>
    simp only [lW] at h;split at h
    ·rename_i hy;exact JE hR hy h
    ·cases h
   |some q=>cases h
  |one l=>exact JF hR ha h
  |agg l=>exact JF hR ha h
 |un op x=>exact M3 hR ha h
 |conv c x=>exact Hy hR ha h
 |kG es bytes zero n=>
  cases g with
  |none=>exact Hv hR h
  |some p=>exact(cV h).2.elim
 |jY x lo hi=>exact Fs hR ha h
 |iR es x lo hi mx=>exact Ht hR ha h
 |iE n es x lo hi mx=>
  obtain⟨hz,h⟩:=cV h;cases g with
  |some q=>cases h
  |none=>
   cases lo with
   |some _=>cases h
   |none=>
    cases mx with
    |some _=>cases h
    |none=>exact Fu hR hz h
 |gR off x=>exact Fx hR ha h
 |Bz off sz x=>exact JC hR ha h
 |bL es x i=>exact Fw hR ha h
 |kO len es x i=>exact Hx hR ha h
 |idx x i=>exact JB hR ha h
 |ext i x=>exact JD hR ha h
 |app es bytes s x=>exact JJ hR ha h
 |BY es dd s=>
  obtain⟨hz,h⟩:=cV h;cases g with
  |some q=>cases h
  |none=>exact JG hR hz h
 |EU es zero x=>cases h
 |len str x=>exact JA hR ha h
 |yw mx xs=>exact Jz hR ha h
 |mc=>cases h
 |mb t zero ok m k=>cases h
 |vp t m k v=>cases h
 |tE m=>cases h
 |call f args m=>
  cases m with
  |share=>
   cases g with
   |none=>exact Ag hsh hR h
   |some p=>cases h
  |borrow=>obtain⟨v,h1,h2⟩:=vm hR ha h;exact⟨v,st.H,st.nx,h1,h2⟩
 |cN f args m=>
  cases m with
  |share=>cases h
  |borrow=>
   obtain⟨fv,hf,h⟩:=bQ hR ha h;cases g with
   |none=>obtain⟨n,rfl,h⟩:=h;obtain⟨v,h1,h2⟩:=vm (g:=none) hR trivial h;generalize he:ev st.env f=p at hf;cases hf;refine⟨v,st.H,st.nx,?_,h2⟩;have hk:kind (.cN f args .borrow)=.cN f args .borrow:=rfl;simp only [fj,hk,he];exact h1
   |some q=>obtain⟨c,bb⟩:=q;obtain⟨n,hn,h⟩:=h;obtain rfl:=hn ha;obtain⟨v,h1,h2⟩:=vm hR ha h;generalize he:ev st.env f=p at hf;cases hf;refine⟨v,st.H,st.nx,?_,h2⟩;have hk:kind (.cN f args .borrow)=.cN f args .borrow:=rfl;simp only [fj,hk,he];exact h1
def IF (nt:Nat) (V:aF) (d:Option Nat) (c:TV) (bb:Bool) (k:aF->Prop):Prop:=∃g w,((g=none/\w=VV.tr rS)\/g=some (c,bb))/\cy nt V d g w k
theorem zq {c:TV} {bb:Bool} (hc:c≠.b bb) {P:TV->Prop} {v:TV} (h:gV c bb P v):v=rS:=by
 unfold gV at h;split at h
 ·rename_i x;split at h
  ·rename_i hh;exact absurd (by cases x<;>cases bb<;>first|rfl|cases hh) hc
  ·exact h
 ·exact h
section
variable {c:TV} {bb:Bool}
theorem q_ (hc:c≠.b bb) {P k:TV->Prop} (h:CE (some (c,bb)) P k):k rS:=by obtain⟨v,h1,h2⟩:=h;rw [zq hc h1] at h2;exact h2
theorem a_ (hc:c≠.b bb) {P:Option TV} (h:di nt V d (some (c,bb)) P k):IF nt V d c bb k:=⟨none,.tr rS,.inl ⟨rfl,rfl⟩,q_ hc h⟩
theorem eG {w:VV} (h:cy nt V d (some (c,bb)) w k):IF nt V d c bb k:=⟨_,w,.inr rfl,h⟩
theorem qj {g:G} {P:Option Nat} {k:Nat->Prop} (h:wQ g P k):∃n,k n:=by
 cases g with
 |none=>obtain⟨n,_,h⟩:=h;exact⟨n,h⟩
 |some p=>obtain⟨n,_,h⟩:=h;exact⟨n,h⟩
theorem e9 {x:aH} {k:VV->Prop} (h:dz V g x k):∃w,k w:=by
 cases x with
 |c v=>exact⟨_,h⟩
 |t n=>
  simp only [dz] at h;split at h
  ·cases h
  split at h
  ·exact⟨_,h⟩
  ·split at h
   ·cases h
   ·exact⟨_,h.2⟩
theorem cU {x:aH} {k:TV->Prop} (h:ia V g x k):∃v,k v:=by
 obtain⟨w,h⟩:=e9 h;unfold z7 at h;split at h
 ·exact⟨_,h⟩
 ·exact⟨_,h⟩
 ·obtain⟨u,_,h⟩:=h;exact⟨u,h⟩
 ·cases h
theorem nv {x:Option aH} {k:Option TV->Prop} (h:oC V g x k):∃v,k v:=by
 cases x with
 |none=>exact⟨none,h⟩
 |some x=>obtain⟨v,h⟩:=cU h;exact⟨some v,h⟩
theorem Ab:∀{xs:List (Nat×Nat×aH)} {k:List (Nat×Nat×TV)->Prop},CH V g xs k->∃vs,k vs
 |[],k,h=>⟨[],h⟩
 |(off,n,x)::xs,k,h=>by obtain⟨v,h⟩:=cU h;obtain⟨vs,h⟩:=Ab h;exact⟨_,h⟩
theorem z_:∀{xs:List aH} {k:List TV->Prop},CG V g xs k->∃vs,k vs
 |[],k,h=>⟨[],h⟩
 |x::xs,k,h=>by obtain⟨v,h⟩:=cU h;obtain⟨vs,h⟩:=z_ h;exact⟨v::vs,h⟩
theorem m6:∀{l:List (Nat×VV)} {v:TV} {k:TV->Prop},tn V l v k->∃u,k u
 |[],v,k,h=>⟨v,h⟩
 |(off,w)::l,v,k,h=>by obtain⟨u,h⟩:=m6 (l:=l) h;obtain⟨es,u',_,h⟩:=m_ h;exact⟨u',h⟩
theorem GP {w:VV} {k:TV->Prop} (h:Iz V w k):∃t,k t:=by
 unfold Iz at h;split at h
 ·exact⟨_,h⟩
 ·exact⟨_,h⟩
 ·obtain⟨es,h⟩:=m_ h;exact⟨_,h⟩
 ·exact m6 h
 ·obtain⟨es,h⟩:=m_ h;exact⟨_,h⟩
 ·split at h
  ·split at h
   ·obtain⟨es,_,h⟩:=h;exact⟨_,h⟩
   ·cases h
  ·cases h
 ·cases h
theorem jv:∀{xs:List aH} {k:Bool->List TV->Prop},k7 V g xs k->∃p ts,k p ts
 |[],k,h=>⟨_,_,h⟩
 |x::xs,k,h=>by
  obtain⟨w,h⟩:=e9 h;split at h
  ·obtain⟨p,ts,h⟩:=jv h;exact⟨_,_,h⟩
  ·obtain⟨p,ts,h⟩:=jv h;exact⟨_,_,h⟩
  ·obtain⟨t,h⟩:=m6 h;obtain⟨p,ts,h⟩:=jv h;exact⟨_,_,h⟩
  ·obtain⟨t,h⟩:=GP h;obtain⟨p,ts,h⟩:=jv h;exact⟨_,_,h⟩
theorem zE (hc:c≠.b bb) {sz:Option Nat} {w:VV} (h:gS nt V d (some (c,bb)) sz w k):IF nt V d c bb k:=by
 unfold gS at h;split at h
 ·split at h
  ·split at h
   ·split at h
    ·exact eG h
    ·exact a_ hc h
   ·split at h
    ·exact a_ hc h
    ·cases h
  ·cases h
 ·split at h
  ·split at h
   ·exact a_ hc h
   ·cases h
  ·cases h
 ·exact a_ hc h
 ·split at h
  ·exact a_ hc h
  ·split at h
   ·split at h
    ·split at h
     ·split at h
      ·obtain⟨_,_,h⟩:=h;exact eG h
      ·cases h
     ·exact a_ hc h
    ·split at h
     ·exact a_ hc h
     ·cases h
   ·cases h
  ·cases h
 ·obtain⟨_,_,_,_,_,h⟩:=cx h;exact a_ hc h
 ·cases h
theorem BB (hc:c≠.b bb) {off:Nat} {sz:Option Nat} {w:VV} (h:xW nt V d (some (c,bb)) off sz w k):IF nt V d c bb k:=by
 unfold xW at h;split at h
 ·exact a_ hc h
 ·split at h
  ·split at h
   ·exact eG h
   ·exact a_ hc h
  ·split at h
   ·exact a_ hc h
   ·cases h
 ·cases h
theorem zy (hc:c≠.b bb) {sz:Nat} {w:VV} {lo hi mx:Option aH} (h:zD nt V d (some (c,bb)) sz w lo hi mx k):IF nt V d c bb k:=by
 replace h:=(cV h).2;split at h
 ·split at h
  ·split at h
   ·split at h
    ·obtain⟨l,m,_,h⟩:=nv (aV h).2;cases h
    ·cases h
   ·cases h
  ·cases h
 ·split at h
  ·obtain⟨l,h⟩:=nv h;obtain⟨hh,h⟩:=nv h;exact⟨none,.tr rS,.inl ⟨rfl,rfl⟩,q_ hc h⟩
  ·split at h
   ·rename_i qxj;simp at qxj
   ·cases h
 ·split at h
  ·exact eG h
  ·cases h
 ·cases h
theorem FI (hc:c≠.b bb) {op:dV} (h:lW sh prog nt V d (some (c,bb)) op k):IF nt V d c bb k:=by
 cases op with
 |mv x=>
  simp only [lW] at h;obtain⟨w,h⟩:=e9 h;unfold H8 at h;split at h
  ·exact a_ hc h
  ·cases h
  ·exact eG h
 |pick a b e=>simp only [lW] at h;obtain⟨_,h⟩:=cU h;obtain⟨_,h⟩:=cU h;obtain⟨_,h⟩:=cU h;exact a_ hc h
 |alloc zero=>simp only [lW] at h;split at h<;>cases h
 |box x=>
  simp only [lW] at h;obtain⟨w,h⟩:=e9 h;split at h
  ·exact(sZ h.2 (fun _ _ h=>h)).elim
  ·cases h
 |build zero parts=>
  simp only [lW] at h;split at h
  ·obtain⟨_,h⟩:=Ab h;exact a_ hc h
  ·cases h
 |eR es len zero parts=>cases h
 |aQ len zero parts=>exact(xG h).elim
 |load sz a=>simp only [lW] at h;obtain⟨w,h⟩:=e9 h;exact zE hc h
 |store sz a x=>cases h
 |iN x=>simp only [lW] at h;obtain⟨w,h⟩:=e9 h;unfold vJ at h;split at h<;>first|exact eG h|cases h
 |bin op x y=>simp only [lW] at h;obtain⟨_,h⟩:=cU h;obtain⟨_,h⟩:=cU h;exact a_ hc h
 |eq t neg x y=>
  cases t with
  |slice=>cases h
  |one l=>simp only [lW] at h;obtain⟨_,h⟩:=cU h;obtain⟨_,h⟩:=cU h;exact a_ hc h
  |agg l=>simp only [lW] at h;obtain⟨_,h⟩:=cU h;obtain⟨_,h⟩:=cU h;exact a_ hc h
 |un op x=>simp only [lW] at h;obtain⟨_,h⟩:=cU h;exact a_ hc h
 |conv e x=>simp only [lW] at h;obtain⟨_,h⟩:=cU h;exact a_ hc h
 |kG es bytes zero n=>exact(cV h).2.elim
 |jY x lo hi=>simp only [lW] at h;obtain⟨_,h⟩:=cU h;obtain⟨_,h⟩:=nv h;obtain⟨_,h⟩:=nv h;exact a_ hc h
 |iR es x lo hi mx=>simp only [lW] at h;obtain⟨w,h⟩:=e9 h;exact zy hc h
 |iE n es x lo hi mx=>exact(cV h).2.elim
 |gR off x=>simp only [lW] at h;obtain⟨w,h⟩:=e9 h;unfold vK at h;split at h<;>first|exact eG h|cases h
 |Bz off sz x=>simp only [lW] at h;obtain⟨w,h⟩:=e9 h;exact BB hc h
 |bL es x i=>
  simp only [lW] at h;obtain⟨w,h⟩:=e9 h;obtain⟨iv,h⟩:=cU h;replace h:=(cV h).2;split at h
  ·exact eG (q_ hc h)
  ·split at h
   ·obtain⟨n,h⟩:=qj (aV h).2;exact eG h
   ·obtain⟨n,h⟩:=qj (aV h).2;exact eG h
   ·cases h
  ·obtain⟨_,_,_,_,_,h⟩:=cx h;obtain⟨n,h⟩:=qj (aV h).2;exact eG h
  ·cases h
 |kO len es x i=>simp only [lW] at h;obtain⟨w,h⟩:=e9 h;obtain⟨iv,h⟩:=cU h;unfold zF at h;split at h<;>first|(obtain⟨n,h⟩:=qj h;exact eG h)|cases h
 |idx x i=>simp only [lW] at h;obtain⟨_,h⟩:=cU h;obtain⟨_,h⟩:=cU h;exact a_ hc h
 |ext i x=>simp only [lW] at h;obtain⟨_,h⟩:=cU h;exact a_ hc h
 |app es bytes s x=>
  simp only [lW] at h;obtain⟨w,h⟩:=e9 h;obtain⟨y,h⟩:=e9 h;exfalso;unfold uL at h;split at h
  ·replace h:=(aV h).2;unfold vN at h;split at h
   ·cases h
   split at h
   ·split at h
    ·obtain⟨l,_,h⟩:=h;exact h
    ·cases h
   ·split at h
    ·split at h
     ·obtain⟨l,_,h⟩:=h;exact h
     ·cases h
    ·cases h
   ·cases h
  replace h:=(cV h).2;unfold yK at h;have key:∀xs,(match w with
   |.bT=>∃l,k8 bytes [] xs=some l/\fZ nt V d (some (c,bb)) .sl (.gr es l) k
   |.sl O=>(match V.H.get O with
    |some (.gr z es')=>same z es (∃l,k8 bytes es' xs=some l/\fZ nt (bx V O) d (some (c,bb)) .sl (.gr es l) k)
    |_=>False)
   |.ow O v i=>FF V O v fun s io iz es'=>same iz es (∃l0,qb es' i io=some l0/\∃l,k8 bytes l0 xs=some l/\fZ nt (bk V O (.gn O s io iz v (some i) es')) d (some (c,bb)) .sl (.gr es l) k)
   |_=>False)->False:=fun xs h=>by
   split at h
   ·obtain⟨l,_,h⟩:=h;exact h
   ·split at h
    ·obtain⟨l,_,h⟩:=(aV h).2;exact h
    ·cases h
   ·obtain⟨_,_,_,_,_,h⟩:=cx h;obtain⟨l0,_,l,_,h⟩:=(aV h).2;exact h
   ·cases h
  split at h
  ·obtain⟨xs,_,_,h⟩:=h;exact key _ h
  ·exact key _ h
  ·split at h
   ·exact key _ (aV h).2
   ·cases h
  ·cases h
 |BY es dd s=>exact(cV h).2.elim
 |EU es zero x=>cases h
 |len str x=>
  simp only [lW] at h;obtain⟨w,h⟩:=e9 h;unfold AL at h;split at h
  ·split at h
   ·exact a_ hc h
   ·cases h
  ·split at h
   ·exact a_ hc h
   ·exact a_ hc h
   ·split at h
    ·exact a_ hc h
    ·exact a_ hc h
    ·cases h
   ·obtain⟨_,_,_,_,_,h⟩:=cx h;exact a_ hc h
   ·cases h
 |yw mx xs=>simp only [lW] at h;obtain⟨vs,h⟩:=z_ h;exact a_ hc h
 |mc=>cases h
 |mb t zero ok m k=>cases h
 |vp t m k v=>cases h
 |tE m=>cases h
 |call f args m=>
  cases m with
  |share=>cases h
  |borrow=>simp only [lW] at h;obtain⟨p,ts,r,h1,h2⟩:=jv h;rw [zq hc h1] at h2;exact⟨none,.tr rS,.inl ⟨rfl,rfl⟩,h2⟩
 |cN f args m=>
  cases m with
  |share=>cases h
  |borrow=>simp only [lW] at h;obtain⟨_,h⟩:=cU h;obtain⟨n,_,h⟩:=h;obtain⟨p,ts,r,h1,h2⟩:=jv h;rw [zq hc h1] at h2;exact⟨none,.tr rS,.inl ⟨rfl,rfl⟩,h2⟩
end
theorem BI:Can rS c8:=.tp [] [] rfl (fun x hx=>by cases hx) (fun j t x ht=>by simp at ht)
def EM (prog:Map aq) (nt:Nat) (A:aY) (V:aF) (st:St) (r:Option St) (k:aF->Prop):Prop:=
 ∃st',r=some st'/\∃V' A',R A' V' st'/\Fr V A st.H st.nx V' A' st'.H st'.nx/\Ext V A V' A'/\k V'
theorem AK (hsh:n9 prog sh) (hR:R A V st) {o:av} (h:FK sh prog nt V o k):EM prog nt A V st (er (aN prog) nt o st) k:=by
 obtain⟨dd,op,gd,fz⟩:=o;have fin:wanted st.env gd=true->(∃v H' nx',jb (aN prog) ⟨dd,op,gd,fz⟩ (ev st.env) st.H st.nx=some (v,H',nx')/\Next nt A V st dd v H' nx' k)->EM prog nt A V st (er (aN prog) nt ⟨dd,op,gd,fz⟩ st) k:=by rintro hw ⟨v,H',nx',h1,e',h2,V',A',h3,h4,h5⟩;exact⟨⟨e',H',nx'⟩,by simp only [er,hw,cond_true,h1,h2],V',A',h3,h4,h5⟩
 unfold FK at h;simp only at h;cases gd with
 |none=>
  cases fz with
  |true=>
   simp only at h;split at h
   ·exact fin rfl (Dw hR h)
   ·cases h
  |false=>obtain⟨v,H',nx',h1,h2⟩:=AJ (g:=none) hsh hR trivial h;exact fin rfl ⟨v,H',nx',h1,h2⟩
 |some p=>
  obtain⟨n,bb⟩:=p;cases fz with
  |true=>cases h
  |false=>
   obtain⟨c,a,ha,hca,h⟩:=Aa hR h;by_cases hc:c=.b bb
   ·subst hc;cases hca;obtain⟨v,H',nx',h1,h2⟩:=AJ (g:=some (.b bb,bb)) hsh hR rfl h;exact fin (by simp only [wanted,ha];cases bb<;>rfl) ⟨v,H',nx',h1,h2⟩
   ·obtain⟨g,w,hg,hp⟩:=FI hc h;have hw:wanted st.env (some (n,bb))=false:=by
     simp only [wanted,ha];split
     ·rename_i b' hb;cases hb;cases hca
      ·cases b'<;>cases bb<;>first|rfl|exact absurd rfl hc
      ·rename_i hf _;cases hf
     ·rfl
    have hn:Next nt A V st dd c8 st.H st.nx k:=ax hR (fun hact=>by
     rcases hg with ⟨rfl,rfl⟩|rfl
     ·exact .tr BI
     ·exact absurd hact hc) hp
    obtain⟨e',h2,V',A',h3,h4,h5⟩:=hn;exact⟨⟨e',st.H,st.nx⟩,by simp only [er,hw,cond_false,h2],V',A',h3,h4,h5⟩
theorem xV (hsh:n9 prog sh):∀{l:List av} {A:aY} {V:aF} {st:St} {k:aF->Prop},R A V st->H7 sh prog nt l V k->EM prog nt A V st (dy (aN prog) nt l st) k
 |[],A,V,st,k,hR,h=>⟨st,rfl,V,A,hR,Fr.refl _ _ _ _,Ext.refl _ _,h⟩
 |o::l,A,V,st,k,hR,h=>by obtain⟨st1,h1,V1,A1,h2,h3,hx,h4⟩:=AK hsh hR h;obtain⟨st2,g1,V2,A2,g2,g3,gx,g4⟩:=xV hsh h2 h4;exact⟨st2,by rw [dX,h1];exact g1,V2,A2,g2,h3.trans g3,hx.trans gx,g4⟩
end
end Go.Ax.V
namespace Go.Ax.V
section
variable {sh:Sh} {prog:Map aq} {cf:eI} {nt:Nat} {A:aY} {V:aF} {st:St} {d:Option Nat} {g:G} {k:aF->Prop}
theorem G_ {x:aH} {k:VV->Prop} (h:dz V g x k):k (ct V x):=by
 cases x with
 |c v=>exact h
 |t n=>
  simp only [dz] at h;split at h
  ·cases h
  rename_i e he;have e1:ct V (.t n)=e.v:=by simp only [ct,he]
  rw [e1];split at h
  ·exact h
  ·split at h
   ·cases h
   ·exact h.2
theorem e_ (hR:R A V st) (ha:act g) {x:aH} {k:VV->Prop} (h:dz V g x k):VR A (ct V x) (ev st.env x)/\k (ct V x):=by
 refine⟨?_,G_ h⟩;cases x with
 |c v=>exact ya A v
 |t n=>
  simp only [dz] at h;split at h
  ·cases h
  rename_i e he;obtain⟨a,h1,h2⟩:=hR.env n e he;have e1:ct V (.t n)=e.v:=by simp only [ct,he]
  rw [vH h1,e1];refine h2 (fun c bb hc=>?_);rw [hc] at h;simp only at h;split at h
  ·cases h
  ·obtain⟨e,_⟩:=h;cases e;exact ha
structure o_ (A:aY) (V:aF) (f:yq) (r:Rec):Prop where
 rd:∀x∈r.cR,∃id,(match x with|.qh q=>q.id=id|.obj i=>i=id|.all=>False)/\∃T∈f.rd,∃o a,V.H.get T=some o/\A T=some a/\cY A o a id
 wr:∃l,r.bX=.ids l/\∀id∈l,∃T∈f.wr,∃o a,V.H.get T=some o/\A T=some a/\cY A o a id
def o9 (A:aY) (V:aF) (f:yq) (cR:List Rd) (bX:List Nat):Prop:=
 (∀x∈cR,∃id,(match x with|.qh q=>q.id=id|.obj i=>i=id|.all=>False)/\∃T∈f.rd,∃o a,V.H.get T=some o/\A T=some a/\cY A o a id)/\
 ∀id∈bX,∃T∈f.wr,∃o a,V.H.get T=some o/\A T=some a/\cY A o a id
theorem r_ {f:yq}:o9 A V f [] []:=⟨fun x hx=>(by cases hx),fun id h=>(by cases h)⟩
theorem xD {f:yq} {p:aO} (h:p.cR=[]/\p.bX=[]):o9 A V f p.cR p.bX:=by rw [h.1,h.2];exact r_
def qH (p:Option aO):Prop:=∀q,p=some q->q.cR=[]/\q.bX=[]
theorem dW (v:Option AV):qH (dI v):=by
 intro q h;cases v with
 |none=>cases h
 |some v=>cases h;exact⟨rfl,rfl⟩
theorem bN (v:AV):qH (some (.val v)):=fun q h=>by cases h;exact⟨rfl,rfl⟩
theorem jF (f:Nat->AV) (o:dU):qH (some (.new f o)):=fun q h=>by cases h;exact⟨rfl,rfl⟩
theorem aK:qH none:=fun q h=>by cases h
theorem Br (hR:R A V st) (ha:act g) {sz:Option Nat} {a:aH} (h:dz V g a fun w=>gS nt V d g sz w k) {p:aO} (hp:iJ (ev st.env) sz a=some p):o9 A V ⟨fc (ct V a),[],[]⟩ p.cR p.bX:=by
 obtain⟨hw,hk⟩:=e_ hR ha h;generalize he:ev st.env a=x at hw;generalize ct V a=w at hw hk;have hit:∀{O:Nat} {o:VO} {pa:AV} {id gg off:Nat},x=.ptr id gg off->V.H.get O=some o->A O=some pa->bY pa=some id->o9 A V ⟨[O],[],[]⟩ p.cR p.bX:=by intro O o pa id gg off hx hO hA hi;subst hx;simp only [iJ,he] at hp;cases hp;refine⟨fun y hy=>?_,fun id' h=>by cases h⟩;simp [aO.cR] at hy;subst hy;exact⟨id,rfl,O,by simp,o,pa,hO,hA,.inl hi⟩
 cases hw with
 |@ptr O off id hO=>
  simp only [gS] at hk;split at hk
  ·rename_i v ovs ho;exact hit rfl ho hO rfl
  ·cases hk
 |@pd O off id hO=>
  simp only [gS] at hk;split at hk
  ·rename_i v ovs ho;exact hit rfl ho hO rfl
  ·cases hk
 |@ea O i off id gg b z len cap ex hO=>
  simp only [gS] at hk;split at hk
  ·rename_i z es ho;exact hit rfl ho hO rfl
  ·rename_i ho;exact hit rfl ho hO rfl
  ·cases hk
 |@e2 O v i j off id gg b z len cap ex hA=>obtain⟨s,io,iz,es,ho,_⟩:=cx hk;obtain⟨a0,ha0,_⟩:=hR.heap O _ ho;simp only [iJ,he] at hp;cases hp;refine⟨fun y hy=>?_,fun id' h=>by cases h⟩;simp [aO.cR] at hy;subst hy;exact⟨id,rfl,O,by simp [fc],_,a0,ho,ha0,.inr ⟨i,_,by simp,hA,rfl⟩⟩
 |@pt v cs b off n hl hf hcc=>
  simp only [iJ,he] at hp;split at hp
  ·exact xD (dW _ p hp)
  ·cases hp
 |_=>cases hk
theorem yI (hR:R A V st) {sz:Nat} {a x:aH} (h:dz V none a fun w=>dz V none x fun x=>gm V sz w x k) {p:aO} (hp:iV (ev st.env) sz a x=some p):o9 A V ⟨fc (ct V a),fc (ct V a),[]⟩ p.cR p.bX:=by
 obtain⟨hw,hk⟩:=e_ (g:=none) hR trivial h;obtain⟨y,hy,hk⟩:=bG (g:=none) hR trivial hk;generalize he:ev st.env a=q at hw;generalize ct V a=w at hw hk;have hit:∀{O:Nat} {o:VO} {pa:AV} {id gg off:Nat},q=.ptr id gg off->V.H.get O=some o->A O=some pa->bY pa=some id->o9 A V ⟨[O],[O],[]⟩ p.cR p.bX:=by
  intro O o pa id gg off hx hO hA hi;subst hx;simp only [iV,he] at hp;split at hp
  ·rw [cond_eq_ite] at hp;split at hp
   ·cases hp;refine⟨fun y hy=>?_,fun id' h=>?_⟩
    ·simp [aO.cR] at hy;subst hy;exact⟨id,rfl,O,by simp,o,pa,hO,hA,.inl hi⟩
    ·simp [aO.bX] at h;subst h;exact⟨O,by simp,o,pa,hO,hA,.inl hi⟩
   ·cases hp
  ·cases hp
 cases hw with
 |@ptr O off id hO=>
  simp only [gm] at hk;split at hk
  ·rename_i v ovs ho;exact hit rfl ho hO rfl
  ·cases hk
 |@pd O off id hO=>
  simp only [gm] at hk;split at hk
  ·rename_i v ovs ho;exact hit rfl ho hO rfl
  ·cases hk
 |@ea O i off id gg b z len cap ex hO=>
  simp only [gm] at hk;split at hk
  ·rename_i z es ho;exact hit rfl ho hO rfl
  ·rename_i ho;exact hit rfl ho hO rfl
  ·cases hk
 |@e2 O v i j off id gg b z len cap ex hA=>
  obtain⟨s,io,iz,es,ho,_⟩:=cx hk;obtain⟨a0,ha0,_⟩:=hR.heap O _ ho;have hin:cY A (.gn O s io iz v none es) a0 id:=.inr ⟨i,_,by simp,hA,rfl⟩;simp only [iV,he] at hp;split at hp
  ·rw [cond_eq_ite] at hp;split at hp
   ·cases hp;refine⟨fun y hy=>?_,fun id' h=>?_⟩
    ·simp [aO.cR] at hy;subst hy;exact⟨id,rfl,O,by simp [fc],_,a0,ho,ha0,hin⟩
    ·simp [aO.bX] at h;subst h;exact⟨O,by simp [fc],_,a0,ho,ha0,hin⟩
   ·cases hp
  ·cases hp
 |_=>cases hk
theorem yM (hR:R A V st) {len es:Nat} {x:aH} {hi:Option aH} (h:dz V none x fun w=>jR nt V d len es w hi k) {p:aO} (hp:iW (ev st.env) len es x none hi none=some p):o9 A V ⟨fc (ct V x),[],[]⟩ p.cR p.bX:=by
 obtain⟨hw,hk⟩:=e_ (g:=none) hR trivial h;generalize he:ev st.env x=q at hw;generalize ct V x=w at hw hk;have hit:∀{O:Nat} {o:VO} {pa:AV} {id gg off:Nat},q=.ptr id gg off->V.H.get O=some o->A O=some pa->bY pa=some id->o9 A V ⟨[O],[],[]⟩ p.cR p.bX:=by
  intro O o pa id gg off hx hO hA hi';subst hx;simp only [iW,he] at hp;split at hp
  ·cases hp
  cases hp;refine⟨fun y hy=>?_,fun id' h=>by cases h⟩;simp [aO.cR] at hy;subst hy;exact⟨id,rfl,O,by simp,o,pa,hO,hA,.inl hi'⟩
 cases hw with
 |@ptr O off id hO=>
  simp only [jR] at hk;split at hk
  ·rename_i v ovs ho;exact hit rfl ho hO rfl
  ·cases hk
 |@pd O off id hO=>
  simp only [jR] at hk;split at hk
  ·rename_i v ovs ho;exact hit rfl ho hO rfl
  ·cases hk
 |_=>cases hk
theorem Ek (hR:R A V st) {es:Nat} {s x:aH} (hz:0 < es) (h:dz V none s fun w=>dz V none x fun x=>xX nt V d es w x k) {p:aO} (hp:x4 es (ev st.env s) (ev st.env x)=some p):o9 A V ⟨vb (ct V s)++bW (ct V x),vb (ct V s),[]⟩ p.cR p.bX:=by
 obtain⟨hw,hk⟩:=e_ (g:=none) hR trivial h;obtain⟨hy,hk⟩:=e_ (g:=none) hR trivial hk;generalize he:ev st.env s=q at hw hp;generalize ct V s=w at hw hk;generalize hye:ev st.env x=r at hy hp;generalize ct V x=y at hy hk;cases hw with
 |@sa O off n z id cap hz' hO=>
  simp only [xX] at hk;obtain⟨rfl,hk⟩:=aV hk;split at hk;rotate_left
  ·cases hk
  rename_i v ovs ho;split at hk;rotate_left
  ·cases hk
  have own:∃T∈[O]++bW y,∃o a,V.H.get T=some o/\A T=some a/\cY A o a id:=⟨O,by simp,_,_,ho,hO,.inl rfl⟩;have qwR:∃T∈[O],∃o a,V.H.get T=some o/\A T=some a/\cY A o a id:=⟨O,by simp,_,_,ho,hO,.inl rfl⟩;have src:∀{m:Nat} {sr:Src},cQ z r=some (m,sr)->∀g,sr.q=some g->∃T∈[O]++bW y,∃o a,V.H.get T=some o/\A T=some a/\cY A o a g.id:=by
   intro m sr h1 g h2;cases hy with
   |@sl P _ hP=>
    simp only [yK] at hk;split at hk
    ·rename_i z' es ho';obtain⟨rfl,_⟩:=aV hk;obtain⟨b,hb,hs⟩:=hR.heap P _ ho';rw [hP] at hb;cases hb;rcases hs.2 with ⟨_,rfl|rfl⟩|⟨id2,g2,b2,cells,rfl,_⟩
     ·cases h1;cases h2
     ·simp only [cQ,cond_eq_ite] at h1;split at h1
      ·cases h1;cases h2
      ·cases h1
     ·simp only [cQ,cond_eq_ite] at h1;split at h1
      ·cases h1;cases h2;exact⟨P,by simp [bW],_,_,ho',hP,.inl rfl⟩
      ·cases h1
    ·cases hk
   |@tr v _ hcan=>
    obtain⟨xs,e1,_⟩:=hk;cases v<;>first|(cases e1;done)|skip
    cases hcan with
    |nil=>cases h1;cases h2
    |b6 _ cs n z c hn hcl hsz hf hh=>
     simp only [cQ,cond_eq_ite] at h1;split at h1
     ·cases h1;cases h2
     ·cases h1
   |bT=>cases h1;cases h2
   |jL=>
    simp only [cQ,cond_eq_ite] at h1;split at h1
    ·cases h1;cases h2
    ·cases h1
   |_=>cases hk
  unfold x4 at hp;split at hp
  ·cases hp
  rename_i m sr hsr;simp only [Nat.beq_refl,cond_true] at hp;cases hp;refine⟨fun x hx=>?_,fun id' h=>?_⟩
  ·simp only [aO.cR,Qg,Qh] at hx;rcases hx with hx|rfl
   ·split at hx
    ·rename_i g hg;simp at hx;subst hx;exact⟨g.id,rfl,src hsr g hg⟩
    ·cases hx
   ·exact⟨id,rfl,own⟩
  ·simp [aO.bX] at h;subst h;exact qwR
 |_=>cases hk
theorem EB (hR:R A V st) (ha:act g) {es bytes:Nat} {s x:aH} (h:dz V g s fun w=>dz V g x fun x=>uL sh nt V d g es bytes w x k) {p:aO} (hp:lX es bytes (ev st.env s) (ev st.env x)=some p) :
  o9 A V ⟨bW (ct V s)++bW (ct V x),bW (ct V s),bW (ct V s)⟩ p.cR p.bX:=by
 obtain⟨hw,h⟩:=e_ hR ha h;obtain⟨hy,hk⟩:=e_ hR ha h;generalize ct V s=w at hw hk;generalize ct V x=y at hy hk;replace hk:((∃s io xs,y=.gl s io xs)\/((∀O,y=.sl O->∃z es,V.H.get O=some (.gr z es))/\((∃v,y=.tr v)\/y=.bT\/∃O,y=.sl O)))/\
   (w=.bT\/(∃O o,w=.sl O/\V.H.get O=some o)\/∃O v i s io iz es,w=.ow O v i/\V.H.get O=some (.gn O s io iz v none es)):=by
  unfold uL at hk;split at hk
  ·rename_i s' io xs;refine⟨.inl ⟨_,_,_,rfl⟩,?_⟩;replace hk:=(aV hk).2;unfold vN at hk;split at hk
   ·cases hk
   split at hk
   ·exact .inl rfl
   ·split at hk
    ·rename_i ho;exact .inr (.inl ⟨_,_,rfl,ho⟩)
    ·cases hk
   ·cases hk
  ·replace hk:=(cV hk).2;unfold yK at hk;split at hk
   ·obtain⟨xs,_,_,h⟩:=hk;refine⟨.inr ⟨fun O e=>(by cases e),.inl ⟨_,rfl⟩⟩,?_⟩;split at h
    ·exact .inl rfl
    ·split at h
     ·rename_i ho;exact .inr (.inl ⟨_,_,rfl,ho⟩)
     ·cases h
    ·obtain⟨_,_,_,_,ho,_⟩:=cx h;exact .inr (.inr ⟨_,_,_,_,_,_,_,rfl,ho⟩)
    ·cases h
   ·refine⟨.inr ⟨fun O e=>(by cases e),.inr (.inl rfl)⟩,?_⟩;split at hk
    ·exact .inl rfl
    ·split at hk
     ·rename_i ho;exact .inr (.inl ⟨_,_,rfl,ho⟩)
     ·cases hk
    ·obtain⟨_,_,_,_,ho,_⟩:=cx hk;exact .inr (.inr ⟨_,_,_,_,_,_,_,rfl,ho⟩)
    ·cases hk
   ·split at hk
    ·rename_i ho;refine⟨.inr ⟨fun O e=>(by cases e;exact⟨_,_,ho⟩),.inr (.inr ⟨_,rfl⟩)⟩,?_⟩;replace hk:=(aV hk).2;split at hk
     ·exact .inl rfl
     ·split at hk
      ·rename_i ho;exact .inr (.inl ⟨_,_,rfl,ho⟩)
      ·cases hk
     ·obtain⟨_,_,_,_,ho,_⟩:=cx hk;exact .inr (.inr ⟨_,_,_,_,_,_,_,rfl,ho⟩)
     ·cases hk
    ·cases hk
   ·cases hk
 obtain⟨hky,hkw⟩:=hk;generalize ev st.env s=a at hw hp;generalize ev st.env x=b at hy hp;have hsrc:∀{m:Nat} {src:Src} {q:yp},cQ es b=some (m,src)->src.q=some q->∃T∈bW y,∃o a,V.H.get T=some o/\A T=some a/\cY A o a q.id:=by
  intro m src q h1 h2;cases hy with
  |@sl O _ hO=>
   rcases hky with ⟨_,_,_,e⟩|⟨hgr,_⟩
   ·cases e
   obtain⟨z,es',ho⟩:=hgr O rfl;obtain⟨yy,hyy,hs⟩:=hR.heap O _ ho;rw [hO] at hyy;cases hyy;rcases hs.2 with ⟨_,rfl|rfl⟩|⟨id,gg,bb,cells,rfl,_⟩
   ·cases h1;cases h2
   ·simp only [cQ,cond_eq_ite] at h1;split at h1
    ·cases h1;cases h2
    ·cases h1
   ·simp only [cQ,cond_eq_ite] at h1;split at h1
    ·cases h1;cases h2;exact⟨O,by simp [bW],_,_,ho,hO,.inl rfl⟩
    ·cases h1
  |@tr v _ hc=>
   cases hc<;>first|(cases h1;done)|skip
   ·cases h1;cases h2
   ·simp only [cQ,cond_eq_ite] at h1;split at h1
    ·cases h1;cases h2
    ·cases h1
   ·rename_i hf _;cases b<;>first|(cases hf;done)|skip
    all_goals first
     |(cases h1;cases h2;done)
     |(simp only [cQ,cond_eq_ite] at h1
       split at h1
       ·cases h1;cases h2
       ·cases h1)
  |bT=>cases h1;cases h2
  |jL=>
   simp only [cQ,cond_eq_ite] at h1;split at h1
   ·cases h1;cases h2
   ·cases h1
  |gl _ _ _ _ _=>
   simp only [cQ,cond_eq_ite] at h1;split at h1
   ·cases h1;cases h2
   ·cases h1
  |_=>exfalso;rcases hky with ⟨_,_,_,e⟩|⟨_,⟨_,e⟩|e|⟨_,e⟩⟩<;>cases e
 have qxR:∀{id:Nat},bY a=some id->∃T∈bW w,∃o a,V.H.get T=some o/\A T=some a/\cY A o a id:=by
  intro id hi;rcases hkw with rfl|⟨O,o,rfl,ho⟩|⟨O,v,i,s,io,iz,es,rfl,ho⟩
  ·cases hw<;>cases hi
  ·cases hw with
   |sl hO=>exact⟨O,by simp [bW],_,_,ho,hO,.inl hi⟩
  ·cases hw with
   |ow hA=>obtain⟨a0,ha0,_⟩:=hR.heap O _ ho;exact⟨O,by simp [bW],_,_,ho,ha0,.inr ⟨i,_,by simp,hA,hi⟩⟩
 have mk:∀(q:Option yp) (u:Option Nat) (kk:List AV->Option dU->Option Out),(∀r,q=some r->∃T∈bW y,∃o a,V.H.get T=some o/\A T=some a/\cY A o a r.id)->
   (∀i,u=some i->∃T∈bW w,∃o a,V.H.get T=some o/\A T=some a/\cY A o a i)->o9 A V ⟨bW w++bW y,bW w,bW w⟩ (aO.look q u kk).cR (aO.look q u kk).bX:=by
  intro q u kk h1 h2;refine⟨fun z hz=>?_,fun id hid=>?_⟩
  ·simp only [aO.cR,Qg] at hz;rcases hz with hz|hz
   ·cases q with
    |none=>cases hz
    |some r=>simp at hz;subst hz;obtain⟨T,h3,h4⟩:=h1 r rfl;exact⟨r.id,rfl,T,List.mem_append_right _ h3,h4⟩
   ·cases u with
    |none=>cases hz
    |some i=>simp at hz;subst hz;obtain⟨T,h3,h4⟩:=h2 i rfl;exact⟨i,rfl,T,List.mem_append_left _ h3,h4⟩
  ·cases u with
   |none=>cases hid
   |some i=>simp [aO.bX] at hid;subst hid;exact h2 _ rfl
 unfold lX at hp;split at hp
 ·cases hp
 rename_i m src hm;rw [cond_eq_ite] at hp;split at hp
 ·rw [cond_eq_ite] at hp;split at hp
  ·cases hp;exact r_
  ·cases hp
 ·split at hp
  ·rw [cond_eq_ite] at hp;split at hp
   ·cases hp;exact mk _ _ _ (fun r hr=>hsrc hm hr) (fun i hi=>by cases hi)
   ·cases hp
  ·rw [cond_eq_ite] at hp;split at hp
   ·cases hp;exact mk _ _ _ (fun r hr=>hsrc hm hr) (fun i hi=>by cases hi)
   ·cases hp
  ·rename_i id gg off es' len cap ex;rw [cond_eq_ite] at hp;split at hp
   ·cases hp;unfold s6;rw [cond_eq_ite];split
    ·exact mk _ _ _ (fun r hr=>hsrc hm hr) (fun i hi=>by cases hi;exact qxR rfl)
    ·rw [cond_eq_ite];split
     ·exact mk _ _ _ (fun r hr=>hsrc hm hr) (fun i hi=>by cases hi;exact qxR rfl)
     ·exact mk _ _ _ (fun r hr=>hsrc hm hr) (fun i hi=>by cases hi;exact qxR rfl)
   ·cases hp
  ·cases hp
theorem kr {V':aF} (he:V'.env=V.env):∀(parts:List (Nat×Nat×aH)),dY V' parts=dY V parts
 |[]=>rfl
 |(_,_,x)::r=>by
  have e1:ct V' x=ct V x:=by cases x<;>simp only [ct,he]
  simp only [dY,kr he r,e1]
theorem sK {sz:Nat}:∀(parts:List (Nat×Nat×aH)) (j:Nat) (V:aF) (k:List TV->aF->Prop),R A V st->gX V none true sz j parts k->
  ∀id∈(parts.map fun p=>ev st.env p.2.2).flatMap (bt deep st.H),∃T∈dY V parts,∃o a,V.H.get T=some o/\A T=some a/\cY A o a id
 |[],j,V,k,hR,hk,id,hid=>by simp at hid
 |(off,n,x)::r,j,V,k,hR,hk,id,hid=>by
  obtain⟨_,hk⟩:=hk;obtain⟨hw,hk⟩:=e_ (g:=none) hR trivial hk;rw [List.map_cons,List.flatMap_cons,Qg] at hid;have rest:∀{V1:aF} {k':List TV->aF->Prop},Sub V V1->gX V1 none true sz (j+1) r k'->id∈(r.map fun p=>ev st.env p.2.2).flatMap (bt deep st.H)->
    ∃T∈bW (ct V x)++dY V r,∃o a,V.H.get T=some o/\A T=some a/\cY A o a id:=by
   intro V1 k' hs hk' hi;obtain⟨T,h1,o,a,h2,h3,h4⟩:=sK r (j+1) V1 k' (hs.r hR) hk' id hi;rw [kr hs.env] at h1;exact⟨T,List.mem_append_right _ h1,o,a,hs.H _ _ h2,h3,h4⟩
  simp only [dY];generalize ct V x=w at hw hk rest;generalize ev st.env x=a at hw hid;have no:a.plain=true->id∈bt deep st.H a->False:=fun hp hi=>by have:bt deep st.H a=[]:=lJ hp 27 _;rw [this] at hi;cases hi
  cases hw with
  |tr hc=>exact hid.elim (fun hi=>(no (fK hc) hi).elim) (rest (Sub.refl V) hk.2)
  |bT=>exact hid.elim (fun hi=>(no rfl hi).elim) (rest (Sub.refl V) hk.2)
  |jL=>exact hid.elim (fun hi=>(no rfl hi).elim) (rest (Sub.refl V) hk.2)
  |@sl O _ hO=>obtain⟨_,_,hk⟩:=hk;obtain⟨ob,ho,hwh,es,hk,_⟩:=u_ hk;refine hid.elim (fun hi=>?_) (rest (mG V (.sl O)) hk);obtain⟨y,hy,hs⟩:=hR.heap O _ ho;rw [hO] at hy;cases hy;exact⟨O,List.mem_append_left _ (by simp [bW]),_,_,ho,hO,lI hwh hs 27 id hi⟩
  |@st t o cs tl hv hc=>
   obtain⟨qzZ,hk⟩:=hk;replace qzZ:FA o=true:=by simpa using qzZ
   have qxI:=mo hk;obtain⟨u,hk⟩:=m6 hk;refine hid.elim (fun hi=>?_) (rest (iw o V) hk.2);have hi':id∈cs.flatMap (bt 29 st.H):=hi;obtain⟨y,hy,hi'⟩:=List.mem_flatMap.1 hi';obtain⟨q,hq⟩:=List.getElem?_of_mem hy;have hlt:q < tl.length:=by rw [hc.len];exact(PV.1 hq).1
   have hat:=hc.at_ q _ y (PU hlt) hq;cases ho:bq q o with
   |none=>rw [ho] at hat;have hh:bt 29 st.H y=[]:=kN hat.2 28 _;rw [hh] at hi';cases hi'
   |some w=>
    rw [ho] at hat;cases w<;>first|(exact absurd hat (by intro hh;exact hh))|skip
    ·rcases hat with e|e<;>(rw [e] at hi';cases hi')
    ·rename_i O;have hO:A O=some y:=hat;obtain⟨ob,hO',hwh⟩:=qxI q O (gJ ho);obtain⟨y',hy',hs'⟩:=hR.heap O _ hO';rw [hO] at hy';cases hy';have hmem:∀{l:List (Nat×VV)} {i:Nat},(i,VV.sl O)∈l->O∈oB l:=by
      intro l
      induction l with
      |nil=>intro i h;cases h
      |cons p l ih=>
       intro i h;obtain⟨i',w'⟩:=p;rcases Qf.1 h with h1|h1
       ·cases h1;simp [oB]
       ·cases w'<;>first|exact ih h1|exact Qd _ (ih h1)
     exact⟨O,List.mem_append_left _ (hmem (gJ ho)),_,_,hO',hO,lI hwh hs' 26 id hi'⟩
    ·exact absurd (gJ ho) (rU qzZ _ _ _ _)
  |_=>cases hk
theorem iq (hR:R A V st) (ha:act g):∀{xs:List aH} {k:Bool->List TV->Prop},og V xs=true->k7 V g xs k->bz AV.plain (xs.map (ev st.env))=true
 |[],k,h,hk=>rfl
 |x::xs,k,h,hk=>by
  simp only [og,Qk] at h;obtain⟨hw,hk⟩:=e_ hR ha hk;rw [List.map_cons,aJ];have h1:=h.1;generalize ct V x=w at hw hk h1;generalize ev st.env x=a at hw;have fin:∀{kk:Bool->List TV->Prop},a.plain=true->k7 V g xs kk->∀y∈a::xs.map (ev st.env),AV.plain y=true:=by
   intro kk hp hk y hy;rcases Qf.1 hy with rfl|hy
   ·exact hp
   ·exact aJ.1 (iq hR ha h.2 hk) y hy
  cases hw<;>first|(cases h1;done)|skip
  ·rename_i v hc;exact fin (fK hc) hk
  ·exact fin rfl hk
  ·exact fin rfl hk
  ·rename_i v ovs cs ts hv hc;obtain⟨t,hk⟩:=m6 hk;exact fin (kW hc h1) hk
theorem DP (hR:R A V st) {len:Nat} {zero:List AV} {parts:List (Nat×Nat×aH)} (h:pR sh nt V d none true len zero parts k) :
  ∀id∈(parts.map fun p=>ev st.env p.2.2).flatMap (bt deep st.H),∃T∈dY V parts,∃o a,V.H.get T=some o/\A T=some a/\cY A o a id:=by
 unfold pR at h;split at h
 ·unfold AO at h;simp only at h;split at h
  ·split at h<;>first|(cases h;done)|skip
   split at h<;>first|(cases h;done)|skip
  ·exact sK parts 0 V _ hR (aV (cV h).2).2
 ·simp only at h;split at h;rotate_left
  ·cases h
  rename_i off n x;split at h;rotate_left
  ·cases h
  obtain⟨w,hw,hk⟩:=bG (g:=none) hR trivial h;have hpl:(ev st.env x).plain=true:=by
   generalize ev st.env x=p at hw;unfold H9 at hk;split at hk
   ·cases hw<;>rfl
   ·split at hk
    ·cases hw with
     |st hv hc=>exact kW hc rfl
    ·cases hk
   ·cases hk
  intro id hid;have hh:bt deep st.H (ev st.env x)=[]:=lJ hpl 27 _;simp only [List.map_cons,List.map_nil,List.flatMap_cons,List.flatMap_nil,List.append_nil] at hid;rw [hh] at hid;cases hid
theorem FJ (hR:R A V st) {o:av} (h:FK sh prog nt V o k) {f:yq} (hf:vG V o=some f) {st':St} (hrun:er (aN prog) nt o st=some st') (n0:Nat) :
  ∃r,bE (aN prog) nt n0 o st=some (st',r)/\o_ A V f r/\r.xk=st.nx/\r.oc=st'.nx:=by
 obtain⟨dd,op,gd,fz⟩:=o;unfold er at hrun;simp only [cond_eq_ite] at hrun;by_cases hw:wanted st.env gd=true;rotate_left
 ·rw [if_neg hw] at hrun;split at hrun
  ·rename_i e he;cases hrun;exact⟨⟨[],.ids [],st.H,st.H,st.nx,st.nx⟩,by simp only [bE,cond_eq_ite,if_neg hw,he],⟨fun x hx=>(by cases hx),⟨[],rfl,fun id hid=>(by cases hid)⟩⟩,rfl,rfl⟩
  ·cases hrun
 rw [if_pos hw] at hrun;split at hrun
 ·cases hrun
 rename_i v H' nx' hdo;split at hrun;rotate_left
 ·cases hrun
 rename_i e he;cases hrun;have fin:∀{cR:List Rd} {bX:List Nat},ee (aN prog) n0 ⟨dd,op,gd,fz⟩ (ev st.env) st.H st.nx=some (v,H',nx',cR,.ids bX)->o9 A V f cR bX->
   ∃r,bE (aN prog) nt n0 ⟨dd,op,gd,fz⟩ st=some (⟨e,H',nx'⟩,r)/\o_ A V f r/\r.xk=st.nx/\r.oc=nx':=by
  intro cR bX h1 h2;exact⟨⟨cR,.ids bX,st.H,H',st.nx,nx'⟩,by simp only [bE,cond_eq_ite,if_pos hw,h1,he],⟨h2.1,bX,rfl,h2.2⟩,rfl,rfl⟩
 cases fz with
 |true=>
  have hgd:gd=none:=by
   cases gd with
   |none=>rfl
   |some p=>cases h
  subst hgd;simp only [FK] at h;split at h
  ·rename_i len zero parts;simp only [vG] at hf;cases hf;have qz1:∀id∈(parts.map fun p=>ev st.env p.2.2).flatMap (bt deep st.H),∃T∈dY V parts,∃o a,V.H.get T=some o/\A T=some a/\cY A o a id:=DP hR h;simp only [jb,cond_true] at hdo
   ·split at hdo
    ·cases hdo
    rename_i l hl;split at hdo
    ·rename_i v' hv';cases hdo;refine fin (cR:=((parts.map fun p=>ev st.env p.2.2).flatMap (bt deep st.H)).map Rd.obj) (bX:=(parts.map fun p=>ev st.env p.2.2).flatMap (bt deep st.H)) ?_ ⟨fun x hx=>?_,qz1⟩
     ·simp only [ee,cond_true,hl,hv']
     ·obtain⟨id,hid,rfl⟩:=Qi.1 hx;exact⟨id,rfl,qz1 id hid⟩
    ·cases hdo
  ·cases h
 |false=>
  have hev:∃g:G,act g/\lW sh prog nt V dd g op k:=by
   cases gd with
   |none=>exact⟨none,trivial,h⟩
   |some p=>
    obtain⟨n,bb⟩:=p;obtain⟨c,a,ha,hca,h⟩:=Aa hR h;refine⟨some (c,bb),?_,h⟩;simp only [wanted,ha] at hw;split at hw
    ·rename_i b' hb;cases hb;cases hca;rotate_left
     ·rename_i hf _;cases hf
     show TV.b b'=TV.b bb;congr 1;cases b'<;>cases bb<;>first|rfl|cases hw
    ·cases hw
  obtain⟨g,hact,h⟩:=hev;have qxx:fj (aN prog) op (ev st.env) st.H st.nx=some (v,H',nx'):=hdo;have plan:∀{p:(aH->AV)->Option aO},kind op=.plan p->(∀q,p (ev st.env)=some q->o9 A V f q.cR q.bX)->∃r,bE (aN prog) nt n0 ⟨dd,op,gd,false⟩ st=some (⟨e,H',nx'⟩,r)/\o_ A V f r/\r.xk=st.nx/\r.oc=nx':=by
   intro p hk hl;simp only [fj,hk] at qxx;split at qxx
   ·rename_i q hq;refine fin (cR:=q.cR) (bX:=q.bX) ?_ (hl q hq);simp only [ee,cond_false,j3,hk,hq,qxx]
   ·cases qxx
  have plain:∀{p:(aH->AV)->Option aO},kind op=.plan p->qH (p (ev st.env))->∃r,bE (aN prog) nt n0 ⟨dd,op,gd,false⟩ st=some (⟨e,H',nx'⟩,r)/\o_ A V f r/\r.xk=st.nx/\r.oc=nx':=
   fun hk hs=>plan hk (fun q hq=>xD (hs q hq))
  have call:∀{n:Nat} {args:List aH},(kind op=.call n args .borrow\/∃fv,kind op=.cN fv args .borrow/\ev st.env fv=.func n)->bz AV.plain (args.map (ev st.env))=true->
    ∃r,bE (aN prog) nt n0 ⟨dd,op,gd,false⟩ st=some (⟨e,H',nx'⟩,r)/\o_ A V f r/\r.xk=st.nx/\r.oc=nx':=by
   intro n args hk hp;have hd:bK (aN prog) n (args.map (ev st.env)) .borrow st.H st.nx=some (v,H',nx'):=by
    rcases hk with hk|⟨fv,hk,hf⟩
    ·simpa only [fj,hk] using qxx
    ·simpa only [fj,hk,hf] using qxx
   have hH:H'=st.H/\nx'=st.nx:=by
    have hd':=hd;simp only [bK,hp,cond_true] at hd';split at hd'
    ·cases hd';exact⟨rfl,rfl⟩
    ·cases hd'
   obtain⟨rfl,rfl⟩:=hH;refine fin (cR:=[]) (bX:=[]) ?_ r_;rcases hk with hk|⟨fv,hk,hf⟩
   ·simp only [ee,cond_false,j3,hk,bU,hp,cond_true,hd]
   ·simp only [ee,cond_false,j3,hk,hf,bU,hp,cond_true,hd]
  cases op with
  |mv x=>exact plain rfl (bN _)
  |pick c a b=>
   refine plain (p:=fun ρ=>nj ρ c a b) rfl ?_;unfold nj;split
   ·split<;>exact bN _
   ·exact aK
  |alloc zero=>exact plain rfl (jF _ _)
  |box x=>
   refine plain (p:=fun ρ=>xb ρ x) rfl ?_;unfold xb;split
   ·exact jF _ _
   ·exact aK
  |build zero parts=>
   refine plain (p:=fun ρ=>jJ ρ zero parts) rfl ?_;unfold jJ;split
   ·exact bN _
   ·exact aK
  |eR es len zero parts=>
   refine plain (p:=fun ρ=>iK ρ es len zero parts) rfl ?_;unfold iK;split
   ·exact jF _ _
   ·exact aK
  |aQ len zero parts=>
   refine plain (p:=fun ρ=>c5 ρ len zero parts) rfl ?_;unfold c5;split
   ·rw [cond_eq_ite];split
    ·exact bN _
    ·exact aK
   ·exact aK
  |load sz a=>simp only [vG] at hf;cases hf;exact plan (p:=fun ρ=>iJ ρ sz a) rfl (fun q hq=>Br hR hact h hq)
  |store sz a x=>
   simp only [vG] at hf;cases hf;cases g with
   |none=>
    cases dd with
    |none=>exact plan (p:=fun ρ=>iV ρ sz a x) rfl (fun q hq=>yI hR h hq)
    |some _=>cases h
   |some _=>cases h
  |iN x=>refine plain (p:=fun ρ=>gG ρ x) rfl ?_;unfold gG;split<;>first|exact bN _|exact aK
  |bin op x y=>exact plain (p:=fun ρ=>dI (yj op (ρ x) (ρ y))) rfl (dW _)
  |eq t neg x y=>
   refine plain (p:=fun ρ=>Dn ρ t neg x y) rfl ?_;unfold Dn;split
   ·exact bN _
   ·exact aK
  |un op x=>exact plain (p:=fun ρ=>dI (GO op (ρ x))) rfl (dW _)
  |conv c x=>
   refine plain (p:=fun ρ=>pG ρ c x) rfl ?_;unfold pG;split
   ·exact bN _
   ·exact aK
  |kG es bytes zero n=>
   refine plain (p:=fun ρ=>pE ρ es bytes zero n) rfl ?_;unfold pE;split
   ·split
    ·rw [cond_eq_ite];split
     ·exact jF _ _
     ·exact aK
    ·exact aK
   ·exact aK
  |jY x lo hi=>
   refine plain (p:=fun ρ=>ku ρ x lo hi) rfl ?_;unfold ku;split
   ·split
    ·exact aK
    ·exact bN _
   ·exact aK
  |iR es x lo hi mx=>exact plain (p:=fun ρ=>dI (yN es ρ (ρ x) lo hi mx)) rfl (dW _)
  |iE n es x lo hi mx=>
   cases hf;obtain⟨hz,h⟩:=cV h;cases g with
   |some q=>cases h
   |none=>
    cases lo with
    |some _=>cases h
    |none=>
     cases mx with
     |some _=>cases h
     |none=>exact plan (p:=fun ρ=>iW ρ n es x none hi none) rfl (fun q hq=>yM hR h hq)
  |gR off x=>refine plain (p:=fun ρ=>fY ρ off x) rfl ?_;unfold fY;split<;>first|exact bN _|exact aK
  |Bz off sz x=>
   refine plain (p:=fun ρ=>w9 ρ off sz x) rfl ?_;unfold w9;split
   ·split
    ·exact dW _
    ·exact aK
   ·exact aK
  |bL es x i=>
   refine plain (p:=fun ρ=>gH ρ es x i) rfl ?_;unfold gH;split
   ·split
    ·split
     ·split
      ·exact aK
      ·exact bN _
     ·exact aK
    ·rw [cond_eq_ite];split
     ·split
      ·exact bN _
      ·exact aK
     ·exact aK
    ·exact aK
   ·exact aK
  |kO len es x i=>
   refine plain (p:=fun ρ=>kz ρ len es x i) rfl ?_;unfold kz;split
   ·split
    ·split<;>first|exact bN _|exact aK
    ·exact aK
   ·exact aK
  |idx x i=>
   refine plain (p:=fun ρ=>w8 ρ x i) rfl ?_;unfold w8;split
   ·split
    ·split
     ·exact bN _
     ·exact aK
    ·exact aK
   ·exact aK
  |ext i x=>
   refine plain (p:=fun ρ=>w_ ρ i x) rfl ?_;unfold w_;split
   ·exact dW _
   ·exact aK
  |app es bytes s x=>simp only [vG] at hf;cases hf;exact plan (p:=fun ρ=>lX es bytes (ρ s) (ρ x)) rfl (fun q hq=>EB hR hact h hq)
  |BY es dd s=>
   cases hf;obtain⟨hz,h⟩:=cV h;cases g with
   |some q=>cases h
   |none=>exact plan (p:=fun ρ=>x4 es (ρ dd) (ρ s)) rfl (fun q hq=>Ek hR hz h hq)
  |EU es zero x=>cases hf
  |len str x=>
   refine plain (p:=fun ρ=>iX ρ str x) rfl ?_;unfold iX;split
   ·split
    ·exact bN _
    ·exact aK
   ·split<;>first|exact bN _|exact aK
  |yw mx xs=>
   refine plain (p:=fun ρ=>vl ρ mx xs) rfl ?_;unfold vl;split
   ·exact dW _
   ·exact aK
  |mc=>cases h
  |mb t zero ok m k=>cases hf
  |vp t m k v=>cases hf
  |tE m=>cases hf
  |call n args m=>
   cases m with
   |share=>cases hf
   |borrow=>
    simp only [vG] at hf;split at hf
    ·rename_i ht;simp only [lW] at h;exact call (.inl rfl) (iq hR hact ht h)
    ·cases hf
  |cN fv args m=>
   cases m with
   |share=>cases hf
   |borrow=>
    simp only [vG] at hf;split at hf
    ·rename_i ht;simp only [lW] at h;obtain⟨fvv,hfv,h⟩:=bQ hR hact h;cases g with
     |none=>obtain⟨n,rfl,h⟩:=h;generalize he':ev st.env fv=p at hfv;cases hfv;exact call (.inr ⟨fv,rfl,he'⟩) (iq (g:=none) hR trivial ht h)
     |some q=>obtain⟨c,bb⟩:=q;obtain⟨n,hn,h⟩:=h;obtain rfl:=hn hact;generalize he':ev st.env fv=p at hfv;cases hfv;exact call (.inr ⟨fv,rfl,he'⟩) (iq hR hact ht h)
    ·cases hf
end
end Go.Ax.V
namespace Go.Ax.V
section
variable {sh:Sh} {prog:Map aq} {cf:eI} {nt:Nat}
theorem gL {n:Nat}:∀{l:List Nat},lV n l=true↔n∈l
 |[]=>by simp [lV]
 |m::l=>by simp [lV,gL (l:=l)]
theorem wz {m:List Nat}:∀{l:List Nat},E9 l m=true->∀n∈l,n∈m
 |[],h,n,hn=>by cases hn
 |x::l,h,n,hn=>by
  simp only [E9,Qk] at h;rcases Qf.1 hn with rfl|hn
  ·exact gL.1 h.1
  ·exact wz h.2 n hn
theorem lR {m:List Nat}:∀{l:List Nat},uQ l m=true->∀n∈l,n ∉ m
 |[],h,n,hn=>by cases hn
 |x::l,h,n,hn=>by
  simp only [uQ,Qk,Qm] at h;rcases Qf.1 hn with rfl|hn
  ·intro hm;rw [gL.2 hm] at h;exact absurd h.1 (by decide)
  ·exact lR h.2 n hn
theorem kj {info:List (Nat×Nat×List Nat)} {T:Nat}:∀{l:List Nat},T∈l->(cW T info).1∈iF info l
 |[],h=>by cases h
 |x::l,h=>by
  rcases Qf.1 h with rfl|h
  ·exact Qc
  ·exact Qd _ (kj h)
theorem nZ {info:List (Nat×Nat×List Nat)} {ah:List Nat}:∀{l:List Nat},js info ah l=true->∀T∈l,∀c∈(cW T info).2,c∈ah
 |[],h,T,hT=>by cases hT
 |x::l,h,T,hT=>by
  simp only [js,Qk] at h;rcases Qf.1 hT with rfl|hT
  ·exact wz h.1
  ·exact nZ h.2 T hT
theorem dZ (T T':Nat) (x:Nat×List Nat) (l:List (Nat×Nat×List Nat)):cW T ((T',x)::l)=if T'=T then x else cW T l:=by simp only [cW,cond_eq_ite,Qn]
theorem BO {α:Type} (v:Option α) (l r:Map α) (p:Nat->Bool):tF (.node v l r) p=((match v with|none=>true|some _=>p 0)&&(tF l (fun k=>p (Nat.succ (Nat.mul 2 k)))&&tF r (fun k=>p (Nat.succ (Nat.succ (Nat.mul 2 k)))))):=rfl
theorem jx {α:Type}:∀(m:Map α) (p:Nat->Bool),tF m p=true->∀i x,m.get i=some x->p i=true
 |.leaf,p,h,i,x,hx=>by cases hx
 |.node v l r,p,h,i,x,hx=>by
  rw [BO,Qk,Qk] at h;obtain⟨h1,h2,h3⟩:=h;rw [Map.b5] at hx;by_cases h0:i=0
  ·subst h0;simp at hx;subst hx;exact h1
  ·rw [if_neg h0] at hx;split at hx
   ·have:=jx l _ h2 _ x hx;rwa [show Nat.succ (Nat.mul 2 (i / 2))=i by show 2*(i / 2)+1=i;omega] at this
   ·have:=jx r _ h3 _ x hx;rwa [show Nat.succ (Nat.succ (Nat.mul 2 (i / 2 - 1)))=i by show 2*(i / 2 - 1)+2=i;omega] at this
theorem fS {V:aF} {T:Nat}:jo V T=true↔∃o,V.H.get T=some o:=by
 unfold jo;split
 ·rename_i o ho;exact⟨fun _=>⟨o,ho⟩,fun _=>rfl⟩
 ·rename_i ho;exact⟨fun h=>(by cases h),fun ⟨o,h⟩=>(by rw [ho] at h;cases h)⟩
theorem vY {α:Type}:∀(m:Map α) (f:Nat->Prop->Prop) (P:Nat->Prop) (k:Prop),(∀T k,f T k->P T/\k)->BN m f k->k/\∀T x,m.get T=some x->P T
 |.leaf,f,P,k,hf,h=>⟨h,fun T x hT=>(by cases hT)⟩
 |.node v l r,f,P,k,hf,h=>by
  have h':(match v with|none=>fun k=>k|some _=>f 0) (BN l (fun i=>f (Nat.succ (Nat.mul 2 i))) (BN r (fun i=>f (Nat.succ (Nat.succ (Nat.mul 2 i)))) k)):=h;have h0:(∀x,v=some x->P 0)/\BN l (fun i=>f (Nat.succ (Nat.mul 2 i))) (BN r (fun i=>f (Nat.succ (Nat.succ (Nat.mul 2 i)))) k):=by
   cases v with
   |none=>exact⟨fun x hx=>(by cases hx),h'⟩
   |some x=>obtain⟨p,q⟩:=hf 0 _ h';exact⟨fun _ _=>p,q⟩
  obtain⟨hl,h1⟩:=vY l _ (fun i=>P (Nat.succ (Nat.mul 2 i))) _ (fun T k h=>hf _ _ h) h0.2;obtain⟨hk,h2⟩:=vY r _ (fun i=>P (Nat.succ (Nat.succ (Nat.mul 2 i)))) _ (fun T k h=>hf _ _ h) hl;refine⟨hk,fun T x hT=>?_⟩;rw [Map.b5] at hT;by_cases h00:T=0
  ·subst h00;rw [if_pos rfl] at hT;exact h0.1 x hT
  ·rw [if_neg h00] at hT;split at hT
   ·have:=h1 _ x hT;rwa [show Nat.succ (Nat.mul 2 (T / 2))=T by show 2*(T / 2)+1=T;omega] at this
   ·have:=h2 _ x hT;rwa [show Nat.succ (Nat.succ (Nat.mul 2 (T / 2 - 1)))=T by show 2*(T / 2 - 1)+2=T;omega] at this
def EJ:Option VO->Option VO->Prop
 |some (.gn K _ _ _ v h _),some (.gn K' _ _ _ v' h' _)=>K=K'/\v=v'/\(h=none\/h=h')
 |some (.gn ..),some _=>False
 |some _,some (.gn ..)=>False
 |_,_=>True
theorem Cp {x y:Option VO} {k:Prop} (h:Cq x y k):EJ x y/\k:=by
 unfold Cq at h;split at h
 ·split at h
  ·split at h
   ·rename_i hb;rw [Qk,Qn,Qn] at hb;obtain⟨rfl,rfl⟩:=hb;split at h
    ·exact⟨⟨rfl,rfl,.inl rfl⟩,h⟩
    ·split at h
     ·obtain⟨rfl,h⟩:=h;exact⟨⟨rfl,rfl,.inr rfl⟩,h⟩
     ·cases h
   ·cases h
  ·cases h
  ·exact⟨trivial,h⟩
 ·rename_i o hne;split at h
  ·cases h
  ·rename_i qj0;refine⟨?_,h⟩;cases o<;>first|(exact(hne _ _ _ _ _ _ _ rfl).elim)|skip
   all_goals (cases y with
    |none=>trivial
    |some o=>cases o<;>first|trivial|exact(qj0 _ _ _ _ _ _ _ rfl).elim)
 ·exact⟨trivial,h⟩
def Gb (V V':aF):Prop:=∀T o,V'.H.get T=some o->EJ (V.H.get T) (V'.H.get T)
theorem z6 {l:List av} {V V':aF} {k:Prop} (h:A_ l V V' k):k/\(l≠[]->Gb V V'):=by
 cases l with
 |nil=>exact⟨h,fun hn=>absurd rfl hn⟩
 |cons o l=>obtain⟨h1,h2⟩:=vY V'.H _ (fun T=>EJ (V.H.get T) (V'.H.get T)) k (fun T k h=>Cp h) h;exact⟨h1,fun _ T o ho=>h2 T o ho⟩
theorem nN {A A1:aY} {V V1:aF} {st:St} (hR:R A V st) (hx:Ext V A V1 A1) (hs:Gb V V1) {T:Nat} {o o':VO} {a:AV} {id:Nat} (h':V.H.get T=some o') (h:V1.H.get T=some o) (ha:A T=some a) (hi:cY A1 o a id):cY A o' a id:=by
 have hso:=hs T o h;rw [h',h] at hso;rcases hi with hi|hi
 ·exact .inl hi
 cases o with
 |gn K s io iz v hl es=>
  cases o' with
  |gn K' s' io' iz' v' hl' es'=>
   obtain⟨rfl,rfl,hh⟩:=hso;obtain⟨j,x,h1,h2,h3⟩:=hi;obtain⟨rfl,hv,_⟩:=hR.eK T _ a h' ha;rcases hx.new _ x h2 with h4|h4|⟨K2,v2,j2,s2,io2,iz2,ver2,qzV,es2,e,h4,h5⟩
   ·refine .inr ⟨j,x,fun he=>?_,h4,h3⟩;rcases hh with rfl|rfl
    ·cases he
    ·exact h1 he
   ·obtain⟨y,hy,_⟩:=hR.heap _ _ h';have:=hR.used (.s K') h4;rw [hy] at this;cases this
   ·cases e;rw [h'] at h4;cases h4;omega
  |_=>cases hso
 |_=>cases hi
structure EN (hp:Prop) (n0:Nat) (rs:List Rec) (A:aY) (V:aF) (st:St) (info:List (Nat×Nat×List Nat)) (ρ:Nat->Option Nat):Prop where
 known:∀T o a id,V.H.get T=some o->A T=some a->cY A o a id->id < n0\/∃c∈(cW T info).2,∃r,rs[c]?=some r/\r.xk<=id/\id < r.oc
 root:hp->∀T o a id,V.H.get T=some o->A T=some a->cY A o a id->ρ id=some (cW T info).1
 dom:∀id q,ρ id=some q->id < st.nx
def tG (ρ:Nat->Option Nat) (r:Rec) (f:List Nat×List Nat):Prop:=
 (∀x∈r.cR,∃id,(match x with|.qh q=>q.id=id|.obj i=>i=id|.all=>False)/\∃q,ρ id=some q/\q∈f.1)/\∃l,r.bX=.ids l/\∀id∈l,∃q,ρ id=some q/\q∈f.2
structure BQ (hp:Prop) (n0:Nat) (ahead:List (List Nat)) (rs:List Rec) (feet:List (List Nat×List Nat)) (ρ:Nat->Option Nat) (P:List (Nat×Nat)):Prop where
 len:feet.length=rs.length
 Fj:hp->∀(c:Nat) r f,rs[c]?=some r->feet[c]?=some f->tG ρ r f\/∀p∈P,(p.1=c\/p.2=c)->gE rs p=true
 known:∀(c:Nat) r ah,rs[c]?=some r->ahead[c]?=some ah->∀rs',(∀(i:Nat) a,rs[i]?=some a->rs'[i]?=some a)->r.cR.all (CI n0 rs' ah)=true/\tI n0 rs' ah r.bX=true
theorem rK {rs:List Rec} {r:Rec} {p:Nat×Nat} (h:gE rs p=true):gE (rs++[r]) p=true:=by
 unfold gE at h ⊢;split at h
 ·rename_i a b ha hb;have h1:(rs++[r])[p.1]?=some a:=by rw [PW (PV.1 ha).1];exact ha
  have h2:(rs++[r])[p.2]?=some b:=by rw [PW (PV.1 hb).1];exact hb
  rw [h1,h2];exact h
 ·cases h
theorem tG.mono {ρ ρ':Nat->Option Nat} (h:∀id q,ρ id=some q->ρ' id=some q) {r:Rec} {f:List Nat×List Nat} (hr:tG ρ r f):tG ρ' r f:=
 ⟨fun x hx=>let ⟨id,h1,q,h2,h3⟩:=hr.1 x hx;⟨id,h1,q,h _ _ h2,h3⟩,let ⟨l,h1,h2⟩:=hr.2;⟨l,h1,fun id hid=>let ⟨q,h3,h4⟩:=h2 id hid;⟨q,h _ _ h3,h4⟩⟩⟩
def Jj (d:Option Nat) (info:List (Nat×Nat×List Nat)):Nat:=match d with
 |some T=>(cW T info).1
 |none=>0
theorem Ce {n0 i:Nat} {rs:List Rec} {A A1:aY} {V V1:aF} {st st1:St} {info info':List (Nat×Nat×List Nat)} {ρ:Nat->Option Nat} {f:yq} {d:Option Nat} {r:Rec} {feet:List (List Nat×List Nat)} {ahead:List (List Nat)} {ah:List Nat}
  (hR:R A V st) (hR1:R A1 V1 st1) (hF:Fr V A st.H st.nx V1 A1 st1.H st1.nx) (hx:Ext V A V1 A1) {hp:Prop} {P:List (Nat×Nat)} (hinv:EN hp n0 rs A V st info ρ) (hh:BQ hp n0 ahead rs feet ρ P) (hi:rs.length=i)
  (hfo:o_ A V f r) (h0:r.xk=st.nx) (h1:r.oc=st1.nx) (hah:ahead[i]?=some ah) (hch:js info ah (f.rd++f.wr)=true) (hs:tK d i V V1 f info=some info') :
  ∃ρ',(Gb V V1->EN hp n0 (rs++[r]) A1 V1 st1 info' ρ')/\BQ hp n0 ahead (rs++[r]) (feet++[(iF info f.rd,iF info f.wr)]) ρ' P:=by
 have qxQ:(rs++[r])[i]?=some r:=by rw [PX (by omega),hi,Nat.sub_self];rfl
 have hold:∀(c:Nat) a,rs[c]?=some a->(rs++[r])[c]?=some a:=fun c a hc=>by rw [PW (PV.1 hc).1];exact hc
 have hkeys:∀T o,V1.H.get T=some o->(∃o',V.H.get T=some o')\/d=some T:=by
  unfold tK at hs;split at hs
  ·cases hs
  ·rename_i hc;intro T o hT;have:=jx _ _ hc T o hT;rw [Ql] at this;rcases this with h|h
   ·exact .inl (fS.1 h)
   ·right;cases d with
    |none=>cases h
    |some d=>simp [NP] at h;rw [h]
 have hnew:∀T,d=some T->V.H.get T=none->∀o,V1.H.get T=some o->∃rt ch,info'=(T,rt,ch)::info/\i∈ch/\∀O o',V.H.get O=some o'->(jo V1 O&&Av (V.H.get O) (V1.H.get O))=false->(cW O info).1=rt/\∀c∈(cW O info).2,c∈ch:=by
  intro T hd hT o ho;subst hd;unfold tK at hs;split at hs
  ·cases hs
  simp only at hs;have hb:(jo V1 T&&!jo V T)=true:=by
   have e1:jo V1 T=true:=fS.2 ⟨o,ho⟩;have e2:jo V T=false:=by
    cases hh:jo V T with
    |false=>rfl
    |true=>obtain⟨o',h'⟩:=fS.1 hh;rw [hT] at h';cases h'
   rw [e1,e2];rfl
  rw [hb] at hs;simp only at hs;split at hs
  ·cases hs
  rename_i hc;have gone:∀O o',V.H.get O=some o'->(jo V1 O&&Av (V.H.get O) (V1.H.get O))=false->O∈f.src:=fun O o' h2 h3=>by
   have:=jx _ _ hc O o' h2;rw [Ql] at this;rcases this with h|h
   ·exact gL.1 h
   ·rw [h3] at h;cases h
  split at hs
  ·rename_i hsrc;cases hs;exact⟨_,_,rfl,by simp,fun O o' h2 h3=>by have:=gone O o' h2 h3;rw [hsrc] at this;cases this⟩
  ·rename_i O1 hsrc;cases hs;refine⟨_,_,rfl,Qc,fun O o' h2 h3=>?_⟩;have:=gone O o' h2 h3;rw [hsrc] at this;simp at this;subst this;exact⟨rfl,fun c hc=>Qd _ hc⟩
  ·cases hs
 have hsame:∀T o,V.H.get T=some o->cW T info'=cW T info:=by
  intro T o hT;unfold tK at hs;split at hs
  ·cases hs
  cases d with
  |none=>cases hs;rfl
  |some d=>
  simp only at hs;split at hs
  ·cases hs;rfl
  rename_i hb;simp only [Qk,Qm] at hb;have hne:d≠T:=by rintro rfl;rw [fS.2 ⟨o,hT⟩] at hb;exact absurd hb.2 (by decide)
  split at hs
  ·cases hs
  split at hs
  ·cases hs;rw [dZ,if_neg hne]
  ·cases hs;rw [dZ,if_neg hne]
  ·cases hs
 have hid:Gb V V1->∀T,d=some T->V.H.get T=none->∀o a id,V1.H.get T=some o->A1 T=some a->cY A1 o a id->(st.nx<=id/\id < st1.nx)\/∃(O:Nat) (o':VO) (a':AV),V.H.get O=some o'/\(jo V1 O&&Av (V.H.get O) (V1.H.get O))=false/\A O=some a'/\cY A o' a' id:=by
  intro hsm T hd hT o a id ho ha qx9;have qxg:b8 V1 A1 id:=⟨T,o,a,ho,ha,qx9⟩;rcases hF.own id qxg with ⟨O,o',a',g1,g2,g3⟩|hle
  ·right;refine⟨O,o',a',g1,?_,g2,g3⟩;cases hO:V1.H.get O with
   |none=>
    have:jo V1 O=false:=by
     cases hh:jo V1 O with
     |false=>rfl
     |true=>obtain⟨o2,h2⟩:=fS.1 hh;rw [hO] at h2;cases h2
    rw [this];rfl
   |some o2=>
    rw [fS.2 ⟨o2,hO⟩,Bool.true_and,g1];have hne:O≠T:=by rintro rfl;rw [hT] at g1;cases g1
    have key:¬cY A1 o2 a' id:=fun hi=>hne (hR1.inj O T o2 o a' a id hO ho (hx.mono _ _ g2) ha hi qx9)
    have hso:=hsm O o2 hO;rw [g1,hO] at hso;have hfw:=FE hx.mono g3;cases o' with
    |gn K s io iz v h es=>
     cases o2 with
     |gn K' s' io' iz' v' h' es'=>
      obtain⟨rfl,rfl,hh⟩:=hso;rcases hh with rfl|rfl
      ·cases h' with
       |some j=>rfl
       |none=>
        exfalso;apply key;rcases hfw with hfw|⟨j,x,p1,p2,p3⟩
        ·exact .inl hfw
        ·exact .inr ⟨j,x,by simp,p2,p3⟩
      ·exfalso;apply key;rcases hfw with hfw|⟨j,x,p1,p2,p3⟩
       ·exact .inl hfw
       ·exact .inr ⟨j,x,p1,p2,p3⟩
     |_=>cases hso
    |_=>
     exfalso;rcases hfw with hfw|hfw
     ·exact key (.inl hfw)
     ·cases hfw
  ·exact .inl ⟨hle,hR1.fe qxg⟩
 let rtD:Nat:=Jj d info'
 let ρ':Nat->Option Nat:=fun id=>if id < st.nx then ρ id else if id < st1.nx then some rtD else none
 have hρ:∀id q,ρ id=some q->ρ' id=some q:=fun id q h=>by show (if id < st.nx then ρ id else _)=_;rw [if_pos (hinv.dom id q h)];exact h
 have qzb:∀T o,V.H.get T=some o->∃a,A T=some a:=fun T o h=>let ⟨a,h1,_⟩:=hR.heap T o h;⟨a,h1⟩
 refine⟨ρ',fun hsm=>⟨fun T o a id ho ha qx9=>?_,fun hP T o a id ho ha qx9=>?_,fun id q h=>?_⟩,⟨by simp [hh.len],fun hP c r' f' hr hf=>?_,fun c r' ah' hr ha' rs' qjo=>?_⟩⟩
 ·cases hT:V.H.get T with
  |some o'=>obtain⟨a',ha'⟩:=qzb T o' hT;have:=hx.mono _ _ ha';rw [ha] at this;cases this;rw [hsame T o' hT];have qzk:=nN hR hx hsm hT ho ha' qx9;exact(hinv.known T o' a id hT ha' qzk).imp (fun h=>h) (fun ⟨c,h2,r2,h3,h4⟩=>⟨c,h2,r2,hold c r2 h3,h4⟩)
  |none=>
   have hd:d=some T:=(hkeys T o ho).elim (fun ⟨o',h⟩=>by rw [hT] at h;cases h) (fun h=>h);obtain⟨rt,ch,qzj,qwJ,hO⟩:=hnew T hd hT o ho;rw [qzj,dZ,if_pos rfl];rcases hid hsm T hd hT o a id ho ha qx9 with ⟨h2,h3⟩|⟨O,o',a',g1,g2,g3,g4⟩
   ·exact .inr ⟨i,qwJ,r,qxQ,by rw [h0];exact h2,by rw [h1];exact h3⟩
   ·obtain⟨_,hc⟩:=hO O o' g1 g2;exact(hinv.known O o' a' id g1 g3 g4).imp (fun h=>h) (fun ⟨c,h2,r2,h3,h4⟩=>⟨c,hc c h2,r2,hold c r2 h3,h4⟩)
 ·cases hT:V.H.get T with
  |some o'=>obtain⟨a',ha'⟩:=qzb T o' hT;have:=hx.mono _ _ ha';rw [ha] at this;cases this;rw [hsame T o' hT];have qzk:=nN hR hx hsm hT ho ha' qx9;exact hρ _ _ (hinv.root hP T o' a id hT ha' qzk)
  |none=>
   have hd:d=some T:=(hkeys T o ho).elim (fun ⟨o',h⟩=>by rw [hT] at h;cases h) (fun h=>h);obtain⟨rt,ch,qzj,qwJ,hO⟩:=hnew T hd hT o ho;rcases hid hsm T hd hT o a id ho ha qx9 with ⟨h2,h3⟩|⟨O,o',a',g1,g2,g3,g4⟩
   ·show (if id < st.nx then ρ id else if id < st1.nx then some rtD else none)=_;rw [if_neg (by omega),if_pos h3];show some (Jj d info')=_;rw [hd];rfl
   ·obtain⟨qxZ,_⟩:=hO O o' g1 g2;rw [qzj,dZ,if_pos rfl,←qxZ];exact hρ _ _ (hinv.root hP O o' a' id g1 g3 g4)
 ·have h':(if id < st.nx then ρ id else if id < st1.nx then some rtD else none)=some q:=h;split at h'
  ·have:=hF.le;omega
  ·split at h'
   ·assumption
   ·cases h'
 ·by_cases hc:c < rs.length
  ·rw [PW hc] at hr;rw [PW (by rw [hh.len];exact hc)] at hf;exact(hh.Fj hP c r' f' hr hf).imp (fun h=>h.mono hρ) (fun h p hp hc=>rK (h p hp hc))
  ·have hce:c=rs.length:=by have:=(PV.1 hr).1;simp at this;omega
   subst hce;rw [PX (Qy _),Nat.sub_self] at hr;rw [PX (by rw [hh.len];exact Qy _),hh.len,Nat.sub_self] at hf;cases hr;cases hf;refine .inl ⟨fun x hx'=>?_,?_⟩
   ·obtain⟨id,g1,T,g2,o,a,g3,g4,g5⟩:=hfo.rd x hx';exact⟨id,g1,_,hρ _ _ (hinv.root hP T o a id g3 g4 g5),kj g2⟩
   ·obtain⟨l,g1,g2⟩:=hfo.wr;refine⟨l,g1,fun id qxu=>?_⟩;obtain⟨T,g3,o,a,g4,g5,g6⟩:=g2 id qxu;exact⟨_,hρ _ _ (hinv.root hP T o a id g4 g5 g6),kj g3⟩
 ·by_cases hc:c < rs.length
  ·rw [PW hc] at hr;exact hh.known c r' ah' hr ha' rs' (fun j a hj=>qjo j a (hold j a hj))
  ·have hce:c=rs.length:=by have:=(PV.1 hr).1;simp at this;omega
   subst hce;rw [PX (Qy _),Nat.sub_self] at hr;cases hr;rw [hi,hah] at ha';cases ha';have okId:∀T o a id,T∈f.rd++f.wr->V.H.get T=some o->A T=some a->cY A o a id->xM n0 rs' ah id=true:=by
    intro T o a id hT g1 g2 g3;unfold xM;rw [Ql];rcases hinv.known T o a id g1 g2 g3 with h|⟨c,h2,r2,h3,h4,h5⟩
    ·exact .inl (by simpa using h)
    ·right;rw [List.any_eq_true];refine⟨c,nZ hch T hT c h2,?_⟩;rw [qjo c r2 (hold c r2 h3)];simp only [Qk];exact⟨by simpa using h4,by simpa using h5⟩
   refine⟨Qj.2 (fun x hx'=>?_),?_⟩
   ·obtain⟨id,g1,T,g2,o,a,g3,g4,g5⟩:=hfo.rd x hx';have:=okId T o a id (List.mem_append_left _ g2) g3 g4 g5;cases x with
    |qh q=>cases g1;exact this
    |obj j=>cases g1;exact this
    |all=>cases g1
   ·obtain⟨l,g1,g2⟩:=hfo.wr;rw [g1];refine Qj.2 (fun id qxu=>?_);obtain⟨T,g3,o,a,g4,g5,g6⟩:=g2 id qxu;exact okId T o a id (List.mem_append_right _ g3) g4 g5 g6
theorem pL {n0:Nat} {rs:List Rec}:∀(ahead:List (List Nat)) (l:List Rec),ahead.length=l.length->(∀(c:Nat) r ah,l[c]?=some r->ahead[c]?=some ah->r.cR.all (CI n0 rs ah)=true/\tI n0 rs ah r.bX=true)->gN n0 rs ahead l=true
 |[],[],h,hk=>rfl
 |[],_::_,h,hk=>by cases h
 |_::_,[],h,hk=>by cases h
 |a::as,r::l,h,hk=>by obtain⟨h1,h2⟩:=hk 0 r a rfl rfl;simp only [gN,h1,h2,Bool.true_and];exact pL as l (Nat.succ.inj h) (fun c r' ah hr ha=>hk (c+1) r' ah (by simpa using hr) (by simpa using ha))
theorem wE {ρ:Nat->Option Nat} {a b:Rec} {fa fb:List Nat×List Nat} (ha:tG ρ a fa) (hb:tG ρ b fb) (hd:∀q∈fa.2,q ∉ fb.1):still a b=true:=by
 unfold still;rw [aJ];intro x hx;obtain⟨id,h1,q,h2,h3⟩:=hb.1 x hx;obtain⟨l,h4,h5⟩:=ha.2;have hno:id ∉ l:=fun hm=>by obtain⟨q',h6,h7⟩:=h5 id hm;rw [h2] at h6;cases h6;exact hd q h7 h3
 have hc:l.contains id=false:=by
  cases hh:l.contains id with
  |false=>rfl
  |true=>exact absurd (by simpa using hh) hno
 cases x with
 |qh r=>cases h1;simp only [fX,h4,hc,cond_false]
 |obj j=>cases h1;simp only [fX,h4,hc,Bool.not_false]
 |all=>cases h1
theorem EE {ρ:Nat->Option Nat} {a b:Rec} {fa fb:List Nat×List Nat} (ha:tG ρ a fa) (hb:tG ρ b fb) (hd:∀q∈fa.2,q ∉ fb.2):apart a b=true:=by
 obtain⟨l,h1,h2⟩:=ha.2;obtain⟨l',h3,h4⟩:=hb.2;unfold apart;rw [h1,h3];simp only;rw [Qj];intro id hid;obtain⟨q,h5,h6⟩:=h2 id hid;cases hh:l'.contains id with
 |false=>rfl
 |true=>obtain⟨q',h7,h8⟩:=h4 id (by simpa using hh);rw [h5] at h7;cases h7;exact absurd h8 (hd q h6)
theorem w7 {n0:Nat} {ahead:List (List Nat)} {rs:List Rec} {feet:List (List Nat×List Nat)} {ρ:Nat->Option Nat} {hp:Prop} {P:List (Nat×Nat)} (hh:BQ hp n0 ahead rs feet ρ P):∀{pairs:List (Nat×Nat)},(∀p∈pairs,p∈P)->(pairs≠[]->hp)->vk feet pairs=true->bz (gE rs) pairs=true
 |[],_,_,h=>rfl
 |(i,j)::l,hsub,hpp,h=>by
  have hP:=hpp (by simp);simp only [vk,Qk] at h;rw [aJ];intro p hp;rcases Qf.1 hp with rfl|hp
  ·have h1:=h.1;split at h1;rotate_left
   ·cases h1
   rename_i fa hfa;split at h1;rotate_left
   ·cases h1
   rename_i fb hfb;rw [Qk,Qk] at h1;obtain⟨d1,d2,d3⟩:=h1;have li:=(PV.1 hfa).1;have lj:=(PV.1 hfb).1;rw [hh.len] at li lj;have ra:=PU li;have rb:=PU lj;rcases hh.Fj hP i _ fa ra hfa with ha|ha;rotate_left
   ·exact ha _ (hsub _ Qc) (.inl rfl)
   rcases hh.Fj hP j _ fb rb hfb with hb|hb;rotate_left
   ·exact hb _ (hsub _ Qc) (.inr rfl)
   unfold gE;simp only [ra,rb,Qk];exact⟨⟨wE ha hb (lR d1),wE hb ha (lR d2)⟩,EE ha hb (lR d3)⟩
  ·exact aJ.1 (w7 hh (fun q hq=>hsub q (Qd _ hq)) (fun _=>hP) h.2) p hp
def eO (info:List (Nat×Nat×List Nat)):List Nat:=info.map (·.1)
theorem cr:∀{info:List (Nat×Nat×List Nat)} {V:aF} {O:Nat} {o:VO},(en info V).H.get O=some o->O ∉ eO info/\V.H.get O=some o
 |[],V,O,o,h=>⟨by simp [eO],h⟩
 |(T,x)::l,V,O,o,h=>by obtain⟨h1,h2⟩:=cr (info:=l) (V:=bx V T) h;obtain⟨h3,h4⟩:=dh h2;refine⟨fun hm=>?_,h4⟩;simp only [eO,List.map_cons,Qf] at hm;exact hm.elim h3 h1
theorem sP:∀(info:List (Nat×Nat×List Nat)) (V:aF),(en info V).env=V.env/\(en info V).us=V.us
 |[],V=>⟨rfl,rfl⟩
 |(T,x)::l,V=>by obtain⟨h1,h2⟩:=sP l (bx V T);exact⟨h1,h2⟩
theorem mP {T:Nat}:∀{info:List (Nat×Nat×List Nat)},T ∉ eO info->cW T info=(T,[])
 |[],_=>rfl
 |(T',x)::l,h=>by simp only [eO,List.map_cons,Qf,not_or] at h;rw [dZ,if_neg (Ne.symm h.1)];exact mP h.2
theorem sq {i T:Nat} {info:List (Nat×Nat×List Nat)}:∀{ns:List Nat},T∈ns->cW T (pO i ns info)=(T,[i])
 |[],h=>by cases h
 |T'::r,h=>by
  simp only [pO,dZ];by_cases e:T'=T
  ·subst e;rw [if_pos rfl]
  ·rw [if_neg e];rcases Qf.1 h with rfl|h
   ·exact absurd rfl e
   ·exact sq h
theorem lH {i T:Nat} {info:List (Nat×Nat×List Nat)}:∀{ns:List Nat},T ∉ ns->cW T (pO i ns info)=cW T info
 |[],h=>rfl
 |T'::r,h=>by simp only [Qf,not_or] at h;simp only [pO,dZ,if_neg (Ne.symm h.1)];exact lH h.2
theorem lF {V:aF}:∀{l:List Nat},xl V l=true->∀T∈l,V.H.get T=none
 |[],h,T,hT=>by cases hT
 |x::l,h,T,hT=>by
  simp only [xl,Qk] at h;rcases Qf.1 hT with rfl|hT
  ·have h1:=h.1;split at h1
   ·cases h1
   ·assumption
  ·exact lF h.2 T hT
theorem wm {V:aF} {o:av} {ns:List Nat} (h:u0 sh V o=some ns):(∃d f args,o=⟨some d,.call f args .share,none,false⟩)\/∃d f args,o=⟨d,.call f args .borrow,none,false⟩:=by
 obtain⟨dd,op,gd,fz⟩:=o;unfold u0 at h;simp only at h;split at h
 ·cases h
 split at h
 ·cases h
 split at h
 ·split at h
  ·exact .inl ⟨_,_,_,rfl⟩
  ·cases h
 ·exact .inr ⟨_,_,_,rfl⟩
 ·cases h
theorem jt {A A1:aY} {V V1:aF} {st:St} {st1:St} {qxq:List (Nat×Nat×List Nat)} (hR:R A V st) (hx:∀O x,A O=some x->A1 O=some x)
  (hH:∀T o a id,T∈eO qxq->V.H.get T=some o->A T=some a->cY A o a id->st1.H.get id=st.H.get id)
  (hown:∀id,b8 V1 A1 id->b8 (en qxq V) A id\/st.nx<=id) :
  ∀(info:List (Nat×Nat×List Nat)) (W:aF),(∀T∈eO info,T∈eO qxq)->R A1 W st1->(∀O o,W.H.get O=some o->V1.H.get O=some o\/(O∈eO qxq/\V.H.get O=some o/\o.pl=true))->
   R A1 (ju V info W) st1/\(ju V info W).env=W.env/\(ju V info W).us=W.us/\(∀O o,(ju V info W).H.get O=some o->V1.H.get O=some o\/(O∈eO qxq/\V.H.get O=some o/\o.pl=true))/\∀O o,W.H.get O=some o->(ju V info W).H.get O=some o
 |[],W,_,hW,hk=>⟨hW,rfl,rfl,hk,fun _ _ h=>h⟩
 |(T,x)::l,W,hs,hW,hk=>by
  have hsl:∀T∈eO l,T∈eO qxq:=fun T' h=>hs T' (by simp only [eO,List.map_cons,Qf];exact .inr h)
  have hT:T∈eO qxq:=hs T (by simp [eO]);simp only [ju];split
  ·exact jt hR hx hH hown l W hsl hW hk
  rename_i hWT;split;rotate_left
  ·exact jt hR hx hH hown l W hsl hW hk
  rename_i o ho;split;rotate_left
  ·exact jt hR hx hH hown l W hsl hW hk
  rename_i hpl;obtain⟨a,hA,hor⟩:=hR.heap T o ho;have qxO:∀id,bY a=some id->b8 V A id:=fun id hi=>⟨T,o,a,ho,hA,.inl hi⟩
  obtain⟨hR',_⟩:=oz (hpl:=hpl) hW (O:=T) (o:=o) (hx _ _ hA) (hor.mono hx (fun id hi=>hH T o a id hT ho hA hi)) (fun id hi ⟨O,o',a',h1,h2,h3⟩=>by
   rcases hk O o' h1 with h4|⟨h4,h5,qzU⟩
   ·rcases hown id ⟨O,o',a',h4,h2,h3⟩ with ⟨O2,o2,a2,h6,h7,h8⟩|hle
    ·obtain⟨hn,h6'⟩:=cr h6;have:=hR.inj O2 T o2 o a2 a id h6' ho h7 hA h8 (.inl hi);subst this;exact hn hT
    ·have:=hR.fe (qxO id hi);omega
   ·obtain⟨a2,h7,_⟩:=hR.heap O o' h5;have:=hx _ _ h7;rw [h2] at this;cases this;have:=hR.inj O T o' o a' a id h5 ho h7 hA ((cj qzU).2 ((cj qzU).1 h3)) (.inl hi);subst this;rw [hWT] at h1;cases h1)
  obtain⟨g1,g2,g3,g4,g5⟩:=jt hR hx hH hown l (bk W T o) hsl hR' (fun O o' h=>by
   simp only [bk,Map.au] at h;split at h
   ·rename_i e;subst e;cases h;exact .inr ⟨hT,ho,hpl⟩
   ·exact hk O o' h)
  refine⟨g1,g2,g3,g4,fun O o' h=>g5 O o' ?_⟩;simp only [bk,Map.au];split
  ·rename_i e;subst e;rw [hWT] at h;cases h
  ·exact h
def Im (prog:Map aq) (nt n0:Nat) (o:av) (A:aY) (V1:aF) (st:St) (k:aF->Prop):Prop:=
 ∃H' nx' e' H2 cR bX V2 A2,bE (aN prog) nt n0 o st=some (⟨e',H2,nx'⟩,⟨cR,bX,st.H,H2,st.nx,nx'⟩)/\(∀id,H2.get id=if id < n0\/(st.nx<=id/\id < nx') then H'.get id else st.H.get id)/\
  R A2 V2 ⟨e',H',nx'⟩/\Fr V1 A (st.H.upto fun i=>Nat.blt i n0) st.nx V2 A2 H' nx'/\Ext V1 A V2 A2/\k V2/\(∀rs ah,cR.all (CI n0 rs ah)=true/\tI n0 rs ah bX=true)/\(cR=[]\/cR=[.all])/\(bX=.ids []\/bX=.all)
theorem yE (hsh:n9 prog sh) {n0 d f:Nat} {args:List aH} {A:aY} {V1:aF} {st:St} {k:aF->Prop} (hR0:R A V1 ⟨st.env,st.H.upto fun i=>Nat.blt i n0,st.nx⟩)
  (hk:qp sh nt V1 (some d) f args k):Im prog nt n0 ⟨some d,.call f args .share,none,false⟩ A V1 st k:=by
 obtain⟨v,H',nx',hdo,e',hput,V2,A1,hR1,hF,hx,hk1⟩:=Ag (nt:=nt) hsh hR0 hk;have hkd:kind (.call f args .share)=.call f args .share:=rfl;have hcf:aN prog f (args.map (ev st.env)) (st.H.upto fun i=>Nat.blt i n0) st.nx=some (v,H',nx'):=by simpa only [fj,hkd,bK] using hdo
 let P:Nat->Bool:=fun i=>Nat.blt i n0||(Nat.ble st.nx i&&Nat.blt i nx')
 have hP:∀i,P i=true↔(i < n0\/(st.nx<=i/\i < nx')):=fun i=>by show (Nat.blt i n0||(Nat.ble st.nx i&&Nat.blt i nx'))=true↔_;simp
 let H2:ay:=(H'.upto P).union (st.H.upto fun i=>!P i)
 refine⟨H',nx',e',H2,[.all],.all,V2,A1,?_,fun id=>?_,hR1,hF,hx,hk1,fun rs ah=>⟨rfl,rfl⟩,.inr rfl,.inr rfl⟩
 ·have h1:ee (aN prog) n0 ⟨some d,.call f args .share,none,false⟩ (ev st.env) st.H st.nx=some (v,H2,nx',[.all],.all):=by simp only [ee,cond_false,j3,hkd,bU,hcf];rfl
  have hw:wanted st.env none=true:=rfl;simp only [bE,hw,cond_true,h1,hput]
 ·show ((H'.upto P).union (st.H.upto fun i=>!P i)).get id=_;rw [Map.uH,Map.fT,Map.fT];by_cases h:P id=true
  ·rw [if_pos ((hP id).1 h)];simp only [h,if_true,Bool.not_true];cases H'.get id<;>rfl
  ·rw [if_neg (fun hc=>h ((hP id).2 hc))];simp only [h];rfl
theorem wk {n0 f:Nat} {d:Option Nat} {args:List aH} {A:aY} {V1:aF} {st:St} {k:aF->Prop} (hR0:R A V1 ⟨st.env,st.H.upto fun i=>Nat.blt i n0,st.nx⟩)
  (hk:sG sh prog nt V1 d none f args k):Im prog nt n0 ⟨d,.call f args .borrow,none,false⟩ A V1 st k:=by
 obtain⟨v,hdo,e',hput,V2,A1,hR1,hF,hx,hk1⟩:=vm (g:=none) hR0 trivial hk;have hkd:kind (.call f args .borrow)=.call f args .borrow:=rfl;have hw:wanted st.env none=true:=rfl;have qxx:bK (aN prog) f (args.map (ev st.env)) .borrow (st.H.upto fun i=>Nat.blt i n0) st.nx=some (v,(st.H.upto fun i=>Nat.blt i n0),st.nx):=hdo;have qq9:∀id,st.H.get id=if id < n0\/(st.nx<=id/\id < st.nx) then (st.H.upto fun i=>Nat.blt i n0).get id else st.H.get id:=by
  intro id;split
  ·rw [Map.fT,if_pos];rename_i h;have:id < n0:=by rcases h with h|h<;>omega
   simpa using this
  ·rfl
 by_cases hp:bz AV.plain (args.map (ev st.env))=true
 ·have h0:bK (aN prog) f (args.map (ev st.env)) .borrow st.H st.nx=some (v,st.H,st.nx):=by
   simp only [bK,hp,cond_true] at qxx ⊢;split at qxx
   ·rename_i r hr;simp only [Option.some.injEq,Prod.mk.injEq] at qxx;simp only [hr,qxx.1]
   ·cases qxx
  refine⟨_,st.nx,e',st.H,[],.ids [],V2,A1,?_,qq9,hR1,hF,hx,hk1,fun rs ah=>⟨rfl,rfl⟩,.inl rfl,.inl rfl⟩;have h1:ee (aN prog) n0 ⟨d,.call f args .borrow,none,false⟩ (ev st.env) st.H st.nx=some (v,st.H,st.nx,[],.ids []):=by simp only [ee,cond_false,j3,hkd,bU,hp,cond_true,h0]
  simp only [bE,hw,cond_true,h1,hput]
 ·have hpb:bz AV.plain (args.map (ev st.env))=false:=by simpa using hp
  refine⟨_,st.nx,e',st.H,[.all],.ids [],V2,A1,?_,qq9,hR1,hF,hx,hk1,fun rs ah=>⟨rfl,rfl⟩,.inr rfl,.inl rfl⟩;have h1:ee (aN prog) n0 ⟨d,.call f args .borrow,none,false⟩ (ev st.env) st.H st.nx=some (v,st.H,st.nx,[.all],.ids []):=by simp only [ee,cond_false,j3,hkd,bU,hpb,qxx]
  simp only [bE,hw,cond_true,h1,hput]
mutual
theorem BD:∀a:AV,gb a a=true
 |.bool _=>by simp [gb]
 |.int k n=>by simp [gb,FP,mS]
 |.str _=>by simp [gb]
 |.jj=>rfl
 |.ak=>rfl
 |.ptr _ _ _=>by simp [gb]
 |.fh cs _=>by simp [gb,fI cs]
 |.b6 cs _ _=>by simp [gb,fI cs]
 |.ref _ _ _ _ _ _ _=>by simp [gb]
 |.agg cs=>by simp [gb,fI cs]
 |.dM cs=>by simp [gb,fI cs]
 |.func _=>by simp [gb]
 |.j5 _=>by simp [gb]
theorem fI:∀l:List AV,kU l l=true
 |[]=>rfl
 |x::xs=>by simp [kU,BD x,fI xs]
end
theorem Hj {a b:Rec} {q:yp} {xs:List AV} (ha1:a.bX=.ids []) (ha2:a.cR=[.qh q]) (hb1:b.cR=[]\/b.cR=[.all]) (hb2:b.bX=.ids []\/b.bX=.all)
  (f0:cM b.H0 (some q)=some xs) (f1:cM b.H1 (some q)=some xs) (fa:cM a.H0 (some q)=some xs):(still a b&&still b a&&apart a b)=true:=by
 rw [Qk,Qk];refine⟨⟨?_,?_⟩,?_⟩
 ·unfold still;rcases hb1 with h|h<;>rw [h]
  ·rfl
  ·rw [aJ];intro y hy;simp at hy;subst hy;simp only [fX,ha1]
 ·unfold still;rw [ha2,aJ];intro y hy;simp at hy;subst hy;rcases hb2 with h|h<;>simp only [fX,h]
  ·rfl
  ·simp only [tM,f0,f1,fa,fI,Bool.and_self]
 ·unfold apart;rw [ha1];rcases hb2 with h|h<;>rw [h];rfl
def Gc (v:TV) (ovs:List (Nat×VV)) (off:Nat) (key:fq):Prop:=match key with
 |.sl N=>bq off ovs=some (.sl N)
 |.tr c=>bq off ovs=none/\∃t,TV.uniq t=true/\c=some t/\ck v off=some t
def Iu (V:aF) (O off:Nat) (keys:List fq):Prop:=keys≠[]/\∃v ovs,V.H.get O=some (.ob v ovs)/\∀(j:Nat) key,keys[j]?=some key->Gc v ovs (off+j) key
def Ny (A:aY) (key:fq) (x:AV):Prop:=match key with
 |.sl N=>A (.s N)=some x
 |.tr c=>∀t,c=some t->Can t x
def uZ (A:aY) (keys:List fq) (xs:List AV):Prop:=keys≠[]/\xs.length=keys.length/\∀(j:Nat) key x,keys[j]?=some key->xs[j]?=some x->Ny A key x
theorem uZ.mono {A A':aY} {keys:List fq} {xs:List AV} (h:uZ A keys xs) (hx:∀O x,A O=some x->A' O=some x):uZ A' keys xs:=
 ⟨h.1,h.2.1,fun j key x h1 h2=>by
  have:=h.2.2 j key x h1 h2;cases key with
  |sl N=>exact hx _ _ this
  |tr c=>exact this⟩
theorem Ep {t:TV} {x y:AV} (hu:t.uniq=true) (h1:Can t x) (h2:Can t y):x=y:=by cases t<;>first|(cases hu;done)|(cases h1;cases h2;rfl)
theorem Au {v:TV} {ovs:List (Nat×VV)} {k:Prop}:∀{keys:List fq} {off:Nat},Bs v ovs off keys k->(∀(j:Nat) key,keys[j]?=some key->Gc v ovs (off+j) key)/\k
 |[],off,h=>⟨fun j key hj=>by simp at hj,h⟩
 |key::l,off,h=>by
  have go:∀{off:Nat},Gc v ovs off key->Bs v ovs (off+1) l k->(∀(j:Nat) key',(key::l)[j]?=some key'->Gc v ovs (off+j) key')/\k:=fun {off} h1 h2=>by
   obtain⟨g1,g2⟩:=Au h2;refine⟨fun j key' hj=>?_,g2⟩;cases j with
   |zero=>simp at hj;subst hj;exact h1
   |succ j=>have:=g1 j key' (by simpa using hj);rw [show off+(j+1)=off+1+j by omega];exact this
  simp only [Bs] at h;split at h
  ·rename_i N;split at h
   ·rename_i N' ho;split at h
    ·rename_i e;rw [Qn] at e;subst e;exact go ho h
    ·cases h
   ·cases h
  ·split at h
   ·rename_i ho;exact go ⟨ho,h.1⟩ h.2
   ·cases h
theorem FD {V:aF} {O off:Nat} {key:List fq} {k:Prop} (hne:key≠[]) (h:HQ V O off key k):Iu V O off key/\k:=by
 unfold HQ at h;split at h
 ·rename_i v ovs hv;obtain⟨h1,h2⟩:=Au h;exact⟨⟨hne,v,ovs,hv,h1⟩,h2⟩
 ·cases h
theorem oQ {i:Nat}:∀{cl:List (Nat×Nat×Nat×List fq)} {p:Nat×Nat×List fq},xT i cl=some p->(i,p)∈cl
 |[],p,h=>by cases h
 |(c,q)::l,p,h=>by
  simp only [xT] at h;split at h
  ·rename_i e;rw [Qn] at e;subst e;cases h;exact Qc
  ·exact Qd _ (oQ h)
theorem nH {V:aF} {cl:List (Nat×Nat×Nat×List fq)} {i:Nat} {k:Prop} (hcl:∀c O off key,(c,O,off,key)∈cl->key≠[]):∀{P:List (Nat×Nat)},nI V cl i P k->k/\∀p∈P,p.1≠i/\(p.2=i->∃O off key,xT p.1 cl=some (O,off,key)/\Iu V O off key)
 |[],h=>⟨h,fun p hp=>by cases hp⟩
 |(a,b)::l,h=>by
  simp only [nI] at h;split at h
  ·cases h
  rename_i hai;have hne:a≠i:=fun e=>by subst e;simp at hai
  split at h
  ·rename_i hbi;have hnb:b≠i:=fun e=>by subst e;simp at hbi
   obtain⟨g1,g2⟩:=nH hcl h;refine⟨g1,fun p hp=>?_⟩;rcases Qf.1 hp with rfl|hp
   ·exact⟨hne,fun e=>absurd e hnb⟩
   ·exact g2 p hp
  ·split at h
   ·cases h
   ·rename_i O off key hf;obtain⟨h1,h⟩:=FD (hcl _ _ _ _ (oQ hf)) h;obtain⟨g1,g2⟩:=nH hcl h;refine⟨g1,fun p hp=>?_⟩;rcases Qf.1 hp with rfl|hp
    ·exact⟨hne,fun _=>⟨O,off,key,hf,h1⟩⟩
    ·exact g2 p hp
theorem ye {A:aY} {V:aF} {st:St} (hR:R A V st) {O off id n:Nat} {v:TV} {ovs:List (Nat×VV)} {ys:List AV} (hv:V.H.get O=some (.ob v ovs)) (hA:A O=some (.ptr id 0 0))
  (hf:cM st.H (some ⟨id,0,off,n⟩)=some ys):ys.length=n/\∀(j:Nat) y,ys[j]?=some y->(∀N,bq (off+j) ovs=some (.sl N)->A (.s N)=some y)/\(bq (off+j) ovs=none->∀t,ck v (off+j)=some t->Can t y):=by
 obtain⟨a,ha,id',cs,ts,rfl,hH,hc⟩:=hR.heap O _ hv;rw [hA] at ha;cases ha;simp only [cM,hH,Nat.beq_refl,cond_true] at hf;rw [cJ] at hf;split at hf;rotate_left
 ·cases hf
 rename_i hle;have h1:=Qv hf;refine⟨by rw [←h1];simp;omega,fun j y hy=>?_⟩;have hcs:cs[off+j]?=some y:=by
  rw [←h1,P0] at hy;split at hy
  ·rw [P3] at hy;exact hy
  ·cases hy
 have hlt:off+j < ts.length:=by rw [hc.len];exact(PV.1 hcs).1
 have hat:=hc.at_ (off+j) _ y (PU hlt) hcs;refine⟨fun N ho=>?_,fun ho t ht=>?_⟩
 ·rw [ho] at hat;exact hat
 ·rw [ho] at hat;obtain⟨ts',h1,h2⟩:=fJ ht;have:=hc.cells.symm.trans h1;cases this;rw [PU hlt] at h2;cases h2;exact hat.1
theorem At {A:aY} {V:aF} {st:St} (hR:R A V st) {O off id:Nat} {keys:List fq} {xs:List AV} (hk:Iu V O off keys) (hA:A O=some (.ptr id 0 0)) (hx:uZ A keys xs):cM st.H (some ⟨id,0,off,keys.length⟩)=some xs:=by
 obtain⟨hne,v,ovs,hv,hk⟩:=hk;obtain⟨a,ha,id',cs,ts,rfl,hH,hc⟩:=hR.heap O _ hv;rw [hA] at ha;cases ha;have qw2:∀j,j < keys.length->off+j < ts.length:=by
  intro j hj;have hkj:=hk j _ (PU hj);generalize keys[j]=key at hkj;cases key with
  |sl N=>exact hc.keys _ _ hkj
  |tr c=>obtain⟨_,t,_,_,h2⟩:=hkj;obtain⟨ts',h3,h4⟩:=fJ h2;have:=hc.cells.symm.trans h3;cases this;exact(PV.1 h4).1
 have hpos:0 < keys.length:=by cases keys with|nil=>exact absurd rfl hne|cons k ks=>simp
 have hle:off+keys.length<=cs.length:=by have:=qw2 (keys.length - 1) (by omega);have:=hc.len;omega
 have hf:cM st.H (some ⟨id,0,off,keys.length⟩)=some ((cs.drop off).take keys.length):=by simp only [cM,hH,Nat.beq_refl,cond_true];rw [cJ,if_pos hle]
 obtain⟨g0,g1⟩:=ye hR hv hA hf;rw [hf];congr 1;generalize (cs.drop off).take keys.length=ys at g0 g1;refine List.ext_getElem? fun j=>?_
 by_cases hj:j < keys.length
 ·have e1:ys[j]?=some (ys[j]'(by rw [g0];exact hj)):=PU _;have e2:xs[j]?=some (xs[j]'(by rw [hx.2.1];exact hj)):=PU _;obtain⟨q1,q2⟩:=g1 j _ e1;have hkj:=hk j _ (PU hj);have hxj:=hx.2.2 j _ _ (PU hj) e2;rw [e1,e2];congr 1;generalize keys[j]=key at hkj hxj;cases key with
  |sl N=>have h1:=q1 N hkj;have h2:A (.s N)=some _:=hxj;rw [h1] at h2;exact Qv h2
  |tr c=>obtain⟨ho,t,hu,h1,h2⟩:=hkj;exact Ep hu (q2 ho t h2) (hxj t h1)
 ·rw [PZ (by omega),PZ (by have:=hx.2.1;omega)]
def wg (A:aY) (rs:List Rec) (cl:List (Nat×Nat×Nat×List fq)):Prop:=∀c O off keys,(c,O,off,keys)∈cl->∃r id xs,rs[c]?=some r/\r.bX=.ids []/\r.cR=[.qh ⟨id,0,off,keys.length⟩]/\A (.s O)=some (.ptr id 0 0)/\cM r.H0 (some ⟨id,0,off,keys.length⟩)=some xs/\uZ A keys xs
theorem wg.ne {A:aY} {rs:List Rec} {cl:List (Nat×Nat×Nat×List fq)} (h:wg A rs cl):∀c O off key,(c,O,off,key)∈cl->key≠[]:=fun c O off key hm=>by obtain⟨_,_,_,_,_,_,_,_,hx⟩:=h c O off key hm;exact hx.1
theorem wg.mono {A A':aY} {rs:List Rec} {r:Rec} {cl:List (Nat×Nat×Nat×List fq)} (h:wg A rs cl) (hx:∀O x,A O=some x->A' O=some x):wg A' (rs++[r]) cl:=fun c O off key hm=>by obtain⟨r',id,x,h1,h2,h3,h4,h5,h6⟩:=h c O off key hm;exact⟨r',id,x,(by rw [PW (PV.1 h1).1];exact h1),h2,h3,hx _ _ h4,h5,h6.mono hx⟩
theorem uv {v:TV} {ovs:List (Nat×VV)}:∀{n off:Nat} {keys:List fq},vv v ovs off n=some keys->keys.length=n/\∀(j:Nat) key,keys[j]?=some key->match key with
  |.sl N=>bq (off+j) ovs=some (.sl N)
  |.tr c=>bq (off+j) ovs=none/\c=ck v (off+j)
 |0,off,keys,h=>by cases h;exact⟨rfl,fun j key hj=>by simp at hj⟩
 |n+1,off,keys,h=>by
  simp only [vv] at h;split at h
  ·cases h
  rename_i l hl;obtain⟨g1,g2⟩:=uv hl;have shift:∀j,off+(j+1)=off+1+j:=fun j=>by omega
  split at h
  ·rename_i N ho;cases h;refine⟨by simp [g1],fun j key hj=>?_⟩;cases j with
   |zero=>simp at hj;subst hj;exact ho
   |succ j=>rw [shift];exact g2 j key (by simpa using hj)
  ·cases h
  ·rename_i ho;cases h;refine⟨by simp [g1],fun j key hj=>?_⟩;cases j with
   |zero=>simp at hj;subst hj;exact⟨ho,rfl⟩
   |succ j=>rw [shift];exact g2 j key (by simpa using hj)
theorem zQ {cf:eI} {nt n0:Nat} {A:aY} {V:aF} {st st1:St} {o:av} {r:Rec} {O off:Nat} {keys:List fq} (hR:R A V st) (hc:cellOf V o=some (O,off,keys)) (he:bE cf nt n0 o st=some (st1,r)) :
  ∃id xs,r.bX=.ids []/\r.cR=[.qh ⟨id,0,off,keys.length⟩]/\A (.s O)=some (.ptr id 0 0)/\cM r.H0 (some ⟨id,0,off,keys.length⟩)=some xs/\uZ A keys xs:=by
 obtain⟨dd,op,gd,fz⟩:=o;unfold cellOf at hc;simp only at hc;split at hc
 ·cases hc
 split at hc
 ·cases hc
 split at hc;rotate_left
 ·cases hc
 rename_i sz a;split at hc;rotate_left
 ·cases hc
 rename_i O' off' qxp;split at hc;rotate_left
 ·cases hc
 rename_i v ovs hv;split at hc;rotate_left
 ·cases hc
 rename_i k0 ks hka;simp only [Option.some.injEq,Prod.mk.injEq] at hc;obtain⟨rfl,rfl,rfl⟩:=hc;obtain⟨hkl,hkk⟩:=uv hka;obtain⟨w,hw,hvr⟩:=hR.env a _ qxp;have hvr:=hvr (fun c bb h=>by cases h);generalize hwe:w=w0 at hvr;cases hvr with
 |@ptr _ _ id hA=>
 subst hwe;have hev:ev st.env (.t a)=.ptr id 0 off':=by simp only [ev,hw]
 have hwt:wanted st.env none=true:=rfl;simp only [bE,hwt,cond_true,ee,cond_false,j3] at he;have hkd:kind (.load sz (.t a))=.plan fun ρ=>iJ ρ sz (.t a):=rfl
 simp only [hkd,iJ,hev,bS,dO] at he;rw [hkl];cases hf:cM st.H (some ⟨id,0,off',bZ sz⟩) with
 |none=>simp only [hf] at he;cases he
 |some cs=>
 have hr:r.bX=.ids []/\r.cR=[.qh ⟨id,0,off',bZ sz⟩]/\r.H0=st.H:=by
  simp only [hf,fH] at he;split at he
  ·cases he
  ·rename_i v1 H1 oc cR bX heq;split at he
   ·cases he
   ·cases he;split at heq
    ·rename_i q1 q2;simp only [Option.some.injEq,Prod.mk.injEq] at heq;obtain⟨_,_,_,h4,h5⟩:=heq;refine⟨h5.symm,h4.symm,rfl⟩
    ·cases heq
 obtain⟨g0,g1⟩:=ye hR hv hA hf;refine⟨id,cs,hr.1,hr.2.1,hA,by rw [hr.2.2];exact hf,by simp,by rw [g0,hkl],fun j key x h1 h2=>?_⟩;obtain⟨q1,q2⟩:=g1 j x h2;have h3:=hkk j key h1;cases key with
 |sl N=>exact q1 N h3
 |tr c=>exact fun t ht=>q2 h3.1 t (by rw [←h3.2];exact ht)
open Classical in
def CD (ns:List Nat) (V:aF) (A:aY) (ρ:Nat->Option Nat) (id:Nat):Option Nat:=
 if h:∃T∈ns,∃o a,V.H.get T=some o/\A (.s T)=some a/\cY A o a id then some (Classical.choose h) else ρ id
theorem Fi {ns:List Nat} {V:aF} {A:aY} {st:St} (hR:R A V st) {ρ:Nat->Option Nat} {id T:Nat} {o:VO} {a:AV} (hT:T∈ns) (h1:V.H.get T=some o) (h2:A T=some a) (h3:cY A o a id):CD ns V A ρ id=some T:=by have hh:∃T∈ns,∃o a,V.H.get T=some o/\A (.s T)=some a/\cY A o a id:=⟨T,hT,o,a,h1,h2,h3⟩;unfold CD;rw [dif_pos hh];obtain⟨_,o',a',g1,g2,g3⟩:=Classical.choose_spec hh;congr 1;exact hR.inj _ T _ _ _ _ id g1 h1 g2 h2 g3 h3
theorem CC {ns:List Nat} {V:aF} {A:aY} {ρ:Nat->Option Nat} {id:Nat} (h:¬∃T∈ns,∃o a,V.H.get T=some o/\A (.s T)=some a/\cY A o a id):CD ns V A ρ id=ρ id:=by unfold CD;rw [dif_neg h]
theorem A7 (hsh:n9 prog sh) {PP:List (Nat×Nat)} {n0 i:Nat} {rs:List Rec} {A:aY} {V:aF} {st:St} {info:List (Nat×Nat×List Nat)} {ρ:Nat->Option Nat} {feet:List (List Nat×List Nat)} {ahead:List (List Nat)} {cl:List (Nat×Nat×Nat×List fq)}
  {o:av} {ns:List Nat} {l:List av} {k:aF->Prop} (hR:R A V st) (hinv:EN (PP≠[]) n0 rs A V st info ρ) (hh:BQ (PP≠[]) n0 ahead rs feet ρ PP) (hcl:wg A rs cl) (hi:rs.length=i) (hn0:n0<=st.nx) (hwd:u0 sh V o=some ns) (hnn:(xl V ns&&(y9 PP||!y9 l))=true)
  (hk:nI V cl i PP (FK sh prog nt (en info V) o fun V'=>match (tF V'.H fun T=>jo (en info V) T||lV T ns)&&(y9 PP||AA (en info V) V' feet) with
   |true=>A_ l (en info V) V' (nI (ju V info V') cl i PP (k (ju V info V')))
   |false=>False)) :
  ∃st1 r,bE (aN prog) nt n0 o st=some (st1,r)/\∃W A1 ρ',R A1 W st1/\Fr V A st.H st.nx W A1 st1.H st1.nx/\k W/\st.nx<=st1.nx/\wg A1 (rs++[r]) cl/\
   (l≠[]->EN (PP≠[]) n0 (rs++[r]) A1 W st1 (pO i (ns) info) ρ')/\BQ (PP≠[]) n0 ahead (rs++[r]) (feet++[([],[])]) ρ' PP:=by
 obtain⟨hk,qj5⟩:=nH hcl.ne hk;rw [Qk] at hnn;obtain⟨hnn,hnl⟩:=hnn;have hnl:PP≠[]->l≠[]:=fun hP hl=>by
  subst hl;cases PP with
  |nil=>exact hP rfl
  |cons p PP=>cases hnl
 have qxk:∀O o a id,(en info V).H.get O=some o->A O=some a->cY A o a id->id < n0:=by
  intro O o a id ho ha hid;obtain⟨hn,ho'⟩:=cr ho;rcases hinv.known O o a id ho' ha hid with h|⟨c,hc,_⟩
  ·exact h
  ·rw [mP hn] at hc;cases hc
 obtain⟨he,hu⟩:=sP info V;have hR0:R A (en info V) ⟨st.env,st.H.upto fun i=>Nat.blt i n0,st.nx⟩:=by
  refine⟨fun t e h=>hR.env t e (by rw [←he];exact h),fun O o ho=>?_,fun O O' o o' a a' id h1 h2=>hR.inj O O' o o' a a' id (cr h1).2 (cr h2).2,fun O h=>hR.used O (by rw [←hu];exact h),hR.one,fun id o h=>?_,fun O o a ho ha=>hR.eK O o a (cr ho).2 ha⟩
  ·obtain⟨a,ha,hor⟩:=hR.heap O o (cr ho).2;refine⟨a,ha,hor.mono (fun _ _ h=>h) (fun id hid=>?_)⟩;have:=qxk O o a id ho ha hid;show (Map.upto st.H _).get id=_;rw [Map.fT,if_pos (by simpa using this)]
  ·have h':(Map.upto st.H fun i=>Nat.blt i n0).get id=some o:=h;rw [Map.fT] at h';split at h'
   ·exact hR.fresh id o h'
   ·cases h'
 have hW:Im prog nt n0 o A (en info V) st fun V'=>match (tF V'.H fun T=>jo (en info V) T||lV T ns)&&(y9 PP||AA (en info V) V' feet) with
   |true=>A_ l (en info V) V' (nI (ju V info V') cl i PP (k (ju V info V')))
   |false=>False:=by
  rcases wm hwd with ⟨d,f,args,rfl⟩|⟨d,f,args,rfl⟩
  ·exact yE hsh hR0 hk
  ·exact wk hR0 hk
 obtain⟨H',nx',e',H2,cR,bX,V1,A1,qw4,qj8,hR1,hF,hx,hk1,hrt,qwY,qjS⟩:=hW;have hle:st.nx<=nx':=hF.le
 let P:Nat->Bool:=fun i=>Nat.blt i n0||(Nat.ble st.nx i&&Nat.blt i nx')
 have hP:∀i,P i=true↔(i < n0\/(st.nx<=i/\i < nx')):=fun i=>by show (Nat.blt i n0||(Nat.ble st.nx i&&Nat.blt i nx'))=true↔_;simp
 have qq9:∀id,H2.get id=if P id=true then H'.get id else st.H.get id:=by
  intro id;rw [qj8];by_cases h:P id=true
  ·rw [if_pos ((hP id).1 h),if_pos h]
  ·rw [if_neg (fun hc=>h ((hP id).2 hc)),if_neg h]
 have qxg:∀id,b8 V1 A1 id->P id=true:=by
  intro id ho;rw [hP];have hlt:=hR1.fe ho;rcases hF.own id ho with ⟨O,o,a,h1,h2,h3⟩|h
  ·exact .inl (qxk O o a id h1 h2 h3)
  ·exact .inr ⟨h,hlt⟩
 have hR2:R A1 V1 ⟨e',H2,nx'⟩:=by
  refine⟨hR1.env,fun O o ho=>?_,hR1.inj,hR1.used,hR1.one,fun id o h=>?_,hR1.eK⟩
  ·obtain⟨a,ha,hor⟩:=hR1.heap O o ho;refine⟨a,ha,hor.mono (fun _ _ h=>h) (fun id hid=>?_)⟩;rw [show (⟨e',H2,nx'⟩:St).H.get id=_ from qq9 id,if_pos (qxg id ⟨O,o,a,ho,ha,hid⟩)]
  ·have h':H2.get id=some o:=h;rw [qq9] at h';split at h'
   ·exact hR1.fresh id o h'
   ·exact Qs (hR.fresh id o h') hle
 split at hk1;rotate_left
 ·cases hk1
 rename_i hall;rw [Qk] at hall;obtain⟨hall,qxh⟩:=hall;have qxh:PP≠[]->AA (en info V) V1 feet=true:=fun hP=>by
  cases PP with
  |nil=>exact absurd rfl hP
  |cons p PP=>exact qxh
 obtain⟨hk1,hsm⟩:=z6 hk1;obtain⟨hk1,qj4⟩:=nH hcl.ne hk1;have hkeys:∀T o,V1.H.get T=some o->(∃o',(en info V).H.get T=some o')\/T∈ns:=by intro T o hT;have:=jx _ _ hall T o hT;rw [Ql] at this;exact this.imp fS.1 gL.1
 obtain⟨g1,g2,g3,g4,g5⟩:=jt (V1:=V1) (st1:=⟨e',H2,nx'⟩) (qxq:=info) hR hx.mono (fun T o a id hT ho ha hid=>by
   show H2.get id=_;rw [qq9];split
   ·rename_i hPi;have hown:b8 V A id:=⟨T,o,a,ho,ha,hid⟩;have hlt:=hR.fe hown;have h0:id < n0:=by rcases(hP id).1 hPi with h|h<;>omega
    have hno:¬b8 (en info V) A id:=fun ⟨O,o',a',h1,h2,h3⟩=>by obtain⟨hn,h1'⟩:=cr h1;have:=hR.inj O T o' o a' a id h1' ho h2 ha h3 hid;subst this;exact hn hT
    have:=hF.same id hlt hno;rw [this];show (Map.upto st.H _).get id=_;rw [Map.fT,if_pos (by simpa using h0)]
   ·rfl) (fun id ho=>hF.own id ho) info V1 (fun _ h=>h) hR2 (fun O o h=>.inl h)
 have qj7:∀(c:Nat) a,rs[c]?=some a->(rs++[(⟨cR,bX,st.H,H2,st.nx,nx'⟩:Rec)])[c]?=some a:=fun c a hc=>by rw [PW (PV.1 hc).1];exact hc
 have qz4:(rs++[(⟨cR,bX,st.H,H2,st.nx,nx'⟩:Rec)])[i]?=some ⟨cR,bX,st.H,H2,st.nx,nx'⟩:=by rw [PX (by omega),hi,Nat.sub_self];rfl
 have hpw:∀p∈PP,(p.1=i\/p.2=i)->gE (rs++[(⟨cR,bX,st.H,H2,st.nx,nx'⟩:Rec)]) p=true:=fun p hp hpi=>by obtain⟨q1,q2⟩:=qj5 p hp;have hp2:p.2=i:=hpi.elim (fun e=>absurd e q1) (fun e=>e);obtain⟨O,off,key,q3,q4⟩:=q2 hp2;obtain⟨O',off',key',q5,q6⟩:=(qj4 p hp).2 hp2;rw [q3] at q5;cases q5;obtain⟨r0,id,x,w1,w2,w3,w4,w5,w6⟩:=hcl _ _ _ _ (oQ q3);have f0:=At hR q4 w4 w6;have f1:=At g1 q6 (hx.mono _ _ w4) (w6.mono hx.mono);unfold gE;rw [qj7 _ _ w1,hp2,qz4];exact Hj w2 w3 qwY qjS f0 f1 w5
 have hap:∀id q,PP≠[]->ρ id=some q->(∃T∈ns,∃o a,V1.H.get T=some o/\A1 T=some a/\cY A1 o a id)->∀f∈feet,q ∉ f.1/\q ∉ f.2:=by
  intro id q hP hq ⟨T,hT,o,a,h1,h2,h3⟩;rcases hF.own id ⟨T,o,a,h1,h2,h3⟩ with ⟨O',o',a',h6,h7,h8⟩|h
  ·obtain⟨hn,h6'⟩:=cr h6;have qxZ:=hinv.root hP O' o' a' id h6' h7 h8;rw [mP hn,hq] at qxZ;have hqO:q=O':=by simpa using qxZ
   subst hqO;have:=jx _ _ (qxh hP) q o' h6;rw [Ql] at this;rcases this with h|h
   ·rw [h6,Qk] at h;obtain⟨hpl,h⟩:=h;obtain⟨o2,h9⟩:=fS.1 h;have hA1:=hx.mono _ _ h7;have h11:=hR1.heap q o2 h9;obtain⟨a2,h12,_⟩:=h11;rw [hA1] at h12;cases h12;have h13:cY A1 o2 a' id:=.inl ((cj hpl).1 h8);have:=hR1.inj T q o o2 a a' id h1 h9 h2 hA1 h3 h13;subst this;have:=lF hnn T hT;rw [this] at h6';cases h6'
   ·intro f hf;have:=aJ.1 h f hf;simp only [Qk,Qm] at this;exact⟨fun hm=>Bool.false_ne_true (this.1.symm.trans (gL.2 hm)),fun hm=>Bool.false_ne_true (this.2.symm.trans (gL.2 hm))⟩
  ·have:=hinv.dom id q hq;omega
 let ρ':Nat->Option Nat:=CD ns V1 A1 ρ
 have hρ1:∀id T,T∈ns->(∃o a,V1.H.get T=some o/\A1 T=some a/\cY A1 o a id)->ρ' id=some T:=fun id T hT ⟨o,a,h1,h2,h3⟩=>Fi hR1 hT h1 h2 h3
 have hρ0:∀id,¬(∃T∈ns,∃o a,V1.H.get T=some o/\A1 T=some a/\cY A1 o a id)->ρ' id=ρ id:=fun id h=>CC h
 have qwX:∀r f,PP≠[]->f∈feet->tG ρ r f->tG ρ' r f:=by
  intro r f hP hf ⟨h1,l0,h2,h3⟩;refine⟨fun x hx0=>?_,l0,h2,fun id hid=>?_⟩
  ·obtain⟨id,h4,q,h5,h6⟩:=h1 x hx0;refine⟨id,h4,q,?_,h6⟩;rw [hρ0 id (fun hc=>(hap id q hP h5 hc f hf).1 h6)];exact h5
  ·obtain⟨q,h5,h6⟩:=h3 id hid;refine⟨q,?_,h6⟩;rw [hρ0 id (fun hc=>(hap id q hP h5 hc f hf).2 h6)];exact h5
 refine⟨⟨e',H2,nx'⟩,⟨cR,bX,st.H,H2,st.nx,nx'⟩,?_,_,A1,ρ',g1,⟨hle,fun id hid hno=>?_,fun id ho=>?_⟩,hk1,hle,hcl.mono hx.mono,fun hl=>⟨fun T o a id ho ha hid=>?_,fun hP T o a id ho ha hid=>?_,fun id q h=>?_⟩,
  ⟨by simp [hh.len],fun hP c r' f' hr hf=>?_,fun c r' ah' hr ha' rs' qjo=>?_⟩⟩
 ·exact qw4
 ·show H2.get id=_;rw [qq9];split
  ·rename_i hPi;have h0:id < n0:=by rcases(hP id).1 hPi with h|h<;>omega
   have:=hF.same id hid (fun ⟨O,o,a,h1,h2,h3⟩=>hno ⟨O,o,a,(cr h1).2,h2,h3⟩);rw [this];show (Map.upto st.H _).get id=_;rw [Map.fT,if_pos (by simpa using h0)]
  ·rfl
 ·obtain⟨O,o,a,h1,h2,h3⟩:=ho;rcases g4 O o h1 with h4|⟨h4,h5,hpl⟩
  ·rcases hF.own id ⟨O,o,a,h4,h2,h3⟩ with ⟨O',o',a',h6,h7,h8⟩|h
   ·exact .inl ⟨O',o',a',(cr h6).2,h7,h8⟩
   ·exact .inr h
  ·obtain⟨a',h6,_⟩:=hR.heap O o h5;have:=hx.mono _ _ h6;rw [h2] at this;cases this;exact .inl ⟨O,o,a,h5,h6,(cj hpl).2 ((cj hpl).1 h3)⟩
 ·have hold:∀(c:Nat) a,rs[c]?=some a->(rs++[(⟨cR,bX,st.H,H2,st.nx,nx'⟩:Rec)])[c]?=some a:=fun c a hc=>by rw [PW (PV.1 hc).1];exact hc
  have qxQ:(rs++[(⟨cR,bX,st.H,H2,st.nx,nx'⟩:Rec)])[i]?=some ⟨cR,bX,st.H,H2,st.nx,nx'⟩:=by rw [PX (by omega),hi,Nat.sub_self];rfl
  rcases g4 T o ho with h4|⟨h4,h5,hpl⟩
  ·by_cases hT:T∈ns
   ·rw [sq hT];rcases hF.own id ⟨T,o,a,h4,ha,hid⟩ with ⟨O',o',a',h6,h7,h8⟩|h
    ·exact .inl (qxk O' o' a' id h6 h7 h8)
    ·exact .inr ⟨i,by simp,_,qxQ,h,hR1.fe ⟨T,o,a,h4,ha,hid⟩⟩
   ·rcases hkeys T o h4 with ⟨o',h6⟩|h6
    ·obtain⟨a',h7,_⟩:=hR.heap T o' (cr h6).2;have:=hx.mono _ _ h7;rw [ha] at this;cases this;exact .inl (qxk T o' a id h6 h7 (nN hR0 hx (hsm hl) h6 h4 h7 hid))
    ·exact absurd h6 hT
  ·have hT:T ∉ ns:=fun hm=>by have:=lF hnn T hm;rw [this] at h5;cases h5
   rw [lH hT];obtain⟨a',h6,_⟩:=hR.heap T o h5;have:=hx.mono _ _ h6;rw [ha] at this;cases this;exact(hinv.known T o a id h5 h6 ((cj hpl).2 ((cj hpl).1 hid))).imp (fun h=>h) (fun ⟨c,h2,r2,h3,h4⟩=>⟨c,h2,r2,hold c r2 h3,h4⟩)
 ·rcases g4 T o ho with h4|⟨h4,h5,hpl⟩
  ·by_cases hT:T∈ns
   ·rw [sq hT];exact hρ1 id T hT ⟨o,a,h4,ha,hid⟩
   ·rw [lH hT];rcases hkeys T o h4 with ⟨o',h6⟩|h6
    ·obtain⟨a',h7,_⟩:=hR.heap T o' (cr h6).2;have:=hx.mono _ _ h7;rw [ha] at this;cases this;rw [hρ0 id (fun ⟨T2,hT2,o2,a2,h8,h9,h10⟩=>by have:=hR1.inj T2 T o2 o a2 a id h8 h4 h9 ha h10 hid;subst this;exact hT hT2)]
     exact hinv.root hP T o' a id (cr h6).2 h7 (nN hR0 hx (hsm hl) h6 h4 h7 hid)
    ·exact absurd h6 hT
  ·have hT:T ∉ ns:=fun hm=>by have:=lF hnn T hm;rw [this] at h5;cases h5
   rw [lH hT];obtain⟨a',h6,_⟩:=hR.heap T o h5;have:=hx.mono _ _ h6;rw [ha] at this;cases this;rw [hρ0 id (fun ⟨T2,hT2,o2,a2,h8,h9,h10⟩=>by have:=g1.inj T2 T o2 o a2 a id (g5 _ _ h8) ho h9 ha h10 hid;subst this;exact hT hT2)]
   exact hinv.root hP T o a id h5 h6 ((cj hpl).2 ((cj hpl).1 hid))
 ·by_cases hc:∃T∈ns,∃o a,V1.H.get T=some o/\A1 T=some a/\cY A1 o a id
  ·obtain⟨T,hT,o,a,h1,h2,h3⟩:=hc;exact hR1.fe ⟨T,o,a,h1,h2,h3⟩
  ·have h':ρ' id=some q:=h;rw [hρ0 id hc] at h';exact Qs (hinv.dom id q h') hle
 ·by_cases hc:c < rs.length
  ·rw [PW hc] at hr;rw [PW (by rw [hh.len];exact hc)] at hf;exact(hh.Fj hP c r' f' hr hf).imp (fun h=>qwX r' f' hP (P4 hf) h) (fun h p hp hc=>rK (h p hp hc))
  ·have hce:c=rs.length:=by have:=(PV.1 hr).1;simp at this;omega
   exact .inr fun p hp hpc=>hpw p hp (by rw [←hi,←hce];exact hpc)
 ·by_cases hc:c < rs.length
  ·rw [PW hc] at hr;exact hh.known c r' ah' hr ha' rs' (fun j a hj=>qjo j a (by rw [PW (PV.1 hj).1];exact hj))
  ·have hce:c=rs.length:=by have:=(PV.1 hr).1;simp at this;omega
   subst hce;rw [PX (Qy _),Nat.sub_self] at hr;cases hr;exact hrt rs' ah'
theorem vL (hsh:n9 prog sh) {ahead:List (List Nat)} {pairs:List (Nat×Nat)} {n0:Nat}:∀(ops:List av) (i:Nat) (V:aF) (A:aY) (st:St) (info:List (Nat×Nat×List Nat)) (feet:List (List Nat×List Nat)) (cl:List (Nat×Nat×Nat×List fq)) (rs:List Rec) (ρ:Nat->Option Nat) (k:aF->Prop),
  R A V st->(ops≠[]->EN (pairs≠[]) n0 rs A V st info ρ)->BQ (pairs≠[]) n0 ahead rs feet ρ pairs->wg A rs cl->rs.length=i->n0<=st.nx->FM sh prog nt ahead pairs ops i V info feet cl k->
  ∃st' l,cZ (aN prog) nt n0 ops st=some (st',l)/\gN n0 (rs++l) ahead (rs++l)=true/\bz (gE (rs++l)) pairs=true/\∃V' A',R A' V' st'/\Fr V A st.H st.nx V' A' st'.H st'.nx/\k V'
 |[],i,V,A,st,info,feet,cl,rs,ρ,k,hR,hinv,hh,hcl,hi,hn,hk=>by
  simp only [FM] at hk;split at hk
  ·rename_i hb;rw [Qk,Qn] at hb;refine⟨st,[],rfl,?_,?_,V,A,hR,Fr.refl _ _ _ _,hk⟩
   ·rw [List.append_nil];exact pL ahead rs (by rw [hb.1,hi]) (fun c r ah hr ha=>hh.known c r ah hr ha rs (fun _ _ h=>h))
   ·rw [List.append_nil];exact w7 hh (fun _ h=>h) (fun h=>h) hb.2
  ·cases hk
 |o::l,i,V,A,st,info,feet,cl,rs,ρ,k,hR,hinv,hh,hcl,hi,hn,hk=>by
  rw [FM] at hk;split at hk
  ·rename_i ns hso;split at hk;rotate_left
   ·cases hk
   rename_i hnn;obtain⟨st1,r,g1,W,A1,ρ',g2,g3,g4,g5,g8,g6,g7⟩:=A7 (l:=l) (k:=fun W=>FM sh prog nt ahead pairs l (i+1) W (pO i ns info) (feet++[([],[])]) cl k) hsh hR (hinv (by simp)) hh hcl hi hn hso hnn hk;obtain⟨st2,l2,q1,q2,q3,V2,A2,q4,q5,q6⟩:=vL hsh l (i+1) W A1 st1 _ _ cl (rs++[r]) ρ' k g2 g6 g7 g8 (by simp [hi]) (Qw hn g5) g4;refine⟨st2,r::l2,by simp only [cZ,g1,q1],?_,?_,V2,A2,q4,g3.trans q5,q6⟩
   ·rwa [List.append_assoc] at q2
   ·rwa [List.append_assoc] at q3
  have hk':FK sh prog nt V o fun V'=>match vG V o with
   |none=>False
   |some f=>match ahead[i]? with
    |none=>False
    |some ah=>match js info ah (f.rd++f.wr) with
     |false=>False
     |true=>match tK o.dst i V V' f info with
      |none=>False
      |some info'=>A_ l V V' (FM sh prog nt ahead pairs l (i+1) V' info' (feet++[(iF info f.rd,iF info f.wr)]) (F_ V o i pairs cl) k):=hk
  obtain⟨st1,h1,V1,A1,h2,h3,hx,h4⟩:=AK hsh hR hk';split at h4
  ·cases h4
  rename_i f hf;split at h4
  ·cases h4
  rename_i ah hah;split at h4
  ·cases h4
  rename_i hch;split at h4
  ·cases h4
  rename_i info' hs;obtain⟨h4,hsm⟩:=z6 h4;obtain⟨r,g1,g2,g3,g4⟩:=FJ hR hk' hf h1 n0;obtain⟨ρ',p1,p2⟩:=Ce hR h2 h3 hx (hinv (by simp)) hh hi g2 g3 g4 hah hch hs;have qw6:wg A1 (rs++[r]) (F_ V o i pairs cl):=by
   have h0:=hcl.mono (r:=r) hx.mono;unfold F_;split
   ·exact h0
   ·split
    ·rename_i p hp;intro c O off key hm;rcases Qf.1 hm with he|hm
     ·cases he;obtain⟨id,x,w1,w2,w3,w4,w5⟩:=zQ hR hp g1;exact⟨r,id,x,(by rw [PX (by omega),hi,Nat.sub_self];rfl),w1,w2,hx.mono _ _ w3,w4,w5.mono hx.mono⟩
     ·exact h0 c O off key hm
    ·exact h0
  obtain⟨st2,l2,q1,q2,q3,V2,A2,q4,q5,q6⟩:=vL hsh l (i+1) V1 A1 st1 info' _ _ (rs++[r]) ρ' k h2 (fun hl=>p1 (hsm hl)) p2 qw6 (by simp [hi]) (Qw hn h3.le) h4;refine⟨st2,r::l2,by simp only [cZ,g1,q1],?_,?_,V2,A2,q4,h3.trans q5,q6⟩
  ·rwa [List.append_assoc] at q2
  ·rwa [List.append_assoc] at q3
open Classical in
def wP (V:aF) (A:aY) (id:Nat):Option Nat:=if h:∃(T:Nat) (o:VO) (a:AV),V.H.get T=some o/\A T=some a/\cY A o a id then some (Classical.choose h) else none
theorem yS {V:aF} {A:aY} {id q:Nat} (h:wP V A id=some q):∃o a,V.H.get q=some o/\A q=some a/\cY A o a id:=by
 unfold wP at h;split at h
 ·rename_i hh;cases h;exact Classical.choose_spec hh
 ·cases h
theorem CB {V:aF} {A:aY} {st:St} (hR:R A V st) {id T:Nat} {o:VO} {a:AV} (h1:V.H.get T=some o) (h2:A T=some a) (h3:cY A o a id):wP V A id=some T:=by have hh:∃(T:Nat) (o:VO) (a:AV),V.H.get T=some o/\A T=some a/\cY A o a id:=⟨T,o,a,h1,h2,h3⟩;unfold wP;rw [dif_pos hh];obtain⟨o',a',g1,g2,g3⟩:=Classical.choose_spec hh;congr 1;exact hR.inj _ T _ _ _ _ id g1 h1 g2 h2 g3 h3
theorem FL (hsh:n9 prog sh) {A:aY} {V:aF} {st:St} {k:aF->Prop} {ops:List av} {ahead:List (List Nat)} {pairs:List (Nat×Nat)} (hR:R A V st) (hk:FM sh prog nt ahead pairs ops 0 V [] [] [] k) :
  ∃st',b_ (aN prog) nt ops ahead pairs st=some st'/\∃V' A',R A' V' st'/\Fr V A st.H st.nx V' A' st'.H st'.nx/\k V':=by
 have own:∀T o a id,V.H.get T=some o->A T=some a->cY A o a id->b8 V A id:=fun T o a id h1 h2 h3=>⟨T,o,a,h1,h2,h3⟩
 obtain⟨st',l,h1,h2,h3,V',A',h4,h5,h6⟩:=vL hsh (n0:=st.nx) ops 0 V A st [] [] [] [] (wP V A) k hR (fun _=>⟨fun T o a id g1 g2 g3=>.inl (hR.fe (own T o a id g1 g2 g3)),fun _ T o a id g1 g2 g3=>CB hR g1 g2 g3,fun id q hq=>by obtain⟨o',a',g1,g2,g3⟩:=yS hq;exact hR.fe (own _ _ _ _ g1 g2 g3)⟩) ⟨rfl,fun _ c r f hr=>by simp at hr,fun c r ah hr=>by simp at hr⟩ (fun _ _ _ _ hm=>by cases hm) rfl (Qy _) hk
 rw [List.nil_append] at h2 h3;exact⟨st',by simp only [b_,h1,h2,h3,Bool.and_self,cond_true],V',A',h4,h5,h6⟩
end
end Go.Ax.V
namespace Go.Ax.V
def _root_.Go.Ax.V.cm.ok:cm->Bool
 |.seq a b=>a.ok&&b.ok
 |.cond _ a b=>a.ok&&b.ok
 |.block _ c=>c.ok
 |.loop J c=>J.all kV&&c.ok
 |.join J c=>J.all kV&&c.ok
 |_=>true
section
variable {sh:Sh} {prog:Map aq} {nt:Nat}
theorem Jl {A:aY} {V:aF} {st:St} (hR:R A V st) {O:Nat} {o o':VO} (ho:V.H.get O=some o) (hpl:o.pl=true) (qzU:o'.pl=true) (hor:∀a,A O=some a->OR A st.H o a->OR A st.H o' a) :
  R A (bk V O o') st/\Fr V A st.H st.nx (bk V O o') A st.H st.nx:=by
 have get':∀{O2:Nat} {o2:VO},(bk V O o').H.get O2=some o2->∃o3,V.H.get O2=some o3/\(∀a id,cY A o2 a id->cY A o3 a id)/\(∀a,A O2=some a->OR A st.H o3 a->OR A st.H o2 a)/\(∀a,fV A O2 a o3->fV A O2 a o2):=by
  intro O2 o2 h;simp only [bk,Map.au] at h;split at h
  ·rename_i e;subst e;cases h;exact⟨o,ho,fun a id hi=>.inl ((cj qzU).1 hi),hor,fun _ _=>mj qzU⟩
  ·exact⟨o2,h,fun _ _ h=>h,fun _ _ h=>h,fun _ h=>h⟩
 refine⟨⟨hR.env,fun O2 o2 h=>?_,fun O1 O2 o1 o2 a1 a2 id h1 h2 g1 g2 i1 i2=>?_,hR.used,hR.one,hR.fresh,fun O2 o2 a h ha=>?_⟩,⟨Qy _,fun _ _ _=>rfl,fun id ⟨O2,o2,a,h,ha,hid⟩=>?_⟩⟩
 ·obtain⟨o3,h1,h2,h3,_⟩:=get' h;obtain⟨a,ha,hr⟩:=hR.heap O2 o3 h1;exact⟨a,ha,h3 a ha hr⟩
 ·obtain⟨o3,h3,h4,_⟩:=get' h1;obtain⟨o4,h5,h6,_⟩:=get' h2;exact hR.inj O1 O2 o3 o4 a1 a2 id h3 h5 g1 g2 (h4 _ _ i1) (h6 _ _ i2)
 ·obtain⟨o3,h1,_,_,h4⟩:=get' h;exact h4 a (hR.eK O2 o3 a h1 ha)
 ·obtain⟨o3,h1,h2,_⟩:=get' h;exact .inl ⟨O2,o3,a,h1,ha,h2 _ _ hid⟩
theorem wZ {A:aY} {st:St} {k:aF->Prop}:∀{l:List (Nat×Nat)} {V:aF},R A V st->Fl l V k->∃V',R A V' st/\Fr V A st.H st.nx V' A st.H st.nx/\k V'
 |[],V,hR,h=>⟨V,hR,Fr.refl _ _ _ _,h⟩
 |(O,off)::l,V,hR,h=>by
  simp only [Fl] at h;split at h;rotate_left
  ·cases h
  rename_i v ovs hv;split at h;rotate_left
  ·cases h
  rename_i hov;obtain⟨t,h1,h2,h3⟩:=h;obtain⟨t0,h4,h5⟩:=qx h1;obtain⟨ts0,h6,h7⟩:=fJ h4;obtain⟨a,ha,id,cs,ts,rfl,hH,hc⟩:=hR.heap O _ hv;have:=hc.cells.symm.trans h6;cases this;have hlt:off < cs.length:=by rw [←hc.len];exact(PV.1 h7).1
  have hx:cs[off]?=some cs[off]:=PU hlt;have hat:=hc.at_ off t0 _ h7 hx;rw [hov] at hat;have hcan:Can t cs[off]:=h5 _ hat.1;have hrow:CA cs[off]=true:=by
   cases t with
   |l es=>generalize cs[off]=y at hcan;cases hcan<;>rfl
   |_=>cases h2
  obtain⟨v',h8,h9⟩:=h3 cs[off];obtain⟨g1,g2⟩:=Jl hR (o':=.ob v' ovs) hv rfl rfl (fun a' ha' hor=>by
   obtain⟨id2,cs2,ts2,rfl,hH2,hc2⟩:=hor;rw [ha] at ha';cases ha';rw [hH] at hH2;cases hH2;have:=hc.cells.symm.trans hc2.cells;cases this;obtain⟨ts',xs,us,e1,e2,e3,e4,e5,e6,e7⟩:=bP h8;have:=hc.cells.symm.trans e1;cases this;refine⟨id,cs,us,rfl,hH,⟨e4,by rw [e5];exact hc.len,fun j w hj=>by rw [e5];exact hc.keys j w hj,fun j u y hu hy=>?_⟩⟩;rw [e7 j] at hu;split at hu
   ·rename_i hj;have hjo:j=off:=by omega
    subst hjo;have hxs:xs=[.pZ cs[j] t]:=by have:bH (.pZ cs[j] t)=some [.pZ cs[j] t]:=rfl;rw [e2] at this;exact Qv this
    rw [hxs] at hu;simp at hu;subst hu;rw [hx] at hy;cases hy;rw [hov];exact⟨.pZ _ _ hrow hcan,hat.2⟩
   ·exact hc.at_ j u y hu hy)
  obtain⟨V',q1,q2,q3⟩:=wZ g1 h9;exact⟨V',q1,g2.trans q2,q3⟩
theorem AM (hsh:n9 prog sh):∀(c:cm) (V:aF) (A:aY) (st:St) (k:bJ->aF->Prop),c.ok=true->R A V st->BX sh prog nt c V k->
  WC (aN prog) (bh prog) nt c.code st (fun x st'=>∃V' A',R A' V' st'/\Fr V A st.H st.nx V' A' st'.H st'.nx/\k x V'):=by
 intro c
 induction c with
 |skip=>intro V A st k _ hR h;exact EZ ⟨V,A,hR,Fr.refl _ _ _ _,h⟩
 |exit id=>intro V A st k _ hR h;exact E2 ⟨V,A,hR,Fr.refl _ _ _ _,h⟩
 |ret=>intro V A st k _ hR h;exact GM ⟨V,A,hR,Fr.refl _ _ _ _,h⟩
 |aT ops ahead pairs=>intro V A st k _ hR h;obtain⟨V1,hR1,hF1,h⟩:=wZ hR h;obtain⟨st',h1,V',A',h2,h3,h4⟩:=FL hsh hR1 h;exact E3 h1 ⟨V',A',h2,hF1.trans h3,h4⟩
 |aa ops=>intro V A st k _ hR h;obtain⟨st',h1,V',A',h2,h3,_,h4⟩:=xV hsh hR h;exact GN ⟨st',h1,V',A',h2,h3,h4⟩
 |seq a b iha ihb=>
  intro V A st k hok hR h;simp only [cm.ok,Qk] at hok;refine GL (lg (iha V A st _ hok.1 hR h) ?_);rintro x st' ⟨V',A',h1,h2,h3⟩;cases x with
  |normal=>refine lg (ihb V' A' st' k hok.2 h1 h3) ?_;rintro y st2 ⟨V2,A2,g1,g2,g3⟩;exact⟨V2,A2,g1,h2.trans g2,g3⟩
  |exit i=>exact⟨V',A',h1,h2,h3⟩
  |ret=>exact⟨V',A',h1,h2,h3⟩
 |cond c a b iha ihb=>
  intro V A st k hok hR h;simp only [cm.ok,Qk] at hok;obtain⟨cv,hc,h⟩:=bQ (g:=none) hR trivial h;unfold b9 at h;split at h
  ·rename_i x;generalize he:ev st.env c=p at hc;cases hc;cases x with
   |true=>exact u5 he (iha V A st k hok.1 hR h)
   |false=>exact tj he (ihb V A st k hok.2 hR h)
  ·cases h
 |block id c ih=>
  intro V A st k hok hR h;refine B4 (lg (ih V A st _ hok hR h) ?_);rintro x st' ⟨V',A',h1,h2,h3⟩;cases x with
  |normal=>exact⟨V',A',h1,h2,h3⟩
  |ret=>exact⟨V',A',h1,h2,h3⟩
  |exit i=>
   simp only [zU];simp only [cond_eq_ite,Qn] at h3;by_cases hi:i=id
   ·rw [if_pos hi] at h3 ⊢;exact⟨V',A',h1,h2,h3⟩
   ·rw [if_neg hi] at h3 ⊢;exact⟨V',A',h1,h2,h3⟩
 |loop J c ih=>
  intro V A st k hok hR h;simp only [cm.ok,Qk] at hok;obtain⟨I,⟨n,h1⟩,h2⟩:=h;refine E0 (fun (n:Nat) st1=>∃V1 A1,R A1 V1 st1/\Fr V A st.H st.nx V1 A1 st1.H st1.nx/\pY J V1 (I n)) (fun n=>n) ?_ n st ⟨V,A,hR,Fr.refl _ _ _ _,h1⟩;rintro m st1 ⟨V1,A1,g1,g2,g3⟩;obtain⟨Vc,A2,p1,p2,p3⟩:=xx g1 hok.1 g3 (h2 m);refine lg (ih Vc A2 st1 _ hok.2 p2 p1) ?_;rintro x st2 ⟨V2,A3,q1,q2,q3⟩;have hfr:=g2.trans (p3.trans q2);cases x with
  |normal=>obtain⟨m',hm,q3⟩:=q3;exact⟨m',hm,V2,A3,q1,hfr,q3⟩
  |exit i=>exact⟨V2,A3,q1,hfr,q3⟩
  |ret=>exact⟨V2,A3,q1,hfr,q3⟩
 |join J c ih=>
  intro V A st k hok hR h;simp only [cm.ok,Qk] at hok;obtain⟨I,h1,h2⟩:=h;refine lg (ih V A st _ hok.2 hR h1) ?_;rintro x st' ⟨V',A',g1,g2,g3⟩;cases x with
  |normal=>obtain⟨Vc,A2,p1,p2,p3⟩:=xx g1 hok.1 g3 h2;exact⟨Vc,A2,p2,g2.trans p3,p1⟩
  |exit i=>exact⟨V',A',g1,g2,g3⟩
  |ret=>exact⟨V',A',g1,g2,g3⟩
theorem xJ {A:aY} {H:ay} {nx:Nat}:∀(ts:List TV) (as:List AV) (i:Nat) (V:aF) (e:Env),eT ts as->R A V ⟨e,H,nx⟩->R A (DU ts i V) ⟨cI as i e,H,nx⟩
 |[],as,i,V,e,hc,hR=>by have:as=[]:=Qt.1 hc.1.symm;subst this;exact hR
 |t::ts,[],i,V,e,hc,hR=>by cases hc.1
 |t::ts,a::as,i,V,e,hc,hR=>by refine xJ ts as (i+1) _ _ ⟨Nat.succ.inj hc.1,fun j u x hu hx=>hc.2 (j+1) u x hu hx⟩ ?_;exact hR.put (e:=⟨none,.tr t⟩) (v:=a) (fun _=>.tr (hc.2 0 t a rfl rfl))
theorem rm {A:aY} {V:aF} {st:St} (hR:R A V st) {r:pq} {k:TV->Prop} (h:qi V r k) (d:Nat):∃v t a,iS st.env st.H r=some v/\aP (d+4) st.H v=some a/\Can t a/\k t:=by
 cases r with
 |tmp t=>simp only [qi] at h;obtain⟨w,hw,h⟩:=bG (g:=none) hR trivial h;obtain⟨t',a,h1,h2,h3,h4⟩:=m7 hR hw h d;exact⟨_,t',a,rfl,h1,h2,h4⟩
 |cell t sz=>
  simp only [qi] at h;obtain⟨w,hw,h⟩:=bG (g:=none) hR trivial h;generalize he:ev st.env (.t t)=p at hw;cases hw with
  |@ptr O off id hO=>
   simp only at h;split at h;rotate_left
   ·cases h
   rename_i v ovs ho;obtain⟨y,hy,id',cs,ts,rfl,hH,hc⟩:=hR.heap O _ ho;rw [hO] at hy;cases hy;have fin:∀{l:List AV} {v' t' a:_},cut cs off (bZ sz)=some l->Ak sz l=some v'->aP (d+4) st.H v'=some a->Can t' a->k t'->∃v t_1 a,iS st.env st.H (.cell t sz)=some v/\aP (d+4) st.H v=some a/\Can t_1 a/\k t_1:=by intro l v' t' a h1 h2 h3 h4 h5;refine⟨v',t',a,?_,h3,h4,h5⟩;simp only [iS,he,cM,hH,cond_eq_ite,Qn,if_pos,h1];exact h2
   split at h
   ·split at h
    ·rename_i w hw;have hlt:=hc.keys _ _ hw;have hx:cs[off]?=some (cs[off]'(by rw [←hc.len];exact hlt)):=PU _;have hs:=hc.at_ off _ _ (PU hlt) hx;rw [hw] at hs;obtain⟨es,a',g1,g2,g3,g4,g5⟩:=m9 hR hs h (d+1);exact fin (kY hx) rfl g1 g2 g5
    ·rename_i ho';obtain⟨u,h1,h2⟩:=h;obtain⟨x,h3,h4,h5⟩:=n4 hc h1 ho';exact fin h3 rfl (kM h5 _ _) h4 h2
   ·rename_i n;obtain⟨u,h1,h2⟩:=h;obtain⟨l,ls,h3,h4,h5⟩:=gw hc h1;obtain⟨u',us,cs',g1,g2,g3,g4,g5,g6⟩:=oX hR h5 h2 d;obtain⟨l',rfl⟩:=g5 _ h4;cases g2;exact fin h3 rfl (by rw [eV,g1]) (.a _ _ g3.1.1 g3.2 g3.1.2) g4
  |_=>cases h
theorem rq {A:aY} {V:aF} {st:St} (hR:R A V st) (d:Nat):∀(rs:List pq) (k:List TV->Prop),yV V rs k->∃vs ts as,cw (iS st.env st.H) rs=some vs/\cw (aP (d+4) st.H) vs=some as/\eT ts as/\k ts
 |[],k,h=>⟨[],[],[],rfl,rfl,⟨rfl,fun j t x ht=>by simp at ht⟩,h⟩
 |r::rs,k,h=>by
  obtain⟨v,t,a,h1,h2,h3,h4⟩:=rm hR h d;obtain⟨vs,ts,as,g1,g2,g3,g4⟩:=rq hR d rs _ h4;refine⟨v::vs,t::ts,a::as,by rw [b7,h1,g1],by rw [b7,h2,g2],⟨by simp [g3.1],fun j u x hu hx=>?_⟩,g4⟩;cases j with
  |zero=>simp at hu hx;subst hu;subst hx;exact h3
  |succ j=>exact g3.2 j u x (by simpa using hu) (by simpa using hx)
theorem tZ:∀{ts:List TV},Ai ts->∀t∈ts,t.ja=false
 |[],_,t,ht=>by cases ht
 |x::ts,h,t,ht=>by
  rcases Qf.1 ht with rfl|ht
  ·exact h.1
  ·exact tZ h.2 t ht
theorem zR {t:TV} {a:AV} (h:Can t a) (ht:t.ja=false):a.eN=true:=by
 cases h with
 |a ts as hl hf h=>exact aJ.2 hf
 |tp ts as hl hf h=>cases ht
 |pZ x u hf h=>exact(AB (q9 hf)).2.2
 |_=>rfl
theorem IJ {f:Nat} {af:aq} {vc:cm} {ts:List TV} {Q:TV->Prop} (hf:prog.get f=some af) (hc:vc.code=af.body) (hok:vc.ok=true) (hl:ts.length=af.params) (hsh:n9 prog sh) (h:J6 sh prog af vc ts Q):VS prog f ts Q:=by
 intro as ha;have h0:R (fun _=>none) V0 ⟨.leaf,.leaf,0⟩:=⟨fun t e he=>(by cases he),fun O o ho=>(by cases ho),fun O O' o o' a a' id ho=>(by cases ho),fun _ _=>rfl,fun O a ha=>(by cases ha),fun id o ho=>(by cases ho),fun O o a ho=>(by cases ho)⟩;have hR:=xJ ts as 0 V0 .leaf ha h0;have hw:=AM hsh (nt:=af.nt) vc _ _ _ _ hok hR h;rw [hc] at hw;obtain⟨⟨v,H',nx'⟩,h1,h2⟩:=sE (r:=fun p=>∃a,aP deep p.2.1 p.1=some a/\∃r,Can r a/\Q r) hf (by rw [←ha.1];exact hl) (lg hw (by
  rintro x st' ⟨V',A',g1,g2,g3,g4⟩;refine⟨(by cases x<;>first|exact .inl rfl|exact .inr rfl|cases g3),?_⟩;obtain⟨vs,rs,as',p1,p2,p3,p4,p5⟩:=rq g1 25 af.res _ g4;have many:vs.length≠1->∃v,ko af.res st'=some v/\∃a,aP deep v.2.1 v.1=some a/\∃r,Can r a/\Q r:=by
   intro hne;have hl1:=(eY p2).1;have hlr:rs.length=vs.length:=by rw [p3.1,hl1]
   have e1:ko af.res st'=some (.dM vs,st'.H,st'.nx):=by
    unfold ko;rw [p1]
    match vs,hne with
    |[],_=>rfl
    |[_],h=>exact absurd rfl h
    |_::_::_,_=>rfl
   have e2:yF rs=.tp rs:=by
    match rs,hlr with
    |[],_=>rfl
    |[_],h=>exact absurd h.symm hne
    |_::_::_,_=>rfl
   have e3:Ai rs:=by
    match rs,hlr,p4 with
    |[],_,_=>trivial
    |[_],h,_=>exact absurd h.symm hne
    |_::_::_,_,h=>exact h
   refine⟨_,e1,.dM as',?_,_,?_,by rw [e2] at p5;exact p5⟩
   ·show aP (29+1) _ _=_;rw [fy];have p2':cw (aP 29 st'.H) vs=some as':=p2;rw [p2']
   ·refine .tp _ _ p3.1 (fun x hx=>?_) p3.2;obtain⟨j,hj⟩:=List.getElem?_of_mem hx;have hlt:j < rs.length:=by rw [p3.1];exact(PV.1 hj).1
    exact zR (p3.2 j _ x (PU hlt) hj) (tZ e3 _ (P5 hlt))
  by_cases hv:vs.length=1
  ·obtain⟨vs',rs',as2,q1,q2,q3,q5⟩:=rq g1 26 af.res _ g4;rw [p1] at q1;cases q1;obtain⟨v,rfl⟩:=List.length_eq_one_iff.1 hv;have hl1:=(eY q2).1;obtain⟨a,rfl⟩:=List.length_eq_one_iff.1 hl1.symm;obtain⟨r,rfl⟩:=List.length_eq_one_iff.1 (show rs'.length=1 by rw [q3.1];rfl);refine⟨(v,st'.H,st'.nx),by unfold ko;rw [p1],a,?_,r,q3.2 0 r a rfl rfl,q5.2⟩;rw [b7] at q2;show aP (26+4) st'.H v=some a;cases hh:aP (26+4) st'.H v with
   |none=>rw [hh] at q2;cases q2
   |some y=>rw [hh] at q2;cases q2;rfl
  ·exact many hv))
 exact⟨v,H',nx',h1,h2⟩
end
end Go.Ax.V
namespace Go.Ax.V
def uY (p:Nat->Bool) (e e':Env):Prop:=∀t,p t=true->e'.get t=e.get t
theorem uY.refl (p:Nat->Bool) (e:Env):uY p e e:=fun _ _=>rfl
theorem uY.trans {p:Nat->Bool} {a b c:Env} (h:uY p a b) (h':uY p b c):uY p a c:=fun t ht=>(h' t ht).trans (h t ht)
section
variable {prog:Map aq} {cf:eI} {nt np:Nat} {p:Nat->Bool}
end
end Go.Ax.V
namespace Go.Ax.V
theorem jM (prog:Map aq):∀k,mZ (fun _=>aN prog) (interp prog k).fn/\pg (fun _=>bh prog) (interp prog k).code
 |0=>⟨fun f args H nx r h=>(by cases h),fun nt c st r h=>(by cases h)⟩
 |k+1=>by
  obtain⟨h1,h2⟩:=jM prog k;constructor
  ·intro f args H nx r h;obtain⟨k0,hk⟩:=uI (prog:=prog) h2 f args H nx r h;exact Ev.const (yP (hk k0 (Qy _)))
  ·intro nt c st r h;obtain⟨k0,hk⟩:=pU h1 h2 nt c st r h;exact Ev.const (c9 (hk k0 (Qy _)))
theorem l7 {prog:Map aq} {k f:Nat} {args:List AV} {H:ay} {nx:Nat} {r:AV×ay×Nat} (h:(interp prog k).fn f args H nx=some r):aN prog f args H nx=some r:=by obtain⟨k0,hk⟩:=(jM prog k).1 f args H nx r h;exact hk k0 (Qy _)
theorem eE:eT [] []:=⟨rfl,fun j t x ht=>by simp at ht⟩
theorem br {t:TV} {x:AV} {ts:List TV} {as:List AV} (h:Can t x) (hs:eT ts as):eT (t::ts) (x::as):=by
 refine⟨by simp [hs.1],fun j u y hu hy=>?_⟩;cases j with
 |zero=>simp at hu hy;subst hu;subst hy;exact h
 |succ j=>exact hs.2 j u y (by simpa using hu) (by simpa using hy)
theorem m4 {n:Int} (h1:-9223372036854775808<=n) (h2:n < 9223372036854775808):cG .i64 n=n:=by
 unfold cG;have:IC .i64 n=true:=by
  cases n with
  |ofNat m=>have h2':(m:Int) < 9223372036854775808:=h2;simp only [IC];simp;omega
  |negSucc m=>simp only [IC];simp;omega
 rw [this];rfl
end Go.Ax.V
namespace Go.Ax.V
theorem nY {t:Bool} {a b:Prop} (h:t=true) (ha:a):b9 (.b t) a b:=by subst h;exact ha
theorem c7 {t:Bool} {a b:Prop} (h:t=false) (hb:b):b9 (.b t) a b:=by subst h;exact hb
theorem cK {t:Bool} {a b:Prop} (ha:t=true->a) (hb:t=false->b):b9 (.b t) a b:=by
 cases t with
 |true=>exact ha rfl
 |false=>exact hb rfl
theorem IS {a b:TV} (ha:a.ja=false) (hb:b.ja=false):eU [a,b]:=⟨ha,hb,trivial⟩
theorem l6 {prog:Map aq} {f:Nat} {ts:List TV} {c:TV} {K:TV->Prop} (h:VS prog f ts (fun r=>r=c)) (hk:K c):VS prog f ts (fun r=>qR true r/\K r):=
 h.mono (fun r hr=>by subst hr;exact⟨trivial,hk⟩)
theorem aR {t bb:Bool} {P:TV->Prop} {k:TV->Prop} {v:TV} (ht:t=bb) (hp:P v) (hk:k v):∃v,gV (.b t) bb P v/\k v:=by subst ht;refine⟨v,?_,hk⟩;unfold gV;cases t<;>exact hp
theorem bg {t bb:Bool} {P:TV->Prop} {k:TV->Prop} (ht:t=!bb) (hk:k rS):∃v,gV (.b t) bb P v/\k v:=by subst ht;refine⟨rS,?_,hk⟩;unfold gV;cases bb<;>rfl
theorem jq {bb:Bool} {P:TV->Prop} {k:TV->Prop} (hk:k rS):∃v,gV rS bb P v/\k v:=⟨rS,rfl,hk⟩
end Go.Ax.V
namespace Go.Ax.V
def cm.flat:cm->Bool
 |.skip=>true
 |.aa _=>true
 |.seq a b=>a.flat&&b.flat
 |.cond _ a b=>a.flat&&b.flat
 |.block _ c=>c.flat
 |.exit _=>true
 |.ret=>true
 |_=>false
section
variable {sh:Sh} {prog:Map aq} {nt:Nat}
def _root_.Go.Ax.V.Sh.add (sh:Sh) (f:Nat) (T:aF->List VV->(VV->aF->Prop)->Prop):Sh:={sh with inl:=fun g=>bif Nat.beq g f then some T else sh.inl g}
def _root_.Go.Ax.V.Sh.cut (sh:Sh) (tc:Nat->List Nat) (gc:Nat->Nat) (pn:Nat->List (Nat×Nat)):Sh:={sh with tc:=tc,gc:=gc,pn:=pn}
end
end Go.Ax.V
end
