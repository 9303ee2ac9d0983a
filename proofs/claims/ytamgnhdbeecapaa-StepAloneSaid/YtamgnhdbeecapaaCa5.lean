/- Part 5 of the proof: V5, V6, V7, V8, V9, V10, V12, VS, V11, VD, VE, V13, V14, V15, V16, V18. -/
import Derived.Test.YtamgnhdbeecapaaCa4
set_option linter.unusedSimpArgs false
set_option linter.unusedVariables false
noncomputable section
namespace Go.Ax.V
section
variable {prog:Map aq} {cf:eF} {nt:Nat} {A:aX} {V:aF} {st:St} {d:Option Nat} {g:G} {k:aF->Prop}
theorem gp {α:Type} (l:List α) (a n j:Nat):((l.drop a).take n)[j]?=if j < n then l[a+j]? else none:=by rw [OB,OC]
theorem DD {z:Nat} {es:List TV} {row row' ce':List AV} {i:Nat} {e e':TV} (hE:vW z es row) (hi:es[i]?=some e) (hc:k9 e' ce') (hl:ce'.length=z) (hf:∀x∈ce',AV.flat x=true)
  (hl':row'.length=row.length) (hr:∀j,row'[j]?=if i*z<=j/\j < i*z+z then ce'[j - i*z]? else row[j]?):vW z (es.set i e') row':=by
 have hlt:i < es.length:=(Ow.1 hi).1;refine⟨by rw [hl',hE.len,OM],fun x hx=>?_,fun j e1 hj=>?_⟩
 ·obtain⟨q,hq⟩:=List.getElem?_of_mem hx;rw [hr] at hq;split at hq
  ·exact hf x (OD hq)
  ·exact hE.flat x (OD hq)
 ·rw [List.getElem?_set] at hj;by_cases e:i=j
  ·subst e;rw [if_pos rfl,if_pos hlt] at hj;cases hj;have:(row'.drop (i*z)).take z=ce':=by
    apply List.ext_getElem?;intro q;rw [gp];by_cases hq:q < z
    ·rw [if_pos hq,hr,if_pos ⟨by omega,by omega⟩];congr 1;omega
    ·rw [if_neg hq];exact(List.getElem?_eq_none_iff.2 (by omega)).symm
   rw [this];exact hc
  ·rw [if_neg e] at hj;have:(row'.drop (j*z)).take z=(row.drop (j*z)).take z:=by
    apply List.ext_getElem?;intro q;rw [gp,gp];by_cases hq:q < z
    ·rw [if_pos hq,if_pos hq,hr,if_neg];rintro⟨h1,h2⟩;rcases Nat.lt_or_gt_of_ne e with h|h
     ·have:=bL (z:=z) h;omega
     ·have:=bL (z:=z) h;omega
    ·rw [if_neg hq,if_neg hq]
   rw [this];exact hE.el j e1 hj
theorem Ij {H:av} {z:Nat} {es es':List TV} {id g b len cap:Nat} {ex:Bool} (hs:qb H z es (.ref id g b z len cap ex)) {i off sz:Nat} {t:TV} {as:List AV} {xs:List TV} {A:aX} (hp:kf es i off sz t=some es') (hx:aS A t [] as xs) :
  as.length=sz/\∃cells cells',H.get id=some (.row g cells)/\cO cells (b+i*z+off) as=some cells'/\qb (H.put (some (.row g cells')) id) z es' (.ref id g b z len cap ex):=by
 obtain⟨hz,hs⟩:=hs;rcases hs with ⟨_,e|e⟩|⟨id',g',b',cells,e,hH,hb,hE⟩
 ·cases e
 ·cases e
 ·cases e;unfold kf at hp;split at hp
  ·cases hp
  rename_i e1 he1;split at hp
  ·rename_i e1' hp';cases hp;have hlt:i < es.length:=(Ow.1 he1).1;obtain⟨ts,ht1,ht2⟩:=dJ.1 (hE.el i e1 he1);have hce:aS A e1 [] (((cells.drop b).drop (i*z)).take z) ts:=⟨ht1,ht2.1,fun j w hj=>by simp [bp] at hj,fun j t x ht hx=>⟨ht2.2 j t x ht hx,fH hE.flat _ _ x (OD hx)⟩⟩;obtain⟨hn,ce',us,h3,h4,h5⟩:=eW hce hx hp';obtain⟨hov,hat⟩:=dy h3;obtain⟨hb1,_⟩:=cP h3;have hl:=hE.len;rw [OJ] at hl;have h9:=bL (z:=z) hlt;have hz':(((cells.drop b).drop (i*z)).take z).length=z:=by simp only [OI,OJ];omega
   rw [hz'] at hb1 hov;have qxB:cO cells (b+i*z+off) as=some (cells.take (b+i*z+off)++as++cells.drop (b+i*z+off+as.length)):=by rw [fQ,if_pos (by omega)]
   obtain⟨hl2,qxY⟩:=dy qxB;refine⟨hn,cells,_,hH,qxB,hz,.inr ⟨id,g,b,_,by simp only [OM],by rw [Map.au,if_pos rfl],by omega,?_⟩⟩;refine DD (ce':=ce') hE he1 (dJ.2 ⟨us,h4.cells,h4.len,fun j t x ht hx=>((h4.at_ j t x ht hx):Can t x/\_).1⟩) hov (fun x hx=>?_) (by simp only [OJ];omega) (fun j=>?_)
   ·obtain⟨q,hq⟩:=List.getElem?_of_mem hx;have hlq:q < us.length:=by rw [h4.len];exact(Ow.1 hq).1
    exact((h4.at_ q _ x (Ov hlq) hq):Can _ x/\_).2
   ·rw [OC,qxY,OC];by_cases hj:i*z<=j/\j < i*z+z
    ·rw [if_pos hj,hat,gp,OC];by_cases hq:off<=j - i*z/\j - i*z < off+as.length
     ·rw [if_pos hq,if_pos (by omega)];congr 1;omega
     ·rw [if_neg hq,if_neg (by omega),if_pos (by omega)];congr 1;omega
    ·rw [if_neg hj,if_neg (by omega)]
  ·cases hp
theorem Jj {A:aX} {H:av} {K s io iz ver:Nat} {hole:Option Nat} {es es':List TV} {b:Nat} {cells as:List AV} {xs:List TV} {i off sz:Nat} {t:TV} (hio:io < s) (hb:b<=cells.length) (hG:BN A H K s io iz ver hole es (cells.drop b)) (hap:mU off sz io=true)
  (hp:kf es i off sz t=some es') (hx:aS A t [] as xs):as.length=sz/\es'.length=es.length/\∃cells',cO cells (b+i*s+off) as=some cells'/\b<=cells'.length/\BN A H K s io iz ver hole es' (cells'.drop b):=by
 unfold kf at hp;split at hp
 ·cases hp
 rename_i e1 he1;split at hp;rotate_left
 ·cases hp
 rename_i e1' hp';cases hp;have hlt:i < es.length:=(Ow.1 he1).1;obtain⟨ts,hce,hts⟩:=sj hG hio he1;obtain⟨hn,ce',us,h3,h4,h5⟩:=eW hce hx hp';rw [nk] at h4;have qxi:iS off sz [(io,VV.ow K ver i)]=[(io,VV.ow K ver i)]:=by simp only [mU,OW,OZ,O0] at hap;simp only [iS,cond_eq_ite,OV,OZ,O0];rw [if_neg (by omega)]
 rw [qxi] at h4;obtain⟨hov,hat⟩:=dy h3;obtain⟨hb1,_⟩:=cP h3;have hl:=hG.len;rw [OJ] at hl;have h9:=bL (z:=s) hlt;have hz':(((cells.drop b).drop (i*s)).take s).length=s:=by simp only [OI,OJ];omega
 rw [hz'] at hb1 hov;have qxB:cO cells (b+i*s+off) as=some (cells.take (b+i*s+off)++as++cells.drop (b+i*s+off+as.length)):=by rw [fQ,if_pos (by omega)]
 obtain⟨hl2,qxY⟩:=dy qxB;have hcell:∀q,(List.drop b (cells.take (b+i*s+off)++as++cells.drop (b+i*s+off+as.length)))[q]?=if i*s<=q/\q < i*s+s then ce'[q - i*s]? else (cells.drop b)[q]?:=by
  intro q;rw [OC,qxY,OC];by_cases hj:i*s<=q/\q < i*s+s
  ·rw [if_pos hj,hat,gp,OC];by_cases hq:off<=q - i*s/\q - i*s < off+as.length
   ·rw [if_pos hq,if_pos (by omega)];congr 1;omega
   ·rw [if_neg hq,if_neg (by omega),if_pos (by omega)];congr 1;omega
  ·rw [if_neg hj,if_neg (by omega)]
 refine⟨hn,by rw [OM],_,qxB,by omega,by rw [OJ,OM];omega,fun j e he=>?_⟩;rw [List.getElem?_set] at he;by_cases hij:i=j
 ·subst hij;rw [if_pos rfl,if_pos hlt] at he;cases he;have hus:us.length=s:=by rw [h4.len];exact hov
  have qj5:∀o,o < s->(List.drop b (cells.take (b+i*s+off)++as++cells.drop (b+i*s+off+as.length)))[i*s+o]?=ce'[o]?:=fun o ho=>by rw [hcell,if_pos (by omega)];congr 1;omega
  refine⟨us,h4.cells,hus,fun o t x hne ht hxx=>?_,?_⟩
  ·have ho:o < s:=by rw [←hus];exact(Ow.1 ht).1
   rw [qj5 o ho] at hxx;have:=h4.at_ o t x ht hxx;rw [aY,if_neg (Ne.symm hne)] at this;exact this
  ·obtain⟨ts0,g1,g2,g3,x,g4,g5,g6⟩:=hG.el i e1 he1;have qke:ts0=ts:=by have:=hce.cells;rw [g1] at this;cases this;rfl
   subst qke;obtain⟨ts1,xs1,us1,q1,q2,q3,q4,q5,q6,q7⟩:=bM hp';rw [g1] at q1;cases q1;rw [h4.cells] at q4;cases q4;have hoff:¬(off<=io/\io < off+sz):=by simp only [mU,OW,OZ,O0] at hap;omega
   refine⟨x,?_,g5,fun hn=>?_⟩
   ·rw [qj5 io hio,hat,if_neg (by rw [hn];exact hoff),gp,if_pos hio];exact g4
   ·obtain⟨l,g7,g8⟩:=g6 hn;exact⟨l,by rw [q7,if_neg hoff];exact g7,g8⟩
 ·rw [if_neg hij] at he;obtain⟨ts0,g1,g2,g3,x,g4,g5,g6⟩:=hG.el j e he;have hne:∀o,o < s->¬(i*s<=j*s+o/\j*s+o < i*s+s):=fun o ho=>by
   rcases Nat.lt_or_gt_of_ne hij with h|h
   ·have:=bL (z:=s) h;omega
   ·have:=bL (z:=s) h;omega
  refine⟨ts0,g1,g2,fun o t y h1 h2 h3=>?_,x,?_,g5,g6⟩
  ·have ho:o < s:=by rw [←g2];exact(Ow.1 h2).1
   rw [hcell,if_neg (hne o ho)] at h3;exact g3 o t y h1 h2 h3
  ·rw [hcell,if_neg (hne io hio)];exact g4
theorem BN.mono {A A':aX} {H H':av} {K s io iz ver qzR:Nat} {hole:Option Nat} {es:List TV} {cs:List AV} (h:BN A H K s io iz ver hole es cs) (hA:∀j x,A (.i K ver j)=some x->A' (.i K qzR j)=some x)
  (hH:∀j x id,hole≠some j->A (.i K ver j)=some x->bV x=some id->H'.get id=H.get id):BN A' H' K s io iz qzR hole es cs:=by
 refine⟨h.len,fun j e he=>?_⟩;obtain⟨ts,g1,g2,g3,x,g4,g5,g6⟩:=h.el j e he;refine⟨ts,g1,g2,g3,x,g4,hA j x g5,fun hn=>?_⟩;obtain⟨l,g7,g8⟩:=g6 hn;exact⟨l,g7,g8.mono fun id hi=>hH j x id hn g5 hi⟩
theorem iE.Ge {V:aF} {O s io iz ver v0:Nat} {hole qzv:Option Nat} {es es0:List TV} (h:V.H.get O=some (.gn O s io iz v0 qzv es0)) (hv:v0<=ver):iE V (bh V O (.gn O s io iz ver hole es)):=by
 refine⟨fun _ h=>h,fun K s' io' iz' qzR qzw es' hK=>?_⟩;simp only [bh,Map.au] at hK;split at hK
 ·cases hK;exact .inr ⟨s,io,iz,v0,qzv,es0,h,hv⟩
 ·exact .inr ⟨s',io',iz',qzR,qzw,es',hK,Pa _⟩
theorem G4 {A:aX} {H H':av} {O s io iz ver:Nat} {es es':List TV} {id g b:Nat} {cs:List AV} {i:Nat} {l l':List TV} (hG:BN A H O s io iz ver none es cs) (hl:p9 es i io=some l) (hp:kf es i io 1 (.l l')=some es') {x:AV} (hx:A (.i O ver i)=some x)
  (hs:qb H' iz l' x) (hH:∀j y id,j≠i->A (.i O ver j)=some y->bV y=some id->H'.get id=H.get id):es'.length=es.length/\BN A H' O s io iz ver none es' cs:=by
 unfold kf at hp;split at hp
 ·cases hp
 rename_i e1 he1;split at hp;rotate_left
 ·cases hp
 rename_i e1' hp';cases hp;have hlt:i < es.length:=(Ow.1 he1).1;refine⟨by rw [OM],by rw [hG.len,OM],fun j e he=>?_⟩;rw [List.getElem?_set] at he;by_cases hij:i=j
 ·subst hij;rw [if_pos rfl,if_pos hlt] at he;cases he;obtain⟨ts,g1,g2,g3,y,g4,g5,g6⟩:=hG.el i e1 he1;rw [hx] at g5;cases g5;obtain⟨ts1,xs1,us1,q1,q2,q3,q4,q5,q6,q7⟩:=bM hp';rw [g1] at q1;cases q1;cases q2;refine⟨us1,q4,by rw [q5,g2],fun o t z hne ht hz=>?_,x,g4,hx,fun _=>⟨l',?_,hs⟩⟩
  ·rw [q7,if_neg (by omega)] at ht;exact g3 o t z hne ht hz
  ·rw [q7,if_pos (by omega),Nat.sub_self];rfl
 ·rw [if_neg hij] at he;obtain⟨ts,g1,g2,g3,y,g4,g5,g6⟩:=hG.el j e he;refine⟨ts,g1,g2,g3,y,g4,g5,fun hn=>?_⟩;obtain⟨l2,g7,g8⟩:=g6 hn;exact⟨l2,g7,g8.mono fun id hi=>hH j y id (Ne.symm hij) g5 hi⟩
def qt (A:aX) (K ver i:Nat) (x:AV):aX
 |.s O=>A (.s O)
 |.i K' v j=>if K'=K/\v=ver+1 then (if j=i then some x else A (.i K ver j)) else A (.i K' v j)
theorem jG {A:aX} {K ver i:Nat} {x:AV} {K' v j:Nat} (h:¬(K'=K/\v=ver+1)):qt A K ver i x (.i K' v j)=A (.i K' v j):=if_neg h
theorem jH {A:aX} {K ver i:Nat} {x:AV} {j:Nat}:qt A K ver i x (.i K (ver+1) j)=if j=i then some x else A (.i K ver j):=if_pos ⟨rfl,rfl⟩
theorem v9 {A:aX} {K ver i:Nat} {x:AV} {O:Nat} {o:VO} {y:AV} {id:Nat} (hne:O≠K) (hv:fY A O y o):cY (qt A K ver i x) o y id↔cY A o y id:=by
 cases o with
 |gn K' s io iz v hole es=>
  obtain⟨rfl,_⟩:=hv;have e:∀j,qt A K ver i x (.i K' v j)=A (.i K' v j):=fun j=>jG (fun h=>hne h.1)
  simp only [cY,e]
 |_=>exact Iff.rfl
theorem Hv {A:aX} {V:aF} {st:St} (hR:R A V st) {K N s io iz ver:Nat} {hole:Option Nat} {es es' l:List TV} {id g b:Nat} {cells:List AV} {i:Nat} {x:AV} (hv:V.H.get K=some (.gn K s io iz ver hole es)) (hA:A K=some (.ref id g b s es.length es.length false))
  (hH:st.H.get id=some (.row g cells)) (hb:b<=cells.length) (hG:BN A st.H K s io iz ver hole es (cells.drop b)) (q1:0 < s) (q2:io < s) (q3:0 < iz) (hN:V.H.get N=some (.gr iz l)) (hx:A N=some x) (hNK:N≠K) (hho:hole=none\/hole=some i)
  (hp:kf es i io 1 (.l l)=some es'):∃cells',cO cells (b+i*s+io) [x]=some cells'/\R (qt A K ver i x) (bh (bu V N) K (.gn K s io iz (ver+1) none es')) ⟨st.env,st.H.put (some (.row g cells')) id,st.nx⟩/\
   Fr V A st.H st.nx (bh (bu V N) K (.gn K s io iz (ver+1) none es')) (qt A K ver i x) (st.H.put (some (.row g cells')) id) st.nx/\Ext V A (bh (bu V N) K (.gn K s io iz (ver+1) none es')) (qt A K ver i x):=by
 obtain⟨_,hv1,hv0,hv2,hv3⟩:=hR.eI K _ _ hv hA;have hol:∀j,j≠i->hole≠some j:=fun j hj he=>by rcases hho with h|h<;>rw [h] at he<;>cases he;exact hj rfl
 obtain⟨y,hy,hsN⟩:=hR.heap N _ hN;rw [hx] at hy;cases hy;have idN:∀id',bV x=some id'->cY A (.gr iz l) x id':=fun id' h=>.inl h
 have idK:cY A (.gn K s io iz ver hole es) (.ref id g b s es.length es.length false) id:=.inl rfl;have xne:∀id',bV x=some id'->id'≠id:=fun id' h he=>by subst he;exact hNK (hR.inj N K _ _ _ _ id' hN hv hx hA (idN _ h) idK)
 unfold kf at hp;split at hp
 ·cases hp
 rename_i e1 he1;split at hp;rotate_left
 ·cases hp
 rename_i e1' hp';cases hp;have hlt:i < es.length:=(Ow.1 he1).1;have hl:=hG.len;rw [OJ] at hl;have h9:=bL (z:=s) hlt;have qxB:cO cells (b+i*s+io) [x]=some (cells.take (b+i*s+io)++[x]++cells.drop (b+i*s+io+1)):=by rw [fQ,if_pos (by simp only [OK];omega)];rfl
 obtain⟨hl2,qxY⟩:=dy qxB;generalize cells.take (b+i*s+io)++[x]++cells.drop (b+i*s+io+1)=cells' at qxB hl2 qxY;have hcell:∀q,(cells'.drop b)[q]?=if q=i*s+io then some x else (cells.drop b)[q]?:=by
  intro q;rw [OC,qxY,OC];simp only [OK];by_cases hq:q=i*s+io
  ·subst hq;rw [if_pos rfl,if_pos (by omega),show b+(i*s+io) - (b+i*s+io)=0 by omega];rfl
  ·rw [if_neg hq,if_neg (by omega)]
 have hmono:∀n y,A n=some y->qt A K ver i x n=some y:=fun n y hn=>by
  cases n with
  |s O=>exact hn
  |i K' v j=>
   by_cases he:K'=K/\v=ver+1
   ·obtain⟨rfl,rfl⟩:=he;rw [hv1 (ver+1) j (by omega)] at hn;cases hn
   ·rw [jG he];exact hn
 have qq9:∀id',id'≠id->(st.H.put (some (.row g cells')) id).get id'=st.H.get id':=fun id' h=>by rw [Map.au,if_neg h]
 have hlen':(es.set i e1').length=es.length:=OM;have idsNew:∀id',cY (qt A K ver i x) (.gn K s io iz (ver+1) none (es.set i e1')) (.ref id g b s es.length es.length false) id'->cY A (.gn K s io iz ver hole es) (.ref id g b s es.length es.length false) id'\/bV x=some id':=by
  rintro id' (h|⟨j,y,h1,h2,h3⟩)
  ·exact .inl (.inl h)
  ·rw [jH] at h2;split at h2
   ·cases h2;exact .inr h3
   ·rename_i hji;exact .inl (.inr ⟨j,y,hol j hji,h2,h3⟩)
 have get':∀(O':Nat) o',(bh (bu V N) K (.gn K s io iz (ver+1) none (es.set i e1'))).H.get O'=some o'->(O'=K/\o'=.gn K s io iz (ver+1) none (es.set i e1'))\/(O'≠K/\O'≠N/\V.H.get O'=some o'):=fun O' o' h=>by
  simp only [bh,Map.au] at h;split at h
  ·rename_i e;cases h;exact .inl ⟨e,rfl⟩
  ·rename_i e;obtain⟨h1,h2⟩:=de h;exact .inr ⟨e,h1,h2⟩
 refine⟨cells',qxB,⟨fun t e he=>?_,fun O' o' ho=>?_,fun O1 O2 o1 o2 a1 a2 id' ho1 ho2 ha1 ha2 hi1 hi2=>?_,fun n hn=>?_,fun n y hn=>?_,fun id' ob hh=>?_,fun O' o' y ho hy=>?_⟩,⟨Pa _,fun id' _ hn=>?_,fun id' ⟨O',o',y,h1,h2,h3⟩=>?_⟩,⟨hmono,fun n y hn=>?_,?_⟩⟩
 ·obtain⟨a,h1,h2⟩:=hR.env t e he;exact⟨a,h1,fun hh=>(h2 hh).mono hmono⟩
 ·rcases get' O' o' ho with ⟨rfl,rfl⟩|⟨hne,qz5,h⟩
  ·refine⟨_,hA,q1,q2,q3,.inr ⟨id,g,b,cells',by rw [hlen'],by rw [Map.au,if_pos rfl],by omega,by rw [OJ,hlen'];omega,fun j e he=>?_⟩⟩;rw [List.getElem?_set] at he;by_cases hij:i=j
   ·subst hij;rw [if_pos rfl,if_pos hlt] at he;cases he;obtain⟨ts,g1,g2,g3,y,g4,g5,g6⟩:=hG.el i e1 he1;obtain⟨ts1,xs1,us1,p1,p2,p3,p4,p5,p6,p7⟩:=bM hp';rw [g1] at p1;cases p1;cases p2;refine⟨us1,p4,by rw [p5,g2],fun o t z hno ht hz=>?_,x,by rw [hcell,if_pos rfl],by rw [jH,if_pos rfl],fun _=>⟨l,?_,qb.mono (fun id' hi=>qq9 id' (xne id' hi)) (show qb st.H iz l x from hsN)⟩⟩
    ·rw [p7,if_neg (by omega)] at ht;rw [hcell,if_neg (by omega)] at hz;exact g3 o t z hno ht hz
    ·rw [p7,if_pos (by omega),Nat.sub_self];rfl
   ·rw [if_neg hij] at he;obtain⟨ts,g1,g2,g3,y,g4,g5,g6⟩:=hG.el j e he;have hne:∀o,o < s->j*s+o≠i*s+io:=fun o ho=>by
     rcases Nat.lt_or_gt_of_ne hij with h|h
     ·have:=bL (z:=s) h;omega
     ·have:=bL (z:=s) h;omega
    refine⟨ts,g1,g2,fun o t z hno ht hz=>?_,y,by rw [hcell,if_neg (hne io q2)];exact g4,by rw [jH,if_neg (Ne.symm hij)];exact g5,fun _=>?_⟩
    ·have ho:o < s:=by rw [←g2];exact(Ow.1 ht).1
     rw [hcell,if_neg (hne o ho)] at hz;exact g3 o t z hno ht hz
    ·obtain⟨l2,g7,g8⟩:=g6 (hol j (Ne.symm hij));exact⟨l2,g7,g8.mono fun id' hi=>qq9 id' (fun he=>hv3 j y id' (hol j (Ne.symm hij)) g5 hi (by rw [he];rfl))⟩
  ·obtain⟨a,h1,h2⟩:=hR.heap O' o' h;refine⟨a,hmono _ _ h1,h2.mono hmono (fun id' hi=>qq9 id' (fun he=>?_))⟩;subst he;exact hne (hR.inj O' K _ _ _ _ id' h hv h1 hA hi idK)
 ·have sh:∀{O':Nat} {o':VO} {a':AV},(bh (bu V N) K (.gn K s io iz (ver+1) none (es.set i e1'))).H.get O'=some o'->A O'=some a'->cY (qt A K ver i x) o' a' id'->∃(P:Nat) (p:VO) (ap:AV),V.H.get P=some p/\A P=some ap/\cY A p ap id'/\(P=O'\/(P=N/\O'=K)):=by
   intro O' o' a' ho ha hi;rcases get' O' o' ho with ⟨rfl,rfl⟩|⟨hne,qz5,h⟩
   ·rw [hA] at ha;cases ha;rcases idsNew _ hi with h|h
    ·exact⟨_,_,_,hv,hA,h,.inl rfl⟩
    ·exact⟨_,_,_,hN,hx,idN _ h,.inr ⟨rfl,rfl⟩⟩
   ·exact⟨O',o',a',h,ha,(v9 hne (hR.eI O' _ _ h ha)).1 hi,.inl rfl⟩
  obtain⟨P1,p1,x1,r1,r2,r3,r4⟩:=sh ho1 ha1 hi1;obtain⟨P2,p2,x2,t1,t2,t3,t4⟩:=sh ho2 ha2 hi2;have hPP:=hR.inj P1 P2 _ _ _ _ id' r1 t1 r2 t2 r3 t3;have notN:∀{O':Nat} {o':VO},(bh (bu V N) K (.gn K s io iz (ver+1) none (es.set i e1'))).H.get O'=some o'->O'≠N:=fun {O' o'} h he=>by
   rcases get' O' o' h with ⟨h1,_⟩|⟨_,h1,_⟩
   ·exact hNK (he▸h1)
   ·exact h1 he
  rcases r4 with rfl|⟨rfl,rfl⟩
  ·rcases t4 with rfl|⟨rfl,rfl⟩
   ·exact hPP
   ·exact absurd hPP (notN ho1)
  ·rcases t4 with rfl|⟨h1,h2⟩
   ·exact absurd hPP.symm (notN ho2)
   ·exact h2.symm
 ·have hn':V.us.get n.base=none:=hn;have h0:=hR.used n hn';cases n with
  |s O=>exact h0
  |i K' v j=>
   rw [jG]
   ·exact h0
   ·rintro⟨rfl,rfl⟩;have:=hR.used (.s K') hn';rw [hA] at this;cases this
 ·cases n with
  |s O=>exact hR.one _ _ hn
  |i K' v j=>
   by_cases he:K'=K/\v=ver+1
   ·obtain⟨rfl,rfl⟩:=he;rw [jH] at hn;split at hn
    ·cases hn;exact hR.one _ _ hx
    ·exact hR.one _ _ hn
   ·rw [jG he] at hn;exact hR.one _ _ hn
 ·have hh':(st.H.put (some (.row g cells')) id).get id'=some ob:=hh;rw [Map.au] at hh';split at hh'
  ·rename_i e;subst e;exact hR.fresh _ _ hH
  ·exact hR.fresh _ _ hh'
 ·rcases get' O' o' ho with ⟨rfl,rfl⟩|⟨hne,qz5,h⟩
  ·have hy':A O'=some y:=hy;rw [hA] at hy';cases hy';refine⟨rfl,fun v j hvv=>?_,fun j y hy=>?_,fun j j' y y' id' _ _ h1 h2 h3 h4=>?_,fun j y id' _ h1 h2=>?_⟩
   ·rw [jG (fun h=>by omega)];exact hv1 v j (by omega)
   ·rw [jH] at hy;split at hy
    ·rename_i e;subst e;rw [hlen'];exact hlt
    ·rw [hlen'];exact hv0 j y hy
   ·rw [jH] at h1 h2;split at h1
    ·cases h1;split at h2
     ·rename_i e1 e2;rw [e1,e2]
     ·rename_i e1 e2;exact absurd (hR.inj N O' _ _ _ _ id' hN hv hx hA (idN _ h3) (.inr ⟨j',y',hol j' e2,h2,h4⟩)) hNK
    ·split at h2
     ·cases h2;rename_i e1 e2;exact absurd (hR.inj N O' _ _ _ _ id' hN hv hx hA (idN _ h4) (.inr ⟨j,y,hol j e1,h1,h3⟩)) hNK
     ·rename_i e1 e2;exact hv2 j j' y y' id' (hol j e1) (hol j' e2) h1 h2 h3 h4
   ·rw [jH] at h1;split at h1
    ·cases h1;intro h;cases h;exact xne _ h2 rfl
    ·rename_i e1;exact hv3 j y id' (hol j e1) h1 h2
  ·have hk:=hR.eI O' o' y h hy;cases o' with
   |gn K' s' io' iz' v' qzw es2=>
    obtain⟨rfl,k1,k0,k2,k3⟩:=hk;have e:∀v j,qt A K ver i x (.i K' v j)=A (.i K' v j):=fun v j=>jG (fun h=>hne h.1)
    refine⟨rfl,fun v j hv=>by rw [e];exact k1 v j hv,fun j x=>by rw [e];exact k0 j x,fun j j' x x' id=>?_,fun j x id=>?_⟩
    ·rw [e,e];exact k2 j j' x x' id
    ·rw [e];exact k3 j x id
   |_=>trivial
 ·exact qq9 id' (fun he=>hn (he▸⟨K,_,_,hv,hA,idK⟩))
 ·left;rcases get' O' o' h1 with ⟨rfl,rfl⟩|⟨hne,qz5,h⟩
  ·have h2':A O'=some y:=h2;rw [hA] at h2';cases h2';rcases idsNew _ h3 with h|h
   ·exact⟨O',_,_,hv,hA,h⟩
   ·exact⟨N,_,_,hN,hx,idN _ h⟩
  ·exact⟨O',o',y,h,h2,(v9 hne (hR.eI O' _ _ h h2)).1 h3⟩
 ·cases n with
  |s O=>exact .inl hn
  |i K' v j=>
   by_cases he:K'=K/\v=ver+1
   ·obtain⟨rfl,rfl⟩:=he;exact .inr (.inr ⟨K',ver+1,j,s,io,iz,ver,hole,es,rfl,hv,by omega⟩)
   ·rw [jG he] at hn;exact .inl hn
 ·refine⟨fun _ h=>h,fun K2 s2 io2 iz2 v2 h2 es2 hK=>?_⟩;rcases get' K2 _ hK with ⟨rfl,e⟩|⟨_,_,h⟩
  ·cases e;exact .inr ⟨s,io,iz,ver,hole,es,hv,by omega⟩
  ·exact .inr ⟨s2,io2,iz2,v2,h2,es2,h,Pa _⟩
theorem lu {cf:eF} {sz:Nat} {a x:aH} {id gg off:Nat} {cells cells' as:List AV} (he:ev st.env a=.ptr id gg off) (hx:(ev st.env x).cells?=some as) (hn:as.length=sz)
  (hH:st.H.get id=some (.row gg cells)) (ho:cO cells off as=some cells'):fk cf (.store sz a x) (ev st.env) st.H st.nx=some (c7,st.H.put (some (.row gg cells')) id,st.nx):=by
 have hp:kind (.store sz a x)=.plan fun ρ=>i_ ρ sz a x:=rfl
 simp only [fk,hp,i_,he,hx,cond_eq_ite,OY,if_pos hn,bO,dO,cK,fI,hH,oh,if_pos,ho,od]
theorem EL (hR:R A V st) {sz:Nat} {a x:aH} (h:dw V none a fun w=>dw V none x fun x=>gv V sz w x k):bJ cf nt A V st none (.store sz a x) k:=by
 obtain⟨w,hw,h⟩:=bE (g:=none) hR trivial h;obtain⟨y,hy,hk⟩:=bE (g:=none) hR trivial h;generalize he:ev st.env a=p at hw;have done:∀(o:VO) {O:Nat} {o0:VO} {id gg off:Nat} {pa:AV} {cells cells' as:List AV},V.H.get O=some o0->A O=some pa->bV pa=some id->o0.pl=true->o.pl=true->ev st.env a=.ptr id gg off->(ev st.env x).cells?=some as->as.length=sz->
   st.H.get id=some (.row gg cells)->cO cells off as=some cells'->OR A (st.H.put (some (.row gg cells')) id) o pa->k (bh V O o)->bJ cf nt A V st none (.store sz a x) k:=by
  intro o O o0 id gg off pa cells cells' as h1 h2 h3 p0 p1 h4 h5 h6 h7 h8 h9 h10;obtain⟨g1,g2⟩:=m9 hR h1 h2 ((b9 p0).2 h3) h9 (fun id hi=>(b9 p0).2 ((b9 p1).1 hi)) (fun _=>mg p1);exact⟨_,_,_,lu h4 h5 h6 h7 h8,st.env,rfl,_,A,g1,g2,Ext.wZ _ (iE.set p1),h10⟩
 cases hw<;>first|(cases hk;done)|skip
 ·rename_i O off id hO;simp only [gv] at hk;split at hk
  ·rename_i v ovs hv;split at hk
   ·rename_i t o hs;obtain⟨u,hp,hk⟩:=hk;obtain⟨z,hz,id',cs,ts,rfl,hH,hc⟩:=hR.heap O _ hv;rw [hO] at hz;cases hz;obtain⟨_,xs,_,_,hxs,_⟩:=bM hp;obtain⟨as,h1,h2⟩:=fT hR.one hy hs hxs;obtain⟨hn,cs',us,h3,h4,h5⟩:=eW hc h2 hp;exact done (.ob u (nk off o (iS off sz ovs))) hv hO rfl rfl rfl he h1 hn hH h3 ⟨_,cs',us,rfl,by rw [Map.au,if_pos rfl],h4⟩ hk
   ·cases hk
  ·cases hk
 ·rename_i O off id hO;simp only [gv] at hk;split at hk
  ·rename_i v ovs hv;split at hk;rotate_left
   ·cases hk
   split at hk
   ·rename_i t;obtain⟨u,hp,hk⟩:=hk;obtain⟨z,hz,id',cs,ts,rfl,hH,hc⟩:=hR.heap O _ hv;rw [hO] at hz;cases hz;obtain⟨_,xs,_,_,hxs,_⟩:=bM hp;obtain⟨as,h1,h2⟩:=fT hR.one hy rfl hxs;obtain⟨hn,cs',us,h3,h4,h5⟩:=eW hc h2 hp;exact done (.ob u []) hv hO rfl rfl rfl he h1 hn hH h3 ⟨_,cs',us,rfl,by rw [Map.au,if_pos rfl],h4⟩ hk
   ·cases hk
  ·cases hk
 ·rename_i O i off id gg b z len cap ex hO;simp only [gv] at hk;split at hk
  ·rename_i z' es hv;split at hk
   ·rename_i t;obtain⟨es',hp,hk⟩:=hk;obtain⟨y',hy',hs⟩:=hR.heap O _ hv;rw [hO] at hy';cases hy';obtain⟨hz,hs⟩:=hs;rcases hs with ⟨_,e|e⟩|⟨id',g',b',cells,e,hH,hb,hE⟩
    ·cases e
    ·cases e
    ·cases e;unfold kf at hp;split at hp
     ·cases hp
     rename_i e1 he1;split at hp
     ·rename_i e1' hp';cases hp;have hlt:i < es.length:=(Ow.1 he1).1;obtain⟨ts,ht1,ht2⟩:=dJ.1 (hE.el i e1 he1);obtain⟨_,xs,_,_,hxs,_⟩:=bM hp';obtain⟨as,h1,h2⟩:=fT hR.one hy rfl hxs;have hce:aS A e1 [] (((cells.drop b).drop (i*z)).take z) ts:=⟨ht1,ht2.1,fun j w hj=>by simp [bp] at hj,fun j t x ht hx=>⟨ht2.2 j t x ht hx,fH hE.flat _ _ x (OD hx)⟩⟩;obtain⟨hn,ce',us,h3,h4,h5⟩:=eW hce h2 hp';obtain⟨hov,hat⟩:=dy h3;obtain⟨hb1,_⟩:=cP h3;have hl:=hE.len;rw [OJ] at hl;have h9:=bL (z:=z) hlt;have hz':(((cells.drop b).drop (i*z)).take z).length=z:=by simp only [OI,OJ];omega
      rw [hz'] at hb1 hov;have qxB:cO cells (b+i*z+off) as=some (cells.take (b+i*z+off)++as++cells.drop (b+i*z+off+as.length)):=by rw [fQ,if_pos (by omega)]
      obtain⟨hl2,qxY⟩:=dy qxB;refine done (.gr z (es.set i e1')) hv hO rfl rfl rfl he h1 hn hH qxB ⟨hz,.inr ⟨id,gg,b,_,by simp only [OM],by rw [Map.au,if_pos rfl],by omega,?_⟩⟩ hk;refine DD (ce':=ce') hE he1 (dJ.2 ⟨us,h4.cells,h4.len,fun j t x ht hx=>((h4.at_ j t x ht hx):Can t x/\_).1⟩) hov (fun x hx=>?_) (by simp only [OJ];omega) (fun j=>?_)
      ·obtain⟨q,hq⟩:=List.getElem?_of_mem hx;have hlq:q < us.length:=by rw [h4.len];exact(Ow.1 hq).1
       exact((h4.at_ q _ x (Ov hlq) hq):Can _ x/\_).2
      ·rw [OC,qxY,OC];by_cases hj:i*z<=j/\j < i*z+z
       ·rw [if_pos hj,hat,gp,OC];by_cases hq:off<=j - i*z/\j - i*z < off+as.length
        ·rw [if_pos hq,if_pos (by omega)];congr 1;omega
        ·rw [if_neg hq,if_neg (by omega),if_pos (by omega)];congr 1;omega
       ·rw [if_neg hj,if_neg (by omega)]
     ·cases hp
   ·cases hk
  ·rename_i K s io iz ver hole es hv;split at hk;rotate_left
   ·cases hk
   rename_i hK;rw [OY] at hK;subst hK;obtain⟨z',hz',hs⟩:=hR.heap K _ hv;rw [hO] at hz';cases hz';obtain⟨rfl,rfl,rfl,rfl,p1,p2,p3,cells,hH,hb,hG⟩:=Dp hs;obtain⟨_,hv1,hv0,hv2,hv3⟩:=hR.eI K _ _ hv hO;split at hk
   ·rename_i t;split at hk;rotate_left
    ·cases hk
    rename_i hap;obtain⟨es',hp,hk⟩:=hk;have hp0:=hp;unfold kf at hp0;split at hp0
    ·cases hp0
    split at hp0;rotate_left
    ·cases hp0
    rename_i hp';obtain⟨_,xs,_,_,hxs,_⟩:=bM hp';obtain⟨as,h1,h2⟩:=fT hR.one hy rfl hxs;obtain⟨hn,hlen,cells',h3,hb',hG'⟩:=Jj p2 hb hG hap hp h2;have hid:cY A (.gn K z io iz ver hole es) (.ref id gg b z es.length es.length false) id:=.inl rfl;obtain⟨g1,g2⟩:=m9 (o:=.gn K z io iz ver hole es') (ob:=.row gg cells') hR hv hO hid ⟨p1,p2,p3,.inr ⟨id,gg,b,cells',by rw [hlen],by rw [Map.au,if_pos rfl],hb',hG'.mono (fun j x h=>h) (fun j x id' hn' hx hi=>by rw [Map.au,if_neg];rintro rfl;exact hv3 j x id' hn' hx hi rfl)⟩⟩ (fun id hi=>hi) (fun hvk=>⟨rfl,hv1,fun j x hx=>by rw [hlen];exact hv0 j x hx,hv2,hv3⟩)
    exact⟨_,_,_,lu he h1 hn hH h3,st.env,rfl,_,A,g1,g2,Ext.wZ _ (iE.Ge hv (Pa _)),hk⟩
   ·rename_i N;split at hk;rotate_left
    ·cases hk
    rename_i hsz;simp only [OV,OY,OX] at hsz;obtain⟨rfl,rfl,hNK⟩:=hsz;have hNK:N≠K:=by rintro rfl;simp at hNK
    split at hk;rotate_left
    ·cases hk
    rename_i z' l hN;split at hk;rotate_left
    ·cases hk
    rename_i hz';rw [OY] at hz';subst hz';have hho:(hole=none\/hole=some i)/\∃es',kf es i off 1 (.l l)=some es'/\k (bh (bu V N) K (.gn K z off z' (ver+1) none es')):=by
     unfold FW at hk;split at hk
     ·exact⟨.inl rfl,hk⟩
     ·obtain⟨rfl,hk⟩:=hk;exact⟨.inr rfl,hk⟩
    clear hk;obtain⟨hho,es',hp,hk⟩:=hho;have hyN:A N=some (ev st.env x):=by cases hy;assumption
    obtain⟨cells',h3,g1,g2,g3⟩:=Hv hR hv hO hH hb hG p1 p2 p3 hN hyN hNK hho hp;have hone:=hR.one _ _ hyN;have hcs:(ev st.env x).cells?=some [ev st.env x]:=by cases hq:ev st.env x<;>rw [hq] at hone<;>first|rfl|cases hone
    exact⟨_,_,_,lu he hcs rfl hH h3,st.env,rfl,_,_,g1,g2,g3,hk⟩
   ·cases hk
  ·cases hk
 ·rename_i O v i j off id gg b z len cap ex hA;obtain⟨s,io,iz,es,ho,hk⟩:=ct hk;split at hk;rotate_left
  ·cases hk
  rename_i t;obtain⟨l,hl,l',hp,es',hp2,hk⟩:=hk;obtain⟨a0,ha0,hs⟩:=hR.heap O _ ho;obtain⟨_,hv1,hv0,hv2,hv3⟩:=hR.eI O _ _ ho ha0;have hsl:=oI hs hl (by simp) hA;obtain rfl:=B3 hsl;have hp0:=hp;unfold kf at hp0;split at hp0
  ·cases hp0
  split at hp0;rotate_left
  ·cases hp0
  rename_i hp';obtain⟨_,xs,_,_,hxs,_⟩:=bM hp';obtain⟨as,h1,h2⟩:=fT hR.one hy rfl hxs;obtain⟨hn,cells,cells',hH,h3,qzo⟩:=Ij hsl hp h2;have hid:cY A (.gn O s io z v none es) a0 id:=.inr ⟨i,_,by simp,hA,rfl⟩;have hne:∀q y id',q≠i->A (.i O v q)=some y->bV y=some id'->(st.H.put (some (.row gg cells')) id).get id'=st.H.get id':=fun q y id' hq hqy hi=>by rw [Map.au,if_neg];rintro rfl;exact hq (hv2 q i y _ id' (by simp) (by simp) hqy hA hi rfl)
  obtain⟨q1,q2,q3,hs⟩:=hs;rcases hs with ⟨rfl,_⟩|⟨id0,g0,b0,qzP,rfl,hH0,hb0,hG⟩
  ·obtain⟨e,he',_⟩:=xq hl;simp at he'
  ·obtain⟨hlen,hG'⟩:=G4 (id:=id) (g:=gg) (b:=b) hG hl hp2 hA qzo hne;obtain⟨g1,g2⟩:=m9 (o:=.gn O s io z v none es') (ob:=.row gg cells') hR ho ha0 hid ⟨q1,q2,q3,.inr ⟨id0,g0,b0,qzP,by rw [hlen],by
     rw [Map.au,if_neg]
     ·exact hH0
     ·rintro rfl;exact hv3 i _ _ (by simp) hA rfl rfl,hb0,hG'⟩⟩ (fun id hi=>hi) (fun hvk=>⟨rfl,hv1,fun j x hx=>by rw [hlen];exact hv0 j x hx,hv2,hv3⟩)
   exact⟨_,_,_,lu he h1 hn hH h3,st.env,rfl,_,A,g1,g2,Ext.wZ _ (iE.Ge ho (Pa _)),hk⟩
end
end Go.Ax.V
namespace Go.Ax.V
section
variable {prog:Map aq} {cf:eF} {nt:Nat} {A:aX} {V:aF} {st:St} {d:Option Nat} {g:G} {k:aF->Prop}
theorem kL {a:AV} (h:a.flat=true) (d:Nat) (H:av):bq (d+1) H a=[]:=by cases a<;>first|rfl|cases h
theorem uk {cs:List AV} (h:∀x∈cs,AV.flat x=true) (d:Nat) (H:av):cs.flatMap (bq (d+1) H)=[]:=by rw [List.flatMap_eq_nil_iff];exact fun x hx=>kL (h x hx) d H
theorem rZ {a:AV} (h:a.eJ=true) (d:Nat) (H:av):bq (d+2) H a=[]:=by
 rcases tK h with h|⟨cs,rfl,h'⟩
 ·exact kL h (d+1) H
 ·rw [uo,uk h']
theorem lH {a:AV} (h:a.plain=true) (d:Nat) (H:av):bq (d+3) H a=[]:=by
 rcases wO h with h|⟨cs,rfl,h'⟩
 ·exact rZ h (d+1) H
 ·rw [um,List.flatMap_eq_nil_iff];exact fun x hx=>rZ (h' x hx) d H
theorem Dl {H:av} {sz:Nat} {es:List TV} {a:AV} (h:qb H sz es a) (d:Nat):∀id∈bq (d+2) H a,bV a=some id:=by
 obtain⟨hz,h⟩:=h;rcases h with ⟨rfl,rfl|rfl⟩|⟨id,g,b,cells,rfl,hH,hb,he⟩
 ·intro id hi;cases hi
 ·intro id hi;cases hi
 ·intro id' hi;have hl:cells.length=b+es.length*sz:=by have:=he.len;rw [OJ] at this;omega
  have hc:cut cells b (Nat.mul es.length sz)=some (cells.drop b):=by rw [cI,if_pos (by show b+es.length*sz<=_;omega),O7];rw [OJ];show _<=es.length*sz;omega
  rw [oH,hH] at hi;simp only [hc,uk he.flat] at hi;simp at hi;subst hi;rfl
structure Sub (V V':aF):Prop where
 env:V'.env=V.env
 us:V'.us=V.us
 H:∀O o,V'.H.get O=some o->V.H.get O=some o
theorem Sub.refl (V:aF):Sub V V:=⟨rfl,rfl,fun _ _ h=>h⟩
theorem Sub.trans {V V1 V2:aF} (h:Sub V V1) (h':Sub V1 V2):Sub V V2:=⟨h'.env.trans h.env,h'.us.trans h.us,fun O o hh=>h.H O o (h'.H O o hh)⟩
theorem Sub.own {V V':aF} (h:Sub V V') {A:aX} {id:Nat} (ho:b6 V' A id):b6 V A id:=let ⟨O,o,a,h1,h2,h3⟩:=ho;⟨O,o,a,h.H _ _ h1,h2,h3⟩
theorem Sub.r {V V':aF} (h:Sub V V') {A:aX} {st:St} (hR:R A V st):R A V' st:=hR.sub h.env h.us h.H
theorem Sub.ev {V V':aF} (h:Sub V V'):iE V V':=iE.HH h.us h.H
theorem Ext.sub {V V1 V':aF} {A A':aX} (h:Ext V1 A V' A') (hs:Sub V V1):Ext V A V' A':=(Ext.wZ A hs.ev).trans h
theorem bt (V:aF) (O:Nat):Sub V (bu V O):=⟨rfl,rfl,fun _ _ h=>(de h).2⟩
theorem mz (V:aF) (w:VV):Sub V (jX V w):=by cases w<;>first|exact bt V _|exact Sub.refl V
theorem iJ:∀(l:List (Nat×VV)) (V:aF),Sub V (jY V l)
 |[],V=>Sub.refl V
 |(_,w)::r,V=>(mz V w).trans (iJ r _)
theorem cX {V:aF} {A:aX} {st:St} (hR:R A V st) {O:Nat} {o:VO} {a:AV} {id:Nat} (hV:V.H.get O=some o) (hA:A O=some a) (hi:cY A o a id):¬b6 (bu V O) A id:=by rintro⟨O',o',a',h1,h2,h3⟩;obtain⟨hne,h1'⟩:=de h1;exact hne (hR.inj O' O _ _ a' a id h1' hV h2 hA h3 hi)
theorem gQ {j:Nat} {w:VV}:∀{l:List (Nat×VV)},bp j l=some w->(j,w)∈l
 |[],h=>by cases h
 |(i,w')::r,h=>by
  rw [aY] at h;split at h
  ·rename_i e;subst e;cases h;exact ON
  ·exact OO _ (gQ h)
theorem xE:∀{l:List (Nat×VV)} {V:aF} {O:Nat} {j:Nat},(j,VV.sl O)∈l->(jY V l).H.get O=none
 |(i,w)::r,V,O,j,h=>by
  have keep:∀{V:aF},V.H.get O=none->(jY V r).H.get O=none:=fun {V} hn=>by
   cases hh:(jY V r).H.get O with
   |none=>rfl
   |some o=>have:=(iJ r V).H O o hh;rw [hn] at this;cases this
  rcases OP.1 h with h|h
  ·cases h;exact keep (by show (V.H.put none O).get O=none;rw [Map.au,if_pos rfl])
  ·exact xE (l:=r) (V:=jX V w) h
theorem Dn {V V':aF} {A:aX} {st:St} (hR:R A V st) (hs:Sub V V') {O:Nat} {o:VO} {a:AV} {id:Nat} (hV:V.H.get O=some o) (hA:A O=some a) (hi:cY A o a id) (hg:V'.H.get O=none):¬b6 V' A id:=by rintro⟨O',o',a',h1,h2,h3⟩;have:=hR.inj O' O _ _ a' a id (hs.H _ _ h1) hV h2 hA h3 hi;subst this;rw [hg] at h1;cases h1
def Gs (fz:Bool) (st:St) (x:aH):AV:=match fz with
 |true=>mO st.H (ev st.env) x
 |false=>ev st.env x
theorem qm {st:St} {x:aH} {a':AV} (h:aN deep st.H (ev st.env x)=some a'):mO st.H (ev st.env) x=a':=by simp only [mO,h]
theorem jI {n:Nat} {t:TV} (h:dg n t):∃l,bF t=some l/\l.length=n:=by
 unfold dg at h;split at h
 ·rename_i l hl;exact⟨l,hl,h⟩
 ·cases h
def Whole (o:VO):Prop:=(∃z es,o=.gr z es)\/∃K s io iz ver es,o=.gn K s io iz ver none es
theorem uZ {V:aF} {O:Nat} {k:List TV->Prop} (h:pR V (.sl O) k):∃o,V.H.get O=some o/\Whole o/\∃es,k es/\(∀{A:aX} {H:av} {a:AV} (d:Nat),OR A H o a->∃a',aN (d+3) H a=some a'/\Can (.l es) a'/\a'.flat=true/\(a.plain=true->a'=a)):=by
 simp only [pR] at h;split at h
 ·rename_i z es ho;exact⟨_,ho,.inl ⟨z,es,rfl⟩,es,h,fun d hor=>let ⟨a',h1,h2,h3,h4,_⟩:=uY hor (d+1);⟨a',h1,h2,h3,h4⟩⟩
 ·rename_i K s io iz ver es ho;exact⟨_,ho,.inr ⟨_,_,_,_,_,_,rfl⟩,es,h,fun d hor=>Dq hor d⟩
 ·cases h
theorem lG {A:aX} {H:av} {o:VO} {a:AV} (hw:Whole o) (h:OR A H o a) (d:Nat):∀id∈bq (d+3) H a,cY A o a id:=by
 rcases hw with ⟨z,es,rfl⟩|⟨K,s,io,iz,ver,es,rfl⟩
 ·exact fun id hi=>.inl (Dl h (d+1) id hi)
 ·obtain⟨hs,hio,hiz,h⟩:=h;rcases h with ⟨rfl,rfl|rfl⟩|⟨id,g,b,cells,rfl,hH,hb,he⟩
  ·intro id hi;cases hi
  ·intro id hi;cases hi
  ·intro id' hi;have hl:cells.length=b+es.length*s:=by have:=he.len;rw [OJ] at this;omega
   have hc:cut cells b (Nat.mul es.length s)=some (cells.drop b):=by rw [cI,if_pos (by show b+es.length*s<=_;omega),O7];rw [OJ];show _<=es.length*s;omega
   rw [oH,hH] at hi;simp only [hc] at hi;rcases OP.1 hi with rfl|hi
   ·exact .inl rfl
   obtain⟨x,hx,hi⟩:=List.mem_flatMap.1 hi;obtain⟨q,hq⟩:=List.getElem?_of_mem hx;have hlt:q < es.length*s:=by have:=(Ow.1 hq).1;rw [he.len] at this;exact this
   have hj:q / s < es.length:=(Nat.div_lt_iff_lt_mul hs).2 hlt;have hqe:q=q / s*s+q % s:=by rw [Nat.mul_comm];exact(Nat.div_add_mod q s).symm
   obtain⟨ts,g1,g2,g3,x',g4,g5,g6⟩:=he.el (q / s) _ (Ov hj);have ho:q % s < ts.length:=by rw [g2];exact Nat.mod_lt _ hs
   by_cases hoo:q % s=io
   ·obtain⟨l,g7,g8⟩:=g6 (by simp);rw [hqe,hoo,g4] at hq;cases hq;exact .inr ⟨q / s,x,by simp,g5,Dl g8 d id' hi⟩
   ·obtain⟨p1,p2⟩:=g3 (q % s) _ x hoo (Ov ho) (by rw [←hqe];exact hq);have hh:bq (d+2) H x=[]:=kL p2 (d+1) H;rw [hh] at hi;cases hi
theorem mj {V:aF}:∀{l:List (Nat×VV)} {v:TV} {k:TV->Prop},s5 V l v k->∀j O,(j,VV.sl O)∈l->∃o,V.H.get O=some o/\Whole o
 |[],v,k,h,j,O,hm=>by cases hm
 |(off,w)::r,v,k,h,j,O,hm=>by
  have ex:∀{l:List (Nat×VV)} {v:TV} {k:TV->Prop},s5 V l v k->∃u,k u:=by
   intro l
   induction l with
   |nil=>intro v k h;exact⟨v,h⟩
   |cons p l ih=>intro v k h;obtain⟨off,w⟩:=p;obtain⟨u,hu⟩:=ih h;obtain⟨es,u',_,hk⟩:=m7 hu;exact⟨u',hk⟩
  rcases OP.1 hm with hm|hm
  ·cases hm;obtain⟨u,hu⟩:∃u,pR V (.sl O) (fun es=>∃u',cN u off 1 (.l es)=some u'/\k u'):=ex (l:=r) h;obtain⟨o,h1,h2,_⟩:=uZ hu;exact⟨o,h1,h2⟩
  ·exact mj (l:=r) h j O hm
theorem rI:∀{l:List (Nat×VV)},EU l=true->∀j O v i,(j,VV.ow O v i) ∉ l
 |[],h,j,O,v,i,hm=>by cases hm
 |(j',w)::r,h,j,O,v,i,hm=>by
  rcases OP.1 hm with h1|h1
  ·cases h1;cases h
  ·clear hm;cases w<;>first|(cases h;done)|exact rI (l:=r) h j O v i h1
structure Kw (A:aX) (st:St) (fz:Bool) (sz:Nat) (V:aF) (j:Nat) (parts:List (Nat×Nat×aH)) (ts:List TV) (V':aF):Prop where
 sub:Sub V V'
 len:ts.length=parts.length
 fill:∀cells:List AV,(j+parts.length)*sz<=cells.length->∃cells',fill (Gs fz st) parts cells=some cells'/\cells'.length=cells.length/\(∀q,q < j*sz->cells'[q]?=cells[q]?)/\
  (∀q,(j+parts.length)*sz<=q->cells'[q]?=cells[q]?)/\(∀q x,j*sz<=q->q < (j+parts.length)*sz->cells'[q]?=some x->x.flat=true)/\∀i t,ts[i]?=some t->k9 t ((cells'.drop ((j+i)*sz)).take sz)
 b5:fz=true->∃l,cr (aN deep st.H) (parts.map fun p=>ev st.env p.2.2)=some l
 ids:fz=true->∀id∈(parts.map fun p=>ev st.env p.2.2).flatMap (bq deep st.H),b6 V A id/\¬b6 V' A id
theorem sx {fz:Bool} {sz j off n:Nat} {x:aH} {r:List (Nat×Nat×aH)} {V V1 V':aF} {t:TV} {ts:List TV} {a':AV} {l:List TV} {as:List AV} (hoff:off=j*sz) (hn:n=sz)
  (qz4:Gs fz st x=a') (hc:bF t=some l) (hl:l.length=n) (has:a'.cells?=some as) (hca:BC l as) (hs:Sub V V1) (him:fz=true->aN deep st.H (ev st.env x)=some a')
  (hid:fz=true->∀id∈bq deep st.H (ev st.env x),b6 V A id/\¬b6 V1 A id) (h:Kw A st fz sz V1 (j+1) r ts V'):Kw A st fz sz V j ((off,n,x)::r) (t::ts) V':=by
 subst hoff;subst hn;refine⟨hs.trans h.sub,by simp [h.len],fun cells hcl=>?_,fun hf=>?_,fun hf id qxv=>?_⟩
 ·rw [OL] at hcl;have hal:as.length=n:=by rw [←hca.1.1];exact hl
  have hj1:(j+1)*n=j*n+n:=by rw [Nat.add_mul,Nat.one_mul]
  have hj2:(j+1+r.length)*n=(j+(r.length+1))*n:=by congr 1;omega
  have hle:(j+1)*n<=(j+(r.length+1))*n:=Nat.mul_le_mul_right n (by omega);have hov:cO cells (j*n) as=some (cells.take (j*n)++as++cells.drop (j*n+as.length)):=by rw [fQ,if_pos (by omega)]
  obtain⟨ho1,ho2⟩:=dy hov;obtain⟨cells',g1,g2,g3,g4,gf,g5⟩:=h.fill _ (by rw [ho1];omega);refine⟨cells',?_,by rw [g2,ho1],fun q hq=>?_,fun q hq=>?_,fun q y hq1 hq2 hy=>?_,fun i u hu=>?_⟩
  ·rw [jS];simp only [qz4,has,cond_eq_ite,OY,if_pos hal,hov,g1]
  ·rw [g3 q (by omega),ho2,if_neg (by omega)]
  ·rw [OL] at hq;rw [g4 q (by omega),ho2,if_neg (by omega)]
  ·rw [OL] at hq2;by_cases hq:q < (j+1)*n
   ·rw [g3 q hq,ho2,if_pos (by omega)] at hy;exact hca.2 y (OD hy)
   ·exact gf q y (by omega) (by omega) hy
  ·cases i with
   |zero=>
    simp at hu;subst hu;have:(cells'.drop (j*n)).take n=as:=by
     apply List.ext_getElem?;intro q;rw [gp];by_cases hq:q < n
     ·rw [if_pos hq,g3 _ (by omega),ho2,if_pos (by omega)];congr 1;omega
     ·rw [if_neg hq];exact(List.getElem?_eq_none_iff.2 (by omega)).symm
    rw [Nat.add_zero,this];exact dJ.2 ⟨l,hc,hca.1⟩
   |succ i=>have:=g5 i u (by simpa using hu);rwa [show j+1+i=j+(i+1) by omega] at this
 ·obtain⟨l',hl'⟩:=h.b5 hf;exact⟨a'::l',by rw [List.map_cons,bZ];simp only [him hf,hl']⟩
 ·rw [List.map_cons,List.flatMap_cons,OQ] at qxv;rcases qxv with hi|hi
  ·obtain⟨h1,h2⟩:=hid hf id hi;exact⟨h1,fun ho=>h2 (h.sub.own ho)⟩
  ·obtain⟨h1,h2⟩:=h.ids hf id hi;exact⟨hs.own h1,h2⟩
theorem h_ {fz:Bool} {sz:Nat}:∀(parts:List (Nat×Nat×aH)) (j:Nat) (V:aF) (k:List TV->aF->Prop),R A V st->ia V none fz sz j parts k->∃ts V',k ts V'/\Kw A st fz sz V j parts ts V'
 |[],j,V,k,hR,hk=>⟨[],V,hk,⟨Sub.refl V,rfl,fun cells _=>⟨cells,rfl,rfl,fun _ _=>rfl,fun _ _=>rfl,fun q x h1 h2=>by simp at h2;omega,fun i t hi=>by simp at hi⟩,fun _=>⟨[],rfl⟩,fun _ id hi=>by simp at hi⟩⟩
 |(off,n,x)::r,j,V,k,hR,hk=>by
  obtain⟨h1,hk⟩:=hk;rw [OV,OY,OY] at h1;obtain⟨hoff,hn⟩:=h1;obtain⟨w,hw,hq⟩:=bE (g:=none) hR trivial hk;clear hk;have tree:∀{t:TV} {k':List TV->aF->Prop},Can t (ev st.env x)->dg n t->ia V none fz sz (j+1) r k'->(∀ts V',k' ts V'->k (t::ts) V')->∃ts V',k ts V'/\Kw A st fz sz V j ((off,n,x)::r) ts V':=by
   intro t k' hc hs hk hkk;obtain⟨l,hl1,hl2⟩:=jI hs;obtain⟨as,h1,h2⟩:=oV hc hl1;obtain⟨ts,V',g1,g2⟩:=h_ r (j+1) V k' hR hk;have him:aN deep st.H (ev st.env x)=some (ev st.env x):=gz (fM hc) 27 _;refine⟨t::ts,V',hkk _ _ g1,sx hoff hn ?_ hl1 hl2 h1 h2 (Sub.refl V) (fun _=>him) (fun _ id hi=>?_) g2⟩
   ·cases fz with
    |true=>exact qm him
    |false=>rfl
   ·have hh:bq deep st.H (ev st.env x)=[]:=lH (fM hc) 27 _;rw [hh] at hi;cases hi
  generalize he:ev st.env x=a at hw;cases hw with
  |tr hc=>exact tree (he▸hc) hq.1 hq.2 (fun _ _ h=>h)
  |bP=>exact tree (he▸Can.nil) (by rw [hq.1];rfl) hq.2 (fun _ _ h=>h)
  |jP=>exact tree (he▸fm) (by rw [hq.1];rfl) hq.2 (fun _ _ h=>h)
  |@sl O _ hO=>obtain⟨rfl,rfl,hk⟩:=hq;obtain⟨ob,ho,hwh,es,hk,him⟩:=uZ hk;obtain⟨y,hy,hs⟩:=hR.heap O _ ho;rw [hO] at hy;cases hy;obtain⟨a',g1,g2,g3,g4⟩:=him 27 hs;have hsub:Sub V (jX V (.sl O)):=mz V _;obtain⟨ts,V',g6,g7⟩:=h_ r (j+1) _ _ (hsub.r hR) hk;obtain⟨as,p1,p2⟩:=oV (t:=.l es) g2 rfl;refine⟨_,V',g6,sx hoff hn (qm (by rw [he];exact g1)) rfl rfl p1 p2 hsub (fun _=>by rw [he];exact g1) (fun _ id hi=>?_) g7⟩;rw [he] at hi;have hid:=lG hwh hs 27 id hi;exact⟨⟨O,_,a,ho,hO,hid⟩,cX hR ho hO hid⟩
  |@st t o cs tl hv hc=>
   obtain⟨hfz,hk⟩:=hq;rw [OV] at hfz;obtain⟨rfl,qzx⟩:=hfz;have qxD:=mj hk;obtain⟨u,us,cs',h1,h2,h3,⟨hs,hk⟩,h5,h6⟩:=oU hR hc hk 26;obtain⟨l',rfl⟩:=h5 _ hv;cases h2;have hsub:Sub V (jY V o):=iJ o V;obtain⟨ts,V',g6,g7⟩:=h_ r (j+1) _ _ (hsub.r hR) hk;have him:aN deep st.H (ev st.env x)=some (.agg cs'):=by rw [he];show aN (29+1) _ _=_;rw [eR,h1]
   refine⟨_,V',g6,sx hoff hn (qm him) rfl hs rfl h3 hsub (fun _=>him) (fun _ id hi=>?_) g7⟩;rw [he] at hi;have hi':id∈cs.flatMap (bq 29 st.H):=hi;obtain⟨y,hy,hi'⟩:=List.mem_flatMap.1 hi';obtain⟨q,hq⟩:=List.getElem?_of_mem hy;have hlt:q < tl.length:=by rw [hc.len];exact(Ow.1 hq).1
   have hat:=hc.at_ q _ y (Ov hlt) hq;cases ho:bp q o with
   |none=>rw [ho] at hat;have hh:bq 29 st.H y=[]:=kL hat.2 28 _;rw [hh] at hi';cases hi'
   |some w=>
    rw [ho] at hat;cases w<;>first|(exact absurd hat (by intro hh;exact hh))|skip
    ·rcases hat with e|e<;>(rw [e] at hi';cases hi')
    ·rename_i O;have hO:A O=some y:=hat;obtain⟨ob,hO',hwh⟩:=qxD q O (gQ ho);obtain⟨y',hy',hs'⟩:=hR.heap O _ hO';rw [hO] at hy';cases hy';have qj2:=lG hwh hs' 26 id hi';exact⟨⟨O,_,y,hO',hO,qj2⟩,Dn hR hsub hO' hO qj2 (xE (gQ ho))⟩
    ·exact absurd (gQ ho) (rI qzx _ _ _ _)
  |_=>cases hq
end
end Go.Ax.V
namespace Go.Ax.V
section
variable {prog:Map aq} {cf:eF} {nt:Nat} {A:aX} {V:aF} {st:St} {d:Option Nat} {g:G} {k:aF->Prop}
theorem cV {n:Nat} {p:Prop} (h:pos n p):0 < n/\p:=by
 unfold pos at h;rw [cond_eq_ite] at h;split at h
 ·rename_i hh;exact⟨by simpa using hh,h⟩
 ·cases h
theorem aU {a b:Nat} {p:Prop} (h:same a b p):a=b/\p:=by
 unfold same at h;rw [cond_eq_ite] at h;split at h
 ·rename_i hh;exact⟨by simpa using hh,h⟩
 ·cases h
theorem ic:∀(l:List Nat) (H:av) (id:Nat),(drop H l).get id=if id∈l then none else H.get id
 |[],H,id=>by simp [drop]
 |i::l,H,id=>by
  rw [drop,ic l,Map.au];by_cases h:id∈l
  ·rw [if_pos h,if_pos (OO _ h)]
  ·rw [if_neg h];by_cases e:id=i
   ·rw [if_pos e,if_pos (by rw [e];exact ON)]
   ·rw [if_neg e,if_neg (by intro hh;rcases OP.1 hh with hh|hh;exact e hh;exact h hh)]
theorem ud {fz:Bool} {sz:Nat} {parts:List (Nat×Nat×aH)} {ts:List TV} {V':aF} (h:Kw A st fz sz V 0 parts ts V') {zero:List AV} (hl:ts.length*sz=zero.length) :
  ∃cs,fill (Gs fz st) parts zero=some cs/\vW sz ts cs:=by
 have hlen:=h.len;obtain⟨cs,g1,g2,g3,g4,gf,g5⟩:=h.fill zero (by rw [Nat.zero_add,←h.len,hl];exact Pa _);refine⟨cs,g1,by rw [g2,hl],fun x hx=>?_,fun j e hj=>by have:=g5 j e hj;rwa [Nat.zero_add] at this⟩;obtain⟨q,hq⟩:=List.getElem?_of_mem hx;have:=(Ow.1 hq).1;exact gf q x (by omega) (by rw [Nat.zero_add,←h.len,hl,←g2];exact this) hq
theorem C0 (hR:R A V st) {es len:Nat} {zero:List AV} {parts:List (Nat×Nat×aH)} (h:pos es (ia V none false es 0 parts fun ts V'=>same ts.length len (same zero.length (ts.length*es) (gh nt V' d none .sl (.gr es ts) k)))):bJ cf nt A V st d (.eO es len zero parts) k:=by
 obtain⟨hz,h⟩:=cV h;obtain⟨ts,V',hk,hE⟩:=h_ parts 0 V _ hR h;obtain⟨hl,hk⟩:=aU hk;obtain⟨hl2,hk⟩:=aU hk;obtain⟨cs,h1,h2⟩:=ud hE (zero:=zero) hl2.symm;have hfr:=gX (A:=A) (V:=V') (st:=st) (a:=.ref st.nx 0 0 es ts.length ts.length false) (v:=.ref st.nx 0 0 es ts.length ts.length false) (ob:=.row 0 cs) (hE.sub.r hR) hk
  (fun A' hA=>⟨hz,.inr ⟨_,_,_,cs,rfl,by rw [Map.au,if_pos rfl],O_ _,by simpa using h2⟩⟩) rfl rfl (fun A' O hO=>.sl hO)
 obtain⟨e',p1,V2,A2,p2,p3,p4⟩:=hfr;refine qe (f:=fun id=>.ref id 0 0 es len len false) (ob:=.row 0 cs) rfl (by have this:fill (ev st.env) parts zero=some cs:=h1;simp only [iQ,this]) ⟨e',by rw [←hl];exact p1,V2,A2,p2,⟨p3.le,fun id hid hn=>p3.same id hid (fun ho=>hn (hE.sub.own ho)),fun id ho=>(p3.own id ho).imp hE.sub.own (fun x=>x)⟩,p4.1.sub hE.sub,p4.2⟩
theorem AH {l:List AV} {f:AV->Bool} (h:∀x∈l,f x=true):bx f l=true:=aJ.2 h
theorem CX (hR:R A V st) {fz:Bool} {len:Nat} {zero:List AV} {parts:List (Nat×Nat×aH)} {gd:Option (Nat×Bool)} (h:Aw nt V d none fz len zero parts k) :
  ∃v H' nx',je cf ⟨d,.aQ len zero parts,gd,fz⟩ (ev st.env) st.H st.nx=some (v,H',nx')/\Next nt A V st d v H' nx' k:=by
 unfold Aw at h;simp only at h;split at h
 ·split at h<;>first|(cases h;done)|skip
  split at h<;>first|(cases h;done)|skip
  split at h<;>first|(cases h;done)|skip
  exact⟨.b5 [] 0 (some 0),st.H,st.nx,rfl,ay hR (fun _=>.jP) h⟩
 ·rename_i n;obtain⟨hz,h⟩:=cV h;obtain⟨hm,h⟩:=aU h;obtain⟨ts,V',hk,hE⟩:=h_ parts 0 V _ hR h;obtain⟨hl,hk⟩:=aU hk;obtain⟨cs,h1,h2⟩:=ud hE (zero:=zero) (by rw [hl,Nat.mul_comm];exact hm);have hcan:Can (.l ts) (.b5 cs (n+1) (some (n+1))):=by have:=vJ hz h2 (some (n+1));rwa [hl] at this
  cases fz with
  |false=>refine⟨.b5 cs (n+1) (some (n+1)),st.H,st.nx,?_,jk (hE.sub.r hR) (Fr.HH fun O o hh=>hE.sub.H O o hh) (Ext.wZ _ hE.sub.ev) (fun _=>.tr hcan) hk⟩;have h1':fill (ev st.env) parts zero=some cs:=h1;simp only [je,fk,kind,c5,h1',AH h2.flat,cond_true,cond_false,bO]
  |true=>
   obtain⟨l,hl'⟩:=hE.b5 rfl;have qxk:=hE.ids rfl;have h1':fill (mO st.H (ev st.env)) parts zero=some cs:=h1;have qq9:=ic ((parts.map fun p=>ev st.env p.2.2).flatMap (bq deep st.H)) st.H;refine⟨.b5 cs (n+1) (some (n+1)),drop st.H ((parts.map fun p=>ev st.env p.2.2).flatMap (bq deep st.H)),st.nx,?_,jk (A1:=A) (V1:=V') ⟨(hE.sub.r hR).env,fun O o ho=>?_,(hE.sub.r hR).inj,(hE.sub.r hR).used,hR.one,fun id o ho=>?_,(hE.sub.r hR).eI⟩ ⟨Pa _,fun id _ hn=>?_,fun id ho=>.inl (hE.sub.own ho)⟩ (Ext.wZ _ hE.sub.ev) (fun _=>.tr hcan) hk⟩
   ·simp only [je,hl',c5,h1',AH h2.flat,cond_true]
   ·obtain⟨a,ha,hor⟩:=(hE.sub.r hR).heap O o ho;refine⟨a,ha,hor.mono (fun _ _ h=>h) (fun id hi=>?_)⟩;show (drop st.H _).get id=st.H.get id;rw [qq9,if_neg];exact fun hm=>(qxk id hm).2 ⟨O,o,a,ho,ha,hi⟩
   ·have ho':(drop st.H _).get id=some o:=ho;rw [qq9] at ho';split at ho'
    ·cases ho'
    ·exact hR.fresh id o ho'
   ·rw [qq9,if_neg];exact fun hm=>hn (qxk id hm).1
theorem G9 {s io n:Nat} {a:AV} {as:List AV} {t u:TV} {ts:List TV} {o:Nat} {ovs:List (Nat×VV)} (hc:aS A t ovs as ts) (hl:ts.length=s) (hio:io < s) (hov:∀j,bp j ovs=if j=io then some .bP else none) (hp:cN t io 1 (.l [])=some u):VR A (.gl s io [u]) (.b5 as 1 (some 1)):=by
 obtain⟨ts',xs,us,p1,p2,p3,p4,p5,p6,p7⟩:=bM hp;have:=hc.cells.symm.trans p1;cases this;cases p2;have hla:as.length=s:=by rw [←hc.len];exact hl
 refine VR.gl (es:=[u]) (by omega) hio (by simp [hla]) (fun x hx=>?_) (fun j e he=>?_)
 ·obtain⟨q,hq⟩:=List.getElem?_of_mem hx;have hlt:q < ts.length:=by rw [hc.len];exact(Ow.1 hq).1
  have:=hc.at_ q _ x (Ov hlt) hq;rw [hov] at this;split at this
  ·rcases this with rfl|rfl<;>rfl
  ·exact this.2
 ·cases j with
  |succ j=>simp at he
  |zero=>
   simp at he;subst he;refine⟨us,p4,by rw [p5,hl],fun o t z hne ht hz=>?_,?_,fun x hx=>?_⟩
   ·rw [Nat.zero_mul,Nat.zero_add] at hz;rw [p7,if_neg (by omega)] at ht;have:=hc.at_ o t z ht hz;rw [hov,if_neg hne] at this;exact this.1
   ·rw [p7,if_pos (by omega),Nat.sub_self];rfl
   ·rw [Nat.zero_mul,Nat.zero_add] at hx;have hlt:io < ts.length:=by omega
    have:=hc.at_ io _ x (Ov hlt) hx;rw [hov,if_pos rfl] at this;exact this
theorem xL {ρ:aH->AV} {n:Nat} {x:aH} {zero as:List AV} (hc:(ρ x).cells?=some as) (hn:as.length=n) (hz:zero.length=n):fill ρ [(0,n,x)] zero=some as:=by
 rw [jS];simp only [hc,cond_eq_ite,OY,if_pos hn];have:cO zero 0 as=some as:=by rw [fQ,if_pos (by omega),List.take_zero,List.nil_append,Nat.zero_add,List.drop_of_length_le (by omega),List.append_nil]
 rw [this];rfl
theorem CY {sh:Sh} (hR:R A V st) {fz:Bool} {len:Nat} {zero:List AV} {parts:List (Nat×Nat×aH)} {gd:Option (Nat×Bool)} (h:pO sh nt V d none fz len zero parts k) :
  ∃v H' nx',je cf ⟨d,.aQ len zero parts,gd,fz⟩ (ev st.env) st.H st.nx=some (v,H',nx')/\Next nt A V st d v H' nx' k:=by
 unfold pO at h;split at h
 ·exact CX hR h
 rename_i c hcc;simp only at h;split at h;rotate_left
 ·cases h
 rename_i off n x;split at h;rotate_left
 ·cases h
 rename_i hb;simp only [OV,OY] at hb;obtain⟨rfl,rfl,rfl,hz⟩:=hb;obtain⟨w,hw,hk⟩:=bE (g:=none) hR trivial h;have fin:∀{as:List AV},(ev st.env x).cells?=some as->as.length=Bj c->(∀y∈as,AV.flat y=true)->Next nt A V st d (.b5 as 1 (some 1)) st.H st.nx k->∃v H' nx',je cf ⟨d,.aQ 1 zero [(0,Bj c,x)],gd,fz⟩ (ev st.env) st.H st.nx=some (v,H',nx')/\Next nt A V st d v H' nx' k:=by
  intro as h1 h2 h3 h4;have hfl:bx AV.flat as=true:=aJ.2 h3;refine⟨.b5 as 1 (some 1),st.H,st.nx,?_,h4⟩;cases fz with
  |false=>simp only [je,fk,kind,c5,xL h1 h2 hz,hfl,cond_true,cond_false,bO]
  |true=>
   have hpl:(ev st.env x).plain=true:=by
    cases hq:ev st.env x<;>rw [hq] at h1<;>first|(cases h1;done)|rfl|skip
    all_goals (cases h1;first|exact hfl|exact h3 _ ON)
   have him:aN deep st.H (ev st.env x)=some (ev st.env x):=gz hpl 27 _;have qxk:bq deep st.H (ev st.env x)=[]:=lH hpl 27 _;have qz4:(mO st.H (ev st.env) x)=ev st.env x:=qm him;have hf2:fill (mO st.H (ev st.env)) [(0,Bj c,x)] zero=some as:=xL (by rw [qz4];exact h1) h2 hz;have hm:cr (aN deep st.H) [ev st.env x]=some [ev st.env x]:=by rw [bZ,him];rfl
   simp only [je,cond_true,List.map_cons,List.map_nil,hm,c5,hf2,hfl,List.flatMap_cons,List.flatMap_nil,qxk,List.append_nil];rfl
 unfold Hl at hk;split at hk
 ·split at hk;rotate_left
  ·cases hk
  rename_i hb;simp only [OV,OY] at hb;obtain⟨hs1,hi0⟩:=hb;have hw':ev st.env x=.ak\/ev st.env x=.b5 [] 0 (some 0):=by
   generalize ev st.env x=p at hw;cases hw
   ·exact .inl rfl
   ·exact .inr rfl
  have hc1:(ev st.env x).cells?=some [ev st.env x]:=by rcases hw' with e|e<;>rw [e]<;>rfl
  refine fin hc1 (by rw [hs1];rfl) (fun y hy=>by rw [OS] at hy;subst hy;rcases hw' with e|e<;>rw [e]<;>rfl) (ay hR (fun _=>?_) hk);refine VR.gl (es:=[.l []]) (by omega) (by omega) rfl (fun y hy=>by rw [OS] at hy;subst hy;rcases hw' with e|e<;>rw [e]<;>rfl) (fun j e he=>?_);cases j with
  |succ j=>simp at he
  |zero=>
   simp at he;subst he;refine⟨[.l []],rfl,rfl,fun o t z hne ht hz=>?_,rfl,fun y hy=>?_⟩
   ·cases o with
    |zero=>exact absurd rfl hne
    |succ o=>simp at ht
   ·simp at hy;subst hy;exact hw'
 ·rename_i t ovs;split at hk;rotate_left
  ·cases hk
  rename_i o;split at hk;rotate_left
  ·cases hk
  rename_i hb;simp only [OV,OY,O0] at hb;obtain⟨rfl,hio⟩:=hb;obtain⟨hso,u,hp,hk⟩:=hk;generalize he:ev st.env x=p at hw fin;cases hw with
  |@st _ _ cs ts hv hc=>
   obtain⟨l,h1,h2⟩:=jI hso;have:=hc.cells.symm.trans h1;cases this;have hov:∀j,bp j [(E3 c,VV.bP)]=if j=E3 c then some .bP else none:=fun j=>by
    rw [aY];by_cases e:E3 c=j
    ·rw [if_pos e,if_pos e.symm]
    ·rw [if_neg e,if_neg (Ne.symm e)];rfl
   have hla:cs.length=Bj c:=by rw [←hc.len];exact h2
   refine fin rfl hla (fun y hy=>?_) (ay hR (fun _=>G9 (a:=.ak) (o:=0) (n:=0) hc h2 hio hov hp) hk);obtain⟨q,hq⟩:=List.getElem?_of_mem hy;have hlt:q < ts.length:=by rw [hc.len];exact(Ow.1 hq).1
   have:=hc.at_ q _ y (Ov hlt) hq;rw [hov] at this;split at this
   ·rcases this with rfl|rfl<;>rfl
   ·exact this.2
 ·cases hk
theorem EO (hR:R A V st) (ha:act g) {x:aH} (h:dw V g x fun w=>vw nt V d g w k):bJ cf nt A V st d (.iT x) k:=by
 obtain⟨w,hw,hk⟩:=bE hR ha h;generalize he:ev st.env x=p at hw;cases hw with
 |ptr h=>exact aO rfl (by simp only [gM,he]) (ay hR (fun _=>.ptr h) hk)
 |pd h=>exact aO rfl (by simp only [gM,he]) (ay hR (fun _=>.pd h) hk)
 |ea h=>exact aO rfl (by simp only [gM,he]) (ay hR (fun _=>.ea h) hk)
 |pt hl hf h=>exact aO rfl (by simp only [gM,he]) (ay hR (fun _=>.pt hl hf h) hk)
 |_=>cases hk
theorem HS {O i off off' id gg b sz len cap:Nat} {ex:Bool} (h:A O=some (.ref id gg b sz len cap ex)):VR A (.ea O i (off+off')) (.ptr id gg (Nat.add (b+i*sz+off) off')):=by have:=VR.ea (A:=A) (i:=i) (off:=off+off') h;rwa [←Nat.add_assoc] at this
theorem HT {O v i j off off' id gg b sz len cap:Nat} {ex:Bool} (h:A (.i O v i)=some (.ref id gg b sz len cap ex)):VR A (.e2 O v i j (off+off')) (.ptr id gg (Nat.add (b+j*sz+off) off')):=by have:=VR.e2 (A:=A) (k:=j) (off:=off+off') h;rwa [←Nat.add_assoc] at this
theorem FC {v:TV} {cs:List AV} {b off off' n:Nat} (hl:b+n<=cs.length) (hf:∀x∈cs,AV.flat x=true) (h:k9 v ((cs.drop b).take n)):VR A (.pt v (off+off')) (.fj cs (Nat.add (b+off) off')):=by have:=VR.pt (A:=A) (off:=off+off') hl hf h;rwa [←Nat.add_assoc] at this
theorem ER (hR:R A V st) (ha:act g) {off:Nat} {x:aH} (h:dw V g x fun w=>vz nt V d g off w k):bJ cf nt A V st d (.gZ off x) k:=by
 obtain⟨w,hw,hk⟩:=bE hR ha h;generalize he:ev st.env x=p at hw;cases hw with
 |ptr h=>exact aO rfl (by simp only [gb,he];rfl) (ay hR (fun _=>.ptr h) hk)
 |pd h=>exact aO rfl (by simp only [gb,he];rfl) (ay hR (fun _=>.pd h) hk)
 |ea h=>exact aO rfl (by simp only [gb,he]) (ay hR (fun _=>HS h) hk)
 |pt hl hf h=>exact aO rfl (by simp only [gb,he]) (ay hR (fun _=>FC hl hf h) hk)
 |e2 h=>exact aO rfl (by simp only [gb,he]) (ay hR (fun _=>HT h) hk)
 |_=>cases hk
theorem IX (hR:R A V st) (ha:act g) {off:Nat} {sz:Option Nat} {x:aH} (h:dw V g x fun w=>xN nt V d g off sz w k):bJ cf nt A V st d (.Bm off sz x) k:=by
 obtain⟨w,hw,hk⟩:=bE hR ha h;generalize he:ev st.env x=p at hw;have fin:∀{cs l:List AV} {v:AV},ev st.env x=.agg cs->cut cs off (bW sz)=some l->z6 sz l=some v->Next nt A V st d v st.H st.nx k->bJ cf nt A V st d (.Bm off sz x) k:=
  fun h1 h2 h3 h4=>aO rfl (by simp only [wS,h1,h2,h3,dG]) h4
 cases hw with
 |@tr v _ hc=>
  obtain⟨r,h1,h2⟩:=aR hR ha hk;unfold Jm at h1;split at h1
  ·rename_i cs;cases hc with
   |a ts as hl hf hh=>obtain⟨l,y,h3,h4,h5⟩:=nw (cs:=as) rfl ⟨⟨hl,hh⟩,hf⟩ h1;exact fin he h3 h4 (h2 _ h5)
  ·cases h1
 |@st v ovs cs ts hv hc=>
  simp only [xN] at hk;split at hk
  ·split at hk
   ·rename_i w hw;have hlt:=hc.keys _ _ hw;have hx:cs[off]?=some (cs[off]'(by rw [←hc.len];exact hlt)):=Ov _;have hs:=hc.at_ off _ _ (Ov hlt) hx;rw [hw] at hs;refine fin he (kX hx) rfl (ay hR (fun _=>?_) hk);cases w<;>first|(exact absurd hs (by intro hh;exact hh))|skip
    ·rcases hs with e|e
     ·rw [e];exact .bP
     ·rw [e];exact .jP
    ·exact .sl hs
    ·exact .ow hs
   ·rename_i ho;obtain⟨r,h1,h2⟩:=aR hR ha hk;obtain⟨y,h3,h4,_⟩:=nU hc h1 ho;exact fin he h3 rfl (h2 _ h4)
  ·rename_i n;split at hk
   ·rename_i ho;obtain⟨r,h1,h2⟩:=aR hR ha hk;obtain⟨l,ls,h3,h4,h5⟩:=gE hc h1;rw [ho] at h5;exact fin he h3 rfl (h2 _ (qw h5 h4))
   ·rename_i p r ho;split at hk
    ·obtain⟨u,h1,h2⟩:=hk;obtain⟨l,ls,h3,h4,h5⟩:=gE hc h1;rw [ho] at h5;exact fin he h3 rfl (ay hR (fun _=>.st h4 h5) h2)
    ·cases hk
 |_=>cases hk
theorem kJ {i:TV} {n m:Nat} {a:AV} (h:BI i n=some m) (hc:Can i a):∃k z,a=.int k z/\EZ z n=some m/\m < n:=by
 unfold BI at h;split at h
 ·rename_i k z;cases hc;exact⟨k,z,rfl,h,(nF h).2⟩
 ·cases h
theorem EP (hR:R A V st) (ha:act g) {es:Nat} {x i:aH} (h:dw V g x fun w=>iu V g i fun i=>Ay nt V d g es w i k):bJ cf nt A V st d (.bQ es x i) k:=by
 obtain⟨w,hw,hk⟩:=bE hR ha h;obtain⟨iv,hi,hk⟩:=bN hR ha hk;obtain⟨hz,hk⟩:=cV hk;generalize he:ev st.env x=p at hw;cases hw with
 |@tr v _ hc=>
  obtain⟨e,⟨h1,h2⟩,h3⟩:=qV ha hk;unfold dH at h1;split at h1
  ·rename_i es';split at h1
   ·rename_i m hm;obtain⟨ki,zi,g1,g2,g3⟩:=kJ hm hi;cases hc with
    |nil=>simp at g3
    |b5 _ cs n sz c hn hcl hsz hf hh=>
     subst hn;have hE:=hh m e h1;obtain⟨l,hl1,hl2⟩:=jI h2;obtain⟨ts,ht1,ht2⟩:=dJ.1 hE;rw [hl1] at ht1;cases ht1;have hmn:=bL (z:=sz) g3;have qz1:((cs.drop (m*sz)).take sz).length=sz:=by simp only [OI,OJ];omega
     have qz0:sz=es:=by rw [←hl2,ht2.1,qz1]
     subst qz0;refine aO (v:=.fj cs (m*sz)) rfl ?_ (ay hR (fun _=>?_) h3)
     ·simp only [gN,g1,he,g2];cases cs with
      |nil=>simp at hcl;omega
      |cons _ _=>rfl
     ·exact VR.pt (b:=m*sz) (off:=0) (n:=sz) (by omega) hf hE
   ·cases h1
  ·cases h1
 |@sl O _ hO=>
  dsimp only at hk;split at hk
  ·rename_i z es' ho;obtain⟨rfl,hk2⟩:=aU hk;obtain⟨m,h1,h2⟩:=jj ha hk2;obtain⟨ki,zi,g1,g2,g3⟩:=kJ h1 hi;obtain⟨y,hy,hs⟩:=hR.heap O _ ho;rw [hO] at hy;cases hy;obtain⟨_,hs⟩:=hs;rcases hs with ⟨e,_⟩|⟨id,gg,b,cells,e,hH,hb,hE⟩
   ·subst e;simp at g3
   ·subst e;exact aO (v:=.ptr id gg (b+m*z)) rfl (by simp only [gN,g1,he,g2,cond_eq_ite,OY,if_pos];rfl) (ay hR (fun _=>VR.ea (off:=0) hO) h2)
  ·rename_i K s io iz ver hole es' ho;obtain⟨rfl,hk2⟩:=aU hk;obtain⟨m,h1,h2⟩:=jj ha hk2;obtain⟨ki,zi,g1,g2,g3⟩:=kJ h1 hi;obtain⟨y,hy,hs⟩:=hR.heap O _ ho;rw [hO] at hy;cases hy;obtain⟨_,_,_,hs⟩:=hs;rcases hs with ⟨e,_⟩|⟨id,gg,b,cells,e,hH,hb,hE⟩
   ·subst e;simp at g3
   ·subst e;exact aO (v:=.ptr id gg (b+m*s)) rfl (by simp only [gN,g1,he,g2,cond_eq_ite,OY,if_pos];rfl) (ay hR (fun _=>VR.ea (off:=0) hO) h2)
  ·cases hk
 |@ow O v j _ hA=>
  obtain⟨s,io,iz,es',ho,hk⟩:=ct hk;obtain⟨rfl,hk2⟩:=aU hk;obtain⟨m,h1,h2⟩:=jj ha hk2;unfold MS at h1;split at h1;rotate_left
  ·cases h1
  rename_i l hl;obtain⟨ki,zi,g1,g2,g3⟩:=kJ h1 hi;obtain⟨y,hy,hs⟩:=hR.heap O _ ho;have hsl:=oI hs hl (by simp) hA;rcases hsl.2 with ⟨e,_⟩|⟨id,gg,b,cells,e,hH,hb,hE⟩
  ·subst e;simp at g3
  ·subst e;exact aO (v:=.ptr id gg (b+m*iz)) rfl (by simp only [gN,g1,he,g2,cond_eq_ite,OY,if_pos];rfl) (ay hR (fun _=>VR.e2 (off:=0) hA) h2)
 |_=>cases hk
theorem GD (hR:R A V st) (ha:act g) {len es:Nat} {x i:aH} (h:dw V g x fun w=>iu V g i fun i=>zl nt V d g len es w i k):bJ cf nt A V st d (.kM len es x i) k:=by
 obtain⟨w,hw,hk⟩:=bE hR ha h;obtain⟨iv,hi,hk⟩:=bN hR ha hk;generalize he:ev st.env x=p at hw;have fin:∀{m:Nat} {v:AV},BI iv len=some m->(∀ki zi,ev st.env i=.int ki zi->EZ zi len=some m->ku (ev st.env) len es x i=some (.val v))->Next nt A V st d v st.H st.nx k->bJ cf nt A V st d (.kM len es x i) k:=by intro m v h1 h2 h3;obtain⟨ki,zi,g1,g2,g3⟩:=kJ h1 hi;exact aO rfl (h2 ki zi g1 g2) h3
 cases hw with
 |@ptr O off id hO=>obtain⟨m,h1,h2⟩:=jj ha hk;exact fin h1 (fun ki zi g1 g2=>by simp only [ku,g1,g2,he];rfl) (ay hR (fun _=>VR.pd hO) h2)
 |@pd O off id hO=>obtain⟨m,h1,h2⟩:=jj ha hk;exact fin h1 (fun ki zi g1 g2=>by simp only [ku,g1,g2,he];rfl) (ay hR (fun _=>VR.pd hO) h2)
 |@pt v cs b off n hl hf hcc=>obtain⟨m,h1,h2⟩:=jj ha hk;exact fin h1 (fun ki zi g1 g2=>by simp only [ku,g1,g2,he];rfl) (ay hR (fun _=>FC hl hf hcc) h2)
 |_=>cases hk
end
end Go.Ax.V
namespace Go.Ax.V
section
variable {prog:Map aq} {cf:eF} {nt:Nat} {A:aX} {V:aF} {st:St} {d:Option Nat} {g:G} {k:aF->Prop}
theorem uX {sz z:Nat} {es:List TV} {cs:List AV} {n:Nat} (h:Er sz es) (hn:es.length=n) (hc:cs.length=n*z) (hh:∀(j:Nat) (e:TV),es[j]?=some e->k9 e ((cs.drop (j*z)).take z)):es=[]\/sz=z:=by
 cases es with
 |nil=>exact .inl rfl
 |cons e r=>
  right;obtain⟨l,hl1,hl2⟩:=jI h;obtain⟨ts,ht1,ht2⟩:=dJ.1 (hh 0 e rfl);rw [hl1] at ht1;cases ht1;rw [←hl2,ht2.1];have:z<=cs.length:=by rw [hc,←hn,OL,Nat.add_mul,Nat.one_mul];omega
  simp only [OI,OJ];omega
structure HB (H:av) (sz:Nat) (xs:List TV) (a:AV) (src:Src) (l:List AV):Prop where
 eq:cQ sz a=some (xs.length,src)
 get:cK H src.q=some l
 el:vW sz xs (src.cs l)
theorem oR (sz:Nat):vW sz [] []:=⟨by simp,fun x hx=>by simp at hx,fun j e h=>by simp at h⟩
theorem Gd {H:av} {sz:Nat} {es:List TV} {a:AV} (h:qb H sz es a):∃src l,HB H sz es a src l:=by
 obtain⟨hz,h⟩:=h;rcases h with ⟨rfl,rfl|rfl⟩|⟨id,g,b,cells,rfl,hH,hb,he⟩
 ·exact⟨.list [],[],rfl,rfl,oR sz⟩
 ·exact⟨.list [],[],by simp [cQ],rfl,oR sz⟩
 ·have hl:=he.len;rw [OJ] at hl;refine⟨.qf ⟨id,g,b,es.length*sz⟩,cells.drop b,by simp [cQ],?_,he⟩;simp only [Src.q,cK,hH,cond_eq_ite,OY,if_pos];rw [cI,if_pos (by omega),O7 (by rw [OJ];omega)]
theorem wj (hR:R A V st) {sz:Nat} (hz:0 < sz) {w:VV} {a:AV} (hw:VR A w a) {k:List TV->Prop} (hk:yw V sz w k):∃xs src l,HB st.H sz xs a src l/\k xs:=by
 cases hw with
 |@tr v _ hc=>
  obtain⟨xs,h1,h2,h3⟩:=hk;cases v<;>first|(cases h1;done)|skip
  cases h1;cases hc with
  |nil=>exact⟨[],.list [],[],⟨rfl,rfl,oR sz⟩,h3⟩
  |b5 _ cs n z c hn hcl hsz hf hh=>
   refine⟨xs,.list cs,[],?_,h3⟩;rcases uX h2 hn hcl hh with rfl|rfl
   ·simp at hn;subst hn;have:cs=[]:=O6.1 (by omega);subst this;exact⟨by simp [cQ],rfl,oR sz⟩
   ·exact⟨by simp [cQ,hn,hcl],rfl,⟨by show cs.length=_;rw [hcl,hn],hf,hh⟩⟩
 |bP=>exact⟨[],.list [],[],⟨rfl,rfl,oR sz⟩,hk⟩
 |jP=>exact⟨[],.list [],[],⟨by simp [cQ],rfl,oR sz⟩,hk⟩
 |@sl O _ hO=>
  simp only [yw] at hk;split at hk
  ·rename_i z es ho;obtain⟨rfl,hk2⟩:=aU hk;obtain⟨y,hy,hs⟩:=hR.heap O _ ho;rw [hO] at hy;cases hy;obtain⟨src,l,h⟩:=Gd hs;exact⟨es,src,l,h,hk2⟩
  ·cases hk
 |_=>cases hk
theorem uN {bytes:Nat} {es xs l:List TV} (h:oY bytes es xs=some l):l=es++xs/\(es.length+xs.length)*bytes<=most/\es.length+xs.length<=most:=by
 unfold oY at h;rw [cond_eq_ite] at h;split at h
 ·rename_i hh;rw [OV,OZ,OZ] at hh;cases h;exact⟨rfl,hh.1,hh.2⟩
 ·cases h
theorem n4 (hR:R A V st) {V1:aF} (hR1:R A V1 st) (qxg:∀id,b6 V1 A id->b6 V A id) (hev:iE V V1) {sz bytes:Nat} {es xs l:List TV} {s x:AV} {src:Src} {lc:List AV} (hsl:qb st.H sz es s) (hone:s.one=true) (hown:∀id,bV s=some id->¬b6 V1 A id/\b6 V A id)
  (hx:HB st.H sz xs x src lc) (qjj:oY bytes es xs=some l) {so xo:aH} (e1:ev st.env so=s) (e2:ev st.env xo=x) (hk:gh nt V1 d g .sl (.gr sz l) k):bJ cf nt A V st d (.app sz bytes so xo) k:=by
 obtain⟨rfl,hb1,hb2⟩:=uN qjj;have hz:=hsl.1;have qxc:kind (.app sz bytes so xo)=.plan fun ρ=>lW sz bytes (ρ so) (ρ xo):=rfl
 by_cases hm:xs=[]
 ·subst hm;refine aO (v:=s) qxc ?_ (mJ (a:=s) (nx':=st.nx) hR1 qxg hk (Pa _) hR.fresh (fun _ _=>rfl) (fun _ _ _=>rfl) (fun A' _=>by rw [List.append_nil];exact hsl) hone (fun id hi=>⟨(hown id hi).1,.inl (hown id hi).2⟩) (fun A' O hO=>.sl hO) rfl hev);have qzo:vo s=true:=by rcases hsl.2 with ⟨_,rfl|rfl⟩|⟨id,g,b,cells,rfl,_⟩<;>rfl
  simp only [lW,e1,e2,hx.eq,List.length_nil,cond_eq_ite,OY,if_pos,qzo]
 ·have hm0:xs.length≠0:=fun h=>hm (O6.1 h)
  obtain⟨hz,hsl⟩:=hsl;have fresh:∀(n:Nat),n=(es++xs).length->∀cells,vW sz (es++xs) cells->Next nt A V st d (.ref st.nx 0 0 sz n n false) (st.H.put (some (.row 0 cells)) st.nx) (st.nx+1) k:=by
   intro n hn cells hE;subst hn;obtain⟨e',p1,V2,A2,p2,p3,p4⟩:=gX (A:=A) (V:=V1) (st:=st) (a:=.ref st.nx 0 0 sz (es++xs).length (es++xs).length false) (v:=.ref st.nx 0 0 sz (es++xs).length (es++xs).length false) (ob:=.row 0 cells) hR1 hk
    (fun A' hA=>⟨hz,.inr ⟨_,_,_,cells,rfl,by rw [Map.au,if_pos rfl],O_ _,hE⟩⟩) rfl rfl (fun A' O hO=>.sl hO)
   exact⟨e',p1,V2,A2,p2,⟨p3.le,fun id hid hn=>p3.same id hid (fun ho=>hn (qxg _ ho)),fun id ho=>(p3.own id ho).imp (qxg _) (fun x=>x)⟩,(Ext.wZ A hev).trans p4.1,p4.2⟩
  rcases hsl with ⟨rfl,rfl|rfl⟩|⟨id,gg,b,cells,rfl,hH,hb,hE⟩
  ·refine⟨_,_,_,?_,fresh xs.length (by simp) (src.cs lc) (by simpa using hx.el)⟩;simp only [List.length_nil,Nat.zero_add] at hb1 hb2;simp only [fk,qxc,lW,e1,e2,hx.eq,cond_eq_ite,OY,if_neg hm0,OV,OZ];rw [if_pos ⟨hb1,hb2⟩];simp only [bO,dO,hx.get,fI,od]
  ·refine⟨_,_,_,?_,fresh (0+xs.length) (by simp) (src.cs lc) (by simpa using hx.el)⟩;simp only [List.length_nil] at hb1 hb2;simp only [fk,qxc,lW,e1,e2,hx.eq,cond_eq_ite,OY,if_neg hm0,OV,OZ,O0];rw [if_pos ⟨⟨⟨by show 0 < 0+xs.length;omega,by simp⟩,hb1⟩,hb2⟩];simp only [bO,dO,hx.get,fI,od,List.nil_append];rfl
  ·have hl:=hE.len;rw [OJ] at hl;obtain⟨hn1,hn2⟩:=hown id rfl;have hE2:=uE hE hx.el;refine⟨.ref id (gg+1) 0 sz (es.length+xs.length) (es.length+xs.length) false,st.H.put (some (.row (gg+1) (cells.drop b++src.cs lc))) id,st.nx,?_,
    mJ (a:=.ref id (gg+1) 0 sz (es.length+xs.length) (es.length+xs.length) false) hR1 qxg hk (Pa _) (fun i o hh=>?_) (fun i ho=>?_) (fun i _ hn=>?_) (fun A' _=>⟨hz,.inr ⟨id,gg+1,0,_,by rw [OH],by rw [Map.au,if_pos rfl],O_ _,hE2⟩⟩) rfl (fun i hi=>?_) (fun A' O hO=>.sl hO) rfl hev⟩
   ·simp only [fk,qxc,lW,e1,e2,hx.eq,cond_eq_ite,OY,if_neg hm0,OV,OZ,if_pos];rw [if_pos ⟨⟨trivial,hb1⟩,hb2⟩];simp only [sQ,cond_eq_ite,OZ];rw [if_neg (by show ¬(es.length+xs.length<=es.length);omega),if_neg (by decide)];simp only [bO,dO,hx.get,fI,hH,oh,cond_eq_ite,OY,if_pos];rw [if_pos (by show b+es.length*sz=cells.length;omega)];simp only [od];rfl
   ·rw [Map.au] at hh;split at hh
    ·rename_i e;subst e;exact hR.ff hn2
    ·exact hR.fresh i o hh
   ·rw [Map.au,if_neg];rintro rfl;exact hn1 ho
   ·rw [Map.au,if_neg];rintro rfl;exact hn hn2
   ·cases hi;exact⟨hn1,.inl hn2⟩
theorem G5 (hR:R A V st) {O s io iz v i:Nat} {es:List TV} {x:AV} (ho:V.H.get O=some (.gn O s io iz v none es)) (hx:A (.i O v i)=some x) :
  R A (bh V O (.gn O s io iz v (some i) es)) st/\(∀id,b6 (bh V O (.gn O s io iz v (some i) es)) A id->b6 V A id)/\∀id,bV x=some id->¬b6 (bh V O (.gn O s io iz v (some i) es)) A id:=by
 obtain⟨a,hA,hs⟩:=hR.heap O _ ho;obtain⟨_,hv1,hv0,hv2,hv3⟩:=hR.eI O _ _ ho hA;have ids:∀id,cY A (.gn O s io iz v (some i) es) a id->cY A (.gn O s io iz v none es) a id:=by
  rintro id (h|⟨j,y,h1,h2,h3⟩)
  ·exact .inl h
  ·exact .inr ⟨j,y,by simp,h2,h3⟩
 have get':∀(O':Nat) o',(bh V O (.gn O s io iz v (some i) es)).H.get O'=some o'->(O'=O/\o'=.gn O s io iz v (some i) es)\/(O'≠O/\V.H.get O'=some o'):=fun O' o' h=>by
  simp only [bh,Map.au] at h;split at h
  ·rename_i e;cases h;exact .inl ⟨e,rfl⟩
  ·rename_i e;exact .inr ⟨e,h⟩
 have up:∀{O':Nat} {o':VO} {y:AV} {id:Nat},(bh V O (.gn O s io iz v (some i) es)).H.get O'=some o'->A O'=some y->cY A o' y id->∃o2,V.H.get O'=some o2/\cY A o2 y id:=fun {O' o' y id} h hy hi=>by
  rcases get' O' o' h with ⟨rfl,rfl⟩|⟨_,h⟩
  ·rw [hA] at hy;cases hy;exact⟨_,ho,ids id hi⟩
  ·exact⟨o',h,hi⟩
 refine⟨⟨hR.env,fun O' o' h=>?_,fun O1 O2 o1 o2 a1 a2 id h1 h2 r1 r2 i1 i2=>?_,hR.used,hR.one,hR.fresh,fun O' o' y h hy=>?_⟩,fun id ⟨O',o',y,h1,h2,h3⟩=>?_,fun id hi ⟨O',o',y,h1,h2,h3⟩=>?_⟩
 ·rcases get' O' o' h with ⟨rfl,rfl⟩|⟨_,h⟩
  ·refine⟨a,hA,hs.1,hs.2.1,hs.2.2.1,hs.2.2.2.imp (fun h=>h) ?_⟩;rintro⟨id,g,b,cells,rfl,h5,h6,h7⟩;refine⟨id,g,b,cells,rfl,h5,h6,h7.len,fun j e he=>?_⟩;obtain⟨ts,g1,g2,g3,x',g4,g5,g6⟩:=h7.el j e he;exact⟨ts,g1,g2,g3,x',g4,g5,fun _=>g6 (by simp)⟩
  ·exact hR.heap O' o' h
 ·obtain⟨p1,q1,q2⟩:=up h1 r1 i1;obtain⟨p2,q3,q4⟩:=up h2 r2 i2;exact hR.inj O1 O2 _ _ a1 a2 id q1 q3 r1 r2 q2 q4
 ·rcases get' O' o' h with ⟨rfl,rfl⟩|⟨_,h⟩
  ·have hy':A O'=some y:=hy;rw [hA] at hy';cases hy';exact⟨rfl,hv1,hv0,fun j j' x x' id _ _=>hv2 j j' x x' id (by simp) (by simp),fun j x id _=>hv3 j x id (by simp)⟩
  ·exact hR.eI O' o' y h hy
 ·obtain⟨p,q1,q2⟩:=up h1 h2 h3;exact⟨O',p,y,q1,h2,q2⟩
 ·have hin:cY A (.gn O s io iz v none es) a id:=.inr ⟨i,x,by simp,hx,hi⟩;rcases get' O' o' h1 with ⟨rfl,rfl⟩|⟨hne,h⟩
  ·have h2':A O'=some y:=h2;rw [hA] at h2';cases h2';rcases h3 with h3|⟨j,z,k1,k2,k3⟩
   ·exact hv3 i x id (by simp) hx hi h3
   ·exact k1 (by rw [hv2 j i z x id (by simp) (by simp) k2 hx k3 hi])
  ·exact hne (hR.inj O' O _ _ _ _ id h ho h2 hA h3 hin)
structure Cg (H:av) (s io iz:Nat) (es:List TV) (cs:List AV) (inn:Nat->Option AV):Prop where
 len:cs.length=es.length*s
 el:∀(j:Nat) (e:TV),es[j]?=some e->∃ts,bF e=some ts/\ts.length=s/\(∀(o:Nat) t x,o≠io->ts[o]?=some t->cs[j*s+o]?=some x->Can t x/\x.flat=true)/\
  ∃x,cs[j*s+io]?=some x/\inn j=some x/\∃l,ts[io]?=some (.l l)/\qb H iz l x
 fin:∀j x,inn j=some x->j < es.length/\x.one=true
theorem Cg.gn {H:av} {s io iz:Nat} {es:List TV} {cs:List AV} {inn:Nat->Option AV} (h:Cg H s io iz es cs inn) {A':aX} {K:Nat} (hA:∀j,A' (.i K 0 j)=inn j):BN A' H K s io iz 0 none es cs:=
 ⟨h.len,fun j e he=>let ⟨ts,g1,g2,g3,x,g4,g5,g6⟩:=h.el j e he;⟨ts,g1,g2,g3,x,g4,by rw [hA];exact g5,fun _=>g6⟩⟩
theorem Cg.append {H:av} {s io iz:Nat} {es xs:List TV} {cs ds:List AV} {i1 i2:Nat->Option AV} (hs:io < s) (h:Cg H s io iz es cs i1) (h':Cg H s io iz xs ds i2):Cg H s io iz (es++xs) (cs++ds) (fun j=>if j < es.length then i1 j else i2 (j - es.length)):=by
 refine⟨by rw [OH,OH,h.len,h'.len,Nat.add_mul],fun j e hj=>?_,fun j x hj=>?_⟩
 ·by_cases hlt:j < es.length
  ·rw [Ox hlt] at hj;have h9:=bL (z:=s) hlt;obtain⟨ts,g1,g2,g3,x,g4,g5,g6⟩:=h.el j e hj;have ap:∀o,o < s->(cs++ds)[j*s+o]?=cs[j*s+o]?:=fun o ho=>Ox (by rw [h.len];omega)
   exact⟨ts,g1,g2,fun o t y hne ht hy=>g3 o t y hne ht (by rw [←ap o (by rw [←g2];exact(Ow.1 ht).1)];exact hy),x,by rw [ap io hs];exact g4,by simp only [if_pos hlt];exact g5,g6⟩
  ·rw [Oy (by omega)] at hj;have e1:j*s=cs.length+(j - es.length)*s:=by rw [h.len,←Nat.add_mul];congr 1;omega
   obtain⟨ts,g1,g2,g3,x,g4,g5,g6⟩:=h'.el _ e hj;have ap:∀o,(cs++ds)[j*s+o]?=ds[(j - es.length)*s+o]?:=fun o=>by rw [Oy (by omega)];congr 1;omega
   exact⟨ts,g1,g2,fun o t y hne ht hy=>g3 o t y hne ht (by rw [←ap o];exact hy),x,by rw [ap io];exact g4,by simp only [if_neg hlt];exact g5,g6⟩
 ·replace hj:(if j < es.length then i1 j else i2 (j - es.length))=some x:=hj;split at hj
  ·rename_i hlt;obtain⟨p,q⟩:=h.fin j x hj;exact⟨by rw [OH];omega,q⟩
  ·rename_i hlt;obtain⟨p,q⟩:=h'.fin _ x hj;exact⟨by rw [OH];omega,q⟩
theorem Cg.mono {H H':av} {s io iz:Nat} {es:List TV} {cs:List AV} {inn:Nat->Option AV} (h:Cg H s io iz es cs inn) (hH:∀j x id,inn j=some x->bV x=some id->H'.get id=H.get id):Cg H' s io iz es cs inn:=
 ⟨h.len,fun j e he=>let ⟨ts,g1,g2,g3,x,g4,g5,l,g6,g7⟩:=h.el j e he;⟨ts,g1,g2,g3,x,g4,g5,l,g6,qb.mono (fun id hi=>hH j x id g5 hi) g7⟩,h.fin⟩
theorem Jk {H:av} {s io iz:Nat} {es:List TV} {cs:List AV} (hiz:0 < iz) (hio:io < s) (hl:cs.length=es.length*s) (hf:∀x∈cs,AV.flat x=true)
  (h:∀(j:Nat) (e:TV),es[j]?=some e->∃ts,bF e=some ts/\ts.length=s/\(∀(o:Nat) t x,o≠io->ts[o]?=some t->cs[j*s+o]?=some x->Can t x)/\
   ts[io]?=some (.l [])/\∀x,cs[j*s+io]?=some x->x=.ak\/x=.b5 [] 0 (some 0)) :
  Cg H s io iz es cs (fun j=>if j < es.length then cs[j*s+io]? else none)/\∀j x,(if j < es.length then cs[j*s+io]? else none)=some x->bV x=none:=by
 have nil:∀j x,j < es.length->cs[j*s+io]?=some x->x=.ak\/x=.b5 [] 0 (some 0):=fun j x hj hx=>by obtain⟨ts,g1,g2,g3,g4,g5⟩:=h j _ (Ov hj);exact g5 x hx
 refine⟨⟨hl,fun j e he=>?_,fun j x hj=>?_⟩,fun j x hj=>?_⟩
 ·obtain⟨ts,g1,g2,g3,g4,g5⟩:=h j e he;have hlt:=(Ow.1 he).1;have h9:=bL (z:=s) hlt;have hx:cs[j*s+io]?=some (cs[j*s+io]'(by omega)):=Ov _;exact⟨ts,g1,g2,fun o t y hne ht hy=>⟨g3 o t y hne ht hy,hf y (OD hy)⟩,_,hx,by simp only [if_pos hlt];exact hx,[],g4,hiz,.inl ⟨rfl,g5 _ hx⟩⟩
 ·split at hj
  ·rename_i hlt;exact⟨hlt,by rcases nil j x hlt hj with rfl|rfl<;>rfl⟩
  ·cases hj
 ·split at hj
  ·rename_i hlt;rcases nil j x hlt hj with rfl|rfl<;>rfl
  ·cases hj
theorem FE {A:aX} {s io:Nat} {xs:List TV} {a:AV} (h:VR A (.gl s io xs) a):0 < s/\io < s/\∃cs,a=.b5 cs xs.length (some xs.length)/\cs.length=xs.length*s/\(∀x∈cs,AV.flat x=true)/\
  (∀(j:Nat) (e:TV),xs[j]?=some e->∃ts,bF e=some ts/\ts.length=s/\(∀(o:Nat) t x,o≠io->ts[o]?=some t->cs[j*s+o]?=some x->Can t x)/\
   ts[io]?=some (.l [])/\∀x,cs[j*s+io]?=some x->x=.ak\/x=.b5 [] 0 (some 0)):=by
 cases h with
 |gl h1 h2 h3 h4 h5=>exact⟨h1,h2,_,rfl,h3,h4,h5⟩
theorem G8 {A':aX} {H':av} {K s io iz:Nat} {l:List TV} {a:AV} {inn:Nat->Option AV} (q1:0 < s) (q2:io < s) (q3:0 < iz) (hA:∀j,A' (.i K 0 j)=inn j) (hv:∀v j,0 < v->A' (.i K v j)=none)
  (hc:(l=[]/\(a=.ak\/a=.b5 [] 0 (some 0))/\∀j,inn j=none)\/∃id g b cells,a=.ref id g b s l.length l.length false/\H'.get id=some (.row g cells)/\b<=cells.length/\Cg H' s io iz l (cells.drop b) inn)
  (hd:∀j j' x x' id,inn j=some x->inn j'=some x'->bV x=some id->bV x'=some id->j=j') (ho:∀j x id,inn j=some x->bV x=some id->bV a≠some id) :
  OR A' H' (.gn K s io iz 0 none l) a/\fY A' K a (.gn K s io iz 0 none l)/\∀id,cY A' (.gn K s io iz 0 none l) a id->bV a=some id\/∃j x,inn j=some x/\bV x=some id:=by
 refine⟨⟨q1,q2,q3,?_⟩,⟨rfl,hv,fun j x hj=>?_,fun j j' x x' id _ _ h1 h2=>?_,fun j x id _ h1=>?_⟩,fun id hi=>?_⟩
 ·rcases hc with ⟨h1,h2,_⟩|⟨id,g,b,cells,h1,h2,h3,h4⟩
  ·exact .inl ⟨h1,h2⟩
  ·exact .inr ⟨id,g,b,cells,h1,h2,h3,h4.gn hA⟩
 ·rw [hA] at hj;rcases hc with ⟨_,_,h3⟩|⟨id,g,b,cells,h1,h2,h3,h4⟩
  ·rw [h3] at hj;cases hj
  ·exact(h4.fin j x hj).1
 ·rw [hA] at h1 h2;exact hd j j' x x' id h1 h2
 ·rw [hA] at h1;exact ho j x id h1
 ·rcases hi with hi|⟨j,x,_,h2,h3⟩
  ·exact .inl hi
  ·rw [hA] at h2;exact .inr ⟨j,x,h2,h3⟩
theorem DW (hR:R A V st) {V1:aF} (hR1:R A V1 st) (qxg:∀id,b6 V1 A id->b6 V A id) (hev:iE V V1) {s io iz bytes dd:Nat} {es xs l:List TV} {sv:AV} {qxA:Nat->Option AV} {so xo:aH} (q2:io < s) (q3:0 < iz)
  (hD:(es=[]/\(sv=.ak\/sv=.b5 [] 0 (some 0))/\∀j,qxA j=none)\/∃id g b cells,sv=.ref id g b s es.length es.length false/\st.H.get id=some (.row g cells)/\b<=cells.length/\Cg st.H s io iz es (cells.drop b) qxA) (hone:sv.one=true)
  (hi1:∀id,bV sv=some id->¬b6 V1 A id/\b6 V A id) (hi2:∀j x id,qxA j=some x->bV x=some id->¬b6 V1 A id/\b6 V A id)
  (hd:∀j j' x x' id,qxA j=some x->qxA j'=some x'->bV x=some id->bV x'=some id->j=j') (ho:∀j x id,qxA j=some x->bV x=some id->bV sv≠some id)
  (e1:ev st.env so=sv) (hx:VR A (.gl s io xs) (ev st.env xo)) (qjj:oY bytes es xs=some l) (hk:gh nt V1 (some dd) g .sl (.gn dd s io iz 0 none l) k):bJ cf nt A V st (some dd) (.app s bytes so xo) k:=by
 obtain⟨rfl,hb1,hb2⟩:=uN qjj;obtain⟨q1,_,cs,e2,hcl,hcf,hel⟩:=FE hx;obtain⟨hcg,hcn⟩:=Jk (H:=st.H) (iz:=iz) q3 q2 hcl hcf hel;generalize hix:(fun j=>if j < xs.length then cs[j*s+io]? else none)=innx at hcg;have qzL:∀j x,innx j=some x->bV x=none:=fun j x h=>hcn j x (by rw [←hix] at h;exact h)
 have qxc:kind (.app s bytes so xo)=.plan fun ρ=>lW s bytes (ρ so) (ρ xo):=rfl
 have hsrc:cQ s (.b5 cs xs.length (some xs.length))=some (xs.length,.list cs):=by simp only [cQ,cond_eq_ite,OY];rw [if_pos (by show xs.length*s=cs.length;omega)]
 have mk:∀{a:AV} {H':av} {nx':Nat} (inn:Nat->Option AV),(∀j x,inn j=some x->x.one=true)->st.nx<=nx'->(∀id ob,H'.get id=some ob->id < nx')->(∀id,b6 V1 A id->H'.get id=st.H.get id)->(∀id,id < st.nx->¬b6 V A id->H'.get id=st.H.get id)->
   a.one=true->((es++xs=[]/\(a=.ak\/a=.b5 [] 0 (some 0))/\∀j,inn j=none)\/∃id g b cells,a=.ref id g b s (es++xs).length (es++xs).length false/\H'.get id=some (.row g cells)/\b<=cells.length/\Cg H' s io iz (es++xs) (cells.drop b) inn)->
   (∀j j' x x' id,inn j=some x->inn j'=some x'->bV x=some id->bV x'=some id->j=j')->(∀j x id,inn j=some x->bV x=some id->bV a≠some id)->
   (∀id,bV a=some id->¬b6 V1 A id/\(b6 V A id\/st.nx<=id))->(∀j x id,inn j=some x->bV x=some id->¬b6 V1 A id/\b6 V A id)->Next nt A V st (some dd) a H' nx' k:=by
  intro a H' nx' inn r1 r2 r3 r4 r5 r6 r7 r8 r9 r10 r11;refine tU (inn:=inn) hR1 qxg hk r2 r3 r4 r5 r1 (fun A' d' hd' hm h0 h1=>?_) r6 (fun A' O hO=>.sl hO) hev;cases hd';obtain⟨t1,t2,t3⟩:=G8 q1 q2 q3 h0 h1 r7 r8 r9;refine⟨t1,t2,fun id hi=>?_⟩;rcases t3 id hi with h|⟨j,x,h2,h3⟩
  ·exact r10 id h
  ·exact⟨(r11 j x id h2 h3).1,.inl (r11 j x id h2 h3).2⟩
 by_cases hm:xs=[]
 ·subst hm;have qzo:vo sv=true:=by rcases hD with ⟨_,rfl|rfl,_⟩|⟨id,g,b,cells,rfl,_⟩<;>rfl
  refine aO (v:=sv) qxc ?_ (mk qxA (fun j x h=>?_) (Pa _) hR.fresh (fun _ _=>rfl) (fun _ _ _=>rfl) hone ?_ hd ho (fun id hi=>⟨(hi1 id hi).1,.inl (hi1 id hi).2⟩) hi2)
  ·simp only [List.length_nil] at hsrc e2;simp only [lW,e1,e2,hsrc,cond_eq_ite,OY,if_pos,qzo]
  ·rcases hD with ⟨_,_,h3⟩|⟨id,g,b,cells,_,_,_,h4⟩
   ·rw [h3] at h;cases h
   ·exact(h4.fin j x h).2
  ·rw [List.append_nil];exact hD
 ·have hm0:xs.length≠0:=fun h=>hm (O6.1 h)
  have fresh:∀(n:Nat),n=(es++xs).length->es=[]->Next nt A V st (some dd) (.ref st.nx 0 0 s n n false) (st.H.put (some (.row 0 cs)) st.nx) (st.nx+1) k:=by
   intro n hn hes;subst hes;subst hn;have hno:∀id,b6 V1 A id->id≠st.nx:=fun id ho he=>by have:=hR.ff (qxg id ho);omega
   refine mk innx (fun j x h=>(hcg.fin j x h).2) (Nat.le_succ _) (fun id ob hh=>?_) (fun id ho=>by rw [Map.au,if_neg (hno id ho)]) (fun id hlt _=>by rw [Map.au,if_neg (by omega)]) rfl (.inr ⟨st.nx,0,0,cs,rfl,by rw [Map.au,if_pos rfl],O_ _,?_⟩)
    (fun j j' x x' id h1 h2 h3=>by rw [qzL j x h1] at h3;cases h3) (fun j x id h1 h3=>by rw [qzL j x h1] at h3;cases h3) (fun id hi=>by cases hi;exact⟨fun ho=>hno _ ho rfl,.inr (Pa _)⟩) (fun j x id h1 h3=>by rw [qzL j x h1] at h3;cases h3)
   ·rw [Map.au] at hh;split at hh
    ·omega
    ·have:=hR.fresh _ _ hh;omega
   ·rw [List.drop_zero,List.nil_append];exact hcg.mono (fun j x id h1 h3=>by rw [qzL j x h1] at h3;cases h3)
  rcases hD with ⟨rfl,rfl|rfl,_⟩|⟨id,gg,b,cells,rfl,hH,hb,hE⟩
  ·refine⟨_,_,_,?_,fresh xs.length (by simp) rfl⟩;simp only [List.length_nil,Nat.zero_add] at hb1 hb2;simp only [fk,qxc,lW,e1,e2,hsrc,cond_eq_ite,OY,if_neg hm0,OV,OZ];rw [if_pos ⟨hb1,hb2⟩];simp only [bO,dO,Src.q,cK,fI,od,Src.cs]
  ·refine⟨_,_,_,?_,fresh (0+xs.length) (by simp) rfl⟩;simp only [List.length_nil] at hb1 hb2;simp only [fk,qxc,lW,e1,e2,hsrc,cond_eq_ite,OY,if_neg hm0,OV,OZ,O0];rw [if_pos ⟨⟨⟨by show 0 < 0+xs.length;omega,by simp⟩,hb1⟩,hb2⟩];simp only [bO,dO,Src.q,cK,fI,od,Src.cs,List.nil_append];rfl
  ·have hl:=hE.len;rw [OJ] at hl;obtain⟨hn1,hn2⟩:=hi1 id rfl;have hE2:=Cg.append q2 hE hcg;have both:∀j x id',(if j < es.length then qxA j else innx (j - es.length))=some x->bV x=some id'->qxA j=some x:=fun j x id' h h3=>by
    split at h
    ·exact h
    ·rw [qzL _ x h] at h3;cases h3
   refine⟨.ref id (gg+1) 0 s (es.length+xs.length) (es.length+xs.length) false,st.H.put (some (.row (gg+1) (cells.drop b++cs))) id,st.nx,?_,
    mk (fun j=>if j < es.length then qxA j else innx (j - es.length)) (fun j x h=>(hE2.fin j x h).2) (Pa _) (fun i o hh=>?_) (fun i hoi=>?_) (fun i _ hn=>?_) rfl (.inr ⟨id,gg+1,0,_,by rw [OH],by rw [Map.au,if_pos rfl],O_ _,?_⟩)
     (fun j j' x x' id' h1 h2 h3 h4=>hd j j' x x' id' (both j x id' h1 h3) (both j' x' id' h2 h4) h3 h4) (fun j x id' h1 h3=>ho j x id' (both j x id' h1 h3) h3) (fun i hi=>?_) (fun j x id' h1 h3=>hi2 j x id' (both j x id' h1 h3) h3)⟩
   ·simp only [fk,qxc,lW,e1,e2,hsrc,cond_eq_ite,OY,if_neg hm0,OV,OZ,if_pos];rw [if_pos ⟨⟨trivial,hb1⟩,hb2⟩];simp only [sQ,cond_eq_ite,OZ];rw [if_neg (by show ¬(es.length+xs.length<=es.length);omega),if_neg (by decide)];simp only [bO,dO,Src.q,cK,fI,hH,oh,cond_eq_ite,OY,if_pos];rw [if_pos (by show b+es.length*s=cells.length;omega)];simp only [od];rfl
   ·rw [Map.au] at hh;split at hh
    ·rename_i e;subst e;exact hR.ff hn2
    ·exact hR.fresh i o hh
   ·rw [Map.au,if_neg];rintro rfl;exact hn1 hoi
   ·rw [Map.au,if_neg];rintro rfl;exact hn hn2
   ·rw [List.drop_zero];refine hE2.mono fun j x id' h1 h3=>?_
    rw [Map.au,if_neg];rintro rfl;exact ho j x id' (both j x id' h1 h3) h3 rfl
   ·cases hi;exact⟨hn1,.inl hn2⟩
theorem I5 {sh:Sh} (hR:R A V st) (ha:act g) {es bytes:Nat} {s x:aH} (h:dw V g s fun w=>dw V g x fun x=>uy sh nt V d g es bytes w x k):bJ cf nt A V st d (.app es bytes s x) k:=by
 obtain⟨w,hw,h⟩:=bE hR ha h;obtain⟨y,hy,hk⟩:=bE hR ha h;unfold uy at hk;split at hk
 ·rename_i s' io xs;have hse:=(aU hk).1;replace hk:=(aU hk).2;subst hse;unfold vG at hk;cases d with
  |none=>cases hk
  |some dd=>
  dsimp only at hk;obtain⟨_,q2,_⟩:=FE hy;have nilD:∀{sv:AV},(sv=.ak\/sv=.b5 [] 0 (some 0))->ev st.env s=sv->Nat.blt 0 (D_ (sh.gc dd))=true->(∃l,oY bytes [] xs=some l/\gh nt V (some dd) g .sl (.gn dd s' io (D_ (sh.gc dd)) 0 none l) k)->bJ cf nt A V st (some dd) (.app s' bytes s x) k:=by rintro sv hsv e1 hz ⟨l,h1,h2⟩;exact DW (es:=[]) (qxA:=fun _=>none) hR hR (fun _ h=>h) (iE.refl V) q2 (by simpa using hz) (.inl ⟨rfl,hsv,fun _=>rfl⟩) (by rcases hsv with rfl|rfl<;>rfl) (fun id hi=>by rcases hsv with rfl|rfl<;>cases hi) (fun j x id h=>by cases h) (fun j j' x x' id h=>by cases h) (fun j x id h=>by cases h) e1 hy h1 h2
  generalize e1:ev st.env s=a at hw;cases hw with
  |bP=>
   simp only at hk;split at hk
   ·rename_i hb;rw [OV] at hb;exact nilD (.inl rfl) e1 hb.2 hk
   ·cases hk
  |jP=>
   simp only at hk;split at hk
   ·rename_i hb;rw [OV] at hb;exact nilD (.inr rfl) e1 hb.2 hk
   ·cases hk
  |@sl O _ hO=>
   simp only at hk;split at hk;rotate_left
   ·cases hk
   rename_i K s2 io2 iz ver es ho;split at hk;rotate_left
   ·cases hk
   rename_i hb;simp only [OV,OY] at hb;obtain⟨rfl,rfl⟩:=hb;obtain⟨l,h1,h2⟩:=hk;obtain⟨y',hy',hs⟩:=hR.heap O _ ho;rw [hO] at hy';cases hy';obtain⟨rfl,hv1,hv0,hv2,hv3⟩:=hR.eI O _ _ ho hO;obtain⟨p1,p2,p3,hs⟩:=hs;refine DW (es:=es) (qxA:=fun j=>A (.i K ver j)) hR (hR.bu K) (fun _ h=>(bt V K).own h) (bt V K).ev p2 p3 ?_ (hR.one _ _ hO) (fun id hi=>⟨cX hR ho hO (.inl hi),⟨K,_,_,ho,hO,.inl hi⟩⟩)
    (fun j x id h3 h4=>⟨cX hR ho hO (.inr ⟨j,x,by simp,h3,h4⟩),⟨K,_,_,ho,hO,.inr ⟨j,x,by simp,h3,h4⟩⟩⟩) (fun j j' x x' id=>hv2 j j' x x' id (by simp) (by simp)) (fun j x id=>hv3 j x id (by simp)) e1 hy h1 h2
   rcases hs with ⟨h3,h4⟩|⟨id,g',b,cells,h3,h4,h5,h6⟩
   ·exact .inl ⟨h3,h4,fun j=>by
     cases hq:A (.i K ver j) with
     |none=>rfl
     |some x=>have:=hv0 j x hq;rw [h3] at this;simp at this⟩
   ·exact .inr ⟨id,g',b,cells,h3,h4,h5,h6.len,fun j e he=>(let ⟨ts,g1,g2,g3,x,g4,g5,g6⟩:=h6.el j e he;⟨ts,g1,g2,g3,x,g4,g5,g6 (by simp)⟩),fun j x hx=>⟨hv0 j x hx,hR.one _ _ hx⟩⟩
  |_=>cases hk
 rename_i hngl;obtain⟨hz,hk⟩:=cV hk;obtain⟨xs,src,l,hx,hk⟩:=wj hR hz hy hk;generalize e1:ev st.env s=a at hw;cases hw with
 |bP=>obtain⟨l',h1,h2⟩:=hk;exact n4 hR hR (fun _ h=>h) (iE.refl V) ⟨hz,.inl ⟨rfl,.inl rfl⟩⟩ rfl (fun id hi=>by cases hi) hx h1 e1 rfl h2
 |jP=>obtain⟨l',h1,h2⟩:=hk;exact n4 hR hR (fun _ h=>h) (iE.refl V) ⟨hz,.inl ⟨rfl,.inr rfl⟩⟩ rfl (fun id hi=>by cases hi) hx h1 e1 rfl h2
 |@sl O _ hO=>
  dsimp only at hk;split at hk
  ·rename_i z es' ho;obtain⟨rfl,l',h1,h2⟩:=aU hk;obtain⟨y',hy',hs⟩:=hR.heap O _ ho;rw [hO] at hy';cases hy';exact n4 hR (hR.bu O) (fun _ h=>(bt V O).own h) (bt V O).ev hs (hR.one _ _ hO) (fun id hi=>⟨cX hR ho hO (.inl hi),⟨O,_,_,ho,hO,.inl hi⟩⟩) hx h1 e1 rfl h2
  ·cases hk
 |@ow O v i _ hA=>dsimp only at hk;obtain⟨s2,io,iz,es',ho,hk⟩:=ct hk;obtain⟨rfl,l0,h0,l',h1,h2⟩:=aU hk;obtain⟨y',hy',hs⟩:=hR.heap O _ ho;obtain⟨r1,r2,r3⟩:=G5 hR ho hA;exact n4 hR r1 r2 (iE.Ge ho (Pa _)) (oI hs h0 (by simp) hA) (hR.one _ _ hA) (fun id hi=>⟨r3 id hi,⟨O,_,_,ho,hy',.inr ⟨i,_,by simp,hA,hi⟩⟩⟩) hx h1 e1 rfl h2
 |_=>cases hk
theorem IV (hR:R A V st) (ha:act g) {str:Bool} {x:aH} (h:dw V g x fun w=>Au nt V d g str w k):bJ cf nt A V st d (.len str x) k:=by
 obtain⟨w,hw,hk⟩:=bE hR ha h;generalize he:ev st.env x=p at hw;cases str with
 |true=>
  cases hw with
  |@tr v _ hc=>
   obtain⟨r,h1,h2⟩:=aR hR ha hk;cases v<;>first|(cases h1;done)|skip
   cases h1;cases hc;exact aO rfl (by simp only [jb,he]) (h2 _ (.i _ _))
  |_=>cases hk
 |false=>
  cases hw with
  |@tr v _ hc=>
   obtain⟨r,h1,h2⟩:=aR hR ha hk;cases v<;>first|(cases h1;done)|skip
   cases h1;cases hc with
   |nil=>exact aO rfl (by simp only [jb,he];rfl) (h2 _ (.i _ _))
   |b5 _ cs n z c hn=>subst hn;exact aO rfl (by simp only [jb,he]) (h2 _ (.i _ _))
  |bP=>obtain⟨r,h1,h2⟩:=aR hR ha hk;cases h1;exact aO rfl (by simp only [jb,he]) (h2 _ (.i _ _))
  |jP=>obtain⟨r,h1,h2⟩:=aR hR ha hk;cases h1;exact aO (v:=.int .i64 ((0:Nat):Int)) rfl (by simp only [jb,he]) (h2 _ (.i _ _))
  |@sl O _ hO=>
   simp only [Au] at hk;split at hk
   ·rename_i z es ho;obtain⟨y,hy,hs⟩:=hR.heap O _ ho;rw [hO] at hy;cases hy;obtain⟨r,h1,h2⟩:=aR hR ha hk;cases h1;rcases hs.2 with ⟨rfl,rfl|rfl⟩|⟨id,gg,b,cells,rfl,_⟩
    ·exact aO (v:=.int .i64 0) rfl (by simp only [jb,he]) (h2 _ (.i _ _))
    ·exact aO (v:=.int .i64 ((0:Nat):Int)) rfl (by simp only [jb,he]) (h2 _ (.i _ _))
    ·exact aO rfl (by simp only [jb,he]) (h2 _ (.i _ _))
   ·rename_i K s io iz ver hole es ho;obtain⟨y,hy,hs⟩:=hR.heap O _ ho;rw [hO] at hy;cases hy;obtain⟨r,h1,h2⟩:=aR hR ha hk;cases h1;rcases hs.2.2.2 with ⟨rfl,rfl|rfl⟩|⟨id,gg,b,cells,rfl,_⟩
    ·exact aO (v:=.int .i64 0) rfl (by simp only [jb,he]) (h2 _ (.i _ _))
    ·exact aO (v:=.int .i64 ((0:Nat):Int)) rfl (by simp only [jb,he]) (h2 _ (.i _ _))
    ·exact aO rfl (by simp only [jb,he]) (h2 _ (.i _ _))
   ·cases hk
  |@ow O v j _ hA=>
   obtain⟨s,io,iz,es,ho,hk⟩:=ct hk;obtain⟨y,hy,hs⟩:=hR.heap O _ ho;obtain⟨r,h1,h2⟩:=aR hR ha hk;unfold Ja at h1;split at h1;rotate_left
   ·cases h1
   rename_i l hl;cases h1;have hsl:=oI hs hl (by simp) hA;rcases hsl.2 with ⟨rfl,rfl|rfl⟩|⟨id,gg,b,cells,rfl,_⟩
   ·exact aO (v:=.int .i64 0) rfl (by simp only [jb,he]) (h2 _ (.i _ _))
   ·exact aO (v:=.int .i64 ((0:Nat):Int)) rfl (by simp only [jb,he]) (h2 _ (.i _ _))
   ·exact aO rfl (by simp only [jb,he]) (h2 _ (.i _ _))
  |_=>cases hk
end
end Go.Ax.V
namespace Go.Ax.V
section
variable {prog:Map aq} {cf:eF} {nt:Nat} {A:aX} {V:aF} {st:St} {d:Option Nat} {g:G} {k:aF->Prop}
def KJ (e:Env) (x:Option aH) (v:Option TV):Prop:=match x with|none=>v=none|some x=>∃u,v=some u/\Can u (ev e x)
theorem qp {e:Env} {x:Option aH} {v:Option TV} (h:KJ e x v) {other y r:Nat} (hb:Ec v other y=some r):AF (ev e) x other y=some r:=by
 cases x with
 |none=>cases h;exact hb
 |some x=>
  obtain⟨u,rfl,hc⟩:=h;cases u<;>first|(cases hb;done)|skip
  generalize he:ev e x=p at hc;cases hc;simp only [AF,he];exact hb
theorem AG {e:Env} {lo hi:Option aH} {l h:Option TV} (hl:KJ e lo l) (hh:KJ e hi h) {n a b:Nat} (hb:Fw l h n=some (a,b)):jg (ev e) lo hi none n n=some (a,b,n)/\a<=b/\b<=n:=by
 unfold Fw at hb;split at hb
 ·cases hb
 rename_i b' h1;split at hb
 ·cases hb
 rename_i a' h2;cases hb;have le:∀{x:Option TV} {o y r:Nat},Ec x o y=some r->o<=y->r<=y:=fun {x o y r} hb ho=>by
  unfold Ec at hb;split at hb
  ·cases hb;exact ho
  ·exact(nY hb).2
  ·cases hb
 refine⟨?_,le h2 (O_ _),le h1 (Pa _)⟩;have e0:AF (ev e) none n n=some n:=rfl;simp only [jg,e0,qp hh h1,qp hl h2]
theorem lB (h:R A V st) (ha:act g) {x:Option aH} {k:Option TV->Prop} (hk:ou V g x k):∃v,k v/\KJ st.env x v:=by obtain⟨v,h1,h2⟩:=CR h ha hk;exact⟨v,h1,by cases x<;>exact h2⟩
theorem zn {sz:Nat} {es:List TV} {cs:List AV} (h:vW sz es cs) {a b:Nat} (hab:a<=b) (hb:b<=es.length):vW sz ((es.drop a).take (b - a)) ((cs.drop (a*sz)).take ((b - a)*sz)):=by
 have h1:a*sz+(b - a)*sz=b*sz:=by rw [←Nat.add_mul];congr 1;omega
 have h2:b*sz<=es.length*sz:=Nat.mul_le_mul_right sz hb;have hl:=h.len;refine⟨by simp only [OI,OJ];rw [Nat.min_eq_left (by omega),Nat.min_eq_left (by omega)],fH h.flat _ _,fun j e hj=>?_⟩;rw [gp] at hj;split at hj
 ·rename_i hlt;have h3:=bL (z:=sz) hlt;have:((((cs.drop (a*sz)).take ((b - a)*sz)).drop (j*sz)).take sz)=(cs.drop ((a+j)*sz)).take sz:=by rw [List.drop_take,List.take_take,List.drop_drop,Nat.min_eq_left (by omega),Nat.add_mul]
  rw [this];exact h.el _ e hj
 ·cases hj
theorem oS {x:Option aH} (h:jr x=true):∃k,x=some (.c (.int k (.ofNat 0))):=by
 unfold jr at h;split at h
 ·exact⟨_,rfl⟩
 ·cases h
def My (mx:Option aH) (c:Option Nat) (m a:Nat):Option Nat:=match mx with
 |some _=>some (m - a)
 |none=>match c with
  |some c=>some (c - a)
  |none=>none
theorem u0 {es n a b m:Nat} {ρ:aH->AV} {cs cs':List AV} {lo hi mx:Option aH} {c:Option Nat} (q1:n*es=cs.length) (hb:jg ρ lo hi mx n n=some (a,b,m)) (q2:cut cs (a*es) ((b - a)*es)=some cs') :
  yD es ρ (.b5 cs n c) lo hi mx=some (.b5 cs' (b - a) (My mx c m a)):=by
 have h1:Nat.beq (Nat.mul n es) cs.length=true:=by simpa using q1
 have h2:cut cs (Nat.mul a es) (Nat.mul (Nat.sub b a) es)=some cs':=q2;simp only [yD,h1,hb,h2,cond_true];cases mx<;>cases c<;>rfl
theorem Gz (hR:R A V st) (ha:act g) {es:Nat} {x:aH} {lo hi mx:Option aH} (h:dw V g x fun w=>zj nt V d g es w lo hi mx k):bJ cf nt A V st d (.iX es x lo hi mx) k:=by
 obtain⟨w,hw,hk⟩:=bE hR ha h;have hz:=(cV hk).1;replace hk:=(cV hk).2;clear h;have qxc:kind (.iX es x lo hi mx)=.plan fun ρ=>dG (yD es ρ (ρ x) lo hi mx):=rfl
 generalize he:ev st.env x=p at hw;have fin:∀{v:AV},yD es (ev st.env) p lo hi mx=some v->Next nt A V st d v st.H st.nx k->bJ cf nt A V st d (.iX es x lo hi mx) k:=
  fun h1 h2=>aO qxc (by rw [he,h1];rfl) h2
 cases hw with
 |@sl O _ hO=>
  dsimp only at hk;split at hk;rotate_left
  ·cases hk
  rename_i z xs ho;split at hk;rotate_left
  ·cases hk
  split at hk;rotate_left
  ·cases hk
  obtain⟨rfl,hk2⟩:=aU hk;obtain⟨l,⟨m,h1,h2⟩,hl⟩:=lB (g:=none) hR trivial hk2;obtain⟨y,hy,hs⟩:=hR.heap O _ ho;rw [hO] at hy;cases hy;have hm:m<=xs.length:=by
   unfold Ec at h1;split at h1
   ·cases h1;exact O_ _
   ·exact(nY h1).2
   ·cases h1
  have hb:jg (ev st.env) lo none none xs.length xs.length=some (m,xs.length,xs.length):=by
   have e0:∀n,AF (ev st.env) none n xs.length=some n:=fun _=>rfl
   simp only [jg,e0,qp hl h1]
  have nxt:∀{a:AV},a.one=true->qb st.H z (xs.drop m) a->(∀id,bV a=some id->bV p=some id)->Next nt A V st d a st.H st.nx k:=fun {a} h3 h4 h5=>
   tT (a:=a) (nx':=st.nx) (hR.bu O) (bt V O).H h2 (Pa _) hR.fresh (fun _ _=>rfl) (fun _ _ _=>rfl) (fun A' _=>h4) h3
    (fun id hi=>⟨cX hR ho hO (.inl (h5 id hi)),.inl ⟨O,_,_,ho,hO,.inl (h5 id hi)⟩⟩) (fun A' O hO=>.sl hO)
  rcases hs.2 with ⟨rfl,rfl|rfl⟩|⟨id,gg,b,cells,rfl,hH,hbl,hE⟩
  ·simp at hm;subst hm;exact fin (by simp only [yD];simp only [List.length_nil] at hb;rw [hb]) (nxt rfl ⟨hz,.inl ⟨by simp,.inl rfl⟩⟩ (fun id hi=>hi))
  ·simp at hm;subst hm;refine fin (v:=.b5 [] 0 (some 0)) ?_ (nxt rfl ⟨hz,.inl ⟨by simp,.inr rfl⟩⟩ (fun id hi=>hi));simp only [List.length_nil] at hb;simp only [yD,cond_eq_ite,OY];rw [if_pos (by simp),hb];simp [cI]
  ·have hl':=hE.len;rw [OJ] at hl';refine fin (v:=.ref id gg (b+m*z) z (xs.length - m) (xs.length - m) false) ?_ (nxt rfl ⟨hz,.inr ⟨id,gg,b+m*z,cells,by simp,hH,?_,?_⟩⟩ (fun id hi=>hi))
   ·simp only [yD,cond_eq_ite,OY,if_pos,hb];rfl
   ·have:=Nat.mul_le_mul_right z hm;omega
   ·have hE':=zn hE hm (Pa _);have e1:(xs.drop m).take (xs.length - m)=xs.drop m:=O7 (by simp);have e2:((cells.drop b).drop (m*z)).take ((xs.length - m)*z)=cells.drop (b+m*z):=by rw [List.drop_drop,O7];rw [OJ,Nat.sub_mul];omega
    rwa [e1,e2] at hE'
 |@tr v _ hc=>
  dsimp only at hk;split at hk
  ·obtain⟨l,hk1,hl⟩:=lB hR ha hk;obtain⟨h,hk2,hh⟩:=lB hR ha hk1;obtain⟨r,⟨h1,h2⟩,h3⟩:=qV ha hk2;clear hk hk1 hk2;unfold MO at h1;split at h1
   ·rename_i xs;split at h1
    ·rename_i a b hab;cases h1;obtain⟨hb,qkw,qjl⟩:=AG hl hh hab;cases hc with
     |nil=>refine fin (v:=.ak) (by simp only [yD];simp only [List.length_nil] at hb;rw [hb]) (ay hR (fun _=>.tr ?_) h3);simp;exact .nil
     |b5 _ cs n z c hn hcl hsz hf hcc=>
      subst hn;have hE:vW z xs cs:=⟨hcl,hf,hcc⟩;have qxi:∀z',(z'=z\/xs=[])->xs.length*z'=cs.length/\cut cs (a*z') ((b - a)*z')=some ((cs.drop (a*z)).take ((b - a)*z)):=by
       intro z' hz';rcases hz' with rfl|rfl
       ·refine⟨hcl.symm,?_⟩;have:=Nat.mul_le_mul_right z' qjl;have h1:a*z'+(b - a)*z'=b*z':=by rw [←Nat.add_mul];congr 1;omega
        rw [cI,if_pos (by omega)]
       ·simp only [List.length_nil,Nat.zero_mul] at hcl qjl ⊢;have:cs=[]:=O6.1 hcl;subst this;have:b=0:=by omega
        subst this;have:a=0:=by omega
        subst this;simp [cI]
      obtain⟨q1,q2⟩:=qxi es (by rcases uX (h2 xs rfl) rfl hcl hcc with h|h;exact .inr h;exact .inl h);have hE':=zn hE qkw qjl;have hcan:∀c',Can (.l ((xs.drop a).take (b - a))) (.b5 ((cs.drop (a*z)).take ((b - a)*z)) (b - a) c'):=fun c'=>by have:=vJ hsz hE' c';rwa [show ((xs.drop a).take (b - a)).length=b - a by simp;omega] at this
      exact fin (u0 q1 hb q2) (ay hR (fun _=>.tr (hcan _)) h3)
    ·cases h1
   ·cases h1
  ·split at hk
   ·rename_i qxj;simp only [OV] at qxj;obtain⟨⟨⟨hc1,hc2⟩,hc3⟩,hc4⟩:=qxj;obtain⟨k1,rfl⟩:=oS hc1;obtain⟨k2,hm2⟩:=oS hc2;cases hm2;obtain rfl:lo=none:=(by cases lo<;>first|rfl|cases hc3);obtain⟨l,h1,hsz,h2⟩:=hk;cases v<;>first|(cases h1;done)|skip
    cases h1;cases hc with
    |nil=>exact fin (v:=.ak) rfl (ay hR (fun _=>.bP) h2)
    |b5 _ cs n z c hn hcl hz' hf hcc=>
     refine fin (v:=.b5 [] 0 (some 0)) ?_ (ay hR (fun _=>.jP) h2);have q1:n*es=cs.length:=by
      rcases uX hsz hn hcl hcc with h|h
      ·subst h;simp at hn;subst hn;simp at hcl;simp [hcl]
      ·rw [h,hcl]
     have hb:jg (ev st.env) none (some (.c (.int k1 (.ofNat 0)))) (some (.c (.int k2 (.ofNat 0)))) n n=some (0,0,0):=by rfl
     exact u0 q1 hb (by simp [cI])
   ·cases hk
 |bP=>
  dsimp only at hk;split at hk
  ·rename_i qxj;simp only [OV] at qxj;obtain⟨⟨hc1,hc2⟩,hc3⟩:=qxj;obtain⟨k1,rfl⟩:=oS hc1;obtain⟨k2,rfl⟩:=oS hc2;obtain rfl:lo=none:=(by cases lo<;>first|rfl|cases hc3);exact fin (v:=.ak) rfl (ay hR (fun _=>.bP) hk)
  ·cases hk
 |jP=>
  dsimp only at hk;split at hk
  ·rename_i qxj;simp only [OV] at qxj;obtain⟨⟨hc1,hc2⟩,hc3⟩:=qxj;obtain⟨k1,rfl⟩:=oS hc1;obtain⟨k2,rfl⟩:=oS hc2;obtain rfl:lo=none:=(by cases lo<;>first|rfl|cases hc3);refine fin (v:=.b5 [] 0 (some 0)) ?_ (ay hR (fun _=>.jP) hk);have hb:jg (ev st.env) none (some (.c (.int k1 (.ofNat 0)))) (some (.c (.int k2 (.ofNat 0)))) 0 0=some (0,0,0):=by rfl
   exact u0 (by simp) hb (by simp [cI])
  ·cases hk
 |_=>cases hk
theorem EN (hR:R A V st) {len es:Nat} {x:aH} {hi:Option aH} (hz:0 < es) (h:dw V none x fun w=>jV nt V d len es w hi k):bJ cf nt A V st d (.iL len es x none hi none) k:=by
 obtain⟨w,hw,hk⟩:=bE (g:=none) hR trivial h;generalize he:ev st.env x=p at hw;have go:∀{O off id:Nat} {v:TV} {ovs:List (Nat×VV)} {u:TV},p=.ptr id 0 off->A O=some (.ptr id 0 0)->V.H.get O=some (.ob v ovs)->cG v off (len*es)=some u->(ou V none hi fun h=>∃m,Ec h len len=some m/\cw nt V d none (.sa O off m es) k)->bJ cf nt A V st d (.iL len es x none hi none) k:=by
  intro O off id v ovs u e0 hO ho hu hk;subst e0;obtain⟨l,⟨m,h1,h2⟩,hl⟩:=lB (g:=none) hR trivial hk;obtain⟨z,hz',id',cs,ts,rfl,hH,hc⟩:=hR.heap O _ ho;rw [hO] at hz';cases hz';obtain⟨ts',_,q2,q3,_⟩:=gw hu;have:=hc.cells.symm.trans q2;cases this;have hb:jg (ev st.env) none hi none len len=some (0,m,len):=by
   have e0:∀n y,AF (ev st.env) none n y=some n:=fun _ _=>rfl
   simp only [jg,e0,qp hl h1]
  have qxi:cut cs off (Nat.mul len es)=some ((cs.drop off).take (len*es)):=by rw [cI];exact if_pos (by rw [←hc.len];exact q3)
  have qxc:kind (.iL len es x none hi none)=.plan fun ρ=>ja ρ len es x none hi none:=rfl
  refine⟨.ref id 0 off es m len true,st.H,st.nx,?_,ay hR (fun _=>.sa hz hO) h2⟩;simp only [fk,qxc,ja,he,hb,bO,dO,cK,hH,Nat.beq_refl,cond_true,qxi,fI,od];simp
 cases hw with
 |@ptr O off id hO=>
  simp only [jV] at hk;split at hk
  ·rename_i v ovs ho;obtain⟨u,h1,h2⟩:=hk;exact go rfl hO ho h1 h2
  ·cases hk
 |@pd O off id hO=>
  simp only [jV] at hk;split at hk
  ·rename_i v ovs ho;obtain⟨u,h1,h2⟩:=hk;exact go rfl hO ho h1 h2
  ·cases hk
 |_=>cases hk
theorem Fh {sz:Nat} {es:List TV} {cs:List AV} (h:vW sz es cs) (n:Nat):vW sz (es.take n) (cs.take (min es.length n*sz)):=by
 have:=zn h (a:=0) (b:=min es.length n) (O_ _) (Nat.min_le_left _ _);rw [Nat.zero_mul,List.drop_zero,List.drop_zero,Nat.sub_zero] at this;have e:es.take (min es.length n)=es.take n:=by rw [List.take_eq_take_min (i:=n),Nat.min_comm]
 rwa [e] at this
theorem I2 (hR:R A V st) {es:Nat} {s x:aH} (hz:0 < es) (h:dw V none s fun w=>dw V none x fun x=>xO nt V d es w x k):bJ cf nt A V st d (.BM es s x) k:=by
 obtain⟨w,hw,h⟩:=bE (g:=none) hR trivial h;obtain⟨y,hy,hk⟩:=bE (g:=none) hR trivial h;generalize he:ev st.env s=p at hw;cases hw with
 |@sa O off n z id cap hz' hO=>
  simp only [xO] at hk;obtain⟨rfl,hk⟩:=aU hk;split at hk;rotate_left
  ·cases hk
  rename_i v ovs ho;split at hk;rotate_left
  ·cases hk
  obtain⟨xs,src,l,hx,u,hcp,hk⟩:=wj hR hz hy hk;obtain⟨q,hq,id',cs,ts,rfl,hH,hc⟩:=hR.heap O _ ho;rw [hO] at hq;cases hq;obtain⟨cs',us,h3,h4⟩:=xT hc hcp (Fh hx.el n);have qxc:kind (.BM z s x)=.plan fun ρ=>xS z (ρ s) (ρ x):=rfl
  have qzH:first (src.cs l) (Nat.mul (min xs.length n) z)=some ((src.cs l).take (min xs.length n*z)):=by rw [nN];exact if_pos (by rw [hx.el.len];exact Nat.mul_le_mul_right z (Nat.min_le_left _ _))
  obtain⟨g1,g2⟩:=m9 (o:=.ob u []) (ob:=.row 0 cs') hR ho hO (.inl rfl) ⟨_,cs',us,rfl,by rw [Map.au,if_pos rfl],h4⟩ (fun id hi=>(b9 rfl).2 ((b9 rfl).1 hi)) (fun _=>mg rfl);obtain⟨e',p1,V2,A2,p2,p3,p4,p5⟩:=ay (g:=none) (v:=.int .i64 ((min xs.length n:Nat):Int)) g1 (fun _=>VR.tr (.i _ _)) hk;refine⟨.int .i64 ((min xs.length n:Nat):Int),_,_,?_,e',p1,V2,A2,p2,g2.trans p3,(Ext.wZ A (iE.set rfl)).trans p4,p5⟩;simp only [fk,qxc,xS,he,hx.eq,Nat.beq_refl,cond_true,bO,dO,hx.get,fI,hH,oh,qzH,h3,od];rw [show (min (xs.length:Int) (n:Int))=((min xs.length n:Nat):Int) by omega]
 |_=>cases hk
end
end Go.Ax.V
namespace Go.Ax.V
section
variable {prog:Map aq} {cf:eF} {nt:Nat} {A:aX} {V:aF} {st:St} {d:Option Nat} {g:G} {k:aF->Prop}
theorem wE (zero:List AV):∀m,(rows m zero).length=m*zero.length
 |0=>by simp [rows]
 |m+1=>by have:=wE zero m;unfold rows at this ⊢;rw [List.replicate_succ,List.flatten_cons,OH,this,Nat.add_mul,Nat.one_mul,Nat.add_comm]
theorem wz (zero:List AV):∀m j,j < m->((rows m zero).drop (j*zero.length)).take zero.length=zero
 |0,j,h=>by omega
 |m+1,0,h=>by unfold rows;rw [List.replicate_succ,List.flatten_cons,Nat.zero_mul,List.drop_zero,List.take_left]
 |m+1,j+1,h=>by have:=wz zero m j (by omega);unfold rows at this ⊢;rw [List.replicate_succ,List.flatten_cons,Nat.add_mul,Nat.one_mul,Nat.add_comm,List.drop_append,List.drop_of_length_le (by omega),List.nil_append];rwa [show zero.length+j*zero.length - zero.length=j*zero.length by omega]
theorem uK {cs:List AV} (h:bx c6 cs=true):eC (bS cs) cs/\∀x∈cs,AV.flat x=true:=by refine⟨⟨gG cs,fun j t x ht hx=>?_⟩,fun x hx=>(ij (aJ.1 h x hx)).2⟩;rw [k5,hx] at ht;cases ht;exact(ij (aJ.1 h x (OD hx))).1
theorem BP {zero:List AV} (h:bx c6 zero=true):k9 (zJ zero.length zero) zero:=by
 have hb:=(uK h).1;have ag:k9 (.a (bS zero)) zero:=.a _ _ hb.1 hb.2;unfold zJ;split
 ·rename_i hl
  match zero,hl,h with
  |[x],_,h=>have hx:=aJ.1 h x ON;refine .one _ _ ?_ (ij hx).1;cases x<;>first|rfl|cases hx
 ·exact ag
theorem GB (hR:R A V st) {es bytes:Nat} {zero:List AV} {n:aH} (h:pos es <| match bx c6 zero&&Nat.beq zero.length es with
   |true=>iu V none n fun n=>∃m,GI bytes n=some m/\gh nt V d none .sl (.gr es (List.replicate m (zJ es zero))) k
   |false=>False):bJ cf nt A V st d (.kF es bytes zero n) k:=by
 have hz:=(cV h).1;replace h:=(cV h).2;split at h
 ·rename_i hc;rw [OV,OY] at hc;obtain⟨hc,rfl⟩:=hc;obtain⟨v,hv,m,h1,h2⟩:=bN (g:=none) hR trivial h;unfold GI at h1;split at h1
  ·rename_i ki z;generalize he:ev st.env n=p at hv;cases hv;split at h1
   ·rename_i m' hm;rw [cond_eq_ite] at h1;split at h1
    ·rename_i qxj;cases h1;refine qe (f:=fun id=>.ref id 0 0 zero.length m m false) (ob:=.row 0 (rows m zero)) rfl ?_ (gX hR h2 (fun A' hA=>⟨hz,.inr ⟨st.nx,0,0,rows m zero,by simp,by rw [Map.au,if_pos rfl],O_ _,?_⟩⟩) rfl rfl (fun A' O hO=>.sl hO))
     ·simp only [pz,he,hm,qxj,cond_true]
     ·rw [List.drop_zero];refine⟨by rw [wE,List.length_replicate],fun x hx=>?_,fun j e hj=>?_⟩
      ·unfold rows at hx;obtain⟨l,hl,hx⟩:=List.mem_flatten.1 hx;rw [List.mem_replicate] at hl;rw [hl.2] at hx;exact(uK hc).2 x hx
      ·have hlt:j < m:=by have:=(Ow.1 hj).1;simpa using this
       rw [List.getElem?_replicate,if_pos hlt] at hj;cases hj;rw [wz zero m j hlt];exact BP hc
    ·cases h1
   ·cases h1
  ·cases h1
 ·cases h
theorem I4 (hR:R A V st) (ha:act g) {op:BinOp} {x y:aH} (h:iu V g x fun x=>iu V g y fun y=>dh nt V d g (cz op x y) k):bJ cf nt A V st d (.bin op x y) k:=by
 obtain⟨u,h1,h⟩:=bN hR ha h;obtain⟨w,h2,h⟩:=bN hR ha h;obtain⟨r,h3,h4⟩:=aR hR ha h;obtain⟨c,h5,h6⟩:=DQ h3 h1 h2;have hk:kind (.bin op x y)=.plan fun ρ=>dG (ya op (ρ x) (ρ y)):=rfl
 exact aO hk (by simp only [h5,dG]) (h4 _ h6)
theorem Md (hR:R A V st) (ha:act g) {op:UnOp} {x:aH} (h:iu V g x fun x=>dh nt V d g (zN op x) k):bJ cf nt A V st d (.un op x) k:=by
 obtain⟨u,h1,h⟩:=bN hR ha h;obtain⟨r,h3,h4⟩:=aR hR ha h;obtain⟨c,h5,h6⟩:=En h3 h1;have hk:kind (.un op x)=.plan fun ρ=>dG (F7 op (ρ x)):=rfl
 exact aO hk (by simp only [h5,dG]) (h4 _ h6)
theorem GF (hR:R A V st) (ha:act g) {c:IntKind} {x:aH} (h:iu V g x fun x=>dh nt V d g (AB c x) k):bJ cf nt A V st d (.conv c x) k:=by
 obtain⟨u,h1,h⟩:=bN hR ha h;obtain⟨r,h3,h4⟩:=aR hR ha h;unfold AB at h3;split at h3
 ·cases h3;generalize he:ev st.env x=p at h1;cases h1;exact aO rfl (by simp only [pE,he]) (h4 _ (.i _ _))
 ·cases h3
theorem Fa {t:yl} {neg:Bool} {x y r:TV} {a b:AV} (h:Jr t neg x y=some r) (ha:Can x a) (hb:Can y b):∃c,Ea t a b=some c/\r=.b (bif neg then !c else c):=by
 cases t with
 |one l=>
  simp only [Jr] at h;cases hx:nM x with
  |none=>rw [hx] at h;cases h
  |some x'=>
   rw [hx] at h;cases hy:nM y with
   |none=>rw [hy] at h;cases h
   |some y'=>
    rw [hy] at h;simp only at h;cases hc:Dy l x' y' with
    |none=>rw [hc] at h;cases h
    |some c=>rw [hc] at h;cases h;exact⟨c,by rw [gD hx ha,gD hy hb];exact hc,by cases neg<;>rfl⟩
 |agg ls=>
  cases ha<;>first|(cases h;done)|skip
  rename_i xs as hl hf hh;cases hb<;>first|(cases h;done)|skip
  rename_i ys bs hl' hf' hh';simp only [Jr] at h;cases hx:kQ xs with
  |none=>rw [hx] at h;cases h
  |some x'=>
   rw [hx] at h;cases hy:kQ ys with
   |none=>rw [hy] at h;cases h
   |some y'=>
    rw [hy] at h;simp only at h;cases hc:yj ls x' y' with
    |none=>rw [hc] at h;cases h
    |some c=>rw [hc] at h;cases h;refine⟨c,?_,by cases neg<;>rfl⟩;rw [jR hx ⟨hl,hh⟩,jR hy ⟨hl',hh'⟩];exact hc
 |slice=>cases h
theorem I0 (hR:R A V st) (ha:act g) {t:yl} {neg:Bool} {x y:aH} (h:iu V g x fun x=>iu V g y fun y=>dh nt V d g (Jr t neg x y) k):bJ cf nt A V st d (.eq t neg x y) k:=by
 obtain⟨u,h1,h⟩:=bN hR ha h;obtain⟨w,h2,h⟩:=bN hR ha h;obtain⟨r,h3,h4⟩:=aR hR ha h;have hk:kind (.eq t neg x y)=.plan fun ρ=>CP ρ t neg x y:=rfl
 obtain⟨c,h5,rfl⟩:=Fa h3 h1 h2;exact aO hk (by simp only [CP,h5];cases neg<;>rfl) (h4 _ (.b _))
theorem IZ (hR:R A V st) {neg:Bool} {x y:aH} (hy:Dh y=true) (h:iu V none x fun x=>∃es:List TV,Ab x=some es/\∀b:Bool,(es≠[]->b=neg)->cw nt V d none (.tr (.b b)) k):bJ cf nt A V st d (.eq .slice neg x y) k:=by
 obtain⟨u,h1,es,h2,h3⟩:=bN (g:=none) hR trivial h;have hk:kind (.eq .slice neg x y)=.plan fun ρ=>CP ρ .slice neg x y:=rfl
 have hyv:ev st.env y=.ak:=by
  cases y with
  |c v=>cases v<;>first|rfl|cases hy
  |t n=>cases hy
 have hc:∃c,Ea .slice (ev st.env x) .ak=some c/\(es≠[]->c=false):=by
  generalize ev st.env x=a at h1;cases h1<;>first|(cases h2;done)|skip
  ·cases h2;exact⟨true,rfl,fun h=>absurd rfl h⟩
  ·exact⟨false,rfl,fun _=>rfl⟩
 obtain⟨c,h4,h5⟩:=hc;refine aO hk (v:=.bool (bif neg then !c else c)) (by simp only [CP,hyv,h4];cases neg<;>rfl) (ay hR (fun _=>.tr (.b _)) (h3 _ (fun hne=>?_)));rw [h5 hne];cases neg<;>rfl
theorem IU (hR:R A V st) (ha:act g) {mx:Bool} {xs:List aH} (h:Cs V g xs fun xs=>dh nt V d g (C4 mx xs) k):bJ cf nt A V st d (.yh mx xs) k:=by
 obtain⟨vs,h1,h⟩:=wK hR ha h;obtain⟨r,h3,h4⟩:=aR hR ha h;unfold C4 at h3;split at h3
 ·rename_i v l hl;split at h3
  ·rename_i r' hr;have e:=jR hl h1;have hk:kind (.yh mx xs)=.plan fun ρ=>vg ρ mx xs:=rfl
   exact aO hk (by simp only [vg,e,hr,dG]) (h4 _ (oK h3))
  ·cases h3
 ·cases h3
theorem IW (hR:R A V st) (ha:act g) {x i:aH} (h:iu V g x fun x=>iu V g i fun i=>dh nt V d g (Dk x i) k):bJ cf nt A V st d (.idx x i) k:=by
 obtain⟨u,h1,h⟩:=bN hR ha h;obtain⟨w,h2,h⟩:=bN hR ha h;obtain⟨r,h3,h4⟩:=aR hR ha h;unfold Dk at h3;split at h3
 ·split at h3
  ·split at h3
   ·rename_i b hb;cases h3;generalize e1:ev st.env x=p at h1;generalize e2:ev st.env i=q at h2;cases h1;cases h2;exact aO rfl (by simp only [wR,e1,e2,hb]) (h4 _ (.i _ _))
   ·cases h3
  ·cases h3
 ·cases h3
theorem EM (hR:R A V st) (ha:act g) {x:aH} {lo hi:Option aH} (h:iu V g x fun x=>ou V g lo fun lo=>ou V g hi fun hi=>dh nt V d g (yx x lo hi) k):bJ cf nt A V st d (.j3 x lo hi) k:=by
 obtain⟨u,h1,h⟩:=bN hR ha h;obtain⟨l,h,hl⟩:=lB hR ha h;obtain⟨hv,h,hh⟩:=lB hR ha h;obtain⟨r,h3,h4⟩:=aR hR ha h;unfold yx at h3;split at h3
 ·split at h3
  ·rename_i a b hab;cases h3;obtain⟨hb,_,_⟩:=AG hl hh hab;generalize e1:ev st.env x=p at h1;cases h1;exact aO rfl (by simp only [kr,e1,hb]) (h4 _ (.s _))
  ·cases h3
 ·cases h3
theorem IY (hR:R A V st) (ha:act g) {i:Nat} {x:aH} (h:iu V g x fun x=>dh nt V d g (dX i x) k):bJ cf nt A V st d (.ext i x) k:=by
 obtain⟨u,h1,h⟩:=bN hR ha h;obtain⟨r,h3,h4⟩:=aR hR ha h;unfold dX at h3;split at h3
 ·rename_i vs;generalize e1:ev st.env x=p at h1;cases h1 with
  |tp _ as hl hf hh=>
   have hlt:i < as.length:=by rw [←hl];exact(Ow.1 h3).1
   have hx:as[i]?=some as[i]:=Ov hlt;exact aO rfl (by simp only [wT,e1,hx,dG]) (h4 _ (hh i r _ h3 hx))
 ·cases h3
def sc (t:TV):Bool:=match t with|.l _=>false|.a _=>false|.tp _=>false|.pW _ _=>false|_=>true
theorem nH {d:Nat} {H:av} {v a:AV} (h:aN (d+1) H v=some a) (hi:∀cs n c,a≠.b5 cs n c) (ha:∀cs,a≠.agg cs) (ht:∀cs,a≠.dL cs):v=a:=by
 cases v with
 |ref id g off es len cap ex=>
  rw [ei] at h;split at h
  ·rw [cond_eq_ite] at h;split at h
   ·split at h
    ·split at h
     ·cases h;exact absurd rfl (hi _ _ _)
     ·cases h
    ·cases h
   ·cases h
  ·cases h
 |agg cs=>
  rw [eR] at h;split at h
  ·cases h;exact absurd rfl (ha _)
  ·cases h
 |dL cs=>
  rw [fF] at h;split at h
  ·cases h;exact absurd rfl (ht _)
  ·cases h
 |ptr=>cases h
 |j7=>cases h
 |_=>exact O8 h
theorem gJ {t:TV} {a v:AV} (h:Can t a) (hs:sc t=true) {d:Nat} {H:av} (him:aN (d+1) H v=some a):own (d+1) H v=true:=by
 cases h<;>first|(cases hs;done)|skip
 all_goals
  have:=nH him (fun _ _ _ h=>by cases h) (fun _ h=>by cases h) (fun _ h=>by cases h);subst this;rfl
theorem yd {ts:List TV} {as vs:List AV} {d:Nat} {H:av} (f:TV->Bool) (ho:∀t a v,Can t a->f t=true->aN d H v=some a->own d H v=true) (hc:eC ts as) (hs:∀t∈ts,f t=true) (hm:cr (aN d H) vs=some as):bx (own d H) vs=true:=by
 rw [aJ];intro v hv;obtain⟨j,hj⟩:=List.getElem?_of_mem hv;obtain⟨hl,hat⟩:=eU hm;obtain⟨a,ha,him⟩:=hat j v hj;have hlt:j < ts.length:=by rw [hc.1];exact(Ow.1 ha).1
 exact ho _ a v (hc.2 j _ a (Ov hlt) ha) (hs _ (OE hlt)) him
theorem tu {t:TV} {a v:AV} (h:Can t a) (hs:t.zQ=true) {d:Nat} {H:av} (him:aN (d+2) H v=some a):own (d+2) H v=true:=by
 cases h with
 |a ts as hl hf hh=>
  have hs':=aJ.1 hs;cases v with
  |agg cs=>
   rw [eR] at him;split at him
   ·rename_i cs' hm;cases him;rw [zX];exact yd sc (fun t a v h1 h2 h3=>gJ h1 h2 h3) ⟨hl,hh⟩ (fun t ht=>hs' t ht) hm
   ·cases him
  |ref id g off es len cap ex=>
   rw [ei] at him;split at him
   ·rw [cond_eq_ite] at him;split at him
    ·split at him
     ·split at him<;>cases him
     ·cases him
    ·cases him
   ·cases him
  |dL cs=>rw [fF] at him;split at him<;>cases him
  |_=>cases him
 |tp ts as hl hf hh=>cases hs
 |pW x u hf h=>cases hs
 |nil=>cases hs
 |b5=>cases hs
 |i k n=>exact gJ (.i k n) rfl him
 |b x=>exact gJ (.b x) rfl him
 |s x=>exact gJ (.s x) rfl him
 |f n=>exact gJ (.f n) rfl him
 |np=>exact gJ .np rfl him
theorem B6 {t:TV} {a v:AV} (h:Can t a) (hs:t.AY=true) {d:Nat} {H:av} (him:aN (d+3) H v=some a):own (d+3) H v=true:=by
 cases h with
 |tp ts as hl hf hh=>
  have hs':=aJ.1 hs;cases v with
  |dL cs=>
   rw [fF] at him;split at him
   ·rename_i cs' hm;cases him;rw [zW];exact yd TV.zQ (fun t a v h1 h2 h3=>tu h1 h2 h3) ⟨hl,hh⟩ (fun t ht=>hs' t ht) hm
   ·cases him
  |ref id g off es len cap ex=>
   rw [ei] at him;split at him
   ·rw [cond_eq_ite] at him;split at him
    ·split at him
     ·split at him<;>cases him
     ·cases him
    ·cases him
   ·cases him
  |agg cs=>rw [eR] at him;split at him<;>cases him
  |_=>cases him
 |a ts as hl hf hh=>exact tu (.a ts as hl hf hh) hs him
 |nil=>cases hs
 |b5=>cases hs
 |i k n=>exact gJ (.i k n) rfl him
 |b x=>exact gJ (.b x) rfl him
 |s x=>exact gJ (.s x) rfl him
 |f n=>exact gJ (.f n) rfl him
 |pW x u hf h=>cases hs
 |np=>exact gJ .np rfl him
theorem uF {ts:List TV} {Q:TV->Prop} {f:Nat} {vs as':List AV} {H:av} {nx:Nat} {p:Bool} (h:VS prog f ts fun r=>lT p r/\Q r) (h1:cr (aN deep H) vs=some as') (h2:eC ts as')
  (h3:bx AV.plain vs=true->as'=vs) (h4:p=true->bx AV.plain vs=true):∃v r,bH (aM prog) f vs .borrow H nx=some (v,H,nx)/\Can r v/\Q r:=by
 obtain⟨v,H',nx',g1,a,g2,r,g3,g4,g5⟩:=h as' h2;by_cases hp:bx AV.plain vs=true
 ·have e:=h3 hp;subst e;refine⟨a,r,?_,g3,g5⟩;have hend:dY (some (v,H',nx')) false=some a:=by
   simp only [dY,cond_eq_ite];rw [if_neg (by decide)];by_cases hv:v.plain=true
   ·rw [if_pos hv];have:aN deep H' v=some v:=gz hv 27 _;rw [this] at g2;exact g2
   ·rw [if_neg hv];exact g2
  simp only [bH,hp,cond_true,g1,hend]
 ·have hpf:p=false:=by cases p with|true=>exact absurd (h4 rfl) hp|false=>rfl
  subst hpf;refine⟨a,r,?_,g3,g5⟩;have ho:own deep H' v=true:=B6 (d:=27) g3 g4 g2;have hpb:bx AV.plain vs=false:=by simpa using hp
  simp only [bH,hpb,cond_false,h1,g1,dY,cond_true,ho,g2]
theorem zu {ts:List TV} {Q:TV->Prop} {f:Nat} {vs as':List AV} {H:av} {nx:Nat} (h:Kt prog f ts Q) (h1:cr (aN deep H) vs=some as') (h2:eC ts as')
  (h3:bx AV.plain vs=true->as'=vs):∃v r,bH (aM prog) f vs .borrow H nx=some (v,H,nx)/\Can r v/\Q r:=by
 obtain⟨v,H',nx',g1,ho,a,g2,r,g3,g5⟩:=h as' h2;by_cases hp:bx AV.plain vs=true
 ·have e:=h3 hp;subst e;refine⟨a,r,?_,g3,g5⟩;have hend:dY (some (v,H',nx')) false=some a:=by
   simp only [dY,cond_eq_ite];rw [if_neg (by decide)];by_cases hv:v.plain=true
   ·rw [if_pos hv];have:aN deep H' v=some v:=gz hv 27 _;rw [this] at g2;exact g2
   ·rw [if_neg hv];exact g2
  simp only [bH,hp,cond_true,g1,hend]
 ·refine⟨a,r,?_,g3,g5⟩;have hpb:bx AV.plain vs=false:=by simpa using hp
  simp only [bH,hpb,cond_false,h1,g1,dY,cond_true,ho,g2]
theorem vh {sh:Sh} (hR:R A V st) (ha:act g) {f:Nat} {args:List aH} (h:sq sh prog nt V d g f args k):∃v,bH (aM prog) f (args.map (ev st.env)) .borrow st.H st.nx=some (v,st.H,st.nx)/\Next nt A V st d v st.H st.nx k:=by
 obtain⟨p,ts,as',hk,h1,h2,h3,h4⟩:=uM hR ha args _ h;cases g with
 |none=>
  dsimp only at hk;split at hk
  ·obtain⟨v,r,g1,g2,g3⟩:=uF (nx:=st.nx) hk h1 h2 h3 h4;exact⟨v,g1,ay hR (fun _=>.tr g2) g3⟩
  ·obtain⟨v,r,g1,g2,g3⟩:=zu (nx:=st.nx) hk h1 h2 h3;exact⟨v,g1,ay hR (fun _=>.tr g2) g3⟩
 |some q=>
  obtain⟨c,bb⟩:=q;obtain⟨r,hg,hput⟩:=hk;have hc:c=.b bb:=ha;subst hc;have hg':VS prog f ts fun r'=>r'=r/\lT p r:=by unfold gV at hg;cases bb<;>exact hg
  have hg'':VS prog f ts fun r'=>lT p r'/\r'=r:=hg'.mono (fun r' ⟨e,hs⟩=>by subst e;exact⟨hs,rfl⟩)
  obtain⟨v,r',g1,g2,g3⟩:=uF (nx:=st.nx) hg'' h1 h2 h3 h4;subst g3;exact⟨v,g1,ay hR (fun _=>.tr g2) hput⟩
end
end Go.Ax.V
namespace Go.Ax.V
section
variable {prog:Map aq} {nt:Nat}
section
variable {A:aX} {V:aF} {st:St}
theorem zS (hR:R A V st) {n:Nat} {k:TV->Prop} (h:iu V none (.t n) k):∃c a,st.env.get n=some a/\Can c a/\k c:=by
 obtain⟨c,h1,h2⟩:=bN (g:=none) hR trivial h;simp only [iu,dw] at h;split at h
 ·cases h
 ·rename_i e he;obtain⟨a,ha,_⟩:=hR.env n e he;rw [vu ha] at h1;exact⟨c,a,ha,h1,h2⟩
end
theorem gK {A:aX} {V:aF} {st:St} (h:R A V st) {t:Nat} {w:VV} {a:AV} (ha:st.env.get t=some a) (hw:VR A w a):R A (fN V t w) st where
 env t' e he:=by
  simp only [fN,Map.au] at he;split at he
  ·rename_i ht;subst ht;cases he;exact⟨a,ha,fun _=>hw⟩
  ·exact h.env t' e he
 heap:=h.heap
 inj:=h.inj
 used:=h.used
 one:=h.one
 fresh:=h.fresh
 eI:=h.eI
theorem tV {A0:aX} {Vc:aF} {st:St} (hR:R A0 Vc st) {O:Nat} {o:VO} {k:aF->Prop} {a:AV} {inn:Nat->Option AV} {I:Nat->Prop} (h:nu Vc O o k) (hi1:∀j x,inn j=some x->x.one=true)
  (hO:∀A':aX,(∀O x,A0 O=some x->A' O=some x)->(∀j,A' (.i O 0 j)=inn j)->(∀v j,0 < v->A' (.i O v j)=none)->OR A' st.H o a/\fY A' O a o/\∀id,cY A' o a id->I id) (h1:a.one=true)
  (hI:∀id,I id->¬b6 Vc A0 id):∃Vc' A',k Vc'/\R A' Vc' st/\(∀O' x,A0 O'=some x->A' O'=some x)/\A' O=some a/\Vc'.env=Vc.env/\(∀id,b6 Vc' A' id->b6 Vc A0 id\/I id)/\Vc'.H.get O=some o/\
   (∀(O':Nat) x,A' O'=some x->A0 O'=some x\/O'=O)/\(∀n x,A' n=some x->A0 n=some x\/Vc.us.get n.base=none):=by
 unfold nu at h;split at h
 ·cases h
 rename_i hus;have hnone:∀n:TN,n.base=O->A0 n=none:=fun n hn=>hR.used n (by rw [hn];exact hus)
 have hA':=oO (a:=a) (inn:=inn) hnone;obtain⟨g1,g2,g3⟩:=hO (ju A0 O a inn) hA' (fun j=>Dv) (fun v j hv=>Am hv);refine⟨_,ju A0 O a inn,h,FZ hR.env hR.heap hR.inj hR.used hR.one hR.fresh hR.eI hus h1 hi1 g1 g2 (fun id hi=>hI id (g3 id hi)),hA',jU,rfl,fun id ⟨O',o',x,ho,hx,hi⟩=>?_,by simp only [Map.au,if_pos],fun O' x hx=>?_,fun n x hx=>?_⟩
 ·simp only [Map.au] at ho;by_cases e:O'=O
  ·subst e;rw [if_pos rfl] at ho;cases ho;rw [jU] at hx;cases hx;exact .inr (g3 id hi)
  ·rw [if_neg e] at ho;have hx':A0 O'=some x:=by rwa [dQ (n:=.s O') e] at hx
   rw [kR e (hR.eI O' _ _ ho hx')] at hi;exact .inl ⟨O',o',x,ho,hx',hi⟩
 ·by_cases e:O'=O
  ·exact .inr e
  ·exact .inl (by rwa [dQ (n:=.s O') e] at hx)
 ·by_cases e:n.base=O
  ·exact .inr (by rw [e];exact hus)
  ·exact .inl (by rwa [dQ e] at hx)
theorem xb {A0:aX} {Vc:aF} {st:St} (hR:R A0 Vc st) {O:Nat} {o:VO} {k:aF->Prop} {a:AV} (h:nu Vc O o k) (hO:∀A':aX,(∀O x,A0 O=some x->A' O=some x)->OR A' st.H o a) (h1:a.one=true)
  (hid:∀id,bV a=some id->¬b6 Vc A0 id) (hpl:o.pl=true:=by rfl):∃Vc' A',k Vc'/\R A' Vc' st/\(∀O' x,A0 O'=some x->A' O'=some x)/\A' O=some a/\Vc'.env=Vc.env/\(∀id,b6 Vc' A' id->b6 Vc A0 id\/bV a=some id)/\Vc'.H.get O=some o/\
   (∀(O':Nat) x,A' O'=some x->A0 O'=some x\/O'=O):=
 let ⟨Vc',A',g1,g2,g3,g4,g5,g6,g7,g8,_⟩:=tV (inn:=fun _=>none) hR h (fun j x h=>by cases h) (fun A' h2 _ _=>⟨hO A' h2,mg hpl,fun id hi=>(b9 hpl).1 hi⟩) h1 hid
 ⟨Vc',A',g1,g2,g3,g4,g5,g6,g7,g8⟩
def Told (H:av) (sz:Nat) (es:List TV) (x:AV) (inn:Nat->Option AV) (I:Nat->Prop):Prop:=
 (∀j y,inn j=some y->y.one=true)/\∀(A':aX) (t:Nat),(∀j,A' (.i t 0 j)=inn j)->(∀v j,0 < v->A' (.i t v j)=none)->OR A' H (jc t sz es) x/\fY A' t x (jc t sz es)/\∀id,cY A' (jc t sz es) x id->I id
theorem jq {A0:aX} {Vc:aF} {st:St} (hR:R A0 Vc st) {O sz:Nat} {es:List TV} {k:aF->Prop} {a:AV} {inn:Nat->Option AV} {I:Nat->Prop} (h:nu Vc O (jc O sz es) k) (hT:Told st.H sz es a inn I) (h1:a.one=true) (hI:∀id,I id->¬b6 Vc A0 id) :
  ∃Vc' A',k Vc'/\R A' Vc' st/\(∀O' x,A0 O'=some x->A' O'=some x)/\A' O=some a/\Vc'.env=Vc.env/\(∀id,b6 Vc' A' id->b6 Vc A0 id\/I id)/\Vc'.H.get O=some (jc O sz es)/\
   (∀(O':Nat) x,A' O'=some x->A0 O'=some x\/O'=O)/\(∀n x,A' n=some x->A0 n=some x\/Vc.us.get n.base=none):=
 tV hR h hT.1 (fun A' _ h2 h3=>hT.2 A' O h2 h3) h1 hI
structure AJ (V:aF) (A:aX) (Vc:aF) (A0:aX) (st:St):Prop where
 old:R A V st
 new:R A0 Vc st
 apart:∀id,b6 V A id->¬b6 Vc A0 id
def yg (A0 A:aX):Prop:=∀(O:Nat) id,A0 O=some (.ptr id 0 0)->A O=some (.ptr id 0 0)
theorem CL {sz:Nat} (h:Nat.blt sz Dr=true) (hp:ep sz=true):0 < sz:=by unfold ep at hp;rw [h] at hp;simpa using hp
theorem CM {sz:Nat} (h:Nat.blt sz Dr=false) (hp:ep sz=true):0 < Bj sz/\E3 sz < Bj sz/\0 < D_ sz:=by unfold ep at hp;rw [h] at hp;simpa using hp
theorem BX {H:av} {sz:Nat} {x:AV} {I:Nat->Prop} (hp:ep sz=true) (hx:x=.ak\/x=.b5 [] 0 (some 0)):Told H sz [] x (fun _=>none) I:=by
 have hi:∀id,bV x=some id->False:=fun id h=>by rcases hx with rfl|rfl<;>cases h
 refine⟨fun j y h=>(by cases h),fun A' t h1 h2=>?_⟩;unfold jc;cases hb:Nat.blt sz Dr with
 |true=>exact⟨⟨CL hb hp,.inl ⟨rfl,hx⟩⟩,trivial,fun id h=>(hi id ((b9 rfl).1 h)).elim⟩
 |false=>
  obtain⟨p1,p2,p3⟩:=CM hb hp;refine⟨⟨p1,p2,p3,.inl ⟨rfl,hx⟩⟩,⟨rfl,h2,fun j x hj=>(by rw [h1] at hj;cases hj),fun j j' x x' id _ _ hj=>(by rw [h1] at hj;cases hj),fun j x id _ hj=>(by rw [h1] at hj;cases hj)⟩,fun id h=>?_⟩;rcases h with h|⟨j,y,_,hj,_⟩
  ·exact(hi id h).elim
  ·rw [h1] at hj;cases hj
theorem lg {V:aF} {A:aX} {Vc:aF} {A0:aX} {st:St} (h:AJ V A Vc A0 st) {sz:Nat} {w:VV} {x:AV} (hw:uP A w x) {k:List TV->aF->Prop} (hk:gI V sz w k) :
  ∃es V',k es V'/\V'=jX V w/\Sub V V'/\(ep sz=true->∃inn,Told st.H sz es x inn fun id=>b6 V A id/\¬b6 V' A id)/\x.one=true/\(∀id,x≠.ptr id 0 0):=by
 cases w<;>first|(cases hk;done)|skip
 ·refine⟨[],V,hk,rfl,Sub.refl V,fun hz=>⟨_,BX hz hw⟩,?_,?_⟩<;>rcases hw with rfl|rfl<;>first|rfl|(intro id hi;cases hi)
 ·rename_i O;have hA:A O=some x:=hw;simp only [gI] at hk;split at hk
  ·rename_i z es ho;split at hk;rotate_left
   ·cases hk
   rename_i hb;obtain⟨rfl,hk2⟩:=aU hk;obtain⟨y,hy,hs⟩:=h.old.heap O _ ho;rw [hA] at hy;cases hy;refine⟨es,_,hk2,rfl,bt V O,fun _=>⟨fun _=>none,fun j y h=>(by cases h),fun A' t _ _=>?_⟩,h.old.one O x hA,fun id e=>?_⟩
   ·unfold jc;rw [hb];refine⟨hs,trivial,fun id hi=>?_⟩;have hi':cY A (.gr z es) x id:=.inl ((b9 rfl).1 hi);exact⟨⟨O,_,x,ho,hA,hi'⟩,cX h.old ho hA hi'⟩
   ·rcases hs.2 with ⟨_,e'|e'⟩|⟨_,_,_,_,e',_⟩<;>(rw [e] at e';cases e')
  ·rename_i K s io iz ver es ho;split at hk;rotate_left
   ·cases hk
   rename_i hsz;simp only [Bh,OV,OX,OY] at hsz;obtain⟨hb,rfl,rfl,rfl⟩:=hsz;obtain⟨y,hy,hs⟩:=h.old.heap O _ ho;rw [hA] at hy;cases hy;obtain⟨rfl,hv1,hv0,hv2,hv3⟩:=h.old.eI O _ _ ho hA;refine⟨es,_,hk,rfl,bt V K,fun _=>⟨fun j=>if j < es.length then A (.i K ver j) else none,fun j y hj=>?_,fun A' t h1 h2=>?_⟩,h.old.one K x hA,fun id e=>?_⟩
   ·simp only at hj;split at hj
    ·exact h.old.one _ _ hj
    ·cases hj
   ·unfold jc;rw [hb];have e1:∀j,j < es.length->A' (.i t 0 j)=A (.i K ver j):=fun j hj=>(h1 j).trans (if_pos hj)
    have e2:∀j y,A' (.i t 0 j)=some y->j < es.length/\A (.i K ver j)=some y:=fun j y hy=>by
     rw [h1] at hy;simp only at hy;split at hy
     ·rename_i hj;exact⟨hj,hy⟩
     ·cases hy
    obtain⟨q1,q2,q3,q4⟩:=hs;refine⟨⟨q1,q2,q3,q4.imp (fun h=>h) ?_⟩,⟨rfl,h2,fun j x hx=>?_,fun j j' x x' id _ _ hx hx'=>?_,fun j x id _ hx=>?_⟩,fun id hi=>?_⟩
    ·rintro⟨id,g,b,cells,rfl,p1,p2,p3⟩;refine⟨id,g,b,cells,rfl,p1,p2,p3.len,fun j e he=>?_⟩;obtain⟨ts,g1,g2,g3,y,g4,g5,g6⟩:=p3.el j e he;exact⟨ts,g1,g2,g3,y,g4,by rw [e1 j (Ow.1 he).1];exact g5,g6⟩
    ·exact(e2 j x hx).1
    ·exact hv2 j j' x x' id (by simp) (by simp) (e2 j x hx).2 (e2 j' x' hx').2
    ·exact hv3 j x id (by simp) (e2 j x hx).2
    ·have hi':cY A (.gn K (Bj sz) (E3 sz) (D_ sz) ver none es) x id:=by
      rcases hi with hi|⟨j,y,p1,p2,p3⟩
      ·exact .inl hi
      ·exact .inr ⟨j,y,by simp,(e2 j y p2).2,p3⟩
     exact⟨⟨K,_,x,ho,hA,hi'⟩,cX h.old ho hA hi'⟩
   ·rcases hs.2.2.2 with ⟨_,e'|e'⟩|⟨_,_,_,_,e',_⟩<;>(rw [e] at e';cases e')
  ·cases hk
theorem AJ.sub {V V':aF} {A:aX} {Vc:aF} {A0:aX} {st:St} (h:AJ V A Vc A0 st) (hs:Sub V V'):AJ V' A Vc A0 st:=
 ⟨hs.r h.old,h.new,fun id ho=>h.apart id (hs.own ho)⟩
theorem gy {l:List (Nat×Nat)}:∀{ovs:List (Nat×VV)},kI ovs l=true->∀j w,bp j ovs=some w->c_ j l=true
 |[],h,j,w,ho=>by simp [bp] at ho
 |(i,w')::r,h,j,w,ho=>by
  simp only [kI,OV] at h;rw [aY] at ho;split at ho
  ·rename_i e;subst e;exact h.1
  ·exact gy h.2 j w ho
theorem gP {O j:Nat}:∀{l:List (Nat×Nat)},bp j (iR O l)=if c_ j l=true then some (.sl (uW O j)) else none
 |[]=>by simp [iR,bp,c_]
 |(i,z)::l=>by
  simp only [iR,aY,gP (l:=l),c_,OW,OY];by_cases e:i=j
  ·subst e;simp
  ·rw [if_neg e];by_cases hk:c_ j l=true
   ·rw [if_pos hk,if_pos (.inr hk)]
   ·rw [if_neg hk,if_neg];rintro(h|h)
    ·exact e h.symm
    ·exact hk h
theorem lp {Rt:Type} {O:Nat} {st:St} {ovs:List (Nat×VV)} {cs:List AV} {A:aX} (hsl:∀j w,bp j ovs=some w->∃x,cs[j]?=some x/\uP A w x):∀(offs:List (Nat×Nat)) (V Vc:aF) (A0:aX) (I:JL offs Rt) (k kc:Rt->aF->Prop),
  (∀p∈offs,ep p.2=true)->AJ V A Vc A0 st->iH V ovs offs I k->D0 O offs Vc I kc->∃i V' Vc' A',k i V'/\kc i Vc'/\V'=kn V ovs offs/\AJ V' A Vc' A' st/\yg A' A0/\Sub V V'/\(∀O' x,A0 O'=some x->A' O'=some x)/\Vc'.env=Vc.env/\
   (∀id,b6 Vc' A' id->b6 Vc A0 id\/b6 V A id)/\(∀j,c_ j offs=true->∃x,cs[j]?=some x/\A' (uW O j)=some x)
 |[],V,Vc,A0,I,k,kc,hz,h,hk,hkc=>⟨I,V,Vc,A0,hk,hkc,rfl,h,fun _ _ h=>h,Sub.refl V,fun _ _ h=>h,rfl,fun id h=>.inl h,fun j hj=>by cases hj⟩
 |(off,sz)::offs,V,Vc,A0,I,k,kc,hz,h,hk,hkc=>by
  simp only [iH] at hk;split at hk
  ·rename_i w hw;obtain⟨x,hx,hs⟩:=hsl off w hw;obtain⟨es,V1,hk1,hV1,hs1,qxE,hone,hnp⟩:=lg h hs hk;have qzB:=hkc es;obtain⟨inn,hT⟩:=qxE (hz (off,sz) ON);obtain⟨Vc1,A1,qzA,hR1,hA1,hAo,qxp,hown,_,qxz,_⟩:=jq h.new qzB hT hone (fun id hi=>h.apart id hi.1);have h1:AJ V1 A Vc1 A1 st:=⟨hs1.r h.old,hR1,fun id ho hc=>(hown id hc).elim (fun hc=>h.apart id (hs1.own ho) hc) (fun hi=>hi.2 ho)⟩;have hag:yg A1 A0:=fun O' id hO'=>by
    rcases qxz O' _ hO' with hh|rfl
    ·exact hh
    ·rw [hAo] at hO';cases hO';exact absurd rfl (hnp id)
   obtain⟨i,V',Vc',A',g1,g2,g0,g3,g3a,g4,g5,g6,g7,g8⟩:=lp hsl offs V1 Vc1 A1 (I es) k kc (fun p hp=>hz p (OO _ hp)) h1 hk1 qzA;refine⟨i,V',Vc',A',g1,g2,by rw [g0,hV1];simp only [kn,hw],g3,fun O' id hO'=>hag O' id (g3a O' id hO'),hs1.trans g4,fun O' y hy=>g5 _ _ (hA1 _ _ hy),g6.trans qxp,fun id ho=>?_,fun j hj=>?_⟩
   ·rcases g7 id ho with ho|ho
    ·rcases hown id ho with ho|hi
     ·exact .inl ho
     ·exact .inr hi.1
    ·exact .inr (hs1.own ho)
   ·simp only [c_,OW,OY] at hj;rcases hj with rfl|hj
    ·exact⟨x,hx,g5 _ _ hAo⟩
    ·exact g8 j hj
  ·cases hk
theorem jM {st:St} {A:aX}:∀(J:List tf) (V Vc:aF) (A0:aX) (I:JT J Prop) (k:aF->Prop),J.all kU=true->AJ V A Vc A0 st->yg A0 A->pV J V I->k8 J Vc I k->
  ∃Vc' A',k Vc'/\R A' Vc' st/\(∀id,b6 Vc' A' id->b6 Vc A0 id\/b6 V A id)/\AJ (fU J V) A Vc' A' st/\Sub V (fU J V)
 |[],V,Vc,A0,I,k,hp,h,hag,hk,hkc=>⟨Vc,A0,hkc hk,h.new,fun id h=>.inl h,h,Sub.refl V⟩
 |.tr t::J,V,Vc,A0,I,k,hp,h,hag,hk,hkc=>by rw [List.all_cons,OV] at hp;obtain⟨v,a,ha,hc,hk⟩:=zS h.old hk;obtain⟨Vc',A',g1,g2,g3,g4⟩:=jM J V _ A0 (I v) k hp.2 ⟨h.old,gK h.new ha (.tr hc),h.apart⟩ hag hk (hkc v);exact⟨Vc',A',g1,g2,g3,g4⟩
 |.sl t sz::J,V,Vc,A0,I,k,hp,h,hag,hk,hkc=>by
  rw [List.all_cons,OV] at hp;have hz:ep sz=true:=hp.1;have hk':dw V none (.t t) fun w=>gI V sz w fun es V'=>pV J V' (I es):=hk
  simp only [dw] at hk';split at hk'
  ·cases hk'
  rename_i e he;obtain⟨a,ha,hv⟩:=h.old.env t e he;split at hk';rotate_left
  ·cases hk'
  rename_i hg;have hv':=hv (fun c bb hh=>by rw [hg] at hh;cases hh);have hsl:uP A e.v a:=by
   have hne:=hk';unfold gI at hne;generalize e.v=w at hv' hne;cases hv'<;>first|(cases hne;done)|skip
   ·exact .inl rfl
   ·exact .inr rfl
   ·assumption
  obtain⟨es,V1,hk1,hV1,hs1,qxE,hone,hnp⟩:=lg h hsl hk';have qzB:=hkc es;obtain⟨inn,hT⟩:=qxE hz;obtain⟨Vc1,A1,qzA,hR1,hA1,hAo,qxp,hown,_,qxz,_⟩:=jq h.new qzB hT hone (fun id hi=>h.apart id hi.1);have h1:AJ V1 A (fN Vc1 t (.sl t)) A1 st:=⟨hs1.r h.old,gK hR1 ha (.sl hAo),fun id ho hc=>(hown id hc).elim (fun hc=>h.apart id (hs1.own ho) hc) (fun hi=>hi.2 ho)⟩;have qkv:yg A1 A:=fun O' id hO'=>by
   rcases qxz O' _ hO' with hh|rfl
   ·exact hag O' id hh
   ·rw [hAo] at hO';cases hO';exact absurd rfl (hnp id)
  obtain⟨Vc',A',g1,g2,g3,g4,g5⟩:=jM J V1 _ A1 (I es) k hp.2 h1 qkv hk1 qzA;have hvv:cm V (.t t)=e.v:=by simp only [cm,he]
  have qxa:fU (.sl t sz::J) V=fU J V1:=by simp only [fU];rw [hvv,hV1]
  refine⟨Vc',A',g1,g2,fun id ho=>?_,by rw [qxa];exact g4,by rw [qxa];exact hs1.trans g5⟩;rcases g3 id ho with ho|ho
  ·rcases hown id ho with ho|hi
   ·exact .inl ho
   ·exact .inr hi.1
  ·exact .inr (hs1.own ho)
 |.pt t O off::J,V,Vc,A0,I,k,hp,h,hag,hk,hkc=>by
  rw [List.all_cons,OV] at hp;simp only [k8] at hkc;split at hkc;rotate_left
  ·cases hkc
  rename_i v ovs hO;obtain⟨y,hy,id,cs,ts,rfl,hH,hc⟩:=h.new.heap O _ hO;have qkt:=hag O id hy;have hk':dw V none (.t t) fun w=>match w with
   |.ptr O' off'=>same O' O (same off' off (pV J V I))
   |_=>False:=hk
  simp only [dw] at hk';split at hk'
  ·cases hk'
  rename_i e he;obtain⟨a,ha,hv⟩:=h.old.env t e he;split at hk';rotate_left
  ·cases hk'
  rename_i hg;have hv':=hv (fun c bb hh=>by rw [hg] at hh;cases hh);generalize e.v=w at hv' hk';cases hv'<;>first|(cases hk';done)|skip
  rename_i O' off' id' hO';obtain⟨rfl,hk'⟩:=aU hk';obtain⟨rfl,hk'⟩:=aU hk';rw [qkt] at hO';cases hO';obtain⟨Vc',A',g1,g2,g3,g4⟩:=jM J V _ A0 I k hp.2 ⟨h.old,gK h.new ha (.ptr hy),h.apart⟩ hag hk' hkc;exact⟨Vc',A',g1,g2,g3,g4⟩
 |.ps t t0::J,V,Vc,A0,I,k,hp,h,hag,hk,hkc=>by
  rw [List.all_cons,OV] at hp;have hk':dw V none (.t t0) fun w0=>dw V none (.t t) fun w=>match w0 with
   |.sl O=>(match w with
    |.sl O'=>same O' O (pV J V I)
    |_=>False)
   |_=>False:=hk
  simp only [dw] at hk';split at hk'
  ·cases hk'
  rename_i e0 he0;obtain⟨a0,ha0,hv0⟩:=h.old.env t0 e0 he0;split at hk';rotate_left
  ·cases hk'
  rename_i hg0;have qjY:=hv0 (fun c bb hh=>by rw [hg0] at hh;cases hh);split at hk'
  ·cases hk'
  rename_i e he;obtain⟨a,ha,hv⟩:=h.old.env t e he;split at hk';rotate_left
  ·cases hk'
  rename_i hg;have hv':=hv (fun c bb hh=>by rw [hg] at hh;cases hh);generalize e0.v=w0 at qjY hk';cases qjY<;>first|(cases hk';done)|skip
  rename_i O hO0;generalize e.v=w at hv' hk';cases hv'<;>first|(cases hk';done)|skip
  rename_i O' hO;have hk2:same O' O (pV J V I):=hk';clear hk';obtain⟨rfl,hk'⟩:=aU hk2;rw [hO0] at hO;cases hO;simp only [k8] at hkc;split at hkc;rotate_left
  ·cases hkc
  rename_i c hc;split at hkc;rotate_left
  ·cases hkc
  rename_i hcg;split at hkc;rotate_left
  ·cases hkc
  rename_i P hcv;obtain⟨a',ha',hw⟩:=h.new.env t0 c hc;have hw':=hw (fun c bb hh=>by rw [hcg] at hh;cases hh);rw [ha0] at ha';cases ha';rw [hcv] at hw';obtain⟨Vc',A',g1,g2,g3,g4⟩:=jM J V _ A0 I k hp.2 ⟨h.old,gK h.new ha hw',h.apart⟩ hag hk' hkc;exact⟨Vc',A',g1,g2,g3,g4⟩
 |.ob O offs::J,V,Vc,A0,I,k,hp,h,hag,hk,hkc=>by
  rw [List.all_cons,OV] at hp;have hz:∀p∈offs,ep p.2=true:=fun p hm=>OU.1 hp.1 p hm
  simp only [pV] at hk;split at hk;rotate_left
  ·cases hk
  rename_i v ovs hO;split at hk;rotate_left
  ·cases hk
  rename_i hkeys;obtain⟨y,hy,id,cs,ts,rfl,hH,hc⟩:=h.old.heap O _ hO;have hsl:∀j w,bp j ovs=some w->∃x,cs[j]?=some x/\uP A w x:=fun j w hj=>by have hlt:=hc.keys j w hj;have hx:cs[j]?=some (cs[j]'(by rw [←hc.len];exact hlt)):=Ov _;have:=hc.at_ j _ _ (Ov hlt) hx;rw [hj] at this;exact⟨_,hx,this⟩
  have qxh:=cX h.old hO hy (id:=id) (.inl rfl);have qxu:b6 V A id:=⟨O,_,_,hO,hy,.inl rfl⟩;have h1:AJ (bu V O) A Vc A0 st:=h.sub (bt V O);obtain⟨i,V',Vc',A',g1,g2,g0,g3,g3a,g4,g5,g6,g7,g8⟩:=lp hsl offs (bu V O) Vc A0 (I v) (fun I V'=>pV J V' I) _ hz h1 hk (hkc v);have hor:∀A3:aX,(∀O x,A' O=some x->A3 O=some x)->OR A3 st.H (.ob v (iR O offs)) (.ptr id 0 0):=by
   intro A3 hA3;refine⟨id,cs,ts,rfl,hH,⟨hc.cells,hc.len,fun j w hj=>?_,fun j t x ht hx=>?_⟩⟩
   ·rw [gP] at hj;split at hj
    ·rename_i hh;obtain⟨x,hx,_⟩:=g8 j hh;rw [hc.len];exact(Ow.1 hx).1
    ·cases hj
   ·rw [gP];by_cases hh:c_ j offs=true
    ·rw [if_pos hh];obtain⟨x',hx',hA'⟩:=g8 j hh;rw [hx] at hx';cases hx';exact hA3 _ _ hA'
    ·rw [if_neg hh];have:=hc.at_ j t x ht hx;cases ho:bp j ovs with
     |none=>rw [ho] at this;exact this
     |some w=>exact absurd (gy hkeys j w ho) hh
  obtain⟨Vc2,A2,p1,p2,p3,p4,p5,p6,p7,p8⟩:=xb g3.new (a:=.ptr id 0 0) g2 hor rfl (fun id' hi=>by
   cases hi;intro ho;rcases g7 _ ho with ho|ho
   ·exact h.apart _ qxu ho
   ·exact qxh ho)
  have h2:AJ V' A Vc2 A2 st:=⟨g3.old,p2,fun id' ho hc'=>by
   rcases p6 id' hc' with hc'|hi
   ·exact g3.apart id' ho hc'
   ·cases hi;exact qxh (g4.own ho)⟩
  have qku:yg A2 A:=fun O' id' hO'=>by
   rcases p8 O' _ hO' with hh|rfl
   ·exact hag O' id' (g3a O' id' hh)
   ·rw [p4] at hO';cases hO';exact hy
  obtain⟨Vc3,A3,q1,q2,q3,q4,q5⟩:=jM J V' Vc2 A2 i k hp.2 h2 qku g1 p1;have qxa:fU (.ob O offs::J) V=fU J V':=by simp only [fU,hO];rw [g0]
  refine⟨Vc3,A3,q1,q2,fun id' ho=>?_,by rw [qxa];exact q4,by rw [qxa];exact((bt V O).trans g4).trans q5⟩;rcases q3 id' ho with ho|ho
  ·rcases p6 id' ho with ho|hi
   ·rcases g7 id' ho with ho|ho
    ·exact .inl ho
    ·exact .inr ((bt V O).own ho)
   ·cases hi;exact .inr qxu
  ·exact .inr ((bt V O).own (g4.own ho))
 |.st t offs::J,V,Vc,A0,I,k,hp,h,hag,hk,hkc=>by
  rw [List.all_cons,OV] at hp;have hz:∀p∈offs,ep p.2=true:=fun p hm=>OU.1 hp.1 p hm
  have hk':dw V none (.t t) fun w=>match w with
   |.st v ovs=>(match kI ovs offs with
    |true=>iH (R:=JT J Prop) V ovs offs (I v) fun I V'=>pV J V' I
    |false=>False)
   |_=>False:=hk
  simp only [dw] at hk';split at hk'
  ·cases hk'
  rename_i e he;obtain⟨a,ha,hv⟩:=h.old.env t e he;split at hk';rotate_left
  ·cases hk'
  rename_i hg;have hv':=hv (fun c bb hh=>by rw [hg] at hh;cases hh);have hvv:cm V (.t t)=e.v:=by simp only [cm,he]
  generalize e.v=w at hv' hk' hvv;cases hv'<;>first|(cases hk';done)|skip
  rename_i v ovs cs ts hts hc;simp only at hk';split at hk';rotate_left
  ·cases hk'
  rename_i hkeys;have hsl:∀j w,bp j ovs=some w->∃x,cs[j]?=some x/\uP A w x:=fun j w hj=>by have hlt:=hc.keys j w hj;have hx:cs[j]?=some (cs[j]'(by rw [←hc.len];exact hlt)):=Ov _;have:=hc.at_ j _ _ (Ov hlt) hx;rw [hj] at this;exact⟨_,hx,this⟩
  obtain⟨i,V',Vc',A',g1,g2,g0,g3,g3a,g4,g5,g6,g7,g8⟩:=lp hsl offs V Vc A0 (I v) (fun I V'=>pV J V' I) _ hz h hk' (hkc v);have hcr:aS A' v (iR t offs) cs ts:=by
   refine⟨hc.cells,hc.len,fun j w hj=>?_,fun j t' x ht hx=>?_⟩
   ·rw [gP] at hj;split at hj
    ·rename_i hh;obtain⟨x,hx,_⟩:=g8 j hh;rw [hc.len];exact(Ow.1 hx).1
    ·cases hj
   ·rw [gP];by_cases hh:c_ j offs=true
    ·rw [if_pos hh];obtain⟨x',hx',hA'⟩:=g8 j hh;rw [hx] at hx';cases hx';exact hA'
    ·rw [if_neg hh];have:=hc.at_ j t' x ht hx;cases ho:bp j ovs with
     |none=>rw [ho] at this;exact this
     |some w=>exact absurd (gy hkeys j w ho) hh
  obtain⟨Vc3,A3,q1,q2,q3,q4,q5⟩:=jM J V' (fN Vc' t (.st v (iR t offs))) A' i k hp.2 ⟨g3.old,gK g3.new ha (.st hts hcr),g3.apart⟩ (fun O' id' hO'=>hag O' id' (g3a O' id' hO')) g1 g2;have qxa:fU (.st t offs::J) V=fU J V':=by simp only [fU,hvv];rw [g0]
  refine⟨Vc3,A3,q1,q2,fun id' ho=>?_,by rw [qxa];exact q4,by rw [qxa];exact g4.trans q5⟩;rcases q3 id' ho with ho|ho
  ·rcases g7 id' ho with ho|ho
   ·exact .inl ho
   ·exact .inr ho
  ·exact .inr (g4.own ho)
theorem R.zero {A:aX} {V:aF} {st:St} (h:R A V st):R (fun _=>none) V0 st:=
 ⟨fun t e he=>(by cases he),fun O o ho=>(by cases ho),fun O O' o o' a a' id ho=>(by cases ho),fun _ _=>rfl,fun O a ha=>(by cases ha),h.fresh,fun O o a ho=>(by cases ho)⟩
theorem xg {A:aX} {V:aF} {st:St} (h:R A V st) {J:List tf} {I:JT J Prop} {k:aF->Prop} (hp:J.all kU=true) (hk:pV J V I) (hkc:k8 J V0 I k):∃Vc A',k Vc/\R A' Vc st/\Fr V A st.H st.nx Vc A' st.H st.nx:=by
 have Ba:∀id,¬b6 V0 (fun _=>none) id:=fun id ⟨O,o,a,ho,_⟩=>by cases ho
 obtain⟨Vc,A',g1,g2,g3,_⟩:=jM J V V0 (fun _=>none) I k hp ⟨h,h.zero,fun id _ hc=>Ba id hc⟩ (fun O id hO=>by cases hO) hk hkc;exact⟨Vc,A',g1,g2,⟨Pa _,fun _ _ _=>rfl,fun id ho=>(g3 id ho).elim (fun h=>absurd h (Ba id)) .inl⟩⟩
end
end Go.Ax.V
namespace Go.Ax.V
def D8 (prog:Map aq) (f np:Nat) (Jout:List tf) (Q:JT Jout Prop) (Vc:aF):Prop:=
 ∀(A:aX) (as:List AV) (H:av) (nx:Nat),as.length=np->R A Vc ⟨cJ as 0 .leaf,H,nx⟩->
  ∃v H' nx' A' V',aM prog f as H nx=some (v,H',nx')/\R A' V' ⟨(cJ as 0 .leaf).put (some v) np,H',nx'⟩/\pV Jout V' Q/\Fr Vc A H nx V' A' H' nx'
def Nw (prog:Map aq) (f np:Nat) (Jin Jout:List tf) (Q:JT Jout Prop):JT Jin Prop:=FT Jin V0 (D8 prog f np Jout Q)
def MM (prog:Map aq) (f:Nat) (T:aF->List VV->(VV->aF->Prop)->Prop):Prop:=
 ∀(A:aX) (V:aF) (st:St) (ws:List VV) (as:List AV) (k:VV->aF->Prop),R A V st->ws.length=as.length->(∀(j:Nat) w a,ws[j]?=some w->as[j]?=some a->VR A w a)->T V ws k->
  ∃v H' nx' A' V' w,aM prog f as st.H st.nx=some (v,H',nx')/\R A' V' ⟨st.env,H',nx'⟩/\VR A' w v/\Ext V A V' A'/\Fr V A st.H st.nx V' A' H' nx'/\k w V'
structure n5 (prog:Map aq) (sh:Sh):Prop where
 vs:sh.vs=Nw prog
 inl:∀f T,sh.inl f=some T->MM prog f T
theorem tW {n:Nat}:∀{l:List Nat},lU n l=true↔n∈l
 |[]=>by simp [lU]
 |m::l=>by simp [lU,tW (l:=l)]
theorem lJ {us:Map Unit} {O:Nat} (h:kP us O=true):us.get O=none:=by
 unfold kP at h;split at h
 ·cases h
 ·assumption
theorem kE {V:aF} {O:Nat} {o:VO} {k:aF->Prop} (hf:kP V.us O=true) (h:k (gk V O o)):nu V O o k:=by have hn:=lJ hf;unfold nu;rw [hn];exact h
def BA (V V':aF):Prop:=∀T,V.us.get T=some ()->V'.us.get T=some ()/\V'.H.get T=V.H.get T
theorem oE {V:aF} {O:Nat} {o:VO} (hf:kP V.us O=true):BA V (gk V O o):=by
 intro T hT;have hne:T≠O:=by rintro rfl;rw [lJ hf] at hT;cases hT
 exact⟨by simp only [gk,Map.au,if_neg hne];exact hT,by simp only [gk,Map.au,if_neg hne]⟩
theorem BA.trans {V V1 V2:aF} (h:BA V V1) (h':BA V1 V2):BA V V2:=fun T hT=>let ⟨a,b⟩:=h T hT;let ⟨c,d⟩:=h' T a;⟨c,d.trans b⟩
theorem vU {Rt:Type} {O:Nat}:∀(offs:List (Nat×Nat)) (V:aF) (us:Map Unit) (k:aF->Rt) (kk:Rt->aF->Prop),IS O offs V.us=some us->(∀V',V'.us=us->BA V V'->kk (k V') V')->D0 O offs V (KF O offs V k) kk
 |[],V,us,k,kk,h,hk=>by cases h;exact hk V rfl (fun T hT=>⟨hT,rfl⟩)
 |(off,sz)::offs,V,us,k,kk,h,hk=>by
  simp only [IS,cond_eq_ite] at h;split at h
  ·rename_i hf;intro es;refine kE hf ?_;exact vU offs _ us k kk h (fun V' h1 h2=>hk V' h1 ((oE hf).trans h2))
  ·cases h
theorem lS:∀(J:List tf) (V:aF) (obs:List Nat) (k:aF->Prop),A9 J V.us obs=true->(∀O∈obs,V.us.get O=some ()/\∃v ov,V.H.get O=some (.ob v ov))->k8 J V (FT J V k) k
 |[],V,obs,k,h,ho=>fun hk=>hk
 |.tr t::J,V,obs,k,h,ho=>fun v=>lS J (fN V t (.tr v)) obs k h ho
 |.sl t sz::J,V,obs,k,h,ho=>by simp only [A9,OV] at h;intro es;refine kE h.1 ?_;refine lS J _ obs k h.2 (fun O hO=>?_);obtain⟨h1,v,ov,h2⟩:=ho O hO;obtain⟨h3,h4⟩:=oE (o:=jc t sz es) h.1 O h1;exact⟨h3,v,ov,by rw [←h2];exact h4⟩
 |.pt t O off::J,V,obs,k,h,ho=>by simp only [A9,OV] at h;obtain⟨h1,v,ov,h2⟩:=ho O (tW.1 h.1);simp only [k8,h2];exact lS J (fN V t (.ptr O off)) obs k h.2 ho
 |.ob O offs::J,V,obs,k,h,ho=>by
  simp only [A9] at h;split at h
  ·rename_i us hus;rw [OV] at h;intro v;refine vU offs V us _ _ hus (fun V' hu hkp=>?_);have hf:kP V'.us O=true:=by rw [hu];exact h.1
   refine kE hf ?_;refine lS J _ (O::obs) k (by show A9 J (V'.us.put (some ()) O) (O::obs)=true;rw [hu];exact h.2) (fun O' hO'=>?_);rcases OP.1 hO' with rfl|hO'
   ·exact⟨by simp only [gk,Map.au,if_pos],v,iR O' offs,by simp only [gk,Map.au,if_pos]⟩
   ·obtain⟨h1,v',ov,h2⟩:=ho O' hO';obtain⟨h3,h4⟩:=(hkp.trans (oE (o:=.ob v (iR O offs)) hf)) O' h1;exact⟨h3,v',ov,by rw [←h2];exact h4⟩
  ·cases h
 |.st t offs::J,V,obs,k,h,ho=>by
  simp only [A9] at h;split at h
  ·rename_i us hus;intro v;refine vU offs V us _ _ hus (fun V' hu hkp=>?_);refine lS J _ obs k (by show A9 J V'.us obs=true;rw [hu];exact h) (fun O' hO'=>?_);obtain⟨h1,v',ov,h2⟩:=ho O' hO';obtain⟨h3,h4⟩:=hkp O' h1;exact⟨h3,v',ov,by rw [←h2];exact h4⟩
  ·cases h
 |.ps t t0::J,V,obs,k,h,ho=>by cases h
section
variable {prog:Map aq} {nt:Nat}
theorem oo {A:aX} {V:aF} {st:St} (hR:R A V st) {O:Nat} {o:VO} {a:AV} (hA:A O=some a) (hO:OR A st.H o a) (hid:∀id,bV a=some id->¬b6 V A id) (hpl:o.pl=true:=by rfl) :
  R A (bh V O o) st/\∀id,b6 (bh V O o) A id->b6 V A id\/bV a=some id:=by
 refine⟨⟨hR.env,fun O' o' ho=>?_,fun O1 O2 o1 o2 a1 a2 id ho1 ho2 ha1 ha2 hi1 hi2=>?_,hR.used,hR.one,hR.fresh,fun O' o' x ho hx=>?_⟩,fun id ⟨O',o',x,ho,hx,hi⟩=>?_⟩
 ·simp only [bh,Map.au] at ho;split at ho
  ·rename_i e;subst e;cases ho;exact⟨a,hA,hO⟩
  ·exact hR.heap O' o' ho
 ·simp only [bh,Map.au] at ho1 ho2;by_cases e1:O1=O
  ·by_cases e2:O2=O
   ·rw [e1,e2]
   ·subst e1;rw [if_neg e2] at ho2;rw [if_pos rfl] at ho1;cases ho1;rw [hA] at ha1;cases ha1;exact absurd ⟨O2,_,a2,ho2,ha2,hi2⟩ (hid id ((b9 hpl).1 hi1))
  ·rw [if_neg e1] at ho1;by_cases e2:O2=O
   ·subst e2;rw [if_pos rfl] at ho2;cases ho2;rw [hA] at ha2;cases ha2;exact absurd ⟨O1,_,a1,ho1,ha1,hi1⟩ (hid id ((b9 hpl).1 hi2))
   ·rw [if_neg e2] at ho2;exact hR.inj O1 O2 _ _ a1 a2 id ho1 ho2 ha1 ha2 hi1 hi2
 ·simp only [bh,Map.au] at ho;split at ho
  ·rename_i e;subst e;cases ho;exact mg hpl
  ·exact hR.eI O' o' x ho hx
 ·simp only [bh,Map.au] at ho;by_cases e:O'=O
  ·subst e;rw [if_pos rfl] at ho;cases ho;rw [hA] at hx;cases hx;exact .inr ((b9 hpl).1 hi)
  ·rw [if_neg e] at ho;exact .inl ⟨O',o',x,ho,hx,hi⟩
structure vY (V2:aF) (A2:aX) (st2:St) (Vr:aF) (A:aX) (st:St):Prop where
 old:R A2 V2 st2
 new:R A Vr st
 H:st.H=st2.H
 nx:st.nx=st2.nx
 apart:∀id,b6 V2 A2 id->¬b6 Vr A id
theorem mm {V2 Vr:aF} {A2 A:aX} {st2 st:St} (h:vY V2 A2 st2 Vr A st) {sz:Nat} {w:VV} {x:AV} (hw:uP A2 w x) {k:List TV->aF->Prop} (hk:gI V2 sz w k) :
  ∃es V',k es V'/\Sub V2 V'/\(ep sz=true->∃inn,Told st.H sz es x inn fun id=>b6 V2 A2 id/\¬b6 V' A2 id)/\x.one=true:=by
 obtain⟨es,V',h1,_,h2,h3,h4,h5⟩:=lg (Vc:=V0) (A0:=fun _=>none) (st:=st2) ⟨h.old,h.old.zero,fun id _ ⟨O,o,a,ho,_⟩=>(by cases ho)⟩ hw hk;exact⟨es,V',h1,h2,by rw [h.H];exact h3,h4⟩
theorem mo {Rt:Type} {d:Nat} {st2 st:St} {ovs:List (Nat×VV)} {cs:List AV} {A2:aX} (hsl:∀j w,bp j ovs=some w->∃x,cs[j]?=some x/\uP A2 w x):∀(offs:List (Nat×Nat)) (V2 Vr:aF) (A:aX) (us:Map Unit) (kc:aF->Rt) (k:Rt->aF->Prop),
  (∀p∈offs,ep p.2=true)->vY V2 A2 st2 Vr A st->yU d offs Vr.us=some us->iH V2 ovs offs (DK d offs Vr kc) k->
  ∃V2' Vr' A',k (kc Vr') V2'/\vY V2' A2 st2 Vr' A' st/\Sub V2 V2'/\Vr'.us=us/\(∀O x,A O=some x->A' O=some x)/\(∀id,b6 Vr' A' id->b6 Vr A id\/b6 V2 A2 id)/\(∀j,c_ j offs=true->∃x,cs[j]?=some x/\A' (mh d j)=some x)/\
   (∀n x,A' n=some x->A n=some x\/Vr.us.get n.base=none)/\iE Vr Vr'
 |[],V2,Vr,A,us,kc,k,hz,h,hus,hk=>by cases hus;exact⟨V2,Vr,A,hk,h,Sub.refl V2,rfl,fun _ _ h=>h,fun id h=>.inl h,fun j hj=>(by cases hj),fun _ _ h=>.inl h,iE.refl Vr⟩
 |(off,sz)::offs,V2,Vr,A,us,kc,k,hz,h,hus,hk=>by
  simp only [yU,cond_eq_ite] at hus;split at hus;rotate_left
  ·cases hus
  rename_i hf;simp only [iH] at hk;split at hk;rotate_left
  ·cases hk
  rename_i w hw;obtain⟨x,hx,hs⟩:=hsl off w hw;obtain⟨es,V1,hk1,hs1,qxE,hone⟩:=mm h hs hk;obtain⟨inn,hT⟩:=qxE (hz (off,sz) ON);obtain⟨Vr1,A1,hV1,hR1,hA1,hAo,qxp,hown,_,qxz,hnew⟩:=jq (k:=fun V'=>V'=gk Vr (mh d off) (jc (mh d off) sz es)) h.new (kE hf rfl) hT hone (fun id hi=>h.apart id hi.1);subst hV1;have hb:vY V1 A2 st2 (gk Vr (mh d off) (jc (mh d off) sz es)) A1 st:=⟨hs1.r h.old,hR1,h.H,h.nx,fun id ho hc=>(hown id hc).elim (fun hc=>h.apart id (hs1.own ho) hc) (fun hi=>hi.2 ho)⟩;obtain⟨V2',Vr',A',g1,g2,g3,g4,g5,g6,g7,g8,g9⟩:=mo hsl offs V1 _ A1 us kc k (fun p hp=>hz p (OO _ hp)) hb hus hk1;have hev:iE Vr (gk Vr (mh d off) (jc (mh d off) sz es)):=iE.name (lJ hf);refine⟨V2',Vr',A',g1,g2,hs1.trans g3,g4,fun O y hy=>g5 _ _ (hA1 _ _ hy),fun id ho=>?_,fun j hj=>?_,fun n x hx=>(g8 n x hx).elim (fun h=>hnew n x h) (fun h=>.inr (hev.us _ h)),hev.trans g9⟩
  ·rcases g6 id ho with ho|ho
   ·rcases hown id ho with ho|hi
    ·exact .inl ho
    ·exact .inr hi.1
   ·exact .inr (hs1.own ho)
  ·simp only [c_,OW,OY] at hj;rcases hj with rfl|hj
   ·exact⟨x,hx,g5 _ _ hAo⟩
   ·exact g7 j hj
theorem nh {d j:Nat}:∀{l:List (Nat×Nat)},bp j (pX d l)=if c_ j l=true then some (.sl (mh d j)) else none
 |[]=>by simp [pX,bp,c_]
 |(i,z)::l=>by
  simp only [pX,aY,nh (l:=l),c_,OW,OY];by_cases e:i=j
  ·subst e;simp
  ·rw [if_neg e];by_cases hk:c_ j l=true
   ·rw [if_pos hk,if_pos (.inr hk)]
   ·rw [if_neg hk,if_neg];rintro(h|h)
    ·exact e h.symm
    ·exact hk h
theorem zU {A:aX} {V:aF} {st:St} (hR:R A V st) {n:Nat} {k:VV->Prop} (h:dw V none (.t n) k):∃e a,V.env.get n=some e/\st.env.get n=some a/\VR A e.v a/\k e.v:=by
 simp only [dw] at h;split at h
 ·cases h
 rename_i e he;obtain⟨a,ha,hv⟩:=hR.env n e he;split at h
 ·rename_i hg;exact⟨e,a,he,ha,hv (fun c bb hh=>by rw [hg] at hh;cases hh),h⟩
 ·cases h
theorem Ag {d:Nat} {offs:List (Nat×Nat)} {ks:List PK} {w:VV} {ws:List VV} {ims:List HE} (h:cx d (.ob offs::ks) (w::ws)=some ims):∃O l,w=.ptr O 0/\cx d ks ws=some l/\ims=.ob O d::.pt::l:=by
 cases w with
 |ptr O off=>
  cases off with
  |zero=>
   simp only [cx] at h;split at h
   ·rename_i l hl;cases h;exact⟨O,l,rfl,hl,rfl⟩
   ·cases h
  |succ n=>simp [cx] at h
 |_=>simp [cx] at h
theorem Af {d sz:Nat} {ks:List PK} {w:VV} {ws:List VV} {ims:List HE} (h:cx d (.sl sz::ks) (w::ws)=some ims):∃O l,w=.sl O/\cx d ks ws=some l/\ims=.sl O::l:=by
 cases w with
 |sl O=>
  simp only [cx] at h;split at h
  ·rename_i l hl;cases h;exact⟨O,l,rfl,hl,rfl⟩
  ·cases h
 |_=>simp [cx] at h
theorem vv {V:aF} {t:Nat} {w:VV}:iE V (fN V t w):=iE.HH rfl (fun _ _ h=>h)
theorem ql {np d:Nat} {rk:RK} {k:aF->Prop} {v:AV} {st2 st:St}:∀(ks:List PK) (i:Nat) (ws:List VV) (as:List AV) (ims:List HE) (V2 Vr:aF) (A2 A:aX),cx d ks ws=some ims->(gi np rk ks i).all kU=true->CW nt (gi np rk ks i) ims Vr.us=true->
  vY V2 A2 st2 Vr A st->(∀(j:Nat) w a,ws[j]?=some w->as[j]?=some a->VR A w a)->ws.length=as.length->(∀(j:Nat) a,as[j]?=some a->st2.env.get (i+j)=some a)->st2.env.get np=some v->st.env.get d=some v->
  pV (gi np rk ks i) V2 (sJ (gi np rk ks i) ims Vr k)->∃Vr' A',k Vr'/\R A' Vr' st/\(∀O x,A O=some x->A' O=some x)/\(∀id,b6 Vr' A' id->b6 Vr A id\/b6 V2 A2 id)/\Nat.blt d nt=true/\(∀n x,A' n=some x->A n=some x\/Vr.us.get n.base=none)/\iE Vr Vr'
 |[],i,ws,as,ims,V2,Vr,A2,A,him,hp,hok,h,hw,hl,has,hnp,hd,hk=>by
  cases ws with
  |cons _ _=>cases him
  |nil=>
   cases him;cases rk with
   |tr=>have hk0:iu V2 none (.t np) (fun v=>k (fN Vr d (.tr v))):=hk;have qxV:(Nat.blt d nt&&true)=true:=hok;rw [Bool.and_true] at qxV;clear hk hok;obtain⟨u,a,ha,hc,hk1⟩:=zS h.old hk0;rw [hnp] at ha;cases ha;exact⟨_,A,hk1,gK h.new hd (.tr hc),fun _ _ h=>h,fun id ho=>.inl ho,qxV,fun _ _ h=>.inl h,vv⟩
   |sl sz=>
    have hz:ep sz=true:=by simp only [gi,G2,List.all_cons,OV] at hp;exact hp.1
    have hk0:dw V2 none (.t np) (fun w=>gI V2 sz w fun es V'=>k (fN (gk Vr d (jc d sz es)) d (.sl d))):=hk;have qxV:(Nat.blt d nt&&(kP Vr.us d&&true))=true:=hok;rw [Bool.and_true,OV] at qxV;clear hk hok;obtain⟨e,a,he,ha,hv,hk⟩:=zU h.old hk0;rw [hnp] at ha;cases ha;have hsl:uP A2 e.v v:=by
     have hne:=hk;unfold gI at hne;generalize e.v=w at hv hne;cases hv<;>first|(cases hne;done)|skip
     ·exact .inl rfl
     ·exact .inr rfl
     ·assumption
    obtain⟨es,V1,hk1,hs1,qxE,hone⟩:=mm h hsl hk;obtain⟨hlt,hf⟩:=qxV;obtain⟨inn,hT⟩:=qxE hz;obtain⟨Vr1,A1,hV1,hR1,hA1,hAo,qxp,hown,_,qxz,hnew⟩:=jq (k:=fun V'=>V'=gk Vr d (jc d sz es)) h.new (kE hf rfl) hT hone (fun id hi=>h.apart id hi.1);subst hV1;exact⟨_,A1,hk1,gK hR1 hd (.sl hAo),hA1,fun id ho=>(hown id ho).imp (fun h=>h) (fun hi=>hi.1),hlt,hnew,(iE.name (lJ hf)).trans vv⟩
   |st offs=>
    have hz:∀p∈offs,ep p.2=true:=by simp only [gi,G2,List.all_cons,OV] at hp;exact fun p hm=>OU.1 hp.1 p hm
    have hk0:dw V2 none (.t np) (fun w=>match w with
     |.st v ovs=>(match kI ovs offs with
      |true=>iH (R:=Prop) V2 ovs offs (DK (R:=Prop) (l6 d) offs Vr fun V'=>k (fN V' d (.st v (pX (l6 d) offs)))) fun I V'=>I
      |false=>False)
     |_=>False):=hk
    have qxV:(Nat.blt d nt&&(match yU (l6 d) offs Vr.us with
     |some us=>true
     |none=>false))=true:=by
     have h0:(Nat.blt d nt&&(match yU (l6 d) offs Vr.us with
      |some us=>CW nt [] [] us
      |none=>false))=true:=hok
     rw [OV] at h0 ⊢;refine⟨h0.1,?_⟩;have h1:=h0.2;split at h1
     ·rfl
     ·cases h1
    rw [OV] at qxV;clear hk hok;obtain⟨e,a,he,ha,hv,hk⟩:=zU h.old hk0;rw [hnp] at ha;cases ha;obtain⟨hlt,hus⟩:=qxV;split at hus;rotate_left
    ·cases hus
    rename_i us qkb;generalize e.v=w at hv hk;cases hv<;>first|(cases hk;done)|skip
    rename_i v ovs cs ts hts hc;simp only at hk;split at hk;rotate_left
    ·cases hk
    rename_i hkeys;have hsl:∀j w,bp j ovs=some w->∃x,cs[j]?=some x/\uP A2 w x:=fun j w hj=>by have hlt:=hc.keys j w hj;have hx:cs[j]?=some (cs[j]'(by rw [←hc.len];exact hlt)):=Ov _;have:=hc.at_ j _ _ (Ov hlt) hx;rw [hj] at this;exact⟨_,hx,this⟩
    obtain⟨V2',Vr',A',g1,g2,g3,g4,g5,g6,g7,g8,g9⟩:=mo (Rt:=Prop) (d:=l6 d) hsl offs V2 Vr A us _ _ hz h qkb hk;have hcr:aS A' v (pX (l6 d) offs) cs ts:=by
     refine⟨hc.cells,hc.len,fun j w hj=>?_,fun j t' x ht hx=>?_⟩
     ·rw [nh] at hj;split at hj
      ·rename_i hh;obtain⟨x,hx,_⟩:=g7 j hh;rw [hc.len];exact(Ow.1 hx).1
      ·cases hj
     ·rw [nh];by_cases hh:c_ j offs=true
      ·rw [if_pos hh];obtain⟨x',hx',hA'⟩:=g7 j hh;rw [hx] at hx';cases hx';exact hA'
      ·rw [if_neg hh];have:=hc.at_ j t' x ht hx;cases ho:bp j ovs with
       |none=>rw [ho] at this;exact this
       |some w=>exact absurd (gy hkeys j w ho) hh
    exact⟨_,A',g1,gK g2.new hd (.st hts hcr),g5,g6,hlt,g8,g9.trans vv⟩
 |.tr::ks,i,ws,as,ims,V2,Vr,A2,A,him,hp,hok,h,hw,hl,has,hnp,hd,hk=>by
  cases ws with
  |nil=>simp [cx] at him
  |cons w ws=>
   cases as with
   |nil=>cases hl
   |cons a as=>
    have qkl:cx d ks ws=some ims:=by simpa only [cx] using him
    simp only [gi] at hp hok hk;exact ql ks (i+1) ws as ims V2 Vr A2 A qkl hp hok h (fun j w' a' h1 h2=>hw (j+1) w' a' (by simpa using h1) (by simpa using h2)) (Nat.succ.inj hl) (fun j a' h1=>by have:=has (j+1) a' (by simpa using h1);rwa [show i+(j+1)=i+1+j by omega] at this) hnp hd hk
 |.ob offs::ks,i,ws,as,ims,V2,Vr,A2,A,him,hp,hok,h,hw,hl,has,hnp,hd,hk=>by
  cases ws with
  |nil=>simp [cx] at him
  |cons w ws=>
   cases as with
   |nil=>cases hl
   |cons a as=>
    obtain⟨O,l,rfl,qjc,rfl⟩:=Ag him
    ·simp only [gi,List.all_cons,OV] at hp;have hz:∀p∈offs,ep p.2=true:=fun p hm=>OU.1 hp.1 p hm
     simp only [gi,CW] at hok;split at hok;rotate_left
     ·cases hok
     rename_i us hus;have hwa:=hw 0 _ a rfl rfl;cases hwa with
     |@ptr _ _ id hAO=>
     simp only [gi,pV] at hk;split at hk;rotate_left
     ·cases hk
     rename_i v2 ovs hO2;split at hk;rotate_left
     ·cases hk
     rename_i hkeys;obtain⟨y,hy,id2,cs,ts,rfl,hH,hc⟩:=h.old.heap i _ hO2;have hsl:∀j w,bp j ovs=some w->∃x,cs[j]?=some x/\uP A2 w x:=fun j w hj=>by have hlt:=hc.keys j w hj;have hx:cs[j]?=some (cs[j]'(by rw [←hc.len];exact hlt)):=Ov _;have:=hc.at_ j _ _ (Ov hlt) hx;rw [hj] at this;exact⟨_,hx,this⟩
     have qxh:=cX h.old hO2 hy (id:=id2) (.inl rfl);have qxu:b6 V2 A2 id2:=⟨i,_,_,hO2,hy,.inl rfl⟩;have hb1:vY (bu V2 i) A2 st2 Vr A st:=⟨(bt V2 i).r h.old,h.new,h.H,h.nx,fun id' ho=>h.apart id' ((bt V2 i).own ho),⟩;obtain⟨V2',Vr',A',g1,g2,g3,g4,g5,g6,g7,g8,g9⟩:=mo hsl offs (bu V2 i) Vr A us _ _ hz hb1 hus hk;have hk3:dw V2' none (.t i) fun w=>match w with
      |.ptr O' off'=>same O' i (same off' 0 (pV (gi np rk ks (i+1)) V2' (sJ (gi np rk ks (i+1)) l (bh Vr' O (.ob v2 (pX d offs))) k)))
      |_=>False:=g1
     obtain⟨e,a',he,ha',hv',hk3⟩:=zU g2.old hk3;have ha0:=has 0 _ rfl;rw [Nat.add_zero,ha'] at ha0;cases ha0;generalize e.v=w' at hv' hk3;cases w'<;>first|(cases hk3;done)|skip
     rename_i O' off';have hOi:=(aU hk3).1;have hoff:=(aU (aU hk3).2).1;have hk4:=(aU (aU hk3).2).2;clear hk3;have hOi:=hOi.symm;subst hOi;subst hoff;cases hv' with
     |ptr hO'=>
     rw [hy] at hO';cases hO';have qkz:=g5 _ _ hAO;have hor:OR A' st.H (.ob v2 (pX d offs)) (.ptr id 0 0):=by
      refine⟨id,cs,ts,rfl,by rw [h.H];exact hH,⟨hc.cells,hc.len,fun j w hj=>?_,fun j t x ht hx=>?_⟩⟩
      ·rw [nh] at hj;split at hj
       ·rename_i hh;obtain⟨x,hx,_⟩:=g7 j hh;rw [hc.len];exact(Ow.1 hx).1
       ·cases hj
      ·rw [nh];by_cases hh:c_ j offs=true
       ·rw [if_pos hh];obtain⟨x',hx',hA'⟩:=g7 j hh;rw [hx] at hx';cases hx';exact hA'
       ·rw [if_neg hh];have:=hc.at_ j t x ht hx;cases ho:bp j ovs with
        |none=>rw [ho] at this;exact this
        |some w=>exact absurd (gy hkeys j w ho) hh
     obtain⟨p1,p2⟩:=oo g2.new qkz hor (fun id' hi ho=>by
      cases hi;rcases g6 _ ho with ho|ho
      ·exact h.apart _ qxu ho
      ·exact qxh ho)
     have hb2:vY V2' A2 st2 (bh Vr' O (.ob v2 (pX d offs))) A' st:=⟨g2.old,p1,h.H,h.nx,fun id' ho hc'=>(p2 id' hc').elim (fun hc'=>g2.apart id' ho hc') (fun hi=>by cases hi;exact qxh (g3.own ho))⟩;obtain⟨Vr2,A3,q1,q2,q3,q4,q5,q6,q7⟩:=ql ks (i+1) ws as l V2' _ A2 A' qjc hp.2.2 (by rw [show (bh Vr' O (VO.ob v2 (pX d offs))).us=us from g4];exact hok) hb2
      (fun j w' a' h1 h2=>(hw (j+1) w' a' (by simpa using h1) (by simpa using h2)).mono g5) (Nat.succ.inj hl) (fun j a' h1=>by have:=has (j+1) a' (by simpa using h1);rwa [show i+(j+1)=i+1+j by omega] at this) hnp hd hk4
     refine⟨Vr2,A3,q1,q2,fun O x hx=>q3 _ _ (g5 _ _ hx),fun id' ho=>?_,q5,fun n x hx=>(q6 n x hx).elim (fun h=>g8 n x h) (fun h=>.inr (g9.us _ h)),(g9.trans (iE.set rfl)).trans q7⟩;rcases q4 id' ho with ho|ho
     ·rcases p2 id' ho with ho|hi
      ·exact(g6 id' ho).imp (fun h=>h) (bt V2 i).own
      ·cases hi;exact .inr qxu
     ·exact .inr ((bt V2 i).own (g3.own ho))
 |.sl sz::ks,i,ws,as,ims,V2,Vr,A2,A,him,hp,hok,h,hw,hl,has,hnp,hd,hk=>by
  cases ws with
  |nil=>simp [cx] at him
  |cons w ws=>
   cases as with
   |nil=>cases hl
   |cons a as=>
    obtain⟨O,l,rfl,qjc,rfl⟩:=Af him;simp only [gi,List.all_cons,OV] at hp;have hz:ep sz=true:=hp.1;simp only [gi,CW,OV] at hok;obtain⟨hlt,hok⟩:=hok;have hwa:=hw 0 _ a rfl rfl;cases hwa with
    |@sl _ _ hAO=>
    have hk':dw V2 none (.t i) fun w=>gI V2 sz w fun es V'=>pV (gi np rk ks (i+1)) V' (sJ (gi np rk ks (i+1)) l (bh Vr O (.gr sz es)) k):=hk
    obtain⟨e,a',he,ha',hv',hk'⟩:=zU h.old hk';have ha0:=has 0 _ rfl;rw [Nat.add_zero,ha'] at ha0;cases ha0;have hsl:uP A2 e.v a:=by
     have hne:=hk';unfold gI at hne;generalize e.v=w at hv' hne;cases hv'<;>first|(cases hne;done)|skip
     ·exact .inl rfl
     ·exact .inr rfl
     ·assumption
    obtain⟨es,V1,hk1,hs1,qxE,hone⟩:=mm h hsl hk';obtain⟨inn,hT⟩:=qxE hz;have hTO:qb st.H sz es a/\∀id,bV a=some id->b6 V2 A2 id/\¬b6 V1 A2 id:=by obtain⟨q1,_,q3⟩:=hT.2 (fun n=>match n with|.s _=>none|.i _ v j=>if v=0 then inn j else none) 0 (fun j=>if_pos rfl) (fun v j hv=>if_neg (by omega));unfold jc at q1 q3;rw [hlt] at q1 q3;exact⟨q1,fun id hi=>q3 id (.inl hi)⟩
    have hid:=hTO.2;obtain⟨p1,p2⟩:=oo h.new (o:=.gr sz es) hAO hTO.1 (fun id hi=>h.apart id (hid id hi).1);have hb:vY V1 A2 st2 (bh Vr O (.gr sz es)) A st:=⟨hs1.r h.old,p1,h.H,h.nx,fun id ho hc=>(p2 id hc).elim (fun hc=>h.apart id (hs1.own ho) hc) (fun hi=>(hid id hi).2 ho)⟩;obtain⟨Vr2,A3,q1,q2,q3,q4,q5,q6,q7⟩:=ql ks (i+1) ws as l V1 (bh Vr O (.gr sz es)) A2 A qjc hp.2 hok hb
     (fun j w' a' h1 h2=>hw (j+1) w' a' (by simpa using h1) (by simpa using h2)) (Nat.succ.inj hl) (fun j a' h1=>by have:=has (j+1) a' (by simpa using h1);rwa [show i+(j+1)=i+1+j by omega] at this) hnp hd hk1
    refine⟨Vr2,A3,q1,q2,q3,fun id ho=>?_,q5,q6,(iE.set rfl).trans q7⟩;rcases q4 id ho with ho|ho
    ·exact(p2 id ho).imp (fun h=>h) (fun hi=>(hid id hi).1)
    ·exact .inr (hs1.own ho)
theorem q_ {A:aX} {V:aF} {st:St} (hR:R A V st):∀(xs:List aH) (k:List VV->Prop),EG V xs k->∃ws,ws.length=(xs.map (ev st.env)).length/\(∀(j:Nat) w a,ws[j]?=some w->(xs.map (ev st.env))[j]?=some a->VR A w a)/\k ws
 |[],k,h=>⟨[],rfl,fun j w a hw=>by simp at hw,h⟩
 |x::xs,k,h=>by
  obtain⟨w,hw,h⟩:=bE (g:=none) hR trivial h;obtain⟨ws,h1,h2,h3⟩:=q_ hR xs _ h;refine⟨w::ws,by simpa using h1,fun j w' a hj ha=>?_,h3⟩;cases j with
  |zero=>simp at hj ha;subst hj;subst ha;exact hw
  |succ j=>exact h2 j w' a (by simpa using hj) (by simpa using ha)
theorem nG {d:Nat}:∀(ks:List PK) (ws:List VV) (ims:List HE),cx d ks ws=some ims->ks.length=ws.length
 |[],[],ims,h=>rfl
 |[],_::_,ims,h=>by simp [cx] at h
 |k::ks,[],ims,h=>by cases k<;>simp [cx] at h
 |.tr::ks,w::ws,ims,h=>by
  have h':cx d ks ws=some ims:=by simpa only [cx] using h
  simp [nG ks ws ims h']
 |.ob offs::ks,w::ws,ims,h=>by obtain⟨O,l,_,h',_⟩:=Ag h;simp [nG ks ws l h']
 |.sl sz::ks,w::ws,ims,h=>by obtain⟨O,l,_,h',_⟩:=Af h;simp [nG ks ws l h']
theorem oG:∀(as:List AV) (i:Nat) (e:Env) (j:Nat),(cJ as i e).get j=if i<=j/\j < i+as.length then as[j - i]? else e.get j
 |[],i,e,j=>by simp only [cJ,List.length_nil];rw [if_neg (by omega)]
 |a::as,i,e,j=>by
  simp only [cJ,oG as (i+1),Map.au,OL];by_cases h:i+1<=j/\j < i+1+as.length
  ·rw [if_pos h,if_pos (by omega),show j - i=(j - (i+1))+1 by omega,List.getElem?_cons_succ]
  ·rw [if_neg h];by_cases e1:j=i
   ·subst e1;rw [if_pos rfl,if_pos (by omega)];simp
   ·rw [if_neg e1,if_neg (by omega)]
theorem AW {V:aF} {e:Map VE} {sz:Nat} {w:VV} {k k':List TV->aF->Prop} (hk:∀es V',V'.env=V.env->k es V'->k' es {V' with env:=e}) (h:gI V sz w k):gI {V with env:=e} sz w k':=by
 cases w<;>first|(cases h;done)|skip
 ·exact hk [] V rfl h
 ·rename_i O;have gen:∀x:Option VO,(match x with
    |some (.gr z es)=>(match Nat.blt z Dr with
     |true=>same z sz (k es (bu V O))
     |false=>False)
    |some (.gn _ s io iz _ none es)=>(match Bh sz s io iz with
     |true=>k es (bu V O)
     |false=>False)
    |_=>False)->(match x with
    |some (.gr z es)=>(match Nat.blt z Dr with
     |true=>same z sz (k' es (bu {V with env:=e} O))
     |false=>False)
    |some (.gn _ s io iz _ none es)=>(match Bh sz s io iz with
     |true=>k' es (bu {V with env:=e} O)
     |false=>False)
    |_=>False):=by
   intro x hx;split at hx
   ·rename_i z es;cases hb:Nat.blt z Dr with
    |false=>rw [hb] at hx;cases hx
    |true=>rw [hb] at hx;obtain⟨rfl,hx2⟩:=aU hx;show same z z _;unfold same;rw [cond_eq_ite,if_pos (by simp)];exact hk es (bu V O) rfl hx2
   ·rename_i s io iz ver es;cases hb:Bh sz s io iz with
    |false=>rw [hb] at hx;cases hx
    |true=>rw [hb] at hx;exact hk es (bu V O) rfl hx
   ·cases hx
  exact gen (V.H.get O) h
theorem qi {st stc:St} (hH:stc.H=st.H) (hnx:stc.nx=st.nx):∀(ks:List PK) (i:Nat) (ws:List VV) (as:List AV) (V Vc:aF) (A A0:aX) (I:JT (vZ ks i) Prop) (k:aF->Prop),(vZ ks i).all kU=true->R A V st->R A0 Vc stc->(∀id,b6 V A id->¬b6 Vc A0 id)->
  (∀(j:Nat) w a,ws[j]?=some w->as[j]?=some a->VR A w a)->ws.length=as.length->(∀(j:Nat) a,as[j]?=some a->stc.env.get (i+j)=some a)->BE ks i ws V I->k8 (vZ ks i) Vc I k->
  ∃Vc' A',k Vc'/\R A' Vc' stc/\(∀id,b6 Vc' A' id->b6 Vc A0 id\/b6 V A id)/\(∀id,b6 (fy ks ws V) A id->¬b6 Vc' A' id)/\Sub V (fy ks ws V)
 |[],i,ws,as,V,Vc,A,A0,I,k,hp,hR,hRc,hap,hw,hl,has,hk,hkc=>by
  cases ws with
  |nil=>exact⟨Vc,A0,hkc hk,hRc,fun id h=>.inl h,hap,Sub.refl V⟩
  |cons w ws=>cases hk
 |.tr::ks,i,ws,as,V,Vc,A,A0,I,k,hp,hR,hRc,hap,hw,hl,has,hk,hkc=>by
  cases ws with
  |nil=>cases hk
  |cons w ws=>
   cases as with
   |nil=>cases hl
   |cons a as=>
    simp only [vZ,List.all_cons,OV] at hp;simp only [BE] at hk;obtain⟨v,hc,hk⟩:=zL (hw 0 w a rfl rfl) hk;obtain⟨Vc',A',g1,g2,g3,g4,g5⟩:=qi hH hnx ks (i+1) ws as V (fN Vc i (.tr v)) A A0 (I v) k hp.2 hR (gK hRc (has 0 a rfl) (.tr hc)) hap (fun j w' a' h1 h2=>hw (j+1) w' a' (by simpa using h1) (by simpa using h2)) (Nat.succ.inj hl)
     (fun j a' h1=>by have:=has (j+1) a' (by simpa using h1);rwa [show i+(j+1)=i+1+j by omega] at this) hk (hkc v)
    exact⟨Vc',A',g1,g2,g3,g4,g5⟩
 |.ob offs::ks,i,ws,as,V,Vc,A,A0,I,k,hp,hR,hRc,hap,hw,hl,has,hk,hkc=>by
  cases ws with
  |nil=>cases hk
  |cons w ws=>
   cases as with
   |nil=>cases hl
   |cons a as=>
    simp only [vZ,List.all_cons,OV] at hp;have hz:∀p∈offs,ep p.2=true:=fun p hm=>OU.1 hp.1 p hm
    cases w<;>first|(cases hk;done)|skip
    rename_i O off;cases off with
    |succ n=>cases hk
    |zero=>
    simp only [BE] at hk;split at hk;rotate_left
    ·cases hk
    rename_i v ovs hO;split at hk;rotate_left
    ·cases hk
    rename_i hkeys;have hwa:=hw 0 _ a rfl rfl;cases hwa with
    |@ptr _ _ id hAO=>
    obtain⟨y,hy,id',cs,ts,rfl,hHc,hc⟩:=hR.heap O _ hO;rw [hAO] at hy;cases hy;have hsl:∀j w,bp j ovs=some w->∃x,cs[j]?=some x/\uP A w x:=fun j w hj=>by have hlt:=hc.keys j w hj;have hx:cs[j]?=some (cs[j]'(by rw [←hc.len];exact hlt)):=Ov _;have:=hc.at_ j _ _ (Ov hlt) hx;rw [hj] at this;exact⟨_,hx,this⟩
    have qxh:=cX hR hO hAO (id:=id) (.inl rfl);have qxu:b6 V A id:=⟨O,_,_,hO,hAO,.inl rfl⟩;have hRe:R A {bu V O with env:=.leaf} stc:=⟨fun t e he=>(by cases he),fun O' o' ho=>by obtain⟨x,hx,hor⟩:=hR.heap O' o' (de ho).2;exact⟨x,hx,hor.mono (fun _ _ h=>h) (fun _ _=>by rw [hH])⟩,fun O1 O2 o1 o2 a1 a2 id' h1 h2=>hR.inj O1 O2 o1 o2 a1 a2 id' (de h1).2 (de h2).2,hR.used,hR.one,hRc.fresh,fun O' o' x ho hx=>hR.eI O' o' x (de ho).2 hx⟩
    have h1:AJ {bu V O with env:=.leaf} A Vc A0 stc:=⟨hRe,hRc,fun id' ho=>hap id' ((bt V O).own ho)⟩;have hk':iH (R:=JT (.pt i i 0::vZ ks (i+1)) Prop) {bu V O with env:=.leaf} ovs offs (I v) fun I V'=>BE ks (i+1) ws {V' with env:=V.env} I:=by
     have gen:∀(offs:List (Nat×Nat)) (V1:aF) (J:JL offs (JT (.pt i i 0::vZ ks (i+1)) Prop)),V1.env=V.env->iH V1 ovs offs J (fun I V'=>BE ks (i+1) ws V' I)->iH {V1 with env:=.leaf} ovs offs J fun I V'=>BE ks (i+1) ws {V' with env:=V.env} I:=by
      intro offs
      induction offs with
      |nil=>intro V1 J he h;show BE ks (i+1) ws {V1 with env:=V.env} J;rw [←he];exact h
      |cons p offs ih=>
       obtain⟨off,sz⟩:=p;intro V1 J he h;simp only [iH] at h ⊢;split at h
       ·rename_i w hw;exact AW (fun es V' he' h'=>ih V' (J es) (he'.trans he) h') h
       ·cases h
     exact gen offs (bu V O) (I v) rfl hk
    obtain⟨i2,V',Vc',A',g1,g2,g0,g3,g3a,g4,g5,g6,g7,g8⟩:=lp hsl offs {bu V O with env:=.leaf} Vc A0 (I v) _ _ hz h1 hk' (hkc v);have hor:∀A3:aX,(∀O x,A' O=some x->A3 O=some x)->OR A3 stc.H (.ob v (iR i offs)) (.ptr id 0 0):=by
     intro A3 hA3;refine⟨id,cs,ts,rfl,by rw [hH];exact hHc,⟨hc.cells,hc.len,fun j w hj=>?_,fun j t x ht hx=>?_⟩⟩
     ·rw [gP] at hj;split at hj
      ·rename_i hh;obtain⟨x,hx,_⟩:=g8 j hh;rw [hc.len];exact(Ow.1 hx).1
      ·cases hj
     ·rw [gP];by_cases hh:c_ j offs=true
      ·rw [if_pos hh];obtain⟨x',hx',hA'⟩:=g8 j hh;rw [hx] at hx';cases hx';exact hA3 _ _ hA'
      ·rw [if_neg hh];have:=hc.at_ j t x ht hx;cases ho:bp j ovs with
       |none=>rw [ho] at this;exact this
       |some w=>exact absurd (gy hkeys j w ho) hh
    obtain⟨Vc2,A2,p1,p2,p3,p4,p5,p6,p7,p8⟩:=xb g3.new (a:=.ptr id 0 0) g2 hor rfl (fun id' hi ho=>by
     cases hi;rcases g7 _ ho with ho|ho
     ·exact hap _ qxu ho
     ·exact qxh ho)
    have p1':k8 (.pt i i 0::vZ ks (i+1)) Vc2 i2 k:=p1;simp only [k8,p7] at p1';have hR':R A {V' with env:=V.env} st:=by have hs:Sub V {V' with env:=V.env}:=⟨rfl,g4.us,fun O' o' ho=>(de (g4.H O' o' ho)).2⟩;exact hs.r hR
    obtain⟨Vc3,A3,q1,q2,q3,q4,q5⟩:=qi hH hnx ks (i+1) ws as {V' with env:=V.env} (fN Vc2 i (.ptr i 0)) A A2 i2 k hp.2.2 hR' (gK p2 (has 0 _ rfl) (.ptr p4)) (fun id' ho hc'=>by
      rcases p6 id' hc' with hc'|hi
      ·exact g3.apart id' ho hc'
      ·cases hi;exact qxh (g4.own ho)) (fun j w' a' h1 h2=>hw (j+1) w' a' (by simpa using h1) (by simpa using h2)) (Nat.succ.inj hl)
     (fun j a' h1=>by have:=has (j+1) a' (by simpa using h1);rwa [show i+(j+1)=i+1+j by omega] at this) g1 p1'
    have qzr:∀(offs:List (Nat×Nat)) (V1:aF),V1.env=V.env->{kn {V1 with env:=.leaf} ovs offs with env:=V.env}=kn V1 ovs offs:=by
     intro offs
     induction offs with
     |nil=>intro V1 he;simp only [kn];rw [←he]
     |cons p offs ih=>
      obtain⟨off,sz⟩:=p;intro V1 he;simp only [kn];split
      ·rename_i w hw;cases w<;>first|exact ih V1 he|exact ih (bu V1 _) he
      ·exact ih V1 he
    have qxa:fy (.ob offs::ks) (.ptr O 0::ws) V=fy ks ws {V' with env:=V.env}:=by simp only [fy,hO];rw [g0,qzr offs (bu V O) rfl]
    refine⟨Vc3,A3,q1,q2,fun id' ho=>?_,by rw [qxa];exact q4,by rw [qxa];exact(⟨rfl,g4.us,fun O' o' ho=>(de (g4.H O' o' ho)).2⟩:Sub V {V' with env:=V.env}).trans q5⟩;rcases q3 id' ho with ho|ho
    ·rcases p6 id' ho with ho|hi
     ·rcases g7 id' ho with ho|ho
      ·exact .inl ho
      ·exact .inr ((bt V O).own ho)
     ·cases hi;exact .inr qxu
    ·exact .inr ((bt V O).own (g4.own ho))
 |.sl sz::ks,i,ws,as,V,Vc,A,A0,I,k,hp,hR,hRc,hap,hw,hl,has,hk,hkc=>by
  cases ws with
  |nil=>cases hk
  |cons w ws=>
   cases as with
   |nil=>cases hl
   |cons a as=>
    simp only [vZ,List.all_cons,OV] at hp;have hz:ep sz=true:=hp.1;cases w<;>first|(cases hk;done)|skip
    rename_i O;have hwa:=hw 0 _ a rfl rfl;cases hwa with
    |@sl _ _ hAO=>
    have hk0:gI V sz (.sl O) fun es V'=>BE ks (i+1) ws V' (I es):=hk
    obtain⟨es,V1,hk,hV1,hs1,qxE,hone,_⟩:=lg (Vc:=V0) (A0:=fun _=>none) (st:=st) ⟨hR,hR.zero,fun id _ ⟨O,o,a,ho,_⟩=>(by cases ho)⟩ (w:=.sl O) hAO hk0;have qkx:V1=bu V O:=hV1;subst qkx;obtain⟨inn,hT⟩:=qxE hz;have qzB:=hkc es;obtain⟨Vc1,A1,qzA,hR1,hA1,hAo,qxp,hown,_,qxz,_⟩:=jq hRc qzB (by rw [hH];exact hT) hone (fun id (hi:b6 V A id/\¬b6 (bu V O) A id)=>hap id hi.1);obtain⟨Vc',A',g1,g2,g3,g4,g5⟩:=qi hH hnx ks (i+1) ws as (bu V O) (fN Vc1 i (.sl i)) A A1 (I es) k hp.2 (hR.bu O) (gK hR1 (has 0 a rfl) (.sl hAo)) (fun id hoo hc=>(hown id hc).elim (fun hc=>hap id ((bt V O).own hoo) hc) (fun hi=>hi.2 hoo))
     (fun j w' a' h1 h2=>hw (j+1) w' a' (by simpa using h1) (by simpa using h2)) (Nat.succ.inj hl) (fun j a' h1=>by have:=has (j+1) a' (by simpa using h1);rwa [show i+(j+1)=i+1+j by omega] at this) hk qzA
    refine⟨Vc',A',g1,g2,fun id hoo=>?_,g4,(bt V O).trans g5⟩;rcases g3 id hoo with hoo|hoo
    ·rcases hown id hoo with hoo|hi
     ·exact .inl hoo
     ·exact .inr hi.1
    ·exact .inr ((bt V O).own hoo)
theorem zY {sh:Sh} (hsh:n5 prog sh) {A:aX} {V:aF} {st:St} (hR:R A V st) {d:Option Nat} {f:Nat} {args:List aH} {k:aF->Prop} (h:qn sh nt V d f args k):bJ (aM prog) nt A V st d (.call f args .share) k:=by
 unfold qn at h;cases d with
 |none=>cases h
 |some d=>
 simp only at h;split at h
 ·rename_i T hT;obtain⟨ws,hwl,hw,h⟩:=q_ hR args _ h;obtain⟨v,H',nx',A',V',w,h1,h2,h3,h4,h5,h6⟩:=hsh.inl f T hT A V st ws _ _ hR hwl hw h;exact⟨v,H',nx',h1,jk (A1:=A') (V1:=V') h2 h5 h4 (fun _=>h3) h6⟩
 split at h
 ·cases h
 rename_i sg hsg;obtain⟨ws,hwl,hw,h⟩:=q_ hR args _ h;split at h
 ·cases h
 rename_i ims him;split at h
 ·cases h
 rename_i hok;simp only [OV] at hok;obtain⟨⟨hp1,hp2⟩,hn,hi⟩:=hok;rw [hsh.vs] at h;generalize has:args.map (ev st.env)=as at hwl hw;have hal:=lS (vZ sg.ks 0) V0 [] (D8 prog f sg.ks.length (gi sg.ks.length sg.rk sg.ks 0) (sJ (gi sg.ks.length sg.rk sg.ks 0) ims {fy sg.ks ws V with env:=V.env.put none d} k)) hn (fun O hO=>by cases hO);have Ba:∀id,¬b6 V0 (fun _=>none) id:=fun id ⟨O,o,a,ho,_⟩=>by cases ho
 have qky:R (fun _=>none) V0 ⟨cJ as 0 .leaf,st.H,st.nx⟩:=⟨fun t e he=>(by cases he),fun O o ho=>(by cases ho),fun O O' o o' a a' id ho=>(by cases ho),fun _ _=>rfl,fun O a ha=>(by cases ha),hR.fresh,fun O o a ho=>(by cases ho)⟩;obtain⟨Vc,A1,g1,g2,g3,g4,g5⟩:=qi (st:=st) (stc:=⟨cJ as 0 .leaf,st.H,st.nx⟩) rfl rfl sg.ks 0 ws as V V0 A (fun _=>none) _ _ hp1 hR qky (fun id _ hc=>Ba id hc) hw hwl (fun j a ha=>by show (cJ as 0 .leaf).get (0+j)=_;have hjl:=(Ow.1 ha).1;rw [oG,if_pos (by omega)];simpa using ha) h hal
 have hlen:as.length=sg.ks.length:=by rw [←hwl,nG _ _ _ him]
 obtain⟨v,H',nx',A2,V2,q1,q2,q3,q4⟩:=g1 A1 as st.H st.nx hlen g2;have ownV:∀id,b6 (fy sg.ks ws V) A id->b6 V A id:=fun id ho=>g5.own ho
 have hlt:∀id,b6 (fy sg.ks ws V) A id->id < st.nx:=fun id ho=>hR.ff (ownV id ho)
 have qzp:∀id,b6 (fy sg.ks ws V) A id->H'.get id=st.H.get id:=fun id ho=>q4.same id (hlt id ho) (g4 id ho)
 have hRr:R A {fy sg.ks ws V with env:=V.env.put none d} ⟨st.env.put (some v) d,H',nx'⟩:=by
  refine⟨fun t e he=>?_,fun O o ho=>?_,(g5.r hR).inj,fun n hu=>hR.used n (by rw [←hu];exact congrArg (fun m=>Map.get m n.base) g5.us.symm),hR.one,q2.fresh,(g5.r hR).eI⟩
  ·have he':(V.env.put none d).get t=some e:=he;rw [Map.au] at he';split at he'
   ·cases he'
   ·rename_i hne;obtain⟨a,ha,hv⟩:=hR.env t e he';exact⟨a,by show (st.env.put (some v) d).get t=_;rw [Map.au,if_neg hne];exact ha,hv⟩
  ·obtain⟨a,ha,hor⟩:=(g5.r hR).heap O o ho;exact⟨a,ha,hor.mono (fun _ _ h=>h) (fun id hi=>qzp id ⟨O,o,a,ho,ha,hi⟩)⟩
 have hb:vY V2 A2 ⟨(cJ as 0 .leaf).put (some v) sg.ks.length,H',nx'⟩ {fy sg.ks ws V with env:=V.env.put none d} A ⟨st.env.put (some v) d,H',nx'⟩:=
  ⟨q2,hRr,rfl,rfl,fun id ho hc=>by
   rcases q4.own id ho with ho|hle
   ·exact g4 id hc ho
   ·have:=hlt id hc;omega⟩
 obtain⟨Vr',A3,p1,p2,p3,p4,p5,p6,p7⟩:=ql (nt:=nt) (st2:=⟨(cJ as 0 .leaf).put (some v) sg.ks.length,H',nx'⟩) (st:=⟨st.env.put (some v) d,H',nx'⟩) (v:=v) (d:=d) sg.ks 0 ws as ims V2 _ A2 A him hp2 (by
   have e:({fy sg.ks ws V with env:=V.env.put none d}:aF).us=V.us:=g5.us;rw [e];exact hi) hb hw hwl (fun j a ha=>by
   show ((cJ as 0 .leaf).put (some v) sg.ks.length).get (0+j)=_;have hjl:=(Ow.1 ha).1;rw [Map.au,if_neg (by omega),oG,if_pos (by omega)];simpa using ha) (by show ((cJ as 0 .leaf).put (some v) sg.ks.length).get _=_;rw [Map.au,if_pos rfl]) (by show (st.env.put (some v) d).get d=_;rw [Map.au,if_pos rfl]) q3
 refine⟨v,H',nx',?_,st.env.put (some v) d,by simp only [rj,cond_eq_ite,if_pos p5],Vr',A3,p2,⟨q4.le,fun id hid hno=>q4.same id hid (fun hc=>?_),fun id ho=>?_⟩,⟨p3,fun n x hx=>(p6 n x hx).imp (fun h=>h) (fun h=>.inl (by have e:({fy sg.ks ws V with env:=V.env.put none d}:aF).us=V.us:=g5.us;rw [←e];exact h)),(show iE V {fy sg.ks ws V with env:=V.env.put none d} from iE.HH g5.us g5.H).trans p7⟩,p1⟩
 ·have hk:kind (.call f args .share)=.call f args .share:=rfl;simp only [fk,hk,bH,has];exact q1
 ·rcases g3 id hc with hc|hc
  ·exact Ba id hc
  ·exact hno hc
 ·rcases p4 id ho with ho|ho
  ·exact .inl (ownV id ho)
  ·rcases q4.own id ho with ho|hle
   ·rcases g3 id ho with hc|hc
    ·exact absurd hc (Ba id)
    ·exact .inl hc
   ·exact .inr hle
end
end Go.Ax.V
namespace Go.Ax.V
section
variable {sh:Sh} {prog:Map aq} {cf:eF} {nt:Nat} {A:aX} {V:aF} {st:St} {d:Option Nat} {g:G} {k:aF->Prop}
theorem xm {sh:Sh} {nt:Nat} {V:aF} {d:Option Nat} {p:TV×Bool} {fz:Bool} {len:Nat} {zero:List AV} {parts:List (Nat×Nat×aH)} {k:aF->Prop} (h:pO sh nt V d (some p) fz len zero parts k):False:=by unfold pO at h;split at h<;>cases h
theorem Aq (hsh:n5 prog sh) (hR:R A V st) (ha:act g) {op:dR} (h:lV sh prog nt V d g op k):bJ (aM prog) nt A V st d op k:=by
 cases op with
 |mv x=>exact Me hR ha h
 |pick c a b=>exact GA hR ha h
 |alloc zero=>exact ET hR h
 |box x=>exact I3 hR ha h
 |build zero parts=>
  cases g with
  |none=>exact ES hR h
  |some p=>exact CZ hR ha h
 |eO es len zero parts=>
  cases g with
  |none=>exact C0 hR h
  |some p=>cases h
 |aQ len zero parts=>
  cases g with
  |none=>obtain⟨v,H',nx',h1,h2⟩:=CY (cf:=aM prog) (gd:=none) (fz:=false) hR h;exact⟨v,H',nx',h1,h2⟩
  |some p=>exact(xm h).elim
 |load sz a=>exact GC hR ha h
 |store sz a x=>
  cases g with
  |none=>
   cases d with
   |none=>exact EL hR h
   |some d=>cases h
  |some p=>cases h
 |iT x=>exact EO hR ha h
 |bin op x y=>exact I4 hR ha h
 |eq t neg x y=>
  cases t with
  |slice=>
   cases g with
   |none=>
    simp only [lV] at h;split at h
    ·rename_i hy;exact IZ hR hy h
    ·cases h
   |some q=>cases h
  |one l=>exact I0 hR ha h
  |agg l=>exact I0 hR ha h
 |un op x=>exact Md hR ha h
 |conv c x=>exact GF hR ha h
 |kF es bytes zero n=>
  cases g with
  |none=>exact GB hR h
  |some p=>exact(cV h).2.elim
 |j3 x lo hi=>exact EM hR ha h
 |iX es x lo hi mx=>exact Gz hR ha h
 |iL n es x lo hi mx=>
  obtain⟨hz,h⟩:=cV h;cases g with
  |some q=>cases h
  |none=>
   cases lo with
   |some _=>cases h
   |none=>
    cases mx with
    |some _=>cases h
    |none=>exact EN hR hz h
 |gZ off x=>exact ER hR ha h
 |Bm off sz x=>exact IX hR ha h
 |bQ es x i=>exact EP hR ha h
 |kM len es x i=>exact GD hR ha h
 |idx x i=>exact IW hR ha h
 |ext i x=>exact IY hR ha h
 |app es bytes s x=>exact I5 hR ha h
 |BM es dd s=>
  obtain⟨hz,h⟩:=cV h;cases g with
  |some q=>cases h
  |none=>exact I2 hR hz h
 |Eb es zero x=>cases h
 |len str x=>exact IV hR ha h
 |yh mx xs=>exact IU hR ha h
 |l9=>cases h
 |l8 t zero ok m k=>cases h
 |vk t m k v=>cases h
 |s9 m=>cases h
 |call f args m=>
  cases m with
  |share=>
   cases g with
   |none=>exact zY hsh hR h
   |some p=>cases h
  |borrow=>obtain⟨v,h1,h2⟩:=vh hR ha h;exact⟨v,st.H,st.nx,h1,h2⟩
 |cM f args m=>
  cases m with
  |share=>cases h
  |borrow=>
   obtain⟨fv,hf,h⟩:=bN hR ha h;cases g with
   |none=>obtain⟨n,rfl,h⟩:=h;obtain⟨v,h1,h2⟩:=vh (g:=none) hR trivial h;generalize he:ev st.env f=p at hf;cases hf;refine⟨v,st.H,st.nx,?_,h2⟩;have hk:kind (.cM f args .borrow)=.cM f args .borrow:=rfl;simp only [fk,hk,he];exact h1
   |some q=>obtain⟨c,bb⟩:=q;obtain⟨n,hn,h⟩:=h;obtain rfl:=hn ha;obtain⟨v,h1,h2⟩:=vh hR ha h;generalize he:ev st.env f=p at hf;cases hf;refine⟨v,st.H,st.nx,?_,h2⟩;have hk:kind (.cM f args .borrow)=.cM f args .borrow:=rfl;simp only [fk,hk,he];exact h1
def HN (nt:Nat) (V:aF) (d:Option Nat) (c:TV) (bb:Bool) (k:aF->Prop):Prop:=∃g w,((g=none/\w=VV.tr tQ)\/g=some (c,bb))/\cw nt V d g w k
theorem zd {c:TV} {bb:Bool} (hc:c≠.b bb) {P:TV->Prop} {v:TV} (h:gV c bb P v):v=tQ:=by
 unfold gV at h;split at h
 ·rename_i x;split at h
  ·rename_i hh;exact absurd (by cases x<;>cases bb<;>first|rfl|cases hh) hc
  ·exact h
 ·exact h
section
variable {c:TV} {bb:Bool}
theorem qT (hc:c≠.b bb) {P k:TV->Prop} (h:Cq (some (c,bb)) P k):k tQ:=by obtain⟨v,h1,h2⟩:=h;rw [zd hc h1] at h2;exact h2
theorem aZ (hc:c≠.b bb) {P:Option TV} (h:dh nt V d (some (c,bb)) P k):HN nt V d c bb k:=⟨none,.tr tQ,.inl ⟨rfl,rfl⟩,qT hc h⟩
theorem eE {w:VV} (h:cw nt V d (some (c,bb)) w k):HN nt V d c bb k:=⟨_,w,.inr rfl,h⟩
theorem qh {g:G} {P:Option Nat} {k:Nat->Prop} (h:wG g P k):∃n,k n:=by
 cases g with
 |none=>obtain⟨n,_,h⟩:=h;exact⟨n,h⟩
 |some p=>obtain⟨n,_,h⟩:=h;exact⟨n,h⟩
theorem e8 {x:aH} {k:VV->Prop} (h:dw V g x k):∃w,k w:=by
 cases x with
 |c v=>exact⟨_,h⟩
 |t n=>
  simp only [dw] at h;split at h
  ·cases h
  split at h
  ·exact⟨_,h⟩
  ·split at h
   ·cases h
   ·exact⟨_,h.2⟩
theorem cU {x:aH} {k:TV->Prop} (h:iu V g x k):∃v,k v:=by
 obtain⟨w,h⟩:=e8 h;unfold zO at h;split at h
 ·exact⟨_,h⟩
 ·exact⟨_,h⟩
 ·obtain⟨u,_,h⟩:=h;exact⟨u,h⟩
 ·cases h
theorem nq {x:Option aH} {k:Option TV->Prop} (h:ou V g x k):∃v,k v:=by
 cases x with
 |none=>exact⟨none,h⟩
 |some x=>obtain⟨v,h⟩:=cU h;exact⟨some v,h⟩
theorem zT:∀{xs:List (Nat×Nat×aH)} {k:List (Nat×Nat×TV)->Prop},Ct V g xs k->∃vs,k vs
 |[],k,h=>⟨[],h⟩
 |(off,n,x)::xs,k,h=>by obtain⟨v,h⟩:=cU h;obtain⟨vs,h⟩:=zT h;exact⟨_,h⟩
theorem zR:∀{xs:List aH} {k:List TV->Prop},Cs V g xs k->∃vs,k vs
 |[],k,h=>⟨[],h⟩
 |x::xs,k,h=>by obtain⟨v,h⟩:=cU h;obtain⟨vs,h⟩:=zR h;exact⟨v::vs,h⟩
theorem mY:∀{l:List (Nat×VV)} {v:TV} {k:TV->Prop},s5 V l v k->∃u,k u
 |[],v,k,h=>⟨v,h⟩
 |(off,w)::l,v,k,h=>by obtain⟨u,h⟩:=mY (l:=l) h;obtain⟨es,u',_,h⟩:=m7 h;exact⟨u',h⟩
theorem F8 {w:VV} {k:TV->Prop} (h:HG V w k):∃t,k t:=by
 unfold HG at h;split at h
 ·exact⟨_,h⟩
 ·exact⟨_,h⟩
 ·obtain⟨es,h⟩:=m7 h;exact⟨_,h⟩
 ·exact mY h
 ·obtain⟨es,h⟩:=m7 h;exact⟨_,h⟩
 ·split at h
  ·split at h
   ·obtain⟨es,_,h⟩:=h;exact⟨_,h⟩
   ·cases h
  ·cases h
 ·cases h
theorem jy:∀{xs:List aH} {k:Bool->List TV->Prop},k6 V g xs k->∃p ts,k p ts
 |[],k,h=>⟨_,_,h⟩
 |x::xs,k,h=>by
  obtain⟨w,h⟩:=e8 h;split at h
  ·obtain⟨p,ts,h⟩:=jy h;exact⟨_,_,h⟩
  ·obtain⟨p,ts,h⟩:=jy h;exact⟨_,_,h⟩
  ·obtain⟨t,h⟩:=mY h;obtain⟨p,ts,h⟩:=jy h;exact⟨_,_,h⟩
  ·obtain⟨t,h⟩:=F8 h;obtain⟨p,ts,h⟩:=jy h;exact⟨_,_,h⟩
theorem zk (hc:c≠.b bb) {sz:Option Nat} {w:VV} (h:g_ nt V d (some (c,bb)) sz w k):HN nt V d c bb k:=by
 unfold g_ at h;split at h
 ·split at h
  ·split at h
   ·split at h
    ·exact eE h
    ·exact aZ hc h
   ·split at h
    ·exact aZ hc h
    ·cases h
  ·cases h
 ·split at h
  ·split at h
   ·exact aZ hc h
   ·cases h
  ·cases h
 ·exact aZ hc h
 ·split at h
  ·exact aZ hc h
  ·split at h
   ·split at h
    ·split at h
     ·split at h
      ·obtain⟨_,_,h⟩:=h;exact eE h
      ·cases h
     ·exact aZ hc h
    ·split at h
     ·exact aZ hc h
     ·cases h
   ·cases h
  ·cases h
 ·obtain⟨_,_,_,_,_,h⟩:=ct h;exact aZ hc h
 ·cases h
theorem Bo (hc:c≠.b bb) {off:Nat} {sz:Option Nat} {w:VV} (h:xN nt V d (some (c,bb)) off sz w k):HN nt V d c bb k:=by
 unfold xN at h;split at h
 ·exact aZ hc h
 ·split at h
  ·split at h
   ·exact eE h
   ·exact aZ hc h
  ·split at h
   ·exact aZ hc h
   ·cases h
 ·cases h
theorem zh (hc:c≠.b bb) {sz:Nat} {w:VV} {lo hi mx:Option aH} (h:zj nt V d (some (c,bb)) sz w lo hi mx k):HN nt V d c bb k:=by
 replace h:=(cV h).2;split at h
 ·split at h
  ·split at h
   ·split at h
    ·obtain⟨l,m,_,h⟩:=nq (aU h).2;cases h
    ·cases h
   ·cases h
  ·cases h
 ·split at h
  ·obtain⟨l,h⟩:=nq h;obtain⟨hh,h⟩:=nq h;exact⟨none,.tr tQ,.inl ⟨rfl,rfl⟩,qT hc h⟩
  ·split at h
   ·rename_i qxj;simp at qxj
   ·cases h
 ·split at h
  ·exact eE h
  ·cases h
 ·cases h
theorem E5 (hc:c≠.b bb) {op:dR} (h:lV sh prog nt V d (some (c,bb)) op k):HN nt V d c bb k:=by
 cases op with
 |mv x=>
  simp only [lV] at h;obtain⟨w,h⟩:=e8 h;unfold Hj at h;split at h
  ·exact aZ hc h
  ·cases h
  ·exact eE h
 |pick a b e=>simp only [lV] at h;obtain⟨_,h⟩:=cU h;obtain⟨_,h⟩:=cU h;obtain⟨_,h⟩:=cU h;exact aZ hc h
 |alloc zero=>simp only [lV] at h;split at h<;>cases h
 |box x=>
  simp only [lV] at h;obtain⟨w,h⟩:=e8 h;split at h
  ·exact(sO h.2 (fun _ _ h=>h)).elim
  ·cases h
 |build zero parts=>
  simp only [lV] at h;split at h
  ·obtain⟨_,h⟩:=zT h;exact aZ hc h
  ·cases h
 |eO es len zero parts=>cases h
 |aQ len zero parts=>exact(xm h).elim
 |load sz a=>simp only [lV] at h;obtain⟨w,h⟩:=e8 h;exact zk hc h
 |store sz a x=>cases h
 |iT x=>simp only [lV] at h;obtain⟨w,h⟩:=e8 h;unfold vw at h;split at h<;>first|exact eE h|cases h
 |bin op x y=>simp only [lV] at h;obtain⟨_,h⟩:=cU h;obtain⟨_,h⟩:=cU h;exact aZ hc h
 |eq t neg x y=>
  cases t with
  |slice=>cases h
  |one l=>simp only [lV] at h;obtain⟨_,h⟩:=cU h;obtain⟨_,h⟩:=cU h;exact aZ hc h
  |agg l=>simp only [lV] at h;obtain⟨_,h⟩:=cU h;obtain⟨_,h⟩:=cU h;exact aZ hc h
 |un op x=>simp only [lV] at h;obtain⟨_,h⟩:=cU h;exact aZ hc h
 |conv e x=>simp only [lV] at h;obtain⟨_,h⟩:=cU h;exact aZ hc h
 |kF es bytes zero n=>exact(cV h).2.elim
 |j3 x lo hi=>simp only [lV] at h;obtain⟨_,h⟩:=cU h;obtain⟨_,h⟩:=nq h;obtain⟨_,h⟩:=nq h;exact aZ hc h
 |iX es x lo hi mx=>simp only [lV] at h;obtain⟨w,h⟩:=e8 h;exact zh hc h
 |iL n es x lo hi mx=>exact(cV h).2.elim
 |gZ off x=>simp only [lV] at h;obtain⟨w,h⟩:=e8 h;unfold vz at h;split at h<;>first|exact eE h|cases h
 |Bm off sz x=>simp only [lV] at h;obtain⟨w,h⟩:=e8 h;exact Bo hc h
 |bQ es x i=>
  simp only [lV] at h;obtain⟨w,h⟩:=e8 h;obtain⟨iv,h⟩:=cU h;replace h:=(cV h).2;split at h
  ·exact eE (qT hc h)
  ·split at h
   ·obtain⟨n,h⟩:=qh (aU h).2;exact eE h
   ·obtain⟨n,h⟩:=qh (aU h).2;exact eE h
   ·cases h
  ·obtain⟨_,_,_,_,_,h⟩:=ct h;obtain⟨n,h⟩:=qh (aU h).2;exact eE h
  ·cases h
 |kM len es x i=>simp only [lV] at h;obtain⟨w,h⟩:=e8 h;obtain⟨iv,h⟩:=cU h;unfold zl at h;split at h<;>first|(obtain⟨n,h⟩:=qh h;exact eE h)|cases h
 |idx x i=>simp only [lV] at h;obtain⟨_,h⟩:=cU h;obtain⟨_,h⟩:=cU h;exact aZ hc h
 |ext i x=>simp only [lV] at h;obtain⟨_,h⟩:=cU h;exact aZ hc h
 |app es bytes s x=>
  simp only [lV] at h;obtain⟨w,h⟩:=e8 h;obtain⟨y,h⟩:=e8 h;exfalso;unfold uy at h;split at h
  ·replace h:=(aU h).2;unfold vG at h;split at h
   ·cases h
   split at h
   ·split at h
    ·obtain⟨l,_,h⟩:=h;exact h
    ·cases h
   ·split at h
    ·split at h
     ·obtain⟨l,_,h⟩:=h;exact h
     ·cases h
    ·cases h
   ·cases h
  replace h:=(cV h).2;unfold yw at h;have key:∀xs,(match w with
   |.bP=>∃l,oY bytes [] xs=some l/\gh nt V d (some (c,bb)) .sl (.gr es l) k
   |.sl O=>(match V.H.get O with
    |some (.gr z es')=>same z es (∃l,oY bytes es' xs=some l/\gh nt (bu V O) d (some (c,bb)) .sl (.gr es l) k)
    |_=>False)
   |.ow O v i=>E2 V O v fun s io iz es'=>same iz es (∃l0,p9 es' i io=some l0/\∃l,oY bytes l0 xs=some l/\gh nt (bh V O (.gn O s io iz v (some i) es')) d (some (c,bb)) .sl (.gr es l) k)
   |_=>False)->False:=fun xs h=>by
   split at h
   ·obtain⟨l,_,h⟩:=h;exact h
   ·split at h
    ·obtain⟨l,_,h⟩:=(aU h).2;exact h
    ·cases h
   ·obtain⟨_,_,_,_,_,h⟩:=ct h;obtain⟨l0,_,l,_,h⟩:=(aU h).2;exact h
   ·cases h
  split at h
  ·obtain⟨xs,_,_,h⟩:=h;exact key _ h
  ·exact key _ h
  ·split at h
   ·exact key _ (aU h).2
   ·cases h
  ·cases h
 |BM es dd s=>exact(cV h).2.elim
 |Eb es zero x=>cases h
 |len str x=>
  simp only [lV] at h;obtain⟨w,h⟩:=e8 h;unfold Au at h;split at h
  ·split at h
   ·exact aZ hc h
   ·cases h
  ·split at h
   ·exact aZ hc h
   ·exact aZ hc h
   ·split at h
    ·exact aZ hc h
    ·exact aZ hc h
    ·cases h
   ·obtain⟨_,_,_,_,_,h⟩:=ct h;exact aZ hc h
   ·cases h
 |yh mx xs=>simp only [lV] at h;obtain⟨vs,h⟩:=zR h;exact aZ hc h
 |l9=>cases h
 |l8 t zero ok m k=>cases h
 |vk t m k v=>cases h
 |s9 m=>cases h
 |call f args m=>
  cases m with
  |share=>cases h
  |borrow=>simp only [lV] at h;obtain⟨p,ts,r,h1,h2⟩:=jy h;rw [zd hc h1] at h2;exact⟨none,.tr tQ,.inl ⟨rfl,rfl⟩,h2⟩
 |cM f args m=>
  cases m with
  |share=>cases h
  |borrow=>simp only [lV] at h;obtain⟨_,h⟩:=cU h;obtain⟨n,_,h⟩:=h;obtain⟨p,ts,r,h1,h2⟩:=jy h;rw [zd hc h1] at h2;exact⟨none,.tr tQ,.inl ⟨rfl,rfl⟩,h2⟩
end
theorem Bt:Can tQ c7:=.tp [] [] rfl (fun x hx=>by cases hx) (fun j t x ht=>by simp at ht)
def D5 (prog:Map aq) (nt:Nat) (A:aX) (V:aF) (st:St) (r:Option St) (k:aF->Prop):Prop:=
 ∃st',r=some st'/\∃V' A',R A' V' st'/\Fr V A st.H st.nx V' A' st'.H st'.nx/\Ext V A V' A'/\k V'
theorem At (hsh:n5 prog sh) (hR:R A V st) {o:ax} (h:E7 sh prog nt V o k):D5 prog nt A V st (eo (aM prog) nt o st) k:=by
 obtain⟨dd,op,gd,fz⟩:=o;have fin:wanted st.env gd=true->(∃v H' nx',je (aM prog) ⟨dd,op,gd,fz⟩ (ev st.env) st.H st.nx=some (v,H',nx')/\Next nt A V st dd v H' nx' k)->D5 prog nt A V st (eo (aM prog) nt ⟨dd,op,gd,fz⟩ st) k:=by rintro hw ⟨v,H',nx',h1,e',h2,V',A',h3,h4,h5⟩;exact⟨⟨e',H',nx'⟩,by simp only [eo,hw,cond_true,h1,h2],V',A',h3,h4,h5⟩
 unfold E7 at h;simp only at h;cases gd with
 |none=>
  cases fz with
  |true=>
   simp only at h;split at h
   ·exact fin rfl (CY hR h)
   ·cases h
  |false=>obtain⟨v,H',nx',h1,h2⟩:=Aq (g:=none) hsh hR trivial h;exact fin rfl ⟨v,H',nx',h1,h2⟩
 |some p=>
  obtain⟨n,bb⟩:=p;cases fz with
  |true=>cases h
  |false=>
   obtain⟨c,a,ha,hca,h⟩:=zS hR h;by_cases hc:c=.b bb
   ·subst hc;cases hca;obtain⟨v,H',nx',h1,h2⟩:=Aq (g:=some (.b bb,bb)) hsh hR rfl h;exact fin (by simp only [wanted,ha];cases bb<;>rfl) ⟨v,H',nx',h1,h2⟩
   ·obtain⟨g,w,hg,hp⟩:=E5 hc h;have hw:wanted st.env (some (n,bb))=false:=by
     simp only [wanted,ha];split
     ·rename_i b' hb;cases hb;cases hca
      ·cases b'<;>cases bb<;>first|rfl|exact absurd rfl hc
      ·rename_i hf _;cases hf
     ·rfl
    have hn:Next nt A V st dd c7 st.H st.nx k:=ay hR (fun hact=>by
     rcases hg with ⟨rfl,rfl⟩|rfl
     ·exact .tr Bt
     ·exact absurd hact hc) hp
    obtain⟨e',h2,V',A',h3,h4,h5⟩:=hn;exact⟨⟨e',st.H,st.nx⟩,by simp only [eo,hw,cond_false,h2],V',A',h3,h4,h5⟩
theorem xM (hsh:n5 prog sh):∀{l:List ax} {A:aX} {V:aF} {st:St} {k:aF->Prop},R A V st->Hi sh prog nt l V k->D5 prog nt A V st (dr (aM prog) nt l st) k
 |[],A,V,st,k,hR,h=>⟨st,rfl,V,A,hR,Fr.refl _ _ _ _,Ext.refl _ _,h⟩
 |o::l,A,V,st,k,hR,h=>by obtain⟨st1,h1,V1,A1,h2,h3,hx,h4⟩:=At hsh hR h;obtain⟨st2,g1,V2,A2,g2,g3,gx,g4⟩:=xM hsh h2 h4;exact⟨st2,by rw [dU,h1];exact g1,V2,A2,g2,h3.trans g3,hx.trans gx,g4⟩
end
end Go.Ax.V
namespace Go.Ax.V
section
variable {sh:Sh} {prog:Map aq} {cf:eF} {nt:Nat} {A:aX} {V:aF} {st:St} {d:Option Nat} {g:G} {k:aF->Prop}
theorem Gt {x:aH} {k:VV->Prop} (h:dw V g x k):k (cm V x):=by
 cases x with
 |c v=>exact h
 |t n=>
  simp only [dw] at h;split at h
  ·cases h
  rename_i e he;have e1:cm V (.t n)=e.v:=by simp only [cm,he]
  rw [e1];split at h
  ·exact h
  ·split at h
   ·cases h
   ·exact h.2
theorem e_ (hR:R A V st) (ha:act g) {x:aH} {k:VV->Prop} (h:dw V g x k):VR A (cm V x) (ev st.env x)/\k (cm V x):=by
 refine⟨?_,Gt h⟩;cases x with
 |c v=>exact xV A v
 |t n=>
  simp only [dw] at h;split at h
  ·cases h
  rename_i e he;obtain⟨a,h1,h2⟩:=hR.env n e he;have e1:cm V (.t n)=e.v:=by simp only [cm,he]
  rw [vu h1,e1];refine h2 (fun c bb hc=>?_);rw [hc] at h;simp only at h;split at h
  ·cases h
  ·obtain⟨e,_⟩:=h;cases e;exact ha
structure o9 (A:aX) (V:aF) (f:yf) (r:Rec):Prop where
 rd:∀x∈r.cR,∃id,(match x with|.qf q=>q.id=id|.obj i=>i=id|.all=>False)/\∃T∈f.rd,∃o a,V.H.get T=some o/\A T=some a/\cY A o a id
 wr:∃l,r.bU=.ids l/\∀id∈l,∃T∈f.wr,∃o a,V.H.get T=some o/\A T=some a/\cY A o a id
def o8 (A:aX) (V:aF) (f:yf) (cR:List Rd) (bU:List Nat):Prop:=
 (∀x∈cR,∃id,(match x with|.qf q=>q.id=id|.obj i=>i=id|.all=>False)/\∃T∈f.rd,∃o a,V.H.get T=some o/\A T=some a/\cY A o a id)/\
 ∀id∈bU,∃T∈f.wr,∃o a,V.H.get T=some o/\A T=some a/\cY A o a id
theorem rS {f:yf}:o8 A V f [] []:=⟨fun x hx=>(by cases hx),fun id h=>(by cases h)⟩
theorem xk {f:yf} {p:aP} (h:p.cR=[]/\p.bU=[]):o8 A V f p.cR p.bU:=by rw [h.1,h.2];exact rS
def qx (p:Option aP):Prop:=∀q,p=some q->q.cR=[]/\q.bU=[]
theorem dS (v:Option AV):qx (dG v):=by
 intro q h;cases v with
 |none=>cases h
 |some v=>cases h;exact⟨rfl,rfl⟩
theorem bK (v:AV):qx (some (.val v)):=fun q h=>by cases h;exact⟨rfl,rfl⟩
theorem jJ (f:Nat->AV) (o:dN):qx (some (.new f o)):=fun q h=>by cases h;exact⟨rfl,rfl⟩
theorem aK:qx none:=fun q h=>by cases h
theorem Bf (hR:R A V st) (ha:act g) {sz:Option Nat} {a:aH} (h:dw V g a fun w=>g_ nt V d g sz w k) {p:aP} (hp:iP (ev st.env) sz a=some p):o8 A V ⟨fc (cm V a),[],[]⟩ p.cR p.bU:=by
 obtain⟨hw,hk⟩:=e_ hR ha h;generalize he:ev st.env a=x at hw;generalize cm V a=w at hw hk;have hit:∀{O:Nat} {o:VO} {pa:AV} {id gg off:Nat},x=.ptr id gg off->V.H.get O=some o->A O=some pa->bV pa=some id->o8 A V ⟨[O],[],[]⟩ p.cR p.bU:=by intro O o pa id gg off hx hO hA hi;subst hx;simp only [iP,he] at hp;cases hp;refine⟨fun y hy=>?_,fun id' h=>by cases h⟩;simp [aP.cR] at hy;subst hy;exact⟨id,rfl,O,by simp,o,pa,hO,hA,.inl hi⟩
 cases hw with
 |@ptr O off id hO=>
  simp only [g_] at hk;split at hk
  ·rename_i v ovs ho;exact hit rfl ho hO rfl
  ·cases hk
 |@pd O off id hO=>
  simp only [g_] at hk;split at hk
  ·rename_i v ovs ho;exact hit rfl ho hO rfl
  ·cases hk
 |@ea O i off id gg b z len cap ex hO=>
  simp only [g_] at hk;split at hk
  ·rename_i z es ho;exact hit rfl ho hO rfl
  ·rename_i ho;exact hit rfl ho hO rfl
  ·cases hk
 |@e2 O v i j off id gg b z len cap ex hA=>obtain⟨s,io,iz,es,ho,_⟩:=ct hk;obtain⟨a0,ha0,_⟩:=hR.heap O _ ho;simp only [iP,he] at hp;cases hp;refine⟨fun y hy=>?_,fun id' h=>by cases h⟩;simp [aP.cR] at hy;subst hy;exact⟨id,rfl,O,by simp [fc],_,a0,ho,ha0,.inr ⟨i,_,by simp,hA,rfl⟩⟩
 |@pt v cs b off n hl hf hcc=>
  simp only [iP,he] at hp;split at hp
  ·exact xk (dS _ p hp)
  ·cases hp
 |_=>cases hk
theorem yt (hR:R A V st) {sz:Nat} {a x:aH} (h:dw V none a fun w=>dw V none x fun x=>gv V sz w x k) {p:aP} (hp:i_ (ev st.env) sz a x=some p):o8 A V ⟨fc (cm V a),fc (cm V a),[]⟩ p.cR p.bU:=by
 obtain⟨hw,hk⟩:=e_ (g:=none) hR trivial h;obtain⟨y,hy,hk⟩:=bE (g:=none) hR trivial hk;generalize he:ev st.env a=q at hw;generalize cm V a=w at hw hk;have hit:∀{O:Nat} {o:VO} {pa:AV} {id gg off:Nat},q=.ptr id gg off->V.H.get O=some o->A O=some pa->bV pa=some id->o8 A V ⟨[O],[O],[]⟩ p.cR p.bU:=by
  intro O o pa id gg off hx hO hA hi;subst hx;simp only [i_,he] at hp;split at hp
  ·rw [cond_eq_ite] at hp;split at hp
   ·cases hp;refine⟨fun y hy=>?_,fun id' h=>?_⟩
    ·simp [aP.cR] at hy;subst hy;exact⟨id,rfl,O,by simp,o,pa,hO,hA,.inl hi⟩
    ·simp [aP.bU] at h;subst h;exact⟨O,by simp,o,pa,hO,hA,.inl hi⟩
   ·cases hp
  ·cases hp
 cases hw with
 |@ptr O off id hO=>
  simp only [gv] at hk;split at hk
  ·rename_i v ovs ho;exact hit rfl ho hO rfl
  ·cases hk
 |@pd O off id hO=>
  simp only [gv] at hk;split at hk
  ·rename_i v ovs ho;exact hit rfl ho hO rfl
  ·cases hk
 |@ea O i off id gg b z len cap ex hO=>
  simp only [gv] at hk;split at hk
  ·rename_i z es ho;exact hit rfl ho hO rfl
  ·rename_i ho;exact hit rfl ho hO rfl
  ·cases hk
 |@e2 O v i j off id gg b z len cap ex hA=>
  obtain⟨s,io,iz,es,ho,_⟩:=ct hk;obtain⟨a0,ha0,_⟩:=hR.heap O _ ho;have hin:cY A (.gn O s io iz v none es) a0 id:=.inr ⟨i,_,by simp,hA,rfl⟩;simp only [i_,he] at hp;split at hp
  ·rw [cond_eq_ite] at hp;split at hp
   ·cases hp;refine⟨fun y hy=>?_,fun id' h=>?_⟩
    ·simp [aP.cR] at hy;subst hy;exact⟨id,rfl,O,by simp [fc],_,a0,ho,ha0,hin⟩
    ·simp [aP.bU] at h;subst h;exact⟨O,by simp [fc],_,a0,ho,ha0,hin⟩
   ·cases hp
  ·cases hp
 |_=>cases hk
theorem yz (hR:R A V st) {len es:Nat} {x:aH} {hi:Option aH} (h:dw V none x fun w=>jV nt V d len es w hi k) {p:aP} (hp:ja (ev st.env) len es x none hi none=some p):o8 A V ⟨fc (cm V x),[],[]⟩ p.cR p.bU:=by
 obtain⟨hw,hk⟩:=e_ (g:=none) hR trivial h;generalize he:ev st.env x=q at hw;generalize cm V x=w at hw hk;have hit:∀{O:Nat} {o:VO} {pa:AV} {id gg off:Nat},q=.ptr id gg off->V.H.get O=some o->A O=some pa->bV pa=some id->o8 A V ⟨[O],[],[]⟩ p.cR p.bU:=by
  intro O o pa id gg off hx hO hA hi';subst hx;simp only [ja,he] at hp;split at hp
  ·cases hp
  cases hp;refine⟨fun y hy=>?_,fun id' h=>by cases h⟩;simp [aP.cR] at hy;subst hy;exact⟨id,rfl,O,by simp,o,pa,hO,hA,.inl hi'⟩
 cases hw with
 |@ptr O off id hO=>
  simp only [jV] at hk;split at hk
  ·rename_i v ovs ho;exact hit rfl ho hO rfl
  ·cases hk
 |@pd O off id hO=>
  simp only [jV] at hk;split at hk
  ·rename_i v ovs ho;exact hit rfl ho hO rfl
  ·cases hk
 |_=>cases hk
theorem DJ (hR:R A V st) {es:Nat} {s x:aH} (hz:0 < es) (h:dw V none s fun w=>dw V none x fun x=>xO nt V d es w x k) {p:aP} (hp:xS es (ev st.env s) (ev st.env x)=some p):o8 A V ⟨u5 (cm V s)++bT (cm V x),u5 (cm V s),[]⟩ p.cR p.bU:=by
 obtain⟨hw,hk⟩:=e_ (g:=none) hR trivial h;obtain⟨hy,hk⟩:=e_ (g:=none) hR trivial hk;generalize he:ev st.env s=q at hw hp;generalize cm V s=w at hw hk;generalize hye:ev st.env x=r at hy hp;generalize cm V x=y at hy hk;cases hw with
 |@sa O off n z id cap hz' hO=>
  simp only [xO] at hk;obtain⟨rfl,hk⟩:=aU hk;split at hk;rotate_left
  ·cases hk
  rename_i v ovs ho;split at hk;rotate_left
  ·cases hk
  have own:∃T∈[O]++bT y,∃o a,V.H.get T=some o/\A T=some a/\cY A o a id:=⟨O,by simp,_,_,ho,hO,.inl rfl⟩;have qka:∃T∈[O],∃o a,V.H.get T=some o/\A T=some a/\cY A o a id:=⟨O,by simp,_,_,ho,hO,.inl rfl⟩;have src:∀{m:Nat} {sr:Src},cQ z r=some (m,sr)->∀g,sr.q=some g->∃T∈[O]++bT y,∃o a,V.H.get T=some o/\A T=some a/\cY A o a g.id:=by
   intro m sr h1 g h2;cases hy with
   |@sl P _ hP=>
    simp only [yw] at hk;split at hk
    ·rename_i z' es ho';obtain⟨rfl,_⟩:=aU hk;obtain⟨b,hb,hs⟩:=hR.heap P _ ho';rw [hP] at hb;cases hb;rcases hs.2 with ⟨_,rfl|rfl⟩|⟨id2,g2,b2,cells,rfl,_⟩
     ·cases h1;cases h2
     ·simp only [cQ,cond_eq_ite] at h1;split at h1
      ·cases h1;cases h2
      ·cases h1
     ·simp only [cQ,cond_eq_ite] at h1;split at h1
      ·cases h1;cases h2;exact⟨P,by simp [bT],_,_,ho',hP,.inl rfl⟩
      ·cases h1
    ·cases hk
   |@tr v _ hcan=>
    obtain⟨xs,e1,_⟩:=hk;cases v<;>first|(cases e1;done)|skip
    cases hcan with
    |nil=>cases h1;cases h2
    |b5 _ cs n z c hn hcl hsz hf hh=>
     simp only [cQ,cond_eq_ite] at h1;split at h1
     ·cases h1;cases h2
     ·cases h1
   |bP=>cases h1;cases h2
   |jP=>
    simp only [cQ,cond_eq_ite] at h1;split at h1
    ·cases h1;cases h2
    ·cases h1
   |_=>cases hk
  unfold xS at hp;split at hp
  ·cases hp
  rename_i m sr hsr;simp only [Nat.beq_refl,cond_true] at hp;cases hp;refine⟨fun x hx=>?_,fun id' h=>?_⟩
  ·simp only [aP.cR,OQ,OS] at hx;rcases hx with hx|rfl
   ·split at hx
    ·rename_i g hg;simp at hx;subst hx;exact⟨g.id,rfl,src hsr g hg⟩
    ·cases hx
   ·exact⟨id,rfl,own⟩
  ·simp [aP.bU] at h;subst h;exact qka
 |_=>cases hk
theorem DV (hR:R A V st) (ha:act g) {es bytes:Nat} {s x:aH} (h:dw V g s fun w=>dw V g x fun x=>uy sh nt V d g es bytes w x k) {p:aP} (hp:lW es bytes (ev st.env s) (ev st.env x)=some p) :
  o8 A V ⟨bT (cm V s)++bT (cm V x),bT (cm V s),bT (cm V s)⟩ p.cR p.bU:=by
 obtain⟨hw,h⟩:=e_ hR ha h;obtain⟨hy,hk⟩:=e_ hR ha h;generalize cm V s=w at hw hk;generalize cm V x=y at hy hk;replace hk:((∃s io xs,y=.gl s io xs)\/((∀O,y=.sl O->∃z es,V.H.get O=some (.gr z es))/\((∃v,y=.tr v)\/y=.bP\/∃O,y=.sl O)))/\
   (w=.bP\/(∃O o,w=.sl O/\V.H.get O=some o)\/∃O v i s io iz es,w=.ow O v i/\V.H.get O=some (.gn O s io iz v none es)):=by
  unfold uy at hk;split at hk
  ·rename_i s' io xs;refine⟨.inl ⟨_,_,_,rfl⟩,?_⟩;replace hk:=(aU hk).2;unfold vG at hk;split at hk
   ·cases hk
   split at hk
   ·exact .inl rfl
   ·split at hk
    ·rename_i ho;exact .inr (.inl ⟨_,_,rfl,ho⟩)
    ·cases hk
   ·cases hk
  ·replace hk:=(cV hk).2;unfold yw at hk;split at hk
   ·obtain⟨xs,_,_,h⟩:=hk;refine⟨.inr ⟨fun O e=>(by cases e),.inl ⟨_,rfl⟩⟩,?_⟩;split at h
    ·exact .inl rfl
    ·split at h
     ·rename_i ho;exact .inr (.inl ⟨_,_,rfl,ho⟩)
     ·cases h
    ·obtain⟨_,_,_,_,ho,_⟩:=ct h;exact .inr (.inr ⟨_,_,_,_,_,_,_,rfl,ho⟩)
    ·cases h
   ·refine⟨.inr ⟨fun O e=>(by cases e),.inr (.inl rfl)⟩,?_⟩;split at hk
    ·exact .inl rfl
    ·split at hk
     ·rename_i ho;exact .inr (.inl ⟨_,_,rfl,ho⟩)
     ·cases hk
    ·obtain⟨_,_,_,_,ho,_⟩:=ct hk;exact .inr (.inr ⟨_,_,_,_,_,_,_,rfl,ho⟩)
    ·cases hk
   ·split at hk
    ·rename_i ho;refine⟨.inr ⟨fun O e=>(by cases e;exact⟨_,_,ho⟩),.inr (.inr ⟨_,rfl⟩)⟩,?_⟩;replace hk:=(aU hk).2;split at hk
     ·exact .inl rfl
     ·split at hk
      ·rename_i ho;exact .inr (.inl ⟨_,_,rfl,ho⟩)
      ·cases hk
     ·obtain⟨_,_,_,_,ho,_⟩:=ct hk;exact .inr (.inr ⟨_,_,_,_,_,_,_,rfl,ho⟩)
     ·cases hk
    ·cases hk
   ·cases hk
 obtain⟨hky,hkw⟩:=hk;generalize ev st.env s=a at hw hp;generalize ev st.env x=b at hy hp;have hsrc:∀{m:Nat} {src:Src} {q:ye},cQ es b=some (m,src)->src.q=some q->∃T∈bT y,∃o a,V.H.get T=some o/\A T=some a/\cY A o a q.id:=by
  intro m src q h1 h2;cases hy with
  |@sl O _ hO=>
   rcases hky with ⟨_,_,_,e⟩|⟨hgr,_⟩
   ·cases e
   obtain⟨z,es',ho⟩:=hgr O rfl;obtain⟨yy,hyy,hs⟩:=hR.heap O _ ho;rw [hO] at hyy;cases hyy;rcases hs.2 with ⟨_,rfl|rfl⟩|⟨id,gg,bb,cells,rfl,_⟩
   ·cases h1;cases h2
   ·simp only [cQ,cond_eq_ite] at h1;split at h1
    ·cases h1;cases h2
    ·cases h1
   ·simp only [cQ,cond_eq_ite] at h1;split at h1
    ·cases h1;cases h2;exact⟨O,by simp [bT],_,_,ho,hO,.inl rfl⟩
    ·cases h1
  |@tr v _ hc=>
   cases hc<;>first|(cases h1;done)|skip
   ·cases h1;cases h2
   ·simp only [cQ,cond_eq_ite] at h1;split at h1
    ·cases h1;cases h2
    ·cases h1
   ·rename_i hf _;cases b<;>first|(cases hf;done)|skip
    all_goals first
     |(cases h1;cases h2;done)
     |(simp only [cQ,cond_eq_ite] at h1
       split at h1
       ·cases h1;cases h2
       ·cases h1)
  |bP=>cases h1;cases h2
  |jP=>
   simp only [cQ,cond_eq_ite] at h1;split at h1
   ·cases h1;cases h2
   ·cases h1
  |gl _ _ _ _ _=>
   simp only [cQ,cond_eq_ite] at h1;split at h1
   ·cases h1;cases h2
   ·cases h1
  |_=>exfalso;rcases hky with ⟨_,_,_,e⟩|⟨_,⟨_,e⟩|e|⟨_,e⟩⟩<;>cases e
 have qxK:∀{id:Nat},bV a=some id->∃T∈bT w,∃o a,V.H.get T=some o/\A T=some a/\cY A o a id:=by
  intro id hi;rcases hkw with rfl|⟨O,o,rfl,ho⟩|⟨O,v,i,s,io,iz,es,rfl,ho⟩
  ·cases hw<;>cases hi
  ·cases hw with
   |sl hO=>exact⟨O,by simp [bT],_,_,ho,hO,.inl hi⟩
  ·cases hw with
   |ow hA=>obtain⟨a0,ha0,_⟩:=hR.heap O _ ho;exact⟨O,by simp [bT],_,_,ho,ha0,.inr ⟨i,_,by simp,hA,hi⟩⟩
 have mk:∀(q:Option ye) (u:Option Nat) (kk:List AV->Option dN->Option Out),(∀r,q=some r->∃T∈bT y,∃o a,V.H.get T=some o/\A T=some a/\cY A o a r.id)->
   (∀i,u=some i->∃T∈bT w,∃o a,V.H.get T=some o/\A T=some a/\cY A o a i)->o8 A V ⟨bT w++bT y,bT w,bT w⟩ (aP.look q u kk).cR (aP.look q u kk).bU:=by
  intro q u kk h1 h2;refine⟨fun z hz=>?_,fun id hid=>?_⟩
  ·simp only [aP.cR,OQ] at hz;rcases hz with hz|hz
   ·cases q with
    |none=>cases hz
    |some r=>simp at hz;subst hz;obtain⟨T,h3,h4⟩:=h1 r rfl;exact⟨r.id,rfl,T,List.mem_append_right _ h3,h4⟩
   ·cases u with
    |none=>cases hz
    |some i=>simp at hz;subst hz;obtain⟨T,h3,h4⟩:=h2 i rfl;exact⟨i,rfl,T,List.mem_append_left _ h3,h4⟩
  ·cases u with
   |none=>cases hid
   |some i=>simp [aP.bU] at hid;subst hid;exact h2 _ rfl
 unfold lW at hp;split at hp
 ·cases hp
 rename_i m src hm;rw [cond_eq_ite] at hp;split at hp
 ·rw [cond_eq_ite] at hp;split at hp
  ·cases hp;exact rS
  ·cases hp
 ·split at hp
  ·rw [cond_eq_ite] at hp;split at hp
   ·cases hp;exact mk _ _ _ (fun r hr=>hsrc hm hr) (fun i hi=>by cases hi)
   ·cases hp
  ·rw [cond_eq_ite] at hp;split at hp
   ·cases hp;exact mk _ _ _ (fun r hr=>hsrc hm hr) (fun i hi=>by cases hi)
   ·cases hp
  ·rename_i id gg off es' len cap ex;rw [cond_eq_ite] at hp;split at hp
   ·cases hp;unfold sQ;rw [cond_eq_ite];split
    ·exact mk _ _ _ (fun r hr=>hsrc hm hr) (fun i hi=>by cases hi;exact qxK rfl)
    ·rw [cond_eq_ite];split
     ·exact mk _ _ _ (fun r hr=>hsrc hm hr) (fun i hi=>by cases hi;exact qxK rfl)
     ·exact mk _ _ _ (fun r hr=>hsrc hm hr) (fun i hi=>by cases hi;exact qxK rfl)
   ·cases hp
  ·cases hp
theorem kq {V':aF} (he:V'.env=V.env):∀(parts:List (Nat×Nat×aH)),dV V' parts=dV V parts
 |[]=>rfl
 |(_,_,x)::r=>by
  have e1:cm V' x=cm V x:=by cases x<;>simp only [cm,he]
  simp only [dV,kq he r,e1]
theorem sw {sz:Nat}:∀(parts:List (Nat×Nat×aH)) (j:Nat) (V:aF) (k:List TV->aF->Prop),R A V st->ia V none true sz j parts k->
  ∀id∈(parts.map fun p=>ev st.env p.2.2).flatMap (bq deep st.H),∃T∈dV V parts,∃o a,V.H.get T=some o/\A T=some a/\cY A o a id
 |[],j,V,k,hR,hk,id,hid=>by simp at hid
 |(off,n,x)::r,j,V,k,hR,hk,id,hid=>by
  obtain⟨_,hk⟩:=hk;obtain⟨hw,hk⟩:=e_ (g:=none) hR trivial hk;rw [List.map_cons,List.flatMap_cons,OQ] at hid;have rest:∀{V1:aF} {k':List TV->aF->Prop},Sub V V1->ia V1 none true sz (j+1) r k'->id∈(r.map fun p=>ev st.env p.2.2).flatMap (bq deep st.H)->
    ∃T∈bT (cm V x)++dV V r,∃o a,V.H.get T=some o/\A T=some a/\cY A o a id:=by
   intro V1 k' hs hk' hi;obtain⟨T,h1,o,a,h2,h3,h4⟩:=sw r (j+1) V1 k' (hs.r hR) hk' id hi;rw [kq hs.env] at h1;exact⟨T,List.mem_append_right _ h1,o,a,hs.H _ _ h2,h3,h4⟩
  simp only [dV];generalize cm V x=w at hw hk rest;generalize ev st.env x=a at hw hid;have no:a.plain=true->id∈bq deep st.H a->False:=fun hp hi=>by have:bq deep st.H a=[]:=lH hp 27 _;rw [this] at hi;cases hi
  cases hw with
  |tr hc=>exact hid.elim (fun hi=>(no (fM hc) hi).elim) (rest (Sub.refl V) hk.2)
  |bP=>exact hid.elim (fun hi=>(no rfl hi).elim) (rest (Sub.refl V) hk.2)
  |jP=>exact hid.elim (fun hi=>(no rfl hi).elim) (rest (Sub.refl V) hk.2)
  |@sl O _ hO=>obtain⟨_,_,hk⟩:=hk;obtain⟨ob,ho,hwh,es,hk,_⟩:=uZ hk;refine hid.elim (fun hi=>?_) (rest (mz V (.sl O)) hk);obtain⟨y,hy,hs⟩:=hR.heap O _ ho;rw [hO] at hy;cases hy;exact⟨O,List.mem_append_left _ (by simp [bT]),_,_,ho,hO,lG hwh hs 27 id hi⟩
  |@st t o cs tl hv hc=>
   obtain⟨qzx,hk⟩:=hk;replace qzx:EU o=true:=by simpa using qzx
   have qxD:=mj hk;obtain⟨u,hk⟩:=mY hk;refine hid.elim (fun hi=>?_) (rest (iJ o V) hk.2);have hi':id∈cs.flatMap (bq 29 st.H):=hi;obtain⟨y,hy,hi'⟩:=List.mem_flatMap.1 hi';obtain⟨q,hq⟩:=List.getElem?_of_mem hy;have hlt:q < tl.length:=by rw [hc.len];exact(Ow.1 hq).1
   have hat:=hc.at_ q _ y (Ov hlt) hq;cases ho:bp q o with
   |none=>rw [ho] at hat;have hh:bq 29 st.H y=[]:=kL hat.2 28 _;rw [hh] at hi';cases hi'
   |some w=>
    rw [ho] at hat;cases w<;>first|(exact absurd hat (by intro hh;exact hh))|skip
    ·rcases hat with e|e<;>(rw [e] at hi';cases hi')
    ·rename_i O;have hO:A O=some y:=hat;obtain⟨ob,hO',hwh⟩:=qxD q O (gQ ho);obtain⟨y',hy',hs'⟩:=hR.heap O _ hO';rw [hO] at hy';cases hy';have hmem:∀{l:List (Nat×VV)} {i:Nat},(i,VV.sl O)∈l->O∈ot l:=by
      intro l
      induction l with
      |nil=>intro i h;cases h
      |cons p l ih=>
       intro i h;obtain⟨i',w'⟩:=p;rcases OP.1 h with h1|h1
       ·cases h1;simp [ot]
       ·cases w'<;>first|exact ih h1|exact OO _ (ih h1)
     exact⟨O,List.mem_append_left _ (hmem (gQ ho)),_,_,hO',hO,lG hwh hs' 26 id hi'⟩
    ·exact absurd (gQ ho) (rI qzx _ _ _ _)
  |_=>cases hk
theorem iG (hR:R A V st) (ha:act g):∀{xs:List aH} {k:Bool->List TV->Prop},oa V xs=true->k6 V g xs k->bx AV.plain (xs.map (ev st.env))=true
 |[],k,h,hk=>rfl
 |x::xs,k,h,hk=>by
  simp only [oa,OV] at h;obtain⟨hw,hk⟩:=e_ hR ha hk;rw [List.map_cons,aJ];have h1:=h.1;generalize cm V x=w at hw hk h1;generalize ev st.env x=a at hw;have fin:∀{kk:Bool->List TV->Prop},a.plain=true->k6 V g xs kk->∀y∈a::xs.map (ev st.env),AV.plain y=true:=by
   intro kk hp hk y hy;rcases OP.1 hy with rfl|hy
   ·exact hp
   ·exact aJ.1 (iG hR ha h.2 hk) y hy
  cases hw<;>first|(cases h1;done)|skip
  ·rename_i v hc;exact fin (fM hc) hk
  ·exact fin rfl hk
  ·exact fin rfl hk
  ·rename_i v ovs cs ts hv hc;obtain⟨t,hk⟩:=mY hk;exact fin (kV hc h1) hk
theorem De (hR:R A V st) {len:Nat} {zero:List AV} {parts:List (Nat×Nat×aH)} (h:pO sh nt V d none true len zero parts k) :
  ∀id∈(parts.map fun p=>ev st.env p.2.2).flatMap (bq deep st.H),∃T∈dV V parts,∃o a,V.H.get T=some o/\A T=some a/\cY A o a id:=by
 unfold pO at h;split at h
 ·unfold Aw at h;simp only at h;split at h
  ·split at h<;>first|(cases h;done)|skip
   split at h<;>first|(cases h;done)|skip
  ·exact sw parts 0 V _ hR (aU (cV h).2).2
 ·simp only at h;split at h;rotate_left
  ·cases h
  rename_i off n x;split at h;rotate_left
  ·cases h
  obtain⟨w,hw,hk⟩:=bE (g:=none) hR trivial h;have hpl:(ev st.env x).plain=true:=by
   generalize ev st.env x=p at hw;unfold Hl at hk;split at hk
   ·cases hw<;>rfl
   ·split at hk
    ·cases hw with
     |st hv hc=>exact kV hc rfl
    ·cases hk
   ·cases hk
  intro id hid;have hh:bq deep st.H (ev st.env x)=[]:=lH hpl 27 _;simp only [List.map_cons,List.map_nil,List.flatMap_cons,List.flatMap_nil,List.append_nil] at hid;rw [hh] at hid;cases hid
theorem E6 (hR:R A V st) {o:ax} (h:E7 sh prog nt V o k) {f:yf} (hf:vt V o=some f) {st':St} (hrun:eo (aM prog) nt o st=some st') (n0:Nat) :
  ∃r,bz (aM prog) nt n0 o st=some (st',r)/\o9 A V f r/\r.w7=st.nx/\r.n9=st'.nx:=by
 obtain⟨dd,op,gd,fz⟩:=o;unfold eo at hrun;simp only [cond_eq_ite] at hrun;by_cases hw:wanted st.env gd=true;rotate_left
 ·rw [if_neg hw] at hrun;split at hrun
  ·rename_i e he;cases hrun;exact⟨⟨[],.ids [],st.H,st.H,st.nx,st.nx⟩,by simp only [bz,cond_eq_ite,if_neg hw,he],⟨fun x hx=>(by cases hx),⟨[],rfl,fun id hid=>(by cases hid)⟩⟩,rfl,rfl⟩
  ·cases hrun
 rw [if_pos hw] at hrun;split at hrun
 ·cases hrun
 rename_i v H' nx' hdo;split at hrun;rotate_left
 ·cases hrun
 rename_i e he;cases hrun;have fin:∀{cR:List Rd} {bU:List Nat},dZ (aM prog) n0 ⟨dd,op,gd,fz⟩ (ev st.env) st.H st.nx=some (v,H',nx',cR,.ids bU)->o8 A V f cR bU->
   ∃r,bz (aM prog) nt n0 ⟨dd,op,gd,fz⟩ st=some (⟨e,H',nx'⟩,r)/\o9 A V f r/\r.w7=st.nx/\r.n9=nx':=by
  intro cR bU h1 h2;exact⟨⟨cR,.ids bU,st.H,H',st.nx,nx'⟩,by simp only [bz,cond_eq_ite,if_pos hw,h1,he],⟨h2.1,bU,rfl,h2.2⟩,rfl,rfl⟩
 cases fz with
 |true=>
  have hgd:gd=none:=by
   cases gd with
   |none=>rfl
   |some p=>cases h
  subst hgd;simp only [E7] at h;split at h
  ·rename_i len zero parts;simp only [vt] at hf;cases hf;have qzz:∀id∈(parts.map fun p=>ev st.env p.2.2).flatMap (bq deep st.H),∃T∈dV V parts,∃o a,V.H.get T=some o/\A T=some a/\cY A o a id:=De hR h;simp only [je,cond_true] at hdo
   ·split at hdo
    ·cases hdo
    rename_i l hl;split at hdo
    ·rename_i v' hv';cases hdo;refine fin (cR:=((parts.map fun p=>ev st.env p.2.2).flatMap (bq deep st.H)).map Rd.obj) (bU:=(parts.map fun p=>ev st.env p.2.2).flatMap (bq deep st.H)) ?_ ⟨fun x hx=>?_,qzz⟩
     ·simp only [dZ,cond_true,hl,hv']
     ·obtain⟨id,hid,rfl⟩:=OT.1 hx;exact⟨id,rfl,qzz id hid⟩
    ·cases hdo
  ·cases h
 |false=>
  have hev:∃g:G,act g/\lV sh prog nt V dd g op k:=by
   cases gd with
   |none=>exact⟨none,trivial,h⟩
   |some p=>
    obtain⟨n,bb⟩:=p;obtain⟨c,a,ha,hca,h⟩:=zS hR h;refine⟨some (c,bb),?_,h⟩;simp only [wanted,ha] at hw;split at hw
    ·rename_i b' hb;cases hb;cases hca;rotate_left
     ·rename_i hf _;cases hf
     show TV.b b'=TV.b bb;congr 1;cases b'<;>cases bb<;>first|rfl|cases hw
    ·cases hw
  obtain⟨g,hact,h⟩:=hev;have qxy:fk (aM prog) op (ev st.env) st.H st.nx=some (v,H',nx'):=hdo;have plan:∀{p:(aH->AV)->Option aP},kind op=.plan p->(∀q,p (ev st.env)=some q->o8 A V f q.cR q.bU)->∃r,bz (aM prog) nt n0 ⟨dd,op,gd,false⟩ st=some (⟨e,H',nx'⟩,r)/\o9 A V f r/\r.w7=st.nx/\r.n9=nx':=by
   intro p hk hl;simp only [fk,hk] at qxy;split at qxy
   ·rename_i q hq;refine fin (cR:=q.cR) (bU:=q.bU) ?_ (hl q hq);simp only [dZ,cond_false,j5,hk,hq,qxy]
   ·cases qxy
  have plain:∀{p:(aH->AV)->Option aP},kind op=.plan p->qx (p (ev st.env))->∃r,bz (aM prog) nt n0 ⟨dd,op,gd,false⟩ st=some (⟨e,H',nx'⟩,r)/\o9 A V f r/\r.w7=st.nx/\r.n9=nx':=
   fun hk hs=>plan hk (fun q hq=>xk (hs q hq))
  have call:∀{n:Nat} {args:List aH},(kind op=.call n args .borrow\/∃fv,kind op=.cM fv args .borrow/\ev st.env fv=.func n)->bx AV.plain (args.map (ev st.env))=true->
    ∃r,bz (aM prog) nt n0 ⟨dd,op,gd,false⟩ st=some (⟨e,H',nx'⟩,r)/\o9 A V f r/\r.w7=st.nx/\r.n9=nx':=by
   intro n args hk hp;have hd:bH (aM prog) n (args.map (ev st.env)) .borrow st.H st.nx=some (v,H',nx'):=by
    rcases hk with hk|⟨fv,hk,hf⟩
    ·simpa only [fk,hk] using qxy
    ·simpa only [fk,hk,hf] using qxy
   have hH:H'=st.H/\nx'=st.nx:=by
    have hd':=hd;simp only [bH,hp,cond_true] at hd';split at hd'
    ·cases hd';exact⟨rfl,rfl⟩
    ·cases hd'
   obtain⟨rfl,rfl⟩:=hH;refine fin (cR:=[]) (bU:=[]) ?_ rS;rcases hk with hk|⟨fv,hk,hf⟩
   ·simp only [dZ,cond_false,j5,hk,bR,hp,cond_true,hd]
   ·simp only [dZ,cond_false,j5,hk,hf,bR,hp,cond_true,hd]
  cases op with
  |mv x=>exact plain rfl (bK _)
  |pick c a b=>
   refine plain (p:=fun ρ=>ng ρ c a b) rfl ?_;unfold ng;split
   ·split<;>exact bK _
   ·exact aK
  |alloc zero=>exact plain rfl (jJ _ _)
  |box x=>
   refine plain (p:=fun ρ=>wU ρ x) rfl ?_;unfold wU;split
   ·exact jJ _ _
   ·exact aK
  |build zero parts=>
   refine plain (p:=fun ρ=>jN ρ zero parts) rfl ?_;unfold jN;split
   ·exact bK _
   ·exact aK
  |eO es len zero parts=>
   refine plain (p:=fun ρ=>iQ ρ es len zero parts) rfl ?_;unfold iQ;split
   ·exact jJ _ _
   ·exact aK
  |aQ len zero parts=>
   refine plain (p:=fun ρ=>c5 ρ len zero parts) rfl ?_;unfold c5;split
   ·rw [cond_eq_ite];split
    ·exact bK _
    ·exact aK
   ·exact aK
  |load sz a=>simp only [vt] at hf;cases hf;exact plan (p:=fun ρ=>iP ρ sz a) rfl (fun q hq=>Bf hR hact h hq)
  |store sz a x=>
   simp only [vt] at hf;cases hf;cases g with
   |none=>
    cases dd with
    |none=>exact plan (p:=fun ρ=>i_ ρ sz a x) rfl (fun q hq=>yt hR h hq)
    |some _=>cases h
   |some _=>cases h
  |iT x=>refine plain (p:=fun ρ=>gM ρ x) rfl ?_;unfold gM;split<;>first|exact bK _|exact aK
  |bin op x y=>exact plain (p:=fun ρ=>dG (ya op (ρ x) (ρ y))) rfl (dS _)
  |eq t neg x y=>
   refine plain (p:=fun ρ=>CP ρ t neg x y) rfl ?_;unfold CP;split
   ·exact bK _
   ·exact aK
  |un op x=>exact plain (p:=fun ρ=>dG (F7 op (ρ x))) rfl (dS _)
  |conv c x=>
   refine plain (p:=fun ρ=>pE ρ c x) rfl ?_;unfold pE;split
   ·exact bK _
   ·exact aK
  |kF es bytes zero n=>
   refine plain (p:=fun ρ=>pz ρ es bytes zero n) rfl ?_;unfold pz;split
   ·split
    ·rw [cond_eq_ite];split
     ·exact jJ _ _
     ·exact aK
    ·exact aK
   ·exact aK
  |j3 x lo hi=>
   refine plain (p:=fun ρ=>kr ρ x lo hi) rfl ?_;unfold kr;split
   ·split
    ·exact aK
    ·exact bK _
   ·exact aK
  |iX es x lo hi mx=>exact plain (p:=fun ρ=>dG (yD es ρ (ρ x) lo hi mx)) rfl (dS _)
  |iL n es x lo hi mx=>
   cases hf;obtain⟨hz,h⟩:=cV h;cases g with
   |some q=>cases h
   |none=>
    cases lo with
    |some _=>cases h
    |none=>
     cases mx with
     |some _=>cases h
     |none=>exact plan (p:=fun ρ=>ja ρ n es x none hi none) rfl (fun q hq=>yz hR h hq)
  |gZ off x=>refine plain (p:=fun ρ=>gb ρ off x) rfl ?_;unfold gb;split<;>first|exact bK _|exact aK
  |Bm off sz x=>
   refine plain (p:=fun ρ=>wS ρ off sz x) rfl ?_;unfold wS;split
   ·split
    ·exact dS _
    ·exact aK
   ·exact aK
  |bQ es x i=>
   refine plain (p:=fun ρ=>gN ρ es x i) rfl ?_;unfold gN;split
   ·split
    ·split
     ·split
      ·exact aK
      ·exact bK _
     ·exact aK
    ·rw [cond_eq_ite];split
     ·split
      ·exact bK _
      ·exact aK
     ·exact aK
    ·exact aK
   ·exact aK
  |kM len es x i=>
   refine plain (p:=fun ρ=>ku ρ len es x i) rfl ?_;unfold ku;split
   ·split
    ·split<;>first|exact bK _|exact aK
    ·exact aK
   ·exact aK
  |idx x i=>
   refine plain (p:=fun ρ=>wR ρ x i) rfl ?_;unfold wR;split
   ·split
    ·split
     ·exact bK _
     ·exact aK
    ·exact aK
   ·exact aK
  |ext i x=>
   refine plain (p:=fun ρ=>wT ρ i x) rfl ?_;unfold wT;split
   ·exact dS _
   ·exact aK
  |app es bytes s x=>simp only [vt] at hf;cases hf;exact plan (p:=fun ρ=>lW es bytes (ρ s) (ρ x)) rfl (fun q hq=>DV hR hact h hq)
  |BM es dd s=>
   cases hf;obtain⟨hz,h⟩:=cV h;cases g with
   |some q=>cases h
   |none=>exact plan (p:=fun ρ=>xS es (ρ dd) (ρ s)) rfl (fun q hq=>DJ hR hz h hq)
  |Eb es zero x=>cases hf
  |len str x=>
   refine plain (p:=fun ρ=>jb ρ str x) rfl ?_;unfold jb;split
   ·split
    ·exact bK _
    ·exact aK
   ·split<;>first|exact bK _|exact aK
  |yh mx xs=>
   refine plain (p:=fun ρ=>vg ρ mx xs) rfl ?_;unfold vg;split
   ·exact dS _
   ·exact aK
  |l9=>cases h
  |l8 t zero ok m k=>cases hf
  |vk t m k v=>cases hf
  |s9 m=>cases hf
  |call n args m=>
   cases m with
   |share=>cases hf
   |borrow=>
    simp only [vt] at hf;split at hf
    ·rename_i ht;simp only [lV] at h;exact call (.inl rfl) (iG hR hact ht h)
    ·cases hf
  |cM fv args m=>
   cases m with
   |share=>cases hf
   |borrow=>
    simp only [vt] at hf;split at hf
    ·rename_i ht;simp only [lV] at h;obtain⟨fvv,hfv,h⟩:=bN hR hact h;cases g with
     |none=>obtain⟨n,rfl,h⟩:=h;generalize he':ev st.env fv=p at hfv;cases hfv;exact call (.inr ⟨fv,rfl,he'⟩) (iG (g:=none) hR trivial ht h)
     |some q=>obtain⟨c,bb⟩:=q;obtain⟨n,hn,h⟩:=h;obtain rfl:=hn hact;generalize he':ev st.env fv=p at hfv;cases hfv;exact call (.inr ⟨fv,rfl,he'⟩) (iG hR hact ht h)
    ·cases hf
end
end Go.Ax.V
namespace Go.Ax.V
section
variable {sh:Sh} {prog:Map aq} {cf:eF} {nt:Nat}
theorem gS {n:Nat}:∀{l:List Nat},lU n l=true↔n∈l
 |[]=>by simp [lU]
 |m::l=>by simp [lU,gS (l:=l)]
theorem wg {m:List Nat}:∀{l:List Nat},Es l m=true->∀n∈l,n∈m
 |[],h,n,hn=>by cases hn
 |x::l,h,n,hn=>by
  simp only [Es,OV] at h;rcases OP.1 hn with rfl|hn
  ·exact gS.1 h.1
  ·exact wg h.2 n hn
theorem lP {m:List Nat}:∀{l:List Nat},uH l m=true->∀n∈l,n ∉ m
 |[],h,n,hn=>by cases hn
 |x::l,h,n,hn=>by
  simp only [uH,OV,OX] at h;rcases OP.1 hn with rfl|hn
  ·intro hm;rw [gS.2 hm] at h;exact absurd h.1 (by decide)
  ·exact lP h.2 n hn
theorem kj {info:List (Nat×Nat×List Nat)} {T:Nat}:∀{l:List Nat},T∈l->(cW T info).1∈iM info l
 |[],h=>by cases h
 |x::l,h=>by
  rcases OP.1 h with rfl|h
  ·exact ON
  ·exact OO _ (kj h)
theorem nT {info:List (Nat×Nat×List Nat)} {ah:List Nat}:∀{l:List Nat},jv info ah l=true->∀T∈l,∀c∈(cW T info).2,c∈ah
 |[],h,T,hT=>by cases hT
 |x::l,h,T,hT=>by
  simp only [jv,OV] at h;rcases OP.1 hT with rfl|hT
  ·exact wg h.1
  ·exact nT h.2 T hT
theorem dW (T T':Nat) (x:Nat×List Nat) (l:List (Nat×Nat×List Nat)):cW T ((T',x)::l)=if T'=T then x else cW T l:=by simp only [cW,cond_eq_ite,OY]
theorem Bz {α:Type} (v:Option α) (l r:Map α) (p:Nat->Bool):s_ (.node v l r) p=((match v with|none=>true|some _=>p 0)&&(s_ l (fun k=>p (Nat.succ (Nat.mul 2 k)))&&s_ r (fun k=>p (Nat.succ (Nat.succ (Nat.mul 2 k)))))):=rfl
theorem jE {α:Type}:∀(m:Map α) (p:Nat->Bool),s_ m p=true->∀i x,m.get i=some x->p i=true
 |.leaf,p,h,i,x,hx=>by cases hx
 |.node v l r,p,h,i,x,hx=>by
  rw [Bz,OV,OV] at h;obtain⟨h1,h2,h3⟩:=h;rw [Map.bX] at hx;by_cases h0:i=0
  ·subst h0;simp at hx;subst hx;exact h1
  ·rw [if_neg h0] at hx;split at hx
   ·have:=jE l _ h2 _ x hx;rwa [show Nat.succ (Nat.mul 2 (i / 2))=i by show 2*(i / 2)+1=i;omega] at this
   ·have:=jE r _ h3 _ x hx;rwa [show Nat.succ (Nat.succ (Nat.mul 2 (i / 2 - 1)))=i by show 2*(i / 2 - 1)+2=i;omega] at this
theorem fV {V:aF} {T:Nat}:jt V T=true↔∃o,V.H.get T=some o:=by
 unfold jt;split
 ·rename_i o ho;exact⟨fun _=>⟨o,ho⟩,fun _=>rfl⟩
 ·rename_i ho;exact⟨fun h=>(by cases h),fun ⟨o,h⟩=>(by rw [ho] at h;cases h)⟩
theorem vT {α:Type}:∀(m:Map α) (f:Nat->Prop->Prop) (P:Nat->Prop) (k:Prop),(∀T k,f T k->P T/\k)->Bx m f k->k/\∀T x,m.get T=some x->P T
 |.leaf,f,P,k,hf,h=>⟨h,fun T x hT=>(by cases hT)⟩
 |.node v l r,f,P,k,hf,h=>by
  have h':(match v with|none=>fun k=>k|some _=>f 0) (Bx l (fun i=>f (Nat.succ (Nat.mul 2 i))) (Bx r (fun i=>f (Nat.succ (Nat.succ (Nat.mul 2 i)))) k)):=h;have h0:(∀x,v=some x->P 0)/\Bx l (fun i=>f (Nat.succ (Nat.mul 2 i))) (Bx r (fun i=>f (Nat.succ (Nat.succ (Nat.mul 2 i)))) k):=by
   cases v with
   |none=>exact⟨fun x hx=>(by cases hx),h'⟩
   |some x=>obtain⟨p,q⟩:=hf 0 _ h';exact⟨fun _ _=>p,q⟩
  obtain⟨hl,h1⟩:=vT l _ (fun i=>P (Nat.succ (Nat.mul 2 i))) _ (fun T k h=>hf _ _ h) h0.2;obtain⟨hk,h2⟩:=vT r _ (fun i=>P (Nat.succ (Nat.succ (Nat.mul 2 i)))) _ (fun T k h=>hf _ _ h) hl;refine⟨hk,fun T x hT=>?_⟩;rw [Map.bX] at hT;by_cases h00:T=0
  ·subst h00;rw [if_pos rfl] at hT;exact h0.1 x hT
  ·rw [if_neg h00] at hT;split at hT
   ·have:=h1 _ x hT;rwa [show Nat.succ (Nat.mul 2 (T / 2))=T by show 2*(T / 2)+1=T;omega] at this
   ·have:=h2 _ x hT;rwa [show Nat.succ (Nat.succ (Nat.mul 2 (T / 2 - 1)))=T by show 2*(T / 2 - 1)+2=T;omega] at this
def D3:Option VO->Option VO->Prop
 |some (.gn K _ _ _ v h _),some (.gn K' _ _ _ v' h' _)=>K=K'/\v=v'/\(h=none\/h=h')
 |some (.gn ..),some _=>False
 |some _,some (.gn ..)=>False
 |_,_=>True
theorem B7 {x y:Option VO} {k:Prop} (h:B8 x y k):D3 x y/\k:=by
 unfold B8 at h;split at h
 ·split at h
  ·split at h
   ·rename_i hb;rw [OV,OY,OY] at hb;obtain⟨rfl,rfl⟩:=hb;split at h
    ·exact⟨⟨rfl,rfl,.inl rfl⟩,h⟩
    ·split at h
     ·obtain⟨rfl,h⟩:=h;exact⟨⟨rfl,rfl,.inr rfl⟩,h⟩
     ·cases h
   ·cases h
  ·cases h
  ·exact⟨trivial,h⟩
 ·rename_i o hne;split at h
  ·cases h
  ·rename_i qz6;refine⟨?_,h⟩;cases o<;>first|(exact(hne _ _ _ _ _ _ _ rfl).elim)|skip
   all_goals (cases y with
    |none=>trivial
    |some o=>cases o<;>first|trivial|exact(qz6 _ _ _ _ _ _ _ rfl).elim)
 ·exact⟨trivial,h⟩
def Fz (V V':aF):Prop:=∀T o,V'.H.get T=some o->D3 (V.H.get T) (V'.H.get T)
theorem zM {l:List ax} {V V':aF} {k:Prop} (h:AQ l V V' k):k/\(l≠[]->Fz V V'):=by
 cases l with
 |nil=>exact⟨h,fun hn=>absurd rfl hn⟩
 |cons o l=>obtain⟨h1,h2⟩:=vT V'.H _ (fun T=>D3 (V.H.get T) (V'.H.get T)) k (fun T k h=>B7 h) h;exact⟨h1,fun _ T o ho=>h2 T o ho⟩
theorem nI {A A1:aX} {V V1:aF} {st:St} (hR:R A V st) (hx:Ext V A V1 A1) (hs:Fz V V1) {T:Nat} {o o':VO} {a:AV} {id:Nat} (h':V.H.get T=some o') (h:V1.H.get T=some o) (ha:A T=some a) (hi:cY A1 o a id):cY A o' a id:=by
 have hso:=hs T o h;rw [h',h] at hso;rcases hi with hi|hi
 ·exact .inl hi
 cases o with
 |gn K s io iz v hl es=>
  cases o' with
  |gn K' s' io' iz' v' hl' es'=>
   obtain⟨rfl,rfl,hh⟩:=hso;obtain⟨j,x,h1,h2,h3⟩:=hi;obtain⟨rfl,hv,_⟩:=hR.eI T _ a h' ha;rcases hx.new _ x h2 with h4|h4|⟨K2,v2,j2,s2,io2,iz2,ver2,qzt,es2,e,h4,h5⟩
   ·refine .inr ⟨j,x,fun he=>?_,h4,h3⟩;rcases hh with rfl|rfl
    ·cases he
    ·exact h1 he
   ·obtain⟨y,hy,_⟩:=hR.heap _ _ h';have:=hR.used (.s K') h4;rw [hy] at this;cases this
   ·cases e;rw [h'] at h4;cases h4;omega
  |_=>cases hso
 |_=>cases hi
structure D6 (hp:Prop) (n0:Nat) (rs:List Rec) (A:aX) (V:aF) (st:St) (info:List (Nat×Nat×List Nat)) (ρ:Nat->Option Nat):Prop where
 known:∀T o a id,V.H.get T=some o->A T=some a->cY A o a id->id < n0\/∃c∈(cW T info).2,∃r,rs[c]?=some r/\r.w7<=id/\id < r.n9
 root:hp->∀T o a id,V.H.get T=some o->A T=some a->cY A o a id->ρ id=some (cW T info).1
 dom:∀id q,ρ id=some q->id < st.nx
def td (ρ:Nat->Option Nat) (r:Rec) (f:List Nat×List Nat):Prop:=
 (∀x∈r.cR,∃id,(match x with|.qf q=>q.id=id|.obj i=>i=id|.all=>False)/\∃q,ρ id=some q/\q∈f.1)/\∃l,r.bU=.ids l/\∀id∈l,∃q,ρ id=some q/\q∈f.2
structure BB (hp:Prop) (n0:Nat) (ahead:List (List Nat)) (rs:List Rec) (feet:List (List Nat×List Nat)) (ρ:Nat->Option Nat) (P:List (Nat×Nat)):Prop where
 len:feet.length=rs.length
 EF:hp->∀(c:Nat) r f,rs[c]?=some r->feet[c]?=some f->td ρ r f\/∀p∈P,(p.1=c\/p.2=c)->gL rs p=true
 known:∀(c:Nat) r ah,rs[c]?=some r->ahead[c]?=some ah->∀rs',(∀(i:Nat) a,rs[i]?=some a->rs'[i]?=some a)->r.cR.all (Cu n0 rs' ah)=true/\tj n0 rs' ah r.bU=true
theorem rz {rs:List Rec} {r:Rec} {p:Nat×Nat} (h:gL rs p=true):gL (rs++[r]) p=true:=by
 unfold gL at h ⊢;split at h
 ·rename_i a b ha hb;have h1:(rs++[r])[p.1]?=some a:=by rw [Ox (Ow.1 ha).1];exact ha
  have h2:(rs++[r])[p.2]?=some b:=by rw [Ox (Ow.1 hb).1];exact hb
  rw [h1,h2];exact h
 ·cases h
theorem td.mono {ρ ρ':Nat->Option Nat} (h:∀id q,ρ id=some q->ρ' id=some q) {r:Rec} {f:List Nat×List Nat} (hr:td ρ r f):td ρ' r f:=
 ⟨fun x hx=>let ⟨id,h1,q,h2,h3⟩:=hr.1 x hx;⟨id,h1,q,h _ _ h2,h3⟩,let ⟨l,h1,h2⟩:=hr.2;⟨l,h1,fun id hid=>let ⟨q,h3,h4⟩:=h2 id hid;⟨q,h _ _ h3,h4⟩⟩⟩
def IG (d:Option Nat) (info:List (Nat×Nat×List Nat)):Nat:=match d with
 |some T=>(cW T info).1
 |none=>0
theorem B1 {n0 i:Nat} {rs:List Rec} {A A1:aX} {V V1:aF} {st st1:St} {info info':List (Nat×Nat×List Nat)} {ρ:Nat->Option Nat} {f:yf} {d:Option Nat} {r:Rec} {feet:List (List Nat×List Nat)} {ahead:List (List Nat)} {ah:List Nat}
  (hR:R A V st) (hR1:R A1 V1 st1) (hF:Fr V A st.H st.nx V1 A1 st1.H st1.nx) (hx:Ext V A V1 A1) {hp:Prop} {P:List (Nat×Nat)} (hinv:D6 hp n0 rs A V st info ρ) (hh:BB hp n0 ahead rs feet ρ P) (hi:rs.length=i)
  (hfo:o9 A V f r) (h0:r.w7=st.nx) (h1:r.n9=st1.nx) (hah:ahead[i]?=some ah) (hch:jv info ah (f.rd++f.wr)=true) (hs:tq d i V V1 f info=some info') :
  ∃ρ',(Fz V V1->D6 hp n0 (rs++[r]) A1 V1 st1 info' ρ')/\BB hp n0 ahead (rs++[r]) (feet++[(iM info f.rd,iM info f.wr)]) ρ' P:=by
 have qx9:(rs++[r])[i]?=some r:=by rw [Oy (by omega),hi,Nat.sub_self];rfl
 have hold:∀(c:Nat) a,rs[c]?=some a->(rs++[r])[c]?=some a:=fun c a hc=>by rw [Ox (Ow.1 hc).1];exact hc
 have hkeys:∀T o,V1.H.get T=some o->(∃o',V.H.get T=some o')\/d=some T:=by
  unfold tq at hs;split at hs
  ·cases hs
  ·rename_i hc;intro T o hT;have:=jE _ _ hc T o hT;rw [OW] at this;rcases this with h|h
   ·exact .inl (fV.1 h)
   ·right;cases d with
    |none=>cases h
    |some d=>simp [MT] at h;rw [h]
 have hnew:∀T,d=some T->V.H.get T=none->∀o,V1.H.get T=some o->∃rt ch,info'=(T,rt,ch)::info/\i∈ch/\∀O o',V.H.get O=some o'->(jt V1 O&&Ae (V.H.get O) (V1.H.get O))=false->(cW O info).1=rt/\∀c∈(cW O info).2,c∈ch:=by
  intro T hd hT o ho;subst hd;unfold tq at hs;split at hs
  ·cases hs
  simp only at hs;have hb:(jt V1 T&&!jt V T)=true:=by
   have e1:jt V1 T=true:=fV.2 ⟨o,ho⟩;have e2:jt V T=false:=by
    cases hh:jt V T with
    |false=>rfl
    |true=>obtain⟨o',h'⟩:=fV.1 hh;rw [hT] at h';cases h'
   rw [e1,e2];rfl
  rw [hb] at hs;simp only at hs;split at hs
  ·cases hs
  rename_i hc;have gone:∀O o',V.H.get O=some o'->(jt V1 O&&Ae (V.H.get O) (V1.H.get O))=false->O∈f.src:=fun O o' h2 h3=>by
   have:=jE _ _ hc O o' h2;rw [OW] at this;rcases this with h|h
   ·exact gS.1 h
   ·rw [h3] at h;cases h
  split at hs
  ·rename_i hsrc;cases hs;exact⟨_,_,rfl,by simp,fun O o' h2 h3=>by have:=gone O o' h2 h3;rw [hsrc] at this;cases this⟩
  ·rename_i O1 hsrc;cases hs;refine⟨_,_,rfl,ON,fun O o' h2 h3=>?_⟩;have:=gone O o' h2 h3;rw [hsrc] at this;simp at this;subst this;exact⟨rfl,fun c hc=>OO _ hc⟩
  ·cases hs
 have hsame:∀T o,V.H.get T=some o->cW T info'=cW T info:=by
  intro T o hT;unfold tq at hs;split at hs
  ·cases hs
  cases d with
  |none=>cases hs;rfl
  |some d=>
  simp only at hs;split at hs
  ·cases hs;rfl
  rename_i hb;simp only [OV,OX] at hb;have hne:d≠T:=by rintro rfl;rw [fV.2 ⟨o,hT⟩] at hb;exact absurd hb.2 (by decide)
  split at hs
  ·cases hs
  split at hs
  ·cases hs;rw [dW,if_neg hne]
  ·cases hs;rw [dW,if_neg hne]
  ·cases hs
 have hid:Fz V V1->∀T,d=some T->V.H.get T=none->∀o a id,V1.H.get T=some o->A1 T=some a->cY A1 o a id->(st.nx<=id/\id < st1.nx)\/∃(O:Nat) (o':VO) (a':AV),V.H.get O=some o'/\(jt V1 O&&Ae (V.H.get O) (V1.H.get O))=false/\A O=some a'/\cY A o' a' id:=by
  intro hsm T hd hT o a id ho ha qxX;have qxg:b6 V1 A1 id:=⟨T,o,a,ho,ha,qxX⟩;rcases hF.own id qxg with ⟨O,o',a',g1,g2,g3⟩|hle
  ·right;refine⟨O,o',a',g1,?_,g2,g3⟩;cases hO:V1.H.get O with
   |none=>
    have:jt V1 O=false:=by
     cases hh:jt V1 O with
     |false=>rfl
     |true=>obtain⟨o2,h2⟩:=fV.1 hh;rw [hO] at h2;cases h2
    rw [this];rfl
   |some o2=>
    rw [fV.2 ⟨o2,hO⟩,Bool.true_and,g1];have hne:O≠T:=by rintro rfl;rw [hT] at g1;cases g1
    have key:¬cY A1 o2 a' id:=fun hi=>hne (hR1.inj O T o2 o a' a id hO ho (hx.mono _ _ g2) ha hi qxX)
    have hso:=hsm O o2 hO;rw [g1,hO] at hso;have hfw:=E1 hx.mono g3;cases o' with
    |gn K s io iz v h es=>
     cases o2 with
     |gn K' s' io' iz' v' h' es'=>
      obtain⟨rfl,rfl,hh⟩:=hso;rcases hh with rfl|rfl
      ·cases h' with
       |some j=>rfl
       |none=>
        exfalso;apply key;rcases hfw with hfw|⟨j,x,p1,p2,p3⟩
        ·exact .inl hfw
        ·exact .inr ⟨j,x,by simp,p2,p3⟩
      ·exfalso;apply key;rcases hfw with hfw|⟨j,x,p1,p2,p3⟩
       ·exact .inl hfw
       ·exact .inr ⟨j,x,p1,p2,p3⟩
     |_=>cases hso
    |_=>
     exfalso;rcases hfw with hfw|hfw
     ·exact key (.inl hfw)
     ·cases hfw
  ·exact .inl ⟨hle,hR1.ff qxg⟩
 let rtD:Nat:=IG d info'
 let ρ':Nat->Option Nat:=fun id=>if id < st.nx then ρ id else if id < st1.nx then some rtD else none
 have hρ:∀id q,ρ id=some q->ρ' id=some q:=fun id q h=>by show (if id < st.nx then ρ id else _)=_;rw [if_pos (hinv.dom id q h)];exact h
 have qxZ:∀T o,V.H.get T=some o->∃a,A T=some a:=fun T o h=>let ⟨a,h1,_⟩:=hR.heap T o h;⟨a,h1⟩
 refine⟨ρ',fun hsm=>⟨fun T o a id ho ha qxX=>?_,fun hP T o a id ho ha qxX=>?_,fun id q h=>?_⟩,⟨by simp [hh.len],fun hP c r' f' hr hf=>?_,fun c r' ah' hr ha' rs' qzU=>?_⟩⟩
 ·cases hT:V.H.get T with
  |some o'=>obtain⟨a',ha'⟩:=qxZ T o' hT;have:=hx.mono _ _ ha';rw [ha] at this;cases this;rw [hsame T o' hT];have qzb:=nI hR hx hsm hT ho ha' qxX;exact(hinv.known T o' a id hT ha' qzb).imp (fun h=>h) (fun ⟨c,h2,r2,h3,h4⟩=>⟨c,h2,r2,hold c r2 h3,h4⟩)
  |none=>
   have hd:d=some T:=(hkeys T o ho).elim (fun ⟨o',h⟩=>by rw [hT] at h;cases h) (fun h=>h);obtain⟨rt,ch,qza,qj3,hO⟩:=hnew T hd hT o ho;rw [qza,dW,if_pos rfl];rcases hid hsm T hd hT o a id ho ha qxX with ⟨h2,h3⟩|⟨O,o',a',g1,g2,g3,g4⟩
   ·exact .inr ⟨i,qj3,r,qx9,by rw [h0];exact h2,by rw [h1];exact h3⟩
   ·obtain⟨_,hc⟩:=hO O o' g1 g2;exact(hinv.known O o' a' id g1 g3 g4).imp (fun h=>h) (fun ⟨c,h2,r2,h3,h4⟩=>⟨c,hc c h2,r2,hold c r2 h3,h4⟩)
 ·cases hT:V.H.get T with
  |some o'=>obtain⟨a',ha'⟩:=qxZ T o' hT;have:=hx.mono _ _ ha';rw [ha] at this;cases this;rw [hsame T o' hT];have qzb:=nI hR hx hsm hT ho ha' qxX;exact hρ _ _ (hinv.root hP T o' a id hT ha' qzb)
  |none=>
   have hd:d=some T:=(hkeys T o ho).elim (fun ⟨o',h⟩=>by rw [hT] at h;cases h) (fun h=>h);obtain⟨rt,ch,qza,qj3,hO⟩:=hnew T hd hT o ho;rcases hid hsm T hd hT o a id ho ha qxX with ⟨h2,h3⟩|⟨O,o',a',g1,g2,g3,g4⟩
   ·show (if id < st.nx then ρ id else if id < st1.nx then some rtD else none)=_;rw [if_neg (by omega),if_pos h3];show some (IG d info')=_;rw [hd];rfl
   ·obtain⟨qxO,_⟩:=hO O o' g1 g2;rw [qza,dW,if_pos rfl,←qxO];exact hρ _ _ (hinv.root hP O o' a' id g1 g3 g4)
 ·have h':(if id < st.nx then ρ id else if id < st1.nx then some rtD else none)=some q:=h;split at h'
  ·have:=hF.le;omega
  ·split at h'
   ·assumption
   ·cases h'
 ·by_cases hc:c < rs.length
  ·rw [Ox hc] at hr;rw [Ox (by rw [hh.len];exact hc)] at hf;exact(hh.EF hP c r' f' hr hf).imp (fun h=>h.mono hρ) (fun h p hp hc=>rz (h p hp hc))
  ·have hce:c=rs.length:=by have:=(Ow.1 hr).1;simp at this;omega
   subst hce;rw [Oy (Pa _),Nat.sub_self] at hr;rw [Oy (by rw [hh.len];exact Pa _),hh.len,Nat.sub_self] at hf;cases hr;cases hf;refine .inl ⟨fun x hx'=>?_,?_⟩
   ·obtain⟨id,g1,T,g2,o,a,g3,g4,g5⟩:=hfo.rd x hx';exact⟨id,g1,_,hρ _ _ (hinv.root hP T o a id g3 g4 g5),kj g2⟩
   ·obtain⟨l,g1,g2⟩:=hfo.wr;refine⟨l,g1,fun id qxv=>?_⟩;obtain⟨T,g3,o,a,g4,g5,g6⟩:=g2 id qxv;exact⟨_,hρ _ _ (hinv.root hP T o a id g4 g5 g6),kj g3⟩
 ·by_cases hc:c < rs.length
  ·rw [Ox hc] at hr;exact hh.known c r' ah' hr ha' rs' (fun j a hj=>qzU j a (hold j a hj))
  ·have hce:c=rs.length:=by have:=(Ow.1 hr).1;simp at this;omega
   subst hce;rw [Oy (Pa _),Nat.sub_self] at hr;cases hr;rw [hi,hah] at ha';cases ha';have okId:∀T o a id,T∈f.rd++f.wr->V.H.get T=some o->A T=some a->cY A o a id->xz n0 rs' ah id=true:=by
    intro T o a id hT g1 g2 g3;unfold xz;rw [OW];rcases hinv.known T o a id g1 g2 g3 with h|⟨c,h2,r2,h3,h4,h5⟩
    ·exact .inl (by simpa using h)
    ·right;rw [List.any_eq_true];refine⟨c,nT hch T hT c h2,?_⟩;rw [qzU c r2 (hold c r2 h3)];simp only [OV];exact⟨by simpa using h4,by simpa using h5⟩
   refine⟨OU.2 (fun x hx'=>?_),?_⟩
   ·obtain⟨id,g1,T,g2,o,a,g3,g4,g5⟩:=hfo.rd x hx';have:=okId T o a id (List.mem_append_left _ g2) g3 g4 g5;cases x with
    |qf q=>cases g1;exact this
    |obj j=>cases g1;exact this
    |all=>cases g1
   ·obtain⟨l,g1,g2⟩:=hfo.wr;rw [g1];refine OU.2 (fun id qxv=>?_);obtain⟨T,g3,o,a,g4,g5,g6⟩:=g2 id qxv;exact okId T o a id (List.mem_append_right _ g3) g4 g5 g6
theorem pJ {n0:Nat} {rs:List Rec}:∀(ahead:List (List Nat)) (l:List Rec),ahead.length=l.length->(∀(c:Nat) r ah,l[c]?=some r->ahead[c]?=some ah->r.cR.all (Cu n0 rs ah)=true/\tj n0 rs ah r.bU=true)->gW n0 rs ahead l=true
 |[],[],h,hk=>rfl
 |[],_::_,h,hk=>by cases h
 |_::_,[],h,hk=>by cases h
 |a::as,r::l,h,hk=>by obtain⟨h1,h2⟩:=hk 0 r a rfl rfl;simp only [gW,h1,h2,Bool.true_and];exact pJ as l (Nat.succ.inj h) (fun c r' ah hr ha=>hk (c+1) r' ah (by simpa using hr) (by simpa using ha))
theorem wh {ρ:Nat->Option Nat} {a b:Rec} {fa fb:List Nat×List Nat} (ha:td ρ a fa) (hb:td ρ b fb) (hd:∀q∈fa.2,q ∉ fb.1):still a b=true:=by
 unfold still;rw [aJ];intro x hx;obtain⟨id,h1,q,h2,h3⟩:=hb.1 x hx;obtain⟨l,h4,h5⟩:=ha.2;have hno:id ∉ l:=fun hm=>by obtain⟨q',h6,h7⟩:=h5 id hm;rw [h2] at h6;cases h6;exact hd q h7 h3
 have hc:l.contains id=false:=by
  cases hh:l.contains id with
  |false=>rfl
  |true=>exact absurd (by simpa using hh) hno
 cases x with
 |qf r=>cases h1;simp only [f_,h4,hc,cond_false]
 |obj j=>cases h1;simp only [f_,h4,hc,Bool.not_false]
 |all=>cases h1
theorem DY {ρ:Nat->Option Nat} {a b:Rec} {fa fb:List Nat×List Nat} (ha:td ρ a fa) (hb:td ρ b fb) (hd:∀q∈fa.2,q ∉ fb.2):apart a b=true:=by
 obtain⟨l,h1,h2⟩:=ha.2;obtain⟨l',h3,h4⟩:=hb.2;unfold apart;rw [h1,h3];simp only;rw [OU];intro id hid;obtain⟨q,h5,h6⟩:=h2 id hid;cases hh:l'.contains id with
 |false=>rfl
 |true=>obtain⟨q',h7,h8⟩:=h4 id (by simpa using hh);rw [h5] at h7;cases h7;exact absurd h8 (hd q h6)
theorem wQ {n0:Nat} {ahead:List (List Nat)} {rs:List Rec} {feet:List (List Nat×List Nat)} {ρ:Nat->Option Nat} {hp:Prop} {P:List (Nat×Nat)} (hh:BB hp n0 ahead rs feet ρ P):∀{pairs:List (Nat×Nat)},(∀p∈pairs,p∈P)->(pairs≠[]->hp)->vf feet pairs=true->bx (gL rs) pairs=true
 |[],_,_,h=>rfl
 |(i,j)::l,hsub,hpp,h=>by
  have hP:=hpp (by simp);simp only [vf,OV] at h;rw [aJ];intro p hp;rcases OP.1 hp with rfl|hp
  ·have h1:=h.1;split at h1;rotate_left
   ·cases h1
   rename_i fa hfa;split at h1;rotate_left
   ·cases h1
   rename_i fb hfb;rw [OV,OV] at h1;obtain⟨d1,d2,d3⟩:=h1;have li:=(Ow.1 hfa).1;have lj:=(Ow.1 hfb).1;rw [hh.len] at li lj;have ra:=Ov li;have rb:=Ov lj;rcases hh.EF hP i _ fa ra hfa with ha|ha;rotate_left
   ·exact ha _ (hsub _ ON) (.inl rfl)
   rcases hh.EF hP j _ fb rb hfb with hb|hb;rotate_left
   ·exact hb _ (hsub _ ON) (.inr rfl)
   unfold gL;simp only [ra,rb,OV];exact⟨⟨wh ha hb (lP d1),wh hb ha (lP d2)⟩,DY ha hb (lP d3)⟩
  ·exact aJ.1 (wQ hh (fun q hq=>hsub q (OO _ hq)) (fun _=>hP) h.2) p hp
def eK (info:List (Nat×Nat×List Nat)):List Nat:=info.map (·.1)
theorem cj:∀{info:List (Nat×Nat×List Nat)} {V:aF} {O:Nat} {o:VO},(ek info V).H.get O=some o->O ∉ eK info/\V.H.get O=some o
 |[],V,O,o,h=>⟨by simp [eK],h⟩
 |(T,x)::l,V,O,o,h=>by obtain⟨h1,h2⟩:=cj (info:=l) (V:=bu V T) h;obtain⟨h3,h4⟩:=de h2;refine⟨fun hm=>?_,h4⟩;simp only [eK,List.map_cons,OP] at hm;exact hm.elim h3 h1
theorem sG:∀(info:List (Nat×Nat×List Nat)) (V:aF),(ek info V).env=V.env/\(ek info V).us=V.us
 |[],V=>⟨rfl,rfl⟩
 |(T,x)::l,V=>by obtain⟨h1,h2⟩:=sG l (bu V T);exact⟨h1,h2⟩
theorem mN {T:Nat}:∀{info:List (Nat×Nat×List Nat)},T ∉ eK info->cW T info=(T,[])
 |[],_=>rfl
 |(T',x)::l,h=>by simp only [eK,List.map_cons,OP,not_or] at h;rw [dW,if_neg (Ne.symm h.1)];exact mN h.2
theorem rX {i T:Nat} {info:List (Nat×Nat×List Nat)}:∀{ns:List Nat},T∈ns->cW T (pL i ns info)=(T,[i])
 |[],h=>by cases h
 |T'::r,h=>by
  simp only [pL,dW];by_cases e:T'=T
  ·subst e;rw [if_pos rfl]
  ·rw [if_neg e];rcases OP.1 h with rfl|h
   ·exact absurd rfl e
   ·exact rX h
theorem lF {i T:Nat} {info:List (Nat×Nat×List Nat)}:∀{ns:List Nat},T ∉ ns->cW T (pL i ns info)=cW T info
 |[],h=>rfl
 |T'::r,h=>by simp only [OP,not_or] at h;simp only [pL,dW,if_neg (Ne.symm h.1)];exact lF h.2
theorem lD {V:aF}:∀{l:List Nat},w8 V l=true->∀T∈l,V.H.get T=none
 |[],h,T,hT=>by cases hT
 |x::l,h,T,hT=>by
  simp only [w8,OV] at h;rcases OP.1 hT with rfl|hT
  ·have h1:=h.1;split at h1
   ·cases h1
   ·assumption
  ·exact lD h.2 T hT
theorem v7 {V:aF} {o:ax} {ns:List Nat} (h:uT sh V o=some ns):(∃d f args,o=⟨some d,.call f args .share,none,false⟩)\/∃d f args,o=⟨d,.call f args .borrow,none,false⟩:=by
 obtain⟨dd,op,gd,fz⟩:=o;unfold uT at h;simp only at h;split at h
 ·cases h
 split at h
 ·cases h
 split at h
 ·split at h
  ·exact .inl ⟨_,_,_,rfl⟩
  ·cases h
 ·exact .inr ⟨_,_,_,rfl⟩
 ·cases h
theorem jw {A A1:aX} {V V1:aF} {st:St} {st1:St} {qxr:List (Nat×Nat×List Nat)} (hR:R A V st) (hx:∀O x,A O=some x->A1 O=some x)
  (hH:∀T o a id,T∈eK qxr->V.H.get T=some o->A T=some a->cY A o a id->st1.H.get id=st.H.get id)
  (hown:∀id,b6 V1 A1 id->b6 (ek qxr V) A id\/st.nx<=id) :
  ∀(info:List (Nat×Nat×List Nat)) (W:aF),(∀T∈eK info,T∈eK qxr)->R A1 W st1->(∀O o,W.H.get O=some o->V1.H.get O=some o\/(O∈eK qxr/\V.H.get O=some o/\o.pl=true))->
   R A1 (jx V info W) st1/\(jx V info W).env=W.env/\(jx V info W).us=W.us/\(∀O o,(jx V info W).H.get O=some o->V1.H.get O=some o\/(O∈eK qxr/\V.H.get O=some o/\o.pl=true))/\∀O o,W.H.get O=some o->(jx V info W).H.get O=some o
 |[],W,_,hW,hk=>⟨hW,rfl,rfl,hk,fun _ _ h=>h⟩
 |(T,x)::l,W,hs,hW,hk=>by
  have hsl:∀T∈eK l,T∈eK qxr:=fun T' h=>hs T' (by simp only [eK,List.map_cons,OP];exact .inr h)
  have hT:T∈eK qxr:=hs T (by simp [eK]);simp only [jx];split
  ·exact jw hR hx hH hown l W hsl hW hk
  rename_i hWT;split;rotate_left
  ·exact jw hR hx hH hown l W hsl hW hk
  rename_i o ho;split;rotate_left
  ·exact jw hR hx hH hown l W hsl hW hk
  rename_i hpl;obtain⟨a,hA,hor⟩:=hR.heap T o ho;have qxI:∀id,bV a=some id->b6 V A id:=fun id hi=>⟨T,o,a,ho,hA,.inl hi⟩
  obtain⟨hR',_⟩:=oo (hpl:=hpl) hW (O:=T) (o:=o) (hx _ _ hA) (hor.mono hx (fun id hi=>hH T o a id hT ho hA hi)) (fun id hi ⟨O,o',a',h1,h2,h3⟩=>by
   rcases hk O o' h1 with h4|⟨h4,h5,qzs⟩
   ·rcases hown id ⟨O,o',a',h4,h2,h3⟩ with ⟨O2,o2,a2,h6,h7,h8⟩|hle
    ·obtain⟨hn,h6'⟩:=cj h6;have:=hR.inj O2 T o2 o a2 a id h6' ho h7 hA h8 (.inl hi);subst this;exact hn hT
    ·have:=hR.ff (qxI id hi);omega
   ·obtain⟨a2,h7,_⟩:=hR.heap O o' h5;have:=hx _ _ h7;rw [h2] at this;cases this;have:=hR.inj O T o' o a' a id h5 ho h7 hA ((b9 qzs).2 ((b9 qzs).1 h3)) (.inl hi);subst this;rw [hWT] at h1;cases h1)
  obtain⟨g1,g2,g3,g4,g5⟩:=jw hR hx hH hown l (bh W T o) hsl hR' (fun O o' h=>by
   simp only [bh,Map.au] at h;split at h
   ·rename_i e;subst e;cases h;exact .inr ⟨hT,ho,hpl⟩
   ·exact hk O o' h)
  refine⟨g1,g2,g3,g4,fun O o' h=>g5 O o' ?_⟩;simp only [bh,Map.au];split
  ·rename_i e;subst e;rw [hWT] at h;cases h
  ·exact h
def Hy (prog:Map aq) (nt n0:Nat) (o:ax) (A:aX) (V1:aF) (st:St) (k:aF->Prop):Prop:=
 ∃H' nx' e' H2 cR bU V2 A2,bz (aM prog) nt n0 o st=some (⟨e',H2,nx'⟩,⟨cR,bU,st.H,H2,st.nx,nx'⟩)/\(∀id,H2.get id=if id < n0\/(st.nx<=id/\id < nx') then H'.get id else st.H.get id)/\
  R A2 V2 ⟨e',H',nx'⟩/\Fr V1 A (st.H.upto fun i=>Nat.blt i n0) st.nx V2 A2 H' nx'/\Ext V1 A V2 A2/\k V2/\(∀rs ah,cR.all (Cu n0 rs ah)=true/\tj n0 rs ah bU=true)/\(cR=[]\/cR=[.all])/\(bU=.ids []\/bU=.all)
theorem ym (hsh:n5 prog sh) {n0 d f:Nat} {args:List aH} {A:aX} {V1:aF} {st:St} {k:aF->Prop} (hR0:R A V1 ⟨st.env,st.H.upto fun i=>Nat.blt i n0,st.nx⟩)
  (hk:qn sh nt V1 (some d) f args k):Hy prog nt n0 ⟨some d,.call f args .share,none,false⟩ A V1 st k:=by
 obtain⟨v,H',nx',hdo,e',hput,V2,A1,hR1,hF,hx,hk1⟩:=zY (nt:=nt) hsh hR0 hk;have hkd:kind (.call f args .share)=.call f args .share:=rfl;have hcf:aM prog f (args.map (ev st.env)) (st.H.upto fun i=>Nat.blt i n0) st.nx=some (v,H',nx'):=by simpa only [fk,hkd,bH] using hdo
 let P:Nat->Bool:=fun i=>Nat.blt i n0||(Nat.ble st.nx i&&Nat.blt i nx')
 have hP:∀i,P i=true↔(i < n0\/(st.nx<=i/\i < nx')):=fun i=>by show (Nat.blt i n0||(Nat.ble st.nx i&&Nat.blt i nx'))=true↔_;simp
 let H2:av:=(H'.upto P).union (st.H.upto fun i=>!P i)
 refine⟨H',nx',e',H2,[.all],.all,V2,A1,?_,fun id=>?_,hR1,hF,hx,hk1,fun rs ah=>⟨rfl,rfl⟩,.inr rfl,.inr rfl⟩
 ·have h1:dZ (aM prog) n0 ⟨some d,.call f args .share,none,false⟩ (ev st.env) st.H st.nx=some (v,H2,nx',[.all],.all):=by simp only [dZ,cond_false,j5,hkd,bR,hcf];rfl
  have hw:wanted st.env none=true:=rfl;simp only [bz,hw,cond_true,h1,hput]
 ·show ((H'.upto P).union (st.H.upto fun i=>!P i)).get id=_;rw [Map.uu,Map.fW,Map.fW];by_cases h:P id=true
  ·rw [if_pos ((hP id).1 h)];simp only [h,if_true,Bool.not_true];cases H'.get id<;>rfl
  ·rw [if_neg (fun hc=>h ((hP id).2 hc))];simp only [h];rfl
theorem v5 {n0 f:Nat} {d:Option Nat} {args:List aH} {A:aX} {V1:aF} {st:St} {k:aF->Prop} (hR0:R A V1 ⟨st.env,st.H.upto fun i=>Nat.blt i n0,st.nx⟩)
  (hk:sq sh prog nt V1 d none f args k):Hy prog nt n0 ⟨d,.call f args .borrow,none,false⟩ A V1 st k:=by
 obtain⟨v,hdo,e',hput,V2,A1,hR1,hF,hx,hk1⟩:=vh (g:=none) hR0 trivial hk;have hkd:kind (.call f args .borrow)=.call f args .borrow:=rfl;have hw:wanted st.env none=true:=rfl;have qxy:bH (aM prog) f (args.map (ev st.env)) .borrow (st.H.upto fun i=>Nat.blt i n0) st.nx=some (v,(st.H.upto fun i=>Nat.blt i n0),st.nx):=hdo;have qq9:∀id,st.H.get id=if id < n0\/(st.nx<=id/\id < st.nx) then (st.H.upto fun i=>Nat.blt i n0).get id else st.H.get id:=by
  intro id;split
  ·rw [Map.fW,if_pos];rename_i h;have:id < n0:=by rcases h with h|h<;>omega
   simpa using this
  ·rfl
 by_cases hp:bx AV.plain (args.map (ev st.env))=true
 ·have h0:bH (aM prog) f (args.map (ev st.env)) .borrow st.H st.nx=some (v,st.H,st.nx):=by
   simp only [bH,hp,cond_true] at qxy ⊢;split at qxy
   ·rename_i r hr;simp only [Option.some.injEq,Prod.mk.injEq] at qxy;simp only [hr,qxy.1]
   ·cases qxy
  refine⟨_,st.nx,e',st.H,[],.ids [],V2,A1,?_,qq9,hR1,hF,hx,hk1,fun rs ah=>⟨rfl,rfl⟩,.inl rfl,.inl rfl⟩;have h1:dZ (aM prog) n0 ⟨d,.call f args .borrow,none,false⟩ (ev st.env) st.H st.nx=some (v,st.H,st.nx,[],.ids []):=by simp only [dZ,cond_false,j5,hkd,bR,hp,cond_true,h0]
  simp only [bz,hw,cond_true,h1,hput]
 ·have hpb:bx AV.plain (args.map (ev st.env))=false:=by simpa using hp
  refine⟨_,st.nx,e',st.H,[.all],.ids [],V2,A1,?_,qq9,hR1,hF,hx,hk1,fun rs ah=>⟨rfl,rfl⟩,.inr rfl,.inl rfl⟩;have h1:dZ (aM prog) n0 ⟨d,.call f args .borrow,none,false⟩ (ev st.env) st.H st.nx=some (v,st.H,st.nx,[.all],.ids []):=by simp only [dZ,cond_false,j5,hkd,bR,hpb,qxy]
  simp only [bz,hw,cond_true,h1,hput]
mutual
theorem Bq:∀a:AV,gj a a=true
 |.bool _=>by simp [gj]
 |.int k n=>by simp [gj,Fb,kS]
 |.str _=>by simp [gj]
 |.jm=>rfl
 |.ak=>rfl
 |.ptr _ _ _=>by simp [gj]
 |.fj cs _=>by simp [gj,fJ cs]
 |.b5 cs _ _=>by simp [gj,fJ cs]
 |.ref _ _ _ _ _ _ _=>by simp [gj]
 |.agg cs=>by simp [gj,fJ cs]
 |.dL cs=>by simp [gj,fJ cs]
 |.func _=>by simp [gj]
 |.j7 _=>by simp [gj]
theorem fJ:∀l:List AV,kT l l=true
 |[]=>rfl
 |x::xs=>by simp [kT,Bq x,fJ xs]
end
theorem Gy {a b:Rec} {q:ye} {xs:List AV} (ha1:a.bU=.ids []) (ha2:a.cR=[.qf q]) (hb1:b.cR=[]\/b.cR=[.all]) (hb2:b.bU=.ids []\/b.bU=.all)
  (f0:cK b.H0 (some q)=some xs) (f1:cK b.H1 (some q)=some xs) (fa:cK a.H0 (some q)=some xs):(still a b&&still b a&&apart a b)=true:=by
 rw [OV,OV];refine⟨⟨?_,?_⟩,?_⟩
 ·unfold still;rcases hb1 with h|h<;>rw [h]
  ·rfl
  ·rw [aJ];intro y hy;simp at hy;subst hy;simp only [f_,ha1]
 ·unfold still;rw [ha2,aJ];intro y hy;simp at hy;subst hy;rcases hb2 with h|h<;>simp only [f_,h]
  ·rfl
  ·simp only [tv,f0,f1,fa,fJ,Bool.and_self]
 ·unfold apart;rw [ha1];rcases hb2 with h|h<;>rw [h];rfl
def FA (v:TV) (ovs:List (Nat×VV)) (off:Nat) (key:fu):Prop:=match key with
 |.sl N=>bp off ovs=some (.sl N)
 |.tr c=>bp off ovs=none/\∃t,TV.uniq t=true/\c=some t/\cu v off=some t
def HD (V:aF) (O off:Nat) (keys:List fu):Prop:=keys≠[]/\∃v ovs,V.H.get O=some (.ob v ovs)/\∀(j:Nat) key,keys[j]?=some key->FA v ovs (off+j) key
def ML (A:aX) (key:fu) (x:AV):Prop:=match key with
 |.sl N=>A (.s N)=some x
 |.tr c=>∀t,c=some t->Can t x
def uR (A:aX) (keys:List fu) (xs:List AV):Prop:=keys≠[]/\xs.length=keys.length/\∀(j:Nat) key x,keys[j]?=some key->xs[j]?=some x->ML A key x
theorem uR.mono {A A':aX} {keys:List fu} {xs:List AV} (h:uR A keys xs) (hx:∀O x,A O=some x->A' O=some x):uR A' keys xs:=
 ⟨h.1,h.2.1,fun j key x h1 h2=>by
  have:=h.2.2 j key x h1 h2;cases key with
  |sl N=>exact hx _ _ this
  |tr c=>exact this⟩
theorem DO {t:TV} {x y:AV} (hu:t.uniq=true) (h1:Can t x) (h2:Can t y):x=y:=by cases t<;>first|(cases hu;done)|(cases h1;cases h2;rfl)
theorem Ad {v:TV} {ovs:List (Nat×VV)} {k:Prop}:∀{keys:List fu} {off:Nat},Bg v ovs off keys k->(∀(j:Nat) key,keys[j]?=some key->FA v ovs (off+j) key)/\k
 |[],off,h=>⟨fun j key hj=>by simp at hj,h⟩
 |key::l,off,h=>by
  have go:∀{off:Nat},FA v ovs off key->Bg v ovs (off+1) l k->(∀(j:Nat) key',(key::l)[j]?=some key'->FA v ovs (off+j) key')/\k:=fun {off} h1 h2=>by
   obtain⟨g1,g2⟩:=Ad h2;refine⟨fun j key' hj=>?_,g2⟩;cases j with
   |zero=>simp at hj;subst hj;exact h1
   |succ j=>have:=g1 j key' (by simpa using hj);rw [show off+(j+1)=off+1+j by omega];exact this
  simp only [Bg] at h;split at h
  ·rename_i N;split at h
   ·rename_i N' ho;split at h
    ·rename_i e;rw [OY] at e;subst e;exact go ho h
    ·cases h
   ·cases h
  ·split at h
   ·rename_i ho;exact go ⟨ho,h.1⟩ h.2
   ·cases h
theorem EY {V:aF} {O off:Nat} {key:List fu} {k:Prop} (hne:key≠[]) (h:G1 V O off key k):HD V O off key/\k:=by
 unfold G1 at h;split at h
 ·rename_i v ovs hv;obtain⟨h1,h2⟩:=Ad h;exact⟨⟨hne,v,ovs,hv,h1⟩,h2⟩
 ·cases h
theorem oM {i:Nat}:∀{cl:List (Nat×Nat×Nat×List fu)} {p:Nat×Nat×List fu},xK i cl=some p->(i,p)∈cl
 |[],p,h=>by cases h
 |(c,q)::l,p,h=>by
  simp only [xK] at h;split at h
  ·rename_i e;rw [OY] at e;subst e;cases h;exact ON
  ·exact OO _ (oM h)
theorem ny {V:aF} {cl:List (Nat×Nat×Nat×List fu)} {i:Nat} {k:Prop} (hcl:∀c O off key,(c,O,off,key)∈cl->key≠[]):∀{P:List (Nat×Nat)},nE V cl i P k->k/\∀p∈P,p.1≠i/\(p.2=i->∃O off key,xK p.1 cl=some (O,off,key)/\HD V O off key)
 |[],h=>⟨h,fun p hp=>by cases hp⟩
 |(a,b)::l,h=>by
  simp only [nE] at h;split at h
  ·cases h
  rename_i hai;have hne:a≠i:=fun e=>by subst e;simp at hai
  split at h
  ·rename_i hbi;have hnb:b≠i:=fun e=>by subst e;simp at hbi
   obtain⟨g1,g2⟩:=ny hcl h;refine⟨g1,fun p hp=>?_⟩;rcases OP.1 hp with rfl|hp
   ·exact⟨hne,fun e=>absurd e hnb⟩
   ·exact g2 p hp
  ·split at h
   ·cases h
   ·rename_i O off key hf;obtain⟨h1,h⟩:=EY (hcl _ _ _ _ (oM hf)) h;obtain⟨g1,g2⟩:=ny hcl h;refine⟨g1,fun p hp=>?_⟩;rcases OP.1 hp with rfl|hp
    ·exact⟨hne,fun _=>⟨O,off,key,hf,h1⟩⟩
    ·exact g2 p hp
theorem x3 {A:aX} {V:aF} {st:St} (hR:R A V st) {O off id n:Nat} {v:TV} {ovs:List (Nat×VV)} {ys:List AV} (hv:V.H.get O=some (.ob v ovs)) (hA:A O=some (.ptr id 0 0))
  (hf:cK st.H (some ⟨id,0,off,n⟩)=some ys):ys.length=n/\∀(j:Nat) y,ys[j]?=some y->(∀N,bp (off+j) ovs=some (.sl N)->A (.s N)=some y)/\(bp (off+j) ovs=none->∀t,cu v (off+j)=some t->Can t y):=by
 obtain⟨a,ha,id',cs,ts,rfl,hH,hc⟩:=hR.heap O _ hv;rw [hA] at ha;cases ha;simp only [cK,hH,Nat.beq_refl,cond_true] at hf;rw [cI] at hf;split at hf;rotate_left
 ·cases hf
 rename_i hle;have h1:=O8 hf;refine⟨by rw [←h1];simp;omega,fun j y hy=>?_⟩;have hcs:cs[off+j]?=some y:=by
  rw [←h1,OB] at hy;split at hy
  ·rw [OC] at hy;exact hy
  ·cases hy
 have hlt:off+j < ts.length:=by rw [hc.len];exact(Ow.1 hcs).1
 have hat:=hc.at_ (off+j) _ y (Ov hlt) hcs;refine⟨fun N ho=>?_,fun ho t ht=>?_⟩
 ·rw [ho] at hat;exact hat
 ·rw [ho] at hat;obtain⟨ts',h1,h2⟩:=fL ht;have:=hc.cells.symm.trans h1;cases this;rw [Ov hlt] at h2;cases h2;exact hat.1
theorem Ac {A:aX} {V:aF} {st:St} (hR:R A V st) {O off id:Nat} {keys:List fu} {xs:List AV} (hk:HD V O off keys) (hA:A O=some (.ptr id 0 0)) (hx:uR A keys xs):cK st.H (some ⟨id,0,off,keys.length⟩)=some xs:=by
 obtain⟨hne,v,ovs,hv,hk⟩:=hk;obtain⟨a,ha,id',cs,ts,rfl,hH,hc⟩:=hR.heap O _ hv;rw [hA] at ha;cases ha;have qkk:∀j,j < keys.length->off+j < ts.length:=by
  intro j hj;have hkj:=hk j _ (Ov hj);generalize keys[j]=key at hkj;cases key with
  |sl N=>exact hc.keys _ _ hkj
  |tr c=>obtain⟨_,t,_,_,h2⟩:=hkj;obtain⟨ts',h3,h4⟩:=fL h2;have:=hc.cells.symm.trans h3;cases this;exact(Ow.1 h4).1
 have hpos:0 < keys.length:=by cases keys with|nil=>exact absurd rfl hne|cons k ks=>simp
 have hle:off+keys.length<=cs.length:=by have:=qkk (keys.length - 1) (by omega);have:=hc.len;omega
 have hf:cK st.H (some ⟨id,0,off,keys.length⟩)=some ((cs.drop off).take keys.length):=by simp only [cK,hH,Nat.beq_refl,cond_true];rw [cI,if_pos hle]
 obtain⟨g0,g1⟩:=x3 hR hv hA hf;rw [hf];congr 1;generalize (cs.drop off).take keys.length=ys at g0 g1;refine List.ext_getElem? fun j=>?_
 by_cases hj:j < keys.length
 ·have e1:ys[j]?=some (ys[j]'(by rw [g0];exact hj)):=Ov _;have e2:xs[j]?=some (xs[j]'(by rw [hx.2.1];exact hj)):=Ov _;obtain⟨q1,q2⟩:=g1 j _ e1;have hkj:=hk j _ (Ov hj);have hxj:=hx.2.2 j _ _ (Ov hj) e2;rw [e1,e2];congr 1;generalize keys[j]=key at hkj hxj;cases key with
  |sl N=>have h1:=q1 N hkj;have h2:A (.s N)=some _:=hxj;rw [h1] at h2;exact O8 h2
  |tr c=>obtain⟨ho,t,hu,h1,h2⟩:=hkj;exact DO hu (q2 ho t h2) (hxj t h1)
 ·rw [OA (by omega),OA (by have:=hx.2.1;omega)]
def vX (A:aX) (rs:List Rec) (cl:List (Nat×Nat×Nat×List fu)):Prop:=∀c O off keys,(c,O,off,keys)∈cl->∃r id xs,rs[c]?=some r/\r.bU=.ids []/\r.cR=[.qf ⟨id,0,off,keys.length⟩]/\A (.s O)=some (.ptr id 0 0)/\cK r.H0 (some ⟨id,0,off,keys.length⟩)=some xs/\uR A keys xs
theorem vX.ne {A:aX} {rs:List Rec} {cl:List (Nat×Nat×Nat×List fu)} (h:vX A rs cl):∀c O off key,(c,O,off,key)∈cl->key≠[]:=fun c O off key hm=>by obtain⟨_,_,_,_,_,_,_,_,hx⟩:=h c O off key hm;exact hx.1
theorem vX.mono {A A':aX} {rs:List Rec} {r:Rec} {cl:List (Nat×Nat×Nat×List fu)} (h:vX A rs cl) (hx:∀O x,A O=some x->A' O=some x):vX A' (rs++[r]) cl:=fun c O off key hm=>by obtain⟨r',id,x,h1,h2,h3,h4,h5,h6⟩:=h c O off key hm;exact⟨r',id,x,(by rw [Ox (Ow.1 h1).1];exact h1),h2,h3,hx _ _ h4,h5,h6.mono hx⟩
theorem ug {v:TV} {ovs:List (Nat×VV)}:∀{n off:Nat} {keys:List fu},vn v ovs off n=some keys->keys.length=n/\∀(j:Nat) key,keys[j]?=some key->match key with
  |.sl N=>bp (off+j) ovs=some (.sl N)
  |.tr c=>bp (off+j) ovs=none/\c=cu v (off+j)
 |0,off,keys,h=>by cases h;exact⟨rfl,fun j key hj=>by simp at hj⟩
 |n+1,off,keys,h=>by
  simp only [vn] at h;split at h
  ·cases h
  rename_i l hl;obtain⟨g1,g2⟩:=ug hl;have shift:∀j,off+(j+1)=off+1+j:=fun j=>by omega
  split at h
  ·rename_i N ho;cases h;refine⟨by simp [g1],fun j key hj=>?_⟩;cases j with
   |zero=>simp at hj;subst hj;exact ho
   |succ j=>rw [shift];exact g2 j key (by simpa using hj)
  ·cases h
  ·rename_i ho;cases h;refine⟨by simp [g1],fun j key hj=>?_⟩;cases j with
   |zero=>simp at hj;subst hj;exact⟨ho,rfl⟩
   |succ j=>rw [shift];exact g2 j key (by simpa using hj)
theorem zx {cf:eF} {nt n0:Nat} {A:aX} {V:aF} {st st1:St} {o:ax} {r:Rec} {O off:Nat} {keys:List fu} (hR:R A V st) (hc:cellOf V o=some (O,off,keys)) (he:bz cf nt n0 o st=some (st1,r)) :
  ∃id xs,r.bU=.ids []/\r.cR=[.qf ⟨id,0,off,keys.length⟩]/\A (.s O)=some (.ptr id 0 0)/\cK r.H0 (some ⟨id,0,off,keys.length⟩)=some xs/\uR A keys xs:=by
 obtain⟨dd,op,gd,fz⟩:=o;unfold cellOf at hc;simp only at hc;split at hc
 ·cases hc
 split at hc
 ·cases hc
 split at hc;rotate_left
 ·cases hc
 rename_i sz a;split at hc;rotate_left
 ·cases hc
 rename_i O' off' qxp;split at hc;rotate_left
 ·cases hc
 rename_i v ovs hv;split at hc;rotate_left
 ·cases hc
 rename_i k0 ks hka;simp only [Option.some.injEq,Prod.mk.injEq] at hc;obtain⟨rfl,rfl,rfl⟩:=hc;obtain⟨hkl,hkk⟩:=ug hka;obtain⟨w,hw,hvr⟩:=hR.env a _ qxp;have hvr:=hvr (fun c bb h=>by cases h);generalize hwe:w=w0 at hvr;cases hvr with
 |@ptr _ _ id hA=>
 subst hwe;have hev:ev st.env (.t a)=.ptr id 0 off':=by simp only [ev,hw]
 have hwt:wanted st.env none=true:=rfl;simp only [bz,hwt,cond_true,dZ,cond_false,j5] at he;have hkd:kind (.load sz (.t a))=.plan fun ρ=>iP ρ sz (.t a):=rfl
 simp only [hkd,iP,hev,bO,dO] at he;rw [hkl];cases hf:cK st.H (some ⟨id,0,off',bW sz⟩) with
 |none=>simp only [hf] at he;cases he
 |some cs=>
 have hr:r.bU=.ids []/\r.cR=[.qf ⟨id,0,off',bW sz⟩]/\r.H0=st.H:=by
  simp only [hf,fI] at he;split at he
  ·cases he
  ·rename_i v1 H1 n9 cR bU heq;split at he
   ·cases he
   ·cases he;split at heq
    ·rename_i q1 q2;simp only [Option.some.injEq,Prod.mk.injEq] at heq;obtain⟨_,_,_,h4,h5⟩:=heq;refine⟨h5.symm,h4.symm,rfl⟩
    ·cases heq
 obtain⟨g0,g1⟩:=x3 hR hv hA hf;refine⟨id,cs,hr.1,hr.2.1,hA,by rw [hr.2.2];exact hf,by simp,by rw [g0,hkl],fun j key x h1 h2=>?_⟩;obtain⟨q1,q2⟩:=g1 j x h2;have h3:=hkk j key h1;cases key with
 |sl N=>exact q1 N h3
 |tr c=>exact fun t ht=>q2 h3.1 t (by rw [←h3.2];exact ht)
open Classical in
def Cp (ns:List Nat) (V:aF) (A:aX) (ρ:Nat->Option Nat) (id:Nat):Option Nat:=
 if h:∃T∈ns,∃o a,V.H.get T=some o/\A (.s T)=some a/\cY A o a id then some (Classical.choose h) else ρ id
theorem EE {ns:List Nat} {V:aF} {A:aX} {st:St} (hR:R A V st) {ρ:Nat->Option Nat} {id T:Nat} {o:VO} {a:AV} (hT:T∈ns) (h1:V.H.get T=some o) (h2:A T=some a) (h3:cY A o a id):Cp ns V A ρ id=some T:=by have hh:∃T∈ns,∃o a,V.H.get T=some o/\A (.s T)=some a/\cY A o a id:=⟨T,hT,o,a,h1,h2,h3⟩;unfold Cp;rw [dif_pos hh];obtain⟨_,o',a',g1,g2,g3⟩:=Classical.choose_spec hh;congr 1;exact hR.inj _ T _ _ _ _ id g1 h1 g2 h2 g3 h3
theorem Cn {ns:List Nat} {V:aF} {A:aX} {ρ:Nat->Option Nat} {id:Nat} (h:¬∃T∈ns,∃o a,V.H.get T=some o/\A (.s T)=some a/\cY A o a id):Cp ns V A ρ id=ρ id:=by unfold Cp;rw [dif_neg h]
theorem AM (hsh:n5 prog sh) {PP:List (Nat×Nat)} {n0 i:Nat} {rs:List Rec} {A:aX} {V:aF} {st:St} {info:List (Nat×Nat×List Nat)} {ρ:Nat->Option Nat} {feet:List (List Nat×List Nat)} {ahead:List (List Nat)} {cl:List (Nat×Nat×Nat×List fu)}
  {o:ax} {ns:List Nat} {l:List ax} {k:aF->Prop} (hR:R A V st) (hinv:D6 (PP≠[]) n0 rs A V st info ρ) (hh:BB (PP≠[]) n0 ahead rs feet ρ PP) (hcl:vX A rs cl) (hi:rs.length=i) (hn0:n0<=st.nx) (hwd:uT sh V o=some ns) (hnn:(w8 V ns&&(yV PP||!yV l))=true)
  (hk:nE V cl i PP (E7 sh prog nt (ek info V) o fun V'=>match (s_ V'.H fun T=>jt (ek info V) T||lU T ns)&&(yV PP||Aj (ek info V) V' feet) with
   |true=>AQ l (ek info V) V' (nE (jx V info V') cl i PP (k (jx V info V')))
   |false=>False)) :
  ∃st1 r,bz (aM prog) nt n0 o st=some (st1,r)/\∃W A1 ρ',R A1 W st1/\Fr V A st.H st.nx W A1 st1.H st1.nx/\k W/\st.nx<=st1.nx/\vX A1 (rs++[r]) cl/\
   (l≠[]->D6 (PP≠[]) n0 (rs++[r]) A1 W st1 (pL i (ns) info) ρ')/\BB (PP≠[]) n0 ahead (rs++[r]) (feet++[([],[])]) ρ' PP:=by
 obtain⟨hk,qjb⟩:=ny hcl.ne hk;rw [OV] at hnn;obtain⟨hnn,hnl⟩:=hnn;have hnl:PP≠[]->l≠[]:=fun hP hl=>by
  subst hl;cases PP with
  |nil=>exact hP rfl
  |cons p PP=>cases hnl
 have qxk:∀O o a id,(ek info V).H.get O=some o->A O=some a->cY A o a id->id < n0:=by
  intro O o a id ho ha hid;obtain⟨hn,ho'⟩:=cj ho;rcases hinv.known O o a id ho' ha hid with h|⟨c,hc,_⟩
  ·exact h
  ·rw [mN hn] at hc;cases hc
 obtain⟨he,hu⟩:=sG info V;have hR0:R A (ek info V) ⟨st.env,st.H.upto fun i=>Nat.blt i n0,st.nx⟩:=by
  refine⟨fun t e h=>hR.env t e (by rw [←he];exact h),fun O o ho=>?_,fun O O' o o' a a' id h1 h2=>hR.inj O O' o o' a a' id (cj h1).2 (cj h2).2,fun O h=>hR.used O (by rw [←hu];exact h),hR.one,fun id o h=>?_,fun O o a ho ha=>hR.eI O o a (cj ho).2 ha⟩
  ·obtain⟨a,ha,hor⟩:=hR.heap O o (cj ho).2;refine⟨a,ha,hor.mono (fun _ _ h=>h) (fun id hid=>?_)⟩;have:=qxk O o a id ho ha hid;show (Map.upto st.H _).get id=_;rw [Map.fW,if_pos (by simpa using this)]
  ·have h':(Map.upto st.H fun i=>Nat.blt i n0).get id=some o:=h;rw [Map.fW] at h';split at h'
   ·exact hR.fresh id o h'
   ·cases h'
 have hW:Hy prog nt n0 o A (ek info V) st fun V'=>match (s_ V'.H fun T=>jt (ek info V) T||lU T ns)&&(yV PP||Aj (ek info V) V' feet) with
   |true=>AQ l (ek info V) V' (nE (jx V info V') cl i PP (k (jx V info V')))
   |false=>False:=by
  rcases v7 hwd with ⟨d,f,args,rfl⟩|⟨d,f,args,rfl⟩
  ·exact ym hsh hR0 hk
  ·exact v5 hR0 hk
 obtain⟨H',nx',e',H2,cR,bU,V1,A1,qkm,qje,hR1,hF,hx,hk1,hrt,qkg,qzY⟩:=hW;have hle:st.nx<=nx':=hF.le
 let P:Nat->Bool:=fun i=>Nat.blt i n0||(Nat.ble st.nx i&&Nat.blt i nx')
 have hP:∀i,P i=true↔(i < n0\/(st.nx<=i/\i < nx')):=fun i=>by show (Nat.blt i n0||(Nat.ble st.nx i&&Nat.blt i nx'))=true↔_;simp
 have qq9:∀id,H2.get id=if P id=true then H'.get id else st.H.get id:=by
  intro id;rw [qje];by_cases h:P id=true
  ·rw [if_pos ((hP id).1 h),if_pos h]
  ·rw [if_neg (fun hc=>h ((hP id).2 hc)),if_neg h]
 have qxg:∀id,b6 V1 A1 id->P id=true:=by
  intro id ho;rw [hP];have hlt:=hR1.ff ho;rcases hF.own id ho with ⟨O,o,a,h1,h2,h3⟩|h
  ·exact .inl (qxk O o a id h1 h2 h3)
  ·exact .inr ⟨h,hlt⟩
 have hR2:R A1 V1 ⟨e',H2,nx'⟩:=by
  refine⟨hR1.env,fun O o ho=>?_,hR1.inj,hR1.used,hR1.one,fun id o h=>?_,hR1.eI⟩
  ·obtain⟨a,ha,hor⟩:=hR1.heap O o ho;refine⟨a,ha,hor.mono (fun _ _ h=>h) (fun id hid=>?_)⟩;rw [show (⟨e',H2,nx'⟩:St).H.get id=_ from qq9 id,if_pos (qxg id ⟨O,o,a,ho,ha,hid⟩)]
  ·have h':H2.get id=some o:=h;rw [qq9] at h';split at h'
   ·exact hR1.fresh id o h'
   ·exact O5 (hR.fresh id o h') hle
 split at hk1;rotate_left
 ·cases hk1
 rename_i hall;rw [OV] at hall;obtain⟨hall,qxh⟩:=hall;have qxh:PP≠[]->Aj (ek info V) V1 feet=true:=fun hP=>by
  cases PP with
  |nil=>exact absurd rfl hP
  |cons p PP=>exact qxh
 obtain⟨hk1,hsm⟩:=zM hk1;obtain⟨hk1,qja⟩:=ny hcl.ne hk1;have hkeys:∀T o,V1.H.get T=some o->(∃o',(ek info V).H.get T=some o')\/T∈ns:=by intro T o hT;have:=jE _ _ hall T o hT;rw [OW] at this;exact this.imp fV.1 gS.1
 obtain⟨g1,g2,g3,g4,g5⟩:=jw (V1:=V1) (st1:=⟨e',H2,nx'⟩) (qxr:=info) hR hx.mono (fun T o a id hT ho ha hid=>by
   show H2.get id=_;rw [qq9];split
   ·rename_i hPi;have hown:b6 V A id:=⟨T,o,a,ho,ha,hid⟩;have hlt:=hR.ff hown;have h0:id < n0:=by rcases(hP id).1 hPi with h|h<;>omega
    have hno:¬b6 (ek info V) A id:=fun ⟨O,o',a',h1,h2,h3⟩=>by obtain⟨hn,h1'⟩:=cj h1;have:=hR.inj O T o' o a' a id h1' ho h2 ha h3 hid;subst this;exact hn hT
    have:=hF.same id hlt hno;rw [this];show (Map.upto st.H _).get id=_;rw [Map.fW,if_pos (by simpa using h0)]
   ·rfl) (fun id ho=>hF.own id ho) info V1 (fun _ h=>h) hR2 (fun O o h=>.inl h)
 have qjd:∀(c:Nat) a,rs[c]?=some a->(rs++[(⟨cR,bU,st.H,H2,st.nx,nx'⟩:Rec)])[c]?=some a:=fun c a hc=>by rw [Ox (Ow.1 hc).1];exact hc
 have qzC:(rs++[(⟨cR,bU,st.H,H2,st.nx,nx'⟩:Rec)])[i]?=some ⟨cR,bU,st.H,H2,st.nx,nx'⟩:=by rw [Oy (by omega),hi,Nat.sub_self];rfl
 have hpw:∀p∈PP,(p.1=i\/p.2=i)->gL (rs++[(⟨cR,bU,st.H,H2,st.nx,nx'⟩:Rec)]) p=true:=fun p hp hpi=>by obtain⟨q1,q2⟩:=qjb p hp;have hp2:p.2=i:=hpi.elim (fun e=>absurd e q1) (fun e=>e);obtain⟨O,off,key,q3,q4⟩:=q2 hp2;obtain⟨O',off',key',q5,q6⟩:=(qja p hp).2 hp2;rw [q3] at q5;cases q5;obtain⟨r0,id,x,w1,w2,w3,w4,w5,w6⟩:=hcl _ _ _ _ (oM q3);have f0:=Ac hR q4 w4 w6;have f1:=Ac g1 q6 (hx.mono _ _ w4) (w6.mono hx.mono);unfold gL;rw [qjd _ _ w1,hp2,qzC];exact Gy w2 w3 qkg qzY f0 f1 w5
 have hap:∀id q,PP≠[]->ρ id=some q->(∃T∈ns,∃o a,V1.H.get T=some o/\A1 T=some a/\cY A1 o a id)->∀f∈feet,q ∉ f.1/\q ∉ f.2:=by
  intro id q hP hq ⟨T,hT,o,a,h1,h2,h3⟩;rcases hF.own id ⟨T,o,a,h1,h2,h3⟩ with ⟨O',o',a',h6,h7,h8⟩|h
  ·obtain⟨hn,h6'⟩:=cj h6;have qxO:=hinv.root hP O' o' a' id h6' h7 h8;rw [mN hn,hq] at qxO;have hqO:q=O':=by simpa using qxO
   subst hqO;have:=jE _ _ (qxh hP) q o' h6;rw [OW] at this;rcases this with h|h
   ·rw [h6,OV] at h;obtain⟨hpl,h⟩:=h;obtain⟨o2,h9⟩:=fV.1 h;have hA1:=hx.mono _ _ h7;have h11:=hR1.heap q o2 h9;obtain⟨a2,h12,_⟩:=h11;rw [hA1] at h12;cases h12;have h13:cY A1 o2 a' id:=.inl ((b9 hpl).1 h8);have:=hR1.inj T q o o2 a a' id h1 h9 h2 hA1 h3 h13;subst this;have:=lD hnn T hT;rw [this] at h6';cases h6'
   ·intro f hf;have:=aJ.1 h f hf;simp only [OV,OX] at this;exact⟨fun hm=>Bool.false_ne_true (this.1.symm.trans (gS.2 hm)),fun hm=>Bool.false_ne_true (this.2.symm.trans (gS.2 hm))⟩
  ·have:=hinv.dom id q hq;omega
 let ρ':Nat->Option Nat:=Cp ns V1 A1 ρ
 have hρ1:∀id T,T∈ns->(∃o a,V1.H.get T=some o/\A1 T=some a/\cY A1 o a id)->ρ' id=some T:=fun id T hT ⟨o,a,h1,h2,h3⟩=>EE hR1 hT h1 h2 h3
 have hρ0:∀id,¬(∃T∈ns,∃o a,V1.H.get T=some o/\A1 T=some a/\cY A1 o a id)->ρ' id=ρ id:=fun id h=>Cn h
 have qkf:∀r f,PP≠[]->f∈feet->td ρ r f->td ρ' r f:=by
  intro r f hP hf ⟨h1,l0,h2,h3⟩;refine⟨fun x hx0=>?_,l0,h2,fun id hid=>?_⟩
  ·obtain⟨id,h4,q,h5,h6⟩:=h1 x hx0;refine⟨id,h4,q,?_,h6⟩;rw [hρ0 id (fun hc=>(hap id q hP h5 hc f hf).1 h6)];exact h5
  ·obtain⟨q,h5,h6⟩:=h3 id hid;refine⟨q,?_,h6⟩;rw [hρ0 id (fun hc=>(hap id q hP h5 hc f hf).2 h6)];exact h5
 refine⟨⟨e',H2,nx'⟩,⟨cR,bU,st.H,H2,st.nx,nx'⟩,?_,_,A1,ρ',g1,⟨hle,fun id hid hno=>?_,fun id ho=>?_⟩,hk1,hle,hcl.mono hx.mono,fun hl=>⟨fun T o a id ho ha hid=>?_,fun hP T o a id ho ha hid=>?_,fun id q h=>?_⟩,
  ⟨by simp [hh.len],fun hP c r' f' hr hf=>?_,fun c r' ah' hr ha' rs' qzU=>?_⟩⟩
 ·exact qkm
 ·show H2.get id=_;rw [qq9];split
  ·rename_i hPi;have h0:id < n0:=by rcases(hP id).1 hPi with h|h<;>omega
   have:=hF.same id hid (fun ⟨O,o,a,h1,h2,h3⟩=>hno ⟨O,o,a,(cj h1).2,h2,h3⟩);rw [this];show (Map.upto st.H _).get id=_;rw [Map.fW,if_pos (by simpa using h0)]
  ·rfl
 ·obtain⟨O,o,a,h1,h2,h3⟩:=ho;rcases g4 O o h1 with h4|⟨h4,h5,hpl⟩
  ·rcases hF.own id ⟨O,o,a,h4,h2,h3⟩ with ⟨O',o',a',h6,h7,h8⟩|h
   ·exact .inl ⟨O',o',a',(cj h6).2,h7,h8⟩
   ·exact .inr h
  ·obtain⟨a',h6,_⟩:=hR.heap O o h5;have:=hx.mono _ _ h6;rw [h2] at this;cases this;exact .inl ⟨O,o,a,h5,h6,(b9 hpl).2 ((b9 hpl).1 h3)⟩
 ·have hold:∀(c:Nat) a,rs[c]?=some a->(rs++[(⟨cR,bU,st.H,H2,st.nx,nx'⟩:Rec)])[c]?=some a:=fun c a hc=>by rw [Ox (Ow.1 hc).1];exact hc
  have qx9:(rs++[(⟨cR,bU,st.H,H2,st.nx,nx'⟩:Rec)])[i]?=some ⟨cR,bU,st.H,H2,st.nx,nx'⟩:=by rw [Oy (by omega),hi,Nat.sub_self];rfl
  rcases g4 T o ho with h4|⟨h4,h5,hpl⟩
  ·by_cases hT:T∈ns
   ·rw [rX hT];rcases hF.own id ⟨T,o,a,h4,ha,hid⟩ with ⟨O',o',a',h6,h7,h8⟩|h
    ·exact .inl (qxk O' o' a' id h6 h7 h8)
    ·exact .inr ⟨i,by simp,_,qx9,h,hR1.ff ⟨T,o,a,h4,ha,hid⟩⟩
   ·rcases hkeys T o h4 with ⟨o',h6⟩|h6
    ·obtain⟨a',h7,_⟩:=hR.heap T o' (cj h6).2;have:=hx.mono _ _ h7;rw [ha] at this;cases this;exact .inl (qxk T o' a id h6 h7 (nI hR0 hx (hsm hl) h6 h4 h7 hid))
    ·exact absurd h6 hT
  ·have hT:T ∉ ns:=fun hm=>by have:=lD hnn T hm;rw [this] at h5;cases h5
   rw [lF hT];obtain⟨a',h6,_⟩:=hR.heap T o h5;have:=hx.mono _ _ h6;rw [ha] at this;cases this;exact(hinv.known T o a id h5 h6 ((b9 hpl).2 ((b9 hpl).1 hid))).imp (fun h=>h) (fun ⟨c,h2,r2,h3,h4⟩=>⟨c,h2,r2,hold c r2 h3,h4⟩)
 ·rcases g4 T o ho with h4|⟨h4,h5,hpl⟩
  ·by_cases hT:T∈ns
   ·rw [rX hT];exact hρ1 id T hT ⟨o,a,h4,ha,hid⟩
   ·rw [lF hT];rcases hkeys T o h4 with ⟨o',h6⟩|h6
    ·obtain⟨a',h7,_⟩:=hR.heap T o' (cj h6).2;have:=hx.mono _ _ h7;rw [ha] at this;cases this;rw [hρ0 id (fun ⟨T2,hT2,o2,a2,h8,h9,h10⟩=>by have:=hR1.inj T2 T o2 o a2 a id h8 h4 h9 ha h10 hid;subst this;exact hT hT2)]
     exact hinv.root hP T o' a id (cj h6).2 h7 (nI hR0 hx (hsm hl) h6 h4 h7 hid)
    ·exact absurd h6 hT
  ·have hT:T ∉ ns:=fun hm=>by have:=lD hnn T hm;rw [this] at h5;cases h5
   rw [lF hT];obtain⟨a',h6,_⟩:=hR.heap T o h5;have:=hx.mono _ _ h6;rw [ha] at this;cases this;rw [hρ0 id (fun ⟨T2,hT2,o2,a2,h8,h9,h10⟩=>by have:=g1.inj T2 T o2 o a2 a id (g5 _ _ h8) ho h9 ha h10 hid;subst this;exact hT hT2)]
   exact hinv.root hP T o a id h5 h6 ((b9 hpl).2 ((b9 hpl).1 hid))
 ·by_cases hc:∃T∈ns,∃o a,V1.H.get T=some o/\A1 T=some a/\cY A1 o a id
  ·obtain⟨T,hT,o,a,h1,h2,h3⟩:=hc;exact hR1.ff ⟨T,o,a,h1,h2,h3⟩
  ·have h':ρ' id=some q:=h;rw [hρ0 id hc] at h';exact O5 (hinv.dom id q h') hle
 ·by_cases hc:c < rs.length
  ·rw [Ox hc] at hr;rw [Ox (by rw [hh.len];exact hc)] at hf;exact(hh.EF hP c r' f' hr hf).imp (fun h=>qkf r' f' hP (OD hf) h) (fun h p hp hc=>rz (h p hp hc))
  ·have hce:c=rs.length:=by have:=(Ow.1 hr).1;simp at this;omega
   exact .inr fun p hp hpc=>hpw p hp (by rw [←hi,←hce];exact hpc)
 ·by_cases hc:c < rs.length
  ·rw [Ox hc] at hr;exact hh.known c r' ah' hr ha' rs' (fun j a hj=>qzU j a (by rw [Ox (Ow.1 hj).1];exact hj))
  ·have hce:c=rs.length:=by have:=(Ow.1 hr).1;simp at this;omega
   subst hce;rw [Oy (Pa _),Nat.sub_self] at hr;cases hr;exact hrt rs' ah'
theorem vE (hsh:n5 prog sh) {ahead:List (List Nat)} {pairs:List (Nat×Nat)} {n0:Nat}:∀(ops:List ax) (i:Nat) (V:aF) (A:aX) (st:St) (info:List (Nat×Nat×List Nat)) (feet:List (List Nat×List Nat)) (cl:List (Nat×Nat×Nat×List fu)) (rs:List Rec) (ρ:Nat->Option Nat) (k:aF->Prop),
  R A V st->(ops≠[]->D6 (pairs≠[]) n0 rs A V st info ρ)->BB (pairs≠[]) n0 ahead rs feet ρ pairs->vX A rs cl->rs.length=i->n0<=st.nx->E9 sh prog nt ahead pairs ops i V info feet cl k->
  ∃st' l,cZ (aM prog) nt n0 ops st=some (st',l)/\gW n0 (rs++l) ahead (rs++l)=true/\bx (gL (rs++l)) pairs=true/\∃V' A',R A' V' st'/\Fr V A st.H st.nx V' A' st'.H st'.nx/\k V'
 |[],i,V,A,st,info,feet,cl,rs,ρ,k,hR,hinv,hh,hcl,hi,hn,hk=>by
  simp only [E9] at hk;split at hk
  ·rename_i hb;rw [OV,OY] at hb;refine⟨st,[],rfl,?_,?_,V,A,hR,Fr.refl _ _ _ _,hk⟩
   ·rw [List.append_nil];exact pJ ahead rs (by rw [hb.1,hi]) (fun c r ah hr ha=>hh.known c r ah hr ha rs (fun _ _ h=>h))
   ·rw [List.append_nil];exact wQ hh (fun _ h=>h) (fun h=>h) hb.2
  ·cases hk
 |o::l,i,V,A,st,info,feet,cl,rs,ρ,k,hR,hinv,hh,hcl,hi,hn,hk=>by
  rw [E9] at hk;split at hk
  ·rename_i ns hso;split at hk;rotate_left
   ·cases hk
   rename_i hnn;obtain⟨st1,r,g1,W,A1,ρ',g2,g3,g4,g5,g8,g6,g7⟩:=AM (l:=l) (k:=fun W=>E9 sh prog nt ahead pairs l (i+1) W (pL i ns info) (feet++[([],[])]) cl k) hsh hR (hinv (by simp)) hh hcl hi hn hso hnn hk;obtain⟨st2,l2,q1,q2,q3,V2,A2,q4,q5,q6⟩:=vE hsh l (i+1) W A1 st1 _ _ cl (rs++[r]) ρ' k g2 g6 g7 g8 (by simp [hi]) (O9 hn g5) g4;refine⟨st2,r::l2,by simp only [cZ,g1,q1],?_,?_,V2,A2,q4,g3.trans q5,q6⟩
   ·rwa [List.append_assoc] at q2
   ·rwa [List.append_assoc] at q3
  have hk':E7 sh prog nt V o fun V'=>match vt V o with
   |none=>False
   |some f=>match ahead[i]? with
    |none=>False
    |some ah=>match jv info ah (f.rd++f.wr) with
     |false=>False
     |true=>match tq o.dst i V V' f info with
      |none=>False
      |some info'=>AQ l V V' (E9 sh prog nt ahead pairs l (i+1) V' info' (feet++[(iM info f.rd,iM info f.wr)]) (Fx V o i pairs cl) k):=hk
  obtain⟨st1,h1,V1,A1,h2,h3,hx,h4⟩:=At hsh hR hk';split at h4
  ·cases h4
  rename_i f hf;split at h4
  ·cases h4
  rename_i ah hah;split at h4
  ·cases h4
  rename_i hch;split at h4
  ·cases h4
  rename_i info' hs;obtain⟨h4,hsm⟩:=zM h4;obtain⟨r,g1,g2,g3,g4⟩:=E6 hR hk' hf h1 n0;obtain⟨ρ',p1,p2⟩:=B1 hR h2 h3 hx (hinv (by simp)) hh hi g2 g3 g4 hah hch hs;have qko:vX A1 (rs++[r]) (Fx V o i pairs cl):=by
   have h0:=hcl.mono (r:=r) hx.mono;unfold Fx;split
   ·exact h0
   ·split
    ·rename_i p hp;intro c O off key hm;rcases OP.1 hm with he|hm
     ·cases he;obtain⟨id,x,w1,w2,w3,w4,w5⟩:=zx hR hp g1;exact⟨r,id,x,(by rw [Oy (by omega),hi,Nat.sub_self];rfl),w1,w2,hx.mono _ _ w3,w4,w5.mono hx.mono⟩
     ·exact h0 c O off key hm
    ·exact h0
  obtain⟨st2,l2,q1,q2,q3,V2,A2,q4,q5,q6⟩:=vE hsh l (i+1) V1 A1 st1 info' _ _ (rs++[r]) ρ' k h2 (fun hl=>p1 (hsm hl)) p2 qko (by simp [hi]) (O9 hn h3.le) h4;refine⟨st2,r::l2,by simp only [cZ,g1,q1],?_,?_,V2,A2,q4,h3.trans q5,q6⟩
  ·rwa [List.append_assoc] at q2
  ·rwa [List.append_assoc] at q3
open Classical in
def wF (V:aF) (A:aX) (id:Nat):Option Nat:=if h:∃(T:Nat) (o:VO) (a:AV),V.H.get T=some o/\A T=some a/\cY A o a id then some (Classical.choose h) else none
theorem yI {V:aF} {A:aX} {id q:Nat} (h:wF V A id=some q):∃o a,V.H.get q=some o/\A q=some a/\cY A o a id:=by
 unfold wF at h;split at h
 ·rename_i hh;cases h;exact Classical.choose_spec hh
 ·cases h
theorem Cm {V:aF} {A:aX} {st:St} (hR:R A V st) {id T:Nat} {o:VO} {a:AV} (h1:V.H.get T=some o) (h2:A T=some a) (h3:cY A o a id):wF V A id=some T:=by have hh:∃(T:Nat) (o:VO) (a:AV),V.H.get T=some o/\A T=some a/\cY A o a id:=⟨T,o,a,h1,h2,h3⟩;unfold wF;rw [dif_pos hh];obtain⟨o',a',g1,g2,g3⟩:=Classical.choose_spec hh;congr 1;exact hR.inj _ T _ _ _ _ id g1 h1 g2 h2 g3 h3
theorem E8 (hsh:n5 prog sh) {A:aX} {V:aF} {st:St} {k:aF->Prop} {ops:List ax} {ahead:List (List Nat)} {pairs:List (Nat×Nat)} (hR:R A V st) (hk:E9 sh prog nt ahead pairs ops 0 V [] [] [] k) :
  ∃st',b7 (aM prog) nt ops ahead pairs st=some st'/\∃V' A',R A' V' st'/\Fr V A st.H st.nx V' A' st'.H st'.nx/\k V':=by
 have own:∀T o a id,V.H.get T=some o->A T=some a->cY A o a id->b6 V A id:=fun T o a id h1 h2 h3=>⟨T,o,a,h1,h2,h3⟩
 obtain⟨st',l,h1,h2,h3,V',A',h4,h5,h6⟩:=vE hsh (n0:=st.nx) ops 0 V A st [] [] [] [] (wF V A) k hR (fun _=>⟨fun T o a id g1 g2 g3=>.inl (hR.ff (own T o a id g1 g2 g3)),fun _ T o a id g1 g2 g3=>Cm hR g1 g2 g3,fun id q hq=>by obtain⟨o',a',g1,g2,g3⟩:=yI hq;exact hR.ff (own _ _ _ _ g1 g2 g3)⟩) ⟨rfl,fun _ c r f hr=>by simp at hr,fun c r ah hr=>by simp at hr⟩ (fun _ _ _ _ hm=>by cases hm) rfl (Pa _) hk
 rw [List.nil_append] at h2 h3;exact⟨st',by simp only [b7,h1,h2,h3,Bool.and_self,cond_true],V',A',h4,h5,h6⟩
end
end Go.Ax.V
namespace Go.Ax.V
def _root_.Go.Ax.V.b_.ok:b_->Bool
 |.seq a b=>a.ok&&b.ok
 |.cond _ a b=>a.ok&&b.ok
 |.block _ c=>c.ok
 |.loop J c=>J.all kU&&c.ok
 |.join J c=>J.all kU&&c.ok
 |_=>true
section
variable {sh:Sh} {prog:Map aq} {nt:Nat}
theorem IN {A:aX} {V:aF} {st:St} (hR:R A V st) {O:Nat} {o o':VO} (ho:V.H.get O=some o) (hpl:o.pl=true) (qzs:o'.pl=true) (hor:∀a,A O=some a->OR A st.H o a->OR A st.H o' a) :
  R A (bh V O o') st/\Fr V A st.H st.nx (bh V O o') A st.H st.nx:=by
 have get':∀{O2:Nat} {o2:VO},(bh V O o').H.get O2=some o2->∃o3,V.H.get O2=some o3/\(∀a id,cY A o2 a id->cY A o3 a id)/\(∀a,A O2=some a->OR A st.H o3 a->OR A st.H o2 a)/\(∀a,fY A O2 a o3->fY A O2 a o2):=by
  intro O2 o2 h;simp only [bh,Map.au] at h;split at h
  ·rename_i e;subst e;cases h;exact⟨o,ho,fun a id hi=>.inl ((b9 qzs).1 hi),hor,fun _ _=>mg qzs⟩
  ·exact⟨o2,h,fun _ _ h=>h,fun _ _ h=>h,fun _ h=>h⟩
 refine⟨⟨hR.env,fun O2 o2 h=>?_,fun O1 O2 o1 o2 a1 a2 id h1 h2 g1 g2 i1 i2=>?_,hR.used,hR.one,hR.fresh,fun O2 o2 a h ha=>?_⟩,⟨Pa _,fun _ _ _=>rfl,fun id ⟨O2,o2,a,h,ha,hid⟩=>?_⟩⟩
 ·obtain⟨o3,h1,h2,h3,_⟩:=get' h;obtain⟨a,ha,hr⟩:=hR.heap O2 o3 h1;exact⟨a,ha,h3 a ha hr⟩
 ·obtain⟨o3,h3,h4,_⟩:=get' h1;obtain⟨o4,h5,h6,_⟩:=get' h2;exact hR.inj O1 O2 o3 o4 a1 a2 id h3 h5 g1 g2 (h4 _ _ i1) (h6 _ _ i2)
 ·obtain⟨o3,h1,_,_,h4⟩:=get' h;exact h4 a (hR.eI O2 o3 a h1 ha)
 ·obtain⟨o3,h1,h2,_⟩:=get' h;exact .inl ⟨O2,o3,a,h1,ha,h2 _ _ hid⟩
theorem wP {A:aX} {st:St} {k:aF->Prop}:∀{l:List (Nat×Nat)} {V:aF},R A V st->EH l V k->∃V',R A V' st/\Fr V A st.H st.nx V' A st.H st.nx/\k V'
 |[],V,hR,h=>⟨V,hR,Fr.refl _ _ _ _,h⟩
 |(O,off)::l,V,hR,h=>by
  simp only [EH] at h;split at h;rotate_left
  ·cases h
  rename_i v ovs hv;split at h;rotate_left
  ·cases h
  rename_i hov;obtain⟨t,h1,h2,h3⟩:=h;obtain⟨t0,h4,h5⟩:=qu h1;obtain⟨ts0,h6,h7⟩:=fL h4;obtain⟨a,ha,id,cs,ts,rfl,hH,hc⟩:=hR.heap O _ hv;have:=hc.cells.symm.trans h6;cases this;have hlt:off < cs.length:=by rw [←hc.len];exact(Ow.1 h7).1
  have hx:cs[off]?=some cs[off]:=Ov hlt;have hat:=hc.at_ off t0 _ h7 hx;rw [hov] at hat;have hcan:Can t cs[off]:=h5 _ hat.1;have hrow:Ck cs[off]=true:=by
   cases t with
   |l es=>generalize cs[off]=y at hcan;cases hcan<;>rfl
   |_=>cases h2
  obtain⟨v',h8,h9⟩:=h3 cs[off];obtain⟨g1,g2⟩:=IN hR (o':=.ob v' ovs) hv rfl rfl (fun a' ha' hor=>by
   obtain⟨id2,cs2,ts2,rfl,hH2,hc2⟩:=hor;rw [ha] at ha';cases ha';rw [hH] at hH2;cases hH2;have:=hc.cells.symm.trans hc2.cells;cases this;obtain⟨ts',xs,us,e1,e2,e3,e4,e5,e6,e7⟩:=bM h8;have:=hc.cells.symm.trans e1;cases this;refine⟨id,cs,us,rfl,hH,⟨e4,by rw [e5];exact hc.len,fun j w hj=>by rw [e5];exact hc.keys j w hj,fun j u y hu hy=>?_⟩⟩;rw [e7 j] at hu;split at hu
   ·rename_i hj;have hjo:j=off:=by omega
    subst hjo;have hxs:xs=[.pW cs[j] t]:=by have:bF (.pW cs[j] t)=some [.pW cs[j] t]:=rfl;rw [e2] at this;exact O8 this
    rw [hxs] at hu;simp at hu;subst hu;rw [hx] at hy;cases hy;rw [hov];exact⟨.pW _ _ hrow hcan,hat.2⟩
   ·exact hc.at_ j u y hu hy)
  obtain⟨V',q1,q2,q3⟩:=wP g1 h9;exact⟨V',q1,g2.trans q2,q3⟩
theorem Av (hsh:n5 prog sh):∀(c:b_) (V:aF) (A:aX) (st:St) (k:bG->aF->Prop),c.ok=true->R A V st->BJ sh prog nt c V k->
  WC (aM prog) (bg prog) nt c.code st (fun x st'=>∃V' A',R A' V' st'/\Fr V A st.H st.nx V' A' st'.H st'.nx/\k x V'):=by
 intro c
 induction c with
 |skip=>intro V A st k _ hR h;exact Ei ⟨V,A,hR,Fr.refl _ _ _ _,h⟩
 |exit id=>intro V A st k _ hR h;exact Ek ⟨V,A,hR,Fr.refl _ _ _ _,h⟩
 |ret=>intro V A st k _ hR h;exact F4 ⟨V,A,hR,Fr.refl _ _ _ _,h⟩
 |aT ops ahead pairs=>intro V A st k _ hR h;obtain⟨V1,hR1,hF1,h⟩:=wP hR h;obtain⟨st',h1,V',A',h2,h3,h4⟩:=E8 hsh hR1 h;exact El h1 ⟨V',A',h2,hF1.trans h3,h4⟩
 |aa ops=>intro V A st k _ hR h;obtain⟨st',h1,V',A',h2,h3,_,h4⟩:=xM hsh hR h;exact F5 ⟨st',h1,V',A',h2,h3,h4⟩
 |seq a b iha ihb=>
  intro V A st k hok hR h;simp only [b_.ok,OV] at hok;refine F3 (k_ (iha V A st _ hok.1 hR h) ?_);rintro x st' ⟨V',A',h1,h2,h3⟩;cases x with
  |normal=>refine k_ (ihb V' A' st' k hok.2 h1 h3) ?_;rintro y st2 ⟨V2,A2,g1,g2,g3⟩;exact⟨V2,A2,g1,h2.trans g2,g3⟩
  |exit i=>exact⟨V',A',h1,h2,h3⟩
  |ret=>exact⟨V',A',h1,h2,h3⟩
 |cond c a b iha ihb=>
  intro V A st k hok hR h;simp only [b_.ok,OV] at hok;obtain⟨cv,hc,h⟩:=bN (g:=none) hR trivial h;unfold ck at h;split at h
  ·rename_i x;generalize he:ev st.env c=p at hc;cases hc;cases x with
   |true=>exact uU he (iha V A st k hok.1 hR h)
   |false=>exact sZ he (ihb V A st k hok.2 hR h)
  ·cases h
 |block id c ih=>
  intro V A st k hok hR h;refine BS (k_ (ih V A st _ hok hR h) ?_);rintro x st' ⟨V',A',h1,h2,h3⟩;cases x with
  |normal=>exact⟨V',A',h1,h2,h3⟩
  |ret=>exact⟨V',A',h1,h2,h3⟩
  |exit i=>
   simp only [zF];simp only [cond_eq_ite,OY] at h3;by_cases hi:i=id
   ·rw [if_pos hi] at h3 ⊢;exact⟨V',A',h1,h2,h3⟩
   ·rw [if_neg hi] at h3 ⊢;exact⟨V',A',h1,h2,h3⟩
 |loop J c ih=>
  intro V A st k hok hR h;simp only [b_.ok,OV] at hok;obtain⟨I,⟨n,h1⟩,h2⟩:=h;refine Ej (fun (n:Nat) st1=>∃V1 A1,R A1 V1 st1/\Fr V A st.H st.nx V1 A1 st1.H st1.nx/\pV J V1 (I n)) (fun n=>n) ?_ n st ⟨V,A,hR,Fr.refl _ _ _ _,h1⟩;rintro m st1 ⟨V1,A1,g1,g2,g3⟩;obtain⟨Vc,A2,p1,p2,p3⟩:=xg g1 hok.1 g3 (h2 m);refine k_ (ih Vc A2 st1 _ hok.2 p2 p1) ?_;rintro x st2 ⟨V2,A3,q1,q2,q3⟩;have hfr:=g2.trans (p3.trans q2);cases x with
  |normal=>obtain⟨m',hm,q3⟩:=q3;exact⟨m',hm,V2,A3,q1,hfr,q3⟩
  |exit i=>exact⟨V2,A3,q1,hfr,q3⟩
  |ret=>exact⟨V2,A3,q1,hfr,q3⟩
 |join J c ih=>
  intro V A st k hok hR h;simp only [b_.ok,OV] at hok;obtain⟨I,h1,h2⟩:=h;refine k_ (ih V A st _ hok.2 hR h1) ?_;rintro x st' ⟨V',A',g1,g2,g3⟩;cases x with
  |normal=>obtain⟨Vc,A2,p1,p2,p3⟩:=xg g1 hok.1 g3 h2;exact⟨Vc,A2,p2,g2.trans p3,p1⟩
  |exit i=>exact⟨V',A',g1,g2,g3⟩
  |ret=>exact⟨V',A',g1,g2,g3⟩
theorem xu {A:aX} {H:av} {nx:Nat}:∀(ts:List TV) (as:List AV) (i:Nat) (V:aF) (e:Env),eC ts as->R A V ⟨e,H,nx⟩->R A (Dj ts i V) ⟨cJ as i e,H,nx⟩
 |[],as,i,V,e,hc,hR=>by have:as=[]:=O6.1 hc.1.symm;subst this;exact hR
 |t::ts,[],i,V,e,hc,hR=>by cases hc.1
 |t::ts,a::as,i,V,e,hc,hR=>by refine xu ts as (i+1) _ _ ⟨Nat.succ.inj hc.1,fun j u x hu hx=>hc.2 (j+1) u x hu hx⟩ ?_;exact hR.put (e:=⟨none,.tr t⟩) (v:=a) (fun _=>.tr (hc.2 0 t a rfl rfl))
theorem q8 {A:aX} {V:aF} {st:St} (hR:R A V st) {r:pg} {k:TV->Prop} (h:qg V r k) (d:Nat):∃v t a,iY st.env st.H r=some v/\aN (d+4) st.H v=some a/\Can t a/\k t:=by
 cases r with
 |tmp t=>simp only [qg] at h;obtain⟨w,hw,h⟩:=bE (g:=none) hR trivial h;obtain⟨t',a,h1,h2,h3,h4⟩:=mZ hR hw h d;exact⟨_,t',a,rfl,h1,h2,h4⟩
 |cell t sz=>
  simp only [qg] at h;obtain⟨w,hw,h⟩:=bE (g:=none) hR trivial h;generalize he:ev st.env (.t t)=p at hw;cases hw with
  |@ptr O off id hO=>
   simp only at h;split at h;rotate_left
   ·cases h
   rename_i v ovs ho;obtain⟨y,hy,id',cs,ts,rfl,hH,hc⟩:=hR.heap O _ ho;rw [hO] at hy;cases hy;have fin:∀{l:List AV} {v' t' a:_},cut cs off (bW sz)=some l->z6 sz l=some v'->aN (d+4) st.H v'=some a->Can t' a->k t'->∃v t_1 a,iY st.env st.H (.cell t sz)=some v/\aN (d+4) st.H v=some a/\Can t_1 a/\k t_1:=by intro l v' t' a h1 h2 h3 h4 h5;refine⟨v',t',a,?_,h3,h4,h5⟩;simp only [iY,he,cK,hH,cond_eq_ite,OY,if_pos,h1];exact h2
   split at h
   ·split at h
    ·rename_i w hw;have hlt:=hc.keys _ _ hw;have hx:cs[off]?=some (cs[off]'(by rw [←hc.len];exact hlt)):=Ov _;have hs:=hc.at_ off _ _ (Ov hlt) hx;rw [hw] at hs;obtain⟨es,a',g1,g2,g3,g4,g5⟩:=m6 hR hs h (d+1);exact fin (kX hx) rfl g1 g2 g5
    ·rename_i ho';obtain⟨u,h1,h2⟩:=h;obtain⟨x,h3,h4,h5⟩:=nU hc h1 ho';exact fin h3 rfl (kK h5 _ _) h4 h2
   ·rename_i n;obtain⟨u,h1,h2⟩:=h;obtain⟨l,ls,h3,h4,h5⟩:=gE hc h1;obtain⟨u',us,cs',g1,g2,g3,g4,g5,g6⟩:=oU hR h5 h2 d;obtain⟨l',rfl⟩:=g5 _ h4;cases g2;exact fin h3 rfl (by rw [eR,g1]) (.a _ _ g3.1.1 g3.2 g3.1.2) g4
  |_=>cases h
theorem q9 {A:aX} {V:aF} {st:St} (hR:R A V st) (d:Nat):∀(rs:List pg) (k:List TV->Prop),yL V rs k->∃vs ts as,cr (iY st.env st.H) rs=some vs/\cr (aN (d+4) st.H) vs=some as/\eC ts as/\k ts
 |[],k,h=>⟨[],[],[],rfl,rfl,⟨rfl,fun j t x ht=>by simp at ht⟩,h⟩
 |r::rs,k,h=>by
  obtain⟨v,t,a,h1,h2,h3,h4⟩:=q8 hR h d;obtain⟨vs,ts,as,g1,g2,g3,g4⟩:=q9 hR d rs _ h4;refine⟨v::vs,t::ts,a::as,by rw [bZ,h1,g1],by rw [bZ,h2,g2],⟨by simp [g3.1],fun j u x hu hx=>?_⟩,g4⟩;cases j with
  |zero=>simp at hu hx;subst hu;subst hx;exact h3
  |succ j=>exact g3.2 j u x (by simpa using hu) (by simpa using hx)
theorem tP:∀{ts:List TV},zZ ts->∀t∈ts,t.iy=false
 |[],_,t,ht=>by cases ht
 |x::ts,h,t,ht=>by
  rcases OP.1 ht with rfl|ht
  ·exact h.1
  ·exact tP h.2 t ht
theorem zy {t:TV} {a:AV} (h:Can t a) (ht:t.iy=false):a.eJ=true:=by
 cases h with
 |a ts as hl hf h=>exact aJ.2 hf
 |tp ts as hl hf h=>cases ht
 |pW x u hf h=>exact(Ak (qS hf)).2.2
 |_=>rfl
theorem HQ {f:Nat} {af:aq} {vc:b_} {ts:List TV} {Q:TV->Prop} (hf:prog.get f=some af) (hc:vc.code=af.body) (hok:vc.ok=true) (hl:ts.length=af.params) (hsh:n5 prog sh) (h:Jq sh prog af vc ts Q):VS prog f ts Q:=by
 intro as ha;have h0:R (fun _=>none) V0 ⟨.leaf,.leaf,0⟩:=⟨fun t e he=>(by cases he),fun O o ho=>(by cases ho),fun O O' o o' a a' id ho=>(by cases ho),fun _ _=>rfl,fun O a ha=>(by cases ha),fun id o ho=>(by cases ho),fun O o a ho=>(by cases ho)⟩;have hR:=xu ts as 0 V0 .leaf ha h0;have hw:=Av hsh (nt:=af.nt) vc _ _ _ _ hok hR h;rw [hc] at hw;obtain⟨⟨v,H',nx'⟩,h1,h2⟩:=sk (r:=fun p=>∃a,aN deep p.2.1 p.1=some a/\∃r,Can r a/\Q r) hf (by rw [←ha.1];exact hl) (k_ hw (by
  rintro x st' ⟨V',A',g1,g2,g3,g4⟩;refine⟨(by cases x<;>first|exact .inl rfl|exact .inr rfl|cases g3),?_⟩;obtain⟨vs,rs,as',p1,p2,p3,p4,p5⟩:=q9 g1 25 af.res _ g4;have many:vs.length≠1->∃v,ko af.res st'=some v/\∃a,aN deep v.2.1 v.1=some a/\∃r,Can r a/\Q r:=by
   intro hne;have hl1:=(eU p2).1;have hlr:rs.length=vs.length:=by rw [p3.1,hl1]
   have e1:ko af.res st'=some (.dL vs,st'.H,st'.nx):=by
    unfold ko;rw [p1]
    match vs,hne with
    |[],_=>rfl
    |[_],h=>exact absurd rfl h
    |_::_::_,_=>rfl
   have e2:yo rs=.tp rs:=by
    match rs,hlr with
    |[],_=>rfl
    |[_],h=>exact absurd h.symm hne
    |_::_::_,_=>rfl
   have e3:zZ rs:=by
    match rs,hlr,p4 with
    |[],_,_=>trivial
    |[_],h,_=>exact absurd h.symm hne
    |_::_::_,_,h=>exact h
   refine⟨_,e1,.dL as',?_,_,?_,by rw [e2] at p5;exact p5⟩
   ·show aN (29+1) _ _=_;rw [fF];have p2':cr (aN 29 st'.H) vs=some as':=p2;rw [p2']
   ·refine .tp _ _ p3.1 (fun x hx=>?_) p3.2;obtain⟨j,hj⟩:=List.getElem?_of_mem hx;have hlt:j < rs.length:=by rw [p3.1];exact(Ow.1 hj).1
    exact zy (p3.2 j _ x (Ov hlt) hj) (tP e3 _ (OE hlt))
  by_cases hv:vs.length=1
  ·obtain⟨vs',rs',as2,q1,q2,q3,q5⟩:=q9 g1 26 af.res _ g4;rw [p1] at q1;cases q1;obtain⟨v,rfl⟩:=List.length_eq_one_iff.1 hv;have hl1:=(eU q2).1;obtain⟨a,rfl⟩:=List.length_eq_one_iff.1 hl1.symm;obtain⟨r,rfl⟩:=List.length_eq_one_iff.1 (show rs'.length=1 by rw [q3.1];rfl);refine⟨(v,st'.H,st'.nx),by unfold ko;rw [p1],a,?_,r,q3.2 0 r a rfl rfl,q5.2⟩;rw [bZ] at q2;show aN (26+4) st'.H v=some a;cases hh:aN (26+4) st'.H v with
   |none=>rw [hh] at q2;cases q2
   |some y=>rw [hh] at q2;cases q2;rfl
  ·exact many hv))
 exact⟨v,H',nx',h1,h2⟩
end
end Go.Ax.V
namespace Go.Ax.V
def uQ (p:Nat->Bool) (e e':Env):Prop:=∀t,p t=true->e'.get t=e.get t
theorem uQ.refl (p:Nat->Bool) (e:Env):uQ p e e:=fun _ _=>rfl
theorem uQ.trans {p:Nat->Bool} {a b c:Env} (h:uQ p a b) (h':uQ p b c):uQ p a c:=fun t ht=>(h' t ht).trans (h t ht)
section
variable {prog:Map aq} {cf:eF} {nt np:Nat} {p:Nat->Bool}
end
end Go.Ax.V
namespace Go.Ax.V
theorem jQ (prog:Map aq):∀k,mV (fun _=>aM prog) (interp prog k).fn/\pe (fun _=>bg prog) (interp prog k).code
 |0=>⟨fun f args H nx r h=>(by cases h),fun nt c st r h=>(by cases h)⟩
 |k+1=>by
  obtain⟨h1,h2⟩:=jQ prog k;constructor
  ·intro f args H nx r h;obtain⟨k0,hk⟩:=uv (prog:=prog) h2 f args H nx r h;exact Ev.const (yF (hk k0 (Pa _)))
  ·intro nt c st r h;obtain⟨k0,hk⟩:=pQ h1 h2 nt c st r h;exact Ev.const (c8 (hk k0 (Pa _)))
theorem lZ {prog:Map aq} {k f:Nat} {args:List AV} {H:av} {nx:Nat} {r:AV×av×Nat} (h:(interp prog k).fn f args H nx=some r):aM prog f args H nx=some r:=by obtain⟨k0,hk⟩:=(jQ prog k).1 f args H nx r h;exact hk k0 (Pa _)
theorem ey:eC [] []:=⟨rfl,fun j t x ht=>by simp at ht⟩
theorem bw {t:TV} {x:AV} {ts:List TV} {as:List AV} (h:Can t x) (hs:eC ts as):eC (t::ts) (x::as):=by
 refine⟨by simp [hs.1],fun j u y hu hy=>?_⟩;cases j with
 |zero=>simp at hu hy;subst hu;subst hy;exact h
 |succ j=>exact hs.2 j u y (by simpa using hu) (by simpa using hy)
theorem uS {n:Int} (h1:-9223372036854775808<=n) (h2:n < 9223372036854775808):eY .i64 n=n:=by
 unfold eY;have:HJ .i64 n=true:=by
  cases n with
  |ofNat m=>have h2':(m:Int) < 9223372036854775808:=h2;simp only [HJ];simp;omega
  |negSucc m=>simp only [HJ];simp;omega
 rw [this];rfl
end Go.Ax.V
namespace Go.Ax.V
theorem iV {t:Bool} {a b:Prop} (h:t=true) (ha:a):ck (.b t) a b:=by subst h;exact ha
theorem cy {t:Bool} {a b:Prop} (h:t=false) (hb:b):ck (.b t) a b:=by subst h;exact hb
theorem d_ {t:Bool} {a b:Prop} (ha:t=true->a) (hb:t=false->b):ck (.b t) a b:=by
 cases t with
 |true=>exact ha rfl
 |false=>exact hb rfl
theorem AS {a b:TV} (ha:a.iy=false) (hb:b.iy=false):gH [a,b]:=⟨ha,hb,trivial⟩
theorem eZ {prog:Map aq} {f:Nat} {ts:List TV} {c:TV} {K:TV->Prop} (h:VS prog f ts (fun r=>r=c)) (hk:K c):VS prog f ts (fun r=>lT true r/\K r):=
 h.mono (fun r hr=>by subst hr;exact⟨trivial,hk⟩)
theorem bf {t bb:Bool} {P:TV->Prop} {k:TV->Prop} {v:TV} (ht:t=bb) (hp:P v) (hk:k v):∃v,gV (.b t) bb P v/\k v:=by subst ht;refine⟨v,?_,hk⟩;unfold gV;cases t<;>exact hp
theorem gq {t bb:Bool} {P:TV->Prop} {k:TV->Prop} (ht:t=!bb) (hk:k tQ):∃v,gV (.b t) bb P v/\k v:=by subst ht;refine⟨tQ,?_,hk⟩;unfold gV;cases bb<;>rfl
end Go.Ax.V
namespace Go.Ax.V
def b_.flat:b_->Bool
 |.skip=>true
 |.aa _=>true
 |.seq a b=>a.flat&&b.flat
 |.cond _ a b=>a.flat&&b.flat
 |.block _ c=>c.flat
 |.exit _=>true
 |.ret=>true
 |_=>false
section
variable {sh:Sh} {prog:Map aq} {nt:Nat}
def _root_.Go.Ax.V.Sh.add (sh:Sh) (f:Nat) (T:aF->List VV->(VV->aF->Prop)->Prop):Sh:={sh with inl:=fun g=>bif Nat.beq g f then some T else sh.inl g}
def _root_.Go.Ax.V.Sh.cut (sh:Sh) (tc:Nat->List Nat) (gc:Nat->Nat) (pn:Nat->List (Nat×Nat)):Sh:={sh with tc:=tc,gc:=gc,pn:=pn}
end
end Go.Ax.V
end
