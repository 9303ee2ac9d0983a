/- Part 5 of the proof: V5, V6, V7, V8, V9, V10, V12, VS, V11, VD, VE, V13, V14, V15, V16. -/
import Derived.Test.YtamgnhdbeecapaaCy4
set_option linter.unusedSimpArgs false
set_option linter.unusedVariables false
noncomputable section
namespace Go.Ax.V
section
variable {prog:Map aq} {cf:eC} {nt:Nat} {A:aS} {V:ay} {st:St} {d:Option Nat} {g:G} {k:ay->Prop}
theorem fo {α:Type} (l:List α) (a n j:Nat):((l.drop a).take n)[j]?=if j < n then l[a+j]? else none:=by rw [K6,K7]
theorem Bl {z:Nat} {es:List TV} {row row' ce':List AV} {i:Nat} {e e':TV} (hE:tD z es row) (hi:es[i]?=some e) (hc:jS e' ce') (hl:ce'.length=z) (hf:∀x∈ce',AV.flat x=true)
  (hl':row'.length=row.length) (hr:∀j,row'[j]?=if i*z<=j/\j < i*z+z then ce'[j - i*z]? else row[j]?):tD z (es.set i e') row':=by
 have hlt:i < es.length:=(KY.1 hi).1;refine⟨by rw [hl',hE.len,Le],fun x hx=>?_,fun j e1 hj=>?_⟩
 ·obtain⟨q,hq⟩:=List.getElem?_of_mem hx;rw [hr] at hq;split at hq
  ·exact hf x (K8 hq)
  ·exact hE.flat x (K8 hq)
 ·rw [List.getElem?_set] at hj;by_cases e:i=j
  ·subst e;rw [if_pos rfl,if_pos hlt] at hj;cases hj;have:(row'.drop (i*z)).take z=ce':=by
    apply List.ext_getElem?;intro q;rw [fo];by_cases hq:q < z
    ·rw [if_pos hq,hr,if_pos ⟨by omega,by omega⟩];congr 1;omega
    ·rw [if_neg hq];exact(List.getElem?_eq_none_iff.2 (by omega)).symm
   rw [this];exact hc
  ·rw [if_neg e] at hj;have:(row'.drop (j*z)).take z=(row.drop (j*z)).take z:=by
    apply List.ext_getElem?;intro q;rw [fo,fo];by_cases hq:q < z
    ·rw [if_pos hq,if_pos hq,hr,if_neg];rintro⟨h1,h2⟩;rcases Nat.lt_or_gt_of_ne e with h|h
     ·have:=bw (z:=z) h;omega
     ·have:=bw (z:=z) h;omega
    ·rw [if_neg hq,if_neg hq]
   rw [this];exact hE.el j e1 hj
theorem E4 {H:aE} {z:Nat} {es es':List TV} {id g b len cap:Nat} {ex:Bool} (hs:nR H z es (.ref id g b z len cap ex)) {i off sz:Nat} {t:TV} {as:List AV} {xs:List TV} {A:aS} (hp:jg es i off sz t=some es') (hx:aN A t [] as xs) :
  as.length=sz/\∃cells cells',H.get id=some (.row g cells)/\cj cells (b+i*z+off) as=some cells'/\nR (H.put (some (.row g cells')) id) z es' (.ref id g b z len cap ex):=by
 obtain⟨hz,hs⟩:=hs;rcases hs with ⟨_,e|e⟩|⟨id',g',b',cells,e,hH,hb,hE⟩
 ·cases e
 ·cases e
 ·cases e;unfold jg at hp;split at hp
  ·cases hp
  rename_i e1 he1;split at hp
  ·rename_i e1' hp';cases hp;have hlt:i < es.length:=(KY.1 he1).1;obtain⟨ts,ht1,ht2⟩:=cY.1 (hE.el i e1 he1);have hce:aN A e1 [] (((cells.drop b).drop (i*z)).take z) ts:=⟨ht1,ht2.1,fun j w hj=>by simp [a_] at hj,fun j t x ht hx=>⟨ht2.2 j t x ht hx,eF hE.flat _ _ x (K8 hx)⟩⟩;obtain⟨hn,ce',us,h3,h4,h5⟩:=dZ hce hx hp';obtain⟨hov,hat⟩:=cT h3;obtain⟨hb1,_⟩:=cm h3;have hl:=hE.len;rw [Lb] at hl;have h9:=bw (z:=z) hlt;have hz':(((cells.drop b).drop (i*z)).take z).length=z:=by simp only [La,Lb];omega
   rw [hz'] at hb1 hov;have qxx:cj cells (b+i*z+off) as=some (cells.take (b+i*z+off)++as++cells.drop (b+i*z+off+as.length)):=by rw [eR,if_pos (by omega)]
   obtain⟨hl2,qxU⟩:=cT qxx;refine⟨hn,cells,_,hH,qxx,hz,.inr ⟨id,g,b,_,by simp only [Le],by rw [Map.au,if_pos rfl],by omega,?_⟩⟩;refine Bl (ce':=ce') hE he1 (cY.2 ⟨us,h4.cells,h4.len,fun j t x ht hx=>((h4.at_ j t x ht hx):Can t x/\_).1⟩) hov (fun x hx=>?_) (by simp only [Lb];omega) (fun j=>?_)
   ·obtain⟨q,hq⟩:=List.getElem?_of_mem hx;have hlq:q < us.length:=by rw [h4.len];exact(KY.1 hq).1
    exact((h4.at_ q _ x (KX hlq) hq):Can _ x/\_).2
   ·rw [K7,qxU,K7];by_cases hj:i*z<=j/\j < i*z+z
    ·rw [if_pos hj,hat,fo,K7];by_cases hq:off<=j - i*z/\j - i*z < off+as.length
     ·rw [if_pos hq,if_pos (by omega)];congr 1;omega
     ·rw [if_neg hq,if_neg (by omega),if_pos (by omega)];congr 1;omega
    ·rw [if_neg hj,if_neg (by omega)]
  ·cases hp
theorem FN {A:aS} {H:aE} {K s io iz ver:Nat} {hole:Option Nat} {es es':List TV} {b:Nat} {cells as:List AV} {xs:List TV} {i off sz:Nat} {t:TV} (hio:io < s) (hb:b<=cells.length) (hG:ze A H K s io iz ver hole es (cells.drop b)) (hap:k7 off sz io=true)
  (hp:jg es i off sz t=some es') (hx:aN A t [] as xs):as.length=sz/\es'.length=es.length/\∃cells',cj cells (b+i*s+off) as=some cells'/\b<=cells'.length/\ze A H K s io iz ver hole es' (cells'.drop b):=by
 unfold jg at hp;split at hp
 ·cases hp
 rename_i e1 he1;split at hp;rotate_left
 ·cases hp
 rename_i e1' hp';cases hp;have hlt:i < es.length:=(KY.1 he1).1;obtain⟨ts,hce,hts⟩:=pg hG hio he1;obtain⟨hn,ce',us,h3,h4,h5⟩:=dZ hce hx hp';rw [lG] at h4;have qxg:gH off sz [(io,VV.ow K ver i)]=[(io,VV.ow K ver i)]:=by simp only [k7,Ln,Lr,Ls] at hap;simp only [gH,cond_eq_ite,Lm,Lr,Ls];rw [if_neg (by omega)]
 rw [qxg] at h4;obtain⟨hov,hat⟩:=cT h3;obtain⟨hb1,_⟩:=cm h3;have hl:=hG.len;rw [Lb] at hl;have h9:=bw (z:=s) hlt;have hz':(((cells.drop b).drop (i*s)).take s).length=s:=by simp only [La,Lb];omega
 rw [hz'] at hb1 hov;have qxx:cj cells (b+i*s+off) as=some (cells.take (b+i*s+off)++as++cells.drop (b+i*s+off+as.length)):=by rw [eR,if_pos (by omega)]
 obtain⟨hl2,qxU⟩:=cT qxx;have hcell:∀q,(List.drop b (cells.take (b+i*s+off)++as++cells.drop (b+i*s+off+as.length)))[q]?=if i*s<=q/\q < i*s+s then ce'[q - i*s]? else (cells.drop b)[q]?:=by
  intro q;rw [K7,qxU,K7];by_cases hj:i*s<=q/\q < i*s+s
  ·rw [if_pos hj,hat,fo,K7];by_cases hq:off<=q - i*s/\q - i*s < off+as.length
   ·rw [if_pos hq,if_pos (by omega)];congr 1;omega
   ·rw [if_neg hq,if_neg (by omega),if_pos (by omega)];congr 1;omega
  ·rw [if_neg hj,if_neg (by omega)]
 refine⟨hn,by rw [Le],_,qxx,by omega,by rw [Lb,Le];omega,fun j e he=>?_⟩;rw [List.getElem?_set] at he;by_cases hij:i=j
 ·subst hij;rw [if_pos rfl,if_pos hlt] at he;cases he;have hus:us.length=s:=by rw [h4.len];exact hov
  have qjf:∀o,o < s->(List.drop b (cells.take (b+i*s+off)++as++cells.drop (b+i*s+off+as.length)))[i*s+o]?=ce'[o]?:=fun o ho=>by rw [hcell,if_pos (by omega)];congr 1;omega
  refine⟨us,h4.cells,hus,fun o t x hne ht hxx=>?_,?_⟩
  ·have ho:o < s:=by rw [←hus];exact(KY.1 ht).1
   rw [qjf o ho] at hxx;have:=h4.at_ o t x ht hxx;rw [aT,if_neg (Ne.symm hne)] at this;exact this
  ·obtain⟨ts0,g1,g2,g3,x,g4,g5,g6⟩:=hG.el i e1 he1;have qjl:ts0=ts:=by have:=hce.cells;rw [g1] at this;cases this;rfl
   subst qjl;obtain⟨ts1,xs1,us1,q1,q2,q3,q4,q5,q6,q7⟩:=bx hp';rw [g1] at q1;cases q1;rw [h4.cells] at q4;cases q4;have hoff:¬(off<=io/\io < off+sz):=by simp only [k7,Ln,Lr,Ls] at hap;omega
   refine⟨x,?_,g5,fun hn=>?_⟩
   ·rw [qjf io hio,hat,if_neg (by rw [hn];exact hoff),fo,if_pos hio];exact g4
   ·obtain⟨l,g7,g8⟩:=g6 hn;exact⟨l,by rw [q7,if_neg hoff];exact g7,g8⟩
 ·rw [if_neg hij] at he;obtain⟨ts0,g1,g2,g3,x,g4,g5,g6⟩:=hG.el j e he;have hne:∀o,o < s->¬(i*s<=j*s+o/\j*s+o < i*s+s):=fun o ho=>by
   rcases Nat.lt_or_gt_of_ne hij with h|h
   ·have:=bw (z:=s) h;omega
   ·have:=bw (z:=s) h;omega
  refine⟨ts0,g1,g2,fun o t y h1 h2 h3=>?_,x,?_,g5,g6⟩
  ·have ho:o < s:=by rw [←g2];exact(KY.1 h2).1
   rw [hcell,if_neg (hne o ho)] at h3;exact g3 o t y h1 h2 h3
  ·rw [hcell,if_neg (hne io hio)];exact g4
theorem ze.mono {A A':aS} {H H':aE} {K s io iz ver qzE:Nat} {hole:Option Nat} {es:List TV} {cs:List AV} (h:ze A H K s io iz ver hole es cs) (hA:∀j x,A (.i K ver j)=some x->A' (.i K qzE j)=some x)
  (hH:∀j x id,hole≠some j->A (.i K ver j)=some x->bJ x=some id->H'.get id=H.get id):ze A' H' K s io iz qzE hole es cs:=by
 refine⟨h.len,fun j e he=>?_⟩;obtain⟨ts,g1,g2,g3,x,g4,g5,g6⟩:=h.el j e he;refine⟨ts,g1,g2,g3,x,g4,hA j x g5,fun hn=>?_⟩;obtain⟨l,g7,g8⟩:=g6 hn;exact⟨l,g7,g8.mono fun id hi=>hH j x id hn g5 hi⟩
theorem gm.DA {V:ay} {O s io iz ver v0:Nat} {hole qzi:Option Nat} {es es0:List TV} (h:V.H.get O=some (.gn O s io iz v0 qzi es0)) (hv:v0<=ver):gm V (aW V O (.gn O s io iz ver hole es)):=by
 refine⟨fun _ h=>h,fun K s' io' iz' qzE qzj es' hK=>?_⟩;simp only [aW,Map.au] at hK;split at hK
 ·cases hK;exact .inr ⟨s,io,iz,v0,qzi,es0,h,hv⟩
 ·exact .inr ⟨s',io',iz',qzE,qzj,es',hK,LB _⟩
theorem Eh {A:aS} {H H':aE} {O s io iz ver:Nat} {es es':List TV} {id g b:Nat} {cs:List AV} {i:Nat} {l l':List TV} (hG:ze A H O s io iz ver none es cs) (hl:nP es i io=some l) (hp:jg es i io 1 (.l l')=some es') {x:AV} (hx:A (.i O ver i)=some x)
  (hs:nR H' iz l' x) (hH:∀j y id,j≠i->A (.i O ver j)=some y->bJ y=some id->H'.get id=H.get id):es'.length=es.length/\ze A H' O s io iz ver none es' cs:=by
 unfold jg at hp;split at hp
 ·cases hp
 rename_i e1 he1;split at hp;rotate_left
 ·cases hp
 rename_i e1' hp';cases hp;have hlt:i < es.length:=(KY.1 he1).1;refine⟨by rw [Le],by rw [hG.len,Le],fun j e he=>?_⟩;rw [List.getElem?_set] at he;by_cases hij:i=j
 ·subst hij;rw [if_pos rfl,if_pos hlt] at he;cases he;obtain⟨ts,g1,g2,g3,y,g4,g5,g6⟩:=hG.el i e1 he1;rw [hx] at g5;cases g5;obtain⟨ts1,xs1,us1,q1,q2,q3,q4,q5,q6,q7⟩:=bx hp';rw [g1] at q1;cases q1;cases q2;refine⟨us1,q4,by rw [q5,g2],fun o t z hne ht hz=>?_,x,g4,hx,fun _=>⟨l',?_,hs⟩⟩
  ·rw [q7,if_neg (by omega)] at ht;exact g3 o t z hne ht hz
  ·rw [q7,if_pos (by omega),Nat.sub_self];rfl
 ·rw [if_neg hij] at he;obtain⟨ts,g1,g2,g3,y,g4,g5,g6⟩:=hG.el j e he;refine⟨ts,g1,g2,g3,y,g4,g5,fun hn=>?_⟩;obtain⟨l2,g7,g8⟩:=g6 hn;exact⟨l2,g7,g8.mono fun id hi=>hH j y id (Ne.symm hij) g5 hi⟩
def n_ (A:aS) (K ver i:Nat) (x:AV):aS
 |.s O=>A (.s O)
 |.i K' v j=>if K'=K/\v=ver+1 then (if j=i then some x else A (.i K ver j)) else A (.i K' v j)
theorem iC {A:aS} {K ver i:Nat} {x:AV} {K' v j:Nat} (h:¬(K'=K/\v=ver+1)):n_ A K ver i x (.i K' v j)=A (.i K' v j):=if_neg h
theorem iD {A:aS} {K ver i:Nat} {x:AV} {j:Nat}:n_ A K ver i x (.i K (ver+1) j)=if j=i then some x else A (.i K ver j):=if_pos ⟨rfl,rfl⟩
theorem tL {A:aS} {K ver i:Nat} {x:AV} {O:Nat} {o:VO} {y:AV} {id:Nat} (hne:O≠K) (hv:e8 A O y o):cC (n_ A K ver i x) o y id↔cC A o y id:=by
 cases o with
 |gn K' s io iz v hole es=>
  obtain⟨rfl,_⟩:=hv;have e:∀j,n_ A K ver i x (.i K' v j)=A (.i K' v j):=fun j=>iC (fun h=>hne h.1)
  simp only [cC,e]
 |_=>exact Iff.rfl
theorem Ex {A:aS} {V:ay} {st:St} (hR:R A V st) {K N s io iz ver:Nat} {hole:Option Nat} {es es' l:List TV} {id g b:Nat} {cells:List AV} {i:Nat} {x:AV} (hv:V.H.get K=some (.gn K s io iz ver hole es)) (hA:A K=some (.ref id g b s es.length es.length false))
  (hH:st.H.get id=some (.row g cells)) (hb:b<=cells.length) (hG:ze A st.H K s io iz ver hole es (cells.drop b)) (q1:0 < s) (q2:io < s) (q3:0 < iz) (hN:V.H.get N=some (.gr iz l)) (hx:A N=some x) (hNK:N≠K) (hho:hole=none\/hole=some i)
  (hp:jg es i io 1 (.l l)=some es'):∃cells',cj cells (b+i*s+io) [x]=some cells'/\R (n_ A K ver i x) (aW (bk V N) K (.gn K s io iz (ver+1) none es')) ⟨st.env,st.H.put (some (.row g cells')) id,st.nx⟩/\
   Fr V A st.H st.nx (aW (bk V N) K (.gn K s io iz (ver+1) none es')) (n_ A K ver i x) (st.H.put (some (.row g cells')) id) st.nx/\Ext V A (aW (bk V N) K (.gn K s io iz (ver+1) none es')) (n_ A K ver i x):=by
 obtain⟨_,hv1,hv0,hv2,hv3⟩:=hR.dO K _ _ hv hA;have hol:∀j,j≠i->hole≠some j:=fun j hj he=>by rcases hho with h|h<;>rw [h] at he<;>cases he;exact hj rfl
 obtain⟨y,hy,hsN⟩:=hR.heap N _ hN;rw [hx] at hy;cases hy;have idN:∀id',bJ x=some id'->cC A (.gr iz l) x id':=fun id' h=>.inl h
 have idK:cC A (.gn K s io iz ver hole es) (.ref id g b s es.length es.length false) id:=.inl rfl;have xne:∀id',bJ x=some id'->id'≠id:=fun id' h he=>by subst he;exact hNK (hR.inj N K _ _ _ _ id' hN hv hx hA (idN _ h) idK)
 unfold jg at hp;split at hp
 ·cases hp
 rename_i e1 he1;split at hp;rotate_left
 ·cases hp
 rename_i e1' hp';cases hp;have hlt:i < es.length:=(KY.1 he1).1;have hl:=hG.len;rw [Lb] at hl;have h9:=bw (z:=s) hlt;have qxx:cj cells (b+i*s+io) [x]=some (cells.take (b+i*s+io)++[x]++cells.drop (b+i*s+io+1)):=by rw [eR,if_pos (by simp only [Lc];omega)];rfl
 obtain⟨hl2,qxU⟩:=cT qxx;generalize cells.take (b+i*s+io)++[x]++cells.drop (b+i*s+io+1)=cells' at qxx hl2 qxU;have hcell:∀q,(cells'.drop b)[q]?=if q=i*s+io then some x else (cells.drop b)[q]?:=by
  intro q;rw [K7,qxU,K7];simp only [Lc];by_cases hq:q=i*s+io
  ·subst hq;rw [if_pos rfl,if_pos (by omega),show b+(i*s+io) - (b+i*s+io)=0 by omega];rfl
  ·rw [if_neg hq,if_neg (by omega)]
 have hmono:∀n y,A n=some y->n_ A K ver i x n=some y:=fun n y hn=>by
  cases n with
  |s O=>exact hn
  |i K' v j=>
   by_cases he:K'=K/\v=ver+1
   ·obtain⟨rfl,rfl⟩:=he;rw [hv1 (ver+1) j (by omega)] at hn;cases hn
   ·rw [iC he];exact hn
 have qq9:∀id',id'≠id->(st.H.put (some (.row g cells')) id).get id'=st.H.get id':=fun id' h=>by rw [Map.au,if_neg h]
 have hlen':(es.set i e1').length=es.length:=Le;have idsNew:∀id',cC (n_ A K ver i x) (.gn K s io iz (ver+1) none (es.set i e1')) (.ref id g b s es.length es.length false) id'->cC A (.gn K s io iz ver hole es) (.ref id g b s es.length es.length false) id'\/bJ x=some id':=by
  rintro id' (h|⟨j,y,h1,h2,h3⟩)
  ·exact .inl (.inl h)
  ·rw [iD] at h2;split at h2
   ·cases h2;exact .inr h3
   ·rename_i hji;exact .inl (.inr ⟨j,y,hol j hji,h2,h3⟩)
 have get':∀(O':Nat) o',(aW (bk V N) K (.gn K s io iz (ver+1) none (es.set i e1'))).H.get O'=some o'->(O'=K/\o'=.gn K s io iz (ver+1) none (es.set i e1'))\/(O'≠K/\O'≠N/\V.H.get O'=some o'):=fun O' o' h=>by
  simp only [aW,Map.au] at h;split at h
  ·rename_i e;cases h;exact .inl ⟨e,rfl⟩
  ·rename_i e;obtain⟨h1,h2⟩:=cN h;exact .inr ⟨e,h1,h2⟩
 refine⟨cells',qxx,⟨fun t e he=>?_,fun O' o' ho=>?_,fun O1 O2 o1 o2 a1 a2 id' ho1 ho2 ha1 ha2 hi1 hi2=>?_,fun n hn=>?_,fun n y hn=>?_,fun id' ob hh=>?_,fun O' o' y ho hy=>?_⟩,⟨LB _,fun id' _ hn=>?_,fun id' ⟨O',o',y,h1,h2,h3⟩=>?_⟩,⟨hmono,fun n y hn=>?_,?_⟩⟩
 ·obtain⟨a,h1,h2⟩:=hR.env t e he;exact⟨a,h1,fun hh=>(h2 hh).mono hmono⟩
 ·rcases get' O' o' ho with ⟨rfl,rfl⟩|⟨hne,qzQ,h⟩
  ·refine⟨_,hA,q1,q2,q3,.inr ⟨id,g,b,cells',by rw [hlen'],by rw [Map.au,if_pos rfl],by omega,by rw [Lb,hlen'];omega,fun j e he=>?_⟩⟩;rw [List.getElem?_set] at he;by_cases hij:i=j
   ·subst hij;rw [if_pos rfl,if_pos hlt] at he;cases he;obtain⟨ts,g1,g2,g3,y,g4,g5,g6⟩:=hG.el i e1 he1;obtain⟨ts1,xs1,us1,p1,p2,p3,p4,p5,p6,p7⟩:=bx hp';rw [g1] at p1;cases p1;cases p2;refine⟨us1,p4,by rw [p5,g2],fun o t z hno ht hz=>?_,x,by rw [hcell,if_pos rfl],by rw [iD,if_pos rfl],fun _=>⟨l,?_,nR.mono (fun id' hi=>qq9 id' (xne id' hi)) (show nR st.H iz l x from hsN)⟩⟩
    ·rw [p7,if_neg (by omega)] at ht;rw [hcell,if_neg (by omega)] at hz;exact g3 o t z hno ht hz
    ·rw [p7,if_pos (by omega),Nat.sub_self];rfl
   ·rw [if_neg hij] at he;obtain⟨ts,g1,g2,g3,y,g4,g5,g6⟩:=hG.el j e he;have hne:∀o,o < s->j*s+o≠i*s+io:=fun o ho=>by
     rcases Nat.lt_or_gt_of_ne hij with h|h
     ·have:=bw (z:=s) h;omega
     ·have:=bw (z:=s) h;omega
    refine⟨ts,g1,g2,fun o t z hno ht hz=>?_,y,by rw [hcell,if_neg (hne io q2)];exact g4,by rw [iD,if_neg (Ne.symm hij)];exact g5,fun _=>?_⟩
    ·have ho:o < s:=by rw [←g2];exact(KY.1 ht).1
     rw [hcell,if_neg (hne o ho)] at hz;exact g3 o t z hno ht hz
    ·obtain⟨l2,g7,g8⟩:=g6 (hol j (Ne.symm hij));exact⟨l2,g7,g8.mono fun id' hi=>qq9 id' (fun he=>hv3 j y id' (hol j (Ne.symm hij)) g5 hi (by rw [he];rfl))⟩
  ·obtain⟨a,h1,h2⟩:=hR.heap O' o' h;refine⟨a,hmono _ _ h1,h2.mono hmono (fun id' hi=>qq9 id' (fun he=>?_))⟩;subst he;exact hne (hR.inj O' K _ _ _ _ id' h hv h1 hA hi idK)
 ·have sh:∀{O':Nat} {o':VO} {a':AV},(aW (bk V N) K (.gn K s io iz (ver+1) none (es.set i e1'))).H.get O'=some o'->A O'=some a'->cC (n_ A K ver i x) o' a' id'->∃(P:Nat) (p:VO) (ap:AV),V.H.get P=some p/\A P=some ap/\cC A p ap id'/\(P=O'\/(P=N/\O'=K)):=by
   intro O' o' a' ho ha hi;rcases get' O' o' ho with ⟨rfl,rfl⟩|⟨hne,qzQ,h⟩
   ·rw [hA] at ha;cases ha;rcases idsNew _ hi with h|h
    ·exact⟨_,_,_,hv,hA,h,.inl rfl⟩
    ·exact⟨_,_,_,hN,hx,idN _ h,.inr ⟨rfl,rfl⟩⟩
   ·exact⟨O',o',a',h,ha,(tL hne (hR.dO O' _ _ h ha)).1 hi,.inl rfl⟩
  obtain⟨P1,p1,x1,r1,r2,r3,r4⟩:=sh ho1 ha1 hi1;obtain⟨P2,p2,x2,t1,t2,t3,t4⟩:=sh ho2 ha2 hi2;have hPP:=hR.inj P1 P2 _ _ _ _ id' r1 t1 r2 t2 r3 t3;have notN:∀{O':Nat} {o':VO},(aW (bk V N) K (.gn K s io iz (ver+1) none (es.set i e1'))).H.get O'=some o'->O'≠N:=fun {O' o'} h he=>by
   rcases get' O' o' h with ⟨h1,_⟩|⟨_,h1,_⟩
   ·exact hNK (he▸h1)
   ·exact h1 he
  rcases r4 with rfl|⟨rfl,rfl⟩
  ·rcases t4 with rfl|⟨rfl,rfl⟩
   ·exact hPP
   ·exact absurd hPP (notN ho1)
  ·rcases t4 with rfl|⟨h1,h2⟩
   ·exact absurd hPP.symm (notN ho2)
   ·exact h2.symm
 ·have hn':V.us.get n.base=none:=hn;have h0:=hR.used n hn';cases n with
  |s O=>exact h0
  |i K' v j=>
   rw [iC]
   ·exact h0
   ·rintro⟨rfl,rfl⟩;have:=hR.used (.s K') hn';rw [hA] at this;cases this
 ·cases n with
  |s O=>exact hR.one _ _ hn
  |i K' v j=>
   by_cases he:K'=K/\v=ver+1
   ·obtain⟨rfl,rfl⟩:=he;rw [iD] at hn;split at hn
    ·cases hn;exact hR.one _ _ hx
    ·exact hR.one _ _ hn
   ·rw [iC he] at hn;exact hR.one _ _ hn
 ·have hh':(st.H.put (some (.row g cells')) id).get id'=some ob:=hh;rw [Map.au] at hh';split at hh'
  ·rename_i e;subst e;exact hR.fresh _ _ hH
  ·exact hR.fresh _ _ hh'
 ·rcases get' O' o' ho with ⟨rfl,rfl⟩|⟨hne,qzQ,h⟩
  ·have hy':A O'=some y:=hy;rw [hA] at hy';cases hy';refine⟨rfl,fun v j hvv=>?_,fun j y hy=>?_,fun j j' y y' id' _ _ h1 h2 h3 h4=>?_,fun j y id' _ h1 h2=>?_⟩
   ·rw [iC (fun h=>by omega)];exact hv1 v j (by omega)
   ·rw [iD] at hy;split at hy
    ·rename_i e;subst e;rw [hlen'];exact hlt
    ·rw [hlen'];exact hv0 j y hy
   ·rw [iD] at h1 h2;split at h1
    ·cases h1;split at h2
     ·rename_i e1 e2;rw [e1,e2]
     ·rename_i e1 e2;exact absurd (hR.inj N O' _ _ _ _ id' hN hv hx hA (idN _ h3) (.inr ⟨j',y',hol j' e2,h2,h4⟩)) hNK
    ·split at h2
     ·cases h2;rename_i e1 e2;exact absurd (hR.inj N O' _ _ _ _ id' hN hv hx hA (idN _ h4) (.inr ⟨j,y,hol j e1,h1,h3⟩)) hNK
     ·rename_i e1 e2;exact hv2 j j' y y' id' (hol j e1) (hol j' e2) h1 h2 h3 h4
   ·rw [iD] at h1;split at h1
    ·cases h1;intro h;cases h;exact xne _ h2 rfl
    ·rename_i e1;exact hv3 j y id' (hol j e1) h1 h2
  ·have hk:=hR.dO O' o' y h hy;cases o' with
   |gn K' s' io' iz' v' qzj es2=>
    obtain⟨rfl,k1,k0,k2,k3⟩:=hk;have e:∀v j,n_ A K ver i x (.i K' v j)=A (.i K' v j):=fun v j=>iC (fun h=>hne h.1)
    refine⟨rfl,fun v j hv=>by rw [e];exact k1 v j hv,fun j x=>by rw [e];exact k0 j x,fun j j' x x' id=>?_,fun j x id=>?_⟩
    ·rw [e,e];exact k2 j j' x x' id
    ·rw [e];exact k3 j x id
   |_=>trivial
 ·exact qq9 id' (fun he=>hn (he▸⟨K,_,_,hv,hA,idK⟩))
 ·left;rcases get' O' o' h1 with ⟨rfl,rfl⟩|⟨hne,qzQ,h⟩
  ·have h2':A O'=some y:=h2;rw [hA] at h2';cases h2';rcases idsNew _ h3 with h|h
   ·exact⟨O',_,_,hv,hA,h⟩
   ·exact⟨N,_,_,hN,hx,idN _ h⟩
  ·exact⟨O',o',y,h,h2,(tL hne (hR.dO O' _ _ h h2)).1 h3⟩
 ·cases n with
  |s O=>exact .inl hn
  |i K' v j=>
   by_cases he:K'=K/\v=ver+1
   ·obtain⟨rfl,rfl⟩:=he;exact .inr (.inr ⟨K',ver+1,j,s,io,iz,ver,hole,es,rfl,hv,by omega⟩)
   ·rw [iC he] at hn;exact .inl hn
 ·refine⟨fun _ h=>h,fun K2 s2 io2 iz2 v2 h2 es2 hK=>?_⟩;rcases get' K2 _ hK with ⟨rfl,e⟩|⟨_,_,h⟩
  ·cases e;exact .inr ⟨s,io,iz,ver,hole,es,hv,by omega⟩
  ·exact .inr ⟨s2,io2,iz2,v2,h2,es2,h,LB _⟩
theorem jY {cf:eC} {sz:Nat} {a x:aD} {id gg off:Nat} {cells cells' as:List AV} (he:ev st.env a=.ptr id gg off) (hx:(ev st.env x).cells?=some as) (hn:as.length=sz)
  (hH:st.H.get id=some (.row gg cells)) (ho:cj cells off as=some cells'):eu cf (.store sz a x) (ev st.env) st.H st.nx=some (cH,st.H.put (some (.row gg cells')) id,st.nx):=by
 have hp:kind (.store sz a x)=.plan fun ρ=>gN ρ sz a x:=rfl
 simp only [eu,hp,gN,he,hx,cond_eq_ite,Lq,if_pos hn,bD,c5,cg,eG,hH,mD,if_pos,ho,mz]
theorem Cl (hR:R A V st) {sz:Nat} {a x:aD} (h:cS V none a fun w=>cS V none x fun x=>fu V sz w x k):bt cf nt A V st none (.store sz a x) k:=by
 obtain⟨w,hw,h⟩:=bq (g:=none) hR trivial h;obtain⟨y,hy,hk⟩:=bq (g:=none) hR trivial h;generalize he:ev st.env a=p at hw;have done:∀(o:VO) {O:Nat} {o0:VO} {id gg off:Nat} {pa:AV} {cells cells' as:List AV},V.H.get O=some o0->A O=some pa->bJ pa=some id->o0.pl=true->o.pl=true->ev st.env a=.ptr id gg off->(ev st.env x).cells?=some as->as.length=sz->
   st.H.get id=some (.row gg cells)->cj cells off as=some cells'->OR A (st.H.put (some (.row gg cells')) id) o pa->k (aW V O o)->bt cf nt A V st none (.store sz a x) k:=by
  intro o O o0 id gg off pa cells cells' as h1 h2 h3 p0 p1 h4 h5 h6 h7 h8 h9 h10;obtain⟨g1,g2⟩:=lu hR h1 h2 ((bQ p0).2 h3) h9 (fun id hi=>(bQ p0).2 ((bQ p1).1 hi)) (fun _=>kH p1);exact⟨_,_,_,jY h4 h5 h6 h7 h8,st.env,rfl,_,A,g1,g2,Ext.uy _ (gm.set p1),h10⟩
 cases hw<;>first|(cases hk;done)|skip
 ·rename_i O off id hO;simp only [fu] at hk;split at hk
  ·rename_i v ovs hv;split at hk
   ·rename_i t o hs;obtain⟨u,hp,hk⟩:=hk;obtain⟨z,hz,id',cs,ts,rfl,hH,hc⟩:=hR.heap O _ hv;rw [hO] at hz;cases hz;obtain⟨_,xs,_,_,hxs,_⟩:=bx hp;obtain⟨as,h1,h2⟩:=eU hR.one hy hs hxs;obtain⟨hn,cs',us,h3,h4,h5⟩:=dZ hc h2 hp;exact done (.ob u (lG off o (gH off sz ovs))) hv hO rfl rfl rfl he h1 hn hH h3 ⟨_,cs',us,rfl,by rw [Map.au,if_pos rfl],h4⟩ hk
   ·cases hk
  ·cases hk
 ·rename_i O off id hO;simp only [fu] at hk;split at hk
  ·rename_i v ovs hv;split at hk;rotate_left
   ·cases hk
   split at hk
   ·rename_i t;obtain⟨u,hp,hk⟩:=hk;obtain⟨z,hz,id',cs,ts,rfl,hH,hc⟩:=hR.heap O _ hv;rw [hO] at hz;cases hz;obtain⟨_,xs,_,_,hxs,_⟩:=bx hp;obtain⟨as,h1,h2⟩:=eU hR.one hy rfl hxs;obtain⟨hn,cs',us,h3,h4,h5⟩:=dZ hc h2 hp;exact done (.ob u []) hv hO rfl rfl rfl he h1 hn hH h3 ⟨_,cs',us,rfl,by rw [Map.au,if_pos rfl],h4⟩ hk
   ·cases hk
  ·cases hk
 ·rename_i O i off id gg b z len cap ex hO;simp only [fu] at hk;split at hk
  ·rename_i z' es hv;split at hk
   ·rename_i t;obtain⟨es',hp,hk⟩:=hk;obtain⟨y',hy',hs⟩:=hR.heap O _ hv;rw [hO] at hy';cases hy';obtain⟨hz,hs⟩:=hs;rcases hs with ⟨_,e|e⟩|⟨id',g',b',cells,e,hH,hb,hE⟩
    ·cases e
    ·cases e
    ·cases e;unfold jg at hp;split at hp
     ·cases hp
     rename_i e1 he1;split at hp
     ·rename_i e1' hp';cases hp;have hlt:i < es.length:=(KY.1 he1).1;obtain⟨ts,ht1,ht2⟩:=cY.1 (hE.el i e1 he1);obtain⟨_,xs,_,_,hxs,_⟩:=bx hp';obtain⟨as,h1,h2⟩:=eU hR.one hy rfl hxs;have hce:aN A e1 [] (((cells.drop b).drop (i*z)).take z) ts:=⟨ht1,ht2.1,fun j w hj=>by simp [a_] at hj,fun j t x ht hx=>⟨ht2.2 j t x ht hx,eF hE.flat _ _ x (K8 hx)⟩⟩;obtain⟨hn,ce',us,h3,h4,h5⟩:=dZ hce h2 hp';obtain⟨hov,hat⟩:=cT h3;obtain⟨hb1,_⟩:=cm h3;have hl:=hE.len;rw [Lb] at hl;have h9:=bw (z:=z) hlt;have hz':(((cells.drop b).drop (i*z)).take z).length=z:=by simp only [La,Lb];omega
      rw [hz'] at hb1 hov;have qxx:cj cells (b+i*z+off) as=some (cells.take (b+i*z+off)++as++cells.drop (b+i*z+off+as.length)):=by rw [eR,if_pos (by omega)]
      obtain⟨hl2,qxU⟩:=cT qxx;refine done (.gr z (es.set i e1')) hv hO rfl rfl rfl he h1 hn hH qxx ⟨hz,.inr ⟨id,gg,b,_,by simp only [Le],by rw [Map.au,if_pos rfl],by omega,?_⟩⟩ hk;refine Bl (ce':=ce') hE he1 (cY.2 ⟨us,h4.cells,h4.len,fun j t x ht hx=>((h4.at_ j t x ht hx):Can t x/\_).1⟩) hov (fun x hx=>?_) (by simp only [Lb];omega) (fun j=>?_)
      ·obtain⟨q,hq⟩:=List.getElem?_of_mem hx;have hlq:q < us.length:=by rw [h4.len];exact(KY.1 hq).1
       exact((h4.at_ q _ x (KX hlq) hq):Can _ x/\_).2
      ·rw [K7,qxU,K7];by_cases hj:i*z<=j/\j < i*z+z
       ·rw [if_pos hj,hat,fo,K7];by_cases hq:off<=j - i*z/\j - i*z < off+as.length
        ·rw [if_pos hq,if_pos (by omega)];congr 1;omega
        ·rw [if_neg hq,if_neg (by omega),if_pos (by omega)];congr 1;omega
       ·rw [if_neg hj,if_neg (by omega)]
     ·cases hp
   ·cases hk
  ·rename_i K s io iz ver hole es hv;split at hk;rotate_left
   ·cases hk
   rename_i hK;rw [Lq] at hK;subst hK;obtain⟨z',hz',hs⟩:=hR.heap K _ hv;rw [hO] at hz';cases hz';obtain⟨rfl,rfl,rfl,rfl,p1,p2,p3,cells,hH,hb,hG⟩:=Bb hs;obtain⟨_,hv1,hv0,hv2,hv3⟩:=hR.dO K _ _ hv hO;split at hk
   ·rename_i t;split at hk;rotate_left
    ·cases hk
    rename_i hap;obtain⟨es',hp,hk⟩:=hk;have hp0:=hp;unfold jg at hp0;split at hp0
    ·cases hp0
    split at hp0;rotate_left
    ·cases hp0
    rename_i hp';obtain⟨_,xs,_,_,hxs,_⟩:=bx hp';obtain⟨as,h1,h2⟩:=eU hR.one hy rfl hxs;obtain⟨hn,hlen,cells',h3,hb',hG'⟩:=FN p2 hb hG hap hp h2;have hid:cC A (.gn K z io iz ver hole es) (.ref id gg b z es.length es.length false) id:=.inl rfl;obtain⟨g1,g2⟩:=lu (o:=.gn K z io iz ver hole es') (ob:=.row gg cells') hR hv hO hid ⟨p1,p2,p3,.inr ⟨id,gg,b,cells',by rw [hlen],by rw [Map.au,if_pos rfl],hb',hG'.mono (fun j x h=>h) (fun j x id' hn' hx hi=>by rw [Map.au,if_neg];rintro rfl;exact hv3 j x id' hn' hx hi rfl)⟩⟩ (fun id hi=>hi) (fun hvk=>⟨rfl,hv1,fun j x hx=>by rw [hlen];exact hv0 j x hx,hv2,hv3⟩)
    exact⟨_,_,_,jY he h1 hn hH h3,st.env,rfl,_,A,g1,g2,Ext.uy _ (gm.DA hv (LB _)),hk⟩
   ·rename_i N;split at hk;rotate_left
    ·cases hk
    rename_i hsz;simp only [Lm,Lq,Lp] at hsz;obtain⟨rfl,rfl,hNK⟩:=hsz;have hNK:N≠K:=by rintro rfl;simp at hNK
    split at hk;rotate_left
    ·cases hk
    rename_i z' l hN;split at hk;rotate_left
    ·cases hk
    rename_i hz';rw [Lq] at hz';subst hz';have hho:(hole=none\/hole=some i)/\∃es',jg es i off 1 (.l l)=some es'/\k (aW (bk V N) K (.gn K z off z' (ver+1) none es')):=by
     unfold Dl at hk;split at hk
     ·exact⟨.inl rfl,hk⟩
     ·obtain⟨rfl,hk⟩:=hk;exact⟨.inr rfl,hk⟩
    clear hk;obtain⟨hho,es',hp,hk⟩:=hho;have hyN:A N=some (ev st.env x):=by cases hy;assumption
    obtain⟨cells',h3,g1,g2,g3⟩:=Ex hR hv hO hH hb hG p1 p2 p3 hN hyN hNK hho hp;have hone:=hR.one _ _ hyN;have hcs:(ev st.env x).cells?=some [ev st.env x]:=by cases hq:ev st.env x<;>rw [hq] at hone<;>first|rfl|cases hone
    exact⟨_,_,_,jY he hcs rfl hH h3,st.env,rfl,_,_,g1,g2,g3,hk⟩
   ·cases hk
  ·cases hk
 ·rename_i O v i j off id gg b z len cap ex hA;obtain⟨s,io,iz,es,ho,hk⟩:=bX hk;split at hk;rotate_left
  ·cases hk
  rename_i t;obtain⟨l,hl,l',hp,es',hp2,hk⟩:=hk;obtain⟨a0,ha0,hs⟩:=hR.heap O _ ho;obtain⟨_,hv1,hv0,hv2,hv3⟩:=hR.dO O _ _ ho ha0;have hsl:=mT hs hl (by simp) hA;obtain rfl:=zu hsl;have hp0:=hp;unfold jg at hp0;split at hp0
  ·cases hp0
  split at hp0;rotate_left
  ·cases hp0
  rename_i hp';obtain⟨_,xs,_,_,hxs,_⟩:=bx hp';obtain⟨as,h1,h2⟩:=eU hR.one hy rfl hxs;obtain⟨hn,cells,cells',hH,h3,qzb⟩:=E4 hsl hp h2;have hid:cC A (.gn O s io z v none es) a0 id:=.inr ⟨i,_,by simp,hA,rfl⟩;have hne:∀q y id',q≠i->A (.i O v q)=some y->bJ y=some id'->(st.H.put (some (.row gg cells')) id).get id'=st.H.get id':=fun q y id' hq hqy hi=>by rw [Map.au,if_neg];rintro rfl;exact hq (hv2 q i y _ id' (by simp) (by simp) hqy hA hi rfl)
  obtain⟨q1,q2,q3,hs⟩:=hs;rcases hs with ⟨rfl,_⟩|⟨id0,g0,b0,qzC,rfl,hH0,hb0,hG⟩
  ·obtain⟨e,he',_⟩:=uM hl;simp at he'
  ·obtain⟨hlen,hG'⟩:=Eh (id:=id) (g:=gg) (b:=b) hG hl hp2 hA qzb hne;obtain⟨g1,g2⟩:=lu (o:=.gn O s io z v none es') (ob:=.row gg cells') hR ho ha0 hid ⟨q1,q2,q3,.inr ⟨id0,g0,b0,qzC,by rw [hlen],by
     rw [Map.au,if_neg]
     ·exact hH0
     ·rintro rfl;exact hv3 i _ _ (by simp) hA rfl rfl,hb0,hG'⟩⟩ (fun id hi=>hi) (fun hvk=>⟨rfl,hv1,fun j x hx=>by rw [hlen];exact hv0 j x hx,hv2,hv3⟩)
   exact⟨_,_,_,jY he h1 hn hH h3,st.env,rfl,_,A,g1,g2,Ext.uy _ (gm.DA ho (LB _)),hk⟩
end
end Go.Ax.V
namespace Go.Ax.V
section
variable {prog:Map aq} {cf:eC} {nt:Nat} {A:aS} {V:ay} {st:St} {d:Option Nat} {g:G} {k:ay->Prop}
theorem jw {a:AV} (h:a.flat=true) (d:Nat) (H:aE):bf (d+1) H a=[]:=by cases a<;>first|rfl|cases h
theorem rG {cs:List AV} (h:∀x∈cs,AV.flat x=true) (d:Nat) (H:aE):cs.flatMap (bf (d+1) H)=[]:=by rw [List.flatMap_eq_nil_iff];exact fun x hx=>jw (h x hx) d H
theorem o9 {a:AV} (h:a.dP=true) (d:Nat) (H:aE):bf (d+2) H a=[]:=by
 rcases qD h with h|⟨cs,rfl,h'⟩
 ·exact jw h (d+1) H
 ·rw [rJ,rG h']
theorem j8 {a:AV} (h:a.plain=true) (d:Nat) (H:aE):bf (d+3) H a=[]:=by
 rcases uh h with h|⟨cs,rfl,h'⟩
 ·exact o9 h (d+1) H
 ·rw [rI,List.flatMap_eq_nil_iff];exact fun x hx=>o9 (h' x hx) d H
theorem A9 {H:aE} {sz:Nat} {es:List TV} {a:AV} (h:nR H sz es a) (d:Nat):∀id∈bf (d+2) H a,bJ a=some id:=by
 obtain⟨hz,h⟩:=h;rcases h with ⟨rfl,rfl|rfl⟩|⟨id,g,b,cells,rfl,hH,hb,he⟩
 ·intro id hi;cases hi
 ·intro id hi;cases hi
 ·intro id' hi;have hl:cells.length=b+es.length*sz:=by have:=he.len;rw [Lb] at this;omega
  have hc:cut cells b (Nat.mul es.length sz)=some (cells.drop b):=by rw [b8,if_pos (by show b+es.length*sz<=_;omega),Lx];rw [Lb];show _<=es.length*sz;omega
  rw [mS,hH] at hi;simp only [hc,rG he.flat] at hi;simp at hi;subst hi;rfl
structure Sub (V V':ay):Prop where
 env:V'.env=V.env
 us:V'.us=V.us
 H:∀O o,V'.H.get O=some o->V.H.get O=some o
theorem Sub.refl (V:ay):Sub V V:=⟨rfl,rfl,fun _ _ h=>h⟩
theorem Sub.trans {V V1 V2:ay} (h:Sub V V1) (h':Sub V1 V2):Sub V V2:=⟨h'.env.trans h.env,h'.us.trans h.us,fun O o hh=>h.H O o (h'.H O o hh)⟩
theorem Sub.own {V V':ay} (h:Sub V V') {A:aS} {id:Nat} (ho:bN V' A id):bN V A id:=let ⟨O,o,a,h1,h2,h3⟩:=ho;⟨O,o,a,h.H _ _ h1,h2,h3⟩
theorem Sub.r {V V':ay} (h:Sub V V') {A:aS} {st:St} (hR:R A V st):R A V' st:=hR.sub h.env h.us h.H
theorem Sub.ev {V V':ay} (h:Sub V V'):gm V V':=gm.EJ h.us h.H
theorem Ext.sub {V V1 V':ay} {A A':aS} (h:Ext V1 A V' A') (hs:Sub V V1):Ext V A V' A':=(Ext.uy A hs.ev).trans h
theorem bh (V:ay) (O:Nat):Sub V (bk V O):=⟨rfl,rfl,fun _ _ h=>(cN h).2⟩
theorem kO (V:ay) (w:VV):Sub V (iU V w):=by cases w<;>first|exact bh V _|exact Sub.refl V
theorem gv:∀(l:List (Nat×VV)) (V:ay),Sub V (iV V l)
 |[],V=>Sub.refl V
 |(_,w)::r,V=>(kO V w).trans (gv r _)
theorem cz {V:ay} {A:aS} {st:St} (hR:R A V st) {O:Nat} {o:VO} {a:AV} {id:Nat} (hV:V.H.get O=some o) (hA:A O=some a) (hi:cC A o a id):¬bN (bk V O) A id:=by rintro⟨O',o',a',h1,h2,h3⟩;obtain⟨hne,h1'⟩:=cN h1;exact hne (hR.inj O' O _ _ a' a id h1' hV h2 hA h3 hi)
theorem fP {j:Nat} {w:VV}:∀{l:List (Nat×VV)},a_ j l=some w->(j,w)∈l
 |[],h=>by cases h
 |(i,w')::r,h=>by
  rw [aT] at h;split at h
  ·rename_i e;subst e;cases h;exact Lf
  ·exact Lg _ (fP h)
theorem uT:∀{l:List (Nat×VV)} {V:ay} {O:Nat} {j:Nat},(j,VV.sl O)∈l->(iV V l).H.get O=none
 |(i,w)::r,V,O,j,h=>by
  have keep:∀{V:ay},V.H.get O=none->(iV V r).H.get O=none:=fun {V} hn=>by
   cases hh:(iV V r).H.get O with
   |none=>rfl
   |some o=>have:=(gv r V).H O o hh;rw [hn] at this;cases this
  rcases Lh.1 h with h|h
  ·cases h;exact keep (by show (V.H.put none O).get O=none;rw [Map.au,if_pos rfl])
  ·exact uT (l:=r) (V:=iU V w) h
theorem Ba {V V':ay} {A:aS} {st:St} (hR:R A V st) (hs:Sub V V') {O:Nat} {o:VO} {a:AV} {id:Nat} (hV:V.H.get O=some o) (hA:A O=some a) (hi:cC A o a id) (hg:V'.H.get O=none):¬bN V' A id:=by rintro⟨O',o',a',h1,h2,h3⟩;have:=hR.inj O' O _ _ a' a id (hs.H _ _ h1) hV h2 hA h3 hi;subst this;rw [hg] at h1;cases h1
def DI (fz:Bool) (st:St) (x:aD):AV:=match fz with
 |true=>kY st.H (ev st.env) x
 |false=>ev st.env x
theorem n4 {st:St} {x:aD} {a':AV} (h:aL deep st.H (ev st.env x)=some a'):kY st.H (ev st.env) x=a':=by simp only [kY,h]
theorem iE {n:Nat} {t:TV} (h:ld n t):∃l,br t=some l/\l.length=n:=by
 unfold ld at h;split at h
 ·rename_i l hl;exact⟨l,hl,h⟩
 ·cases h
def Whole (o:VO):Prop:=(∃z es,o=.gr z es)\/∃K s io iz ver es,o=.gn K s io iz ver none es
theorem sF {V:ay} {O:Nat} {k:List TV->Prop} (h:nJ V (.sl O) k):∃o,V.H.get O=some o/\Whole o/\∃es,k es/\(∀{A:aS} {H:aE} {a:AV} (d:Nat),OR A H o a->∃a',aL (d+3) H a=some a'/\Can (.l es) a'/\a'.flat=true/\(a.plain=true->a'=a)):=by
 simp only [nJ] at h;split at h
 ·rename_i z es ho;exact⟨_,ho,.inl ⟨z,es,rfl⟩,es,h,fun d hor=>let ⟨a',h1,h2,h3,h4,_⟩:=sE hor (d+1);⟨a',h1,h2,h3,h4⟩⟩
 ·rename_i K s io iz ver es ho;exact⟨_,ho,.inr ⟨_,_,_,_,_,_,rfl⟩,es,h,fun d hor=>Bc hor d⟩
 ·cases h
theorem j7 {A:aS} {H:aE} {o:VO} {a:AV} (hw:Whole o) (h:OR A H o a) (d:Nat):∀id∈bf (d+3) H a,cC A o a id:=by
 rcases hw with ⟨z,es,rfl⟩|⟨K,s,io,iz,ver,es,rfl⟩
 ·exact fun id hi=>.inl (A9 h (d+1) id hi)
 ·obtain⟨hs,hio,hiz,h⟩:=h;rcases h with ⟨rfl,rfl|rfl⟩|⟨id,g,b,cells,rfl,hH,hb,he⟩
  ·intro id hi;cases hi
  ·intro id hi;cases hi
  ·intro id' hi;have hl:cells.length=b+es.length*s:=by have:=he.len;rw [Lb] at this;omega
   have hc:cut cells b (Nat.mul es.length s)=some (cells.drop b):=by rw [b8,if_pos (by show b+es.length*s<=_;omega),Lx];rw [Lb];show _<=es.length*s;omega
   rw [mS,hH] at hi;simp only [hc] at hi;rcases Lh.1 hi with rfl|hi
   ·exact .inl rfl
   obtain⟨x,hx,hi⟩:=List.mem_flatMap.1 hi;obtain⟨q,hq⟩:=List.getElem?_of_mem hx;have hlt:q < es.length*s:=by have:=(KY.1 hq).1;rw [he.len] at this;exact this
   have hj:q / s < es.length:=(Nat.div_lt_iff_lt_mul hs).2 hlt;have hqe:q=q / s*s+q % s:=by rw [Nat.mul_comm];exact(Nat.div_add_mod q s).symm
   obtain⟨ts,g1,g2,g3,x',g4,g5,g6⟩:=he.el (q / s) _ (KX hj);have ho:q % s < ts.length:=by rw [g2];exact Nat.mod_lt _ hs
   by_cases hoo:q % s=io
   ·obtain⟨l,g7,g8⟩:=g6 (by simp);rw [hqe,hoo,g4] at hq;cases hq;exact .inr ⟨q / s,x,by simp,g5,A9 g8 d id' hi⟩
   ·obtain⟨p1,p2⟩:=g3 (q % s) _ x hoo (KX ho) (by rw [←hqe];exact hq);have hh:bf (d+2) H x=[]:=jw p2 (d+1) H;rw [hh] at hi;cases hi
theorem kJ {V:ay}:∀{l:List (Nat×VV)} {v:TV} {k:TV->Prop},qd V l v k->∀j O,(j,VV.sl O)∈l->∃o,V.H.get O=some o/\Whole o
 |[],v,k,h,j,O,hm=>by cases hm
 |(off,w)::r,v,k,h,j,O,hm=>by
  have ex:∀{l:List (Nat×VV)} {v:TV} {k:TV->Prop},qd V l v k->∃u,k u:=by
   intro l
   induction l with
   |nil=>intro v k h;exact⟨v,h⟩
   |cons p l ih=>intro v k h;obtain⟨off,w⟩:=p;obtain⟨u,hu⟩:=ih h;obtain⟨es,u',_,hk⟩:=lp hu;exact⟨u',hk⟩
  rcases Lh.1 hm with hm|hm
  ·cases hm;obtain⟨u,hu⟩:∃u,nJ V (.sl O) (fun es=>∃u',dG u off 1 (.l es)=some u'/\k u'):=ex (l:=r) h;obtain⟨o,h1,h2,_⟩:=sF hu;exact⟨o,h1,h2⟩
  ·exact kJ (l:=r) h j O hm
theorem oL:∀{l:List (Nat×VV)},Ct l=true->∀j O v i,(j,VV.ow O v i) ∉ l
 |[],h,j,O,v,i,hm=>by cases hm
 |(j',w)::r,h,j,O,v,i,hm=>by
  rcases Lh.1 hm with h1|h1
  ·cases h1;cases h
  ·clear hm;cases w<;>first|(cases h;done)|exact oL (l:=r) h j O v i h1
structure G1 (A:aS) (st:St) (fz:Bool) (sz:Nat) (V:ay) (j:Nat) (parts:List (Nat×Nat×aD)) (ts:List TV) (V':ay):Prop where
 sub:Sub V V'
 len:ts.length=parts.length
 fill:∀cells:List AV,(j+parts.length)*sz<=cells.length->∃cells',fill (DI fz st) parts cells=some cells'/\cells'.length=cells.length/\(∀q,q < j*sz->cells'[q]?=cells[q]?)/\
  (∀q,(j+parts.length)*sz<=q->cells'[q]?=cells[q]?)/\(∀q x,j*sz<=q->q < (j+parts.length)*sz->cells'[q]?=some x->x.flat=true)/\∀i t,ts[i]?=some t->jS t ((cells'.drop ((j+i)*sz)).take sz)
 bO:fz=true->∃l,ck (aL deep st.H) (parts.map fun p=>ev st.env p.2.2)=some l
 ids:fz=true->∀id∈(parts.map fun p=>ev st.env p.2.2).flatMap (bf deep st.H),bN V A id/\¬bN V' A id
theorem pH {fz:Bool} {sz j off n:Nat} {x:aD} {r:List (Nat×Nat×aD)} {V V1 V':ay} {t:TV} {ts:List TV} {a':AV} {l:List TV} {as:List AV} (hoff:off=j*sz) (hn:n=sz)
  (qzP:DI fz st x=a') (hc:br t=some l) (hl:l.length=n) (has:a'.cells?=some as) (hca:y6 l as) (hs:Sub V V1) (him:fz=true->aL deep st.H (ev st.env x)=some a')
  (hid:fz=true->∀id∈bf deep st.H (ev st.env x),bN V A id/\¬bN V1 A id) (h:G1 A st fz sz V1 (j+1) r ts V'):G1 A st fz sz V j ((off,n,x)::r) (t::ts) V':=by
 subst hoff;subst hn;refine⟨hs.trans h.sub,by simp [h.len],fun cells hcl=>?_,fun hf=>?_,fun hf id qxs=>?_⟩
 ·rw [Ld] at hcl;have hal:as.length=n:=by rw [←hca.1.1];exact hl
  have hj1:(j+1)*n=j*n+n:=by rw [Nat.add_mul,Nat.one_mul]
  have hj2:(j+1+r.length)*n=(j+(r.length+1))*n:=by congr 1;omega
  have hle:(j+1)*n<=(j+(r.length+1))*n:=Nat.mul_le_mul_right n (by omega);have hov:cj cells (j*n) as=some (cells.take (j*n)++as++cells.drop (j*n+as.length)):=by rw [eR,if_pos (by omega)]
  obtain⟨ho1,ho2⟩:=cT hov;obtain⟨cells',g1,g2,g3,g4,gf,g5⟩:=h.fill _ (by rw [ho1];omega);refine⟨cells',?_,by rw [g2,ho1],fun q hq=>?_,fun q hq=>?_,fun q y hq1 hq2 hy=>?_,fun i u hu=>?_⟩
  ·rw [iP];simp only [qzP,has,cond_eq_ite,Lq,if_pos hal,hov,g1]
  ·rw [g3 q (by omega),ho2,if_neg (by omega)]
  ·rw [Ld] at hq;rw [g4 q (by omega),ho2,if_neg (by omega)]
  ·rw [Ld] at hq2;by_cases hq:q < (j+1)*n
   ·rw [g3 q hq,ho2,if_pos (by omega)] at hy;exact hca.2 y (K8 hy)
   ·exact gf q y (by omega) (by omega) hy
  ·cases i with
   |zero=>
    simp at hu;subst hu;have:(cells'.drop (j*n)).take n=as:=by
     apply List.ext_getElem?;intro q;rw [fo];by_cases hq:q < n
     ·rw [if_pos hq,g3 _ (by omega),ho2,if_pos (by omega)];congr 1;omega
     ·rw [if_neg hq];exact(List.getElem?_eq_none_iff.2 (by omega)).symm
    rw [Nat.add_zero,this];exact cY.2 ⟨l,hc,hca.1⟩
   |succ i=>have:=g5 i u (by simpa using hu);rwa [show j+1+i=j+(i+1) by omega] at this
 ·obtain⟨l',hl'⟩:=h.bO hf;exact⟨a'::l',by rw [List.map_cons,b6];simp only [him hf,hl']⟩
 ·rw [List.map_cons,List.flatMap_cons,Li] at qxs;rcases qxs with hi|hi
  ·obtain⟨h1,h2⟩:=hid hf id hi;exact⟨h1,fun ho=>h2 (h.sub.own ho)⟩
  ·obtain⟨h1,h2⟩:=h.ids hf id hi;exact⟨hs.own h1,h2⟩
theorem fZ {fz:Bool} {sz:Nat}:∀(parts:List (Nat×Nat×aD)) (j:Nat) (V:ay) (k:List TV->ay->Prop),R A V st->f_ V none fz sz j parts k->∃ts V',k ts V'/\G1 A st fz sz V j parts ts V'
 |[],j,V,k,hR,hk=>⟨[],V,hk,⟨Sub.refl V,rfl,fun cells _=>⟨cells,rfl,rfl,fun _ _=>rfl,fun _ _=>rfl,fun q x h1 h2=>by simp at h2;omega,fun i t hi=>by simp at hi⟩,fun _=>⟨[],rfl⟩,fun _ id hi=>by simp at hi⟩⟩
 |(off,n,x)::r,j,V,k,hR,hk=>by
  obtain⟨h1,hk⟩:=hk;rw [Lm,Lq,Lq] at h1;obtain⟨hoff,hn⟩:=h1;obtain⟨w,hw,hq⟩:=bq (g:=none) hR trivial hk;clear hk;have tree:∀{t:TV} {k':List TV->ay->Prop},Can t (ev st.env x)->ld n t->f_ V none fz sz (j+1) r k'->(∀ts V',k' ts V'->k (t::ts) V')->∃ts V',k ts V'/\G1 A st fz sz V j ((off,n,x)::r) ts V':=by
   intro t k' hc hs hk hkk;obtain⟨l,hl1,hl2⟩:=iE hs;obtain⟨as,h1,h2⟩:=m7 hc hl1;obtain⟨ts,V',g1,g2⟩:=fZ r (j+1) V k' hR hk;have him:aL deep st.H (ev st.env x)=some (ev st.env x):=fE (eK hc) 27 _;refine⟨t::ts,V',hkk _ _ g1,pH hoff hn ?_ hl1 hl2 h1 h2 (Sub.refl V) (fun _=>him) (fun _ id hi=>?_) g2⟩
   ·cases fz with
    |true=>exact n4 him
    |false=>rfl
   ·have hh:bf deep st.H (ev st.env x)=[]:=j8 (eK hc) 27 _;rw [hh] at hi;cases hi
  generalize he:ev st.env x=a at hw;cases hw with
  |tr hc=>exact tree (he▸hc) hq.1 hq.2 (fun _ _ h=>h)
  |bE=>exact tree (he▸Can.nil) (by rw [hq.1];rfl) hq.2 (fun _ _ h=>h)
  |iN=>exact tree (he▸eo) (by rw [hq.1];rfl) hq.2 (fun _ _ h=>h)
  |@sl O _ hO=>obtain⟨rfl,rfl,hk⟩:=hq;obtain⟨ob,ho,hwh,es,hk,him⟩:=sF hk;obtain⟨y,hy,hs⟩:=hR.heap O _ ho;rw [hO] at hy;cases hy;obtain⟨a',g1,g2,g3,g4⟩:=him 27 hs;have hsub:Sub V (iU V (.sl O)):=kO V _;obtain⟨ts,V',g6,g7⟩:=fZ r (j+1) _ _ (hsub.r hR) hk;obtain⟨as,p1,p2⟩:=m7 (t:=.l es) g2 rfl;refine⟨_,V',g6,pH hoff hn (n4 (by rw [he];exact g1)) rfl rfl p1 p2 hsub (fun _=>by rw [he];exact g1) (fun _ id hi=>?_) g7⟩;rw [he] at hi;have hid:=j7 hwh hs 27 id hi;exact⟨⟨O,_,a,ho,hO,hid⟩,cz hR ho hO hid⟩
  |@st t o cs tl hv hc=>
   obtain⟨hfz,hk⟩:=hq;rw [Lm] at hfz;obtain⟨rfl,qzk⟩:=hfz;have qxz:=kJ hk;obtain⟨u,us,cs',h1,h2,h3,⟨hs,hk⟩,h5,h6⟩:=m6 hR hc hk 26;obtain⟨l',rfl⟩:=h5 _ hv;cases h2;have hsub:Sub V (iV V o):=gv o V;obtain⟨ts,V',g6,g7⟩:=fZ r (j+1) _ _ (hsub.r hR) hk;have him:aL deep st.H (ev st.env x)=some (.agg cs'):=by rw [he];show aL (29+1) _ _=_;rw [dV,h1]
   refine⟨_,V',g6,pH hoff hn (n4 him) rfl hs rfl h3 hsub (fun _=>him) (fun _ id hi=>?_) g7⟩;rw [he] at hi;have hi':id∈cs.flatMap (bf 29 st.H):=hi;obtain⟨y,hy,hi'⟩:=List.mem_flatMap.1 hi';obtain⟨q,hq⟩:=List.getElem?_of_mem hy;have hlt:q < tl.length:=by rw [hc.len];exact(KY.1 hq).1
   have hat:=hc.at_ q _ y (KX hlt) hq;cases ho:a_ q o with
   |none=>rw [ho] at hat;have hh:bf 29 st.H y=[]:=jw hat.2 28 _;rw [hh] at hi';cases hi'
   |some w=>
    rw [ho] at hat;cases w<;>first|(exact absurd hat (by intro hh;exact hh))|skip
    ·rcases hat with e|e<;>(rw [e] at hi';cases hi')
    ·rename_i O;have hO:A O=some y:=hat;obtain⟨ob,hO',hwh⟩:=qxz q O (fP ho);obtain⟨y',hy',hs'⟩:=hR.heap O _ hO';rw [hO] at hy';cases hy';have qjc:=j7 hwh hs' 26 id hi';exact⟨⟨O,_,y,hO',hO,qjc⟩,Ba hR hsub hO' hO qjc (uT (fP ho))⟩
    ·exact absurd (fP ho) (oL qzk _ _ _ _)
  |_=>cases hq
end
end Go.Ax.V
namespace Go.Ax.V
section
variable {prog:Map aq} {cf:eC} {nt:Nat} {A:aS} {V:ay} {st:St} {d:Option Nat} {g:G} {k:ay->Prop}
theorem cx {n:Nat} {p:Prop} (h:pos n p):0 < n/\p:=by
 unfold pos at h;rw [cond_eq_ite] at h;split at h
 ·rename_i hh;exact⟨by simpa using hh,h⟩
 ·cases h
theorem aO {a b:Nat} {p:Prop} (h:same a b p):a=b/\p:=by
 unfold same at h;rw [cond_eq_ite] at h;split at h
 ·rename_i hh;exact⟨by simpa using hh,h⟩
 ·cases h
theorem ga:∀(l:List Nat) (H:aE) (id:Nat),(drop H l).get id=if id∈l then none else H.get id
 |[],H,id=>by simp [drop]
 |i::l,H,id=>by
  rw [drop,ga l,Map.au];by_cases h:id∈l
  ·rw [if_pos h,if_pos (Lg _ h)]
  ·rw [if_neg h];by_cases e:id=i
   ·rw [if_pos e,if_pos (by rw [e];exact Lf)]
   ·rw [if_neg e,if_neg (by intro hh;rcases Lh.1 hh with hh|hh;exact e hh;exact h hh)]
theorem rz {fz:Bool} {sz:Nat} {parts:List (Nat×Nat×aD)} {ts:List TV} {V':ay} (h:G1 A st fz sz V 0 parts ts V') {zero:List AV} (hl:ts.length*sz=zero.length) :
  ∃cs,fill (DI fz st) parts zero=some cs/\tD sz ts cs:=by
 have hlen:=h.len;obtain⟨cs,g1,g2,g3,g4,gf,g5⟩:=h.fill zero (by rw [Nat.zero_add,←h.len,hl];exact LB _);refine⟨cs,g1,by rw [g2,hl],fun x hx=>?_,fun j e hj=>by have:=g5 j e hj;rwa [Nat.zero_add] at this⟩;obtain⟨q,hq⟩:=List.getElem?_of_mem hx;have:=(KY.1 hq).1;exact gf q x (by omega) (by rw [Nat.zero_add,←h.len,hl,←g2];exact this) hq
theorem AB (hR:R A V st) {es len:Nat} {zero:List AV} {parts:List (Nat×Nat×aD)} (h:pos es (f_ V none false es 0 parts fun ts V'=>same ts.length len (same zero.length (ts.length*es) (ff nt V' d none .sl (.gr es ts) k)))):bt cf nt A V st d (.dS es len zero parts) k:=by
 obtain⟨hz,h⟩:=cx h;obtain⟨ts,V',hk,hE⟩:=fZ parts 0 V _ hR h;obtain⟨hl,hk⟩:=aO hk;obtain⟨hl2,hk⟩:=aO hk;obtain⟨cs,h1,h2⟩:=rz hE (zero:=zero) hl2.symm;have hfr:=fU (A:=A) (V:=V') (st:=st) (a:=.ref st.nx 0 0 es ts.length ts.length false) (v:=.ref st.nx 0 0 es ts.length ts.length false) (ob:=.row 0 cs) (hE.sub.r hR) hk
  (fun A' hA=>⟨hz,.inr ⟨_,_,_,cs,rfl,by rw [Map.au,if_pos rfl],LA _,by simpa using h2⟩⟩) rfl rfl (fun A' O hO=>.sl hO)
 obtain⟨e',p1,V2,A2,p2,p3,p4⟩:=hfr;refine nT (f:=fun id=>.ref id 0 0 es len len false) (ob:=.row 0 cs) rfl (by have this:fill (ev st.env) parts zero=some cs:=h1;simp only [gF,this]) ⟨e',by rw [←hl];exact p1,V2,A2,p2,⟨p3.le,fun id hid hn=>p3.same id hid (fun ho=>hn (hE.sub.own ho)),fun id ho=>(p3.own id ho).imp hE.sub.own (fun x=>x)⟩,p4.1.sub hE.sub,p4.2⟩
theorem yd {l:List AV} {f:AV->Bool} (h:∀x∈l,f x=true):bn f l=true:=aF.2 h
theorem Ay (hR:R A V st) {fz:Bool} {len:Nat} {zero:List AV} {parts:List (Nat×Nat×aD)} {gd:Option (Nat×Bool)} (h:xY nt V d none fz len zero parts k) :
  ∃v H' nx',ja cf ⟨d,.aK len zero parts,gd,fz⟩ (ev st.env) st.H st.nx=some (v,H',nx')/\Next nt A V st d v H' nx' k:=by
 unfold xY at h;simp only at h;split at h
 ·split at h<;>first|(cases h;done)|skip
  split at h<;>first|(cases h;done)|skip
  split at h<;>first|(cases h;done)|skip
  exact⟨.bO [] 0 (some 0),st.H,st.nx,rfl,av hR (fun _=>.iN) h⟩
 ·rename_i n;obtain⟨hz,h⟩:=cx h;obtain⟨hm,h⟩:=aO h;obtain⟨ts,V',hk,hE⟩:=fZ parts 0 V _ hR h;obtain⟨hl,hk⟩:=aO hk;obtain⟨cs,h1,h2⟩:=rz hE (zero:=zero) (by rw [hl,Nat.mul_comm];exact hm);have hcan:Can (.l ts) (.bO cs (n+1) (some (n+1))):=by have:=tf hz h2 (some (n+1));rwa [hl] at this
  cases fz with
  |false=>refine⟨.bO cs (n+1) (some (n+1)),st.H,st.nx,?_,hU (hE.sub.r hR) (Fr.EJ fun O o hh=>hE.sub.H O o hh) (Ext.uy _ hE.sub.ev) (fun _=>.tr hcan) hk⟩;have h1':fill (ev st.env) parts zero=some cs:=h1;simp only [ja,eu,kind,cF,h1',yd h2.flat,cond_true,cond_false,bD]
  |true=>
   obtain⟨l,hl'⟩:=hE.bO rfl;have qxi:=hE.ids rfl;have h1':fill (kY st.H (ev st.env)) parts zero=some cs:=h1;have qq9:=ga ((parts.map fun p=>ev st.env p.2.2).flatMap (bf deep st.H)) st.H;refine⟨.bO cs (n+1) (some (n+1)),drop st.H ((parts.map fun p=>ev st.env p.2.2).flatMap (bf deep st.H)),st.nx,?_,hU (A1:=A) (V1:=V') ⟨(hE.sub.r hR).env,fun O o ho=>?_,(hE.sub.r hR).inj,(hE.sub.r hR).used,hR.one,fun id o ho=>?_,(hE.sub.r hR).dO⟩ ⟨LB _,fun id _ hn=>?_,fun id ho=>.inl (hE.sub.own ho)⟩ (Ext.uy _ hE.sub.ev) (fun _=>.tr hcan) hk⟩
   ·simp only [ja,hl',cF,h1',yd h2.flat,cond_true]
   ·obtain⟨a,ha,hor⟩:=(hE.sub.r hR).heap O o ho;refine⟨a,ha,hor.mono (fun _ _ h=>h) (fun id hi=>?_)⟩;show (drop st.H _).get id=st.H.get id;rw [qq9,if_neg];exact fun hm=>(qxi id hm).2 ⟨O,o,a,ho,ha,hi⟩
   ·have ho':(drop st.H _).get id=some o:=ho;rw [qq9] at ho';split at ho'
    ·cases ho'
    ·exact hR.fresh id o ho'
   ·rw [qq9,if_neg];exact fun hm=>hn (qxi id hm).1
theorem Ek {s io n:Nat} {a:AV} {as:List AV} {t u:TV} {ts:List TV} {o:Nat} {ovs:List (Nat×VV)} (hc:aN A t ovs as ts) (hl:ts.length=s) (hio:io < s) (hov:∀j,a_ j ovs=if j=io then some .bE else none) (hp:dG t io 1 (.l [])=some u):VR A (.gl s io [u]) (.bO as 1 (some 1)):=by
 obtain⟨ts',xs,us,p1,p2,p3,p4,p5,p6,p7⟩:=bx hp;have:=hc.cells.symm.trans p1;cases this;cases p2;have hla:as.length=s:=by rw [←hc.len];exact hl
 refine VR.gl (es:=[u]) (by omega) hio (by simp [hla]) (fun x hx=>?_) (fun j e he=>?_)
 ·obtain⟨q,hq⟩:=List.getElem?_of_mem hx;have hlt:q < ts.length:=by rw [hc.len];exact(KY.1 hq).1
  have:=hc.at_ q _ x (KX hlt) hq;rw [hov] at this;split at this
  ·rcases this with rfl|rfl<;>rfl
  ·exact this.2
 ·cases j with
  |succ j=>simp at he
  |zero=>
   simp at he;subst he;refine⟨us,p4,by rw [p5,hl],fun o t z hne ht hz=>?_,?_,fun x hx=>?_⟩
   ·rw [Nat.zero_mul,Nat.zero_add] at hz;rw [p7,if_neg (by omega)] at ht;have:=hc.at_ o t z ht hz;rw [hov,if_neg hne] at this;exact this.1
   ·rw [p7,if_pos (by omega),Nat.sub_self];rfl
   ·rw [Nat.zero_mul,Nat.zero_add] at hx;have hlt:io < ts.length:=by omega
    have:=hc.at_ io _ x (KX hlt) hx;rw [hov,if_pos rfl] at this;exact this
theorem uZ {ρ:aD->AV} {n:Nat} {x:aD} {zero as:List AV} (hc:(ρ x).cells?=some as) (hn:as.length=n) (hz:zero.length=n):fill ρ [(0,n,x)] zero=some as:=by
 rw [iP];simp only [hc,cond_eq_ite,Lq,if_pos hn];have:cj zero 0 as=some as:=by rw [eR,if_pos (by omega),List.take_zero,List.nil_append,Nat.zero_add,List.drop_of_length_le (by omega),List.append_nil]
 rw [this];rfl
theorem Az {sh:Sh} (hR:R A V st) {fz:Bool} {len:Nat} {zero:List AV} {parts:List (Nat×Nat×aD)} {gd:Option (Nat×Bool)} (h:nG sh nt V d none fz len zero parts k) :
  ∃v H' nx',ja cf ⟨d,.aK len zero parts,gd,fz⟩ (ev st.env) st.H st.nx=some (v,H',nx')/\Next nt A V st d v H' nx' k:=by
 unfold nG at h;split at h
 ·exact Ay hR h
 rename_i c hcc;simp only at h;split at h;rotate_left
 ·cases h
 rename_i off n x;split at h;rotate_left
 ·cases h
 rename_i hb;simp only [Lm,Lq] at hb;obtain⟨rfl,rfl,rfl,hz⟩:=hb;obtain⟨w,hw,hk⟩:=bq (g:=none) hR trivial h;have fin:∀{as:List AV},(ev st.env x).cells?=some as->as.length=yL c->(∀y∈as,AV.flat y=true)->Next nt A V st d (.bO as 1 (some 1)) st.H st.nx k->∃v H' nx',ja cf ⟨d,.aK 1 zero [(0,yL c,x)],gd,fz⟩ (ev st.env) st.H st.nx=some (v,H',nx')/\Next nt A V st d v H' nx' k:=by
  intro as h1 h2 h3 h4;have hfl:bn AV.flat as=true:=aF.2 h3;refine⟨.bO as 1 (some 1),st.H,st.nx,?_,h4⟩;cases fz with
  |false=>simp only [ja,eu,kind,cF,uZ h1 h2 hz,hfl,cond_true,cond_false,bD]
  |true=>
   have hpl:(ev st.env x).plain=true:=by
    cases hq:ev st.env x<;>rw [hq] at h1<;>first|(cases h1;done)|rfl|skip
    all_goals (cases h1;first|exact hfl|exact h3 _ Lf)
   have him:aL deep st.H (ev st.env x)=some (ev st.env x):=fE hpl 27 _;have qxi:bf deep st.H (ev st.env x)=[]:=j8 hpl 27 _;have qzP:(kY st.H (ev st.env) x)=ev st.env x:=n4 him;have hf2:fill (kY st.H (ev st.env)) [(0,yL c,x)] zero=some as:=uZ (by rw [qzP];exact h1) h2 hz;have hm:ck (aL deep st.H) [ev st.env x]=some [ev st.env x]:=by rw [b6,him];rfl
   simp only [ja,cond_true,List.map_cons,List.map_nil,hm,cF,hf2,hfl,List.flatMap_cons,List.flatMap_nil,qxi,List.append_nil];rfl
 unfold Eo at hk;split at hk
 ·split at hk;rotate_left
  ·cases hk
  rename_i hb;simp only [Lm,Lq] at hb;obtain⟨hs1,hi0⟩:=hb;have hw':ev st.env x=.ak\/ev st.env x=.bO [] 0 (some 0):=by
   generalize ev st.env x=p at hw;cases hw
   ·exact .inl rfl
   ·exact .inr rfl
  have hc1:(ev st.env x).cells?=some [ev st.env x]:=by rcases hw' with e|e<;>rw [e]<;>rfl
  refine fin hc1 (by rw [hs1];rfl) (fun y hy=>by rw [Lj] at hy;subst hy;rcases hw' with e|e<;>rw [e]<;>rfl) (av hR (fun _=>?_) hk);refine VR.gl (es:=[.l []]) (by omega) (by omega) rfl (fun y hy=>by rw [Lj] at hy;subst hy;rcases hw' with e|e<;>rw [e]<;>rfl) (fun j e he=>?_);cases j with
  |succ j=>simp at he
  |zero=>
   simp at he;subst he;refine⟨[.l []],rfl,rfl,fun o t z hne ht hz=>?_,rfl,fun y hy=>?_⟩
   ·cases o with
    |zero=>exact absurd rfl hne
    |succ o=>simp at ht
   ·simp at hy;subst hy;exact hw'
 ·rename_i t ovs;split at hk;rotate_left
  ·cases hk
  rename_i o;split at hk;rotate_left
  ·cases hk
  rename_i hb;simp only [Lm,Lq,Ls] at hb;obtain⟨rfl,hio⟩:=hb;obtain⟨hso,u,hp,hk⟩:=hk;generalize he:ev st.env x=p at hw fin;cases hw with
  |@st _ _ cs ts hv hc=>
   obtain⟨l,h1,h2⟩:=iE hso;have:=hc.cells.symm.trans h1;cases this;have hov:∀j,a_ j [(CB c,VV.bE)]=if j=CB c then some .bE else none:=fun j=>by
    rw [aT];by_cases e:CB c=j
    ·rw [if_pos e,if_pos e.symm]
    ·rw [if_neg e,if_neg (Ne.symm e)];rfl
   have hla:cs.length=yL c:=by rw [←hc.len];exact h2
   refine fin rfl hla (fun y hy=>?_) (av hR (fun _=>Ek (a:=.ak) (o:=0) (n:=0) hc h2 hio hov hp) hk);obtain⟨q,hq⟩:=List.getElem?_of_mem hy;have hlt:q < ts.length:=by rw [hc.len];exact(KY.1 hq).1
   have:=hc.at_ q _ y (KX hlt) hq;rw [hov] at this;split at this
   ·rcases this with rfl|rfl<;>rfl
   ·exact this.2
 ·cases hk
theorem Co (hR:R A V st) (ha:act g) {x:aD} (h:cS V g x fun w=>s6 nt V d g w k):bt cf nt A V st d (.gI x) k:=by
 obtain⟨w,hw,hk⟩:=bq hR ha h;generalize he:ev st.env x=p at hw;cases hw with
 |ptr h=>exact aI rfl (by simp only [fM,he]) (av hR (fun _=>.ptr h) hk)
 |pd h=>exact aI rfl (by simp only [fM,he]) (av hR (fun _=>.pd h) hk)
 |ea h=>exact aI rfl (by simp only [fM,he]) (av hR (fun _=>.ea h) hk)
 |pt hl hf h=>exact aI rfl (by simp only [fM,he]) (av hR (fun _=>.pt hl hf h) hk)
 |_=>cases hk
theorem EV {O i off off' id gg b sz len cap:Nat} {ex:Bool} (h:A O=some (.ref id gg b sz len cap ex)):VR A (.ea O i (off+off')) (.ptr id gg (Nat.add (b+i*sz+off) off')):=by have:=VR.ea (A:=A) (i:=i) (off:=off+off') h;rwa [←Nat.add_assoc] at this
theorem EW {O v i j off off' id gg b sz len cap:Nat} {ex:Bool} (h:A (.i O v i)=some (.ref id gg b sz len cap ex)):VR A (.e2 O v i j (off+off')) (.ptr id gg (Nat.add (b+j*sz+off) off')):=by have:=VR.e2 (A:=A) (k:=j) (off:=off+off') h;rwa [←Nat.add_assoc] at this
theorem C3 {v:TV} {cs:List AV} {b off off' n:Nat} (hl:b+n<=cs.length) (hf:∀x∈cs,AV.flat x=true) (h:jS v ((cs.drop b).take n)):VR A (.pt v (off+off')) (.ej cs (Nat.add (b+off) off')):=by have:=VR.pt (A:=A) (off:=off+off') hl hf h;rwa [←Nat.add_assoc] at this
theorem Cq (hR:R A V st) (ha:act g) {off:Nat} {x:aD} (h:cS V g x fun w=>s7 nt V d g off w k):bt cf nt A V st d (.fW off x) k:=by
 obtain⟨w,hw,hk⟩:=bq hR ha h;generalize he:ev st.env x=p at hw;cases hw with
 |ptr h=>exact aI rfl (by simp only [fe,he];rfl) (av hR (fun _=>.ptr h) hk)
 |pd h=>exact aI rfl (by simp only [fe,he];rfl) (av hR (fun _=>.pd h) hk)
 |ea h=>exact aI rfl (by simp only [fe,he]) (av hR (fun _=>EV h) hk)
 |pt hl hf h=>exact aI rfl (by simp only [fe,he]) (av hR (fun _=>C3 hl hf h) hk)
 |e2 h=>exact aI rfl (by simp only [fe,he]) (av hR (fun _=>EW h) hk)
 |_=>cases hk
theorem Fy (hR:R A V st) (ha:act g) {off:Nat} {sz:Option Nat} {x:aD} (h:cS V g x fun w=>u6 nt V d g off sz w k):bt cf nt A V st d (.yO off sz x) k:=by
 obtain⟨w,hw,hk⟩:=bq hR ha h;generalize he:ev st.env x=p at hw;have fin:∀{cs l:List AV} {v:AV},ev st.env x=.agg cs->cut cs off (bK sz)=some l->xB sz l=some v->Next nt A V st d v st.H st.nx k->bt cf nt A V st d (.yO off sz x) k:=
  fun h1 h2 h3 h4=>aI rfl (by simp only [uo,h1,h2,h3,cV]) h4
 cases hw with
 |@tr v _ hc=>
  obtain⟨r,h1,h2⟩:=aM hR ha hk;unfold FR at h1;split at h1
  ·rename_i cs;cases hc with
   |a ts as hl hf hh=>obtain⟨l,y,h3,h4,h5⟩:=lM (cs:=as) rfl ⟨⟨hl,hh⟩,hf⟩ h1;exact fin he h3 h4 (h2 _ h5)
  ·cases h1
 |@st v ovs cs ts hv hc=>
  simp only [u6] at hk;split at hk
  ·split at hk
   ·rename_i w hw;have hlt:=hc.keys _ _ hw;have hx:cs[off]?=some (cs[off]'(by rw [←hc.len];exact hlt)):=KX _;have hs:=hc.at_ off _ _ (KX hlt) hx;rw [hw] at hs;refine fin he (jK hx) rfl (av hR (fun _=>?_) hk);cases w<;>first|(exact absurd hs (by intro hh;exact hh))|skip
    ·rcases hs with e|e
     ·rw [e];exact .bE
     ·rw [e];exact .iN
    ·exact .sl hs
    ·exact .ow hs
   ·rename_i ho;obtain⟨r,h1,h2⟩:=aM hR ha hk;obtain⟨y,h3,h4,_⟩:=l8 hc h1 ho;exact fin he h3 rfl (h2 _ h4)
  ·rename_i n;split at hk
   ·rename_i ho;obtain⟨r,h1,h2⟩:=aM hR ha hk;obtain⟨l,ls,h3,h4,h5⟩:=fG hc h1;rw [ho] at h5;exact fin he h3 rfl (h2 _ (od h5 h4))
   ·rename_i p r ho;split at hk
    ·obtain⟨u,h1,h2⟩:=hk;obtain⟨l,ls,h3,h4,h5⟩:=fG hc h1;rw [ho] at h5;exact fin he h3 rfl (av hR (fun _=>.st h4 h5) h2)
    ·cases hk
 |_=>cases hk
theorem ju {i:TV} {n m:Nat} {a:AV} (h:y_ i n=some m) (hc:Can i a):∃k z,a=.int k z/\Cy z n=some m/\m < n:=by
 unfold y_ at h;split at h
 ·rename_i k z;cases hc;exact⟨k,z,rfl,h,(lP h).2⟩
 ·cases h
theorem Cp (hR:R A V st) (ha:act g) {es:Nat} {x i:aD} (h:cS V g x fun w=>gk V g i fun i=>xZ nt V d g es w i k):bt cf nt A V st d (.b_ es x i) k:=by
 obtain⟨w,hw,hk⟩:=bq hR ha h;obtain⟨iv,hi,hk⟩:=bz hR ha hk;obtain⟨hz,hk⟩:=cx hk;generalize he:ev st.env x=p at hw;cases hw with
 |@tr v _ hc=>
  obtain⟨e,⟨h1,h2⟩,h3⟩:=ou ha hk;unfold o8 at h1;split at h1
  ·rename_i es';split at h1
   ·rename_i m hm;obtain⟨ki,zi,g1,g2,g3⟩:=ju hm hi;cases hc with
    |nil=>simp at g3
    |bO _ cs n sz c hn hcl hsz hf hh=>
     subst hn;have hE:=hh m e h1;obtain⟨l,hl1,hl2⟩:=iE h2;obtain⟨ts,ht1,ht2⟩:=cY.1 hE;rw [hl1] at ht1;cases ht1;have hmn:=bw (z:=sz) g3;have qzM:((cs.drop (m*sz)).take sz).length=sz:=by simp only [La,Lb];omega
     have qzL:sz=es:=by rw [←hl2,ht2.1,qzM]
     subst qzL;refine aI (v:=.ej cs (m*sz)) rfl ?_ (av hR (fun _=>?_) h3)
     ·simp only [fN,g1,he,g2];cases cs with
      |nil=>simp at hcl;omega
      |cons _ _=>rfl
     ·exact VR.pt (b:=m*sz) (off:=0) (n:=sz) (by omega) hf hE
   ·cases h1
  ·cases h1
 |@sl O _ hO=>
  dsimp only at hk;split at hk
  ·rename_i z es' ho;obtain⟨rfl,hk2⟩:=aO hk;obtain⟨m,h1,h2⟩:=g_ ha hk2;obtain⟨ki,zi,g1,g2,g3⟩:=ju h1 hi;obtain⟨y,hy,hs⟩:=hR.heap O _ ho;rw [hO] at hy;cases hy;obtain⟨_,hs⟩:=hs;rcases hs with ⟨e,_⟩|⟨id,gg,b,cells,e,hH,hb,hE⟩
   ·subst e;simp at g3
   ·subst e;exact aI (v:=.ptr id gg (b+m*z)) rfl (by simp only [fN,g1,he,g2,cond_eq_ite,Lq,if_pos];rfl) (av hR (fun _=>VR.ea (off:=0) hO) h2)
  ·rename_i K s io iz ver hole es' ho;obtain⟨rfl,hk2⟩:=aO hk;obtain⟨m,h1,h2⟩:=g_ ha hk2;obtain⟨ki,zi,g1,g2,g3⟩:=ju h1 hi;obtain⟨y,hy,hs⟩:=hR.heap O _ ho;rw [hO] at hy;cases hy;obtain⟨_,_,_,hs⟩:=hs;rcases hs with ⟨e,_⟩|⟨id,gg,b,cells,e,hH,hb,hE⟩
   ·subst e;simp at g3
   ·subst e;exact aI (v:=.ptr id gg (b+m*s)) rfl (by simp only [fN,g1,he,g2,cond_eq_ite,Lq,if_pos];rfl) (av hR (fun _=>VR.ea (off:=0) hO) h2)
  ·cases hk
 |@ow O v j _ hA=>
  obtain⟨s,io,iz,es',ho,hk⟩:=bX hk;obtain⟨rfl,hk2⟩:=aO hk;obtain⟨m,h1,h2⟩:=g_ ha hk2;unfold Jc at h1;split at h1;rotate_left
  ·cases h1
  rename_i l hl;obtain⟨ki,zi,g1,g2,g3⟩:=ju h1 hi;obtain⟨y,hy,hs⟩:=hR.heap O _ ho;have hsl:=mT hs hl (by simp) hA;rcases hsl.2 with ⟨e,_⟩|⟨id,gg,b,cells,e,hH,hb,hE⟩
  ·subst e;simp at g3
  ·subst e;exact aI (v:=.ptr id gg (b+m*iz)) rfl (by simp only [fN,g1,he,g2,cond_eq_ite,Lq,if_pos];rfl) (av hR (fun _=>VR.e2 (off:=0) hA) h2)
 |_=>cases hk
theorem DW (hR:R A V st) (ha:act g) {len es:Nat} {x i:aD} (h:cS V g x fun w=>gk V g i fun i=>wR nt V d g len es w i k):bt cf nt A V st d (.jx len es x i) k:=by
 obtain⟨w,hw,hk⟩:=bq hR ha h;obtain⟨iv,hi,hk⟩:=bz hR ha hk;generalize he:ev st.env x=p at hw;have fin:∀{m:Nat} {v:AV},y_ iv len=some m->(∀ki zi,ev st.env i=.int ki zi->Cy zi len=some m->jn (ev st.env) len es x i=some (.val v))->Next nt A V st d v st.H st.nx k->bt cf nt A V st d (.jx len es x i) k:=by intro m v h1 h2 h3;obtain⟨ki,zi,g1,g2,g3⟩:=ju h1 hi;exact aI rfl (h2 ki zi g1 g2) h3
 cases hw with
 |@ptr O off id hO=>obtain⟨m,h1,h2⟩:=g_ ha hk;exact fin h1 (fun ki zi g1 g2=>by simp only [jn,g1,g2,he];rfl) (av hR (fun _=>VR.pd hO) h2)
 |@pd O off id hO=>obtain⟨m,h1,h2⟩:=g_ ha hk;exact fin h1 (fun ki zi g1 g2=>by simp only [jn,g1,g2,he];rfl) (av hR (fun _=>VR.pd hO) h2)
 |@pt v cs b off n hl hf hcc=>obtain⟨m,h1,h2⟩:=g_ ha hk;exact fin h1 (fun ki zi g1 g2=>by simp only [jn,g1,g2,he];rfl) (av hR (fun _=>C3 hl hf hcc) h2)
 |_=>cases hk
end
end Go.Ax.V
namespace Go.Ax.V
section
variable {prog:Map aq} {cf:eC} {nt:Nat} {A:aS} {V:ay} {st:St} {d:Option Nat} {g:G} {k:ay->Prop}
theorem sD {sz z:Nat} {es:List TV} {cs:List AV} {n:Nat} (h:B4 sz es) (hn:es.length=n) (hc:cs.length=n*z) (hh:∀(j:Nat) (e:TV),es[j]?=some e->jS e ((cs.drop (j*z)).take z)):es=[]\/sz=z:=by
 cases es with
 |nil=>exact .inl rfl
 |cons e r=>
  right;obtain⟨l,hl1,hl2⟩:=iE h;obtain⟨ts,ht1,ht2⟩:=cY.1 (hh 0 e rfl);rw [hl1] at ht1;cases ht1;rw [←hl2,ht2.1];have:z<=cs.length:=by rw [hc,←hn,Ld,Nat.add_mul,Nat.one_mul];omega
  simp only [La,Lb];omega
structure EC (H:aE) (sz:Nat) (xs:List TV) (a:AV) (src:Src) (l:List AV):Prop where
 eq:cq sz a=some (xs.length,src)
 get:cg H src.q=some l
 el:tD sz xs (src.cs l)
theorem m4 (sz:Nat):tD sz [] []:=⟨by simp,fun x hx=>by simp at hx,fun j e h=>by simp at h⟩
theorem Dy {H:aE} {sz:Nat} {es:List TV} {a:AV} (h:nR H sz es a):∃src l,EC H sz es a src l:=by
 obtain⟨hz,h⟩:=h;rcases h with ⟨rfl,rfl|rfl⟩|⟨id,g,b,cells,rfl,hH,hb,he⟩
 ·exact⟨.list [],[],rfl,rfl,m4 sz⟩
 ·exact⟨.list [],[],by simp [cq],rfl,m4 sz⟩
 ·have hl:=he.len;rw [Lb] at hl;refine⟨.nU ⟨id,g,b,es.length*sz⟩,cells.drop b,by simp [cq],?_,he⟩;simp only [Src.q,cg,hH,cond_eq_ite,Lq,if_pos];rw [b8,if_pos (by omega),Lx (by rw [Lb];omega)]
theorem tR (hR:R A V st) {sz:Nat} (hz:0 < sz) {w:VV} {a:AV} (hw:VR A w a) {k:List TV->Prop} (hk:vJ V sz w k):∃xs src l,EC st.H sz xs a src l/\k xs:=by
 cases hw with
 |@tr v _ hc=>
  obtain⟨xs,h1,h2,h3⟩:=hk;cases v<;>first|(cases h1;done)|skip
  cases h1;cases hc with
  |nil=>exact⟨[],.list [],[],⟨rfl,rfl,m4 sz⟩,h3⟩
  |bO _ cs n z c hn hcl hsz hf hh=>
   refine⟨xs,.list cs,[],?_,h3⟩;rcases sD h2 hn hcl hh with rfl|rfl
   ·simp at hn;subst hn;have:cs=[]:=Lw.1 (by omega);subst this;exact⟨by simp [cq],rfl,m4 sz⟩
   ·exact⟨by simp [cq,hn,hcl],rfl,⟨by show cs.length=_;rw [hcl,hn],hf,hh⟩⟩
 |bE=>exact⟨[],.list [],[],⟨rfl,rfl,m4 sz⟩,hk⟩
 |iN=>exact⟨[],.list [],[],⟨by simp [cq],rfl,m4 sz⟩,hk⟩
 |@sl O _ hO=>
  simp only [vJ] at hk;split at hk
  ·rename_i z es ho;obtain⟨rfl,hk2⟩:=aO hk;obtain⟨y,hy,hs⟩:=hR.heap O _ ho;rw [hO] at hy;cases hy;obtain⟨src,l,h⟩:=Dy hs;exact⟨es,src,l,h,hk2⟩
  ·cases hk
 |_=>cases hk
theorem sn {bytes:Nat} {es xs l:List TV} (h:m_ bytes es xs=some l):l=es++xs/\(es.length+xs.length)*bytes<=most/\es.length+xs.length<=most:=by
 unfold m_ at h;rw [cond_eq_ite] at h;split at h
 ·rename_i hh;rw [Lm,Lr,Lr] at hh;cases h;exact⟨rfl,hh.1,hh.2⟩
 ·cases h
theorem mc (hR:R A V st) {V1:ay} (hR1:R A V1 st) (qxe:∀id,bN V1 A id->bN V A id) (hev:gm V V1) {sz bytes:Nat} {es xs l:List TV} {s x:AV} {src:Src} {lc:List AV} (hsl:nR st.H sz es s) (hone:s.one=true) (hown:∀id,bJ s=some id->¬bN V1 A id/\bN V A id)
  (hx:EC st.H sz xs x src lc) (qz4:m_ bytes es xs=some l) {so xo:aD} (e1:ev st.env so=s) (e2:ev st.env xo=x) (hk:ff nt V1 d g .sl (.gr sz l) k):bt cf nt A V st d (.app sz bytes so xo) k:=by
 obtain⟨rfl,hb1,hb2⟩:=sn qz4;have hz:=hsl.1;have qxc:kind (.app sz bytes so xo)=.plan fun ρ=>kr sz bytes (ρ so) (ρ xo):=rfl
 by_cases hm:xs=[]
 ·subst hm;refine aI (v:=s) qxc ?_ (kS (a:=s) (nx':=st.nx) hR1 qxe hk (LB _) hR.fresh (fun _ _=>rfl) (fun _ _ _=>rfl) (fun A' _=>by rw [List.append_nil];exact hsl) hone (fun id hi=>⟨(hown id hi).1,.inl (hown id hi).2⟩) (fun A' O hO=>.sl hO) rfl hev);have qzb:sW s=true:=by rcases hsl.2 with ⟨_,rfl|rfl⟩|⟨id,g,b,cells,rfl,_⟩<;>rfl
  simp only [kr,e1,e2,hx.eq,List.length_nil,cond_eq_ite,Lq,if_pos,qzb]
 ·have hm0:xs.length≠0:=fun h=>hm (Lw.1 h)
  obtain⟨hz,hsl⟩:=hsl;have fresh:∀(n:Nat),n=(es++xs).length->∀cells,tD sz (es++xs) cells->Next nt A V st d (.ref st.nx 0 0 sz n n false) (st.H.put (some (.row 0 cells)) st.nx) (st.nx+1) k:=by
   intro n hn cells hE;subst hn;obtain⟨e',p1,V2,A2,p2,p3,p4⟩:=fU (A:=A) (V:=V1) (st:=st) (a:=.ref st.nx 0 0 sz (es++xs).length (es++xs).length false) (v:=.ref st.nx 0 0 sz (es++xs).length (es++xs).length false) (ob:=.row 0 cells) hR1 hk
    (fun A' hA=>⟨hz,.inr ⟨_,_,_,cells,rfl,by rw [Map.au,if_pos rfl],LA _,hE⟩⟩) rfl rfl (fun A' O hO=>.sl hO)
   exact⟨e',p1,V2,A2,p2,⟨p3.le,fun id hid hn=>p3.same id hid (fun ho=>hn (qxe _ ho)),fun id ho=>(p3.own id ho).imp (qxe _) (fun x=>x)⟩,(Ext.uy A hev).trans p4.1,p4.2⟩
  rcases hsl with ⟨rfl,rfl|rfl⟩|⟨id,gg,b,cells,rfl,hH,hb,hE⟩
  ·refine⟨_,_,_,?_,fresh xs.length (by simp) (src.cs lc) (by simpa using hx.el)⟩;simp only [List.length_nil,Nat.zero_add] at hb1 hb2;simp only [eu,qxc,kr,e1,e2,hx.eq,cond_eq_ite,Lq,if_neg hm0,Lm,Lr];rw [if_pos ⟨hb1,hb2⟩];simp only [bD,c5,hx.get,eG,mz]
  ·refine⟨_,_,_,?_,fresh (0+xs.length) (by simp) (src.cs lc) (by simpa using hx.el)⟩;simp only [List.length_nil] at hb1 hb2;simp only [eu,qxc,kr,e1,e2,hx.eq,cond_eq_ite,Lq,if_neg hm0,Lm,Lr,Ls];rw [if_pos ⟨⟨⟨by show 0 < 0+xs.length;omega,by simp⟩,hb1⟩,hb2⟩];simp only [bD,c5,hx.get,eG,mz,List.nil_append];rfl
  ·have hl:=hE.len;rw [Lb] at hl;obtain⟨hn1,hn2⟩:=hown id rfl;have hE2:=rV hE hx.el;refine⟨.ref id (gg+1) 0 sz (es.length+xs.length) (es.length+xs.length) false,st.H.put (some (.row (gg+1) (cells.drop b++src.cs lc))) id,st.nx,?_,
    kS (a:=.ref id (gg+1) 0 sz (es.length+xs.length) (es.length+xs.length) false) hR1 qxe hk (LB _) (fun i o hh=>?_) (fun i ho=>?_) (fun i _ hn=>?_) (fun A' _=>⟨hz,.inr ⟨id,gg+1,0,_,by rw [K_],by rw [Map.au,if_pos rfl],LA _,hE2⟩⟩) rfl (fun i hi=>?_) (fun A' O hO=>.sl hO) rfl hev⟩
   ·simp only [eu,qxc,kr,e1,e2,hx.eq,cond_eq_ite,Lq,if_neg hm0,Lm,Lr,if_pos];rw [if_pos ⟨⟨trivial,hb1⟩,hb2⟩];simp only [pV,cond_eq_ite,Lr];rw [if_neg (by show ¬(es.length+xs.length<=es.length);omega),if_neg (by decide)];simp only [bD,c5,hx.get,eG,hH,mD,cond_eq_ite,Lq,if_pos];rw [if_pos (by show b+es.length*sz=cells.length;omega)];simp only [mz];rfl
   ·rw [Map.au] at hh;split at hh
    ·rename_i e;subst e;exact hR.eg hn2
    ·exact hR.fresh i o hh
   ·rw [Map.au,if_neg];rintro rfl;exact hn1 ho
   ·rw [Map.au,if_neg];rintro rfl;exact hn hn2
   ·cases hi;exact⟨hn1,.inl hn2⟩
theorem Ei (hR:R A V st) {O s io iz v i:Nat} {es:List TV} {x:AV} (ho:V.H.get O=some (.gn O s io iz v none es)) (hx:A (.i O v i)=some x) :
  R A (aW V O (.gn O s io iz v (some i) es)) st/\(∀id,bN (aW V O (.gn O s io iz v (some i) es)) A id->bN V A id)/\∀id,bJ x=some id->¬bN (aW V O (.gn O s io iz v (some i) es)) A id:=by
 obtain⟨a,hA,hs⟩:=hR.heap O _ ho;obtain⟨_,hv1,hv0,hv2,hv3⟩:=hR.dO O _ _ ho hA;have ids:∀id,cC A (.gn O s io iz v (some i) es) a id->cC A (.gn O s io iz v none es) a id:=by
  rintro id (h|⟨j,y,h1,h2,h3⟩)
  ·exact .inl h
  ·exact .inr ⟨j,y,by simp,h2,h3⟩
 have get':∀(O':Nat) o',(aW V O (.gn O s io iz v (some i) es)).H.get O'=some o'->(O'=O/\o'=.gn O s io iz v (some i) es)\/(O'≠O/\V.H.get O'=some o'):=fun O' o' h=>by
  simp only [aW,Map.au] at h;split at h
  ·rename_i e;cases h;exact .inl ⟨e,rfl⟩
  ·rename_i e;exact .inr ⟨e,h⟩
 have up:∀{O':Nat} {o':VO} {y:AV} {id:Nat},(aW V O (.gn O s io iz v (some i) es)).H.get O'=some o'->A O'=some y->cC A o' y id->∃o2,V.H.get O'=some o2/\cC A o2 y id:=fun {O' o' y id} h hy hi=>by
  rcases get' O' o' h with ⟨rfl,rfl⟩|⟨_,h⟩
  ·rw [hA] at hy;cases hy;exact⟨_,ho,ids id hi⟩
  ·exact⟨o',h,hi⟩
 refine⟨⟨hR.env,fun O' o' h=>?_,fun O1 O2 o1 o2 a1 a2 id h1 h2 r1 r2 i1 i2=>?_,hR.used,hR.one,hR.fresh,fun O' o' y h hy=>?_⟩,fun id ⟨O',o',y,h1,h2,h3⟩=>?_,fun id hi ⟨O',o',y,h1,h2,h3⟩=>?_⟩
 ·rcases get' O' o' h with ⟨rfl,rfl⟩|⟨_,h⟩
  ·refine⟨a,hA,hs.1,hs.2.1,hs.2.2.1,hs.2.2.2.imp (fun h=>h) ?_⟩;rintro⟨id,g,b,cells,rfl,h5,h6,h7⟩;refine⟨id,g,b,cells,rfl,h5,h6,h7.len,fun j e he=>?_⟩;obtain⟨ts,g1,g2,g3,x',g4,g5,g6⟩:=h7.el j e he;exact⟨ts,g1,g2,g3,x',g4,g5,fun _=>g6 (by simp)⟩
  ·exact hR.heap O' o' h
 ·obtain⟨p1,q1,q2⟩:=up h1 r1 i1;obtain⟨p2,q3,q4⟩:=up h2 r2 i2;exact hR.inj O1 O2 _ _ a1 a2 id q1 q3 r1 r2 q2 q4
 ·rcases get' O' o' h with ⟨rfl,rfl⟩|⟨_,h⟩
  ·have hy':A O'=some y:=hy;rw [hA] at hy';cases hy';exact⟨rfl,hv1,hv0,fun j j' x x' id _ _=>hv2 j j' x x' id (by simp) (by simp),fun j x id _=>hv3 j x id (by simp)⟩
  ·exact hR.dO O' o' y h hy
 ·obtain⟨p,q1,q2⟩:=up h1 h2 h3;exact⟨O',p,y,q1,h2,q2⟩
 ·have hin:cC A (.gn O s io iz v none es) a id:=.inr ⟨i,x,by simp,hx,hi⟩;rcases get' O' o' h1 with ⟨rfl,rfl⟩|⟨hne,h⟩
  ·have h2':A O'=some y:=h2;rw [hA] at h2';cases h2';rcases h3 with h3|⟨j,z,k1,k2,k3⟩
   ·exact hv3 i x id (by simp) hx hi h3
   ·exact k1 (by rw [hv2 j i z x id (by simp) (by simp) k2 hx k3 hi])
  ·exact hne (hR.inj O' O _ _ _ _ id h ho h2 hA h3 hin)
structure Cg (H:aE) (s io iz:Nat) (es:List TV) (cs:List AV) (inn:Nat->Option AV):Prop where
 len:cs.length=es.length*s
 el:∀(j:Nat) (e:TV),es[j]?=some e->∃ts,br e=some ts/\ts.length=s/\(∀(o:Nat) t x,o≠io->ts[o]?=some t->cs[j*s+o]?=some x->Can t x/\x.flat=true)/\
  ∃x,cs[j*s+io]?=some x/\inn j=some x/\∃l,ts[io]?=some (.l l)/\nR H iz l x
 fin:∀j x,inn j=some x->j < es.length/\x.one=true
theorem Cg.gn {H:aE} {s io iz:Nat} {es:List TV} {cs:List AV} {inn:Nat->Option AV} (h:Cg H s io iz es cs inn) {A':aS} {K:Nat} (hA:∀j,A' (.i K 0 j)=inn j):ze A' H K s io iz 0 none es cs:=
 ⟨h.len,fun j e he=>let ⟨ts,g1,g2,g3,x,g4,g5,g6⟩:=h.el j e he;⟨ts,g1,g2,g3,x,g4,by rw [hA];exact g5,fun _=>g6⟩⟩
theorem Cg.append {H:aE} {s io iz:Nat} {es xs:List TV} {cs ds:List AV} {i1 i2:Nat->Option AV} (hs:io < s) (h:Cg H s io iz es cs i1) (h':Cg H s io iz xs ds i2):Cg H s io iz (es++xs) (cs++ds) (fun j=>if j < es.length then i1 j else i2 (j - es.length)):=by
 refine⟨by rw [K_,K_,h.len,h'.len,Nat.add_mul],fun j e hj=>?_,fun j x hj=>?_⟩
 ·by_cases hlt:j < es.length
  ·rw [KZ hlt] at hj;have h9:=bw (z:=s) hlt;obtain⟨ts,g1,g2,g3,x,g4,g5,g6⟩:=h.el j e hj;have ap:∀o,o < s->(cs++ds)[j*s+o]?=cs[j*s+o]?:=fun o ho=>KZ (by rw [h.len];omega)
   exact⟨ts,g1,g2,fun o t y hne ht hy=>g3 o t y hne ht (by rw [←ap o (by rw [←g2];exact(KY.1 ht).1)];exact hy),x,by rw [ap io hs];exact g4,by simp only [if_pos hlt];exact g5,g6⟩
  ·rw [K3 (by omega)] at hj;have e1:j*s=cs.length+(j - es.length)*s:=by rw [h.len,←Nat.add_mul];congr 1;omega
   obtain⟨ts,g1,g2,g3,x,g4,g5,g6⟩:=h'.el _ e hj;have ap:∀o,(cs++ds)[j*s+o]?=ds[(j - es.length)*s+o]?:=fun o=>by rw [K3 (by omega)];congr 1;omega
   exact⟨ts,g1,g2,fun o t y hne ht hy=>g3 o t y hne ht (by rw [←ap o];exact hy),x,by rw [ap io];exact g4,by simp only [if_neg hlt];exact g5,g6⟩
 ·replace hj:(if j < es.length then i1 j else i2 (j - es.length))=some x:=hj;split at hj
  ·rename_i hlt;obtain⟨p,q⟩:=h.fin j x hj;exact⟨by rw [K_];omega,q⟩
  ·rename_i hlt;obtain⟨p,q⟩:=h'.fin _ x hj;exact⟨by rw [K_];omega,q⟩
theorem Cg.mono {H H':aE} {s io iz:Nat} {es:List TV} {cs:List AV} {inn:Nat->Option AV} (h:Cg H s io iz es cs inn) (hH:∀j x id,inn j=some x->bJ x=some id->H'.get id=H.get id):Cg H' s io iz es cs inn:=
 ⟨h.len,fun j e he=>let ⟨ts,g1,g2,g3,x,g4,g5,l,g6,g7⟩:=h.el j e he;⟨ts,g1,g2,g3,x,g4,g5,l,g6,nR.mono (fun id hi=>hH j x id g5 hi) g7⟩,h.fin⟩
theorem FO {H:aE} {s io iz:Nat} {es:List TV} {cs:List AV} (hiz:0 < iz) (hio:io < s) (hl:cs.length=es.length*s) (hf:∀x∈cs,AV.flat x=true)
  (h:∀(j:Nat) (e:TV),es[j]?=some e->∃ts,br e=some ts/\ts.length=s/\(∀(o:Nat) t x,o≠io->ts[o]?=some t->cs[j*s+o]?=some x->Can t x)/\
   ts[io]?=some (.l [])/\∀x,cs[j*s+io]?=some x->x=.ak\/x=.bO [] 0 (some 0)) :
  Cg H s io iz es cs (fun j=>if j < es.length then cs[j*s+io]? else none)/\∀j x,(if j < es.length then cs[j*s+io]? else none)=some x->bJ x=none:=by
 have nil:∀j x,j < es.length->cs[j*s+io]?=some x->x=.ak\/x=.bO [] 0 (some 0):=fun j x hj hx=>by obtain⟨ts,g1,g2,g3,g4,g5⟩:=h j _ (KX hj);exact g5 x hx
 refine⟨⟨hl,fun j e he=>?_,fun j x hj=>?_⟩,fun j x hj=>?_⟩
 ·obtain⟨ts,g1,g2,g3,g4,g5⟩:=h j e he;have hlt:=(KY.1 he).1;have h9:=bw (z:=s) hlt;have hx:cs[j*s+io]?=some (cs[j*s+io]'(by omega)):=KX _;exact⟨ts,g1,g2,fun o t y hne ht hy=>⟨g3 o t y hne ht hy,hf y (K8 hy)⟩,_,hx,by simp only [if_pos hlt];exact hx,[],g4,hiz,.inl ⟨rfl,g5 _ hx⟩⟩
 ·split at hj
  ·rename_i hlt;exact⟨hlt,by rcases nil j x hlt hj with rfl|rfl<;>rfl⟩
  ·cases hj
 ·split at hj
  ·rename_i hlt;rcases nil j x hlt hj with rfl|rfl<;>rfl
  ·cases hj
theorem C5 {A:aS} {s io:Nat} {xs:List TV} {a:AV} (h:VR A (.gl s io xs) a):0 < s/\io < s/\∃cs,a=.bO cs xs.length (some xs.length)/\cs.length=xs.length*s/\(∀x∈cs,AV.flat x=true)/\
  (∀(j:Nat) (e:TV),xs[j]?=some e->∃ts,br e=some ts/\ts.length=s/\(∀(o:Nat) t x,o≠io->ts[o]?=some t->cs[j*s+o]?=some x->Can t x)/\
   ts[io]?=some (.l [])/\∀x,cs[j*s+io]?=some x->x=.ak\/x=.bO [] 0 (some 0)):=by
 cases h with
 |gl h1 h2 h3 h4 h5=>exact⟨h1,h2,_,rfl,h3,h4,h5⟩
theorem Ej {A':aS} {H':aE} {K s io iz:Nat} {l:List TV} {a:AV} {inn:Nat->Option AV} (q1:0 < s) (q2:io < s) (q3:0 < iz) (hA:∀j,A' (.i K 0 j)=inn j) (hv:∀v j,0 < v->A' (.i K v j)=none)
  (hc:(l=[]/\(a=.ak\/a=.bO [] 0 (some 0))/\∀j,inn j=none)\/∃id g b cells,a=.ref id g b s l.length l.length false/\H'.get id=some (.row g cells)/\b<=cells.length/\Cg H' s io iz l (cells.drop b) inn)
  (hd:∀j j' x x' id,inn j=some x->inn j'=some x'->bJ x=some id->bJ x'=some id->j=j') (ho:∀j x id,inn j=some x->bJ x=some id->bJ a≠some id) :
  OR A' H' (.gn K s io iz 0 none l) a/\e8 A' K a (.gn K s io iz 0 none l)/\∀id,cC A' (.gn K s io iz 0 none l) a id->bJ a=some id\/∃j x,inn j=some x/\bJ x=some id:=by
 refine⟨⟨q1,q2,q3,?_⟩,⟨rfl,hv,fun j x hj=>?_,fun j j' x x' id _ _ h1 h2=>?_,fun j x id _ h1=>?_⟩,fun id hi=>?_⟩
 ·rcases hc with ⟨h1,h2,_⟩|⟨id,g,b,cells,h1,h2,h3,h4⟩
  ·exact .inl ⟨h1,h2⟩
  ·exact .inr ⟨id,g,b,cells,h1,h2,h3,h4.gn hA⟩
 ·rw [hA] at hj;rcases hc with ⟨_,_,h3⟩|⟨id,g,b,cells,h1,h2,h3,h4⟩
  ·rw [h3] at hj;cases hj
  ·exact(h4.fin j x hj).1
 ·rw [hA] at h1 h2;exact hd j j' x x' id h1 h2
 ·rw [hA] at h1;exact ho j x id h1
 ·rcases hi with hi|⟨j,x,_,h2,h3⟩
  ·exact .inl hi
  ·rw [hA] at h2;exact .inr ⟨j,x,h2,h3⟩
theorem BE (hR:R A V st) {V1:ay} (hR1:R A V1 st) (qxe:∀id,bN V1 A id->bN V A id) (hev:gm V V1) {s io iz bytes dd:Nat} {es xs l:List TV} {sv:AV} {qxw:Nat->Option AV} {so xo:aD} (q2:io < s) (q3:0 < iz)
  (hD:(es=[]/\(sv=.ak\/sv=.bO [] 0 (some 0))/\∀j,qxw j=none)\/∃id g b cells,sv=.ref id g b s es.length es.length false/\st.H.get id=some (.row g cells)/\b<=cells.length/\Cg st.H s io iz es (cells.drop b) qxw) (hone:sv.one=true)
  (hi1:∀id,bJ sv=some id->¬bN V1 A id/\bN V A id) (hi2:∀j x id,qxw j=some x->bJ x=some id->¬bN V1 A id/\bN V A id)
  (hd:∀j j' x x' id,qxw j=some x->qxw j'=some x'->bJ x=some id->bJ x'=some id->j=j') (ho:∀j x id,qxw j=some x->bJ x=some id->bJ sv≠some id)
  (e1:ev st.env so=sv) (hx:VR A (.gl s io xs) (ev st.env xo)) (qz4:m_ bytes es xs=some l) (hk:ff nt V1 (some dd) g .sl (.gn dd s io iz 0 none l) k):bt cf nt A V st (some dd) (.app s bytes so xo) k:=by
 obtain⟨rfl,hb1,hb2⟩:=sn qz4;obtain⟨q1,_,cs,e2,hcl,hcf,hel⟩:=C5 hx;obtain⟨hcg,hcn⟩:=FO (H:=st.H) (iz:=iz) q3 q2 hcl hcf hel;generalize hix:(fun j=>if j < xs.length then cs[j*s+io]? else none)=innx at hcg;have qzy:∀j x,innx j=some x->bJ x=none:=fun j x h=>hcn j x (by rw [←hix] at h;exact h)
 have qxc:kind (.app s bytes so xo)=.plan fun ρ=>kr s bytes (ρ so) (ρ xo):=rfl
 have hsrc:cq s (.bO cs xs.length (some xs.length))=some (xs.length,.list cs):=by simp only [cq,cond_eq_ite,Lq];rw [if_pos (by show xs.length*s=cs.length;omega)]
 have mk:∀{a:AV} {H':aE} {nx':Nat} (inn:Nat->Option AV),(∀j x,inn j=some x->x.one=true)->st.nx<=nx'->(∀id ob,H'.get id=some ob->id < nx')->(∀id,bN V1 A id->H'.get id=st.H.get id)->(∀id,id < st.nx->¬bN V A id->H'.get id=st.H.get id)->
   a.one=true->((es++xs=[]/\(a=.ak\/a=.bO [] 0 (some 0))/\∀j,inn j=none)\/∃id g b cells,a=.ref id g b s (es++xs).length (es++xs).length false/\H'.get id=some (.row g cells)/\b<=cells.length/\Cg H' s io iz (es++xs) (cells.drop b) inn)->
   (∀j j' x x' id,inn j=some x->inn j'=some x'->bJ x=some id->bJ x'=some id->j=j')->(∀j x id,inn j=some x->bJ x=some id->bJ a≠some id)->
   (∀id,bJ a=some id->¬bN V1 A id/\(bN V A id\/st.nx<=id))->(∀j x id,inn j=some x->bJ x=some id->¬bN V1 A id/\bN V A id)->Next nt A V st (some dd) a H' nx' k:=by
  intro a H' nx' inn r1 r2 r3 r4 r5 r6 r7 r8 r9 r10 r11;refine q8 (inn:=inn) hR1 qxe hk r2 r3 r4 r5 r1 (fun A' d' hd' hm h0 h1=>?_) r6 (fun A' O hO=>.sl hO) hev;cases hd';obtain⟨t1,t2,t3⟩:=Ej q1 q2 q3 h0 h1 r7 r8 r9;refine⟨t1,t2,fun id hi=>?_⟩;rcases t3 id hi with h|⟨j,x,h2,h3⟩
  ·exact r10 id h
  ·exact⟨(r11 j x id h2 h3).1,.inl (r11 j x id h2 h3).2⟩
 by_cases hm:xs=[]
 ·subst hm;have qzb:sW sv=true:=by rcases hD with ⟨_,rfl|rfl,_⟩|⟨id,g,b,cells,rfl,_⟩<;>rfl
  refine aI (v:=sv) qxc ?_ (mk qxw (fun j x h=>?_) (LB _) hR.fresh (fun _ _=>rfl) (fun _ _ _=>rfl) hone ?_ hd ho (fun id hi=>⟨(hi1 id hi).1,.inl (hi1 id hi).2⟩) hi2)
  ·simp only [List.length_nil] at hsrc e2;simp only [kr,e1,e2,hsrc,cond_eq_ite,Lq,if_pos,qzb]
  ·rcases hD with ⟨_,_,h3⟩|⟨id,g,b,cells,_,_,_,h4⟩
   ·rw [h3] at h;cases h
   ·exact(h4.fin j x h).2
  ·rw [List.append_nil];exact hD
 ·have hm0:xs.length≠0:=fun h=>hm (Lw.1 h)
  have fresh:∀(n:Nat),n=(es++xs).length->es=[]->Next nt A V st (some dd) (.ref st.nx 0 0 s n n false) (st.H.put (some (.row 0 cs)) st.nx) (st.nx+1) k:=by
   intro n hn hes;subst hes;subst hn;have hno:∀id,bN V1 A id->id≠st.nx:=fun id ho he=>by have:=hR.eg (qxe id ho);omega
   refine mk innx (fun j x h=>(hcg.fin j x h).2) (Nat.le_succ _) (fun id ob hh=>?_) (fun id ho=>by rw [Map.au,if_neg (hno id ho)]) (fun id hlt _=>by rw [Map.au,if_neg (by omega)]) rfl (.inr ⟨st.nx,0,0,cs,rfl,by rw [Map.au,if_pos rfl],LA _,?_⟩)
    (fun j j' x x' id h1 h2 h3=>by rw [qzy j x h1] at h3;cases h3) (fun j x id h1 h3=>by rw [qzy j x h1] at h3;cases h3) (fun id hi=>by cases hi;exact⟨fun ho=>hno _ ho rfl,.inr (LB _)⟩) (fun j x id h1 h3=>by rw [qzy j x h1] at h3;cases h3)
   ·rw [Map.au] at hh;split at hh
    ·omega
    ·have:=hR.fresh _ _ hh;omega
   ·rw [List.drop_zero,List.nil_append];exact hcg.mono (fun j x id h1 h3=>by rw [qzy j x h1] at h3;cases h3)
  rcases hD with ⟨rfl,rfl|rfl,_⟩|⟨id,gg,b,cells,rfl,hH,hb,hE⟩
  ·refine⟨_,_,_,?_,fresh xs.length (by simp) rfl⟩;simp only [List.length_nil,Nat.zero_add] at hb1 hb2;simp only [eu,qxc,kr,e1,e2,hsrc,cond_eq_ite,Lq,if_neg hm0,Lm,Lr];rw [if_pos ⟨hb1,hb2⟩];simp only [bD,c5,Src.q,cg,eG,mz,Src.cs]
  ·refine⟨_,_,_,?_,fresh (0+xs.length) (by simp) rfl⟩;simp only [List.length_nil] at hb1 hb2;simp only [eu,qxc,kr,e1,e2,hsrc,cond_eq_ite,Lq,if_neg hm0,Lm,Lr,Ls];rw [if_pos ⟨⟨⟨by show 0 < 0+xs.length;omega,by simp⟩,hb1⟩,hb2⟩];simp only [bD,c5,Src.q,cg,eG,mz,Src.cs,List.nil_append];rfl
  ·have hl:=hE.len;rw [Lb] at hl;obtain⟨hn1,hn2⟩:=hi1 id rfl;have hE2:=Cg.append q2 hE hcg;have both:∀j x id',(if j < es.length then qxw j else innx (j - es.length))=some x->bJ x=some id'->qxw j=some x:=fun j x id' h h3=>by
    split at h
    ·exact h
    ·rw [qzy _ x h] at h3;cases h3
   refine⟨.ref id (gg+1) 0 s (es.length+xs.length) (es.length+xs.length) false,st.H.put (some (.row (gg+1) (cells.drop b++cs))) id,st.nx,?_,
    mk (fun j=>if j < es.length then qxw j else innx (j - es.length)) (fun j x h=>(hE2.fin j x h).2) (LB _) (fun i o hh=>?_) (fun i hoi=>?_) (fun i _ hn=>?_) rfl (.inr ⟨id,gg+1,0,_,by rw [K_],by rw [Map.au,if_pos rfl],LA _,?_⟩)
     (fun j j' x x' id' h1 h2 h3 h4=>hd j j' x x' id' (both j x id' h1 h3) (both j' x' id' h2 h4) h3 h4) (fun j x id' h1 h3=>ho j x id' (both j x id' h1 h3) h3) (fun i hi=>?_) (fun j x id' h1 h3=>hi2 j x id' (both j x id' h1 h3) h3)⟩
   ·simp only [eu,qxc,kr,e1,e2,hsrc,cond_eq_ite,Lq,if_neg hm0,Lm,Lr,if_pos];rw [if_pos ⟨⟨trivial,hb1⟩,hb2⟩];simp only [pV,cond_eq_ite,Lr];rw [if_neg (by show ¬(es.length+xs.length<=es.length);omega),if_neg (by decide)];simp only [bD,c5,Src.q,cg,eG,hH,mD,cond_eq_ite,Lq,if_pos];rw [if_pos (by show b+es.length*s=cells.length;omega)];simp only [mz];rfl
   ·rw [Map.au] at hh;split at hh
    ·rename_i e;subst e;exact hR.eg hn2
    ·exact hR.fresh i o hh
   ·rw [Map.au,if_neg];rintro rfl;exact hn1 hoi
   ·rw [Map.au,if_neg];rintro rfl;exact hn hn2
   ·rw [List.drop_zero];refine hE2.mono fun j x id' h1 h3=>?_
    rw [Map.au,if_neg];rintro rfl;exact ho j x id' (both j x id' h1 h3) h3 rfl
   ·cases hi;exact⟨hn1,.inl hn2⟩
theorem FF {sh:Sh} (hR:R A V st) (ha:act g) {es bytes:Nat} {s x:aD} (h:cS V g s fun w=>cS V g x fun x=>rU sh nt V d g es bytes w x k):bt cf nt A V st d (.app es bytes s x) k:=by
 obtain⟨w,hw,h⟩:=bq hR ha h;obtain⟨y,hy,hk⟩:=bq hR ha h;unfold rU at hk;split at hk
 ·rename_i s' io xs;have hse:=(aO hk).1;replace hk:=(aO hk).2;subst hse;unfold s_ at hk;cases d with
  |none=>cases hk
  |some dd=>
  dsimp only at hk;obtain⟨_,q2,_⟩:=C5 hy;have nilD:∀{sv:AV},(sv=.ak\/sv=.bO [] 0 (some 0))->ev st.env s=sv->Nat.blt 0 (BQ (sh.gc dd))=true->(∃l,m_ bytes [] xs=some l/\ff nt V (some dd) g .sl (.gn dd s' io (BQ (sh.gc dd)) 0 none l) k)->bt cf nt A V st (some dd) (.app s' bytes s x) k:=by rintro sv hsv e1 hz ⟨l,h1,h2⟩;exact BE (es:=[]) (qxw:=fun _=>none) hR hR (fun _ h=>h) (gm.refl V) q2 (by simpa using hz) (.inl ⟨rfl,hsv,fun _=>rfl⟩) (by rcases hsv with rfl|rfl<;>rfl) (fun id hi=>by rcases hsv with rfl|rfl<;>cases hi) (fun j x id h=>by cases h) (fun j j' x x' id h=>by cases h) (fun j x id h=>by cases h) e1 hy h1 h2
  generalize e1:ev st.env s=a at hw;cases hw with
  |bE=>
   simp only at hk;split at hk
   ·rename_i hb;rw [Lm] at hb;exact nilD (.inl rfl) e1 hb.2 hk
   ·cases hk
  |iN=>
   simp only at hk;split at hk
   ·rename_i hb;rw [Lm] at hb;exact nilD (.inr rfl) e1 hb.2 hk
   ·cases hk
  |@sl O _ hO=>
   simp only at hk;split at hk;rotate_left
   ·cases hk
   rename_i K s2 io2 iz ver es ho;split at hk;rotate_left
   ·cases hk
   rename_i hb;simp only [Lm,Lq] at hb;obtain⟨rfl,rfl⟩:=hb;obtain⟨l,h1,h2⟩:=hk;obtain⟨y',hy',hs⟩:=hR.heap O _ ho;rw [hO] at hy';cases hy';obtain⟨rfl,hv1,hv0,hv2,hv3⟩:=hR.dO O _ _ ho hO;obtain⟨p1,p2,p3,hs⟩:=hs;refine BE (es:=es) (qxw:=fun j=>A (.i K ver j)) hR (hR.bk K) (fun _ h=>(bh V K).own h) (bh V K).ev p2 p3 ?_ (hR.one _ _ hO) (fun id hi=>⟨cz hR ho hO (.inl hi),⟨K,_,_,ho,hO,.inl hi⟩⟩)
    (fun j x id h3 h4=>⟨cz hR ho hO (.inr ⟨j,x,by simp,h3,h4⟩),⟨K,_,_,ho,hO,.inr ⟨j,x,by simp,h3,h4⟩⟩⟩) (fun j j' x x' id=>hv2 j j' x x' id (by simp) (by simp)) (fun j x id=>hv3 j x id (by simp)) e1 hy h1 h2
   rcases hs with ⟨h3,h4⟩|⟨id,g',b,cells,h3,h4,h5,h6⟩
   ·exact .inl ⟨h3,h4,fun j=>by
     cases hq:A (.i K ver j) with
     |none=>rfl
     |some x=>have:=hv0 j x hq;rw [h3] at this;simp at this⟩
   ·exact .inr ⟨id,g',b,cells,h3,h4,h5,h6.len,fun j e he=>(let ⟨ts,g1,g2,g3,x,g4,g5,g6⟩:=h6.el j e he;⟨ts,g1,g2,g3,x,g4,g5,g6 (by simp)⟩),fun j x hx=>⟨hv0 j x hx,hR.one _ _ hx⟩⟩
  |_=>cases hk
 rename_i hngl;obtain⟨hz,hk⟩:=cx hk;obtain⟨xs,src,l,hx,hk⟩:=tR hR hz hy hk;generalize e1:ev st.env s=a at hw;cases hw with
 |bE=>obtain⟨l',h1,h2⟩:=hk;exact mc hR hR (fun _ h=>h) (gm.refl V) ⟨hz,.inl ⟨rfl,.inl rfl⟩⟩ rfl (fun id hi=>by cases hi) hx h1 e1 rfl h2
 |iN=>obtain⟨l',h1,h2⟩:=hk;exact mc hR hR (fun _ h=>h) (gm.refl V) ⟨hz,.inl ⟨rfl,.inr rfl⟩⟩ rfl (fun id hi=>by cases hi) hx h1 e1 rfl h2
 |@sl O _ hO=>
  dsimp only at hk;split at hk
  ·rename_i z es' ho;obtain⟨rfl,l',h1,h2⟩:=aO hk;obtain⟨y',hy',hs⟩:=hR.heap O _ ho;rw [hO] at hy';cases hy';exact mc hR (hR.bk O) (fun _ h=>(bh V O).own h) (bh V O).ev hs (hR.one _ _ hO) (fun id hi=>⟨cz hR ho hO (.inl hi),⟨O,_,_,ho,hO,.inl hi⟩⟩) hx h1 e1 rfl h2
  ·cases hk
 |@ow O v i _ hA=>dsimp only at hk;obtain⟨s2,io,iz,es',ho,hk⟩:=bX hk;obtain⟨rfl,l0,h0,l',h1,h2⟩:=aO hk;obtain⟨y',hy',hs⟩:=hR.heap O _ ho;obtain⟨r1,r2,r3⟩:=Ei hR ho hA;exact mc hR r1 r2 (gm.DA ho (LB _)) (mT hs h0 (by simp) hA) (hR.one _ _ hA) (fun id hi=>⟨r3 id hi,⟨O,_,_,ho,hy',.inr ⟨i,_,by simp,hA,hi⟩⟩⟩) hx h1 e1 rfl h2
 |_=>cases hk
theorem Fw (hR:R A V st) (ha:act g) {str:Bool} {x:aD} (h:cS V g x fun w=>xW nt V d g str w k):bt cf nt A V st d (.len str x) k:=by
 obtain⟨w,hw,hk⟩:=bq hR ha h;generalize he:ev st.env x=p at hw;cases str with
 |true=>
  cases hw with
  |@tr v _ hc=>
   obtain⟨r,h1,h2⟩:=aM hR ha hk;cases v<;>first|(cases h1;done)|skip
   cases h1;cases hc;exact aI rfl (by simp only [gQ,he]) (h2 _ (.i _ _))
  |_=>cases hk
 |false=>
  cases hw with
  |@tr v _ hc=>
   obtain⟨r,h1,h2⟩:=aM hR ha hk;cases v<;>first|(cases h1;done)|skip
   cases h1;cases hc with
   |nil=>exact aI rfl (by simp only [gQ,he];rfl) (h2 _ (.i _ _))
   |bO _ cs n z c hn=>subst hn;exact aI rfl (by simp only [gQ,he]) (h2 _ (.i _ _))
  |bE=>obtain⟨r,h1,h2⟩:=aM hR ha hk;cases h1;exact aI rfl (by simp only [gQ,he]) (h2 _ (.i _ _))
  |iN=>obtain⟨r,h1,h2⟩:=aM hR ha hk;cases h1;exact aI (v:=.int .i64 ((0:Nat):Int)) rfl (by simp only [gQ,he]) (h2 _ (.i _ _))
  |@sl O _ hO=>
   simp only [xW] at hk;split at hk
   ·rename_i z es ho;obtain⟨y,hy,hs⟩:=hR.heap O _ ho;rw [hO] at hy;cases hy;obtain⟨r,h1,h2⟩:=aM hR ha hk;cases h1;rcases hs.2 with ⟨rfl,rfl|rfl⟩|⟨id,gg,b,cells,rfl,_⟩
    ·exact aI (v:=.int .i64 0) rfl (by simp only [gQ,he]) (h2 _ (.i _ _))
    ·exact aI (v:=.int .i64 ((0:Nat):Int)) rfl (by simp only [gQ,he]) (h2 _ (.i _ _))
    ·exact aI rfl (by simp only [gQ,he]) (h2 _ (.i _ _))
   ·rename_i K s io iz ver hole es ho;obtain⟨y,hy,hs⟩:=hR.heap O _ ho;rw [hO] at hy;cases hy;obtain⟨r,h1,h2⟩:=aM hR ha hk;cases h1;rcases hs.2.2.2 with ⟨rfl,rfl|rfl⟩|⟨id,gg,b,cells,rfl,_⟩
    ·exact aI (v:=.int .i64 0) rfl (by simp only [gQ,he]) (h2 _ (.i _ _))
    ·exact aI (v:=.int .i64 ((0:Nat):Int)) rfl (by simp only [gQ,he]) (h2 _ (.i _ _))
    ·exact aI rfl (by simp only [gQ,he]) (h2 _ (.i _ _))
   ·cases hk
  |@ow O v j _ hA=>
   obtain⟨s,io,iz,es,ho,hk⟩:=bX hk;obtain⟨y,hy,hs⟩:=hR.heap O _ ho;obtain⟨r,h1,h2⟩:=aM hR ha hk;unfold FJ at h1;split at h1;rotate_left
   ·cases h1
   rename_i l hl;cases h1;have hsl:=mT hs hl (by simp) hA;rcases hsl.2 with ⟨rfl,rfl|rfl⟩|⟨id,gg,b,cells,rfl,_⟩
   ·exact aI (v:=.int .i64 0) rfl (by simp only [gQ,he]) (h2 _ (.i _ _))
   ·exact aI (v:=.int .i64 ((0:Nat):Int)) rfl (by simp only [gQ,he]) (h2 _ (.i _ _))
   ·exact aI rfl (by simp only [gQ,he]) (h2 _ (.i _ _))
  |_=>cases hk
end
end Go.Ax.V
namespace Go.Ax.V
section
variable {prog:Map aq} {cf:eC} {nt:Nat} {A:aS} {V:ay} {st:St} {d:Option Nat} {g:G} {k:ay->Prop}
def Ho (e:Env) (x:Option aD) (v:Option TV):Prop:=match x with|none=>v=none|some x=>∃u,v=some u/\Can u (ev e x)
theorem n7 {e:Env} {x:Option aD} {v:Option TV} (h:Ho e x v) {other y r:Nat} (hb:BT v other y=some r):yb (ev e) x other y=some r:=by
 cases x with
 |none=>cases h;exact hb
 |some x=>
  obtain⟨u,rfl,hc⟩:=h;cases u<;>first|(cases hb;done)|skip
  generalize he:ev e x=p at hc;cases hc;simp only [yb,he];exact hb
theorem yc {e:Env} {lo hi:Option aD} {l h:Option TV} (hl:Ho e lo l) (hh:Ho e hi h) {n a b:Nat} (hb:CX l h n=some (a,b)):gW (ev e) lo hi none n n=some (a,b,n)/\a<=b/\b<=n:=by
 unfold CX at hb;split at hb
 ·cases hb
 rename_i b' h1;split at hb
 ·cases hb
 rename_i a' h2;cases hb;have le:∀{x:Option TV} {o y r:Nat},BT x o y=some r->o<=y->r<=y:=fun {x o y r} hb ho=>by
  unfold BT at hb;split at hb
  ·cases hb;exact ho
  ·exact(l_ hb).2
  ·cases hb
 refine⟨?_,le h2 (LA _),le h1 (LB _)⟩;have e0:yb (ev e) none n n=some n:=rfl;simp only [gW,e0,n7 hh h1,n7 hl h2]
theorem j3 (h:R A V st) (ha:act g) {x:Option aD} {k:Option TV->Prop} (hk:mJ V g x k):∃v,k v/\Ho st.env x v:=by obtain⟨v,h1,h2⟩:=Ar h ha hk;exact⟨v,h1,by cases x<;>exact h2⟩
theorem wS {sz:Nat} {es:List TV} {cs:List AV} (h:tD sz es cs) {a b:Nat} (hab:a<=b) (hb:b<=es.length):tD sz ((es.drop a).take (b - a)) ((cs.drop (a*sz)).take ((b - a)*sz)):=by
 have h1:a*sz+(b - a)*sz=b*sz:=by rw [←Nat.add_mul];congr 1;omega
 have h2:b*sz<=es.length*sz:=Nat.mul_le_mul_right sz hb;have hl:=h.len;refine⟨by simp only [La,Lb];rw [Nat.min_eq_left (by omega),Nat.min_eq_left (by omega)],eF h.flat _ _,fun j e hj=>?_⟩;rw [fo] at hj;split at hj
 ·rename_i hlt;have h3:=bw (z:=sz) hlt;have:((((cs.drop (a*sz)).take ((b - a)*sz)).drop (j*sz)).take sz)=(cs.drop ((a+j)*sz)).take sz:=by rw [List.drop_take,List.take_take,List.drop_drop,Nat.min_eq_left (by omega),Nat.add_mul]
  rw [this];exact h.el _ e hj
 ·cases hj
theorem m5 {x:Option aD} (h:ia x=true):∃k,x=some (.c (.int k (.ofNat 0))):=by
 unfold ia at h;split at h
 ·exact⟨_,rfl⟩
 ·cases h
def I5 (mx:Option aD) (c:Option Nat) (m a:Nat):Option Nat:=match mx with
 |some _=>some (m - a)
 |none=>match c with
  |some c=>some (c - a)
  |none=>none
theorem sG {es n a b m:Nat} {ρ:aD->AV} {cs cs':List AV} {lo hi mx:Option aD} {c:Option Nat} (q1:n*es=cs.length) (hb:gW ρ lo hi mx n n=some (a,b,m)) (q2:cut cs (a*es) ((b - a)*es)=some cs') :
  vM es ρ (.bO cs n c) lo hi mx=some (.bO cs' (b - a) (I5 mx c m a)):=by
 have h1:Nat.beq (Nat.mul n es) cs.length=true:=by simpa using q1
 have h2:cut cs (Nat.mul a es) (Nat.mul (Nat.sub b a) es)=some cs':=q2;simp only [vM,h1,hb,h2,cond_true];cases mx<;>cases c<;>rfl
theorem DS (hR:R A V st) (ha:act g) {es:Nat} {x:aD} {lo hi mx:Option aD} (h:cS V g x fun w=>wP nt V d g es w lo hi mx k):bt cf nt A V st d (.gK es x lo hi mx) k:=by
 obtain⟨w,hw,hk⟩:=bq hR ha h;have hz:=(cx hk).1;replace hk:=(cx hk).2;clear h;have qxc:kind (.gK es x lo hi mx)=.plan fun ρ=>cV (vM es ρ (ρ x) lo hi mx):=rfl
 generalize he:ev st.env x=p at hw;have fin:∀{v:AV},vM es (ev st.env) p lo hi mx=some v->Next nt A V st d v st.H st.nx k->bt cf nt A V st d (.gK es x lo hi mx) k:=
  fun h1 h2=>aI qxc (by rw [he,h1];rfl) h2
 cases hw with
 |@sl O _ hO=>
  dsimp only at hk;split at hk;rotate_left
  ·cases hk
  rename_i z xs ho;split at hk;rotate_left
  ·cases hk
  split at hk;rotate_left
  ·cases hk
  obtain⟨rfl,hk2⟩:=aO hk;obtain⟨l,⟨m,h1,h2⟩,hl⟩:=j3 (g:=none) hR trivial hk2;obtain⟨y,hy,hs⟩:=hR.heap O _ ho;rw [hO] at hy;cases hy;have hm:m<=xs.length:=by
   unfold BT at h1;split at h1
   ·cases h1;exact LA _
   ·exact(l_ h1).2
   ·cases h1
  have hb:gW (ev st.env) lo none none xs.length xs.length=some (m,xs.length,xs.length):=by
   have e0:∀n,yb (ev st.env) none n xs.length=some n:=fun _=>rfl
   simp only [gW,e0,n7 hl h1]
  have nxt:∀{a:AV},a.one=true->nR st.H z (xs.drop m) a->(∀id,bJ a=some id->bJ p=some id)->Next nt A V st d a st.H st.nx k:=fun {a} h3 h4 h5=>
   qW (a:=a) (nx':=st.nx) (hR.bk O) (bh V O).H h2 (LB _) hR.fresh (fun _ _=>rfl) (fun _ _ _=>rfl) (fun A' _=>h4) h3
    (fun id hi=>⟨cz hR ho hO (.inl (h5 id hi)),.inl ⟨O,_,_,ho,hO,.inl (h5 id hi)⟩⟩) (fun A' O hO=>.sl hO)
  rcases hs.2 with ⟨rfl,rfl|rfl⟩|⟨id,gg,b,cells,rfl,hH,hbl,hE⟩
  ·simp at hm;subst hm;exact fin (by simp only [vM];simp only [List.length_nil] at hb;rw [hb]) (nxt rfl ⟨hz,.inl ⟨by simp,.inl rfl⟩⟩ (fun id hi=>hi))
  ·simp at hm;subst hm;refine fin (v:=.bO [] 0 (some 0)) ?_ (nxt rfl ⟨hz,.inl ⟨by simp,.inr rfl⟩⟩ (fun id hi=>hi));simp only [List.length_nil] at hb;simp only [vM,cond_eq_ite,Lq];rw [if_pos (by simp),hb];simp [b8]
  ·have hl':=hE.len;rw [Lb] at hl';refine fin (v:=.ref id gg (b+m*z) z (xs.length - m) (xs.length - m) false) ?_ (nxt rfl ⟨hz,.inr ⟨id,gg,b+m*z,cells,by simp,hH,?_,?_⟩⟩ (fun id hi=>hi))
   ·simp only [vM,cond_eq_ite,Lq,if_pos,hb];rfl
   ·have:=Nat.mul_le_mul_right z hm;omega
   ·have hE':=wS hE hm (LB _);have e1:(xs.drop m).take (xs.length - m)=xs.drop m:=Lx (by simp);have e2:((cells.drop b).drop (m*z)).take ((xs.length - m)*z)=cells.drop (b+m*z):=by rw [List.drop_drop,Lx];rw [Lb,Nat.sub_mul];omega
    rwa [e1,e2] at hE'
 |@tr v _ hc=>
  dsimp only at hk;split at hk
  ·obtain⟨l,hk1,hl⟩:=j3 hR ha hk;obtain⟨h,hk2,hh⟩:=j3 hR ha hk1;obtain⟨r,⟨h1,h2⟩,h3⟩:=ou ha hk2;clear hk hk1 hk2;unfold Ja at h1;split at h1
   ·rename_i xs;split at h1
    ·rename_i a b hab;cases h1;obtain⟨hb,qjD,qz6⟩:=yc hl hh hab;cases hc with
     |nil=>refine fin (v:=.ak) (by simp only [vM];simp only [List.length_nil] at hb;rw [hb]) (av hR (fun _=>.tr ?_) h3);simp;exact .nil
     |bO _ cs n z c hn hcl hsz hf hcc=>
      subst hn;have hE:tD z xs cs:=⟨hcl,hf,hcc⟩;have qxg:∀z',(z'=z\/xs=[])->xs.length*z'=cs.length/\cut cs (a*z') ((b - a)*z')=some ((cs.drop (a*z)).take ((b - a)*z)):=by
       intro z' hz';rcases hz' with rfl|rfl
       ·refine⟨hcl.symm,?_⟩;have:=Nat.mul_le_mul_right z' qz6;have h1:a*z'+(b - a)*z'=b*z':=by rw [←Nat.add_mul];congr 1;omega
        rw [b8,if_pos (by omega)]
       ·simp only [List.length_nil,Nat.zero_mul] at hcl qz6 ⊢;have:cs=[]:=Lw.1 hcl;subst this;have:b=0:=by omega
        subst this;have:a=0:=by omega
        subst this;simp [b8]
      obtain⟨q1,q2⟩:=qxg es (by rcases sD (h2 xs rfl) rfl hcl hcc with h|h;exact .inr h;exact .inl h);have hE':=wS hE qjD qz6;have hcan:∀c',Can (.l ((xs.drop a).take (b - a))) (.bO ((cs.drop (a*z)).take ((b - a)*z)) (b - a) c'):=fun c'=>by have:=tf hsz hE' c';rwa [show ((xs.drop a).take (b - a)).length=b - a by simp;omega] at this
      exact fin (sG q1 hb q2) (av hR (fun _=>.tr (hcan _)) h3)
    ·cases h1
   ·cases h1
  ·split at hk
   ·rename_i qxh;simp only [Lm] at qxh;obtain⟨⟨⟨hc1,hc2⟩,hc3⟩,hc4⟩:=qxh;obtain⟨k1,rfl⟩:=m5 hc1;obtain⟨k2,hm2⟩:=m5 hc2;cases hm2;obtain rfl:lo=none:=(by cases lo<;>first|rfl|cases hc3);obtain⟨l,h1,hsz,h2⟩:=hk;cases v<;>first|(cases h1;done)|skip
    cases h1;cases hc with
    |nil=>exact fin (v:=.ak) rfl (av hR (fun _=>.bE) h2)
    |bO _ cs n z c hn hcl hz' hf hcc=>
     refine fin (v:=.bO [] 0 (some 0)) ?_ (av hR (fun _=>.iN) h2);have q1:n*es=cs.length:=by
      rcases sD hsz hn hcl hcc with h|h
      ·subst h;simp at hn;subst hn;simp at hcl;simp [hcl]
      ·rw [h,hcl]
     have hb:gW (ev st.env) none (some (.c (.int k1 (.ofNat 0)))) (some (.c (.int k2 (.ofNat 0)))) n n=some (0,0,0):=by rfl
     exact sG q1 hb (by simp [b8])
   ·cases hk
 |bE=>
  dsimp only at hk;split at hk
  ·rename_i qxh;simp only [Lm] at qxh;obtain⟨⟨hc1,hc2⟩,hc3⟩:=qxh;obtain⟨k1,rfl⟩:=m5 hc1;obtain⟨k2,rfl⟩:=m5 hc2;obtain rfl:lo=none:=(by cases lo<;>first|rfl|cases hc3);exact fin (v:=.ak) rfl (av hR (fun _=>.bE) hk)
  ·cases hk
 |iN=>
  dsimp only at hk;split at hk
  ·rename_i qxh;simp only [Lm] at qxh;obtain⟨⟨hc1,hc2⟩,hc3⟩:=qxh;obtain⟨k1,rfl⟩:=m5 hc1;obtain⟨k2,rfl⟩:=m5 hc2;obtain rfl:lo=none:=(by cases lo<;>first|rfl|cases hc3);refine fin (v:=.bO [] 0 (some 0)) ?_ (av hR (fun _=>.iN) hk);have hb:gW (ev st.env) none (some (.c (.int k1 (.ofNat 0)))) (some (.c (.int k2 (.ofNat 0)))) 0 0=some (0,0,0):=by rfl
   exact sG (by simp) hb (by simp [b8])
  ·cases hk
 |_=>cases hk
theorem Cn (hR:R A V st) {len es:Nat} {x:aD} {hi:Option aD} (hz:0 < es) (h:cS V none x fun w=>iS nt V d len es w hi k):bt cf nt A V st d (.gy len es x none hi none) k:=by
 obtain⟨w,hw,hk⟩:=bq (g:=none) hR trivial h;generalize he:ev st.env x=p at hw;have go:∀{O off id:Nat} {v:TV} {ovs:List (Nat×VV)} {u:TV},p=.ptr id 0 off->A O=some (.ptr id 0 0)->V.H.get O=some (.ob v ovs)->dB v off (len*es)=some u->(mJ V none hi fun h=>∃m,BT h len len=some m/\bY nt V d none (.sa O off m es) k)->bt cf nt A V st d (.gy len es x none hi none) k:=by
  intro O off id v ovs u e0 hO ho hu hk;subst e0;obtain⟨l,⟨m,h1,h2⟩,hl⟩:=j3 (g:=none) hR trivial hk;obtain⟨z,hz',id',cs,ts,rfl,hH,hc⟩:=hR.heap O _ ho;rw [hO] at hz';cases hz';obtain⟨ts',_,q2,q3,_⟩:=fB hu;have:=hc.cells.symm.trans q2;cases this;have hb:gW (ev st.env) none hi none len len=some (0,m,len):=by
   have e0:∀n y,yb (ev st.env) none n y=some n:=fun _ _=>rfl
   simp only [gW,e0,n7 hl h1]
  have qxg:cut cs off (Nat.mul len es)=some ((cs.drop off).take (len*es)):=by rw [b8];exact if_pos (by rw [←hc.len];exact q3)
  have qxc:kind (.gy len es x none hi none)=.plan fun ρ=>gP ρ len es x none hi none:=rfl
  refine⟨.ref id 0 off es m len true,st.H,st.nx,?_,av hR (fun _=>.sa hz hO) h2⟩;simp only [eu,qxc,gP,he,hb,bD,c5,cg,hH,Nat.beq_refl,cond_true,qxg,eG,mz];simp
 cases hw with
 |@ptr O off id hO=>
  simp only [iS] at hk;split at hk
  ·rename_i v ovs ho;obtain⟨u,h1,h2⟩:=hk;exact go rfl hO ho h1 h2
  ·cases hk
 |@pd O off id hO=>
  simp only [iS] at hk;split at hk
  ·rename_i v ovs ho;obtain⟨u,h1,h2⟩:=hk;exact go rfl hO ho h1 h2
  ·cases hk
 |_=>cases hk
theorem CO {sz:Nat} {es:List TV} {cs:List AV} (h:tD sz es cs) (n:Nat):tD sz (es.take n) (cs.take (min es.length n*sz)):=by
 have:=wS h (a:=0) (b:=min es.length n) (LA _) (Nat.min_le_left _ _);rw [Nat.zero_mul,List.drop_zero,List.drop_zero,Nat.sub_zero] at this;have e:es.take (min es.length n)=es.take n:=by rw [List.take_eq_take_min (i:=n),Nat.min_comm]
 rwa [e] at this
theorem FC (hR:R A V st) {es:Nat} {s x:aD} (hz:0 < es) (h:cS V none s fun w=>cS V none x fun x=>u7 nt V d es w x k):bt cf nt A V st d (.zc es s x) k:=by
 obtain⟨w,hw,h⟩:=bq (g:=none) hR trivial h;obtain⟨y,hy,hk⟩:=bq (g:=none) hR trivial h;generalize he:ev st.env s=p at hw;cases hw with
 |@sa O off n z id cap hz' hO=>
  simp only [u7] at hk;obtain⟨rfl,hk⟩:=aO hk;split at hk;rotate_left
  ·cases hk
  rename_i v ovs ho;split at hk;rotate_left
  ·cases hk
  obtain⟨xs,src,l,hx,u,hcp,hk⟩:=tR hR hz hy hk;obtain⟨q,hq,id',cs,ts,rfl,hH,hc⟩:=hR.heap O _ ho;rw [hO] at hq;cases hq;obtain⟨cs',us,h3,h4⟩:=vb hc hcp (CO hx.el n);have qxc:kind (.zc z s x)=.plan fun ρ=>va z (ρ s) (ρ x):=rfl
  have qzu:first (src.cs l) (Nat.mul (min xs.length n) z)=some ((src.cs l).take (min xs.length n*z)):=by rw [lV];exact if_pos (by rw [hx.el.len];exact Nat.mul_le_mul_right z (Nat.min_le_left _ _))
  obtain⟨g1,g2⟩:=lu (o:=.ob u []) (ob:=.row 0 cs') hR ho hO (.inl rfl) ⟨_,cs',us,rfl,by rw [Map.au,if_pos rfl],h4⟩ (fun id hi=>(bQ rfl).2 ((bQ rfl).1 hi)) (fun _=>kH rfl);obtain⟨e',p1,V2,A2,p2,p3,p4,p5⟩:=av (g:=none) (v:=.int .i64 ((min xs.length n:Nat):Int)) g1 (fun _=>VR.tr (.i _ _)) hk;refine⟨.int .i64 ((min xs.length n:Nat):Int),_,_,?_,e',p1,V2,A2,p2,g2.trans p3,(Ext.uy A (gm.set rfl)).trans p4,p5⟩;simp only [eu,qxc,va,he,hx.eq,Nat.beq_refl,cond_true,bD,c5,hx.get,eG,hH,mD,qzu,h3,mz];rw [show (min (xs.length:Int) (n:Int))=((min xs.length n:Nat):Int) by omega]
 |_=>cases hk
end
end Go.Ax.V
namespace Go.Ax.V
section
variable {prog:Map aq} {cf:eC} {nt:Nat} {A:aS} {V:ay} {st:St} {d:Option Nat} {g:G} {k:ay->Prop}
theorem tY (zero:List AV):∀m,(rows m zero).length=m*zero.length
 |0=>by simp [rows]
 |m+1=>by have:=tY zero m;unfold rows at this ⊢;rw [List.replicate_succ,List.flatten_cons,K_,this,Nat.add_mul,Nat.one_mul,Nat.add_comm]
theorem tX (zero:List AV):∀m j,j < m->((rows m zero).drop (j*zero.length)).take zero.length=zero
 |0,j,h=>by omega
 |m+1,0,h=>by unfold rows;rw [List.replicate_succ,List.flatten_cons,Nat.zero_mul,List.drop_zero,List.take_left]
 |m+1,j+1,h=>by have:=tX zero m j (by omega);unfold rows at this ⊢;rw [List.replicate_succ,List.flatten_cons,Nat.add_mul,Nat.one_mul,Nat.add_comm,List.drop_append,List.drop_of_length_le (by omega),List.nil_append];rwa [show zero.length+j*zero.length - zero.length=j*zero.length by omega]
theorem si {cs:List AV} (h:bn cG cs=true):ep (bG cs) cs/\∀x∈cs,AV.flat x=true:=by refine⟨⟨fH cs,fun j t x ht hx=>?_⟩,fun x hx=>(gi (aF.1 h x hx)).2⟩;rw [jO,hx] at ht;cases ht;exact(gi (aF.1 h x (K8 hx))).1
theorem zg {zero:List AV} (h:bn cG zero=true):jS (xb zero.length zero) zero:=by
 have hb:=(si h).1;have ag:jS (.a (bG zero)) zero:=.a _ _ hb.1 hb.2;unfold xb;split
 ·rename_i hl
  match zero,hl,h with
  |[x],_,h=>have hx:=aF.1 h x Lf;refine .one _ _ ?_ (gi hx).1;cases x<;>first|rfl|cases hx
 ·exact ag
theorem DU (hR:R A V st) {es bytes:Nat} {zero:List AV} {n:aD} (h:pos es <| match bn cG zero&&Nat.beq zero.length es with
   |true=>gk V none n fun n=>∃m,DZ bytes n=some m/\ff nt V d none .sl (.gr es (List.replicate m (xb es zero))) k
   |false=>False):bt cf nt A V st d (.jr es bytes zero n) k:=by
 have hz:=(cx h).1;replace h:=(cx h).2;split at h
 ·rename_i hc;rw [Lm,Lq] at hc;obtain⟨hc,rfl⟩:=hc;obtain⟨v,hv,m,h1,h2⟩:=bz (g:=none) hR trivial h;unfold DZ at h1;split at h1
  ·rename_i ki z;generalize he:ev st.env n=p at hv;cases hv;split at h1
   ·rename_i m' hm;rw [cond_eq_ite] at h1;split at h1
    ·rename_i qxh;cases h1;refine nT (f:=fun id=>.ref id 0 0 zero.length m m false) (ob:=.row 0 (rows m zero)) rfl ?_ (fU hR h2 (fun A' hA=>⟨hz,.inr ⟨st.nx,0,0,rows m zero,by simp,by rw [Map.au,if_pos rfl],LA _,?_⟩⟩) rfl rfl (fun A' O hO=>.sl hO))
     ·simp only [nu,he,hm,qxh,cond_true]
     ·rw [List.drop_zero];refine⟨by rw [tY,List.length_replicate],fun x hx=>?_,fun j e hj=>?_⟩
      ·unfold rows at hx;obtain⟨l,hl,hx⟩:=List.mem_flatten.1 hx;rw [List.mem_replicate] at hl;rw [hl.2] at hx;exact(si hc).2 x hx
      ·have hlt:j < m:=by have:=(KY.1 hj).1;simpa using this
       rw [List.getElem?_replicate,if_pos hlt] at hj;cases hj;rw [tX zero m j hlt];exact zg hc
    ·cases h1
   ·cases h1
  ·cases h1
 ·cases h
theorem FE (hR:R A V st) (ha:act g) {op:BinOp} {x y:aD} (h:gk V g x fun x=>gk V g y fun y=>cP nt V d g (eN op x y) k):bt cf nt A V st d (.bin op x y) k:=by
 obtain⟨u,h1,h⟩:=bz hR ha h;obtain⟨w,h2,h⟩:=bz hR ha h;obtain⟨r,h3,h4⟩:=aM hR ha h;obtain⟨c,h5,h6⟩:=Bz h3 h1 h2;have hk:kind (.bin op x y)=.plan fun ρ=>cV (vo op (ρ x) (ρ y)):=rfl
 exact aI hk (by simp only [h5,cV]) (h4 _ h6)
theorem IN (hR:R A V st) (ha:act g) {op:UnOp} {x:aD} (h:gk V g x fun x=>cP nt V d g (C6 op x) k):bt cf nt A V st d (.un op x) k:=by
 obtain⟨u,h1,h⟩:=bz hR ha h;obtain⟨r,h3,h4⟩:=aM hR ha h;obtain⟨c,h5,h6⟩:=B1 h3 h1;have hk:kind (.un op x)=.plan fun ρ=>cV (Du op (ρ x)):=rfl
 exact aI hk (by simp only [h5,cV]) (h4 _ h6)
theorem DX (hR:R A V st) (ha:act g) {c:IntKind} {x:aD} (h:gk V g x fun x=>cP nt V d g (Br c x) k):bt cf nt A V st d (.conv c x) k:=by
 obtain⟨u,h1,h⟩:=bz hR ha h;obtain⟨r,h3,h4⟩:=aM hR ha h;unfold Br at h3;split at h3
 ·cases h3;generalize he:ev st.env x=p at h1;cases h1;exact aI rfl (by simp only [nv,he]) (h4 _ (.i _ _))
 ·cases h3
theorem CJ {t:vC} {neg:Bool} {x y r:TV} {a b:AV} (h:FU t neg x y=some r) (ha:Can x a) (hb:Can y b):∃c,BR t a b=some c/\r=.b (bif neg then !c else c):=by
 cases t with
 |one l=>
  simp only [FU] at h;cases hx:lU x with
  |none=>rw [hx] at h;cases h
  |some x'=>
   rw [hx] at h;cases hy:lU y with
   |none=>rw [hy] at h;cases h
   |some y'=>
    rw [hy] at h;simp only at h;cases hc:Bk l x' y' with
    |none=>rw [hc] at h;cases h
    |some c=>rw [hc] at h;cases h;exact⟨c,by rw [fF hx ha,fF hy hb];exact hc,by cases neg<;>rfl⟩
 |agg ls=>
  cases ha<;>first|(cases h;done)|skip
  rename_i xs as hl hf hh;cases hb<;>first|(cases h;done)|skip
  rename_i ys bs hl' hf' hh';simp only [FU] at h;cases hx:jC xs with
  |none=>rw [hx] at h;cases h
  |some x'=>
   rw [hx] at h;cases hy:jC ys with
   |none=>rw [hy] at h;cases h
   |some y'=>
    rw [hy] at h;simp only at h;cases hc:vz ls x' y' with
    |none=>rw [hc] at h;cases h
    |some c=>rw [hc] at h;cases h;refine⟨c,?_,by cases neg<;>rfl⟩;rw [iO hx ⟨hl,hh⟩,iO hy ⟨hl',hh'⟩];exact hc
 |slice=>cases h
theorem FB (hR:R A V st) (ha:act g) {t:vC} {neg:Bool} {x y:aD} (h:gk V g x fun x=>gk V g y fun y=>cP nt V d g (FU t neg x y) k):bt cf nt A V st d (.eq t neg x y) k:=by
 obtain⟨u,h1,h⟩:=bz hR ha h;obtain⟨w,h2,h⟩:=bz hR ha h;obtain⟨r,h3,h4⟩:=aM hR ha h;have hk:kind (.eq t neg x y)=.plan fun ρ=>Ap ρ t neg x y:=rfl
 obtain⟨c,h5,rfl⟩:=CJ h3 h1 h2;exact aI hk (by simp only [Ap,h5];cases neg<;>rfl) (h4 _ (.b _))
theorem FA (hR:R A V st) {neg:Bool} {x y:aD} (hy:AY y=true) (h:gk V none x fun x=>∃es:List TV,xH x=some es/\∀b:Bool,(es≠[]->b=neg)->bY nt V d none (.tr (.b b)) k):bt cf nt A V st d (.eq .slice neg x y) k:=by
 obtain⟨u,h1,es,h2,h3⟩:=bz (g:=none) hR trivial h;have hk:kind (.eq .slice neg x y)=.plan fun ρ=>Ap ρ .slice neg x y:=rfl
 have hyv:ev st.env y=.ak:=by
  cases y with
  |c v=>cases v<;>first|rfl|cases hy
  |t n=>cases hy
 have hc:∃c,BR .slice (ev st.env x) .ak=some c/\(es≠[]->c=false):=by
  generalize ev st.env x=a at h1;cases h1<;>first|(cases h2;done)|skip
  ·cases h2;exact⟨true,rfl,fun h=>absurd rfl h⟩
  ·exact⟨false,rfl,fun _=>rfl⟩
 obtain⟨c,h4,h5⟩:=hc;refine aI hk (v:=.bool (bif neg then !c else c)) (by simp only [Ap,hyv,h4];cases neg<;>rfl) (av hR (fun _=>.tr (.b _)) (h3 _ (fun hne=>?_)));rw [h5 hne];cases neg<;>rfl
theorem Fv (hR:R A V st) (ha:act g) {mx:Bool} {xs:List aD} (h:zV V g xs fun xs=>cP nt V d g (D0 mx xs) k):bt cf nt A V st d (.vv mx xs) k:=by
 obtain⟨vs,h1,h⟩:=ud hR ha h;obtain⟨r,h3,h4⟩:=aM hR ha h;unfold D0 at h3;split at h3
 ·rename_i v l hl;split at h3
  ·rename_i r' hr;have e:=iO hl h1;have hk:kind (.vv mx xs)=.plan fun ρ=>sP ρ mx xs:=rfl
   exact aI hk (by simp only [sP,e,hr,cV]) (h4 _ (mU h3))
  ·cases h3
 ·cases h3
theorem Fx (hR:R A V st) (ha:act g) {x i:aD} (h:gk V g x fun x=>gk V g i fun i=>cP nt V d g (A8 x i) k):bt cf nt A V st d (.idx x i) k:=by
 obtain⟨u,h1,h⟩:=bz hR ha h;obtain⟨w,h2,h⟩:=bz hR ha h;obtain⟨r,h3,h4⟩:=aM hR ha h;unfold A8 at h3;split at h3
 ·split at h3
  ·split at h3
   ·rename_i b hb;cases h3;generalize e1:ev st.env x=p at h1;generalize e2:ev st.env i=q at h2;cases h1;cases h2;exact aI rfl (by simp only [um,e1,e2,hb]) (h4 _ (.i _ _))
   ·cases h3
  ·cases h3
 ·cases h3
theorem Cm (hR:R A V st) (ha:act g) {x:aD} {lo hi:Option aD} (h:gk V g x fun x=>mJ V g lo fun lo=>mJ V g hi fun hi=>cP nt V d g (vK x lo hi) k):bt cf nt A V st d (.iX x lo hi) k:=by
 obtain⟨u,h1,h⟩:=bz hR ha h;obtain⟨l,h,hl⟩:=j3 hR ha h;obtain⟨hv,h,hh⟩:=j3 hR ha h;obtain⟨r,h3,h4⟩:=aM hR ha h;unfold vK at h3;split at h3
 ·split at h3
  ·rename_i a b hab;cases h3;obtain⟨hb,_,_⟩:=yc hl hh hab;generalize e1:ev st.env x=p at h1;cases h1;exact aI rfl (by simp only [jm,e1,hb]) (h4 _ (.s _))
  ·cases h3
 ·cases h3
theorem Fz (hR:R A V st) (ha:act g) {i:Nat} {x:aD} (h:gk V g x fun x=>cP nt V d g (u0 i x) k):bt cf nt A V st d (.ext i x) k:=by
 obtain⟨u,h1,h⟩:=bz hR ha h;obtain⟨r,h3,h4⟩:=aM hR ha h;unfold u0 at h3;split at h3
 ·rename_i vs;generalize e1:ev st.env x=p at h1;cases h1 with
  |tp _ as hl hf hh=>
   have hlt:i < as.length:=by rw [←hl];exact(KY.1 h3).1
   have hx:as[i]?=some as[i]:=KX hlt;exact aI rfl (by simp only [uq,e1,hx,cV]) (h4 _ (hh i r _ h3 hx))
 ·cases h3
def sc (t:TV):Bool:=match t with|.l _=>false|.a _=>false|.tp _=>false|.nM _ _=>false|_=>true
theorem uQ {d:Nat} {H:aE} {v a:AV} (h:aL (d+1) H v=some a) (hi:∀cs n c,a≠.bO cs n c) (ha:∀cs,a≠.agg cs) (ht:∀cs,a≠.dc cs):v=a:=by
 cases v with
 |ref id g off es len cap ex=>
  rw [dU] at h;split at h
  ·rw [cond_eq_ite] at h;split at h
   ·split at h
    ·split at h
     ·cases h;exact absurd rfl (hi _ _ _)
     ·cases h
    ·cases h
   ·cases h
  ·cases h
 |agg cs=>
  rw [dV] at h;split at h
  ·cases h;exact absurd rfl (ha _)
  ·cases h
 |dc cs=>
  rw [fy] at h;split at h
  ·cases h;exact absurd rfl (ht _)
  ·cases h
 |ptr=>cases h
 |iZ=>cases h
 |_=>exact Ly h
theorem fJ {t:TV} {a v:AV} (h:Can t a) (hs:sc t=true) {d:Nat} {H:aE} (him:aL (d+1) H v=some a):own (d+1) H v=true:=by
 cases h<;>first|(cases hs;done)|skip
 all_goals
  have:=uQ him (fun _ _ _ h=>by cases h) (fun _ h=>by cases h) (fun _ h=>by cases h);subst this;rfl
theorem vp {ts:List TV} {as vs:List AV} {d:Nat} {H:aE} (f:TV->Bool) (ho:∀t a v,Can t a->f t=true->aL d H v=some a->own d H v=true) (hc:ep ts as) (hs:∀t∈ts,f t=true) (hm:ck (aL d H) vs=some as):bn (own d H) vs=true:=by
 rw [aF];intro v hv;obtain⟨j,hj⟩:=List.getElem?_of_mem hv;obtain⟨hl,hat⟩:=fC hm;obtain⟨a,ha,him⟩:=hat j v hj;have hlt:j < ts.length:=by rw [hc.1];exact(KY.1 ha).1
 exact ho _ a v (hc.2 j _ a (KX hlt) ha) (hs _ (List.getElem_mem hlt)) him
theorem qu {t:TV} {a v:AV} (h:Can t a) (hs:t.xj=true) {d:Nat} {H:aE} (him:aL (d+2) H v=some a):own (d+2) H v=true:=by
 cases h with
 |a ts as hl hf hh=>
  have hs':=aF.1 hs;cases v with
  |agg cs=>
   rw [dV] at him;split at him
   ·rename_i cs' hm;cases him;rw [xw];exact vp sc (fun t a v h1 h2 h3=>fJ h1 h2 h3) ⟨hl,hh⟩ (fun t ht=>hs' t ht) hm
   ·cases him
  |ref id g off es len cap ex=>
   rw [dU] at him;split at him
   ·rw [cond_eq_ite] at him;split at him
    ·split at him
     ·split at him<;>cases him
     ·cases him
    ·cases him
   ·cases him
  |dc cs=>rw [fy] at him;split at him<;>cases him
  |_=>cases him
 |tp ts as hl hf hh=>cases hs
 |nM x u hf h=>cases hs
 |nil=>cases hs
 |bO=>cases hs
 |i k n=>exact fJ (.i k n) rfl him
 |b x=>exact fJ (.b x) rfl him
 |s x=>exact fJ (.s x) rfl him
 |f n=>exact fJ (.f n) rfl him
 |np=>exact fJ .np rfl him
theorem zB {t:TV} {a v:AV} (h:Can t a) (hs:t.ym=true) {d:Nat} {H:aE} (him:aL (d+3) H v=some a):own (d+3) H v=true:=by
 cases h with
 |tp ts as hl hf hh=>
  have hs':=aF.1 hs;cases v with
  |dc cs=>
   rw [fy] at him;split at him
   ·rename_i cs' hm;cases him;rw [xu];exact vp TV.xj (fun t a v h1 h2 h3=>qu h1 h2 h3) ⟨hl,hh⟩ (fun t ht=>hs' t ht) hm
   ·cases him
  |ref id g off es len cap ex=>
   rw [dU] at him;split at him
   ·rw [cond_eq_ite] at him;split at him
    ·split at him
     ·split at him<;>cases him
     ·cases him
    ·cases him
   ·cases him
  |agg cs=>rw [dV] at him;split at him<;>cases him
  |_=>cases him
 |a ts as hl hf hh=>exact qu (.a ts as hl hf hh) hs him
 |nil=>cases hs
 |bO=>cases hs
 |i k n=>exact fJ (.i k n) rfl him
 |b x=>exact fJ (.b x) rfl him
 |s x=>exact fJ (.s x) rfl him
 |f n=>exact fJ (.f n) rfl him
 |nM x u hf h=>cases hs
 |np=>exact fJ .np rfl him
theorem rW {ts:List TV} {Q:TV->Prop} {f:Nat} {vs as':List AV} {H:aE} {nx:Nat} {p:Bool} (h:VS prog f ts fun r=>qf p r/\Q r) (h1:ck (aL deep H) vs=some as') (h2:ep ts as')
  (h3:bn AV.plain vs=true->as'=vs) (h4:p=true->bn AV.plain vs=true):∃v r,bF (aX prog) f vs .borrow H nx=some (v,H,nx)/\Can r v/\Q r:=by
 obtain⟨v,H',nx',g1,a,g2,r,g3,g4,g5⟩:=h as' h2;by_cases hp:bn AV.plain vs=true
 ·have e:=h3 hp;subst e;refine⟨a,r,?_,g3,g5⟩;have hend:di (some (v,H',nx')) false=some a:=by
   simp only [di,cond_eq_ite];rw [if_neg (by decide)];by_cases hv:v.plain=true
   ·rw [if_pos hv];have:aL deep H' v=some v:=fE hv 27 _;rw [this] at g2;exact g2
   ·rw [if_neg hv];exact g2
  simp only [bF,hp,cond_true,g1,hend]
 ·have hpf:p=false:=by cases p with|true=>exact absurd (h4 rfl) hp|false=>rfl
  subst hpf;refine⟨a,r,?_,g3,g5⟩;have ho:own deep H' v=true:=zB (d:=27) g3 g4 g2;have hpb:bn AV.plain vs=false:=by simpa using hp
  simp only [bF,hpb,cond_false,h1,g1,di,cond_true,ho,g2]
theorem wV {ts:List TV} {Q:TV->Prop} {f:Nat} {vs as':List AV} {H:aE} {nx:Nat} (h:GY prog f ts Q) (h1:ck (aL deep H) vs=some as') (h2:ep ts as')
  (h3:bn AV.plain vs=true->as'=vs):∃v r,bF (aX prog) f vs .borrow H nx=some (v,H,nx)/\Can r v/\Q r:=by
 obtain⟨v,H',nx',g1,ho,a,g2,r,g3,g5⟩:=h as' h2;by_cases hp:bn AV.plain vs=true
 ·have e:=h3 hp;subst e;refine⟨a,r,?_,g3,g5⟩;have hend:di (some (v,H',nx')) false=some a:=by
   simp only [di,cond_eq_ite];rw [if_neg (by decide)];by_cases hv:v.plain=true
   ·rw [if_pos hv];have:aL deep H' v=some v:=fE hv 27 _;rw [this] at g2;exact g2
   ·rw [if_neg hv];exact g2
  simp only [bF,hp,cond_true,g1,hend]
 ·refine⟨a,r,?_,g3,g5⟩;have hpb:bn AV.plain vs=false:=by simpa using hp
  simp only [bF,hpb,cond_false,h1,g1,di,cond_true,ho,g2]
theorem sQ {sh:Sh} (hR:R A V st) (ha:act g) {f:Nat} {args:List aD} (h:pz sh prog nt V d g f args k):∃v,bF (aX prog) f (args.map (ev st.env)) .borrow st.H st.nx=some (v,st.H,st.nx)/\Next nt A V st d v st.H st.nx k:=by
 obtain⟨p,ts,as',hk,h1,h2,h3,h4⟩:=sj hR ha args _ h;cases g with
 |none=>
  dsimp only at hk;split at hk
  ·obtain⟨v,r,g1,g2,g3⟩:=rW (nx:=st.nx) hk h1 h2 h3 h4;exact⟨v,g1,av hR (fun _=>.tr g2) g3⟩
  ·obtain⟨v,r,g1,g2,g3⟩:=wV (nx:=st.nx) hk h1 h2 h3;exact⟨v,g1,av hR (fun _=>.tr g2) g3⟩
 |some q=>
  obtain⟨c,bb⟩:=q;obtain⟨r,hg,hput⟩:=hk;have hc:c=.b bb:=ha;subst hc;have hg':VS prog f ts fun r'=>r'=r/\qf p r:=by unfold gV at hg;cases bb<;>exact hg
  have hg'':VS prog f ts fun r'=>qf p r'/\r'=r:=hg'.mono (fun r' ⟨e,hs⟩=>by subst e;exact⟨hs,rfl⟩)
  obtain⟨v,r',g1,g2,g3⟩:=rW (nx:=st.nx) hg'' h1 h2 h3 h4;subst g3;exact⟨v,g1,av hR (fun _=>.tr g2) hput⟩
end
end Go.Ax.V
namespace Go.Ax.V
section
variable {prog:Map aq} {nt:Nat}
section
variable {A:aS} {V:ay} {st:St}
theorem xl (hR:R A V st) {n:Nat} {k:TV->Prop} (h:gk V none (.t n) k):∃c a,st.env.get n=some a/\Can c a/\k c:=by
 obtain⟨c,h1,h2⟩:=bz (g:=none) hR trivial h;simp only [gk,cS] at h;split at h
 ·cases h
 ·rename_i e he;obtain⟨a,ha,_⟩:=hR.env n e he;rw [sZ ha] at h1;exact⟨c,a,ha,h1,h2⟩
end
theorem fK {A:aS} {V:ay} {st:St} (h:R A V st) {t:Nat} {w:VV} {a:AV} (ha:st.env.get t=some a) (hw:VR A w a):R A (eO V t w) st where
 env t' e he:=by
  simp only [eO,Map.au] at he;split at he
  ·rename_i ht;subst ht;cases he;exact⟨a,ha,fun _=>hw⟩
  ·exact h.env t' e he
 heap:=h.heap
 inj:=h.inj
 used:=h.used
 one:=h.one
 fresh:=h.fresh
 dO:=h.dO
theorem q_ {A0:aS} {Vc:ay} {st:St} (hR:R A0 Vc st) {O:Nat} {o:VO} {k:ay->Prop} {a:AV} {inn:Nat->Option AV} {I:Nat->Prop} (h:lJ Vc O o k) (hi1:∀j x,inn j=some x->x.one=true)
  (hO:∀A':aS,(∀O x,A0 O=some x->A' O=some x)->(∀j,A' (.i O 0 j)=inn j)->(∀v j,0 < v->A' (.i O v j)=none)->OR A' st.H o a/\e8 A' O a o/\∀id,cC A' o a id->I id) (h1:a.one=true)
  (hI:∀id,I id->¬bN Vc A0 id):∃Vc' A',k Vc'/\R A' Vc' st/\(∀O' x,A0 O'=some x->A' O'=some x)/\A' O=some a/\Vc'.env=Vc.env/\(∀id,bN Vc' A' id->bN Vc A0 id\/I id)/\Vc'.H.get O=some o/\
   (∀(O':Nat) x,A' O'=some x->A0 O'=some x\/O'=O)/\(∀n x,A' n=some x->A0 n=some x\/Vc.us.get n.base=none):=by
 unfold lJ at h;split at h
 ·cases h
 rename_i hus;have hnone:∀n:TN,n.base=O->A0 n=none:=fun n hn=>hR.used n (by rw [hn];exact hus)
 have hA':=mY (a:=a) (inn:=inn) hnone;obtain⟨g1,g2,g3⟩:=hO (ig A0 O a inn) hA' (fun j=>Bi) (fun v j hv=>xR hv);refine⟨_,ig A0 O a inn,h,Dn hR.env hR.heap hR.inj hR.used hR.one hR.fresh hR.dO hus h1 hi1 g1 g2 (fun id hi=>hI id (g3 id hi)),hA',iR,rfl,fun id ⟨O',o',x,ho,hx,hi⟩=>?_,by simp only [Map.au,if_pos],fun O' x hx=>?_,fun n x hx=>?_⟩
 ·simp only [Map.au] at ho;by_cases e:O'=O
  ·subst e;rw [if_pos rfl] at ho;cases ho;rw [iR] at hx;cases hx;exact .inr (g3 id hi)
  ·rw [if_neg e] at ho;have hx':A0 O'=some x:=by rwa [c8 (n:=.s O') e] at hx
   rw [jD e (hR.dO O' _ _ ho hx')] at hi;exact .inl ⟨O',o',x,ho,hx',hi⟩
 ·by_cases e:O'=O
  ·exact .inr e
  ·exact .inl (by rwa [c8 (n:=.s O') e] at hx)
 ·by_cases e:n.base=O
  ·exact .inr (by rw [e];exact hus)
  ·exact .inl (by rwa [c8 e] at hx)
theorem uE {A0:aS} {Vc:ay} {st:St} (hR:R A0 Vc st) {O:Nat} {o:VO} {k:ay->Prop} {a:AV} (h:lJ Vc O o k) (hO:∀A':aS,(∀O x,A0 O=some x->A' O=some x)->OR A' st.H o a) (h1:a.one=true)
  (hid:∀id,bJ a=some id->¬bN Vc A0 id) (hpl:o.pl=true:=by rfl):∃Vc' A',k Vc'/\R A' Vc' st/\(∀O' x,A0 O'=some x->A' O'=some x)/\A' O=some a/\Vc'.env=Vc.env/\(∀id,bN Vc' A' id->bN Vc A0 id\/bJ a=some id)/\Vc'.H.get O=some o/\
   (∀(O':Nat) x,A' O'=some x->A0 O'=some x\/O'=O):=
 let ⟨Vc',A',g1,g2,g3,g4,g5,g6,g7,g8,_⟩:=q_ (inn:=fun _=>none) hR h (fun j x h=>by cases h) (fun A' h2 _ _=>⟨hO A' h2,kH hpl,fun id hi=>(bQ hpl).1 hi⟩) h1 hid
 ⟨Vc',A',g1,g2,g3,g4,g5,g6,g7,g8⟩
def Told (H:aE) (sz:Nat) (es:List TV) (x:AV) (inn:Nat->Option AV) (I:Nat->Prop):Prop:=
 (∀j y,inn j=some y->y.one=true)/\∀(A':aS) (t:Nat),(∀j,A' (.i t 0 j)=inn j)->(∀v j,0 < v->A' (.i t v j)=none)->OR A' H (gR t sz es) x/\e8 A' t x (gR t sz es)/\∀id,cC A' (gR t sz es) x id->I id
theorem h_ {A0:aS} {Vc:ay} {st:St} (hR:R A0 Vc st) {O sz:Nat} {es:List TV} {k:ay->Prop} {a:AV} {inn:Nat->Option AV} {I:Nat->Prop} (h:lJ Vc O (gR O sz es) k) (hT:Told st.H sz es a inn I) (h1:a.one=true) (hI:∀id,I id->¬bN Vc A0 id) :
  ∃Vc' A',k Vc'/\R A' Vc' st/\(∀O' x,A0 O'=some x->A' O'=some x)/\A' O=some a/\Vc'.env=Vc.env/\(∀id,bN Vc' A' id->bN Vc A0 id\/I id)/\Vc'.H.get O=some (gR O sz es)/\
   (∀(O':Nat) x,A' O'=some x->A0 O'=some x\/O'=O)/\(∀n x,A' n=some x->A0 n=some x\/Vc.us.get n.base=none):=
 q_ hR h hT.1 (fun A' _ h2 h3=>hT.2 A' O h2 h3) h1 hI
structure ye (V:ay) (A:aS) (Vc:ay) (A0:aS) (st:St):Prop where
 old:R A V st
 new:R A0 Vc st
 apart:∀id,bN V A id->¬bN Vc A0 id
def vu (A0 A:aS):Prop:=∀(O:Nat) id,A0 O=some (.ptr id 0 0)->A O=some (.ptr id 0 0)
theorem Ak {sz:Nat} (h:Nat.blt sz Bd=true) (hp:dH sz=true):0 < sz:=by unfold dH at hp;rw [h] at hp;simpa using hp
theorem Al {sz:Nat} (h:Nat.blt sz Bd=false) (hp:dH sz=true):0 < yL sz/\CB sz < yL sz/\0 < BQ sz:=by unfold dH at hp;rw [h] at hp;simpa using hp
theorem zm {H:aE} {sz:Nat} {x:AV} {I:Nat->Prop} (hp:dH sz=true) (hx:x=.ak\/x=.bO [] 0 (some 0)):Told H sz [] x (fun _=>none) I:=by
 have hi:∀id,bJ x=some id->False:=fun id h=>by rcases hx with rfl|rfl<;>cases h
 refine⟨fun j y h=>(by cases h),fun A' t h1 h2=>?_⟩;unfold gR;cases hb:Nat.blt sz Bd with
 |true=>exact⟨⟨Ak hb hp,.inl ⟨rfl,hx⟩⟩,trivial,fun id h=>(hi id ((bQ rfl).1 h)).elim⟩
 |false=>
  obtain⟨p1,p2,p3⟩:=Al hb hp;refine⟨⟨p1,p2,p3,.inl ⟨rfl,hx⟩⟩,⟨rfl,h2,fun j x hj=>(by rw [h1] at hj;cases hj),fun j j' x x' id _ _ hj=>(by rw [h1] at hj;cases hj),fun j x id _ hj=>(by rw [h1] at hj;cases hj)⟩,fun id h=>?_⟩;rcases h with h|⟨j,y,_,hj,_⟩
  ·exact(hi id h).elim
  ·rw [h1] at hj;cases hj
theorem jV {V:ay} {A:aS} {Vc:ay} {A0:aS} {st:St} (h:ye V A Vc A0 st) {sz:Nat} {w:VV} {x:AV} (hw:sq A w x) {k:List TV->ay->Prop} (hk:fI V sz w k) :
  ∃es V',k es V'/\V'=iU V w/\Sub V V'/\(dH sz=true->∃inn,Told st.H sz es x inn fun id=>bN V A id/\¬bN V' A id)/\x.one=true/\(∀id,x≠.ptr id 0 0):=by
 cases w<;>first|(cases hk;done)|skip
 ·refine⟨[],V,hk,rfl,Sub.refl V,fun hz=>⟨_,zm hz hw⟩,?_,?_⟩<;>rcases hw with rfl|rfl<;>first|rfl|(intro id hi;cases hi)
 ·rename_i O;have hA:A O=some x:=hw;simp only [fI] at hk;split at hk
  ·rename_i z es ho;split at hk;rotate_left
   ·cases hk
   rename_i hb;obtain⟨rfl,hk2⟩:=aO hk;obtain⟨y,hy,hs⟩:=h.old.heap O _ ho;rw [hA] at hy;cases hy;refine⟨es,_,hk2,rfl,bh V O,fun _=>⟨fun _=>none,fun j y h=>(by cases h),fun A' t _ _=>?_⟩,h.old.one O x hA,fun id e=>?_⟩
   ·unfold gR;rw [hb];refine⟨hs,trivial,fun id hi=>?_⟩;have hi':cC A (.gr z es) x id:=.inl ((bQ rfl).1 hi);exact⟨⟨O,_,x,ho,hA,hi'⟩,cz h.old ho hA hi'⟩
   ·rcases hs.2 with ⟨_,e'|e'⟩|⟨_,_,_,_,e',_⟩<;>(rw [e] at e';cases e')
  ·rename_i K s io iz ver es ho;split at hk;rotate_left
   ·cases hk
   rename_i hsz;simp only [yJ,Lm,Lp,Lq] at hsz;obtain⟨hb,rfl,rfl,rfl⟩:=hsz;obtain⟨y,hy,hs⟩:=h.old.heap O _ ho;rw [hA] at hy;cases hy;obtain⟨rfl,hv1,hv0,hv2,hv3⟩:=h.old.dO O _ _ ho hA;refine⟨es,_,hk,rfl,bh V K,fun _=>⟨fun j=>if j < es.length then A (.i K ver j) else none,fun j y hj=>?_,fun A' t h1 h2=>?_⟩,h.old.one K x hA,fun id e=>?_⟩
   ·simp only at hj;split at hj
    ·exact h.old.one _ _ hj
    ·cases hj
   ·unfold gR;rw [hb];have e1:∀j,j < es.length->A' (.i t 0 j)=A (.i K ver j):=fun j hj=>(h1 j).trans (if_pos hj)
    have e2:∀j y,A' (.i t 0 j)=some y->j < es.length/\A (.i K ver j)=some y:=fun j y hy=>by
     rw [h1] at hy;simp only at hy;split at hy
     ·rename_i hj;exact⟨hj,hy⟩
     ·cases hy
    obtain⟨q1,q2,q3,q4⟩:=hs;refine⟨⟨q1,q2,q3,q4.imp (fun h=>h) ?_⟩,⟨rfl,h2,fun j x hx=>?_,fun j j' x x' id _ _ hx hx'=>?_,fun j x id _ hx=>?_⟩,fun id hi=>?_⟩
    ·rintro⟨id,g,b,cells,rfl,p1,p2,p3⟩;refine⟨id,g,b,cells,rfl,p1,p2,p3.len,fun j e he=>?_⟩;obtain⟨ts,g1,g2,g3,y,g4,g5,g6⟩:=p3.el j e he;exact⟨ts,g1,g2,g3,y,g4,by rw [e1 j (KY.1 he).1];exact g5,g6⟩
    ·exact(e2 j x hx).1
    ·exact hv2 j j' x x' id (by simp) (by simp) (e2 j x hx).2 (e2 j' x' hx').2
    ·exact hv3 j x id (by simp) (e2 j x hx).2
    ·have hi':cC A (.gn K (yL sz) (CB sz) (BQ sz) ver none es) x id:=by
      rcases hi with hi|⟨j,y,p1,p2,p3⟩
      ·exact .inl hi
      ·exact .inr ⟨j,y,by simp,(e2 j y p2).2,p3⟩
     exact⟨⟨K,_,x,ho,hA,hi'⟩,cz h.old ho hA hi'⟩
   ·rcases hs.2.2.2 with ⟨_,e'|e'⟩|⟨_,_,_,_,e',_⟩<;>(rw [e] at e';cases e')
  ·cases hk
theorem ye.sub {V V':ay} {A:aS} {Vc:ay} {A0:aS} {st:St} (h:ye V A Vc A0 st) (hs:Sub V V'):ye V' A Vc A0 st:=
 ⟨hs.r h.old,h.new,fun id ho=>h.apart id (hs.own ho)⟩
theorem fD {l:List (Nat×Nat)}:∀{ovs:List (Nat×VV)},jt ovs l=true->∀j w,a_ j ovs=some w->cK j l=true
 |[],h,j,w,ho=>by simp [a_] at ho
 |(i,w')::r,h,j,w,ho=>by
  simp only [jt,Lm] at h;rw [aT] at ho;split at ho
  ·rename_i e;subst e;exact h.1
  ·exact fD h.2 j w ho
theorem fO {O j:Nat}:∀{l:List (Nat×Nat)},a_ j (gG O l)=if cK j l=true then some (.sl (sC O j)) else none
 |[]=>by simp [gG,a_,cK]
 |(i,z)::l=>by
  simp only [gG,aT,fO (l:=l),cK,Ln,Lq];by_cases e:i=j
  ·subst e;simp
  ·rw [if_neg e];by_cases hk:cK j l=true
   ·rw [if_pos hk,if_pos (.inr hk)]
   ·rw [if_neg hk,if_neg];rintro(h|h)
    ·exact e h.symm
    ·exact hk h
theorem jW {Rt:Type} {O:Nat} {st:St} {ovs:List (Nat×VV)} {cs:List AV} {A:aS} (hsl:∀j w,a_ j ovs=some w->∃x,cs[j]?=some x/\sq A w x):∀(offs:List (Nat×Nat)) (V Vc:ay) (A0:aS) (I:JL offs Rt) (k kc:Rt->ay->Prop),
  (∀p∈offs,dH p.2=true)->ye V A Vc A0 st->gu V ovs offs I k->BI O offs Vc I kc->∃i V' Vc' A',k i V'/\kc i Vc'/\V'=jk V ovs offs/\ye V' A Vc' A' st/\vu A' A0/\Sub V V'/\(∀O' x,A0 O'=some x->A' O'=some x)/\Vc'.env=Vc.env/\
   (∀id,bN Vc' A' id->bN Vc A0 id\/bN V A id)/\(∀j,cK j offs=true->∃x,cs[j]?=some x/\A' (sC O j)=some x)
 |[],V,Vc,A0,I,k,kc,hz,h,hk,hkc=>⟨I,V,Vc,A0,hk,hkc,rfl,h,fun _ _ h=>h,Sub.refl V,fun _ _ h=>h,rfl,fun id h=>.inl h,fun j hj=>by cases hj⟩
 |(off,sz)::offs,V,Vc,A0,I,k,kc,hz,h,hk,hkc=>by
  simp only [gu] at hk;split at hk
  ·rename_i w hw;obtain⟨x,hx,hs⟩:=hsl off w hw;obtain⟨es,V1,hk1,hV1,hs1,qxA,hone,hnp⟩:=jV h hs hk;have qzo:=hkc es;obtain⟨inn,hT⟩:=qxA (hz (off,sz) Lf);obtain⟨Vc1,A1,qzn,hR1,hA1,hAo,qxn,hown,_,qxv,_⟩:=h_ h.new qzo hT hone (fun id hi=>h.apart id hi.1);have h1:ye V1 A Vc1 A1 st:=⟨hs1.r h.old,hR1,fun id ho hc=>(hown id hc).elim (fun hc=>h.apart id (hs1.own ho) hc) (fun hi=>hi.2 ho)⟩;have hag:vu A1 A0:=fun O' id hO'=>by
    rcases qxv O' _ hO' with hh|rfl
    ·exact hh
    ·rw [hAo] at hO';cases hO';exact absurd rfl (hnp id)
   obtain⟨i,V',Vc',A',g1,g2,g0,g3,g3a,g4,g5,g6,g7,g8⟩:=jW hsl offs V1 Vc1 A1 (I es) k kc (fun p hp=>hz p (Lg _ hp)) h1 hk1 qzn;refine⟨i,V',Vc',A',g1,g2,by rw [g0,hV1];simp only [jk,hw],g3,fun O' id hO'=>hag O' id (g3a O' id hO'),hs1.trans g4,fun O' y hy=>g5 _ _ (hA1 _ _ hy),g6.trans qxn,fun id ho=>?_,fun j hj=>?_⟩
   ·rcases g7 id ho with ho|ho
    ·rcases hown id ho with ho|hi
     ·exact .inl ho
     ·exact .inr hi.1
    ·exact .inr (hs1.own ho)
   ·simp only [cK,Ln,Lq] at hj;rcases hj with rfl|hj
    ·exact⟨x,hx,g5 _ _ hAo⟩
    ·exact g8 j hj
  ·cases hk
theorem iJ {st:St} {A:aS}:∀(J:List qn) (V Vc:ay) (A0:aS) (I:JT J Prop) (k:ay->Prop),J.all jF=true->ye V A Vc A0 st->vu A0 A->nL J V I->jR J Vc I k->
  ∃Vc' A',k Vc'/\R A' Vc' st/\(∀id,bN Vc' A' id->bN Vc A0 id\/bN V A id)/\ye (eW J V) A Vc' A' st/\Sub V (eW J V)
 |[],V,Vc,A0,I,k,hp,h,hag,hk,hkc=>⟨Vc,A0,hkc hk,h.new,fun id h=>.inl h,h,Sub.refl V⟩
 |.tr t::J,V,Vc,A0,I,k,hp,h,hag,hk,hkc=>by rw [List.all_cons,Lm] at hp;obtain⟨v,a,ha,hc,hk⟩:=xl h.old hk;obtain⟨Vc',A',g1,g2,g3,g4⟩:=iJ J V _ A0 (I v) k hp.2 ⟨h.old,fK h.new ha (.tr hc),h.apart⟩ hag hk (hkc v);exact⟨Vc',A',g1,g2,g3,g4⟩
 |.sl t sz::J,V,Vc,A0,I,k,hp,h,hag,hk,hkc=>by
  rw [List.all_cons,Lm] at hp;have hz:dH sz=true:=hp.1;have hk':cS V none (.t t) fun w=>fI V sz w fun es V'=>nL J V' (I es):=hk
  simp only [cS] at hk';split at hk'
  ·cases hk'
  rename_i e he;obtain⟨a,ha,hv⟩:=h.old.env t e he;split at hk';rotate_left
  ·cases hk'
  rename_i hg;have hv':=hv (fun c bb hh=>by rw [hg] at hh;cases hh);have hsl:sq A e.v a:=by
   have hne:=hk';unfold fI at hne;generalize e.v=w at hv' hne;cases hv'<;>first|(cases hne;done)|skip
   ·exact .inl rfl
   ·exact .inr rfl
   ·assumption
  obtain⟨es,V1,hk1,hV1,hs1,qxA,hone,hnp⟩:=jV h hsl hk';have qzo:=hkc es;obtain⟨inn,hT⟩:=qxA hz;obtain⟨Vc1,A1,qzn,hR1,hA1,hAo,qxn,hown,_,qxv,_⟩:=h_ h.new qzo hT hone (fun id hi=>h.apart id hi.1);have h1:ye V1 A (eO Vc1 t (.sl t)) A1 st:=⟨hs1.r h.old,fK hR1 ha (.sl hAo),fun id ho hc=>(hown id hc).elim (fun hc=>h.apart id (hs1.own ho) hc) (fun hi=>hi.2 ho)⟩;have qjC:vu A1 A:=fun O' id hO'=>by
   rcases qxv O' _ hO' with hh|rfl
   ·exact hag O' id hh
   ·rw [hAo] at hO';cases hO';exact absurd rfl (hnp id)
  obtain⟨Vc',A',g1,g2,g3,g4,g5⟩:=iJ J V1 _ A1 (I es) k hp.2 h1 qjC hk1 qzn;have hvv:bV V (.t t)=e.v:=by simp only [bV,he]
  have qxa:eW (.sl t sz::J) V=eW J V1:=by simp only [eW];rw [hvv,hV1]
  refine⟨Vc',A',g1,g2,fun id ho=>?_,by rw [qxa];exact g4,by rw [qxa];exact hs1.trans g5⟩;rcases g3 id ho with ho|ho
  ·rcases hown id ho with ho|hi
   ·exact .inl ho
   ·exact .inr hi.1
  ·exact .inr (hs1.own ho)
 |.pt t O off::J,V,Vc,A0,I,k,hp,h,hag,hk,hkc=>by
  rw [List.all_cons,Lm] at hp;simp only [jR] at hkc;split at hkc;rotate_left
  ·cases hkc
  rename_i v ovs hO;obtain⟨y,hy,id,cs,ts,rfl,hH,hc⟩:=h.new.heap O _ hO;have qjA:=hag O id hy;have hk':cS V none (.t t) fun w=>match w with
   |.ptr O' off'=>same O' O (same off' off (nL J V I))
   |_=>False:=hk
  simp only [cS] at hk';split at hk'
  ·cases hk'
  rename_i e he;obtain⟨a,ha,hv⟩:=h.old.env t e he;split at hk';rotate_left
  ·cases hk'
  rename_i hg;have hv':=hv (fun c bb hh=>by rw [hg] at hh;cases hh);generalize e.v=w at hv' hk';cases hv'<;>first|(cases hk';done)|skip
  rename_i O' off' id' hO';obtain⟨rfl,hk'⟩:=aO hk';obtain⟨rfl,hk'⟩:=aO hk';rw [qjA] at hO';cases hO';obtain⟨Vc',A',g1,g2,g3,g4⟩:=iJ J V _ A0 I k hp.2 ⟨h.old,fK h.new ha (.ptr hy),h.apart⟩ hag hk' hkc;exact⟨Vc',A',g1,g2,g3,g4⟩
 |.ps t t0::J,V,Vc,A0,I,k,hp,h,hag,hk,hkc=>by
  rw [List.all_cons,Lm] at hp;have hk':cS V none (.t t0) fun w0=>cS V none (.t t) fun w=>match w0 with
   |.sl O=>(match w with
    |.sl O'=>same O' O (nL J V I)
    |_=>False)
   |_=>False:=hk
  simp only [cS] at hk';split at hk'
  ·cases hk'
  rename_i e0 he0;obtain⟨a0,ha0,hv0⟩:=h.old.env t0 e0 he0;split at hk';rotate_left
  ·cases hk'
  rename_i hg0;have qz8:=hv0 (fun c bb hh=>by rw [hg0] at hh;cases hh);split at hk'
  ·cases hk'
  rename_i e he;obtain⟨a,ha,hv⟩:=h.old.env t e he;split at hk';rotate_left
  ·cases hk'
  rename_i hg;have hv':=hv (fun c bb hh=>by rw [hg] at hh;cases hh);generalize e0.v=w0 at qz8 hk';cases qz8<;>first|(cases hk';done)|skip
  rename_i O hO0;generalize e.v=w at hv' hk';cases hv'<;>first|(cases hk';done)|skip
  rename_i O' hO;have hk2:same O' O (nL J V I):=hk';clear hk';obtain⟨rfl,hk'⟩:=aO hk2;rw [hO0] at hO;cases hO;simp only [jR] at hkc;split at hkc;rotate_left
  ·cases hkc
  rename_i c hc;split at hkc;rotate_left
  ·cases hkc
  rename_i hcg;split at hkc;rotate_left
  ·cases hkc
  rename_i P hcv;obtain⟨a',ha',hw⟩:=h.new.env t0 c hc;have hw':=hw (fun c bb hh=>by rw [hcg] at hh;cases hh);rw [ha0] at ha';cases ha';rw [hcv] at hw';obtain⟨Vc',A',g1,g2,g3,g4⟩:=iJ J V _ A0 I k hp.2 ⟨h.old,fK h.new ha hw',h.apart⟩ hag hk' hkc;exact⟨Vc',A',g1,g2,g3,g4⟩
 |.ob O offs::J,V,Vc,A0,I,k,hp,h,hag,hk,hkc=>by
  rw [List.all_cons,Lm] at hp;have hz:∀p∈offs,dH p.2=true:=fun p hm=>Ll.1 hp.1 p hm
  simp only [nL] at hk;split at hk;rotate_left
  ·cases hk
  rename_i v ovs hO;split at hk;rotate_left
  ·cases hk
  rename_i hkeys;obtain⟨y,hy,id,cs,ts,rfl,hH,hc⟩:=h.old.heap O _ hO;have hsl:∀j w,a_ j ovs=some w->∃x,cs[j]?=some x/\sq A w x:=fun j w hj=>by have hlt:=hc.keys j w hj;have hx:cs[j]?=some (cs[j]'(by rw [←hc.len];exact hlt)):=KX _;have:=hc.at_ j _ _ (KX hlt) hx;rw [hj] at this;exact⟨_,hx,this⟩
  have qxf:=cz h.old hO hy (id:=id) (.inl rfl);have qxr:bN V A id:=⟨O,_,_,hO,hy,.inl rfl⟩;have h1:ye (bk V O) A Vc A0 st:=h.sub (bh V O);obtain⟨i,V',Vc',A',g1,g2,g0,g3,g3a,g4,g5,g6,g7,g8⟩:=jW hsl offs (bk V O) Vc A0 (I v) (fun I V'=>nL J V' I) _ hz h1 hk (hkc v);have hor:∀A3:aS,(∀O x,A' O=some x->A3 O=some x)->OR A3 st.H (.ob v (gG O offs)) (.ptr id 0 0):=by
   intro A3 hA3;refine⟨id,cs,ts,rfl,hH,⟨hc.cells,hc.len,fun j w hj=>?_,fun j t x ht hx=>?_⟩⟩
   ·rw [fO] at hj;split at hj
    ·rename_i hh;obtain⟨x,hx,_⟩:=g8 j hh;rw [hc.len];exact(KY.1 hx).1
    ·cases hj
   ·rw [fO];by_cases hh:cK j offs=true
    ·rw [if_pos hh];obtain⟨x',hx',hA'⟩:=g8 j hh;rw [hx] at hx';cases hx';exact hA3 _ _ hA'
    ·rw [if_neg hh];have:=hc.at_ j t x ht hx;cases ho:a_ j ovs with
     |none=>rw [ho] at this;exact this
     |some w=>exact absurd (fD hkeys j w ho) hh
  obtain⟨Vc2,A2,p1,p2,p3,p4,p5,p6,p7,p8⟩:=uE g3.new (a:=.ptr id 0 0) g2 hor rfl (fun id' hi=>by
   cases hi;intro ho;rcases g7 _ ho with ho|ho
   ·exact h.apart _ qxr ho
   ·exact qxf ho)
  have h2:ye V' A Vc2 A2 st:=⟨g3.old,p2,fun id' ho hc'=>by
   rcases p6 id' hc' with hc'|hi
   ·exact g3.apart id' ho hc'
   ·cases hi;exact qxf (g4.own ho)⟩
  have qjB:vu A2 A:=fun O' id' hO'=>by
   rcases p8 O' _ hO' with hh|rfl
   ·exact hag O' id' (g3a O' id' hh)
   ·rw [p4] at hO';cases hO';exact hy
  obtain⟨Vc3,A3,q1,q2,q3,q4,q5⟩:=iJ J V' Vc2 A2 i k hp.2 h2 qjB g1 p1;have qxa:eW (.ob O offs::J) V=eW J V':=by simp only [eW,hO];rw [g0]
  refine⟨Vc3,A3,q1,q2,fun id' ho=>?_,by rw [qxa];exact q4,by rw [qxa];exact((bh V O).trans g4).trans q5⟩;rcases q3 id' ho with ho|ho
  ·rcases p6 id' ho with ho|hi
   ·rcases g7 id' ho with ho|ho
    ·exact .inl ho
    ·exact .inr ((bh V O).own ho)
   ·cases hi;exact .inr qxr
  ·exact .inr ((bh V O).own (g4.own ho))
 |.st t offs::J,V,Vc,A0,I,k,hp,h,hag,hk,hkc=>by
  rw [List.all_cons,Lm] at hp;have hz:∀p∈offs,dH p.2=true:=fun p hm=>Ll.1 hp.1 p hm
  have hk':cS V none (.t t) fun w=>match w with
   |.st v ovs=>(match jt ovs offs with
    |true=>gu (R:=JT J Prop) V ovs offs (I v) fun I V'=>nL J V' I
    |false=>False)
   |_=>False:=hk
  simp only [cS] at hk';split at hk'
  ·cases hk'
  rename_i e he;obtain⟨a,ha,hv⟩:=h.old.env t e he;split at hk';rotate_left
  ·cases hk'
  rename_i hg;have hv':=hv (fun c bb hh=>by rw [hg] at hh;cases hh);have hvv:bV V (.t t)=e.v:=by simp only [bV,he]
  generalize e.v=w at hv' hk' hvv;cases hv'<;>first|(cases hk';done)|skip
  rename_i v ovs cs ts hts hc;simp only at hk';split at hk';rotate_left
  ·cases hk'
  rename_i hkeys;have hsl:∀j w,a_ j ovs=some w->∃x,cs[j]?=some x/\sq A w x:=fun j w hj=>by have hlt:=hc.keys j w hj;have hx:cs[j]?=some (cs[j]'(by rw [←hc.len];exact hlt)):=KX _;have:=hc.at_ j _ _ (KX hlt) hx;rw [hj] at this;exact⟨_,hx,this⟩
  obtain⟨i,V',Vc',A',g1,g2,g0,g3,g3a,g4,g5,g6,g7,g8⟩:=jW hsl offs V Vc A0 (I v) (fun I V'=>nL J V' I) _ hz h hk' (hkc v);have hcr:aN A' v (gG t offs) cs ts:=by
   refine⟨hc.cells,hc.len,fun j w hj=>?_,fun j t' x ht hx=>?_⟩
   ·rw [fO] at hj;split at hj
    ·rename_i hh;obtain⟨x,hx,_⟩:=g8 j hh;rw [hc.len];exact(KY.1 hx).1
    ·cases hj
   ·rw [fO];by_cases hh:cK j offs=true
    ·rw [if_pos hh];obtain⟨x',hx',hA'⟩:=g8 j hh;rw [hx] at hx';cases hx';exact hA'
    ·rw [if_neg hh];have:=hc.at_ j t' x ht hx;cases ho:a_ j ovs with
     |none=>rw [ho] at this;exact this
     |some w=>exact absurd (fD hkeys j w ho) hh
  obtain⟨Vc3,A3,q1,q2,q3,q4,q5⟩:=iJ J V' (eO Vc' t (.st v (gG t offs))) A' i k hp.2 ⟨g3.old,fK g3.new ha (.st hts hcr),g3.apart⟩ (fun O' id' hO'=>hag O' id' (g3a O' id' hO')) g1 g2;have qxa:eW (.st t offs::J) V=eW J V':=by simp only [eW,hvv];rw [g0]
  refine⟨Vc3,A3,q1,q2,fun id' ho=>?_,by rw [qxa];exact q4,by rw [qxa];exact g4.trans q5⟩;rcases q3 id' ho with ho|ho
  ·rcases g7 id' ho with ho|ho
   ·exact .inl ho
   ·exact .inr ho
  ·exact .inr (g4.own ho)
theorem R.zero {A:aS} {V:ay} {st:St} (h:R A V st):R (fun _=>none) V0 st:=
 ⟨fun t e he=>(by cases he),fun O o ho=>(by cases ho),fun O O' o o' a a' id ho=>(by cases ho),fun _ _=>rfl,fun O a ha=>(by cases ha),h.fresh,fun O o a ho=>(by cases ho)⟩
theorem uF {A:aS} {V:ay} {st:St} (h:R A V st) {J:List qn} {I:JT J Prop} {k:ay->Prop} (hp:J.all jF=true) (hk:nL J V I) (hkc:jR J V0 I k):∃Vc A',k Vc/\R A' Vc st/\Fr V A st.H st.nx Vc A' st.H st.nx:=by
 have no0:∀id,¬bN V0 (fun _=>none) id:=fun id ⟨O,o,a,ho,_⟩=>by cases ho
 obtain⟨Vc,A',g1,g2,g3,_⟩:=iJ J V V0 (fun _=>none) I k hp ⟨h,h.zero,fun id _ hc=>no0 id hc⟩ (fun O id hO=>by cases hO) hk hkc;exact⟨Vc,A',g1,g2,⟨LB _,fun _ _ _=>rfl,fun id ho=>(g3 id ho).elim (fun h=>absurd h (no0 id)) .inl⟩⟩
end
end Go.Ax.V
namespace Go.Ax.V
def BO (prog:Map aq) (f np:Nat) (Jout:List qn) (Q:JT Jout Prop) (Vc:ay):Prop:=
 ∀(A:aS) (as:List AV) (H:aE) (nx:Nat),as.length=np->R A Vc ⟨cW as 0 .leaf,H,nx⟩->
  ∃v H' nx' A' V',aX prog f as H nx=some (v,H',nx')/\R A' V' ⟨(cW as 0 .leaf).put (some v) np,H',nx'⟩/\nL Jout V' Q/\Fr Vc A H nx V' A' H' nx'
def JS (prog:Map aq) (f np:Nat) (Jin Jout:List qn) (Q:JT Jout Prop):JT Jin Prop:=Di Jin V0 (BO prog f np Jout Q)
def I9 (prog:Map aq) (f:Nat) (T:ay->List VV->(VV->ay->Prop)->Prop):Prop:=
 ∀(A:aS) (V:ay) (st:St) (ws:List VV) (as:List AV) (k:VV->ay->Prop),R A V st->ws.length=as.length->(∀(j:Nat) w a,ws[j]?=some w->as[j]?=some a->VR A w a)->T V ws k->
  ∃v H' nx' A' V' w,aX prog f as st.H st.nx=some (v,H',nx')/\R A' V' ⟨st.env,H',nx'⟩/\VR A' w v/\Ext V A V' A'/\Fr V A st.H st.nx V' A' H' nx'/\k w V'
structure mg (prog:Map aq) (sh:Sh):Prop where
 vs:sh.vs=JS prog
 inl:∀f T,sh.inl f=some T->I9 prog f T
theorem ri {n:Nat}:∀{l:List Nat},ko n l=true↔n∈l
 |[]=>by simp [ko]
 |m::l=>by simp [ko,ri (l:=l)]
theorem j_ {us:Map Unit} {O:Nat} (h:jB us O=true):us.get O=none:=by
 unfold jB at h;split at h
 ·cases h
 ·assumption
theorem jq {V:ay} {O:Nat} {o:VO} {k:ay->Prop} (hf:jB V.us O=true) (h:k (fl V O o)):lJ V O o k:=by have hn:=j_ hf;unfold lJ;rw [hn];exact h
def y4 (V V':ay):Prop:=∀T,V.us.get T=some ()->V'.us.get T=some ()/\V'.H.get T=V.H.get T
theorem mP {V:ay} {O:Nat} {o:VO} (hf:jB V.us O=true):y4 V (fl V O o):=by
 intro T hT;have hne:T≠O:=by rintro rfl;rw [j_ hf] at hT;cases hT
 exact⟨by simp only [fl,Map.au,if_neg hne];exact hT,by simp only [fl,Map.au,if_neg hne]⟩
theorem y4.trans {V V1 V2:ay} (h:y4 V V1) (h':y4 V1 V2):y4 V V2:=fun T hT=>let ⟨a,b⟩:=h T hT;let ⟨c,d⟩:=h' T a;⟨c,d.trans b⟩
theorem tB {Rt:Type} {O:Nat}:∀(offs:List (Nat×Nat)) (V:ay) (us:Map Unit) (k:ay->Rt) (kk:Rt->ay->Prop),Fu O offs V.us=some us->(∀V',V'.us=us->y4 V V'->kk (k V') V')->BI O offs V (Hg O offs V k) kk
 |[],V,us,k,kk,h,hk=>by cases h;exact hk V rfl (fun T hT=>⟨hT,rfl⟩)
 |(off,sz)::offs,V,us,k,kk,h,hk=>by
  simp only [Fu,cond_eq_ite] at h;split at h
  ·rename_i hf;intro es;refine jq hf ?_;exact tB offs _ us k kk h (fun V' h1 h2=>hk V' h1 ((mP hf).trans h2))
  ·cases h
theorem kn:∀(J:List qn) (V:ay) (obs:List Nat) (k:ay->Prop),yB J V.us obs=true->(∀O∈obs,V.us.get O=some ()/\∃v ov,V.H.get O=some (.ob v ov))->jR J V (Di J V k) k
 |[],V,obs,k,h,ho=>fun hk=>hk
 |.tr t::J,V,obs,k,h,ho=>fun v=>kn J (eO V t (.tr v)) obs k h ho
 |.sl t sz::J,V,obs,k,h,ho=>by simp only [yB,Lm] at h;intro es;refine jq h.1 ?_;refine kn J _ obs k h.2 (fun O hO=>?_);obtain⟨h1,v,ov,h2⟩:=ho O hO;obtain⟨h3,h4⟩:=mP (o:=gR t sz es) h.1 O h1;exact⟨h3,v,ov,by rw [←h2];exact h4⟩
 |.pt t O off::J,V,obs,k,h,ho=>by simp only [yB,Lm] at h;obtain⟨h1,v,ov,h2⟩:=ho O (ri.1 h.1);simp only [jR,h2];exact kn J (eO V t (.ptr O off)) obs k h.2 ho
 |.ob O offs::J,V,obs,k,h,ho=>by
  simp only [yB] at h;split at h
  ·rename_i us hus;rw [Lm] at h;intro v;refine tB offs V us _ _ hus (fun V' hu hkp=>?_);have hf:jB V'.us O=true:=by rw [hu];exact h.1
   refine jq hf ?_;refine kn J _ (O::obs) k (by show yB J (V'.us.put (some ()) O) (O::obs)=true;rw [hu];exact h.2) (fun O' hO'=>?_);rcases Lh.1 hO' with rfl|hO'
   ·exact⟨by simp only [fl,Map.au,if_pos],v,gG O' offs,by simp only [fl,Map.au,if_pos]⟩
   ·obtain⟨h1,v',ov,h2⟩:=ho O' hO';obtain⟨h3,h4⟩:=(hkp.trans (mP (o:=.ob v (gG O offs)) hf)) O' h1;exact⟨h3,v',ov,by rw [←h2];exact h4⟩
  ·cases h
 |.st t offs::J,V,obs,k,h,ho=>by
  simp only [yB] at h;split at h
  ·rename_i us hus;intro v;refine tB offs V us _ _ hus (fun V' hu hkp=>?_);refine kn J _ obs k (by show yB J V'.us obs=true;rw [hu];exact h) (fun O' hO'=>?_);obtain⟨h1,v',ov,h2⟩:=ho O' hO';obtain⟨h3,h4⟩:=hkp O' h1;exact⟨h3,v',ov,by rw [←h2];exact h4⟩
  ·cases h
 |.ps t t0::J,V,obs,k,h,ho=>by cases h
section
variable {prog:Map aq} {nt:Nat}
theorem mG {A:aS} {V:ay} {st:St} (hR:R A V st) {O:Nat} {o:VO} {a:AV} (hA:A O=some a) (hO:OR A st.H o a) (hid:∀id,bJ a=some id->¬bN V A id) (hpl:o.pl=true:=by rfl) :
  R A (aW V O o) st/\∀id,bN (aW V O o) A id->bN V A id\/bJ a=some id:=by
 refine⟨⟨hR.env,fun O' o' ho=>?_,fun O1 O2 o1 o2 a1 a2 id ho1 ho2 ha1 ha2 hi1 hi2=>?_,hR.used,hR.one,hR.fresh,fun O' o' x ho hx=>?_⟩,fun id ⟨O',o',x,ho,hx,hi⟩=>?_⟩
 ·simp only [aW,Map.au] at ho;split at ho
  ·rename_i e;subst e;cases ho;exact⟨a,hA,hO⟩
  ·exact hR.heap O' o' ho
 ·simp only [aW,Map.au] at ho1 ho2;by_cases e1:O1=O
  ·by_cases e2:O2=O
   ·rw [e1,e2]
   ·subst e1;rw [if_neg e2] at ho2;rw [if_pos rfl] at ho1;cases ho1;rw [hA] at ha1;cases ha1;exact absurd ⟨O2,_,a2,ho2,ha2,hi2⟩ (hid id ((bQ hpl).1 hi1))
  ·rw [if_neg e1] at ho1;by_cases e2:O2=O
   ·subst e2;rw [if_pos rfl] at ho2;cases ho2;rw [hA] at ha2;cases ha2;exact absurd ⟨O1,_,a1,ho1,ha1,hi1⟩ (hid id ((bQ hpl).1 hi2))
   ·rw [if_neg e2] at ho2;exact hR.inj O1 O2 _ _ a1 a2 id ho1 ho2 ha1 ha2 hi1 hi2
 ·simp only [aW,Map.au] at ho;split at ho
  ·rename_i e;subst e;cases ho;exact kH hpl
  ·exact hR.dO O' o' x ho hx
 ·simp only [aW,Map.au] at ho;by_cases e:O'=O
  ·subst e;rw [if_pos rfl] at ho;cases ho;rw [hA] at hx;cases hx;exact .inr ((bQ hpl).1 hi)
  ·rw [if_neg e] at ho;exact .inl ⟨O',o',x,ho,hx,hi⟩
structure tF (V2:ay) (A2:aS) (st2:St) (Vr:ay) (A:aS) (st:St):Prop where
 old:R A2 V2 st2
 new:R A Vr st
 H:st.H=st2.H
 nx:st.nx=st2.nx
 apart:∀id,bN V2 A2 id->¬bN Vr A id
theorem kK {V2 Vr:ay} {A2 A:aS} {st2 st:St} (h:tF V2 A2 st2 Vr A st) {sz:Nat} {w:VV} {x:AV} (hw:sq A2 w x) {k:List TV->ay->Prop} (hk:fI V2 sz w k) :
  ∃es V',k es V'/\Sub V2 V'/\(dH sz=true->∃inn,Told st.H sz es x inn fun id=>bN V2 A2 id/\¬bN V' A2 id)/\x.one=true:=by
 obtain⟨es,V',h1,_,h2,h3,h4,h5⟩:=jV (Vc:=V0) (A0:=fun _=>none) (st:=st2) ⟨h.old,h.old.zero,fun id _ ⟨O,o,a,ho,_⟩=>(by cases ho)⟩ hw hk;exact⟨es,V',h1,h2,by rw [h.H];exact h3,h4⟩
theorem kL {Rt:Type} {d:Nat} {st2 st:St} {ovs:List (Nat×VV)} {cs:List AV} {A2:aS} (hsl:∀j w,a_ j ovs=some w->∃x,cs[j]?=some x/\sq A2 w x):∀(offs:List (Nat×Nat)) (V2 Vr:ay) (A:aS) (us:Map Unit) (kc:ay->Rt) (k:Rt->ay->Prop),
  (∀p∈offs,dH p.2=true)->tF V2 A2 st2 Vr A st->v_ d offs Vr.us=some us->gu V2 ovs offs (Bs d offs Vr kc) k->
  ∃V2' Vr' A',k (kc Vr') V2'/\tF V2' A2 st2 Vr' A' st/\Sub V2 V2'/\Vr'.us=us/\(∀O x,A O=some x->A' O=some x)/\(∀id,bN Vr' A' id->bN Vr A id\/bN V2 A2 id)/\(∀j,cK j offs=true->∃x,cs[j]?=some x/\A' (kI d j)=some x)/\
   (∀n x,A' n=some x->A n=some x\/Vr.us.get n.base=none)/\gm Vr Vr'
 |[],V2,Vr,A,us,kc,k,hz,h,hus,hk=>by cases hus;exact⟨V2,Vr,A,hk,h,Sub.refl V2,rfl,fun _ _ h=>h,fun id h=>.inl h,fun j hj=>(by cases hj),fun _ _ h=>.inl h,gm.refl Vr⟩
 |(off,sz)::offs,V2,Vr,A,us,kc,k,hz,h,hus,hk=>by
  simp only [v_,cond_eq_ite] at hus;split at hus;rotate_left
  ·cases hus
  rename_i hf;simp only [gu] at hk;split at hk;rotate_left
  ·cases hk
  rename_i w hw;obtain⟨x,hx,hs⟩:=hsl off w hw;obtain⟨es,V1,hk1,hs1,qxA,hone⟩:=kK h hs hk;obtain⟨inn,hT⟩:=qxA (hz (off,sz) Lf);obtain⟨Vr1,A1,hV1,hR1,hA1,hAo,qxn,hown,_,qxv,hnew⟩:=h_ (k:=fun V'=>V'=fl Vr (kI d off) (gR (kI d off) sz es)) h.new (jq hf rfl) hT hone (fun id hi=>h.apart id hi.1);subst hV1;have hb:tF V1 A2 st2 (fl Vr (kI d off) (gR (kI d off) sz es)) A1 st:=⟨hs1.r h.old,hR1,h.H,h.nx,fun id ho hc=>(hown id hc).elim (fun hc=>h.apart id (hs1.own ho) hc) (fun hi=>hi.2 ho)⟩;obtain⟨V2',Vr',A',g1,g2,g3,g4,g5,g6,g7,g8,g9⟩:=kL hsl offs V1 _ A1 us kc k (fun p hp=>hz p (Lg _ hp)) hb hus hk1;have hev:gm Vr (fl Vr (kI d off) (gR (kI d off) sz es)):=gm.name (j_ hf);refine⟨V2',Vr',A',g1,g2,hs1.trans g3,g4,fun O y hy=>g5 _ _ (hA1 _ _ hy),fun id ho=>?_,fun j hj=>?_,fun n x hx=>(g8 n x hx).elim (fun h=>hnew n x h) (fun h=>.inr (hev.us _ h)),hev.trans g9⟩
  ·rcases g6 id ho with ho|ho
   ·rcases hown id ho with ho|hi
    ·exact .inl ho
    ·exact .inr hi.1
   ·exact .inr (hs1.own ho)
  ·simp only [cK,Ln,Lq] at hj;rcases hj with rfl|hj
   ·exact⟨x,hx,g5 _ _ hAo⟩
   ·exact g7 j hj
theorem lD {d j:Nat}:∀{l:List (Nat×Nat)},a_ j (nN d l)=if cK j l=true then some (.sl (kI d j)) else none
 |[]=>by simp [nN,a_,cK]
 |(i,z)::l=>by
  simp only [nN,aT,lD (l:=l),cK,Ln,Lq];by_cases e:i=j
  ·subst e;simp
  ·rw [if_neg e];by_cases hk:cK j l=true
   ·rw [if_pos hk,if_pos (.inr hk)]
   ·rw [if_neg hk,if_neg];rintro(h|h)
    ·exact e h.symm
    ·exact hk h
theorem xp {A:aS} {V:ay} {st:St} (hR:R A V st) {n:Nat} {k:VV->Prop} (h:cS V none (.t n) k):∃e a,V.env.get n=some e/\st.env.get n=some a/\VR A e.v a/\k e.v:=by
 simp only [cS] at h;split at h
 ·cases h
 rename_i e he;obtain⟨a,ha,hv⟩:=hR.env n e he;split at h
 ·rename_i hg;exact⟨e,a,he,ha,hv (fun c bb hh=>by rw [hg] at hh;cases hh),h⟩
 ·cases h
theorem xM {d:Nat} {offs:List (Nat×Nat)} {ks:List PK} {w:VV} {ws:List VV} {ims:List EF} (h:bZ d (.ob offs::ks) (w::ws)=some ims):∃O l,w=.ptr O 0/\bZ d ks ws=some l/\ims=.ob O d::.pt::l:=by
 cases w with
 |ptr O off=>
  cases off with
  |zero=>
   simp only [bZ] at h;split at h
   ·rename_i l hl;cases h;exact⟨O,l,rfl,hl,rfl⟩
   ·cases h
  |succ n=>simp [bZ] at h
 |_=>simp [bZ] at h
theorem xL {d sz:Nat} {ks:List PK} {w:VV} {ws:List VV} {ims:List EF} (h:bZ d (.sl sz::ks) (w::ws)=some ims):∃O l,w=.sl O/\bZ d ks ws=some l/\ims=.sl O::l:=by
 cases w with
 |sl O=>
  simp only [bZ] at h;split at h
  ·rename_i l hl;cases h;exact⟨O,l,rfl,hl,rfl⟩
  ·cases h
 |_=>simp [bZ] at h
theorem s5 {V:ay} {t:Nat} {w:VV}:gm V (eO V t w):=gm.EJ rfl (fun _ _ h=>h)
theorem nZ {np d:Nat} {rk:RK} {k:ay->Prop} {v:AV} {st2 st:St}:∀(ks:List PK) (i:Nat) (ws:List VV) (as:List AV) (ims:List EF) (V2 Vr:ay) (A2 A:aS),bZ d ks ws=some ims->(fh np rk ks i).all jF=true->Aw nt (fh np rk ks i) ims Vr.us=true->
  tF V2 A2 st2 Vr A st->(∀(j:Nat) w a,ws[j]?=some w->as[j]?=some a->VR A w a)->ws.length=as.length->(∀(j:Nat) a,as[j]?=some a->st2.env.get (i+j)=some a)->st2.env.get np=some v->st.env.get d=some v->
  nL (fh np rk ks i) V2 (pO (fh np rk ks i) ims Vr k)->∃Vr' A',k Vr'/\R A' Vr' st/\(∀O x,A O=some x->A' O=some x)/\(∀id,bN Vr' A' id->bN Vr A id\/bN V2 A2 id)/\Nat.blt d nt=true/\(∀n x,A' n=some x->A n=some x\/Vr.us.get n.base=none)/\gm Vr Vr'
 |[],i,ws,as,ims,V2,Vr,A2,A,him,hp,hok,h,hw,hl,has,hnp,hd,hk=>by
  cases ws with
  |cons _ _=>cases him
  |nil=>
   cases him;cases rk with
   |tr=>have hk0:gk V2 none (.t np) (fun v=>k (eO Vr d (.tr v))):=hk;have qxR:(Nat.blt d nt&&true)=true:=hok;rw [Bool.and_true] at qxR;clear hk hok;obtain⟨u,a,ha,hc,hk1⟩:=xl h.old hk0;rw [hnp] at ha;cases ha;exact⟨_,A,hk1,fK h.new hd (.tr hc),fun _ _ h=>h,fun id ho=>.inl ho,qxR,fun _ _ h=>.inl h,s5⟩
   |sl sz=>
    have hz:dH sz=true:=by simp only [fh,Ef,List.all_cons,Lm] at hp;exact hp.1
    have hk0:cS V2 none (.t np) (fun w=>fI V2 sz w fun es V'=>k (eO (fl Vr d (gR d sz es)) d (.sl d))):=hk;have qxR:(Nat.blt d nt&&(jB Vr.us d&&true))=true:=hok;rw [Bool.and_true,Lm] at qxR;clear hk hok;obtain⟨e,a,he,ha,hv,hk⟩:=xp h.old hk0;rw [hnp] at ha;cases ha;have hsl:sq A2 e.v v:=by
     have hne:=hk;unfold fI at hne;generalize e.v=w at hv hne;cases hv<;>first|(cases hne;done)|skip
     ·exact .inl rfl
     ·exact .inr rfl
     ·assumption
    obtain⟨es,V1,hk1,hs1,qxA,hone⟩:=kK h hsl hk;obtain⟨hlt,hf⟩:=qxR;obtain⟨inn,hT⟩:=qxA hz;obtain⟨Vr1,A1,hV1,hR1,hA1,hAo,qxn,hown,_,qxv,hnew⟩:=h_ (k:=fun V'=>V'=fl Vr d (gR d sz es)) h.new (jq hf rfl) hT hone (fun id hi=>h.apart id hi.1);subst hV1;exact⟨_,A1,hk1,fK hR1 hd (.sl hAo),hA1,fun id ho=>(hown id ho).imp (fun h=>h) (fun hi=>hi.1),hlt,hnew,(gm.name (j_ hf)).trans s5⟩
   |st offs=>
    have hz:∀p∈offs,dH p.2=true:=by simp only [fh,Ef,List.all_cons,Lm] at hp;exact fun p hm=>Ll.1 hp.1 p hm
    have hk0:cS V2 none (.t np) (fun w=>match w with
     |.st v ovs=>(match jt ovs offs with
      |true=>gu (R:=Prop) V2 ovs offs (Bs (R:=Prop) (kB d) offs Vr fun V'=>k (eO V' d (.st v (nN (kB d) offs)))) fun I V'=>I
      |false=>False)
     |_=>False):=hk
    have qxR:(Nat.blt d nt&&(match v_ (kB d) offs Vr.us with
     |some us=>true
     |none=>false))=true:=by
     have h0:(Nat.blt d nt&&(match v_ (kB d) offs Vr.us with
      |some us=>Aw nt [] [] us
      |none=>false))=true:=hok
     rw [Lm] at h0 ⊢;refine⟨h0.1,?_⟩;have h1:=h0.2;split at h1
     ·rfl
     ·cases h1
    rw [Lm] at qxR;clear hk hok;obtain⟨e,a,he,ha,hv,hk⟩:=xp h.old hk0;rw [hnp] at ha;cases ha;obtain⟨hlt,hus⟩:=qxR;split at hus;rotate_left
    ·cases hus
    rename_i us qji;generalize e.v=w at hv hk;cases hv<;>first|(cases hk;done)|skip
    rename_i v ovs cs ts hts hc;simp only at hk;split at hk;rotate_left
    ·cases hk
    rename_i hkeys;have hsl:∀j w,a_ j ovs=some w->∃x,cs[j]?=some x/\sq A2 w x:=fun j w hj=>by have hlt:=hc.keys j w hj;have hx:cs[j]?=some (cs[j]'(by rw [←hc.len];exact hlt)):=KX _;have:=hc.at_ j _ _ (KX hlt) hx;rw [hj] at this;exact⟨_,hx,this⟩
    obtain⟨V2',Vr',A',g1,g2,g3,g4,g5,g6,g7,g8,g9⟩:=kL (Rt:=Prop) (d:=kB d) hsl offs V2 Vr A us _ _ hz h qji hk;have hcr:aN A' v (nN (kB d) offs) cs ts:=by
     refine⟨hc.cells,hc.len,fun j w hj=>?_,fun j t' x ht hx=>?_⟩
     ·rw [lD] at hj;split at hj
      ·rename_i hh;obtain⟨x,hx,_⟩:=g7 j hh;rw [hc.len];exact(KY.1 hx).1
      ·cases hj
     ·rw [lD];by_cases hh:cK j offs=true
      ·rw [if_pos hh];obtain⟨x',hx',hA'⟩:=g7 j hh;rw [hx] at hx';cases hx';exact hA'
      ·rw [if_neg hh];have:=hc.at_ j t' x ht hx;cases ho:a_ j ovs with
       |none=>rw [ho] at this;exact this
       |some w=>exact absurd (fD hkeys j w ho) hh
    exact⟨_,A',g1,fK g2.new hd (.st hts hcr),g5,g6,hlt,g8,g9.trans s5⟩
 |.tr::ks,i,ws,as,ims,V2,Vr,A2,A,him,hp,hok,h,hw,hl,has,hnp,hd,hk=>by
  cases ws with
  |nil=>simp [bZ] at him
  |cons w ws=>
   cases as with
   |nil=>cases hl
   |cons a as=>
    have qjs:bZ d ks ws=some ims:=by simpa only [bZ] using him
    simp only [fh] at hp hok hk;exact nZ ks (i+1) ws as ims V2 Vr A2 A qjs hp hok h (fun j w' a' h1 h2=>hw (j+1) w' a' (by simpa using h1) (by simpa using h2)) (Nat.succ.inj hl) (fun j a' h1=>by have:=has (j+1) a' (by simpa using h1);rwa [show i+(j+1)=i+1+j by omega] at this) hnp hd hk
 |.ob offs::ks,i,ws,as,ims,V2,Vr,A2,A,him,hp,hok,h,hw,hl,has,hnp,hd,hk=>by
  cases ws with
  |nil=>simp [bZ] at him
  |cons w ws=>
   cases as with
   |nil=>cases hl
   |cons a as=>
    obtain⟨O,l,rfl,qzX,rfl⟩:=xM him
    ·simp only [fh,List.all_cons,Lm] at hp;have hz:∀p∈offs,dH p.2=true:=fun p hm=>Ll.1 hp.1 p hm
     simp only [fh,Aw] at hok;split at hok;rotate_left
     ·cases hok
     rename_i us hus;have hwa:=hw 0 _ a rfl rfl;cases hwa with
     |@ptr _ _ id hAO=>
     simp only [fh,nL] at hk;split at hk;rotate_left
     ·cases hk
     rename_i v2 ovs hO2;split at hk;rotate_left
     ·cases hk
     rename_i hkeys;obtain⟨y,hy,id2,cs,ts,rfl,hH,hc⟩:=h.old.heap i _ hO2;have hsl:∀j w,a_ j ovs=some w->∃x,cs[j]?=some x/\sq A2 w x:=fun j w hj=>by have hlt:=hc.keys j w hj;have hx:cs[j]?=some (cs[j]'(by rw [←hc.len];exact hlt)):=KX _;have:=hc.at_ j _ _ (KX hlt) hx;rw [hj] at this;exact⟨_,hx,this⟩
     have qxf:=cz h.old hO2 hy (id:=id2) (.inl rfl);have qxr:bN V2 A2 id2:=⟨i,_,_,hO2,hy,.inl rfl⟩;have hb1:tF (bk V2 i) A2 st2 Vr A st:=⟨(bh V2 i).r h.old,h.new,h.H,h.nx,fun id' ho=>h.apart id' ((bh V2 i).own ho),⟩;obtain⟨V2',Vr',A',g1,g2,g3,g4,g5,g6,g7,g8,g9⟩:=kL hsl offs (bk V2 i) Vr A us _ _ hz hb1 hus hk;have hk3:cS V2' none (.t i) fun w=>match w with
      |.ptr O' off'=>same O' i (same off' 0 (nL (fh np rk ks (i+1)) V2' (pO (fh np rk ks (i+1)) l (aW Vr' O (.ob v2 (nN d offs))) k)))
      |_=>False:=g1
     obtain⟨e,a',he,ha',hv',hk3⟩:=xp g2.old hk3;have ha0:=has 0 _ rfl;rw [Nat.add_zero,ha'] at ha0;cases ha0;generalize e.v=w' at hv' hk3;cases w'<;>first|(cases hk3;done)|skip
     rename_i O' off';have hOi:=(aO hk3).1;have hoff:=(aO (aO hk3).2).1;have hk4:=(aO (aO hk3).2).2;clear hk3;have hOi:=hOi.symm;subst hOi;subst hoff;cases hv' with
     |ptr hO'=>
     rw [hy] at hO';cases hO';have qjG:=g5 _ _ hAO;have hor:OR A' st.H (.ob v2 (nN d offs)) (.ptr id 0 0):=by
      refine⟨id,cs,ts,rfl,by rw [h.H];exact hH,⟨hc.cells,hc.len,fun j w hj=>?_,fun j t x ht hx=>?_⟩⟩
      ·rw [lD] at hj;split at hj
       ·rename_i hh;obtain⟨x,hx,_⟩:=g7 j hh;rw [hc.len];exact(KY.1 hx).1
       ·cases hj
      ·rw [lD];by_cases hh:cK j offs=true
       ·rw [if_pos hh];obtain⟨x',hx',hA'⟩:=g7 j hh;rw [hx] at hx';cases hx';exact hA'
       ·rw [if_neg hh];have:=hc.at_ j t x ht hx;cases ho:a_ j ovs with
        |none=>rw [ho] at this;exact this
        |some w=>exact absurd (fD hkeys j w ho) hh
     obtain⟨p1,p2⟩:=mG g2.new qjG hor (fun id' hi ho=>by
      cases hi;rcases g6 _ ho with ho|ho
      ·exact h.apart _ qxr ho
      ·exact qxf ho)
     have hb2:tF V2' A2 st2 (aW Vr' O (.ob v2 (nN d offs))) A' st:=⟨g2.old,p1,h.H,h.nx,fun id' ho hc'=>(p2 id' hc').elim (fun hc'=>g2.apart id' ho hc') (fun hi=>by cases hi;exact qxf (g3.own ho))⟩;obtain⟨Vr2,A3,q1,q2,q3,q4,q5,q6,q7⟩:=nZ ks (i+1) ws as l V2' _ A2 A' qzX hp.2.2 (by rw [show (aW Vr' O (VO.ob v2 (nN d offs))).us=us from g4];exact hok) hb2
      (fun j w' a' h1 h2=>(hw (j+1) w' a' (by simpa using h1) (by simpa using h2)).mono g5) (Nat.succ.inj hl) (fun j a' h1=>by have:=has (j+1) a' (by simpa using h1);rwa [show i+(j+1)=i+1+j by omega] at this) hnp hd hk4
     refine⟨Vr2,A3,q1,q2,fun O x hx=>q3 _ _ (g5 _ _ hx),fun id' ho=>?_,q5,fun n x hx=>(q6 n x hx).elim (fun h=>g8 n x h) (fun h=>.inr (g9.us _ h)),(g9.trans (gm.set rfl)).trans q7⟩;rcases q4 id' ho with ho|ho
     ·rcases p2 id' ho with ho|hi
      ·exact(g6 id' ho).imp (fun h=>h) (bh V2 i).own
      ·cases hi;exact .inr qxr
     ·exact .inr ((bh V2 i).own (g3.own ho))
 |.sl sz::ks,i,ws,as,ims,V2,Vr,A2,A,him,hp,hok,h,hw,hl,has,hnp,hd,hk=>by
  cases ws with
  |nil=>simp [bZ] at him
  |cons w ws=>
   cases as with
   |nil=>cases hl
   |cons a as=>
    obtain⟨O,l,rfl,qzX,rfl⟩:=xL him;simp only [fh,List.all_cons,Lm] at hp;have hz:dH sz=true:=hp.1;simp only [fh,Aw,Lm] at hok;obtain⟨hlt,hok⟩:=hok;have hwa:=hw 0 _ a rfl rfl;cases hwa with
    |@sl _ _ hAO=>
    have hk':cS V2 none (.t i) fun w=>fI V2 sz w fun es V'=>nL (fh np rk ks (i+1)) V' (pO (fh np rk ks (i+1)) l (aW Vr O (.gr sz es)) k):=hk
    obtain⟨e,a',he,ha',hv',hk'⟩:=xp h.old hk';have ha0:=has 0 _ rfl;rw [Nat.add_zero,ha'] at ha0;cases ha0;have hsl:sq A2 e.v a:=by
     have hne:=hk';unfold fI at hne;generalize e.v=w at hv' hne;cases hv'<;>first|(cases hne;done)|skip
     ·exact .inl rfl
     ·exact .inr rfl
     ·assumption
    obtain⟨es,V1,hk1,hs1,qxA,hone⟩:=kK h hsl hk';obtain⟨inn,hT⟩:=qxA hz;have hTO:nR st.H sz es a/\∀id,bJ a=some id->bN V2 A2 id/\¬bN V1 A2 id:=by obtain⟨q1,_,q3⟩:=hT.2 (fun n=>match n with|.s _=>none|.i _ v j=>if v=0 then inn j else none) 0 (fun j=>if_pos rfl) (fun v j hv=>if_neg (by omega));unfold gR at q1 q3;rw [hlt] at q1 q3;exact⟨q1,fun id hi=>q3 id (.inl hi)⟩
    have hid:=hTO.2;obtain⟨p1,p2⟩:=mG h.new (o:=.gr sz es) hAO hTO.1 (fun id hi=>h.apart id (hid id hi).1);have hb:tF V1 A2 st2 (aW Vr O (.gr sz es)) A st:=⟨hs1.r h.old,p1,h.H,h.nx,fun id ho hc=>(p2 id hc).elim (fun hc=>h.apart id (hs1.own ho) hc) (fun hi=>(hid id hi).2 ho)⟩;obtain⟨Vr2,A3,q1,q2,q3,q4,q5,q6,q7⟩:=nZ ks (i+1) ws as l V1 (aW Vr O (.gr sz es)) A2 A qzX hp.2 hok hb
     (fun j w' a' h1 h2=>hw (j+1) w' a' (by simpa using h1) (by simpa using h2)) (Nat.succ.inj hl) (fun j a' h1=>by have:=has (j+1) a' (by simpa using h1);rwa [show i+(j+1)=i+1+j by omega] at this) hnp hd hk1
    refine⟨Vr2,A3,q1,q2,q3,fun id ho=>?_,q5,q6,(gm.set rfl).trans q7⟩;rcases q4 id ho with ho|ho
    ·exact(p2 id ho).imp (fun h=>h) (fun hi=>(hid id hi).1)
    ·exact .inr (hs1.own ho)
theorem oC {A:aS} {V:ay} {st:St} (hR:R A V st):∀(xs:List aD) (k:List VV->Prop),Cf V xs k->∃ws,ws.length=(xs.map (ev st.env)).length/\(∀(j:Nat) w a,ws[j]?=some w->(xs.map (ev st.env))[j]?=some a->VR A w a)/\k ws
 |[],k,h=>⟨[],rfl,fun j w a hw=>by simp at hw,h⟩
 |x::xs,k,h=>by
  obtain⟨w,hw,h⟩:=bq (g:=none) hR trivial h;obtain⟨ws,h1,h2,h3⟩:=oC hR xs _ h;refine⟨w::ws,by simpa using h1,fun j w' a hj ha=>?_,h3⟩;cases j with
  |zero=>simp at hj ha;subst hj;subst ha;exact hw
  |succ j=>exact h2 j w' a (by simpa using hj) (by simpa using ha)
theorem lQ {d:Nat}:∀(ks:List PK) (ws:List VV) (ims:List EF),bZ d ks ws=some ims->ks.length=ws.length
 |[],[],ims,h=>rfl
 |[],_::_,ims,h=>by simp [bZ] at h
 |k::ks,[],ims,h=>by cases k<;>simp [bZ] at h
 |.tr::ks,w::ws,ims,h=>by
  have h':bZ d ks ws=some ims:=by simpa only [bZ] using h
  simp [lQ ks ws ims h']
 |.ob offs::ks,w::ws,ims,h=>by obtain⟨O,l,_,h',_⟩:=xM h;simp [lQ ks ws l h']
 |.sl sz::ks,w::ws,ims,h=>by obtain⟨O,l,_,h',_⟩:=xL h;simp [lQ ks ws l h']
theorem mR:∀(as:List AV) (i:Nat) (e:Env) (j:Nat),(cW as i e).get j=if i<=j/\j < i+as.length then as[j - i]? else e.get j
 |[],i,e,j=>by simp only [cW,List.length_nil];rw [if_neg (by omega)]
 |a::as,i,e,j=>by
  simp only [cW,mR as (i+1),Map.au,Ld];by_cases h:i+1<=j/\j < i+1+as.length
  ·rw [if_pos h,if_pos (by omega),show j - i=(j - (i+1))+1 by omega,List.getElem?_cons_succ]
  ·rw [if_neg h];by_cases e1:j=i
   ·subst e1;rw [if_pos rfl,if_pos (by omega)];simp
   ·rw [if_neg e1,if_neg (by omega)]
theorem yj {V:ay} {e:Map VE} {sz:Nat} {w:VV} {k k':List TV->ay->Prop} (hk:∀es V',V'.env=V.env->k es V'->k' es {V' with env:=e}) (h:fI V sz w k):fI {V with env:=e} sz w k':=by
 cases w<;>first|(cases h;done)|skip
 ·exact hk [] V rfl h
 ·rename_i O;have gen:∀x:Option VO,(match x with
    |some (.gr z es)=>(match Nat.blt z Bd with
     |true=>same z sz (k es (bk V O))
     |false=>False)
    |some (.gn _ s io iz _ none es)=>(match yJ sz s io iz with
     |true=>k es (bk V O)
     |false=>False)
    |_=>False)->(match x with
    |some (.gr z es)=>(match Nat.blt z Bd with
     |true=>same z sz (k' es (bk {V with env:=e} O))
     |false=>False)
    |some (.gn _ s io iz _ none es)=>(match yJ sz s io iz with
     |true=>k' es (bk {V with env:=e} O)
     |false=>False)
    |_=>False):=by
   intro x hx;split at hx
   ·rename_i z es;cases hb:Nat.blt z Bd with
    |false=>rw [hb] at hx;cases hx
    |true=>rw [hb] at hx;obtain⟨rfl,hx2⟩:=aO hx;show same z z _;unfold same;rw [cond_eq_ite,if_pos (by simp)];exact hk es (bk V O) rfl hx2
   ·rename_i s io iz ver es;cases hb:yJ sz s io iz with
    |false=>rw [hb] at hx;cases hx
    |true=>rw [hb] at hx;exact hk es (bk V O) rfl hx
   ·cases hx
  exact gen (V.H.get O) h
theorem nX {st stc:St} (hH:stc.H=st.H) (hnx:stc.nx=st.nx):∀(ks:List PK) (i:Nat) (ws:List VV) (as:List AV) (V Vc:ay) (A A0:aS) (I:JT (tG ks i) Prop) (k:ay->Prop),(tG ks i).all jF=true->R A V st->R A0 Vc stc->(∀id,bN V A id->¬bN Vc A0 id)->
  (∀(j:Nat) w a,ws[j]?=some w->as[j]?=some a->VR A w a)->ws.length=as.length->(∀(j:Nat) a,as[j]?=some a->stc.env.get (i+j)=some a)->y8 ks i ws V I->jR (tG ks i) Vc I k->
  ∃Vc' A',k Vc'/\R A' Vc' stc/\(∀id,bN Vc' A' id->bN Vc A0 id\/bN V A id)/\(∀id,bN (ey ks ws V) A id->¬bN Vc' A' id)/\Sub V (ey ks ws V)
 |[],i,ws,as,V,Vc,A,A0,I,k,hp,hR,hRc,hap,hw,hl,has,hk,hkc=>by
  cases ws with
  |nil=>exact⟨Vc,A0,hkc hk,hRc,fun id h=>.inl h,hap,Sub.refl V⟩
  |cons w ws=>cases hk
 |.tr::ks,i,ws,as,V,Vc,A,A0,I,k,hp,hR,hRc,hap,hw,hl,has,hk,hkc=>by
  cases ws with
  |nil=>cases hk
  |cons w ws=>
   cases as with
   |nil=>cases hl
   |cons a as=>
    simp only [tG,List.all_cons,Lm] at hp;simp only [y8] at hk;obtain⟨v,hc,hk⟩:=xd (hw 0 w a rfl rfl) hk;obtain⟨Vc',A',g1,g2,g3,g4,g5⟩:=nX hH hnx ks (i+1) ws as V (eO Vc i (.tr v)) A A0 (I v) k hp.2 hR (fK hRc (has 0 a rfl) (.tr hc)) hap (fun j w' a' h1 h2=>hw (j+1) w' a' (by simpa using h1) (by simpa using h2)) (Nat.succ.inj hl)
     (fun j a' h1=>by have:=has (j+1) a' (by simpa using h1);rwa [show i+(j+1)=i+1+j by omega] at this) hk (hkc v)
    exact⟨Vc',A',g1,g2,g3,g4,g5⟩
 |.ob offs::ks,i,ws,as,V,Vc,A,A0,I,k,hp,hR,hRc,hap,hw,hl,has,hk,hkc=>by
  cases ws with
  |nil=>cases hk
  |cons w ws=>
   cases as with
   |nil=>cases hl
   |cons a as=>
    simp only [tG,List.all_cons,Lm] at hp;have hz:∀p∈offs,dH p.2=true:=fun p hm=>Ll.1 hp.1 p hm
    cases w<;>first|(cases hk;done)|skip
    rename_i O off;cases off with
    |succ n=>cases hk
    |zero=>
    simp only [y8] at hk;split at hk;rotate_left
    ·cases hk
    rename_i v ovs hO;split at hk;rotate_left
    ·cases hk
    rename_i hkeys;have hwa:=hw 0 _ a rfl rfl;cases hwa with
    |@ptr _ _ id hAO=>
    obtain⟨y,hy,id',cs,ts,rfl,hHc,hc⟩:=hR.heap O _ hO;rw [hAO] at hy;cases hy;have hsl:∀j w,a_ j ovs=some w->∃x,cs[j]?=some x/\sq A w x:=fun j w hj=>by have hlt:=hc.keys j w hj;have hx:cs[j]?=some (cs[j]'(by rw [←hc.len];exact hlt)):=KX _;have:=hc.at_ j _ _ (KX hlt) hx;rw [hj] at this;exact⟨_,hx,this⟩
    have qxf:=cz hR hO hAO (id:=id) (.inl rfl);have qxr:bN V A id:=⟨O,_,_,hO,hAO,.inl rfl⟩;have hRe:R A {bk V O with env:=.leaf} stc:=⟨fun t e he=>(by cases he),fun O' o' ho=>by obtain⟨x,hx,hor⟩:=hR.heap O' o' (cN ho).2;exact⟨x,hx,hor.mono (fun _ _ h=>h) (fun _ _=>by rw [hH])⟩,fun O1 O2 o1 o2 a1 a2 id' h1 h2=>hR.inj O1 O2 o1 o2 a1 a2 id' (cN h1).2 (cN h2).2,hR.used,hR.one,hRc.fresh,fun O' o' x ho hx=>hR.dO O' o' x (cN ho).2 hx⟩
    have h1:ye {bk V O with env:=.leaf} A Vc A0 stc:=⟨hRe,hRc,fun id' ho=>hap id' ((bh V O).own ho)⟩;have hk':gu (R:=JT (.pt i i 0::tG ks (i+1)) Prop) {bk V O with env:=.leaf} ovs offs (I v) fun I V'=>y8 ks (i+1) ws {V' with env:=V.env} I:=by
     have gen:∀(offs:List (Nat×Nat)) (V1:ay) (J:JL offs (JT (.pt i i 0::tG ks (i+1)) Prop)),V1.env=V.env->gu V1 ovs offs J (fun I V'=>y8 ks (i+1) ws V' I)->gu {V1 with env:=.leaf} ovs offs J fun I V'=>y8 ks (i+1) ws {V' with env:=V.env} I:=by
      intro offs
      induction offs with
      |nil=>intro V1 J he h;show y8 ks (i+1) ws {V1 with env:=V.env} J;rw [←he];exact h
      |cons p offs ih=>
       obtain⟨off,sz⟩:=p;intro V1 J he h;simp only [gu] at h ⊢;split at h
       ·rename_i w hw;exact yj (fun es V' he' h'=>ih V' (J es) (he'.trans he) h') h
       ·cases h
     exact gen offs (bk V O) (I v) rfl hk
    obtain⟨i2,V',Vc',A',g1,g2,g0,g3,g3a,g4,g5,g6,g7,g8⟩:=jW hsl offs {bk V O with env:=.leaf} Vc A0 (I v) _ _ hz h1 hk' (hkc v);have hor:∀A3:aS,(∀O x,A' O=some x->A3 O=some x)->OR A3 stc.H (.ob v (gG i offs)) (.ptr id 0 0):=by
     intro A3 hA3;refine⟨id,cs,ts,rfl,by rw [hH];exact hHc,⟨hc.cells,hc.len,fun j w hj=>?_,fun j t x ht hx=>?_⟩⟩
     ·rw [fO] at hj;split at hj
      ·rename_i hh;obtain⟨x,hx,_⟩:=g8 j hh;rw [hc.len];exact(KY.1 hx).1
      ·cases hj
     ·rw [fO];by_cases hh:cK j offs=true
      ·rw [if_pos hh];obtain⟨x',hx',hA'⟩:=g8 j hh;rw [hx] at hx';cases hx';exact hA3 _ _ hA'
      ·rw [if_neg hh];have:=hc.at_ j t x ht hx;cases ho:a_ j ovs with
       |none=>rw [ho] at this;exact this
       |some w=>exact absurd (fD hkeys j w ho) hh
    obtain⟨Vc2,A2,p1,p2,p3,p4,p5,p6,p7,p8⟩:=uE g3.new (a:=.ptr id 0 0) g2 hor rfl (fun id' hi ho=>by
     cases hi;rcases g7 _ ho with ho|ho
     ·exact hap _ qxr ho
     ·exact qxf ho)
    have p1':jR (.pt i i 0::tG ks (i+1)) Vc2 i2 k:=p1;simp only [jR,p7] at p1';have hR':R A {V' with env:=V.env} st:=by have hs:Sub V {V' with env:=V.env}:=⟨rfl,g4.us,fun O' o' ho=>(cN (g4.H O' o' ho)).2⟩;exact hs.r hR
    obtain⟨Vc3,A3,q1,q2,q3,q4,q5⟩:=nX hH hnx ks (i+1) ws as {V' with env:=V.env} (eO Vc2 i (.ptr i 0)) A A2 i2 k hp.2.2 hR' (fK p2 (has 0 _ rfl) (.ptr p4)) (fun id' ho hc'=>by
      rcases p6 id' hc' with hc'|hi
      ·exact g3.apart id' ho hc'
      ·cases hi;exact qxf (g4.own ho)) (fun j w' a' h1 h2=>hw (j+1) w' a' (by simpa using h1) (by simpa using h2)) (Nat.succ.inj hl)
     (fun j a' h1=>by have:=has (j+1) a' (by simpa using h1);rwa [show i+(j+1)=i+1+j by omega] at this) g1 p1'
    have qze:∀(offs:List (Nat×Nat)) (V1:ay),V1.env=V.env->{jk {V1 with env:=.leaf} ovs offs with env:=V.env}=jk V1 ovs offs:=by
     intro offs
     induction offs with
     |nil=>intro V1 he;simp only [jk];rw [←he]
     |cons p offs ih=>
      obtain⟨off,sz⟩:=p;intro V1 he;simp only [jk];split
      ·rename_i w hw;cases w<;>first|exact ih V1 he|exact ih (bk V1 _) he
      ·exact ih V1 he
    have qxa:ey (.ob offs::ks) (.ptr O 0::ws) V=ey ks ws {V' with env:=V.env}:=by simp only [ey,hO];rw [g0,qze offs (bk V O) rfl]
    refine⟨Vc3,A3,q1,q2,fun id' ho=>?_,by rw [qxa];exact q4,by rw [qxa];exact(⟨rfl,g4.us,fun O' o' ho=>(cN (g4.H O' o' ho)).2⟩:Sub V {V' with env:=V.env}).trans q5⟩;rcases q3 id' ho with ho|ho
    ·rcases p6 id' ho with ho|hi
     ·rcases g7 id' ho with ho|ho
      ·exact .inl ho
      ·exact .inr ((bh V O).own ho)
     ·cases hi;exact .inr qxr
    ·exact .inr ((bh V O).own (g4.own ho))
 |.sl sz::ks,i,ws,as,V,Vc,A,A0,I,k,hp,hR,hRc,hap,hw,hl,has,hk,hkc=>by
  cases ws with
  |nil=>cases hk
  |cons w ws=>
   cases as with
   |nil=>cases hl
   |cons a as=>
    simp only [tG,List.all_cons,Lm] at hp;have hz:dH sz=true:=hp.1;cases w<;>first|(cases hk;done)|skip
    rename_i O;have hwa:=hw 0 _ a rfl rfl;cases hwa with
    |@sl _ _ hAO=>
    have hk0:fI V sz (.sl O) fun es V'=>y8 ks (i+1) ws V' (I es):=hk
    obtain⟨es,V1,hk,hV1,hs1,qxA,hone,_⟩:=jV (Vc:=V0) (A0:=fun _=>none) (st:=st) ⟨hR,hR.zero,fun id _ ⟨O,o,a,ho,_⟩=>(by cases ho)⟩ (w:=.sl O) hAO hk0;have qjE:V1=bk V O:=hV1;subst qjE;obtain⟨inn,hT⟩:=qxA hz;have qzo:=hkc es;obtain⟨Vc1,A1,qzn,hR1,hA1,hAo,qxn,hown,_,qxv,_⟩:=h_ hRc qzo (by rw [hH];exact hT) hone (fun id (hi:bN V A id/\¬bN (bk V O) A id)=>hap id hi.1);obtain⟨Vc',A',g1,g2,g3,g4,g5⟩:=nX hH hnx ks (i+1) ws as (bk V O) (eO Vc1 i (.sl i)) A A1 (I es) k hp.2 (hR.bk O) (fK hR1 (has 0 a rfl) (.sl hAo)) (fun id hoo hc=>(hown id hc).elim (fun hc=>hap id ((bh V O).own hoo) hc) (fun hi=>hi.2 hoo))
     (fun j w' a' h1 h2=>hw (j+1) w' a' (by simpa using h1) (by simpa using h2)) (Nat.succ.inj hl) (fun j a' h1=>by have:=has (j+1) a' (by simpa using h1);rwa [show i+(j+1)=i+1+j by omega] at this) hk qzn
    refine⟨Vc',A',g1,g2,fun id hoo=>?_,g4,(bh V O).trans g5⟩;rcases g3 id hoo with hoo|hoo
    ·rcases hown id hoo with hoo|hi
     ·exact .inl hoo
     ·exact .inr hi.1
    ·exact .inr ((bh V O).own hoo)
theorem xx {sh:Sh} (hsh:mg prog sh) {A:aS} {V:ay} {st:St} (hR:R A V st) {d:Option Nat} {f:Nat} {args:List aD} {k:ay->Prop} (h:n5 sh nt V d f args k):bt (aX prog) nt A V st d (.call f args .share) k:=by
 unfold n5 at h;cases d with
 |none=>cases h
 |some d=>
 simp only at h;split at h
 ·rename_i T hT;obtain⟨ws,hwl,hw,h⟩:=oC hR args _ h;obtain⟨v,H',nx',A',V',w,h1,h2,h3,h4,h5,h6⟩:=hsh.inl f T hT A V st ws _ _ hR hwl hw h;exact⟨v,H',nx',h1,hU (A1:=A') (V1:=V') h2 h5 h4 (fun _=>h3) h6⟩
 split at h
 ·cases h
 rename_i sg hsg;obtain⟨ws,hwl,hw,h⟩:=oC hR args _ h;split at h
 ·cases h
 rename_i ims him;split at h
 ·cases h
 rename_i hok;simp only [Lm] at hok;obtain⟨⟨hp1,hp2⟩,hn,hi⟩:=hok;rw [hsh.vs] at h;generalize has:args.map (ev st.env)=as at hwl hw;have hal:=kn (tG sg.ks 0) V0 [] (BO prog f sg.ks.length (fh sg.ks.length sg.rk sg.ks 0) (pO (fh sg.ks.length sg.rk sg.ks 0) ims {ey sg.ks ws V with env:=V.env.put none d} k)) hn (fun O hO=>by cases hO);have no0:∀id,¬bN V0 (fun _=>none) id:=fun id ⟨O,o,a,ho,_⟩=>by cases ho
 have qjF:R (fun _=>none) V0 ⟨cW as 0 .leaf,st.H,st.nx⟩:=⟨fun t e he=>(by cases he),fun O o ho=>(by cases ho),fun O O' o o' a a' id ho=>(by cases ho),fun _ _=>rfl,fun O a ha=>(by cases ha),hR.fresh,fun O o a ho=>(by cases ho)⟩;obtain⟨Vc,A1,g1,g2,g3,g4,g5⟩:=nX (st:=st) (stc:=⟨cW as 0 .leaf,st.H,st.nx⟩) rfl rfl sg.ks 0 ws as V V0 A (fun _=>none) _ _ hp1 hR qjF (fun id _ hc=>no0 id hc) hw hwl (fun j a ha=>by show (cW as 0 .leaf).get (0+j)=_;have hjl:=(KY.1 ha).1;rw [mR,if_pos (by omega)];simpa using ha) h hal
 have hlen:as.length=sg.ks.length:=by rw [←hwl,lQ _ _ _ him]
 obtain⟨v,H',nx',A2,V2,q1,q2,q3,q4⟩:=g1 A1 as st.H st.nx hlen g2;have ownV:∀id,bN (ey sg.ks ws V) A id->bN V A id:=fun id ho=>g5.own ho
 have hlt:∀id,bN (ey sg.ks ws V) A id->id < st.nx:=fun id ho=>hR.eg (ownV id ho)
 have qzc:∀id,bN (ey sg.ks ws V) A id->H'.get id=st.H.get id:=fun id ho=>q4.same id (hlt id ho) (g4 id ho)
 have hRr:R A {ey sg.ks ws V with env:=V.env.put none d} ⟨st.env.put (some v) d,H',nx'⟩:=by
  refine⟨fun t e he=>?_,fun O o ho=>?_,(g5.r hR).inj,fun n hu=>hR.used n (by rw [←hu];exact congrArg (fun m=>Map.get m n.base) g5.us.symm),hR.one,q2.fresh,(g5.r hR).dO⟩
  ·have he':(V.env.put none d).get t=some e:=he;rw [Map.au] at he';split at he'
   ·cases he'
   ·rename_i hne;obtain⟨a,ha,hv⟩:=hR.env t e he';exact⟨a,by show (st.env.put (some v) d).get t=_;rw [Map.au,if_neg hne];exact ha,hv⟩
  ·obtain⟨a,ha,hor⟩:=(g5.r hR).heap O o ho;exact⟨a,ha,hor.mono (fun _ _ h=>h) (fun id hi=>qzc id ⟨O,o,a,ho,ha,hi⟩)⟩
 have hb:tF V2 A2 ⟨(cW as 0 .leaf).put (some v) sg.ks.length,H',nx'⟩ {ey sg.ks ws V with env:=V.env.put none d} A ⟨st.env.put (some v) d,H',nx'⟩:=
  ⟨q2,hRr,rfl,rfl,fun id ho hc=>by
   rcases q4.own id ho with ho|hle
   ·exact g4 id hc ho
   ·have:=hlt id hc;omega⟩
 obtain⟨Vr',A3,p1,p2,p3,p4,p5,p6,p7⟩:=nZ (nt:=nt) (st2:=⟨(cW as 0 .leaf).put (some v) sg.ks.length,H',nx'⟩) (st:=⟨st.env.put (some v) d,H',nx'⟩) (v:=v) (d:=d) sg.ks 0 ws as ims V2 _ A2 A him hp2 (by
   have e:({ey sg.ks ws V with env:=V.env.put none d}:ay).us=V.us:=g5.us;rw [e];exact hi) hb hw hwl (fun j a ha=>by
   show ((cW as 0 .leaf).put (some v) sg.ks.length).get (0+j)=_;have hjl:=(KY.1 ha).1;rw [Map.au,if_neg (by omega),mR,if_pos (by omega)];simpa using ha) (by show ((cW as 0 .leaf).put (some v) sg.ks.length).get _=_;rw [Map.au,if_pos rfl]) (by show (st.env.put (some v) d).get d=_;rw [Map.au,if_pos rfl]) q3
 refine⟨v,H',nx',?_,st.env.put (some v) d,by simp only [oD,cond_eq_ite,if_pos p5],Vr',A3,p2,⟨q4.le,fun id hid hno=>q4.same id hid (fun hc=>?_),fun id ho=>?_⟩,⟨p3,fun n x hx=>(p6 n x hx).imp (fun h=>h) (fun h=>.inl (by have e:({ey sg.ks ws V with env:=V.env.put none d}:ay).us=V.us:=g5.us;rw [←e];exact h)),(show gm V {ey sg.ks ws V with env:=V.env.put none d} from gm.EJ g5.us g5.H).trans p7⟩,p1⟩
 ·have hk:kind (.call f args .share)=.call f args .share:=rfl;simp only [eu,hk,bF,has];exact q1
 ·rcases g3 id hc with hc|hc
  ·exact no0 id hc
  ·exact hno hc
 ·rcases p4 id ho with ho|ho
  ·exact .inl (ownV id ho)
  ·rcases q4.own id ho with ho|hle
   ·rcases g3 id ho with hc|hc
    ·exact absurd hc (no0 id)
    ·exact .inl hc
   ·exact .inr hle
end
end Go.Ax.V
namespace Go.Ax.V
section
variable {sh:Sh} {prog:Map aq} {cf:eC} {nt:Nat} {A:aS} {V:ay} {st:St} {d:Option Nat} {g:G} {k:ay->Prop}
theorem uK {sh:Sh} {nt:Nat} {V:ay} {d:Option Nat} {p:TV×Bool} {fz:Bool} {len:Nat} {zero:List AV} {parts:List (Nat×Nat×aD)} {k:ay->Prop} (h:nG sh nt V d (some p) fz len zero parts k):False:=by unfold nG at h;split at h<;>cases h
theorem xU (hsh:mg prog sh) (hR:R A V st) (ha:act g) {op:c_} (h:kq sh prog nt V d g op k):bt (aX prog) nt A V st d op k:=by
 cases op with
 |mv x=>exact IP hR ha h
 |pick c a b=>exact DT hR ha h
 |alloc zero=>exact Cs hR h
 |box x=>exact FD hR ha h
 |build zero parts=>
  cases g with
  |none=>exact Cr hR h
  |some p=>exact AA hR ha h
 |dS es len zero parts=>
  cases g with
  |none=>exact AB hR h
  |some p=>cases h
 |aK len zero parts=>
  cases g with
  |none=>obtain⟨v,H',nx',h1,h2⟩:=Az (cf:=aX prog) (gd:=none) (fz:=false) hR h;exact⟨v,H',nx',h1,h2⟩
  |some p=>exact(uK h).elim
 |load sz a=>exact DV hR ha h
 |store sz a x=>
  cases g with
  |none=>
   cases d with
   |none=>exact Cl hR h
   |some d=>cases h
  |some p=>cases h
 |gI x=>exact Co hR ha h
 |bin op x y=>exact FE hR ha h
 |eq t neg x y=>
  cases t with
  |slice=>
   cases g with
   |none=>
    simp only [kq] at h;split at h
    ·rename_i hy;exact FA hR hy h
    ·cases h
   |some q=>cases h
  |one l=>exact FB hR ha h
  |agg l=>exact FB hR ha h
 |un op x=>exact IN hR ha h
 |conv c x=>exact DX hR ha h
 |jr es bytes zero n=>
  cases g with
  |none=>exact DU hR h
  |some p=>exact(cx h).2.elim
 |iX x lo hi=>exact Cm hR ha h
 |gK es x lo hi mx=>exact DS hR ha h
 |gy n es x lo hi mx=>
  obtain⟨hz,h⟩:=cx h;cases g with
  |some q=>cases h
  |none=>
   cases lo with
   |some _=>cases h
   |none=>
    cases mx with
    |some _=>cases h
    |none=>exact Cn hR hz h
 |fW off x=>exact Cq hR ha h
 |yO off sz x=>exact Fy hR ha h
 |b_ es x i=>exact Cp hR ha h
 |jx len es x i=>exact DW hR ha h
 |idx x i=>exact Fx hR ha h
 |ext i x=>exact Fz hR ha h
 |app es bytes s x=>exact FF hR ha h
 |zc es dd s=>
  obtain⟨hz,h⟩:=cx h;cases g with
  |some q=>cases h
  |none=>exact FC hR hz h
 |BS es zero x=>cases h
 |len str x=>exact Fw hR ha h
 |vv mx xs=>exact Fv hR ha h
 |kE=>cases h
 |kD t zero ok m k=>cases h
 |sS t m k v=>cases h
 |qj m=>cases h
 |call f args m=>
  cases m with
  |share=>
   cases g with
   |none=>exact xx hsh hR h
   |some p=>cases h
  |borrow=>obtain⟨v,h1,h2⟩:=sQ hR ha h;exact⟨v,st.H,st.nx,h1,h2⟩
 |cO f args m=>
  cases m with
  |share=>cases h
  |borrow=>
   obtain⟨fv,hf,h⟩:=bz hR ha h;cases g with
   |none=>obtain⟨n,rfl,h⟩:=h;obtain⟨v,h1,h2⟩:=sQ (g:=none) hR trivial h;generalize he:ev st.env f=p at hf;cases hf;refine⟨v,st.H,st.nx,?_,h2⟩;have hk:kind (.cO f args .borrow)=.cO f args .borrow:=rfl;simp only [eu,hk,he];exact h1
   |some q=>obtain⟨c,bb⟩:=q;obtain⟨n,hn,h⟩:=h;obtain rfl:=hn ha;obtain⟨v,h1,h2⟩:=sQ hR ha h;generalize he:ev st.env f=p at hf;cases hf;refine⟨v,st.H,st.nx,?_,h2⟩;have hk:kind (.cO f args .borrow)=.cO f args .borrow:=rfl;simp only [eu,hk,he];exact h1
def EO (nt:Nat) (V:ay) (d:Option Nat) (c:TV) (bb:Bool) (k:ay->Prop):Prop:=∃g w,((g=none/\w=VV.tr yD)\/g=some (c,bb))/\bY nt V d g w k
theorem wI {c:TV} {bb:Bool} (hc:c≠.b bb) {P:TV->Prop} {v:TV} (h:gV c bb P v):v=yD:=by
 unfold gV at h;split at h
 ·rename_i x;split at h
  ·rename_i hh;exact absurd (by cases x<;>cases bb<;>first|rfl|cases hh) hc
  ·exact h
 ·exact h
section
variable {c:TV} {bb:Bool}
theorem ot (hc:c≠.b bb) {P k:TV->Prop} (h:zS (some (c,bb)) P k):k yD:=by obtain⟨v,h1,h2⟩:=h;rw [wI hc h1] at h2;exact h2
theorem aU (hc:c≠.b bb) {P:Option TV} (h:cP nt V d (some (c,bb)) P k):EO nt V d c bb k:=⟨none,.tr yD,.inl ⟨rfl,rfl⟩,ot hc h⟩
theorem dM {w:VV} (h:bY nt V d (some (c,bb)) w k):EO nt V d c bb k:=⟨_,w,.inr rfl,h⟩
theorem nW {g:G} {P:Option Nat} {k:Nat->Prop} (h:t_ g P k):∃n,k n:=by
 cases g with
 |none=>obtain⟨n,_,h⟩:=h;exact⟨n,h⟩
 |some p=>obtain⟨n,_,h⟩:=h;exact⟨n,h⟩
theorem d_ {x:aD} {k:VV->Prop} (h:cS V g x k):∃w,k w:=by
 cases x with
 |c v=>exact⟨_,h⟩
 |t n=>
  simp only [cS] at h;split at h
  ·cases h
  split at h
  ·exact⟨_,h⟩
  ·split at h
   ·cases h
   ·exact⟨_,h.2⟩
theorem cw {x:aD} {k:TV->Prop} (h:gk V g x k):∃v,k v:=by
 obtain⟨w,h⟩:=d_ h;unfold xg at h;split at h
 ·exact⟨_,h⟩
 ·exact⟨_,h⟩
 ·obtain⟨u,_,h⟩:=h;exact⟨u,h⟩
 ·cases h
theorem lH {x:Option aD} {k:Option TV->Prop} (h:mJ V g x k):∃v,k v:=by
 cases x with
 |none=>exact⟨none,h⟩
 |some x=>obtain⟨v,h⟩:=cw h;exact⟨some v,h⟩
theorem xm:∀{xs:List (Nat×Nat×aD)} {k:List (Nat×Nat×TV)->Prop},zW V g xs k->∃vs,k vs
 |[],k,h=>⟨[],h⟩
 |(off,n,x)::xs,k,h=>by obtain⟨v,h⟩:=cw h;obtain⟨vs,h⟩:=xm h;exact⟨_,h⟩
theorem xk:∀{xs:List aD} {k:List TV->Prop},zV V g xs k->∃vs,k vs
 |[],k,h=>⟨[],h⟩
 |x::xs,k,h=>by obtain⟨v,h⟩:=cw h;obtain⟨vs,h⟩:=xk h;exact⟨v::vs,h⟩
theorem k9:∀{l:List (Nat×VV)} {v:TV} {k:TV->Prop},qd V l v k->∃u,k u
 |[],v,k,h=>⟨v,h⟩
 |(off,w)::l,v,k,h=>by obtain⟨u,h⟩:=k9 (l:=l) h;obtain⟨es,u',_,h⟩:=lp h;exact⟨u',h⟩
theorem Dv {w:VV} {k:TV->Prop} (h:EI V w k):∃t,k t:=by
 unfold EI at h;split at h
 ·exact⟨_,h⟩
 ·exact⟨_,h⟩
 ·obtain⟨es,h⟩:=lp h;exact⟨_,h⟩
 ·exact k9 h
 ·obtain⟨es,h⟩:=lp h;exact⟨_,h⟩
 ·split at h
  ·split at h
   ·obtain⟨es,_,h⟩:=h;exact⟨_,h⟩
   ·cases h
  ·cases h
 ·cases h
theorem iw:∀{xs:List aD} {k:Bool->List TV->Prop},jP V g xs k->∃p ts,k p ts
 |[],k,h=>⟨_,_,h⟩
 |x::xs,k,h=>by
  obtain⟨w,h⟩:=d_ h;split at h
  ·obtain⟨p,ts,h⟩:=iw h;exact⟨_,_,h⟩
  ·obtain⟨p,ts,h⟩:=iw h;exact⟨_,_,h⟩
  ·obtain⟨t,h⟩:=k9 h;obtain⟨p,ts,h⟩:=iw h;exact⟨_,_,h⟩
  ·obtain⟨t,h⟩:=Dv h;obtain⟨p,ts,h⟩:=iw h;exact⟨_,_,h⟩
theorem wQ (hc:c≠.b bb) {sz:Option Nat} {w:VV} (h:fX nt V d (some (c,bb)) sz w k):EO nt V d c bb k:=by
 unfold fX at h;split at h
 ·split at h
  ·split at h
   ·split at h
    ·exact dM h
    ·exact aU hc h
   ·split at h
    ·exact aU hc h
    ·cases h
  ·cases h
 ·split at h
  ·split at h
   ·exact aU hc h
   ·cases h
  ·cases h
 ·exact aU hc h
 ·split at h
  ·exact aU hc h
  ·split at h
   ·split at h
    ·split at h
     ·split at h
      ·obtain⟨_,_,h⟩:=h;exact dM h
      ·cases h
     ·exact aU hc h
    ·split at h
     ·exact aU hc h
     ·cases h
   ·cases h
  ·cases h
 ·obtain⟨_,_,_,_,_,h⟩:=bX h;exact aU hc h
 ·cases h
theorem yQ (hc:c≠.b bb) {off:Nat} {sz:Option Nat} {w:VV} (h:u6 nt V d (some (c,bb)) off sz w k):EO nt V d c bb k:=by
 unfold u6 at h;split at h
 ·exact aU hc h
 ·split at h
  ·split at h
   ·exact dM h
   ·exact aU hc h
  ·split at h
   ·exact aU hc h
   ·cases h
 ·cases h
theorem wO (hc:c≠.b bb) {sz:Nat} {w:VV} {lo hi mx:Option aD} (h:wP nt V d (some (c,bb)) sz w lo hi mx k):EO nt V d c bb k:=by
 replace h:=(cx h).2;split at h
 ·split at h
  ·split at h
   ·split at h
    ·obtain⟨l,m,_,h⟩:=lH (aO h).2;cases h
    ·cases h
   ·cases h
  ·cases h
 ·split at h
  ·obtain⟨l,h⟩:=lH h;obtain⟨hh,h⟩:=lH h;exact⟨none,.tr yD,.inl ⟨rfl,rfl⟩,ot hc h⟩
  ·split at h
   ·rename_i qxh;simp at qxh
   ·cases h
 ·split at h
  ·exact dM h
  ·cases h
 ·cases h
theorem CD (hc:c≠.b bb) {op:c_} (h:kq sh prog nt V d (some (c,bb)) op k):EO nt V d c bb k:=by
 cases op with
 |mv x=>
  simp only [kq] at h;obtain⟨w,h⟩:=d_ h;unfold En at h;split at h
  ·exact aU hc h
  ·cases h
  ·exact dM h
 |pick a b e=>simp only [kq] at h;obtain⟨_,h⟩:=cw h;obtain⟨_,h⟩:=cw h;obtain⟨_,h⟩:=cw h;exact aU hc h
 |alloc zero=>simp only [kq] at h;split at h<;>cases h
 |box x=>
  simp only [kq] at h;obtain⟨w,h⟩:=d_ h;split at h
  ·exact(pT h.2 (fun _ _ h=>h)).elim
  ·cases h
 |build zero parts=>
  simp only [kq] at h;split at h
  ·obtain⟨_,h⟩:=xm h;exact aU hc h
  ·cases h
 |dS es len zero parts=>cases h
 |aK len zero parts=>exact(uK h).elim
 |load sz a=>simp only [kq] at h;obtain⟨w,h⟩:=d_ h;exact wQ hc h
 |store sz a x=>cases h
 |gI x=>simp only [kq] at h;obtain⟨w,h⟩:=d_ h;unfold s6 at h;split at h<;>first|exact dM h|cases h
 |bin op x y=>simp only [kq] at h;obtain⟨_,h⟩:=cw h;obtain⟨_,h⟩:=cw h;exact aU hc h
 |eq t neg x y=>
  cases t with
  |slice=>cases h
  |one l=>simp only [kq] at h;obtain⟨_,h⟩:=cw h;obtain⟨_,h⟩:=cw h;exact aU hc h
  |agg l=>simp only [kq] at h;obtain⟨_,h⟩:=cw h;obtain⟨_,h⟩:=cw h;exact aU hc h
 |un op x=>simp only [kq] at h;obtain⟨_,h⟩:=cw h;exact aU hc h
 |conv e x=>simp only [kq] at h;obtain⟨_,h⟩:=cw h;exact aU hc h
 |jr es bytes zero n=>exact(cx h).2.elim
 |iX x lo hi=>simp only [kq] at h;obtain⟨_,h⟩:=cw h;obtain⟨_,h⟩:=lH h;obtain⟨_,h⟩:=lH h;exact aU hc h
 |gK es x lo hi mx=>simp only [kq] at h;obtain⟨w,h⟩:=d_ h;exact wO hc h
 |gy n es x lo hi mx=>exact(cx h).2.elim
 |fW off x=>simp only [kq] at h;obtain⟨w,h⟩:=d_ h;unfold s7 at h;split at h<;>first|exact dM h|cases h
 |yO off sz x=>simp only [kq] at h;obtain⟨w,h⟩:=d_ h;exact yQ hc h
 |b_ es x i=>
  simp only [kq] at h;obtain⟨w,h⟩:=d_ h;obtain⟨iv,h⟩:=cw h;replace h:=(cx h).2;split at h
  ·exact dM (ot hc h)
  ·split at h
   ·obtain⟨n,h⟩:=nW (aO h).2;exact dM h
   ·obtain⟨n,h⟩:=nW (aO h).2;exact dM h
   ·cases h
  ·obtain⟨_,_,_,_,_,h⟩:=bX h;obtain⟨n,h⟩:=nW (aO h).2;exact dM h
  ·cases h
 |jx len es x i=>simp only [kq] at h;obtain⟨w,h⟩:=d_ h;obtain⟨iv,h⟩:=cw h;unfold wR at h;split at h<;>first|(obtain⟨n,h⟩:=nW h;exact dM h)|cases h
 |idx x i=>simp only [kq] at h;obtain⟨_,h⟩:=cw h;obtain⟨_,h⟩:=cw h;exact aU hc h
 |ext i x=>simp only [kq] at h;obtain⟨_,h⟩:=cw h;exact aU hc h
 |app es bytes s x=>
  simp only [kq] at h;obtain⟨w,h⟩:=d_ h;obtain⟨y,h⟩:=d_ h;exfalso;unfold rU at h;split at h
  ·replace h:=(aO h).2;unfold s_ at h;split at h
   ·cases h
   split at h
   ·split at h
    ·obtain⟨l,_,h⟩:=h;exact h
    ·cases h
   ·split at h
    ·split at h
     ·obtain⟨l,_,h⟩:=h;exact h
     ·cases h
    ·cases h
   ·cases h
  replace h:=(cx h).2;unfold vJ at h;have key:∀xs,(match w with
   |.bE=>∃l,m_ bytes [] xs=some l/\ff nt V d (some (c,bb)) .sl (.gr es l) k
   |.sl O=>(match V.H.get O with
    |some (.gr z es')=>same z es (∃l,m_ bytes es' xs=some l/\ff nt (bk V O) d (some (c,bb)) .sl (.gr es l) k)
    |_=>False)
   |.ow O v i=>CA V O v fun s io iz es'=>same iz es (∃l0,nP es' i io=some l0/\∃l,m_ bytes l0 xs=some l/\ff nt (aW V O (.gn O s io iz v (some i) es')) d (some (c,bb)) .sl (.gr es l) k)
   |_=>False)->False:=fun xs h=>by
   split at h
   ·obtain⟨l,_,h⟩:=h;exact h
   ·split at h
    ·obtain⟨l,_,h⟩:=(aO h).2;exact h
    ·cases h
   ·obtain⟨_,_,_,_,_,h⟩:=bX h;obtain⟨l0,_,l,_,h⟩:=(aO h).2;exact h
   ·cases h
  split at h
  ·obtain⟨xs,_,_,h⟩:=h;exact key _ h
  ·exact key _ h
  ·split at h
   ·exact key _ (aO h).2
   ·cases h
  ·cases h
 |zc es dd s=>exact(cx h).2.elim
 |BS es zero x=>cases h
 |len str x=>
  simp only [kq] at h;obtain⟨w,h⟩:=d_ h;unfold xW at h;split at h
  ·split at h
   ·exact aU hc h
   ·cases h
  ·split at h
   ·exact aU hc h
   ·exact aU hc h
   ·split at h
    ·exact aU hc h
    ·exact aU hc h
    ·cases h
   ·obtain⟨_,_,_,_,_,h⟩:=bX h;exact aU hc h
   ·cases h
 |vv mx xs=>simp only [kq] at h;obtain⟨vs,h⟩:=xk h;exact aU hc h
 |kE=>cases h
 |kD t zero ok m k=>cases h
 |sS t m k v=>cases h
 |qj m=>cases h
 |call f args m=>
  cases m with
  |share=>cases h
  |borrow=>simp only [kq] at h;obtain⟨p,ts,r,h1,h2⟩:=iw h;rw [wI hc h1] at h2;exact⟨none,.tr yD,.inl ⟨rfl,rfl⟩,h2⟩
 |cO f args m=>
  cases m with
  |share=>cases h
  |borrow=>simp only [kq] at h;obtain⟨_,h⟩:=cw h;obtain⟨n,_,h⟩:=h;obtain⟨p,ts,r,h1,h2⟩:=iw h;rw [wI hc h1] at h2;exact⟨none,.tr yD,.inl ⟨rfl,rfl⟩,h2⟩
end
theorem yW:Can yD cH:=.tp [] [] rfl (fun x hx=>by cases hx) (fun j t x ht=>by simp at ht)
def BL (prog:Map aq) (nt:Nat) (A:aS) (V:ay) (st:St) (r:Option St) (k:ay->Prop):Prop:=
 ∃st',r=some st'/\∃V' A',R A' V' st'/\Fr V A st.H st.nx V' A' st'.H st'.nx/\Ext V A V' A'/\k V'
theorem xV (hsh:mg prog sh) (hR:R A V st) {o:ax} (h:CF sh prog nt V o k):BL prog nt A V st (fk (aX prog) nt o st) k:=by
 obtain⟨dd,op,gd,fz⟩:=o;have fin:wanted st.env gd=true->(∃v H' nx',ja (aX prog) ⟨dd,op,gd,fz⟩ (ev st.env) st.H st.nx=some (v,H',nx')/\Next nt A V st dd v H' nx' k)->BL prog nt A V st (fk (aX prog) nt ⟨dd,op,gd,fz⟩ st) k:=by rintro hw ⟨v,H',nx',h1,e',h2,V',A',h3,h4,h5⟩;exact⟨⟨e',H',nx'⟩,by simp only [fk,hw,cond_true,h1,h2],V',A',h3,h4,h5⟩
 unfold CF at h;simp only at h;cases gd with
 |none=>
  cases fz with
  |true=>
   simp only at h;split at h
   ·exact fin rfl (Az hR h)
   ·cases h
  |false=>obtain⟨v,H',nx',h1,h2⟩:=xU (g:=none) hsh hR trivial h;exact fin rfl ⟨v,H',nx',h1,h2⟩
 |some p=>
  obtain⟨n,bb⟩:=p;cases fz with
  |true=>cases h
  |false=>
   obtain⟨c,a,ha,hca,h⟩:=xl hR h;by_cases hc:c=.b bb
   ·subst hc;cases hca;obtain⟨v,H',nx',h1,h2⟩:=xU (g:=some (.b bb,bb)) hsh hR rfl h;exact fin (by simp only [wanted,ha];cases bb<;>rfl) ⟨v,H',nx',h1,h2⟩
   ·obtain⟨g,w,hg,hp⟩:=CD hc h;have hw:wanted st.env (some (n,bb))=false:=by
     simp only [wanted,ha];split
     ·rename_i b' hb;cases hb;cases hca
      ·cases b'<;>cases bb<;>first|rfl|exact absurd rfl hc
      ·rename_i hf _;cases hf
     ·rfl
    have hn:Next nt A V st dd cH st.H st.nx k:=av hR (fun hact=>by
     rcases hg with ⟨rfl,rfl⟩|rfl
     ·exact .tr yW
     ·exact absurd hact hc) hp
    obtain⟨e',h2,V',A',h3,h4,h5⟩:=hn;exact⟨⟨e',st.H,st.nx⟩,by simp only [fk,hw,cond_false,h2],V',A',h3,h4,h5⟩
theorem u5 (hsh:mg prog sh):∀{l:List ax} {A:aS} {V:ay} {st:St} {k:ay->Prop},R A V st->Em sh prog nt l V k->BL prog nt A V st (eD (aX prog) nt l st) k
 |[],A,V,st,k,hR,h=>⟨st,rfl,V,A,hR,Fr.refl _ _ _ _,Ext.refl _ _,h⟩
 |o::l,A,V,st,k,hR,h=>by obtain⟨st1,h1,V1,A1,h2,h3,hx,h4⟩:=xV hsh hR h;obtain⟨st2,g1,V2,A2,g2,g3,gx,g4⟩:=u5 hsh h2 h4;exact⟨st2,by rw [eV,h1];exact g1,V2,A2,g2,h3.trans g3,hx.trans gx,g4⟩
end
end Go.Ax.V
namespace Go.Ax.V
section
variable {sh:Sh} {prog:Map aq} {cf:eC} {nt:Nat} {A:aS} {V:ay} {st:St} {d:Option Nat} {g:G} {k:ay->Prop}
theorem DK {x:aD} {k:VV->Prop} (h:cS V g x k):k (bV V x):=by
 cases x with
 |c v=>exact h
 |t n=>
  simp only [cS] at h;split at h
  ·cases h
  rename_i e he;have e1:bV V (.t n)=e.v:=by simp only [bV,he]
  rw [e1];split at h
  ·exact h
  ·split at h
   ·cases h
   ·exact h.2
theorem ee (hR:R A V st) (ha:act g) {x:aD} {k:VV->Prop} (h:cS V g x k):VR A (bV V x) (ev st.env x)/\k (bV V x):=by
 refine⟨?_,DK h⟩;cases x with
 |c v=>exact vf A v
 |t n=>
  simp only [cS] at h;split at h
  ·cases h
  rename_i e he;obtain⟨a,h1,h2⟩:=hR.env n e he;have e1:bV V (.t n)=e.v:=by simp only [bV,he]
  rw [sZ h1,e1];refine h2 (fun c bb hc=>?_);rw [hc] at h;simp only at h;split at h
  ·cases h
  ·obtain⟨e,_⟩:=h;cases e;exact ha
structure nh (A:aS) (V:ay) (f:vt) (r:Rec):Prop where
 rd:∀x∈r.cr,∃id,(match x with|.nU q=>q.id=id|.obj i=>i=id|.all=>False)/\∃T∈f.rd,∃o a,V.H.get T=some o/\A T=some a/\cC A o a id
 wr:∃l,r.bI=.ids l/\∀id∈l,∃T∈f.wr,∃o a,V.H.get T=some o/\A T=some a/\cC A o a id
def ng (A:aS) (V:ay) (f:vt) (cr:List Rd) (bI:List Nat):Prop:=
 (∀x∈cr,∃id,(match x with|.nU q=>q.id=id|.obj i=>i=id|.all=>False)/\∃T∈f.rd,∃o a,V.H.get T=some o/\A T=some a/\cC A o a id)/\
 ∀id∈bI,∃T∈f.wr,∃o a,V.H.get T=some o/\A T=some a/\cC A o a id
theorem oU {f:vt}:ng A V f [] []:=⟨fun x hx=>(by cases hx),fun id h=>(by cases h)⟩
theorem uI {f:vt} {p:aJ} (h:p.cr=[]/\p.bI=[]):ng A V f p.cr p.bI:=by rw [h.1,h.2];exact oU
def oe (p:Option aJ):Prop:=∀q,p=some q->q.cr=[]/\q.bI=[]
theorem de (v:Option AV):oe (cV v):=by
 intro q h;cases v with
 |none=>cases h
 |some v=>cases h;exact⟨rfl,rfl⟩
theorem bu (v:AV):oe (some (.val v)):=fun q h=>by cases h;exact⟨rfl,rfl⟩
theorem iF (f:Nat->AV) (o:c9):oe (some (.new f o)):=fun q h=>by cases h;exact⟨rfl,rfl⟩
theorem aG:oe none:=fun q h=>by cases h
theorem yH (hR:R A V st) (ha:act g) {sz:Option Nat} {a:aD} (h:cS V g a fun w=>fX nt V d g sz w k) {p:aJ} (hp:gE (ev st.env) sz a=some p):ng A V ⟨ef (bV V a),[],[]⟩ p.cr p.bI:=by
 obtain⟨hw,hk⟩:=ee hR ha h;generalize he:ev st.env a=x at hw;generalize bV V a=w at hw hk;have hit:∀{O:Nat} {o:VO} {pa:AV} {id gg off:Nat},x=.ptr id gg off->V.H.get O=some o->A O=some pa->bJ pa=some id->ng A V ⟨[O],[],[]⟩ p.cr p.bI:=by intro O o pa id gg off hx hO hA hi;subst hx;simp only [gE,he] at hp;cases hp;refine⟨fun y hy=>?_,fun id' h=>by cases h⟩;simp [aJ.cr] at hy;subst hy;exact⟨id,rfl,O,by simp,o,pa,hO,hA,.inl hi⟩
 cases hw with
 |@ptr O off id hO=>
  simp only [fX] at hk;split at hk
  ·rename_i v ovs ho;exact hit rfl ho hO rfl
  ·cases hk
 |@pd O off id hO=>
  simp only [fX] at hk;split at hk
  ·rename_i v ovs ho;exact hit rfl ho hO rfl
  ·cases hk
 |@ea O i off id gg b z len cap ex hO=>
  simp only [fX] at hk;split at hk
  ·rename_i z es ho;exact hit rfl ho hO rfl
  ·rename_i ho;exact hit rfl ho hO rfl
  ·cases hk
 |@e2 O v i j off id gg b z len cap ex hA=>obtain⟨s,io,iz,es,ho,_⟩:=bX hk;obtain⟨a0,ha0,_⟩:=hR.heap O _ ho;simp only [gE,he] at hp;cases hp;refine⟨fun y hy=>?_,fun id' h=>by cases h⟩;simp [aJ.cr] at hy;subst hy;exact⟨id,rfl,O,by simp [ef],_,a0,ho,ha0,.inr ⟨i,_,by simp,hA,rfl⟩⟩
 |@pt v cs b off n hl hf hcc=>
  simp only [gE,he] at hp;split at hp
  ·exact uI (de _ p hp)
  ·cases hp
 |_=>cases hk
theorem vH (hR:R A V st) {sz:Nat} {a x:aD} (h:cS V none a fun w=>cS V none x fun x=>fu V sz w x k) {p:aJ} (hp:gN (ev st.env) sz a x=some p):ng A V ⟨ef (bV V a),ef (bV V a),[]⟩ p.cr p.bI:=by
 obtain⟨hw,hk⟩:=ee (g:=none) hR trivial h;obtain⟨y,hy,hk⟩:=bq (g:=none) hR trivial hk;generalize he:ev st.env a=q at hw;generalize bV V a=w at hw hk;have hit:∀{O:Nat} {o:VO} {pa:AV} {id gg off:Nat},q=.ptr id gg off->V.H.get O=some o->A O=some pa->bJ pa=some id->ng A V ⟨[O],[O],[]⟩ p.cr p.bI:=by
  intro O o pa id gg off hx hO hA hi;subst hx;simp only [gN,he] at hp;split at hp
  ·rw [cond_eq_ite] at hp;split at hp
   ·cases hp;refine⟨fun y hy=>?_,fun id' h=>?_⟩
    ·simp [aJ.cr] at hy;subst hy;exact⟨id,rfl,O,by simp,o,pa,hO,hA,.inl hi⟩
    ·simp [aJ.bI] at h;subst h;exact⟨O,by simp,o,pa,hO,hA,.inl hi⟩
   ·cases hp
  ·cases hp
 cases hw with
 |@ptr O off id hO=>
  simp only [fu] at hk;split at hk
  ·rename_i v ovs ho;exact hit rfl ho hO rfl
  ·cases hk
 |@pd O off id hO=>
  simp only [fu] at hk;split at hk
  ·rename_i v ovs ho;exact hit rfl ho hO rfl
  ·cases hk
 |@ea O i off id gg b z len cap ex hO=>
  simp only [fu] at hk;split at hk
  ·rename_i z es ho;exact hit rfl ho hO rfl
  ·rename_i ho;exact hit rfl ho hO rfl
  ·cases hk
 |@e2 O v i j off id gg b z len cap ex hA=>
  obtain⟨s,io,iz,es,ho,_⟩:=bX hk;obtain⟨a0,ha0,_⟩:=hR.heap O _ ho;have hin:cC A (.gn O s io iz v none es) a0 id:=.inr ⟨i,_,by simp,hA,rfl⟩;simp only [gN,he] at hp;split at hp
  ·rw [cond_eq_ite] at hp;split at hp
   ·cases hp;refine⟨fun y hy=>?_,fun id' h=>?_⟩
    ·simp [aJ.cr] at hy;subst hy;exact⟨id,rfl,O,by simp [ef],_,a0,ho,ha0,hin⟩
    ·simp [aJ.bI] at h;subst h;exact⟨O,by simp [ef],_,a0,ho,ha0,hin⟩
   ·cases hp
  ·cases hp
 |_=>cases hk
theorem vL (hR:R A V st) {len es:Nat} {x:aD} {hi:Option aD} (h:cS V none x fun w=>iS nt V d len es w hi k) {p:aJ} (hp:gP (ev st.env) len es x none hi none=some p):ng A V ⟨ef (bV V x),[],[]⟩ p.cr p.bI:=by
 obtain⟨hw,hk⟩:=ee (g:=none) hR trivial h;generalize he:ev st.env x=q at hw;generalize bV V x=w at hw hk;have hit:∀{O:Nat} {o:VO} {pa:AV} {id gg off:Nat},q=.ptr id gg off->V.H.get O=some o->A O=some pa->bJ pa=some id->ng A V ⟨[O],[],[]⟩ p.cr p.bI:=by
  intro O o pa id gg off hx hO hA hi';subst hx;simp only [gP,he] at hp;split at hp
  ·cases hp
  cases hp;refine⟨fun y hy=>?_,fun id' h=>by cases h⟩;simp [aJ.cr] at hy;subst hy;exact⟨id,rfl,O,by simp,o,pa,hO,hA,.inl hi'⟩
 cases hw with
 |@ptr O off id hO=>
  simp only [iS] at hk;split at hk
  ·rename_i v ovs ho;exact hit rfl ho hO rfl
  ·cases hk
 |@pd O off id hO=>
  simp only [iS] at hk;split at hk
  ·rename_i v ovs ho;exact hit rfl ho hO rfl
  ·cases hk
 |_=>cases hk
theorem Bq (hR:R A V st) {es:Nat} {s x:aD} (hz:0 < es) (h:cS V none s fun w=>cS V none x fun x=>u7 nt V d es w x k) {p:aJ} (hp:va es (ev st.env s) (ev st.env x)=some p):ng A V ⟨sI (bV V s)++bH (bV V x),sI (bV V s),[]⟩ p.cr p.bI:=by
 obtain⟨hw,hk⟩:=ee (g:=none) hR trivial h;obtain⟨hy,hk⟩:=ee (g:=none) hR trivial hk;generalize he:ev st.env s=q at hw hp;generalize bV V s=w at hw hk;generalize hye:ev st.env x=r at hy hp;generalize bV V x=y at hy hk;cases hw with
 |@sa O off n z id cap hz' hO=>
  simp only [u7] at hk;obtain⟨rfl,hk⟩:=aO hk;split at hk;rotate_left
  ·cases hk
  rename_i v ovs ho;split at hk;rotate_left
  ·cases hk
  have own:∃T∈[O]++bH y,∃o a,V.H.get T=some o/\A T=some a/\cC A o a id:=⟨O,by simp,_,_,ho,hO,.inl rfl⟩;have qjh:∃T∈[O],∃o a,V.H.get T=some o/\A T=some a/\cC A o a id:=⟨O,by simp,_,_,ho,hO,.inl rfl⟩;have src:∀{m:Nat} {sr:Src},cq z r=some (m,sr)->∀g,sr.q=some g->∃T∈[O]++bH y,∃o a,V.H.get T=some o/\A T=some a/\cC A o a g.id:=by
   intro m sr h1 g h2;cases hy with
   |@sl P _ hP=>
    simp only [vJ] at hk;split at hk
    ·rename_i z' es ho';obtain⟨rfl,_⟩:=aO hk;obtain⟨b,hb,hs⟩:=hR.heap P _ ho';rw [hP] at hb;cases hb;rcases hs.2 with ⟨_,rfl|rfl⟩|⟨id2,g2,b2,cells,rfl,_⟩
     ·cases h1;cases h2
     ·simp only [cq,cond_eq_ite] at h1;split at h1
      ·cases h1;cases h2
      ·cases h1
     ·simp only [cq,cond_eq_ite] at h1;split at h1
      ·cases h1;cases h2;exact⟨P,by simp [bH],_,_,ho',hP,.inl rfl⟩
      ·cases h1
    ·cases hk
   |@tr v _ hcan=>
    obtain⟨xs,e1,_⟩:=hk;cases v<;>first|(cases e1;done)|skip
    cases hcan with
    |nil=>cases h1;cases h2
    |bO _ cs n z c hn hcl hsz hf hh=>
     simp only [cq,cond_eq_ite] at h1;split at h1
     ·cases h1;cases h2
     ·cases h1
   |bE=>cases h1;cases h2
   |iN=>
    simp only [cq,cond_eq_ite] at h1;split at h1
    ·cases h1;cases h2
    ·cases h1
   |_=>cases hk
  unfold va at hp;split at hp
  ·cases hp
  rename_i m sr hsr;simp only [Nat.beq_refl,cond_true] at hp;cases hp;refine⟨fun x hx=>?_,fun id' h=>?_⟩
  ·simp only [aJ.cr,Li,Lj] at hx;rcases hx with hx|rfl
   ·split at hx
    ·rename_i g hg;simp at hx;subst hx;exact⟨g.id,rfl,src hsr g hg⟩
    ·cases hx
   ·exact⟨id,rfl,own⟩
  ·simp [aJ.bI] at h;subst h;exact qjh
 |_=>cases hk
theorem BD (hR:R A V st) (ha:act g) {es bytes:Nat} {s x:aD} (h:cS V g s fun w=>cS V g x fun x=>rU sh nt V d g es bytes w x k) {p:aJ} (hp:kr es bytes (ev st.env s) (ev st.env x)=some p) :
  ng A V ⟨bH (bV V s)++bH (bV V x),bH (bV V s),bH (bV V s)⟩ p.cr p.bI:=by
 obtain⟨hw,h⟩:=ee hR ha h;obtain⟨hy,hk⟩:=ee hR ha h;generalize bV V s=w at hw hk;generalize bV V x=y at hy hk;replace hk:((∃s io xs,y=.gl s io xs)\/((∀O,y=.sl O->∃z es,V.H.get O=some (.gr z es))/\((∃v,y=.tr v)\/y=.bE\/∃O,y=.sl O)))/\
   (w=.bE\/(∃O o,w=.sl O/\V.H.get O=some o)\/∃O v i s io iz es,w=.ow O v i/\V.H.get O=some (.gn O s io iz v none es)):=by
  unfold rU at hk;split at hk
  ·rename_i s' io xs;refine⟨.inl ⟨_,_,_,rfl⟩,?_⟩;replace hk:=(aO hk).2;unfold s_ at hk;split at hk
   ·cases hk
   split at hk
   ·exact .inl rfl
   ·split at hk
    ·rename_i ho;exact .inr (.inl ⟨_,_,rfl,ho⟩)
    ·cases hk
   ·cases hk
  ·replace hk:=(cx hk).2;unfold vJ at hk;split at hk
   ·obtain⟨xs,_,_,h⟩:=hk;refine⟨.inr ⟨fun O e=>(by cases e),.inl ⟨_,rfl⟩⟩,?_⟩;split at h
    ·exact .inl rfl
    ·split at h
     ·rename_i ho;exact .inr (.inl ⟨_,_,rfl,ho⟩)
     ·cases h
    ·obtain⟨_,_,_,_,ho,_⟩:=bX h;exact .inr (.inr ⟨_,_,_,_,_,_,_,rfl,ho⟩)
    ·cases h
   ·refine⟨.inr ⟨fun O e=>(by cases e),.inr (.inl rfl)⟩,?_⟩;split at hk
    ·exact .inl rfl
    ·split at hk
     ·rename_i ho;exact .inr (.inl ⟨_,_,rfl,ho⟩)
     ·cases hk
    ·obtain⟨_,_,_,_,ho,_⟩:=bX hk;exact .inr (.inr ⟨_,_,_,_,_,_,_,rfl,ho⟩)
    ·cases hk
   ·split at hk
    ·rename_i ho;refine⟨.inr ⟨fun O e=>(by cases e;exact⟨_,_,ho⟩),.inr (.inr ⟨_,rfl⟩)⟩,?_⟩;replace hk:=(aO hk).2;split at hk
     ·exact .inl rfl
     ·split at hk
      ·rename_i ho;exact .inr (.inl ⟨_,_,rfl,ho⟩)
      ·cases hk
     ·obtain⟨_,_,_,_,ho,_⟩:=bX hk;exact .inr (.inr ⟨_,_,_,_,_,_,_,rfl,ho⟩)
     ·cases hk
    ·cases hk
   ·cases hk
 obtain⟨hky,hkw⟩:=hk;generalize ev st.env s=a at hw hp;generalize ev st.env x=b at hy hp;have hsrc:∀{m:Nat} {src:Src} {q:vr},cq es b=some (m,src)->src.q=some q->∃T∈bH y,∃o a,V.H.get T=some o/\A T=some a/\cC A o a q.id:=by
  intro m src q h1 h2;cases hy with
  |@sl O _ hO=>
   rcases hky with ⟨_,_,_,e⟩|⟨hgr,_⟩
   ·cases e
   obtain⟨z,es',ho⟩:=hgr O rfl;obtain⟨yy,hyy,hs⟩:=hR.heap O _ ho;rw [hO] at hyy;cases hyy;rcases hs.2 with ⟨_,rfl|rfl⟩|⟨id,gg,bb,cells,rfl,_⟩
   ·cases h1;cases h2
   ·simp only [cq,cond_eq_ite] at h1;split at h1
    ·cases h1;cases h2
    ·cases h1
   ·simp only [cq,cond_eq_ite] at h1;split at h1
    ·cases h1;cases h2;exact⟨O,by simp [bH],_,_,ho,hO,.inl rfl⟩
    ·cases h1
  |@tr v _ hc=>
   cases hc<;>first|(cases h1;done)|skip
   ·cases h1;cases h2
   ·simp only [cq,cond_eq_ite] at h1;split at h1
    ·cases h1;cases h2
    ·cases h1
   ·rename_i hf _;cases b<;>first|(cases hf;done)|skip
    all_goals first
     |(cases h1;cases h2;done)
     |(simp only [cq,cond_eq_ite] at h1
       split at h1
       ·cases h1;cases h2
       ·cases h1)
  |bE=>cases h1;cases h2
  |iN=>
   simp only [cq,cond_eq_ite] at h1;split at h1
   ·cases h1;cases h2
   ·cases h1
  |gl _ _ _ _ _=>
   simp only [cq,cond_eq_ite] at h1;split at h1
   ·cases h1;cases h2
   ·cases h1
  |_=>exfalso;rcases hky with ⟨_,_,_,e⟩|⟨_,⟨_,e⟩|e|⟨_,e⟩⟩<;>cases e
 have qxG:∀{id:Nat},bJ a=some id->∃T∈bH w,∃o a,V.H.get T=some o/\A T=some a/\cC A o a id:=by
  intro id hi;rcases hkw with rfl|⟨O,o,rfl,ho⟩|⟨O,v,i,s,io,iz,es,rfl,ho⟩
  ·cases hw<;>cases hi
  ·cases hw with
   |sl hO=>exact⟨O,by simp [bH],_,_,ho,hO,.inl hi⟩
  ·cases hw with
   |ow hA=>obtain⟨a0,ha0,_⟩:=hR.heap O _ ho;exact⟨O,by simp [bH],_,_,ho,ha0,.inr ⟨i,_,by simp,hA,hi⟩⟩
 have mk:∀(q:Option vr) (u:Option Nat) (kk:List AV->Option c9->Option Out),(∀r,q=some r->∃T∈bH y,∃o a,V.H.get T=some o/\A T=some a/\cC A o a r.id)->
   (∀i,u=some i->∃T∈bH w,∃o a,V.H.get T=some o/\A T=some a/\cC A o a i)->ng A V ⟨bH w++bH y,bH w,bH w⟩ (aJ.look q u kk).cr (aJ.look q u kk).bI:=by
  intro q u kk h1 h2;refine⟨fun z hz=>?_,fun id hid=>?_⟩
  ·simp only [aJ.cr,Li] at hz;rcases hz with hz|hz
   ·cases q with
    |none=>cases hz
    |some r=>simp at hz;subst hz;obtain⟨T,h3,h4⟩:=h1 r rfl;exact⟨r.id,rfl,T,List.mem_append_right _ h3,h4⟩
   ·cases u with
    |none=>cases hz
    |some i=>simp at hz;subst hz;obtain⟨T,h3,h4⟩:=h2 i rfl;exact⟨i,rfl,T,List.mem_append_left _ h3,h4⟩
  ·cases u with
   |none=>cases hid
   |some i=>simp [aJ.bI] at hid;subst hid;exact h2 _ rfl
 unfold kr at hp;split at hp
 ·cases hp
 rename_i m src hm;rw [cond_eq_ite] at hp;split at hp
 ·rw [cond_eq_ite] at hp;split at hp
  ·cases hp;exact oU
  ·cases hp
 ·split at hp
  ·rw [cond_eq_ite] at hp;split at hp
   ·cases hp;exact mk _ _ _ (fun r hr=>hsrc hm hr) (fun i hi=>by cases hi)
   ·cases hp
  ·rw [cond_eq_ite] at hp;split at hp
   ·cases hp;exact mk _ _ _ (fun r hr=>hsrc hm hr) (fun i hi=>by cases hi)
   ·cases hp
  ·rename_i id gg off es' len cap ex;rw [cond_eq_ite] at hp;split at hp
   ·cases hp;unfold pV;rw [cond_eq_ite];split
    ·exact mk _ _ _ (fun r hr=>hsrc hm hr) (fun i hi=>by cases hi;exact qxG rfl)
    ·rw [cond_eq_ite];split
     ·exact mk _ _ _ (fun r hr=>hsrc hm hr) (fun i hi=>by cases hi;exact qxG rfl)
     ·exact mk _ _ _ (fun r hr=>hsrc hm hr) (fun i hi=>by cases hi;exact qxG rfl)
   ·cases hp
  ·cases hp
theorem jl {V':ay} (he:V'.env=V.env):∀(parts:List (Nat×Nat×aD)),dg V' parts=dg V parts
 |[]=>rfl
 |(_,_,x)::r=>by
  have e1:bV V' x=bV V x:=by cases x<;>simp only [bV,he]
  simp only [dg,jl he r,e1]
theorem pG {sz:Nat}:∀(parts:List (Nat×Nat×aD)) (j:Nat) (V:ay) (k:List TV->ay->Prop),R A V st->f_ V none true sz j parts k->
  ∀id∈(parts.map fun p=>ev st.env p.2.2).flatMap (bf deep st.H),∃T∈dg V parts,∃o a,V.H.get T=some o/\A T=some a/\cC A o a id
 |[],j,V,k,hR,hk,id,hid=>by simp at hid
 |(off,n,x)::r,j,V,k,hR,hk,id,hid=>by
  obtain⟨_,hk⟩:=hk;obtain⟨hw,hk⟩:=ee (g:=none) hR trivial hk;rw [List.map_cons,List.flatMap_cons,Li] at hid;have rest:∀{V1:ay} {k':List TV->ay->Prop},Sub V V1->f_ V1 none true sz (j+1) r k'->id∈(r.map fun p=>ev st.env p.2.2).flatMap (bf deep st.H)->
    ∃T∈bH (bV V x)++dg V r,∃o a,V.H.get T=some o/\A T=some a/\cC A o a id:=by
   intro V1 k' hs hk' hi;obtain⟨T,h1,o,a,h2,h3,h4⟩:=pG r (j+1) V1 k' (hs.r hR) hk' id hi;rw [jl hs.env] at h1;exact⟨T,List.mem_append_right _ h1,o,a,hs.H _ _ h2,h3,h4⟩
  simp only [dg];generalize bV V x=w at hw hk rest;generalize ev st.env x=a at hw hid;have no:a.plain=true->id∈bf deep st.H a->False:=fun hp hi=>by have:bf deep st.H a=[]:=j8 hp 27 _;rw [this] at hi;cases hi
  cases hw with
  |tr hc=>exact hid.elim (fun hi=>(no (eK hc) hi).elim) (rest (Sub.refl V) hk.2)
  |bE=>exact hid.elim (fun hi=>(no rfl hi).elim) (rest (Sub.refl V) hk.2)
  |iN=>exact hid.elim (fun hi=>(no rfl hi).elim) (rest (Sub.refl V) hk.2)
  |@sl O _ hO=>obtain⟨_,_,hk⟩:=hk;obtain⟨ob,ho,hwh,es,hk,_⟩:=sF hk;refine hid.elim (fun hi=>?_) (rest (kO V (.sl O)) hk);obtain⟨y,hy,hs⟩:=hR.heap O _ ho;rw [hO] at hy;cases hy;exact⟨O,List.mem_append_left _ (by simp [bH]),_,_,ho,hO,j7 hwh hs 27 id hi⟩
  |@st t o cs tl hv hc=>
   obtain⟨qzk,hk⟩:=hk;replace qzk:Ct o=true:=by simpa using qzk
   have qxz:=kJ hk;obtain⟨u,hk⟩:=k9 hk;refine hid.elim (fun hi=>?_) (rest (gv o V) hk.2);have hi':id∈cs.flatMap (bf 29 st.H):=hi;obtain⟨y,hy,hi'⟩:=List.mem_flatMap.1 hi';obtain⟨q,hq⟩:=List.getElem?_of_mem hy;have hlt:q < tl.length:=by rw [hc.len];exact(KY.1 hq).1
   have hat:=hc.at_ q _ y (KX hlt) hq;cases ho:a_ q o with
   |none=>rw [ho] at hat;have hh:bf 29 st.H y=[]:=jw hat.2 28 _;rw [hh] at hi';cases hi'
   |some w=>
    rw [ho] at hat;cases w<;>first|(exact absurd hat (by intro hh;exact hh))|skip
    ·rcases hat with e|e<;>(rw [e] at hi';cases hi')
    ·rename_i O;have hO:A O=some y:=hat;obtain⟨ob,hO',hwh⟩:=qxz q O (fP ho);obtain⟨y',hy',hs'⟩:=hR.heap O _ hO';rw [hO] at hy';cases hy';have hmem:∀{l:List (Nat×VV)} {i:Nat},(i,VV.sl O)∈l->O∈mI l:=by
      intro l
      induction l with
      |nil=>intro i h;cases h
      |cons p l ih=>
       intro i h;obtain⟨i',w'⟩:=p;rcases Lh.1 h with h1|h1
       ·cases h1;simp [mI]
       ·cases w'<;>first|exact ih h1|exact Lg _ (ih h1)
     exact⟨O,List.mem_append_left _ (hmem (fP ho)),_,_,hO',hO,j7 hwh hs' 26 id hi'⟩
    ·exact absurd (fP ho) (oL qzk _ _ _ _)
  |_=>cases hk
theorem gq (hR:R A V st) (ha:act g):∀{xs:List aD} {k:Bool->List TV->Prop},mq V xs=true->jP V g xs k->bn AV.plain (xs.map (ev st.env))=true
 |[],k,h,hk=>rfl
 |x::xs,k,h,hk=>by
  simp only [mq,Lm] at h;obtain⟨hw,hk⟩:=ee hR ha hk;rw [List.map_cons,aF];have h1:=h.1;generalize bV V x=w at hw hk h1;generalize ev st.env x=a at hw;have fin:∀{kk:Bool->List TV->Prop},a.plain=true->jP V g xs kk->∀y∈a::xs.map (ev st.env),AV.plain y=true:=by
   intro kk hp hk y hy;rcases Lh.1 hy with rfl|hy
   ·exact hp
   ·exact aF.1 (gq hR ha h.2 hk) y hy
  cases hw<;>first|(cases h1;done)|skip
  ·rename_i v hc;exact fin (eK hc) hk
  ·exact fin rfl hk
  ·exact fin rfl hk
  ·rename_i v ovs cs ts hv hc;obtain⟨t,hk⟩:=k9 hk;exact fin (jI hc h1) hk
theorem AU (hR:R A V st) {len:Nat} {zero:List AV} {parts:List (Nat×Nat×aD)} (h:nG sh nt V d none true len zero parts k) :
  ∀id∈(parts.map fun p=>ev st.env p.2.2).flatMap (bf deep st.H),∃T∈dg V parts,∃o a,V.H.get T=some o/\A T=some a/\cC A o a id:=by
 unfold nG at h;split at h
 ·unfold xY at h;simp only at h;split at h
  ·split at h<;>first|(cases h;done)|skip
   split at h<;>first|(cases h;done)|skip
  ·exact pG parts 0 V _ hR (aO (cx h).2).2
 ·simp only at h;split at h;rotate_left
  ·cases h
  rename_i off n x;split at h;rotate_left
  ·cases h
  obtain⟨w,hw,hk⟩:=bq (g:=none) hR trivial h;have hpl:(ev st.env x).plain=true:=by
   generalize ev st.env x=p at hw;unfold Eo at hk;split at hk
   ·cases hw<;>rfl
   ·split at hk
    ·cases hw with
     |st hv hc=>exact jI hc rfl
    ·cases hk
   ·cases hk
  intro id hid;have hh:bf deep st.H (ev st.env x)=[]:=j8 hpl 27 _;simp only [List.map_cons,List.map_nil,List.flatMap_cons,List.flatMap_nil,List.append_nil] at hid;rw [hh] at hid;cases hid
theorem CE (hR:R A V st) {o:ax} (h:CF sh prog nt V o k) {f:vt} (hf:sY V o=some f) {st':St} (hrun:fk (aX prog) nt o st=some st') (n0:Nat) :
  ∃r,bC (aX prog) nt n0 o st=some (st',r)/\nh A V f r/\r.uz=st.nx/\r.mm=st'.nx:=by
 obtain⟨dd,op,gd,fz⟩:=o;unfold fk at hrun;simp only [cond_eq_ite] at hrun;by_cases hw:wanted st.env gd=true;rotate_left
 ·rw [if_neg hw] at hrun;split at hrun
  ·rename_i e he;cases hrun;exact⟨⟨[],.ids [],st.H,st.H,st.nx,st.nx⟩,by simp only [bC,cond_eq_ite,if_neg hw,he],⟨fun x hx=>(by cases hx),⟨[],rfl,fun id hid=>(by cases hid)⟩⟩,rfl,rfl⟩
  ·cases hrun
 rw [if_pos hw] at hrun;split at hrun
 ·cases hrun
 rename_i v H' nx' hdo;split at hrun;rotate_left
 ·cases hrun
 rename_i e he;cases hrun;have fin:∀{cr:List Rd} {bI:List Nat},dY (aX prog) n0 ⟨dd,op,gd,fz⟩ (ev st.env) st.H st.nx=some (v,H',nx',cr,.ids bI)->ng A V f cr bI->
   ∃r,bC (aX prog) nt n0 ⟨dd,op,gd,fz⟩ st=some (⟨e,H',nx'⟩,r)/\nh A V f r/\r.uz=st.nx/\r.mm=nx':=by
  intro cr bI h1 h2;exact⟨⟨cr,.ids bI,st.H,H',st.nx,nx'⟩,by simp only [bC,cond_eq_ite,if_pos hw,h1,he],⟨h2.1,bI,rfl,h2.2⟩,rfl,rfl⟩
 cases fz with
 |true=>
  have hgd:gd=none:=by
   cases gd with
   |none=>rfl
   |some p=>cases h
  subst hgd;simp only [CF] at h;split at h
  ·rename_i len zero parts;simp only [sY] at hf;cases hf;have qzm:∀id∈(parts.map fun p=>ev st.env p.2.2).flatMap (bf deep st.H),∃T∈dg V parts,∃o a,V.H.get T=some o/\A T=some a/\cC A o a id:=AU hR h;simp only [ja,cond_true] at hdo
   ·split at hdo
    ·cases hdo
    rename_i l hl;split at hdo
    ·rename_i v' hv';cases hdo;refine fin (cr:=((parts.map fun p=>ev st.env p.2.2).flatMap (bf deep st.H)).map Rd.obj) (bI:=(parts.map fun p=>ev st.env p.2.2).flatMap (bf deep st.H)) ?_ ⟨fun x hx=>?_,qzm⟩
     ·simp only [dY,cond_true,hl,hv']
     ·obtain⟨id,hid,rfl⟩:=Lk.1 hx;exact⟨id,rfl,qzm id hid⟩
    ·cases hdo
  ·cases h
 |false=>
  have hev:∃g:G,act g/\kq sh prog nt V dd g op k:=by
   cases gd with
   |none=>exact⟨none,trivial,h⟩
   |some p=>
    obtain⟨n,bb⟩:=p;obtain⟨c,a,ha,hca,h⟩:=xl hR h;refine⟨some (c,bb),?_,h⟩;simp only [wanted,ha] at hw;split at hw
    ·rename_i b' hb;cases hb;cases hca;rotate_left
     ·rename_i hf _;cases hf
     show TV.b b'=TV.b bb;congr 1;cases b'<;>cases bb<;>first|rfl|cases hw
    ·cases hw
  obtain⟨g,hact,h⟩:=hev;have qxu:eu (aX prog) op (ev st.env) st.H st.nx=some (v,H',nx'):=hdo;have plan:∀{p:(aD->AV)->Option aJ},kind op=.plan p->(∀q,p (ev st.env)=some q->ng A V f q.cr q.bI)->∃r,bC (aX prog) nt n0 ⟨dd,op,gd,false⟩ st=some (⟨e,H',nx'⟩,r)/\nh A V f r/\r.uz=st.nx/\r.mm=nx':=by
   intro p hk hl;simp only [eu,hk] at qxu;split at qxu
   ·rename_i q hq;refine fin (cr:=q.cr) (bI:=q.bI) ?_ (hl q hq);simp only [dY,cond_false,jG,hk,hq,qxu]
   ·cases qxu
  have plain:∀{p:(aD->AV)->Option aJ},kind op=.plan p->oe (p (ev st.env))->∃r,bC (aX prog) nt n0 ⟨dd,op,gd,false⟩ st=some (⟨e,H',nx'⟩,r)/\nh A V f r/\r.uz=st.nx/\r.mm=nx':=
   fun hk hs=>plan hk (fun q hq=>uI (hs q hq))
  have call:∀{n:Nat} {args:List aD},(kind op=.call n args .borrow\/∃fv,kind op=.cO fv args .borrow/\ev st.env fv=.func n)->bn AV.plain (args.map (ev st.env))=true->
    ∃r,bC (aX prog) nt n0 ⟨dd,op,gd,false⟩ st=some (⟨e,H',nx'⟩,r)/\nh A V f r/\r.uz=st.nx/\r.mm=nx':=by
   intro n args hk hp;have hd:bF (aX prog) n (args.map (ev st.env)) .borrow st.H st.nx=some (v,H',nx'):=by
    rcases hk with hk|⟨fv,hk,hf⟩
    ·simpa only [eu,hk] using qxu
    ·simpa only [eu,hk,hf] using qxu
   have hH:H'=st.H/\nx'=st.nx:=by
    have hd':=hd;simp only [bF,hp,cond_true] at hd';split at hd'
    ·cases hd';exact⟨rfl,rfl⟩
    ·cases hd'
   obtain⟨rfl,rfl⟩:=hH;refine fin (cr:=[]) (bI:=[]) ?_ oU;rcases hk with hk|⟨fv,hk,hf⟩
   ·simp only [dY,cond_false,jG,hk,b5,hp,cond_true,hd]
   ·simp only [dY,cond_false,jG,hk,hf,b5,hp,cond_true,hd]
  cases op with
  |mv x=>exact plain rfl (bu _)
  |pick c a b=>
   refine plain (p:=fun ρ=>lC ρ c a b) rfl ?_;unfold lC;split
   ·split<;>exact bu _
   ·exact aG
  |alloc zero=>exact plain rfl (iF _ _)
  |box x=>
   refine plain (p:=fun ρ=>ur ρ x) rfl ?_;unfold ur;split
   ·exact iF _ _
   ·exact aG
  |build zero parts=>
   refine plain (p:=fun ρ=>iK ρ zero parts) rfl ?_;unfold iK;split
   ·exact bu _
   ·exact aG
  |dS es len zero parts=>
   refine plain (p:=fun ρ=>gF ρ es len zero parts) rfl ?_;unfold gF;split
   ·exact iF _ _
   ·exact aG
  |aK len zero parts=>
   refine plain (p:=fun ρ=>cF ρ len zero parts) rfl ?_;unfold cF;split
   ·rw [cond_eq_ite];split
    ·exact bu _
    ·exact aG
   ·exact aG
  |load sz a=>simp only [sY] at hf;cases hf;exact plan (p:=fun ρ=>gE ρ sz a) rfl (fun q hq=>yH hR hact h hq)
  |store sz a x=>
   simp only [sY] at hf;cases hf;cases g with
   |none=>
    cases dd with
    |none=>exact plan (p:=fun ρ=>gN ρ sz a x) rfl (fun q hq=>vH hR h hq)
    |some _=>cases h
   |some _=>cases h
  |gI x=>refine plain (p:=fun ρ=>fM ρ x) rfl ?_;unfold fM;split<;>first|exact bu _|exact aG
  |bin op x y=>exact plain (p:=fun ρ=>cV (vo op (ρ x) (ρ y))) rfl (de _)
  |eq t neg x y=>
   refine plain (p:=fun ρ=>Ap ρ t neg x y) rfl ?_;unfold Ap;split
   ·exact bu _
   ·exact aG
  |un op x=>exact plain (p:=fun ρ=>cV (Du op (ρ x))) rfl (de _)
  |conv c x=>
   refine plain (p:=fun ρ=>nv ρ c x) rfl ?_;unfold nv;split
   ·exact bu _
   ·exact aG
  |jr es bytes zero n=>
   refine plain (p:=fun ρ=>nu ρ es bytes zero n) rfl ?_;unfold nu;split
   ·split
    ·rw [cond_eq_ite];split
     ·exact iF _ _
     ·exact aG
    ·exact aG
   ·exact aG
  |iX x lo hi=>
   refine plain (p:=fun ρ=>jm ρ x lo hi) rfl ?_;unfold jm;split
   ·split
    ·exact aG
    ·exact bu _
   ·exact aG
  |gK es x lo hi mx=>exact plain (p:=fun ρ=>cV (vM es ρ (ρ x) lo hi mx)) rfl (de _)
  |gy n es x lo hi mx=>
   cases hf;obtain⟨hz,h⟩:=cx h;cases g with
   |some q=>cases h
   |none=>
    cases lo with
    |some _=>cases h
    |none=>
     cases mx with
     |some _=>cases h
     |none=>exact plan (p:=fun ρ=>gP ρ n es x none hi none) rfl (fun q hq=>vL hR h hq)
  |fW off x=>refine plain (p:=fun ρ=>fe ρ off x) rfl ?_;unfold fe;split<;>first|exact bu _|exact aG
  |yO off sz x=>
   refine plain (p:=fun ρ=>uo ρ off sz x) rfl ?_;unfold uo;split
   ·split
    ·exact de _
    ·exact aG
   ·exact aG
  |b_ es x i=>
   refine plain (p:=fun ρ=>fN ρ es x i) rfl ?_;unfold fN;split
   ·split
    ·split
     ·split
      ·exact aG
      ·exact bu _
     ·exact aG
    ·rw [cond_eq_ite];split
     ·split
      ·exact bu _
      ·exact aG
     ·exact aG
    ·exact aG
   ·exact aG
  |jx len es x i=>
   refine plain (p:=fun ρ=>jn ρ len es x i) rfl ?_;unfold jn;split
   ·split
    ·split<;>first|exact bu _|exact aG
    ·exact aG
   ·exact aG
  |idx x i=>
   refine plain (p:=fun ρ=>um ρ x i) rfl ?_;unfold um;split
   ·split
    ·split
     ·exact bu _
     ·exact aG
    ·exact aG
   ·exact aG
  |ext i x=>
   refine plain (p:=fun ρ=>uq ρ i x) rfl ?_;unfold uq;split
   ·exact de _
   ·exact aG
  |app es bytes s x=>simp only [sY] at hf;cases hf;exact plan (p:=fun ρ=>kr es bytes (ρ s) (ρ x)) rfl (fun q hq=>BD hR hact h hq)
  |zc es dd s=>
   cases hf;obtain⟨hz,h⟩:=cx h;cases g with
   |some q=>cases h
   |none=>exact plan (p:=fun ρ=>va es (ρ dd) (ρ s)) rfl (fun q hq=>Bq hR hz h hq)
  |BS es zero x=>cases hf
  |len str x=>
   refine plain (p:=fun ρ=>gQ ρ str x) rfl ?_;unfold gQ;split
   ·split
    ·exact bu _
    ·exact aG
   ·split<;>first|exact bu _|exact aG
  |vv mx xs=>
   refine plain (p:=fun ρ=>sP ρ mx xs) rfl ?_;unfold sP;split
   ·exact de _
   ·exact aG
  |kE=>cases h
  |kD t zero ok m k=>cases hf
  |sS t m k v=>cases hf
  |qj m=>cases hf
  |call n args m=>
   cases m with
   |share=>cases hf
   |borrow=>
    simp only [sY] at hf;split at hf
    ·rename_i ht;simp only [kq] at h;exact call (.inl rfl) (gq hR hact ht h)
    ·cases hf
  |cO fv args m=>
   cases m with
   |share=>cases hf
   |borrow=>
    simp only [sY] at hf;split at hf
    ·rename_i ht;simp only [kq] at h;obtain⟨fvv,hfv,h⟩:=bz hR hact h;cases g with
     |none=>obtain⟨n,rfl,h⟩:=h;generalize he':ev st.env fv=p at hfv;cases hfv;exact call (.inr ⟨fv,rfl,he'⟩) (gq (g:=none) hR trivial ht h)
     |some q=>obtain⟨c,bb⟩:=q;obtain⟨n,hn,h⟩:=h;obtain rfl:=hn hact;generalize he':ev st.env fv=p at hfv;cases hfv;exact call (.inr ⟨fv,rfl,he'⟩) (gq hR hact ht h)
    ·cases hf
end
end Go.Ax.V
namespace Go.Ax.V
section
variable {sh:Sh} {prog:Map aq} {cf:eC} {nt:Nat}
theorem fR {n:Nat}:∀{l:List Nat},ko n l=true↔n∈l
 |[]=>by simp [ko]
 |m::l=>by simp [ko,fR (l:=l)]
theorem tP {m:List Nat}:∀{l:List Nat},B5 l m=true->∀n∈l,n∈m
 |[],h,n,hn=>by cases hn
 |x::l,h,n,hn=>by
  simp only [B5,Lm] at h;rcases Lh.1 hn with rfl|hn
  ·exact fR.1 h.1
  ·exact tP h.2 n hn
theorem kg {m:List Nat}:∀{l:List Nat},rY l m=true->∀n∈l,n ∉ m
 |[],h,n,hn=>by cases hn
 |x::l,h,n,hn=>by
  simp only [rY,Lm,Lp] at h;rcases Lh.1 hn with rfl|hn
  ·intro hm;rw [fR.2 hm] at h;exact absurd h.1 (by decide)
  ·exact kg h.2 n hn
theorem ji {info:List (Nat×Nat×List Nat)} {T:Nat}:∀{l:List Nat},T∈l->(cy T info).1∈gz info l
 |[],h=>by cases h
 |x::l,h=>by
  rcases Lh.1 h with rfl|h
  ·exact Lf
  ·exact Lg _ (ji h)
theorem l7 {info:List (Nat×Nat×List Nat)} {ah:List Nat}:∀{l:List Nat},ij info ah l=true->∀T∈l,∀c∈(cy T info).2,c∈ah
 |[],h,T,hT=>by cases hT
 |x::l,h,T,hT=>by
  simp only [ij,Lm] at h;rcases Lh.1 hT with rfl|hT
  ·exact tP h.1
  ·exact l7 h.2 T hT
theorem dh (T T':Nat) (x:Nat×List Nat) (l:List (Nat×Nat×List Nat)):cy T ((T',x)::l)=if T'=T then x else cy T l:=by simp only [cy,cond_eq_ite,Lq]
theorem y3 {α:Type} (v:Option α) (l r:Map α) (p:Nat->Bool):qk (.node v l r) p=((match v with|none=>true|some _=>p 0)&&(qk l (fun k=>p (Nat.succ (Nat.mul 2 k)))&&qk r (fun k=>p (Nat.succ (Nat.succ (Nat.mul 2 k)))))):=rfl
theorem iB {α:Type}:∀(m:Map α) (p:Nat->Bool),qk m p=true->∀i x,m.get i=some x->p i=true
 |.leaf,p,h,i,x,hx=>by cases hx
 |.node v l r,p,h,i,x,hx=>by
  rw [y3,Lm,Lm] at h;obtain⟨h1,h2,h3⟩:=h;rw [Map.bL] at hx;by_cases h0:i=0
  ·subst h0;simp at hx;subst hx;exact h1
  ·rw [if_neg h0] at hx;split at hx
   ·have:=iB l _ h2 _ x hx;rwa [show Nat.succ (Nat.mul 2 (i / 2))=i by show 2*(i / 2)+1=i;omega] at this
   ·have:=iB r _ h3 _ x hx;rwa [show Nat.succ (Nat.succ (Nat.mul 2 (i / 2 - 1)))=i by show 2*(i / 2 - 1)+2=i;omega] at this
theorem eX {V:ay} {T:Nat}:ic V T=true↔∃o,V.H.get T=some o:=by
 unfold ic;split
 ·rename_i o ho;exact⟨fun _=>⟨o,ho⟩,fun _=>rfl⟩
 ·rename_i ho;exact⟨fun h=>(by cases h),fun ⟨o,h⟩=>(by rw [ho] at h;cases h)⟩
theorem tw {α:Type}:∀(m:Map α) (f:Nat->Prop->Prop) (P:Nat->Prop) (k:Prop),(∀T k,f T k->P T/\k)->y2 m f k->k/\∀T x,m.get T=some x->P T
 |.leaf,f,P,k,hf,h=>⟨h,fun T x hT=>(by cases hT)⟩
 |.node v l r,f,P,k,hf,h=>by
  have h':(match v with|none=>fun k=>k|some _=>f 0) (y2 l (fun i=>f (Nat.succ (Nat.mul 2 i))) (y2 r (fun i=>f (Nat.succ (Nat.succ (Nat.mul 2 i)))) k)):=h;have h0:(∀x,v=some x->P 0)/\y2 l (fun i=>f (Nat.succ (Nat.mul 2 i))) (y2 r (fun i=>f (Nat.succ (Nat.succ (Nat.mul 2 i)))) k):=by
   cases v with
   |none=>exact⟨fun x hx=>(by cases hx),h'⟩
   |some x=>obtain⟨p,q⟩:=hf 0 _ h';exact⟨fun _ _=>p,q⟩
  obtain⟨hl,h1⟩:=tw l _ (fun i=>P (Nat.succ (Nat.mul 2 i))) _ (fun T k h=>hf _ _ h) h0.2;obtain⟨hk,h2⟩:=tw r _ (fun i=>P (Nat.succ (Nat.succ (Nat.mul 2 i)))) _ (fun T k h=>hf _ _ h) hl;refine⟨hk,fun T x hT=>?_⟩;rw [Map.bL] at hT;by_cases h00:T=0
  ·subst h00;rw [if_pos rfl] at hT;exact h0.1 x hT
  ·rw [if_neg h00] at hT;split at hT
   ·have:=h1 _ x hT;rwa [show Nat.succ (Nat.mul 2 (T / 2))=T by show 2*(T / 2)+1=T;omega] at this
   ·have:=h2 _ x hT;rwa [show Nat.succ (Nat.succ (Nat.mul 2 (T / 2 - 1)))=T by show 2*(T / 2 - 1)+2=T;omega] at this
def BJ:Option VO->Option VO->Prop
 |some (.gn K _ _ _ v h _),some (.gn K' _ _ _ v' h' _)=>K=K'/\v=v'/\(h=none\/h=h')
 |some (.gn ..),some _=>False
 |some _,some (.gn ..)=>False
 |_,_=>True
theorem zC {x y:Option VO} {k:Prop} (h:zD x y k):BJ x y/\k:=by
 unfold zD at h;split at h
 ·split at h
  ·split at h
   ·rename_i hb;rw [Lm,Lq,Lq] at hb;obtain⟨rfl,rfl⟩:=hb;split at h
    ·exact⟨⟨rfl,rfl,.inl rfl⟩,h⟩
    ·split at h
     ·obtain⟨rfl,h⟩:=h;exact⟨⟨rfl,rfl,.inr rfl⟩,h⟩
     ·cases h
   ·cases h
  ·cases h
  ·exact⟨trivial,h⟩
 ·rename_i o hne;split at h
  ·cases h
  ·rename_i qzR;refine⟨?_,h⟩;cases o<;>first|(exact(hne _ _ _ _ _ _ _ rfl).elim)|skip
   all_goals (cases y with
    |none=>trivial
    |some o=>cases o<;>first|trivial|exact(qzR _ _ _ _ _ _ _ rfl).elim)
 ·exact⟨trivial,h⟩
def C0 (V V':ay):Prop:=∀T o,V'.H.get T=some o->BJ (V.H.get T) (V'.H.get T)
theorem xe {l:List ax} {V V':ay} {k:Prop} (h:yh l V V' k):k/\(l≠[]->C0 V V'):=by
 cases l with
 |nil=>exact⟨h,fun hn=>absurd rfl hn⟩
 |cons o l=>obtain⟨h1,h2⟩:=tw V'.H _ (fun T=>BJ (V.H.get T) (V'.H.get T)) k (fun T k h=>zC h) h;exact⟨h1,fun _ T o ho=>h2 T o ho⟩
theorem lR {A A1:aS} {V V1:ay} {st:St} (hR:R A V st) (hx:Ext V A V1 A1) (hs:C0 V V1) {T:Nat} {o o':VO} {a:AV} {id:Nat} (h':V.H.get T=some o') (h:V1.H.get T=some o) (ha:A T=some a) (hi:cC A1 o a id):cC A o' a id:=by
 have hso:=hs T o h;rw [h',h] at hso;rcases hi with hi|hi
 ·exact .inl hi
 cases o with
 |gn K s io iz v hl es=>
  cases o' with
  |gn K' s' io' iz' v' hl' es'=>
   obtain⟨rfl,rfl,hh⟩:=hso;obtain⟨j,x,h1,h2,h3⟩:=hi;obtain⟨rfl,hv,_⟩:=hR.dO T _ a h' ha;rcases hx.new _ x h2 with h4|h4|⟨K2,v2,j2,s2,io2,iz2,ver2,qzg,es2,e,h4,h5⟩
   ·refine .inr ⟨j,x,fun he=>?_,h4,h3⟩;rcases hh with rfl|rfl
    ·cases he
    ·exact h1 he
   ·obtain⟨y,hy,_⟩:=hR.heap _ _ h';have:=hR.used (.s K') h4;rw [hy] at this;cases this
   ·cases e;rw [h'] at h4;cases h4;omega
  |_=>cases hso
 |_=>cases hi
structure BM (hp:Prop) (n0:Nat) (rs:List Rec) (A:aS) (V:ay) (st:St) (info:List (Nat×Nat×List Nat)) (ρ:Nat->Option Nat):Prop where
 known:∀T o a id,V.H.get T=some o->A T=some a->cC A o a id->id < n0\/∃c∈(cy T info).2,∃r,rs[c]?=some r/\r.uz<=id/\id < r.mm
 root:hp->∀T o a id,V.H.get T=some o->A T=some a->cC A o a id->ρ id=some (cy T info).1
 dom:∀id q,ρ id=some q->id < st.nx
def qm (ρ:Nat->Option Nat) (r:Rec) (f:List Nat×List Nat):Prop:=
 (∀x∈r.cr,∃id,(match x with|.nU q=>q.id=id|.obj i=>i=id|.all=>False)/\∃q,ρ id=some q/\q∈f.1)/\∃l,r.bI=.ids l/\∀id∈l,∃q,ρ id=some q/\q∈f.2
structure y5 (hp:Prop) (n0:Nat) (ahead:List (List Nat)) (rs:List Rec) (feet:List (List Nat×List Nat)) (ρ:Nat->Option Nat) (P:List (Nat×Nat)):Prop where
 len:feet.length=rs.length
 Ce:hp->∀(c:Nat) r f,rs[c]?=some r->feet[c]?=some f->qm ρ r f\/∀p∈P,(p.1=c\/p.2=c)->fL rs p=true
 known:∀(c:Nat) r ah,rs[c]?=some r->ahead[c]?=some ah->∀rs',(∀(i:Nat) a,rs[i]?=some a->rs'[i]?=some a)->r.cr.all (zX n0 rs' ah)=true/\qp n0 rs' ah r.bI=true
theorem oI {rs:List Rec} {r:Rec} {p:Nat×Nat} (h:fL rs p=true):fL (rs++[r]) p=true:=by
 unfold fL at h ⊢;split at h
 ·rename_i a b ha hb;have h1:(rs++[r])[p.1]?=some a:=by rw [KZ (KY.1 ha).1];exact ha
  have h2:(rs++[r])[p.2]?=some b:=by rw [KZ (KY.1 hb).1];exact hb
  rw [h1,h2];exact h
 ·cases h
theorem qm.mono {ρ ρ':Nat->Option Nat} (h:∀id q,ρ id=some q->ρ' id=some q) {r:Rec} {f:List Nat×List Nat} (hr:qm ρ r f):qm ρ' r f:=
 ⟨fun x hx=>let ⟨id,h1,q,h2,h3⟩:=hr.1 x hx;⟨id,h1,q,h _ _ h2,h3⟩,let ⟨l,h1,h2⟩:=hr.2;⟨l,h1,fun id hid=>let ⟨q,h3,h4⟩:=h2 id hid;⟨q,h _ _ h3,h4⟩⟩⟩
def Fm (d:Option Nat) (info:List (Nat×Nat×List Nat)):Nat:=match d with
 |some T=>(cy T info).1
 |none=>0
theorem zp {n0 i:Nat} {rs:List Rec} {A A1:aS} {V V1:ay} {st st1:St} {info info':List (Nat×Nat×List Nat)} {ρ:Nat->Option Nat} {f:vt} {d:Option Nat} {r:Rec} {feet:List (List Nat×List Nat)} {ahead:List (List Nat)} {ah:List Nat}
  (hR:R A V st) (hR1:R A1 V1 st1) (hF:Fr V A st.H st.nx V1 A1 st1.H st1.nx) (hx:Ext V A V1 A1) {hp:Prop} {P:List (Nat×Nat)} (hinv:BM hp n0 rs A V st info ρ) (hh:y5 hp n0 ahead rs feet ρ P) (hi:rs.length=i)
  (hfo:nh A V f r) (h0:r.uz=st.nx) (h1:r.mm=st1.nx) (hah:ahead[i]?=some ah) (hch:ij info ah (f.rd++f.wr)=true) (hs:qt d i V V1 f info=some info') :
  ∃ρ',(C0 V V1->BM hp n0 (rs++[r]) A1 V1 st1 info' ρ')/\y5 hp n0 ahead (rs++[r]) (feet++[(gz info f.rd,gz info f.wr)]) ρ' P:=by
 have qx3:(rs++[r])[i]?=some r:=by rw [K3 (by omega),hi,Nat.sub_self];rfl
 have hold:∀(c:Nat) a,rs[c]?=some a->(rs++[r])[c]?=some a:=fun c a hc=>by rw [KZ (KY.1 hc).1];exact hc
 have hkeys:∀T o,V1.H.get T=some o->(∃o',V.H.get T=some o')\/d=some T:=by
  unfold qt at hs;split at hs
  ·cases hs
  ·rename_i hc;intro T o hT;have:=iB _ _ hc T o hT;rw [Ln] at this;rcases this with h|h
   ·exact .inl (eX.1 h)
   ·right;cases d with
    |none=>cases h
    |some d=>simp [Jd] at h;rw [h]
 have hnew:∀T,d=some T->V.H.get T=none->∀o,V1.H.get T=some o->∃rt ch,info'=(T,rt,ch)::info/\i∈ch/\∀O o',V.H.get O=some o'->(ic V1 O&&xK (V.H.get O) (V1.H.get O))=false->(cy O info).1=rt/\∀c∈(cy O info).2,c∈ch:=by
  intro T hd hT o ho;subst hd;unfold qt at hs;split at hs
  ·cases hs
  simp only at hs;have hb:(ic V1 T&&!ic V T)=true:=by
   have e1:ic V1 T=true:=eX.2 ⟨o,ho⟩;have e2:ic V T=false:=by
    cases hh:ic V T with
    |false=>rfl
    |true=>obtain⟨o',h'⟩:=eX.1 hh;rw [hT] at h';cases h'
   rw [e1,e2];rfl
  rw [hb] at hs;simp only at hs;split at hs
  ·cases hs
  rename_i hc;have gone:∀O o',V.H.get O=some o'->(ic V1 O&&xK (V.H.get O) (V1.H.get O))=false->O∈f.src:=fun O o' h2 h3=>by
   have:=iB _ _ hc O o' h2;rw [Ln] at this;rcases this with h|h
   ·exact fR.1 h
   ·rw [h3] at h;cases h
  split at hs
  ·rename_i hsrc;cases hs;exact⟨_,_,rfl,by simp,fun O o' h2 h3=>by have:=gone O o' h2 h3;rw [hsrc] at this;cases this⟩
  ·rename_i O1 hsrc;cases hs;refine⟨_,_,rfl,Lf,fun O o' h2 h3=>?_⟩;have:=gone O o' h2 h3;rw [hsrc] at this;simp at this;subst this;exact⟨rfl,fun c hc=>Lg _ hc⟩
  ·cases hs
 have hsame:∀T o,V.H.get T=some o->cy T info'=cy T info:=by
  intro T o hT;unfold qt at hs;split at hs
  ·cases hs
  cases d with
  |none=>cases hs;rfl
  |some d=>
  simp only at hs;split at hs
  ·cases hs;rfl
  rename_i hb;simp only [Lm,Lp] at hb;have hne:d≠T:=by rintro rfl;rw [eX.2 ⟨o,hT⟩] at hb;exact absurd hb.2 (by decide)
  split at hs
  ·cases hs
  split at hs
  ·cases hs;rw [dh,if_neg hne]
  ·cases hs;rw [dh,if_neg hne]
  ·cases hs
 have hid:C0 V V1->∀T,d=some T->V.H.get T=none->∀o a id,V1.H.get T=some o->A1 T=some a->cC A1 o a id->(st.nx<=id/\id < st1.nx)\/∃(O:Nat) (o':VO) (a':AV),V.H.get O=some o'/\(ic V1 O&&xK (V.H.get O) (V1.H.get O))=false/\A O=some a'/\cC A o' a' id:=by
  intro hsm T hd hT o a id ho ha qxT;have qxe:bN V1 A1 id:=⟨T,o,a,ho,ha,qxT⟩;rcases hF.own id qxe with ⟨O,o',a',g1,g2,g3⟩|hle
  ·right;refine⟨O,o',a',g1,?_,g2,g3⟩;cases hO:V1.H.get O with
   |none=>
    have:ic V1 O=false:=by
     cases hh:ic V1 O with
     |false=>rfl
     |true=>obtain⟨o2,h2⟩:=eX.1 hh;rw [hO] at h2;cases h2
    rw [this];rfl
   |some o2=>
    rw [eX.2 ⟨o2,hO⟩,Bool.true_and,g1];have hne:O≠T:=by rintro rfl;rw [hT] at g1;cases g1
    have key:¬cC A1 o2 a' id:=fun hi=>hne (hR1.inj O T o2 o a' a id hO ho (hx.mono _ _ g2) ha hi qxT)
    have hso:=hsm O o2 hO;rw [g1,hO] at hso;have hfw:=Cz hx.mono g3;cases o' with
    |gn K s io iz v h es=>
     cases o2 with
     |gn K' s' io' iz' v' h' es'=>
      obtain⟨rfl,rfl,hh⟩:=hso;rcases hh with rfl|rfl
      ·cases h' with
       |some j=>rfl
       |none=>
        exfalso;apply key;rcases hfw with hfw|⟨j,x,p1,p2,p3⟩
        ·exact .inl hfw
        ·exact .inr ⟨j,x,by simp,p2,p3⟩
      ·exfalso;apply key;rcases hfw with hfw|⟨j,x,p1,p2,p3⟩
       ·exact .inl hfw
       ·exact .inr ⟨j,x,p1,p2,p3⟩
     |_=>cases hso
    |_=>
     exfalso;rcases hfw with hfw|hfw
     ·exact key (.inl hfw)
     ·cases hfw
  ·exact .inl ⟨hle,hR1.eg qxe⟩
 let rtD:Nat:=Fm d info'
 let ρ':Nat->Option Nat:=fun id=>if id < st.nx then ρ id else if id < st1.nx then some rtD else none
 have hρ:∀id q,ρ id=some q->ρ' id=some q:=fun id q h=>by show (if id < st.nx then ρ id else _)=_;rw [if_pos (hinv.dom id q h)];exact h
 have qxV:∀T o,V.H.get T=some o->∃a,A T=some a:=fun T o h=>let ⟨a,h1,_⟩:=hR.heap T o h;⟨a,h1⟩
 refine⟨ρ',fun hsm=>⟨fun T o a id ho ha qxT=>?_,fun hP T o a id ho ha qxT=>?_,fun id q h=>?_⟩,⟨by simp [hh.len],fun hP c r' f' hr hf=>?_,fun c r' ah' hr ha' rs' qzF=>?_⟩⟩
 ·cases hT:V.H.get T with
  |some o'=>obtain⟨a',ha'⟩:=qxV T o' hT;have:=hx.mono _ _ ha';rw [ha] at this;cases this;rw [hsame T o' hT];have qx5:=lR hR hx hsm hT ho ha' qxT;exact(hinv.known T o' a id hT ha' qx5).imp (fun h=>h) (fun ⟨c,h2,r2,h3,h4⟩=>⟨c,h2,r2,hold c r2 h3,h4⟩)
  |none=>
   have hd:d=some T:=(hkeys T o ho).elim (fun ⟨o',h⟩=>by rw [hT] at h;cases h) (fun h=>h);obtain⟨rt,ch,qx4,qjd,hO⟩:=hnew T hd hT o ho;rw [qx4,dh,if_pos rfl];rcases hid hsm T hd hT o a id ho ha qxT with ⟨h2,h3⟩|⟨O,o',a',g1,g2,g3,g4⟩
   ·exact .inr ⟨i,qjd,r,qx3,by rw [h0];exact h2,by rw [h1];exact h3⟩
   ·obtain⟨_,hc⟩:=hO O o' g1 g2;exact(hinv.known O o' a' id g1 g3 g4).imp (fun h=>h) (fun ⟨c,h2,r2,h3,h4⟩=>⟨c,hc c h2,r2,hold c r2 h3,h4⟩)
 ·cases hT:V.H.get T with
  |some o'=>obtain⟨a',ha'⟩:=qxV T o' hT;have:=hx.mono _ _ ha';rw [ha] at this;cases this;rw [hsame T o' hT];have qx5:=lR hR hx hsm hT ho ha' qxT;exact hρ _ _ (hinv.root hP T o' a id hT ha' qx5)
  |none=>
   have hd:d=some T:=(hkeys T o ho).elim (fun ⟨o',h⟩=>by rw [hT] at h;cases h) (fun h=>h);obtain⟨rt,ch,qx4,qjd,hO⟩:=hnew T hd hT o ho;rcases hid hsm T hd hT o a id ho ha qxT with ⟨h2,h3⟩|⟨O,o',a',g1,g2,g3,g4⟩
   ·show (if id < st.nx then ρ id else if id < st1.nx then some rtD else none)=_;rw [if_neg (by omega),if_pos h3];show some (Fm d info')=_;rw [hd];rfl
   ·obtain⟨qxK,_⟩:=hO O o' g1 g2;rw [qx4,dh,if_pos rfl,←qxK];exact hρ _ _ (hinv.root hP O o' a' id g1 g3 g4)
 ·have h':(if id < st.nx then ρ id else if id < st1.nx then some rtD else none)=some q:=h;split at h'
  ·have:=hF.le;omega
  ·split at h'
   ·assumption
   ·cases h'
 ·by_cases hc:c < rs.length
  ·rw [KZ hc] at hr;rw [KZ (by rw [hh.len];exact hc)] at hf;exact(hh.Ce hP c r' f' hr hf).imp (fun h=>h.mono hρ) (fun h p hp hc=>oI (h p hp hc))
  ·have hce:c=rs.length:=by have:=(KY.1 hr).1;simp at this;omega
   subst hce;rw [K3 (LB _),Nat.sub_self] at hr;rw [K3 (by rw [hh.len];exact LB _),hh.len,Nat.sub_self] at hf;cases hr;cases hf;refine .inl ⟨fun x hx'=>?_,?_⟩
   ·obtain⟨id,g1,T,g2,o,a,g3,g4,g5⟩:=hfo.rd x hx';exact⟨id,g1,_,hρ _ _ (hinv.root hP T o a id g3 g4 g5),ji g2⟩
   ·obtain⟨l,g1,g2⟩:=hfo.wr;refine⟨l,g1,fun id qxs=>?_⟩;obtain⟨T,g3,o,a,g4,g5,g6⟩:=g2 id qxs;exact⟨_,hρ _ _ (hinv.root hP T o a id g4 g5 g6),ji g3⟩
 ·by_cases hc:c < rs.length
  ·rw [KZ hc] at hr;exact hh.known c r' ah' hr ha' rs' (fun j a hj=>qzF j a (hold j a hj))
  ·have hce:c=rs.length:=by have:=(KY.1 hr).1;simp at this;omega
   subst hce;rw [K3 (LB _),Nat.sub_self] at hr;cases hr;rw [hi,hah] at ha';cases ha';have okId:∀T o a id,T∈f.rd++f.wr->V.H.get T=some o->A T=some a->cC A o a id->uR n0 rs' ah id=true:=by
    intro T o a id hT g1 g2 g3;unfold uR;rw [Ln];rcases hinv.known T o a id g1 g2 g3 with h|⟨c,h2,r2,h3,h4,h5⟩
    ·exact .inl (by simpa using h)
    ·right;rw [List.any_eq_true];refine⟨c,l7 hch T hT c h2,?_⟩;rw [qzF c r2 (hold c r2 h3)];simp only [Lm];exact⟨by simpa using h4,by simpa using h5⟩
   refine⟨Ll.2 (fun x hx'=>?_),?_⟩
   ·obtain⟨id,g1,T,g2,o,a,g3,g4,g5⟩:=hfo.rd x hx';have:=okId T o a id (List.mem_append_left _ g2) g3 g4 g5;cases x with
    |nU q=>cases g1;exact this
    |obj j=>cases g1;exact this
    |all=>cases g1
   ·obtain⟨l,g1,g2⟩:=hfo.wr;rw [g1];refine Ll.2 (fun id qxs=>?_);obtain⟨T,g3,o,a,g4,g5,g6⟩:=g2 id qxs;exact okId T o a id (List.mem_append_right _ g3) g4 g5 g6
theorem nC {n0:Nat} {rs:List Rec}:∀(ahead:List (List Nat)) (l:List Rec),ahead.length=l.length->(∀(c:Nat) r ah,l[c]?=some r->ahead[c]?=some ah->r.cr.all (zX n0 rs ah)=true/\qp n0 rs ah r.bI=true)->fT n0 rs ahead l=true
 |[],[],h,hk=>rfl
 |[],_::_,h,hk=>by cases h
 |_::_,[],h,hk=>by cases h
 |a::as,r::l,h,hk=>by obtain⟨h1,h2⟩:=hk 0 r a rfl rfl;simp only [fT,h1,h2,Bool.true_and];exact nC as l (Nat.succ.inj h) (fun c r' ah hr ha=>hk (c+1) r' ah (by simpa using hr) (by simpa using ha))
theorem tQ {ρ:Nat->Option Nat} {a b:Rec} {fa fb:List Nat×List Nat} (ha:qm ρ a fa) (hb:qm ρ b fb) (hd:∀q∈fa.2,q ∉ fb.1):still a b=true:=by
 unfold still;rw [aF];intro x hx;obtain⟨id,h1,q,h2,h3⟩:=hb.1 x hx;obtain⟨l,h4,h5⟩:=ha.2;have hno:id ∉ l:=fun hm=>by obtain⟨q',h6,h7⟩:=h5 id hm;rw [h2] at h6;cases h6;exact hd q h7 h3
 have hc:l.contains id=false:=by
  cases hh:l.contains id with
  |false=>rfl
  |true=>exact absurd (by simpa using hh) hno
 cases x with
 |nU r=>cases h1;simp only [fc,h4,hc,cond_false]
 |obj j=>cases h1;simp only [fc,h4,hc,Bool.not_false]
 |all=>cases h1
theorem BG {ρ:Nat->Option Nat} {a b:Rec} {fa fb:List Nat×List Nat} (ha:qm ρ a fa) (hb:qm ρ b fb) (hd:∀q∈fa.2,q ∉ fb.2):apart a b=true:=by
 obtain⟨l,h1,h2⟩:=ha.2;obtain⟨l',h3,h4⟩:=hb.2;unfold apart;rw [h1,h3];simp only;rw [Ll];intro id hid;obtain⟨q,h5,h6⟩:=h2 id hid;cases hh:l'.contains id with
 |false=>rfl
 |true=>obtain⟨q',h7,h8⟩:=h4 id (by simpa using hh);rw [h5] at h7;cases h7;exact absurd h8 (hd q h6)
theorem uk {n0:Nat} {ahead:List (List Nat)} {rs:List Rec} {feet:List (List Nat×List Nat)} {ρ:Nat->Option Nat} {hp:Prop} {P:List (Nat×Nat)} (hh:y5 hp n0 ahead rs feet ρ P):∀{pairs:List (Nat×Nat)},(∀p∈pairs,p∈P)->(pairs≠[]->hp)->sO feet pairs=true->bn (fL rs) pairs=true
 |[],_,_,h=>rfl
 |(i,j)::l,hsub,hpp,h=>by
  have hP:=hpp (by simp);simp only [sO,Lm] at h;rw [aF];intro p hp;rcases Lh.1 hp with rfl|hp
  ·have h1:=h.1;split at h1;rotate_left
   ·cases h1
   rename_i fa hfa;split at h1;rotate_left
   ·cases h1
   rename_i fb hfb;rw [Lm,Lm] at h1;obtain⟨d1,d2,d3⟩:=h1;have li:=(KY.1 hfa).1;have lj:=(KY.1 hfb).1;rw [hh.len] at li lj;have ra:=KX li;have rb:=KX lj;rcases hh.Ce hP i _ fa ra hfa with ha|ha;rotate_left
   ·exact ha _ (hsub _ Lf) (.inl rfl)
   rcases hh.Ce hP j _ fb rb hfb with hb|hb;rotate_left
   ·exact hb _ (hsub _ Lf) (.inr rfl)
   unfold fL;simp only [ra,rb,Lm];exact⟨⟨tQ ha hb (kg d1),tQ hb ha (kg d2)⟩,BG ha hb (kg d3)⟩
  ·exact aF.1 (uk hh (fun q hq=>hsub q (Lg _ hq)) (fun _=>hP) h.2) p hp
def dQ (info:List (Nat×Nat×List Nat)):List Nat:=info.map (·.1)
theorem bT:∀{info:List (Nat×Nat×List Nat)} {V:ay} {O:Nat} {o:VO},(dz info V).H.get O=some o->O ∉ dQ info/\V.H.get O=some o
 |[],V,O,o,h=>⟨by simp [dQ],h⟩
 |(T,x)::l,V,O,o,h=>by obtain⟨h1,h2⟩:=bT (info:=l) (V:=bk V T) h;obtain⟨h3,h4⟩:=cN h2;refine⟨fun hm=>?_,h4⟩;simp only [dQ,List.map_cons,Lh] at hm;exact hm.elim h3 h1
theorem pK:∀(info:List (Nat×Nat×List Nat)) (V:ay),(dz info V).env=V.env/\(dz info V).us=V.us
 |[],V=>⟨rfl,rfl⟩
 |(T,x)::l,V=>by obtain⟨h1,h2⟩:=pK l (bk V T);exact⟨h1,h2⟩
theorem kX {T:Nat}:∀{info:List (Nat×Nat×List Nat)},T ∉ dQ info->cy T info=(T,[])
 |[],_=>rfl
 |(T',x)::l,h=>by simp only [dQ,List.map_cons,Lh,not_or] at h;rw [dh,if_neg (Ne.symm h.1)];exact kX h.2
theorem o6 {i T:Nat} {info:List (Nat×Nat×List Nat)}:∀{ns:List Nat},T∈ns->cy T (nE i ns info)=(T,[i])
 |[],h=>by cases h
 |T'::r,h=>by
  simp only [nE,dh];by_cases e:T'=T
  ·subst e;rw [if_pos rfl]
  ·rw [if_neg e];rcases Lh.1 h with rfl|h
   ·exact absurd rfl e
   ·exact o6 h
theorem j6 {i T:Nat} {info:List (Nat×Nat×List Nat)}:∀{ns:List Nat},T ∉ ns->cy T (nE i ns info)=cy T info
 |[],h=>rfl
 |T'::r,h=>by simp only [Lh,not_or] at h;simp only [nE,dh,if_neg (Ne.symm h.1)];exact j6 h.2
theorem j4 {V:ay}:∀{l:List Nat},uB V l=true->∀T∈l,V.H.get T=none
 |[],h,T,hT=>by cases hT
 |x::l,h,T,hT=>by
  simp only [uB,Lm] at h;rcases Lh.1 hT with rfl|hT
  ·have h1:=h.1;split at h1
   ·cases h1
   ·assumption
  ·exact j4 h.2 T hT
theorem tI {V:ay} {o:ax} {ns:List Nat} (h:sy sh V o=some ns):(∃d f args,o=⟨some d,.call f args .share,none,false⟩)\/∃d f args,o=⟨d,.call f args .borrow,none,false⟩:=by
 obtain⟨dd,op,gd,fz⟩:=o;unfold sy at h;simp only at h;split at h
 ·cases h
 split at h
 ·cases h
 split at h
 ·split at h
  ·exact .inl ⟨_,_,_,rfl⟩
  ·cases h
 ·exact .inr ⟨_,_,_,rfl⟩
 ·cases h
theorem iq {A A1:aS} {V V1:ay} {st:St} {st1:St} {qxo:List (Nat×Nat×List Nat)} (hR:R A V st) (hx:∀O x,A O=some x->A1 O=some x)
  (hH:∀T o a id,T∈dQ qxo->V.H.get T=some o->A T=some a->cC A o a id->st1.H.get id=st.H.get id)
  (hown:∀id,bN V1 A1 id->bN (dz qxo V) A id\/st.nx<=id) :
  ∀(info:List (Nat×Nat×List Nat)) (W:ay),(∀T∈dQ info,T∈dQ qxo)->R A1 W st1->(∀O o,W.H.get O=some o->V1.H.get O=some o\/(O∈dQ qxo/\V.H.get O=some o/\o.pl=true))->
   R A1 (iu V info W) st1/\(iu V info W).env=W.env/\(iu V info W).us=W.us/\(∀O o,(iu V info W).H.get O=some o->V1.H.get O=some o\/(O∈dQ qxo/\V.H.get O=some o/\o.pl=true))/\∀O o,W.H.get O=some o->(iu V info W).H.get O=some o
 |[],W,_,hW,hk=>⟨hW,rfl,rfl,hk,fun _ _ h=>h⟩
 |(T,x)::l,W,hs,hW,hk=>by
  have hsl:∀T∈dQ l,T∈dQ qxo:=fun T' h=>hs T' (by simp only [dQ,List.map_cons,Lh];exact .inr h)
  have hT:T∈dQ qxo:=hs T (by simp [dQ]);simp only [iu];split
  ·exact iq hR hx hH hown l W hsl hW hk
  rename_i hWT;split;rotate_left
  ·exact iq hR hx hH hown l W hsl hW hk
  rename_i o ho;split;rotate_left
  ·exact iq hR hx hH hown l W hsl hW hk
  rename_i hpl;obtain⟨a,hA,hor⟩:=hR.heap T o ho;have qxE:∀id,bJ a=some id->bN V A id:=fun id hi=>⟨T,o,a,ho,hA,.inl hi⟩
  obtain⟨hR',_⟩:=mG (hpl:=hpl) hW (O:=T) (o:=o) (hx _ _ hA) (hor.mono hx (fun id hi=>hH T o a id hT ho hA hi)) (fun id hi ⟨O,o',a',h1,h2,h3⟩=>by
   rcases hk O o' h1 with h4|⟨h4,h5,qzf⟩
   ·rcases hown id ⟨O,o',a',h4,h2,h3⟩ with ⟨O2,o2,a2,h6,h7,h8⟩|hle
    ·obtain⟨hn,h6'⟩:=bT h6;have:=hR.inj O2 T o2 o a2 a id h6' ho h7 hA h8 (.inl hi);subst this;exact hn hT
    ·have:=hR.eg (qxE id hi);omega
   ·obtain⟨a2,h7,_⟩:=hR.heap O o' h5;have:=hx _ _ h7;rw [h2] at this;cases this;have:=hR.inj O T o' o a' a id h5 ho h7 hA ((bQ qzf).2 ((bQ qzf).1 h3)) (.inl hi);subst this;rw [hWT] at h1;cases h1)
  obtain⟨g1,g2,g3,g4,g5⟩:=iq hR hx hH hown l (aW W T o) hsl hR' (fun O o' h=>by
   simp only [aW,Map.au] at h;split at h
   ·rename_i e;subst e;cases h;exact .inr ⟨hT,ho,hpl⟩
   ·exact hk O o' h)
  refine⟨g1,g2,g3,g4,fun O o' h=>g5 O o' ?_⟩;simp only [aW,Map.au];split
  ·rename_i e;subst e;rw [hWT] at h;cases h
  ·exact h
def Ez (prog:Map aq) (nt n0:Nat) (o:ax) (A:aS) (V1:ay) (st:St) (k:ay->Prop):Prop:=
 ∃H' nx' e' H2 cr bI V2 A2,bC (aX prog) nt n0 o st=some (⟨e',H2,nx'⟩,⟨cr,bI,st.H,H2,st.nx,nx'⟩)/\(∀id,H2.get id=if id < n0\/(st.nx<=id/\id < nx') then H'.get id else st.H.get id)/\
  R A2 V2 ⟨e',H',nx'⟩/\Fr V1 A (st.H.upto fun i=>Nat.blt i n0) st.nx V2 A2 H' nx'/\Ext V1 A V2 A2/\k V2/\(∀rs ah,cr.all (zX n0 rs ah)=true/\qp n0 rs ah bI=true)/\(cr=[]\/cr=[.all])/\(bI=.ids []\/bI=.all)
theorem vD (hsh:mg prog sh) {n0 d f:Nat} {args:List aD} {A:aS} {V1:ay} {st:St} {k:ay->Prop} (hR0:R A V1 ⟨st.env,st.H.upto fun i=>Nat.blt i n0,st.nx⟩)
  (hk:n5 sh nt V1 (some d) f args k):Ez prog nt n0 ⟨some d,.call f args .share,none,false⟩ A V1 st k:=by
 obtain⟨v,H',nx',hdo,e',hput,V2,A1,hR1,hF,hx,hk1⟩:=xx (nt:=nt) hsh hR0 hk;have hkd:kind (.call f args .share)=.call f args .share:=rfl;have hcf:aX prog f (args.map (ev st.env)) (st.H.upto fun i=>Nat.blt i n0) st.nx=some (v,H',nx'):=by simpa only [eu,hkd,bF] using hdo
 let P:Nat->Bool:=fun i=>Nat.blt i n0||(Nat.ble st.nx i&&Nat.blt i nx')
 have hP:∀i,P i=true↔(i < n0\/(st.nx<=i/\i < nx')):=fun i=>by show (Nat.blt i n0||(Nat.ble st.nx i&&Nat.blt i nx'))=true↔_;simp
 let H2:aE:=(H'.upto P).union (st.H.upto fun i=>!P i)
 refine⟨H',nx',e',H2,[.all],.all,V2,A1,?_,fun id=>?_,hR1,hF,hx,hk1,fun rs ah=>⟨rfl,rfl⟩,.inr rfl,.inr rfl⟩
 ·have h1:dY (aX prog) n0 ⟨some d,.call f args .share,none,false⟩ (ev st.env) st.H st.nx=some (v,H2,nx',[.all],.all):=by simp only [dY,cond_false,jG,hkd,b5,hcf];rfl
  have hw:wanted st.env none=true:=rfl;simp only [bC,hw,cond_true,h1,hput]
 ·show ((H'.upto P).union (st.H.upto fun i=>!P i)).get id=_;rw [Map.rQ,Map.eY,Map.eY];by_cases h:P id=true
  ·rw [if_pos ((hP id).1 h)];simp only [h,if_true,Bool.not_true];cases H'.get id<;>rfl
  ·rw [if_neg (fun hc=>h ((hP id).2 hc))];simp only [h];rfl
theorem tH {n0 f:Nat} {d:Option Nat} {args:List aD} {A:aS} {V1:ay} {st:St} {k:ay->Prop} (hR0:R A V1 ⟨st.env,st.H.upto fun i=>Nat.blt i n0,st.nx⟩)
  (hk:pz sh prog nt V1 d none f args k):Ez prog nt n0 ⟨d,.call f args .borrow,none,false⟩ A V1 st k:=by
 obtain⟨v,hdo,e',hput,V2,A1,hR1,hF,hx,hk1⟩:=sQ (g:=none) hR0 trivial hk;have hkd:kind (.call f args .borrow)=.call f args .borrow:=rfl;have hw:wanted st.env none=true:=rfl;have qxu:bF (aX prog) f (args.map (ev st.env)) .borrow (st.H.upto fun i=>Nat.blt i n0) st.nx=some (v,(st.H.upto fun i=>Nat.blt i n0),st.nx):=hdo;have qq9:∀id,st.H.get id=if id < n0\/(st.nx<=id/\id < st.nx) then (st.H.upto fun i=>Nat.blt i n0).get id else st.H.get id:=by
  intro id;split
  ·rw [Map.eY,if_pos];rename_i h;have:id < n0:=by rcases h with h|h<;>omega
   simpa using this
  ·rfl
 by_cases hp:bn AV.plain (args.map (ev st.env))=true
 ·have h0:bF (aX prog) f (args.map (ev st.env)) .borrow st.H st.nx=some (v,st.H,st.nx):=by
   simp only [bF,hp,cond_true] at qxu ⊢;split at qxu
   ·rename_i r hr;simp only [Option.some.injEq,Prod.mk.injEq] at qxu;simp only [hr,qxu.1]
   ·cases qxu
  refine⟨_,st.nx,e',st.H,[],.ids [],V2,A1,?_,qq9,hR1,hF,hx,hk1,fun rs ah=>⟨rfl,rfl⟩,.inl rfl,.inl rfl⟩;have h1:dY (aX prog) n0 ⟨d,.call f args .borrow,none,false⟩ (ev st.env) st.H st.nx=some (v,st.H,st.nx,[],.ids []):=by simp only [dY,cond_false,jG,hkd,b5,hp,cond_true,h0]
  simp only [bC,hw,cond_true,h1,hput]
 ·have hpb:bn AV.plain (args.map (ev st.env))=false:=by simpa using hp
  refine⟨_,st.nx,e',st.H,[.all],.ids [],V2,A1,?_,qq9,hR1,hF,hx,hk1,fun rs ah=>⟨rfl,rfl⟩,.inr rfl,.inl rfl⟩;have h1:dY (aX prog) n0 ⟨d,.call f args .borrow,none,false⟩ (ev st.env) st.H st.nx=some (v,st.H,st.nx,[.all],.ids []):=by simp only [dY,cond_false,jG,hkd,b5,hpb,qxu]
  simp only [bC,hw,cond_true,h1,hput]
mutual
theorem yS:∀a:AV,fj a a=true
 |.bool _=>by simp [fj]
 |.int k n=>by simp [fj,CK,kZ]
 |.str _=>by simp [fj]
 |.iM=>rfl
 |.ak=>rfl
 |.ptr _ _ _=>by simp [fj]
 |.ej cs _=>by simp [fj,eI cs]
 |.bO cs _ _=>by simp [fj,eI cs]
 |.ref _ _ _ _ _ _ _=>by simp [fj]
 |.agg cs=>by simp [fj,eI cs]
 |.dc cs=>by simp [fj,eI cs]
 |.func _=>by simp [fj]
 |.iZ _=>by simp [fj]
theorem eI:∀l:List AV,jE l l=true
 |[]=>rfl
 |x::xs=>by simp [jE,yS x,eI xs]
end
theorem DN {a b:Rec} {q:vr} {xs:List AV} (ha1:a.bI=.ids []) (ha2:a.cr=[.nU q]) (hb1:b.cr=[]\/b.cr=[.all]) (hb2:b.bI=.ids []\/b.bI=.all)
  (f0:cg b.H0 (some q)=some xs) (f1:cg b.H1 (some q)=some xs) (fa:cg a.H0 (some q)=some xs):(still a b&&still b a&&apart a b)=true:=by
 rw [Lm,Lm];refine⟨⟨?_,?_⟩,?_⟩
 ·unfold still;rcases hb1 with h|h<;>rw [h]
  ·rfl
  ·rw [aF];intro y hy;simp at hy;subst hy;simp only [fc,ha1]
 ·unfold still;rw [ha2,aF];intro y hy;simp at hy;subst hy;rcases hb2 with h|h<;>simp only [fc,h]
  ·rfl
  ·simp only [qv,f0,f1,fa,eI,Bool.and_self]
 ·unfold apart;rw [ha1];rcases hb2 with h|h<;>rw [h];rfl
def C1 (v:TV) (ovs:List (Nat×VV)) (off:Nat) (key:ew):Prop:=match key with
 |.sl N=>a_ off ovs=some (.sl N)
 |.tr c=>a_ off ovs=none/\∃t,TV.uniq t=true/\c=some t/\dL v off=some t
def EE (V:ay) (O off:Nat) (keys:List ew):Prop:=keys≠[]/\∃v ovs,V.H.get O=some (.ob v ovs)/\∀(j:Nat) key,keys[j]?=some key->C1 v ovs (off+j) key
def I8 (A:aS) (key:ew) (x:AV):Prop:=match key with
 |.sl N=>A (.s N)=some x
 |.tr c=>∀t,c=some t->Can t x
def sw (A:aS) (keys:List ew) (xs:List AV):Prop:=keys≠[]/\xs.length=keys.length/\∀(j:Nat) key x,keys[j]?=some key->xs[j]?=some x->I8 A key x
theorem sw.mono {A A':aS} {keys:List ew} {xs:List AV} (h:sw A keys xs) (hx:∀O x,A O=some x->A' O=some x):sw A' keys xs:=
 ⟨h.1,h.2.1,fun j key x h1 h2=>by
  have:=h.2.2 j key x h1 h2;cases key with
  |sl N=>exact hx _ _ this
  |tr c=>exact this⟩
theorem Bw {t:TV} {x y:AV} (hu:t.uniq=true) (h1:Can t x) (h2:Can t y):x=y:=by cases t<;>first|(cases hu;done)|(cases h1;cases h2;rfl)
theorem xJ {v:TV} {ovs:List (Nat×VV)} {k:Prop}:∀{keys:List ew} {off:Nat},yI v ovs off keys k->(∀(j:Nat) key,keys[j]?=some key->C1 v ovs (off+j) key)/\k
 |[],off,h=>⟨fun j key hj=>by simp at hj,h⟩
 |key::l,off,h=>by
  have go:∀{off:Nat},C1 v ovs off key->yI v ovs (off+1) l k->(∀(j:Nat) key',(key::l)[j]?=some key'->C1 v ovs (off+j) key')/\k:=fun {off} h1 h2=>by
   obtain⟨g1,g2⟩:=xJ h2;refine⟨fun j key' hj=>?_,g2⟩;cases j with
   |zero=>simp at hj;subst hj;exact h1
   |succ j=>have:=g1 j key' (by simpa using hj);rw [show off+(j+1)=off+1+j by omega];exact this
  simp only [yI] at h;split at h
  ·rename_i N;split at h
   ·rename_i N' ho;split at h
    ·rename_i e;rw [Lq] at e;subst e;exact go ho h
    ·cases h
   ·cases h
  ·split at h
   ·rename_i ho;exact go ⟨ho,h.1⟩ h.2
   ·cases h
theorem Cx {V:ay} {O off:Nat} {key:List ew} {k:Prop} (hne:key≠[]) (h:Ee V O off key k):EE V O off key/\k:=by
 unfold Ee at h;split at h
 ·rename_i v ovs hv;obtain⟨h1,h2⟩:=xJ h;exact⟨⟨hne,v,ovs,hv,h1⟩,h2⟩
 ·cases h
theorem mX {i:Nat}:∀{cl:List (Nat×Nat×Nat×List ew)} {p:Nat×Nat×List ew},uY i cl=some p->(i,p)∈cl
 |[],p,h=>by cases h
 |(c,q)::l,p,h=>by
  simp only [uY] at h;split at h
  ·rename_i e;rw [Lq] at e;subst e;cases h;exact Lf
  ·exact Lg _ (mX h)
theorem lN {V:ay} {cl:List (Nat×Nat×Nat×List ew)} {i:Nat} {k:Prop} (hcl:∀c O off key,(c,O,off,key)∈cl->key≠[]):∀{P:List (Nat×Nat)},lO V cl i P k->k/\∀p∈P,p.1≠i/\(p.2=i->∃O off key,uY p.1 cl=some (O,off,key)/\EE V O off key)
 |[],h=>⟨h,fun p hp=>by cases hp⟩
 |(a,b)::l,h=>by
  simp only [lO] at h;split at h
  ·cases h
  rename_i hai;have hne:a≠i:=fun e=>by subst e;simp at hai
  split at h
  ·rename_i hbi;have hnb:b≠i:=fun e=>by subst e;simp at hbi
   obtain⟨g1,g2⟩:=lN hcl h;refine⟨g1,fun p hp=>?_⟩;rcases Lh.1 hp with rfl|hp
   ·exact⟨hne,fun e=>absurd e hnb⟩
   ·exact g2 p hp
  ·split at h
   ·cases h
   ·rename_i O off key hf;obtain⟨h1,h⟩:=Cx (hcl _ _ _ _ (mX hf)) h;obtain⟨g1,g2⟩:=lN hcl h;refine⟨g1,fun p hp=>?_⟩;rcases Lh.1 hp with rfl|hp
    ·exact⟨hne,fun _=>⟨O,off,key,hf,h1⟩⟩
    ·exact g2 p hp
theorem vj {A:aS} {V:ay} {st:St} (hR:R A V st) {O off id n:Nat} {v:TV} {ovs:List (Nat×VV)} {ys:List AV} (hv:V.H.get O=some (.ob v ovs)) (hA:A O=some (.ptr id 0 0))
  (hf:cg st.H (some ⟨id,0,off,n⟩)=some ys):ys.length=n/\∀(j:Nat) y,ys[j]?=some y->(∀N,a_ (off+j) ovs=some (.sl N)->A (.s N)=some y)/\(a_ (off+j) ovs=none->∀t,dL v (off+j)=some t->Can t y):=by
 obtain⟨a,ha,id',cs,ts,rfl,hH,hc⟩:=hR.heap O _ hv;rw [hA] at ha;cases ha;simp only [cg,hH,Nat.beq_refl,cond_true] at hf;rw [b8] at hf;split at hf;rotate_left
 ·cases hf
 rename_i hle;have h1:=Ly hf;refine⟨by rw [←h1];simp;omega,fun j y hy=>?_⟩;have hcs:cs[off+j]?=some y:=by
  rw [←h1,K6] at hy;split at hy
  ·rw [K7] at hy;exact hy
  ·cases hy
 have hlt:off+j < ts.length:=by rw [hc.len];exact(KY.1 hcs).1
 have hat:=hc.at_ (off+j) _ y (KX hlt) hcs;refine⟨fun N ho=>?_,fun ho t ht=>?_⟩
 ·rw [ho] at hat;exact hat
 ·rw [ho] at hat;obtain⟨ts',h1,h2⟩:=eJ ht;have:=hc.cells.symm.trans h1;cases this;rw [KX hlt] at h2;cases h2;exact hat.1
theorem xI {A:aS} {V:ay} {st:St} (hR:R A V st) {O off id:Nat} {keys:List ew} {xs:List AV} (hk:EE V O off keys) (hA:A O=some (.ptr id 0 0)) (hx:sw A keys xs):cg st.H (some ⟨id,0,off,keys.length⟩)=some xs:=by
 obtain⟨hne,v,ovs,hv,hk⟩:=hk;obtain⟨a,ha,id',cs,ts,rfl,hH,hc⟩:=hR.heap O _ hv;rw [hA] at ha;cases ha;have qjr:∀j,j < keys.length->off+j < ts.length:=by
  intro j hj;have hkj:=hk j _ (KX hj);generalize keys[j]=key at hkj;cases key with
  |sl N=>exact hc.keys _ _ hkj
  |tr c=>obtain⟨_,t,_,_,h2⟩:=hkj;obtain⟨ts',h3,h4⟩:=eJ h2;have:=hc.cells.symm.trans h3;cases this;exact(KY.1 h4).1
 have hpos:0 < keys.length:=by cases keys with|nil=>exact absurd rfl hne|cons k ks=>simp
 have hle:off+keys.length<=cs.length:=by have:=qjr (keys.length - 1) (by omega);have:=hc.len;omega
 have hf:cg st.H (some ⟨id,0,off,keys.length⟩)=some ((cs.drop off).take keys.length):=by simp only [cg,hH,Nat.beq_refl,cond_true];rw [b8,if_pos hle]
 obtain⟨g0,g1⟩:=vj hR hv hA hf;rw [hf];congr 1;generalize (cs.drop off).take keys.length=ys at g0 g1;refine List.ext_getElem? fun j=>?_
 by_cases hj:j < keys.length
 ·have e1:ys[j]?=some (ys[j]'(by rw [g0];exact hj)):=KX _;have e2:xs[j]?=some (xs[j]'(by rw [hx.2.1];exact hj)):=KX _;obtain⟨q1,q2⟩:=g1 j _ e1;have hkj:=hk j _ (KX hj);have hxj:=hx.2.2 j _ _ (KX hj) e2;rw [e1,e2];congr 1;generalize keys[j]=key at hkj hxj;cases key with
  |sl N=>have h1:=q1 N hkj;have h2:A (.s N)=some _:=hxj;rw [h1] at h2;exact Ly h2
  |tr c=>obtain⟨ho,t,hu,h1,h2⟩:=hkj;exact Bw hu (q2 ho t h2) (hxj t h1)
 ·rw [K5 (by omega),K5 (by have:=hx.2.1;omega)]
def tE (A:aS) (rs:List Rec) (cl:List (Nat×Nat×Nat×List ew)):Prop:=∀c O off keys,(c,O,off,keys)∈cl->∃r id xs,rs[c]?=some r/\r.bI=.ids []/\r.cr=[.nU ⟨id,0,off,keys.length⟩]/\A (.s O)=some (.ptr id 0 0)/\cg r.H0 (some ⟨id,0,off,keys.length⟩)=some xs/\sw A keys xs
theorem tE.ne {A:aS} {rs:List Rec} {cl:List (Nat×Nat×Nat×List ew)} (h:tE A rs cl):∀c O off key,(c,O,off,key)∈cl->key≠[]:=fun c O off key hm=>by obtain⟨_,_,_,_,_,_,_,_,hx⟩:=h c O off key hm;exact hx.1
theorem tE.mono {A A':aS} {rs:List Rec} {r:Rec} {cl:List (Nat×Nat×Nat×List ew)} (h:tE A rs cl) (hx:∀O x,A O=some x->A' O=some x):tE A' (rs++[r]) cl:=fun c O off key hm=>by obtain⟨r',id,x,h1,h2,h3,h4,h5,h6⟩:=h c O off key hm;exact⟨r',id,x,(by rw [KZ (KY.1 h1).1];exact h1),h2,h3,hx _ _ h4,h5,h6.mono hx⟩
theorem rD {v:TV} {ovs:List (Nat×VV)}:∀{n off:Nat} {keys:List ew},sV v ovs off n=some keys->keys.length=n/\∀(j:Nat) key,keys[j]?=some key->match key with
  |.sl N=>a_ (off+j) ovs=some (.sl N)
  |.tr c=>a_ (off+j) ovs=none/\c=dL v (off+j)
 |0,off,keys,h=>by cases h;exact⟨rfl,fun j key hj=>by simp at hj⟩
 |n+1,off,keys,h=>by
  simp only [sV] at h;split at h
  ·cases h
  rename_i l hl;obtain⟨g1,g2⟩:=rD hl;have shift:∀j,off+(j+1)=off+1+j:=fun j=>by omega
  split at h
  ·rename_i N ho;cases h;refine⟨by simp [g1],fun j key hj=>?_⟩;cases j with
   |zero=>simp at hj;subst hj;exact ho
   |succ j=>rw [shift];exact g2 j key (by simpa using hj)
  ·cases h
  ·rename_i ho;cases h;refine⟨by simp [g1],fun j key hj=>?_⟩;cases j with
   |zero=>simp at hj;subst hj;exact⟨ho,rfl⟩
   |succ j=>rw [shift];exact g2 j key (by simpa using hj)
theorem wY {cf:eC} {nt n0:Nat} {A:aS} {V:ay} {st st1:St} {o:ax} {r:Rec} {O off:Nat} {keys:List ew} (hR:R A V st) (hc:cellOf V o=some (O,off,keys)) (he:bC cf nt n0 o st=some (st1,r)) :
  ∃id xs,r.bI=.ids []/\r.cr=[.nU ⟨id,0,off,keys.length⟩]/\A (.s O)=some (.ptr id 0 0)/\cg r.H0 (some ⟨id,0,off,keys.length⟩)=some xs/\sw A keys xs:=by
 obtain⟨dd,op,gd,fz⟩:=o;unfold cellOf at hc;simp only at hc;split at hc
 ·cases hc
 split at hc
 ·cases hc
 split at hc;rotate_left
 ·cases hc
 rename_i sz a;split at hc;rotate_left
 ·cases hc
 rename_i O' off' qxn;split at hc;rotate_left
 ·cases hc
 rename_i v ovs hv;split at hc;rotate_left
 ·cases hc
 rename_i k0 ks hka;simp only [Option.some.injEq,Prod.mk.injEq] at hc;obtain⟨rfl,rfl,rfl⟩:=hc;obtain⟨hkl,hkk⟩:=rD hka;obtain⟨w,hw,hvr⟩:=hR.env a _ qxn;have hvr:=hvr (fun c bb h=>by cases h);generalize hwe:w=w0 at hvr;cases hvr with
 |@ptr _ _ id hA=>
 subst hwe;have hev:ev st.env (.t a)=.ptr id 0 off':=by simp only [ev,hw]
 have hwt:wanted st.env none=true:=rfl;simp only [bC,hwt,cond_true,dY,cond_false,jG] at he;have hkd:kind (.load sz (.t a))=.plan fun ρ=>gE ρ sz (.t a):=rfl
 simp only [hkd,gE,hev,bD,c5] at he;rw [hkl];cases hf:cg st.H (some ⟨id,0,off',bK sz⟩) with
 |none=>simp only [hf] at he;cases he
 |some cs=>
 have hr:r.bI=.ids []/\r.cr=[.nU ⟨id,0,off',bK sz⟩]/\r.H0=st.H:=by
  simp only [hf,eG] at he;split at he
  ·cases he
  ·rename_i v1 H1 mm cr bI heq;split at he
   ·cases he
   ·cases he;split at heq
    ·rename_i q1 q2;simp only [Option.some.injEq,Prod.mk.injEq] at heq;obtain⟨_,_,_,h4,h5⟩:=heq;refine⟨h5.symm,h4.symm,rfl⟩
    ·cases heq
 obtain⟨g0,g1⟩:=vj hR hv hA hf;refine⟨id,cs,hr.1,hr.2.1,hA,by rw [hr.2.2];exact hf,by simp,by rw [g0,hkl],fun j key x h1 h2=>?_⟩;obtain⟨q1,q2⟩:=g1 j x h2;have h3:=hkk j key h1;cases key with
 |sl N=>exact q1 N h3
 |tr c=>exact fun t ht=>q2 h3.1 t (by rw [←h3.2];exact ht)
open Classical in
def zR (ns:List Nat) (V:ay) (A:aS) (ρ:Nat->Option Nat) (id:Nat):Option Nat:=
 if h:∃T∈ns,∃o a,V.H.get T=some o/\A (.s T)=some a/\cC A o a id then some (Classical.choose h) else ρ id
theorem Cd {ns:List Nat} {V:ay} {A:aS} {st:St} (hR:R A V st) {ρ:Nat->Option Nat} {id T:Nat} {o:VO} {a:AV} (hT:T∈ns) (h1:V.H.get T=some o) (h2:A T=some a) (h3:cC A o a id):zR ns V A ρ id=some T:=by have hh:∃T∈ns,∃o a,V.H.get T=some o/\A (.s T)=some a/\cC A o a id:=⟨T,hT,o,a,h1,h2,h3⟩;unfold zR;rw [dif_pos hh];obtain⟨_,o',a',g1,g2,g3⟩:=Classical.choose_spec hh;congr 1;exact hR.inj _ T _ _ _ _ id g1 h1 g2 h2 g3 h3
theorem zQ {ns:List Nat} {V:ay} {A:aS} {ρ:Nat->Option Nat} {id:Nat} (h:¬∃T∈ns,∃o a,V.H.get T=some o/\A (.s T)=some a/\cC A o a id):zR ns V A ρ id=ρ id:=by unfold zR;rw [dif_neg h]
theorem yf (hsh:mg prog sh) {PP:List (Nat×Nat)} {n0 i:Nat} {rs:List Rec} {A:aS} {V:ay} {st:St} {info:List (Nat×Nat×List Nat)} {ρ:Nat->Option Nat} {feet:List (List Nat×List Nat)} {ahead:List (List Nat)} {cl:List (Nat×Nat×Nat×List ew)}
  {o:ax} {ns:List Nat} {l:List ax} {k:ay->Prop} (hR:R A V st) (hinv:BM (PP≠[]) n0 rs A V st info ρ) (hh:y5 (PP≠[]) n0 ahead rs feet ρ PP) (hcl:tE A rs cl) (hi:rs.length=i) (hn0:n0<=st.nx) (hwd:sy sh V o=some ns) (hnn:(uB V ns&&(we PP||!we l))=true)
  (hk:lO V cl i PP (CF sh prog nt (dz info V) o fun V'=>match (qk V'.H fun T=>ic (dz info V) T||ko T ns)&&(we PP||xO (dz info V) V' feet) with
   |true=>yh l (dz info V) V' (lO (iu V info V') cl i PP (k (iu V info V')))
   |false=>False)) :
  ∃st1 r,bC (aX prog) nt n0 o st=some (st1,r)/\∃W A1 ρ',R A1 W st1/\Fr V A st.H st.nx W A1 st1.H st1.nx/\k W/\st.nx<=st1.nx/\tE A1 (rs++[r]) cl/\
   (l≠[]->BM (PP≠[]) n0 (rs++[r]) A1 W st1 (nE i (ns) info) ρ')/\y5 (PP≠[]) n0 ahead (rs++[r]) (feet++[([],[])]) ρ' PP:=by
 obtain⟨hk,qzW⟩:=lN hcl.ne hk;rw [Lm] at hnn;obtain⟨hnn,hnl⟩:=hnn;have hnl:PP≠[]->l≠[]:=fun hP hl=>by
  subst hl;cases PP with
  |nil=>exact hP rfl
  |cons p PP=>cases hnl
 have qxi:∀O o a id,(dz info V).H.get O=some o->A O=some a->cC A o a id->id < n0:=by
  intro O o a id ho ha hid;obtain⟨hn,ho'⟩:=bT ho;rcases hinv.known O o a id ho' ha hid with h|⟨c,hc,_⟩
  ·exact h
  ·rw [kX hn] at hc;cases hc
 obtain⟨he,hu⟩:=pK info V;have hR0:R A (dz info V) ⟨st.env,st.H.upto fun i=>Nat.blt i n0,st.nx⟩:=by
  refine⟨fun t e h=>hR.env t e (by rw [←he];exact h),fun O o ho=>?_,fun O O' o o' a a' id h1 h2=>hR.inj O O' o o' a a' id (bT h1).2 (bT h2).2,fun O h=>hR.used O (by rw [←hu];exact h),hR.one,fun id o h=>?_,fun O o a ho ha=>hR.dO O o a (bT ho).2 ha⟩
  ·obtain⟨a,ha,hor⟩:=hR.heap O o (bT ho).2;refine⟨a,ha,hor.mono (fun _ _ h=>h) (fun id hid=>?_)⟩;have:=qxi O o a id ho ha hid;show (Map.upto st.H _).get id=_;rw [Map.eY,if_pos (by simpa using this)]
  ·have h':(Map.upto st.H fun i=>Nat.blt i n0).get id=some o:=h;rw [Map.eY] at h';split at h'
   ·exact hR.fresh id o h'
   ·cases h'
 have hW:Ez prog nt n0 o A (dz info V) st fun V'=>match (qk V'.H fun T=>ic (dz info V) T||ko T ns)&&(we PP||xO (dz info V) V' feet) with
   |true=>yh l (dz info V) V' (lO (iu V info V') cl i PP (k (iu V info V')))
   |false=>False:=by
  rcases tI hwd with ⟨d,f,args,rfl⟩|⟨d,f,args,rfl⟩
  ·exact vD hsh hR0 hk
  ·exact tH hR0 hk
 obtain⟨H',nx',e',H2,cr,bI,V1,A1,qjt,qzZ,hR1,hF,hx,hk1,hrt,qjn,qzJ⟩:=hW;have hle:st.nx<=nx':=hF.le
 let P:Nat->Bool:=fun i=>Nat.blt i n0||(Nat.ble st.nx i&&Nat.blt i nx')
 have hP:∀i,P i=true↔(i < n0\/(st.nx<=i/\i < nx')):=fun i=>by show (Nat.blt i n0||(Nat.ble st.nx i&&Nat.blt i nx'))=true↔_;simp
 have qq9:∀id,H2.get id=if P id=true then H'.get id else st.H.get id:=by
  intro id;rw [qzZ];by_cases h:P id=true
  ·rw [if_pos ((hP id).1 h),if_pos h]
  ·rw [if_neg (fun hc=>h ((hP id).2 hc)),if_neg h]
 have qxe:∀id,bN V1 A1 id->P id=true:=by
  intro id ho;rw [hP];have hlt:=hR1.eg ho;rcases hF.own id ho with ⟨O,o,a,h1,h2,h3⟩|h
  ·exact .inl (qxi O o a id h1 h2 h3)
  ·exact .inr ⟨h,hlt⟩
 have hR2:R A1 V1 ⟨e',H2,nx'⟩:=by
  refine⟨hR1.env,fun O o ho=>?_,hR1.inj,hR1.used,hR1.one,fun id o h=>?_,hR1.dO⟩
  ·obtain⟨a,ha,hor⟩:=hR1.heap O o ho;refine⟨a,ha,hor.mono (fun _ _ h=>h) (fun id hid=>?_)⟩;rw [show (⟨e',H2,nx'⟩:St).H.get id=_ from qq9 id,if_pos (qxe id ⟨O,o,a,ho,ha,hid⟩)]
  ·have h':H2.get id=some o:=h;rw [qq9] at h';split at h'
   ·exact hR1.fresh id o h'
   ·exact Lv (hR.fresh id o h') hle
 split at hk1;rotate_left
 ·cases hk1
 rename_i hall;rw [Lm] at hall;obtain⟨hall,qxf⟩:=hall;have qxf:PP≠[]->xO (dz info V) V1 feet=true:=fun hP=>by
  cases PP with
  |nil=>exact absurd rfl hP
  |cons p PP=>exact qxf
 obtain⟨hk1,hsm⟩:=xe hk1;obtain⟨hk1,qzV⟩:=lN hcl.ne hk1;have hkeys:∀T o,V1.H.get T=some o->(∃o',(dz info V).H.get T=some o')\/T∈ns:=by intro T o hT;have:=iB _ _ hall T o hT;rw [Ln] at this;exact this.imp eX.1 fR.1
 obtain⟨g1,g2,g3,g4,g5⟩:=iq (V1:=V1) (st1:=⟨e',H2,nx'⟩) (qxo:=info) hR hx.mono (fun T o a id hT ho ha hid=>by
   show H2.get id=_;rw [qq9];split
   ·rename_i hPi;have hown:bN V A id:=⟨T,o,a,ho,ha,hid⟩;have hlt:=hR.eg hown;have h0:id < n0:=by rcases(hP id).1 hPi with h|h<;>omega
    have hno:¬bN (dz info V) A id:=fun ⟨O,o',a',h1,h2,h3⟩=>by obtain⟨hn,h1'⟩:=bT h1;have:=hR.inj O T o' o a' a id h1' ho h2 ha h3 hid;subst this;exact hn hT
    have:=hF.same id hlt hno;rw [this];show (Map.upto st.H _).get id=_;rw [Map.eY,if_pos (by simpa using h0)]
   ·rfl) (fun id ho=>hF.own id ho) info V1 (fun _ h=>h) hR2 (fun O o h=>.inl h)
 have qzY:∀(c:Nat) a,rs[c]?=some a->(rs++[(⟨cr,bI,st.H,H2,st.nx,nx'⟩:Rec)])[c]?=some a:=fun c a hc=>by rw [KZ (KY.1 hc).1];exact hc
 have qzp:(rs++[(⟨cr,bI,st.H,H2,st.nx,nx'⟩:Rec)])[i]?=some ⟨cr,bI,st.H,H2,st.nx,nx'⟩:=by rw [K3 (by omega),hi,Nat.sub_self];rfl
 have hpw:∀p∈PP,(p.1=i\/p.2=i)->fL (rs++[(⟨cr,bI,st.H,H2,st.nx,nx'⟩:Rec)]) p=true:=fun p hp hpi=>by obtain⟨q1,q2⟩:=qzW p hp;have hp2:p.2=i:=hpi.elim (fun e=>absurd e q1) (fun e=>e);obtain⟨O,off,key,q3,q4⟩:=q2 hp2;obtain⟨O',off',key',q5,q6⟩:=(qzV p hp).2 hp2;rw [q3] at q5;cases q5;obtain⟨r0,id,x,w1,w2,w3,w4,w5,w6⟩:=hcl _ _ _ _ (mX q3);have f0:=xI hR q4 w4 w6;have f1:=xI g1 q6 (hx.mono _ _ w4) (w6.mono hx.mono);unfold fL;rw [qzY _ _ w1,hp2,qzp];exact DN w2 w3 qjn qzJ f0 f1 w5
 have hap:∀id q,PP≠[]->ρ id=some q->(∃T∈ns,∃o a,V1.H.get T=some o/\A1 T=some a/\cC A1 o a id)->∀f∈feet,q ∉ f.1/\q ∉ f.2:=by
  intro id q hP hq ⟨T,hT,o,a,h1,h2,h3⟩;rcases hF.own id ⟨T,o,a,h1,h2,h3⟩ with ⟨O',o',a',h6,h7,h8⟩|h
  ·obtain⟨hn,h6'⟩:=bT h6;have qxK:=hinv.root hP O' o' a' id h6' h7 h8;rw [kX hn,hq] at qxK;have hqO:q=O':=by simpa using qxK
   subst hqO;have:=iB _ _ (qxf hP) q o' h6;rw [Ln] at this;rcases this with h|h
   ·rw [h6,Lm] at h;obtain⟨hpl,h⟩:=h;obtain⟨o2,h9⟩:=eX.1 h;have hA1:=hx.mono _ _ h7;have h11:=hR1.heap q o2 h9;obtain⟨a2,h12,_⟩:=h11;rw [hA1] at h12;cases h12;have h13:cC A1 o2 a' id:=.inl ((bQ hpl).1 h8);have:=hR1.inj T q o o2 a a' id h1 h9 h2 hA1 h3 h13;subst this;have:=j4 hnn T hT;rw [this] at h6';cases h6'
   ·intro f hf;have:=aF.1 h f hf;simp only [Lm,Lp] at this;exact⟨fun hm=>Bool.false_ne_true (this.1.symm.trans (fR.2 hm)),fun hm=>Bool.false_ne_true (this.2.symm.trans (fR.2 hm))⟩
  ·have:=hinv.dom id q hq;omega
 let ρ':Nat->Option Nat:=zR ns V1 A1 ρ
 have hρ1:∀id T,T∈ns->(∃o a,V1.H.get T=some o/\A1 T=some a/\cC A1 o a id)->ρ' id=some T:=fun id T hT ⟨o,a,h1,h2,h3⟩=>Cd hR1 hT h1 h2 h3
 have hρ0:∀id,¬(∃T∈ns,∃o a,V1.H.get T=some o/\A1 T=some a/\cC A1 o a id)->ρ' id=ρ id:=fun id h=>zQ h
 have qjm:∀r f,PP≠[]->f∈feet->qm ρ r f->qm ρ' r f:=by
  intro r f hP hf ⟨h1,l0,h2,h3⟩;refine⟨fun x hx0=>?_,l0,h2,fun id hid=>?_⟩
  ·obtain⟨id,h4,q,h5,h6⟩:=h1 x hx0;refine⟨id,h4,q,?_,h6⟩;rw [hρ0 id (fun hc=>(hap id q hP h5 hc f hf).1 h6)];exact h5
  ·obtain⟨q,h5,h6⟩:=h3 id hid;refine⟨q,?_,h6⟩;rw [hρ0 id (fun hc=>(hap id q hP h5 hc f hf).2 h6)];exact h5
 refine⟨⟨e',H2,nx'⟩,⟨cr,bI,st.H,H2,st.nx,nx'⟩,?_,_,A1,ρ',g1,⟨hle,fun id hid hno=>?_,fun id ho=>?_⟩,hk1,hle,hcl.mono hx.mono,fun hl=>⟨fun T o a id ho ha hid=>?_,fun hP T o a id ho ha hid=>?_,fun id q h=>?_⟩,
  ⟨by simp [hh.len],fun hP c r' f' hr hf=>?_,fun c r' ah' hr ha' rs' qzF=>?_⟩⟩
 ·exact qjt
 ·show H2.get id=_;rw [qq9];split
  ·rename_i hPi;have h0:id < n0:=by rcases(hP id).1 hPi with h|h<;>omega
   have:=hF.same id hid (fun ⟨O,o,a,h1,h2,h3⟩=>hno ⟨O,o,a,(bT h1).2,h2,h3⟩);rw [this];show (Map.upto st.H _).get id=_;rw [Map.eY,if_pos (by simpa using h0)]
  ·rfl
 ·obtain⟨O,o,a,h1,h2,h3⟩:=ho;rcases g4 O o h1 with h4|⟨h4,h5,hpl⟩
  ·rcases hF.own id ⟨O,o,a,h4,h2,h3⟩ with ⟨O',o',a',h6,h7,h8⟩|h
   ·exact .inl ⟨O',o',a',(bT h6).2,h7,h8⟩
   ·exact .inr h
  ·obtain⟨a',h6,_⟩:=hR.heap O o h5;have:=hx.mono _ _ h6;rw [h2] at this;cases this;exact .inl ⟨O,o,a,h5,h6,(bQ hpl).2 ((bQ hpl).1 h3)⟩
 ·have hold:∀(c:Nat) a,rs[c]?=some a->(rs++[(⟨cr,bI,st.H,H2,st.nx,nx'⟩:Rec)])[c]?=some a:=fun c a hc=>by rw [KZ (KY.1 hc).1];exact hc
  have qx3:(rs++[(⟨cr,bI,st.H,H2,st.nx,nx'⟩:Rec)])[i]?=some ⟨cr,bI,st.H,H2,st.nx,nx'⟩:=by rw [K3 (by omega),hi,Nat.sub_self];rfl
  rcases g4 T o ho with h4|⟨h4,h5,hpl⟩
  ·by_cases hT:T∈ns
   ·rw [o6 hT];rcases hF.own id ⟨T,o,a,h4,ha,hid⟩ with ⟨O',o',a',h6,h7,h8⟩|h
    ·exact .inl (qxi O' o' a' id h6 h7 h8)
    ·exact .inr ⟨i,by simp,_,qx3,h,hR1.eg ⟨T,o,a,h4,ha,hid⟩⟩
   ·rcases hkeys T o h4 with ⟨o',h6⟩|h6
    ·obtain⟨a',h7,_⟩:=hR.heap T o' (bT h6).2;have:=hx.mono _ _ h7;rw [ha] at this;cases this;exact .inl (qxi T o' a id h6 h7 (lR hR0 hx (hsm hl) h6 h4 h7 hid))
    ·exact absurd h6 hT
  ·have hT:T ∉ ns:=fun hm=>by have:=j4 hnn T hm;rw [this] at h5;cases h5
   rw [j6 hT];obtain⟨a',h6,_⟩:=hR.heap T o h5;have:=hx.mono _ _ h6;rw [ha] at this;cases this;exact(hinv.known T o a id h5 h6 ((bQ hpl).2 ((bQ hpl).1 hid))).imp (fun h=>h) (fun ⟨c,h2,r2,h3,h4⟩=>⟨c,h2,r2,hold c r2 h3,h4⟩)
 ·rcases g4 T o ho with h4|⟨h4,h5,hpl⟩
  ·by_cases hT:T∈ns
   ·rw [o6 hT];exact hρ1 id T hT ⟨o,a,h4,ha,hid⟩
   ·rw [j6 hT];rcases hkeys T o h4 with ⟨o',h6⟩|h6
    ·obtain⟨a',h7,_⟩:=hR.heap T o' (bT h6).2;have:=hx.mono _ _ h7;rw [ha] at this;cases this;rw [hρ0 id (fun ⟨T2,hT2,o2,a2,h8,h9,h10⟩=>by have:=hR1.inj T2 T o2 o a2 a id h8 h4 h9 ha h10 hid;subst this;exact hT hT2)]
     exact hinv.root hP T o' a id (bT h6).2 h7 (lR hR0 hx (hsm hl) h6 h4 h7 hid)
    ·exact absurd h6 hT
  ·have hT:T ∉ ns:=fun hm=>by have:=j4 hnn T hm;rw [this] at h5;cases h5
   rw [j6 hT];obtain⟨a',h6,_⟩:=hR.heap T o h5;have:=hx.mono _ _ h6;rw [ha] at this;cases this;rw [hρ0 id (fun ⟨T2,hT2,o2,a2,h8,h9,h10⟩=>by have:=g1.inj T2 T o2 o a2 a id (g5 _ _ h8) ho h9 ha h10 hid;subst this;exact hT hT2)]
   exact hinv.root hP T o a id h5 h6 ((bQ hpl).2 ((bQ hpl).1 hid))
 ·by_cases hc:∃T∈ns,∃o a,V1.H.get T=some o/\A1 T=some a/\cC A1 o a id
  ·obtain⟨T,hT,o,a,h1,h2,h3⟩:=hc;exact hR1.eg ⟨T,o,a,h1,h2,h3⟩
  ·have h':ρ' id=some q:=h;rw [hρ0 id hc] at h';exact Lv (hinv.dom id q h') hle
 ·by_cases hc:c < rs.length
  ·rw [KZ hc] at hr;rw [KZ (by rw [hh.len];exact hc)] at hf;exact(hh.Ce hP c r' f' hr hf).imp (fun h=>qjm r' f' hP (K8 hf) h) (fun h p hp hc=>oI (h p hp hc))
  ·have hce:c=rs.length:=by have:=(KY.1 hr).1;simp at this;omega
   exact .inr fun p hp hpc=>hpw p hp (by rw [←hi,←hce];exact hpc)
 ·by_cases hc:c < rs.length
  ·rw [KZ hc] at hr;exact hh.known c r' ah' hr ha' rs' (fun j a hj=>qzF j a (by rw [KZ (KY.1 hj).1];exact hj))
  ·have hce:c=rs.length:=by have:=(KY.1 hr).1;simp at this;omega
   subst hce;rw [K3 (LB _),Nat.sub_self] at hr;cases hr;exact hrt rs' ah'
theorem s8 (hsh:mg prog sh) {ahead:List (List Nat)} {pairs:List (Nat×Nat)} {n0:Nat}:∀(ops:List ax) (i:Nat) (V:ay) (A:aS) (st:St) (info:List (Nat×Nat×List Nat)) (feet:List (List Nat×List Nat)) (cl:List (Nat×Nat×Nat×List ew)) (rs:List Rec) (ρ:Nat->Option Nat) (k:ay->Prop),
  R A V st->(ops≠[]->BM (pairs≠[]) n0 rs A V st info ρ)->y5 (pairs≠[]) n0 ahead rs feet ρ pairs->tE A rs cl->rs.length=i->n0<=st.nx->CH sh prog nt ahead pairs ops i V info feet cl k->
  ∃st' l,dw (aX prog) nt n0 ops st=some (st',l)/\fT n0 (rs++l) ahead (rs++l)=true/\bn (fL (rs++l)) pairs=true/\∃V' A',R A' V' st'/\Fr V A st.H st.nx V' A' st'.H st'.nx/\k V'
 |[],i,V,A,st,info,feet,cl,rs,ρ,k,hR,hinv,hh,hcl,hi,hn,hk=>by
  simp only [CH] at hk;split at hk
  ·rename_i hb;rw [Lm,Lq] at hb;refine⟨st,[],rfl,?_,?_,V,A,hR,Fr.refl _ _ _ _,hk⟩
   ·rw [List.append_nil];exact nC ahead rs (by rw [hb.1,hi]) (fun c r ah hr ha=>hh.known c r ah hr ha rs (fun _ _ h=>h))
   ·rw [List.append_nil];exact uk hh (fun _ h=>h) (fun h=>h) hb.2
  ·cases hk
 |o::l,i,V,A,st,info,feet,cl,rs,ρ,k,hR,hinv,hh,hcl,hi,hn,hk=>by
  rw [CH] at hk;split at hk
  ·rename_i ns hso;split at hk;rotate_left
   ·cases hk
   rename_i hnn;obtain⟨st1,r,g1,W,A1,ρ',g2,g3,g4,g5,g8,g6,g7⟩:=yf (l:=l) (k:=fun W=>CH sh prog nt ahead pairs l (i+1) W (nE i ns info) (feet++[([],[])]) cl k) hsh hR (hinv (by simp)) hh hcl hi hn hso hnn hk;obtain⟨st2,l2,q1,q2,q3,V2,A2,q4,q5,q6⟩:=s8 hsh l (i+1) W A1 st1 _ _ cl (rs++[r]) ρ' k g2 g6 g7 g8 (by simp [hi]) (Lz hn g5) g4;refine⟨st2,r::l2,by simp only [dw,g1,q1],?_,?_,V2,A2,q4,g3.trans q5,q6⟩
   ·rwa [List.append_assoc] at q2
   ·rwa [List.append_assoc] at q3
  have hk':CF sh prog nt V o fun V'=>match sY V o with
   |none=>False
   |some f=>match ahead[i]? with
    |none=>False
    |some ah=>match ij info ah (f.rd++f.wr) with
     |false=>False
     |true=>match qt o.dst i V V' f info with
      |none=>False
      |some info'=>yh l V V' (CH sh prog nt ahead pairs l (i+1) V' info' (feet++[(gz info f.rd,gz info f.wr)]) (CY V o i pairs cl) k):=hk
  obtain⟨st1,h1,V1,A1,h2,h3,hx,h4⟩:=xV hsh hR hk';split at h4
  ·cases h4
  rename_i f hf;split at h4
  ·cases h4
  rename_i ah hah;split at h4
  ·cases h4
  rename_i hch;split at h4
  ·cases h4
  rename_i info' hs;obtain⟨h4,hsm⟩:=xe h4;obtain⟨r,g1,g2,g3,g4⟩:=CE hR hk' hf h1 n0;obtain⟨ρ',p1,p2⟩:=zp hR h2 h3 hx (hinv (by simp)) hh hi g2 g3 g4 hah hch hs;have qjv:tE A1 (rs++[r]) (CY V o i pairs cl):=by
   have h0:=hcl.mono (r:=r) hx.mono;unfold CY;split
   ·exact h0
   ·split
    ·rename_i p hp;intro c O off key hm;rcases Lh.1 hm with he|hm
     ·cases he;obtain⟨id,x,w1,w2,w3,w4,w5⟩:=wY hR hp g1;exact⟨r,id,x,(by rw [K3 (by omega),hi,Nat.sub_self];rfl),w1,w2,hx.mono _ _ w3,w4,w5.mono hx.mono⟩
     ·exact h0 c O off key hm
    ·exact h0
  obtain⟨st2,l2,q1,q2,q3,V2,A2,q4,q5,q6⟩:=s8 hsh l (i+1) V1 A1 st1 info' _ _ (rs++[r]) ρ' k h2 (fun hl=>p1 (hsm hl)) p2 qjv (by simp [hi]) (Lz hn h3.le) h4;refine⟨st2,r::l2,by simp only [dw,g1,q1],?_,?_,V2,A2,q4,h3.trans q5,q6⟩
  ·rwa [List.append_assoc] at q2
  ·rwa [List.append_assoc] at q3
open Classical in
def tZ (V:ay) (A:aS) (id:Nat):Option Nat:=if h:∃(T:Nat) (o:VO) (a:AV),V.H.get T=some o/\A T=some a/\cC A o a id then some (Classical.choose h) else none
theorem vS {V:ay} {A:aS} {id q:Nat} (h:tZ V A id=some q):∃o a,V.H.get q=some o/\A q=some a/\cC A o a id:=by
 unfold tZ at h;split at h
 ·rename_i hh;cases h;exact Classical.choose_spec hh
 ·cases h
theorem zP {V:ay} {A:aS} {st:St} (hR:R A V st) {id T:Nat} {o:VO} {a:AV} (h1:V.H.get T=some o) (h2:A T=some a) (h3:cC A o a id):tZ V A id=some T:=by have hh:∃(T:Nat) (o:VO) (a:AV),V.H.get T=some o/\A T=some a/\cC A o a id:=⟨T,o,a,h1,h2,h3⟩;unfold tZ;rw [dif_pos hh];obtain⟨o',a',g1,g2,g3⟩:=Classical.choose_spec hh;congr 1;exact hR.inj _ T _ _ _ _ id g1 h1 g2 h2 g3 h3
theorem CG (hsh:mg prog sh) {A:aS} {V:ay} {st:St} {k:ay->Prop} {ops:List ax} {ahead:List (List Nat)} {pairs:List (Nat×Nat)} (hR:R A V st) (hk:CH sh prog nt ahead pairs ops 0 V [] [] [] k) :
  ∃st',c6 (aX prog) nt ops ahead pairs st=some st'/\∃V' A',R A' V' st'/\Fr V A st.H st.nx V' A' st'.H st'.nx/\k V':=by
 have own:∀T o a id,V.H.get T=some o->A T=some a->cC A o a id->bN V A id:=fun T o a id h1 h2 h3=>⟨T,o,a,h1,h2,h3⟩
 obtain⟨st',l,h1,h2,h3,V',A',h4,h5,h6⟩:=s8 hsh (n0:=st.nx) ops 0 V A st [] [] [] [] (tZ V A) k hR (fun _=>⟨fun T o a id g1 g2 g3=>.inl (hR.eg (own T o a id g1 g2 g3)),fun _ T o a id g1 g2 g3=>zP hR g1 g2 g3,fun id q hq=>by obtain⟨o',a',g1,g2,g3⟩:=vS hq;exact hR.eg (own _ _ _ _ g1 g2 g3)⟩) ⟨rfl,fun _ c r f hr=>by simp at hr,fun c r ah hr=>by simp at hr⟩ (fun _ _ _ _ hm=>by cases hm) rfl (LB _) hk
 rw [List.nil_append] at h2 h3;exact⟨st',by simp only [c6,h1,h2,h3,Bool.and_self,cond_true],V',A',h4,h5,h6⟩
end
end Go.Ax.V
namespace Go.Ax.V
def _root_.Go.Ax.V.b9.ok:b9->Bool
 |.seq a b=>a.ok&&b.ok
 |.cond _ a b=>a.ok&&b.ok
 |.block _ c=>c.ok
 |.loop J c=>J.all jF&&c.ok
 |.join J c=>J.all jF&&c.ok
 |_=>true
section
variable {sh:Sh} {prog:Map aq} {nt:Nat}
theorem Fq {A:aS} {V:ay} {st:St} (hR:R A V st) {O:Nat} {o o':VO} (ho:V.H.get O=some o) (hpl:o.pl=true) (qzf:o'.pl=true) (hor:∀a,A O=some a->OR A st.H o a->OR A st.H o' a) :
  R A (aW V O o') st/\Fr V A st.H st.nx (aW V O o') A st.H st.nx:=by
 have get':∀{O2:Nat} {o2:VO},(aW V O o').H.get O2=some o2->∃o3,V.H.get O2=some o3/\(∀a id,cC A o2 a id->cC A o3 a id)/\(∀a,A O2=some a->OR A st.H o3 a->OR A st.H o2 a)/\(∀a,e8 A O2 a o3->e8 A O2 a o2):=by
  intro O2 o2 h;simp only [aW,Map.au] at h;split at h
  ·rename_i e;subst e;cases h;exact⟨o,ho,fun a id hi=>.inl ((bQ qzf).1 hi),hor,fun _ _=>kH qzf⟩
  ·exact⟨o2,h,fun _ _ h=>h,fun _ _ h=>h,fun _ h=>h⟩
 refine⟨⟨hR.env,fun O2 o2 h=>?_,fun O1 O2 o1 o2 a1 a2 id h1 h2 g1 g2 i1 i2=>?_,hR.used,hR.one,hR.fresh,fun O2 o2 a h ha=>?_⟩,⟨LB _,fun _ _ _=>rfl,fun id ⟨O2,o2,a,h,ha,hid⟩=>?_⟩⟩
 ·obtain⟨o3,h1,h2,h3,_⟩:=get' h;obtain⟨a,ha,hr⟩:=hR.heap O2 o3 h1;exact⟨a,ha,h3 a ha hr⟩
 ·obtain⟨o3,h3,h4,_⟩:=get' h1;obtain⟨o4,h5,h6,_⟩:=get' h2;exact hR.inj O1 O2 o3 o4 a1 a2 id h3 h5 g1 g2 (h4 _ _ i1) (h6 _ _ i2)
 ·obtain⟨o3,h1,_,_,h4⟩:=get' h;exact h4 a (hR.dO O2 o3 a h1 ha)
 ·obtain⟨o3,h1,h2,_⟩:=get' h;exact .inl ⟨O2,o3,a,h1,ha,h2 _ _ hid⟩
theorem uj {A:aS} {st:St} {k:ay->Prop}:∀{l:List (Nat×Nat)} {V:ay},R A V st->Ch l V k->∃V',R A V' st/\Fr V A st.H st.nx V' A st.H st.nx/\k V'
 |[],V,hR,h=>⟨V,hR,Fr.refl _ _ _ _,h⟩
 |(O,off)::l,V,hR,h=>by
  simp only [Ch] at h;split at h;rotate_left
  ·cases h
  rename_i v ovs hv;split at h;rotate_left
  ·cases h
  rename_i hov;obtain⟨t,h1,h2,h3⟩:=h;obtain⟨t0,h4,h5⟩:=oa h1;obtain⟨ts0,h6,h7⟩:=eJ h4;obtain⟨a,ha,id,cs,ts,rfl,hH,hc⟩:=hR.heap O _ hv;have:=hc.cells.symm.trans h6;cases this;have hlt:off < cs.length:=by rw [←hc.len];exact(KY.1 h7).1
  have hx:cs[off]?=some cs[off]:=KX hlt;have hat:=hc.at_ off t0 _ h7 hx;rw [hov] at hat;have hcan:Can t cs[off]:=h5 _ hat.1;have hrow:zO cs[off]=true:=by
   cases t with
   |l es=>generalize cs[off]=y at hcan;cases hcan<;>rfl
   |_=>cases h2
  obtain⟨v',h8,h9⟩:=h3 cs[off];obtain⟨g1,g2⟩:=Fq hR (o':=.ob v' ovs) hv rfl rfl (fun a' ha' hor=>by
   obtain⟨id2,cs2,ts2,rfl,hH2,hc2⟩:=hor;rw [ha] at ha';cases ha';rw [hH] at hH2;cases hH2;have:=hc.cells.symm.trans hc2.cells;cases this;obtain⟨ts',xs,us,e1,e2,e3,e4,e5,e6,e7⟩:=bx h8;have:=hc.cells.symm.trans e1;cases this;refine⟨id,cs,us,rfl,hH,⟨e4,by rw [e5];exact hc.len,fun j w hj=>by rw [e5];exact hc.keys j w hj,fun j u y hu hy=>?_⟩⟩;rw [e7 j] at hu;split at hu
   ·rename_i hj;have hjo:j=off:=by omega
    subst hjo;have hxs:xs=[.nM cs[j] t]:=by have:br (.nM cs[j] t)=some [.nM cs[j] t]:=rfl;rw [e2] at this;exact Ly this
    rw [hxs] at hu;simp at hu;subst hu;rw [hx] at hy;cases hy;rw [hov];exact⟨.nM _ _ hrow hcan,hat.2⟩
   ·exact hc.at_ j u y hu hy)
  obtain⟨V',q1,q2,q3⟩:=uj g1 h9;exact⟨V',q1,g2.trans q2,q3⟩
theorem xX (hsh:mg prog sh):∀(c:b9) (V:ay) (A:aS) (st:St) (k:bU->ay->Prop),c.ok=true->R A V st->za sh prog nt c V k->
  WC (aX prog) (bp prog) nt c.code st (fun x st'=>∃V' A',R A' V' st'/\Fr V A st.H st.nx V' A' st'.H st'.nx/\k x V'):=by
 intro c
 induction c with
 |skip=>intro V A st k _ hR h;exact BW ⟨V,A,hR,Fr.refl _ _ _ _,h⟩
 |exit id=>intro V A st k _ hR h;exact BY ⟨V,A,hR,Fr.refl _ _ _ _,h⟩
 |ret=>intro V A st k _ hR h;exact Ds ⟨V,A,hR,Fr.refl _ _ _ _,h⟩
 |aP ops ahead pairs=>intro V A st k _ hR h;obtain⟨V1,hR1,hF1,h⟩:=uj hR h;obtain⟨st',h1,V',A',h2,h3,h4⟩:=CG hsh hR1 h;exact BZ h1 ⟨V',A',h2,hF1.trans h3,h4⟩
 |aa ops=>intro V A st k _ hR h;obtain⟨st',h1,V',A',h2,h3,_,h4⟩:=u5 hsh hR h;exact Dt ⟨st',h1,V',A',h2,h3,h4⟩
 |seq a b iha ihb=>
  intro V A st k hok hR h;simp only [b9.ok,Lm] at hok;refine Dr (jT (iha V A st _ hok.1 hR h) ?_);rintro x st' ⟨V',A',h1,h2,h3⟩;cases x with
  |normal=>refine jT (ihb V' A' st' k hok.2 h1 h3) ?_;rintro y st2 ⟨V2,A2,g1,g2,g3⟩;exact⟨V2,A2,g1,h2.trans g2,g3⟩
  |exit i=>exact⟨V',A',h1,h2,h3⟩
  |ret=>exact⟨V',A',h1,h2,h3⟩
 |cond c a b iha ihb=>
  intro V A st k hok hR h;simp only [b9.ok,Lm] at hok;obtain⟨cv,hc,h⟩:=bz (g:=none) hR trivial h;unfold jH at h;split at h
  ·rename_i x;generalize he:ev st.env c=p at hc;cases hc;cases x with
   |true=>exact sB he (iha V A st k hok.1 hR h)
   |false=>exact qc he (ihb V A st k hok.2 hR h)
  ·cases h
 |block id c ih=>
  intro V A st k hok hR h;refine zj (jT (ih V A st _ hok hR h) ?_);rintro x st' ⟨V',A',h1,h2,h3⟩;cases x with
  |normal=>exact⟨V',A',h1,h2,h3⟩
  |ret=>exact⟨V',A',h1,h2,h3⟩
  |exit i=>
   simp only [w9];simp only [cond_eq_ite,Lq] at h3;by_cases hi:i=id
   ·rw [if_pos hi] at h3 ⊢;exact⟨V',A',h1,h2,h3⟩
   ·rw [if_neg hi] at h3 ⊢;exact⟨V',A',h1,h2,h3⟩
 |loop J c ih=>
  intro V A st k hok hR h;simp only [b9.ok,Lm] at hok;obtain⟨I,⟨n,h1⟩,h2⟩:=h;refine BX (fun (n:Nat) st1=>∃V1 A1,R A1 V1 st1/\Fr V A st.H st.nx V1 A1 st1.H st1.nx/\nL J V1 (I n)) (fun n=>n) ?_ n st ⟨V,A,hR,Fr.refl _ _ _ _,h1⟩;rintro m st1 ⟨V1,A1,g1,g2,g3⟩;obtain⟨Vc,A2,p1,p2,p3⟩:=uF g1 hok.1 g3 (h2 m);refine jT (ih Vc A2 st1 _ hok.2 p2 p1) ?_;rintro x st2 ⟨V2,A3,q1,q2,q3⟩;have hfr:=g2.trans (p3.trans q2);cases x with
  |normal=>obtain⟨m',hm,q3⟩:=q3;exact⟨m',hm,V2,A3,q1,hfr,q3⟩
  |exit i=>exact⟨V2,A3,q1,hfr,q3⟩
  |ret=>exact⟨V2,A3,q1,hfr,q3⟩
 |join J c ih=>
  intro V A st k hok hR h;simp only [b9.ok,Lm] at hok;obtain⟨I,h1,h2⟩:=h;refine jT (ih V A st _ hok.2 hR h1) ?_;rintro x st' ⟨V',A',g1,g2,g3⟩;cases x with
  |normal=>obtain⟨Vc,A2,p1,p2,p3⟩:=uF g1 hok.1 g3 h2;exact⟨Vc,A2,p2,g2.trans p3,p1⟩
  |exit i=>exact⟨V',A',g1,g2,g3⟩
  |ret=>exact⟨V',A',g1,g2,g3⟩
theorem uN {A:aS} {H:aE} {nx:Nat}:∀(ts:List TV) (as:List AV) (i:Nat) (V:ay) (e:Env),ep ts as->R A V ⟨e,H,nx⟩->R A (A4 ts i V) ⟨cW as i e,H,nx⟩
 |[],as,i,V,e,hc,hR=>by have:as=[]:=Lw.1 hc.1.symm;subst this;exact hR
 |t::ts,[],i,V,e,hc,hR=>by cases hc.1
 |t::ts,a::as,i,V,e,hc,hR=>by refine uN ts as (i+1) _ _ ⟨Nat.succ.inj hc.1,fun j u x hu hx=>hc.2 (j+1) u x hu hx⟩ ?_;exact hR.put (e:=⟨none,.tr t⟩) (v:=a) (fun _=>.tr (hc.2 0 t a rfl rfl))
theorem oA {A:aS} {V:ay} {st:St} (hR:R A V st) {r:nk} {k:TV->Prop} (h:nV V r k) (d:Nat):∃v t a,gM st.env st.H r=some v/\aL (d+4) st.H v=some a/\Can t a/\k t:=by
 cases r with
 |tmp t=>simp only [nV] at h;obtain⟨w,hw,h⟩:=bq (g:=none) hR trivial h;obtain⟨t',a,h1,h2,h3,h4⟩:=k_ hR hw h d;exact⟨_,t',a,rfl,h1,h2,h4⟩
 |cell t sz=>
  simp only [nV] at h;obtain⟨w,hw,h⟩:=bq (g:=none) hR trivial h;generalize he:ev st.env (.t t)=p at hw;cases hw with
  |@ptr O off id hO=>
   simp only at h;split at h;rotate_left
   ·cases h
   rename_i v ovs ho;obtain⟨y,hy,id',cs,ts,rfl,hH,hc⟩:=hR.heap O _ ho;rw [hO] at hy;cases hy;have fin:∀{l:List AV} {v' t' a:_},cut cs off (bK sz)=some l->xB sz l=some v'->aL (d+4) st.H v'=some a->Can t' a->k t'->∃v t_1 a,gM st.env st.H (.cell t sz)=some v/\aL (d+4) st.H v=some a/\Can t_1 a/\k t_1:=by intro l v' t' a h1 h2 h3 h4 h5;refine⟨v',t',a,?_,h3,h4,h5⟩;simp only [gM,he,cg,hH,cond_eq_ite,Lq,if_pos,h1];exact h2
   split at h
   ·split at h
    ·rename_i w hw;have hlt:=hc.keys _ _ hw;have hx:cs[off]?=some (cs[off]'(by rw [←hc.len];exact hlt)):=KX _;have hs:=hc.at_ off _ _ (KX hlt) hx;rw [hw] at hs;obtain⟨es,a',g1,g2,g3,g4,g5⟩:=lg hR hs h (d+1);exact fin (jK hx) rfl g1 g2 g5
    ·rename_i ho';obtain⟨u,h1,h2⟩:=h;obtain⟨x,h3,h4,h5⟩:=l8 hc h1 ho';exact fin h3 rfl (jv h5 _ _) h4 h2
   ·rename_i n;obtain⟨u,h1,h2⟩:=h;obtain⟨l,ls,h3,h4,h5⟩:=fG hc h1;obtain⟨u',us,cs',g1,g2,g3,g4,g5,g6⟩:=m6 hR h5 h2 d;obtain⟨l',rfl⟩:=g5 _ h4;cases g2;exact fin h3 rfl (by rw [dV,g1]) (.a _ _ g3.1.1 g3.2 g3.1.2) g4
  |_=>cases h
theorem oB {A:aS} {V:ay} {st:St} (hR:R A V st) (d:Nat):∀(rs:List nk) (k:List TV->Prop),vV V rs k->∃vs ts as,ck (gM st.env st.H) rs=some vs/\ck (aL (d+4) st.H) vs=some as/\ep ts as/\k ts
 |[],k,h=>⟨[],[],[],rfl,rfl,⟨rfl,fun j t x ht=>by simp at ht⟩,h⟩
 |r::rs,k,h=>by
  obtain⟨v,t,a,h1,h2,h3,h4⟩:=oA hR h d;obtain⟨vs,ts,as,g1,g2,g3,g4⟩:=oB hR d rs _ h4;refine⟨v::vs,t::ts,a::as,by rw [b6,h1,g1],by rw [b6,h2,g2],⟨by simp [g3.1],fun j u x hu hx=>?_⟩,g4⟩;cases j with
  |zero=>simp at hu hx;subst hu;subst hx;exact h3
  |succ j=>exact g3.2 j u x (by simpa using hu) (by simpa using hx)
theorem qS:∀{ts:List TV},xy ts->∀t∈ts,t.oY=false
 |[],_,t,ht=>by cases ht
 |x::ts,h,t,ht=>by
  rcases Lh.1 ht with rfl|ht
  ·exact h.1
  ·exact qS h.2 t ht
theorem wZ {t:TV} {a:AV} (h:Can t a) (ht:t.oY=false):a.dP=true:=by
 cases h with
 |a ts as hl hf h=>exact aF.2 hf
 |tp ts as hl hf h=>cases ht
 |nM x u hf h=>exact(xP (oq hf)).2.2
 |_=>rfl
theorem EU {f:Nat} {af:aq} {vc:b9} {ts:List TV} {Q:TV->Prop} (hf:prog.get f=some af) (hc:vc.code=af.body) (hok:vc.ok=true) (hl:ts.length=af.params) (hsh:mg prog sh) (h:FT sh prog af vc ts Q):VS prog f ts Q:=by
 intro as ha;have h0:R (fun _=>none) V0 ⟨.leaf,.leaf,0⟩:=⟨fun t e he=>(by cases he),fun O o ho=>(by cases ho),fun O O' o o' a a' id ho=>(by cases ho),fun _ _=>rfl,fun O a ha=>(by cases ha),fun id o ho=>(by cases ho),fun O o a ho=>(by cases ho)⟩;have hR:=uN ts as 0 V0 .leaf ha h0;have hw:=xX hsh (nt:=af.nt) vc _ _ _ _ hok hR h;rw [hc] at hw;obtain⟨⟨v,H',nx'⟩,h1,h2⟩:=wJ (r:=fun p=>∃a,aL deep p.2.1 p.1=some a/\∃r,Can r a/\Q r) hf (by rw [←ha.1];exact hl) (jT hw (by
  rintro x st' ⟨V',A',g1,g2,g3,g4⟩;refine⟨(by cases x<;>first|exact .inl rfl|exact .inr rfl|cases g3),?_⟩;obtain⟨vs,rs,as',p1,p2,p3,p4,p5⟩:=oB g1 25 af.res _ g4;have many:vs.length≠1->∃v,lA af.res st'=some v/\∃a,aL deep v.2.1 v.1=some a/\∃r,Can r a/\Q r:=by
   intro hne;have hl1:=(fC p2).1;have hlr:rs.length=vs.length:=by rw [p3.1,hl1]
   have e1:lA af.res st'=some (.dc vs,st'.H,st'.nx):=by
    unfold lA;rw [p1]
    match vs,hne with
    |[],_=>rfl
    |[_],h=>exact absurd rfl h
    |_::_::_,_=>rfl
   have e2:vE rs=.tp rs:=by
    match rs,hlr with
    |[],_=>rfl
    |[_],h=>exact absurd h.symm hne
    |_::_::_,_=>rfl
   have e3:xy rs:=by
    match rs,hlr,p4 with
    |[],_,_=>trivial
    |[_],h,_=>exact absurd h.symm hne
    |_::_::_,_,h=>exact h
   refine⟨_,e1,.dc as',?_,_,?_,by rw [e2] at p5;exact p5⟩
   ·show aL (29+1) _ _=_;rw [fy];have p2':ck (aL 29 st'.H) vs=some as':=p2;rw [p2']
   ·refine .tp _ _ p3.1 (fun x hx=>?_) p3.2;obtain⟨j,hj⟩:=List.getElem?_of_mem hx;have hlt:j < rs.length:=by rw [p3.1];exact(KY.1 hj).1
    exact wZ (p3.2 j _ x (KX hlt) hj) (qS e3 _ (List.getElem_mem hlt))
  by_cases hv:vs.length=1
  ·obtain⟨vs',rs',as2,q1,q2,q3,q5⟩:=oB g1 26 af.res _ g4;rw [p1] at q1;cases q1;obtain⟨v,rfl⟩:=List.length_eq_one_iff.1 hv;have hl1:=(fC q2).1;obtain⟨a,rfl⟩:=List.length_eq_one_iff.1 hl1.symm;obtain⟨r,rfl⟩:=List.length_eq_one_iff.1 (show rs'.length=1 by rw [q3.1];rfl);refine⟨(v,st'.H,st'.nx),by unfold lA;rw [p1],a,?_,r,q3.2 0 r a rfl rfl,q5.2⟩;rw [b6] at q2;show aL (26+4) st'.H v=some a;cases hh:aL (26+4) st'.H v with
   |none=>rw [hh] at q2;cases q2
   |some y=>rw [hh] at q2;cases q2;rfl
  ·exact many hv))
 exact⟨v,H',nx',h1,h2⟩
end
end Go.Ax.V
namespace Go.Ax.V
def su (p:Nat->Bool) (e e':Env):Prop:=∀t,p t=true->e'.get t=e.get t
theorem su.refl (p:Nat->Bool) (e:Env):su p e e:=fun _ _=>rfl
theorem su.trans {p:Nat->Bool} {a b c:Env} (h:su p a b) (h':su p b c):su p a c:=fun t ht=>(h' t ht).trans (h t ht)
section
variable {prog:Map aq} {cf:eC} {nt np:Nat} {p:Nat->Bool}
end
end Go.Ax.V
namespace Go.Ax.V
theorem kW (prog:Map aq):∀k,ni (fun _=>aX prog) (interp prog k).fn/\qa (fun _=>bp prog) (interp prog k).code
 |0=>⟨fun f args H nx r h=>(by cases h),fun nt c st r h=>(by cases h)⟩
 |k+1=>by
  obtain⟨h1,h2⟩:=kW prog k;constructor
  ·intro f args H nx r h;obtain⟨k0,hk⟩:=rS (prog:=prog) h2 f args H nx r h;exact Ev.const (vO (hk k0 (LB _)))
  ·intro nt c st r h;obtain⟨k0,hk⟩:=nI h1 h2 nt c st r h;exact Ev.const (cI (hk k0 (LB _)))
theorem qg {prog:Map aq} {k f:Nat} {args:List AV} {H:aE} {nx:Nat} {r:AV×aE×Nat} (h:(interp prog k).fn f args H nx=some r):aX prog f args H nx=some r:=by obtain⟨k0,hk⟩:=(kW prog k).1 f args H nx r h;exact hk k0 (LB _)
theorem gh:ep [] []:=⟨rfl,fun j t x ht=>by simp at ht⟩
theorem bM {t:TV} {x:AV} {ts:List TV} {as:List AV} (h:Can t x) (hs:ep ts as):ep (t::ts) (x::as):=by
 refine⟨by simp [hs.1],fun j u y hu hy=>?_⟩;cases j with
 |zero=>simp at hu hy;subst hu;subst hy;exact h
 |succ j=>exact hs.2 j u y (by simpa using hu) (by simpa using hy)
theorem sx {n:Int} (h1:-9223372036854775808<=n) (h2:n < 9223372036854775808):cD .i64 n=n:=by
 unfold cD;have:EL .i64 n=true:=by
  cases n with
  |ofNat m=>have h2':(m:Int) < 9223372036854775808:=h2;simp only [EL];simp;omega
  |negSucc m=>simp only [EL];simp;omega
 rw [this];rfl
end Go.Ax.V
namespace Go.Ax.V
theorem gJ {t:Bool} {a b:Prop} (h:t=false) (hb:b):jH (.b t) a b:=by subst h;exact hb
theorem pM {t:Bool} {a b:Prop} (ha:t=true->a) (hb:t=false->b):jH (.b t) a b:=by
 cases t with
 |true=>exact ha rfl
 |false=>exact hb rfl
theorem tK {prog:Map aq} {f:Nat} {ts:List TV} {c:TV} {K:TV->Prop} (h:VS prog f ts (fun r=>r=c)) (hk:K c):VS prog f ts (fun r=>qf true r/\K r):=
 h.mono (fun r hr=>by subst hr;exact⟨trivial,hk⟩)
theorem dD {t bb:Bool} {P:TV->Prop} {k:TV->Prop} {v:TV} (ht:t=bb) (hp:P v) (hk:k v):∃v,gV (.b t) bb P v/\k v:=by subst ht;refine⟨v,?_,hk⟩;unfold gV;cases t<;>exact hp
theorem Be {t bb:Bool} {P:TV->Prop} {k:TV->Prop} (ht:t=!bb) (hk:k yD):∃v,gV (.b t) bb P v/\k v:=by subst ht;refine⟨yD,?_,hk⟩;unfold gV;cases bb<;>rfl
end Go.Ax.V
end
