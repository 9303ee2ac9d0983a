/- Part 5 of the proof: V6, V7, V8, V9, V10, V12, VS, V11, VD, VE, V13, V14, V15, V16, V18, V19, Ax29. -/
import Derived.Test.YtamgnhdbeecapaaCm4
set_option linter.unusedSimpArgs false
set_option linter.unusedVariables false
noncomputable section
namespace Go.Ax.V
section
variable {prog:Map ak} {cf:iy} {nt:Nat} {A:bt} {V:au} {st:St} {d:Option Nat} {g:G} {k:au->Prop}
theorem oL {a:AV} (h:a.flat=true) (d:Nat) (H:aU):bx (d+1) H a=[]:=by cases a<;>first|rfl|cases h
theorem Ag {cs:List AV} (h:∀x∈cs,AV.flat x=true) (d:Nat) (H:aU):cs.flatMap (bx (d+1) H)=[]:=by rw [List.flatMap_eq_nil_iff];exact fun x hx=>oL (h x hx) d H
theorem yz {a:AV} (h:a.iS=true) (d:Nat) (H:aU):bx (d+2) H a=[]:=by
 rcases zY h with h|⟨cs,rfl,h'⟩
 ·exact oL h (d+1) H
 ·rw [Aj,Ag h']
theorem qm {a:AV} (h:a.plain=true) (d:Nat) (H:aU):bx (d+3) H a=[]:=by
 rcases Cp h with h|⟨cs,rfl,h'⟩
 ·exact yz h (d+1) H
 ·rw [Ai,List.flatMap_eq_nil_iff];exact fun x hx=>yz (h' x hx) d H
theorem Ih {H:aU} {sz:Nat} {es:List TV} {a:AV} (h:wX H sz es a) (d:Nat):∀id∈bx (d+2) H a,cX a=some id:=by
 obtain⟨hz,h⟩:=h;rcases h with ⟨rfl,rfl|rfl⟩|⟨id,g,b,cells,rfl,hH,hb,he⟩
 ·intro id hi;cases hi
 ·intro id hi;cases hi
 ·intro id' hi;have hl:cells.length=b+es.length*sz:=by have:=he.len;rw [UB] at this;omega
  have hc:cut cells b (Nat.mul es.length sz)=some (cells.drop b):=by rw [dy,if_pos (by show b+es.length*sz<=_;omega),UZ];rw [UB];show _<=es.length*sz;omega
  rw [vo,hH] at hi;simp only [hc,Ag he.flat] at hi;simp at hi;subst hi;rfl
structure Sub (V V':au):Prop where
 env:V'.env=V.env
 us:V'.us=V.us
 H:∀O o,V'.H.get O=some o->V.H.get O=some o
theorem Sub.refl (V:au):Sub V V:=⟨rfl,rfl,fun _ _ h=>h⟩
theorem Sub.trans {V V1 V2:au} (h:Sub V V1) (h':Sub V1 V2):Sub V V2:=⟨h'.env.trans h.env,h'.us.trans h.us,fun O o hh=>h.H O o (h'.H O o hh)⟩
theorem Sub.own {V V':au} (h:Sub V V') {A:bt} {id:Nat} (ho:cY V' A id):cY V A id:=let ⟨O,o,a,h1,h2,h3⟩:=ho;⟨O,o,a,h.H _ _ h1,h2,h3⟩
theorem Sub.r {V V':au} (h:Sub V V') {A:bt} {st:St} (hR:R A V st):R A V' st:=hR.sub h.env h.us h.H
theorem Sub.ev {V V':au} (h:Sub V V'):kX V V':=kX.Nd h.us h.H
theorem Ext.sub {V V1 V':au} {A A':bt} (h:Ext V1 A V' A') (hs:Sub V V1):Ext V A V' A':=(Ext.CB A hs.ev).trans h
theorem b5 (V:au) (O:Nat):Sub V (bT V O):=⟨rfl,rfl,fun _ _ h=>(eO h).2⟩
theorem rW (V:au) (w:VV):Sub V (nr V w):=by cases w<;>first|exact b5 V _|exact Sub.refl V
theorem k7:∀(l:List (Nat×VV)) (V:au),Sub V (nu V l)
 |[],V=>Sub.refl V
 |(_,w)::r,V=>(rW V w).trans (k7 r _)
theorem ef {V:au} {A:bt} {st:St} (hR:R A V st) {O:Nat} {o:VO} {a:AV} {id:Nat} (hV:V.H.get O=some o) (hA:A O=some a) (hi:dX A o a id):¬cY (bT V O) A id:=by rintro⟨O',o',a',h1,h2,h3⟩;obtain⟨hne,h1'⟩:=eO h1;exact hne (hR.inj O' O _ _ a' a id h1' hV h2 hA h3 hi)
theorem kg {j:Nat} {w:VV}:∀{l:List (Nat×VV)},bU j l=some w->(j,w)∈l
 |[],h=>by cases h
 |(i,w')::r,h=>by
  rw [bQ] at h;split at h
  ·rename_i e;subst e;cases h;exact UG
  ·exact UH _ (kg h)
theorem CQ:∀{l:List (Nat×VV)} {V:au} {O:Nat} {j:Nat},(j,VV.sl O)∈l->(nu V l).H.get O=none
 |(i,w)::r,V,O,j,h=>by
  have keep:∀{V:au},V.H.get O=none->(nu V r).H.get O=none:=fun {V} hn=>by
   cases hh:(nu V r).H.get O with
   |none=>rfl
   |some o=>have:=(k7 r V).H O o hh;rw [hn] at this;cases this
  rcases UI.1 h with h|h
  ·cases h;exact keep (by show (V.H.put none O).get O=none;rw [Map.aa,if_pos rfl])
  ·exact CQ (l:=r) (V:=nr V w) h
theorem Ij {V V':au} {A:bt} {st:St} (hR:R A V st) (hs:Sub V V') {O:Nat} {o:VO} {a:AV} {id:Nat} (hV:V.H.get O=some o) (hA:A O=some a) (hi:dX A o a id) (hg:V'.H.get O=none):¬cY V' A id:=by rintro⟨O',o',a',h1,h2,h3⟩;have:=hR.inj O' O _ _ a' a id (hs.H _ _ h1) hV h2 hA h3 hi;subst this;rw [hg] at h1;cases h1
def LI (fz:Bool) (st:St) (x:aR):AV:=match fz with
 |true=>sx st.H (ev st.env) x
 |false=>ev st.env x
theorem xg {st:St} {x:aR} {a':AV} (h:bk deep st.H (ev st.env x)=some a'):sx st.H (ev st.env) x=a':=by simp only [sx,h]
theorem mR {n:Nat} {t:TV} (h:lE n t):∃l,b_ t=some l/\l.length=n:=by
 unfold lE at h;split at h
 ·rename_i l hl;exact⟨l,hl,h⟩
 ·cases h
def Whole (o:VO):Prop:=(∃z es,o=.gr z es)\/∃K s io iz ver es,o=.gn K s io iz ver none es
theorem AO {V:au} {O:Nat} {k:List TV->Prop} (h:wR V (.sl O) k):∃o,V.H.get O=some o/\Whole o/\∃es,k es/\(∀{A:bt} {H:aU} {a:AV} (d:Nat),OR A H o a->∃a',bk (d+3) H a=some a'/\Can (.l es) a'/\a'.flat=true/\(a.plain=true->a'=a)):=by
 simp only [wR] at h;split at h
 ·rename_i z es ho;exact⟨_,ho,.inl ⟨z,es,rfl⟩,es,h,fun d hor=>let ⟨a',h1,h2,h3,h4,_⟩:=AM hor (d+1);⟨a',h1,h2,h3,h4⟩⟩
 ·rename_i K s io iz ver es ho;exact⟨_,ho,.inr ⟨_,_,_,_,_,_,rfl⟩,es,h,fun d hor=>Il hor d⟩
 ·cases h
theorem ql {A:bt} {H:aU} {o:VO} {a:AV} (hw:Whole o) (h:OR A H o a) (d:Nat):∀id∈bx (d+3) H a,dX A o a id:=by
 rcases hw with ⟨z,es,rfl⟩|⟨K,s,io,iz,ver,es,rfl⟩
 ·exact fun id hi=>.inl (Ih h (d+1) id hi)
 ·obtain⟨hs,hio,hiz,h⟩:=h;rcases h with ⟨rfl,rfl|rfl⟩|⟨id,g,b,cells,rfl,hH,hb,he⟩
  ·intro id hi;cases hi
  ·intro id hi;cases hi
  ·intro id' hi;have hl:cells.length=b+es.length*s:=by have:=he.len;rw [UB] at this;omega
   have hc:cut cells b (Nat.mul es.length s)=some (cells.drop b):=by rw [dy,if_pos (by show b+es.length*s<=_;omega),UZ];rw [UB];show _<=es.length*s;omega
   rw [vo,hH] at hi;simp only [hc] at hi;rcases UI.1 hi with rfl|hi
   ·exact .inl rfl
   obtain⟨x,hx,hi⟩:=List.mem_flatMap.1 hi;obtain⟨q,hq⟩:=List.getElem?_of_mem hx;have hlt:q < es.length*s:=by have:=(Uo.1 hq).1;rw [he.len] at this;exact this
   have hj:q / s < es.length:=(Nat.div_lt_iff_lt_mul hs).2 hlt;have hqe:q=q / s*s+q % s:=by rw [Nat.mul_comm];exact(Nat.div_add_mod q s).symm
   obtain⟨ts,g1,g2,g3,x',g4,g5,g6⟩:=he.el (q / s) _ (Un hj);have ho:q % s < ts.length:=by rw [g2];exact Nat.mod_lt _ hs
   by_cases hoo:q % s=io
   ·obtain⟨l,g7,g8⟩:=g6 (by simp);rw [hqe,hoo,g4] at hq;cases hq;exact .inr ⟨q / s,x,by simp,g5,Ih g8 d id' hi⟩
   ·obtain⟨p1,p2⟩:=g3 (q % s) _ x hoo (Un ho) (by rw [←hqe];exact hq);have hh:bx (d+2) H x=[]:=oL p2 (d+1) H;rw [hh] at hi;cases hi
theorem ry {V:au}:∀{l:List (Nat×VV)} {v:TV} {k:TV->Prop},zf V l v k->∀j O,(j,VV.sl O)∈l->∃o,V.H.get O=some o/\Whole o
 |[],v,k,h,j,O,hm=>by cases hm
 |(off,w)::r,v,k,h,j,O,hm=>by
  have ex:∀{l:List (Nat×VV)} {v:TV} {k:TV->Prop},zf V l v k->∃u,k u:=by
   intro l
   induction l with
   |nil=>intro v k h;exact⟨v,h⟩
   |cons p l ih=>intro v k h;obtain⟨off,w⟩:=p;obtain⟨u,hu⟩:=ih h;obtain⟨es,u',_,hk⟩:=s8 hu;exact⟨u',hk⟩
  rcases UI.1 hm with hm|hm
  ·cases hm;obtain⟨u,hu⟩:∃u,wR V (.sl O) (fun es=>∃u',bf u off 1 (.l es)=some u'/\k u'):=ex (l:=r) h;obtain⟨o,h1,h2,_⟩:=AO hu;exact⟨o,h1,h2⟩
  ·exact ry (l:=r) h j O hm
theorem ye:∀{l:List (Nat×VV)},JV l=true->∀j O v i,(j,VV.ow O v i) ∉ l
 |[],h,j,O,v,i,hm=>by cases hm
 |(j',w)::r,h,j,O,v,i,hm=>by
  rcases UI.1 hm with h1|h1
  ·cases h1;cases h
  ·clear hm;cases w<;>first|(cases h;done)|exact ye (l:=r) h j O v i h1
structure Qo (A:bt) (st:St) (fz:Bool) (sz:Nat) (V:au) (j:Nat) (parts:List (Nat×Nat×aR)) (ts:List TV) (V':au):Prop where
 sub:Sub V V'
 len:ts.length=parts.length
 fill:∀cells:List AV,(j+parts.length)*sz<=cells.length->∃cells',fill (LI fz st) parts cells=some cells'/\cells'.length=cells.length/\(∀q,q < j*sz->cells'[q]?=cells[q]?)/\
  (∀q,(j+parts.length)*sz<=q->cells'[q]?=cells[q]?)/\(∀q x,j*sz<=q->q < (j+parts.length)*sz->cells'[q]?=some x->x.flat=true)/\∀i t,ts[i]?=some t->uz t ((cells'.drop ((j+i)*sz)).take sz)
 ei:fz=true->∃l,fo (bk deep st.H) (parts.map fun p=>ev st.env p.2.2)=some l
 ids:fz=true->∀id∈(parts.map fun p=>ev st.env p.2.2).flatMap (bx deep st.H),cY V A id/\¬cY V' A id
theorem yU {fz:Bool} {sz j off n:Nat} {x:aR} {r:List (Nat×Nat×aR)} {V V1 V':au} {t:TV} {ts:List TV} {a':AV} {l:List TV} {as:List AV} (hoff:off=j*sz) (hn:n=sz)
  (qzW:LI fz st x=a') (hc:b_ t=some l) (hl:l.length=n) (has:a'.cells?=some as) (hca:Gq l as) (hs:Sub V V1) (him:fz=true->bk deep st.H (ev st.env x)=some a')
  (hid:fz=true->∀id∈bx deep st.H (ev st.env x),cY V A id/\¬cY V1 A id) (h:Qo A st fz sz V1 (j+1) r ts V'):Qo A st fz sz V j ((off,n,x)::r) (t::ts) V':=by
 subst hoff;subst hn;refine⟨hs.trans h.sub,by simp [h.len],fun cells hcl=>?_,fun hf=>?_,fun hf id qxv=>?_⟩
 ·rw [UD] at hcl;have hal:as.length=n:=by rw [←hca.1.1];exact hl
  have hj1:(j+1)*n=j*n+n:=by rw [Nat.add_mul,Nat.one_mul]
  have hj2:(j+1+r.length)*n=(j+(r.length+1))*n:=by congr 1;omega
  have hle:(j+1)*n<=(j+(r.length+1))*n:=Nat.mul_le_mul_right n (by omega);have hov:dz cells (j*n) as=some (cells.take (j*n)++as++cells.drop (j*n+as.length)):=by rw [jg,if_pos (by omega)]
  obtain⟨ho1,ho2⟩:=e9 hov;obtain⟨cells',g1,g2,g3,g4,gf,g5⟩:=h.fill _ (by rw [ho1];omega);refine⟨cells',?_,by rw [g2,ho1],fun q hq=>?_,fun q hq=>?_,fun q y hq1 hq2 hy=>?_,fun i u hu=>?_⟩
  ·rw [nh];simp only [qzW,has,cond_eq_ite,UQ,if_pos hal,hov,g1]
  ·rw [g3 q (by omega),ho2,if_neg (by omega)]
  ·rw [UD] at hq;rw [g4 q (by omega),ho2,if_neg (by omega)]
  ·rw [UD] at hq2;by_cases hq:q < (j+1)*n
   ·rw [g3 q hq,ho2,if_pos (by omega)] at hy;exact hca.2 y (Uw hy)
   ·exact gf q y (by omega) (by omega) hy
  ·cases i with
   |zero=>
    simp at hu;subst hu;have:(cells'.drop (j*n)).take n=as:=by
     apply List.ext_getElem?;intro q;rw [jP];by_cases hq:q < n
     ·rw [if_pos hq,g3 _ (by omega),ho2,if_pos (by omega)];congr 1;omega
     ·rw [if_neg hq];exact(List.getElem?_eq_none_iff.2 (by omega)).symm
    rw [Nat.add_zero,this];exact fj.2 ⟨l,hc,hca.1⟩
   |succ i=>have:=g5 i u (by simpa using hu);rwa [show j+1+i=j+(i+1) by omega] at this
 ·obtain⟨l',hl'⟩:=h.ei hf;exact⟨a'::l',by rw [List.map_cons,cx];simp only [him hf,hl']⟩
 ·rw [List.map_cons,List.flatMap_cons,UJ] at qxv;rcases qxv with hi|hi
  ·obtain⟨h1,h2⟩:=hid hf id hi;exact⟨h1,fun ho=>h2 (h.sub.own ho)⟩
  ·obtain⟨h1,h2⟩:=h.ids hf id hi;exact⟨hs.own h1,h2⟩
theorem kR {fz:Bool} {sz:Nat}:∀(parts:List (Nat×Nat×aR)) (j:Nat) (V:au) (k:List TV->au->Prop),R A V st->kS V none fz sz j parts k->∃ts V',k ts V'/\Qo A st fz sz V j parts ts V'
 |[],j,V,k,hR,hk=>⟨[],V,hk,⟨Sub.refl V,rfl,fun cells _=>⟨cells,rfl,rfl,fun _ _=>rfl,fun _ _=>rfl,fun q x h1 h2=>by simp at h2;omega,fun i t hi=>by simp at hi⟩,fun _=>⟨[],rfl⟩,fun _ id hi=>by simp at hi⟩⟩
 |(off,n,x)::r,j,V,k,hR,hk=>by
  obtain⟨h1,hk⟩:=hk;rw [UN,UQ,UQ] at h1;obtain⟨hoff,hn⟩:=h1;obtain⟨w,hw,hq⟩:=b8 (g:=none) hR trivial hk;clear hk;have tree:∀{t:TV} {k':List TV->au->Prop},Can t (ev st.env x)->lE n t->kS V none fz sz (j+1) r k'->(∀ts V',k' ts V'->k (t::ts) V')->∃ts V',k ts V'/\Qo A st fz sz V j ((off,n,x)::r) ts V':=by
   intro t k' hc hs hk hkk;obtain⟨l,hl1,hl2⟩:=mR hs;obtain⟨as,h1,h2⟩:=vR hc hl1;obtain⟨ts,V',g1,g2⟩:=kR r (j+1) V k' hR hk;have him:bk deep st.H (ev st.env x)=some (ev st.env x):=jY (jc hc) 27 _;refine⟨t::ts,V',hkk _ _ g1,yU hoff hn ?_ hl1 hl2 h1 h2 (Sub.refl V) (fun _=>him) (fun _ id hi=>?_) g2⟩
   ·cases fz with
    |true=>exact xg him
    |false=>rfl
   ·have hh:bx deep st.H (ev st.env x)=[]:=qm (jc hc) 27 _;rw [hh] at hi;cases hi
  generalize he:ev st.env x=a at hw;cases hw with
  |tr hc=>exact tree (he▸hc) hq.1 hq.2 (fun _ _ h=>h)
  |bX=>exact tree (he▸Can.nil) (by rw [hq.1];rfl) hq.2 (fun _ _ h=>h)
  |m_=>exact tree (he▸iw) (by rw [hq.1];rfl) hq.2 (fun _ _ h=>h)
  |@sl O _ hO=>obtain⟨rfl,rfl,hk⟩:=hq;obtain⟨ob,ho,hwh,es,hk,him⟩:=AO hk;obtain⟨y,hy,hs⟩:=hR.heap O _ ho;rw [hO] at hy;cases hy;obtain⟨a',g1,g2,g3,g4⟩:=him 27 hs;have hsub:Sub V (nr V (.sl O)):=rW V _;obtain⟨ts,V',g6,g7⟩:=kR r (j+1) _ _ (hsub.r hR) hk;obtain⟨as,p1,p2⟩:=vR (t:=.l es) g2 rfl;refine⟨_,V',g6,yU hoff hn (xg (by rw [he];exact g1)) rfl rfl p1 p2 hsub (fun _=>by rw [he];exact g1) (fun _ id hi=>?_) g7⟩;rw [he] at hi;have hid:=ql hwh hs 27 id hi;exact⟨⟨O,_,a,ho,hO,hid⟩,ef hR ho hO hid⟩
  |@st t o cs tl hv hc=>
   obtain⟨hfz,hk⟩:=hq;rw [UN] at hfz;obtain⟨rfl,qzn⟩:=hfz;have qxE:=ry hk;obtain⟨u,us,cs',h1,h2,h3,⟨hs,hk⟩,h5,h6⟩:=vQ hR hc hk 26;obtain⟨l',rfl⟩:=h5 _ hv;cases h2;have hsub:Sub V (nu V o):=k7 o V;obtain⟨ts,V',g6,g7⟩:=kR r (j+1) _ _ (hsub.r hR) hk;have him:bk deep st.H (ev st.env x)=some (.agg cs'):=by rw [he];show bk (29+1) _ _=_;rw [gI,h1]
   refine⟨_,V',g6,yU hoff hn (xg him) rfl hs rfl h3 hsub (fun _=>him) (fun _ id hi=>?_) g7⟩;rw [he] at hi;have hi':id∈cs.flatMap (bx 29 st.H):=hi;obtain⟨y,hy,hi'⟩:=List.mem_flatMap.1 hi';obtain⟨q,hq⟩:=List.getElem?_of_mem hy;have hlt:q < tl.length:=by rw [hc.len];exact(Uo.1 hq).1
   have hat:=hc.at_ q _ y (Un hlt) hq;cases ho:bU q o with
   |none=>rw [ho] at hat;have hh:bx 29 st.H y=[]:=oL hat.2 28 _;rw [hh] at hi';cases hi'
   |some w=>
    rw [ho] at hat;cases w<;>first|(exact absurd hat (by intro hh;exact hh))|skip
    ·rcases hat with e|e<;>(rw [e] at hi';cases hi')
    ·rename_i O;have hO:A O=some y:=hat;obtain⟨ob,hO',hwh⟩:=qxE q O (kg ho);obtain⟨y',hy',hs'⟩:=hR.heap O _ hO';rw [hO] at hy';cases hy';have qjp:=ql hwh hs' 26 id hi';exact⟨⟨O,_,y,hO',hO,qjp⟩,Ij hR hsub hO' hO qjp (CQ (kg ho))⟩
    ·exact absurd (kg ho) (ye qzn _ _ _ _)
  |_=>cases hq
end
end Go.Ax.V
namespace Go.Ax.V
section
variable {prog:Map ak} {cf:iy} {nt:Nat} {A:bt} {V:au} {st:St} {d:Option Nat} {g:G} {k:au->Prop}
theorem d_ {n:Nat} {p:Prop} (h:pos n p):0 < n/\p:=by
 unfold pos at h;rw [cond_eq_ite] at h;split at h
 ·rename_i hh;exact⟨by simpa using hh,h⟩
 ·cases h
theorem bw {a b:Nat} {p:Prop} (h:same a b p):a=b/\p:=by
 unfold same at h;rw [cond_eq_ite] at h;split at h
 ·rename_i hh;exact⟨by simpa using hh,h⟩
 ·cases h
theorem iq:∀(l:List Nat) (H:aU) (id:Nat),(drop H l).get id=if id∈l then none else H.get id
 |[],H,id=>by simp [drop]
 |i::l,H,id=>by
  rw [drop,iq l,Map.aa];by_cases h:id∈l
  ·rw [if_pos h,if_pos (UH _ h)]
  ·rw [if_neg h];by_cases e:id=i
   ·rw [if_pos e,if_pos (by rw [e];exact UG)]
   ·rw [if_neg e,if_neg (by intro hh;rcases UI.1 hh with hh|hh;exact e hh;exact h hh)]
theorem Ac {fz:Bool} {sz:Nat} {parts:List (Nat×Nat×aR)} {ts:List TV} {V':au} (h:Qo A st fz sz V 0 parts ts V') {zero:List AV} (hl:ts.length*sz=zero.length) :
  ∃cs,fill (LI fz st) parts zero=some cs/\BK sz ts cs:=by
 have hlen:=h.len;obtain⟨cs,g1,g2,g3,g4,gf,g5⟩:=h.fill zero (by rw [Nat.zero_add,←h.len,hl];exact U3 _);refine⟨cs,g1,by rw [g2,hl],fun x hx=>?_,fun j e hj=>by have:=g5 j e hj;rwa [Nat.zero_add] at this⟩;obtain⟨q,hq⟩:=List.getElem?_of_mem hx;have:=(Uo.1 hq).1;exact gf q x (by omega) (by rw [Nat.zero_add,←h.len,hl,←g2];exact this) hq
theorem HN (hR:R A V st) {es len:Nat} {zero:List AV} {parts:List (Nat×Nat×aR)} (h:pos es (kS V none false es 0 parts fun ts V'=>same ts.length len (same zero.length (ts.length*es) (jv nt V' d none .sl (.gr es ts) k)))):ck cf nt A V st d (.jd es len zero parts) k:=by
 obtain⟨hz,h⟩:=d_ h;obtain⟨ts,V',hk,hE⟩:=kR parts 0 V _ hR h;obtain⟨hl,hk⟩:=bw hk;obtain⟨hl2,hk⟩:=bw hk;obtain⟨cs,h1,h2⟩:=Ac hE (zero:=zero) hl2.symm;have hfr:=ku (A:=A) (V:=V') (st:=st) (a:=.ref st.nx 0 0 es ts.length ts.length false) (v:=.ref st.nx 0 0 es ts.length ts.length false) (ob:=.row 0 cs) (hE.sub.r hR) hk
  (fun A' hA=>⟨hz,.inr ⟨_,_,_,cs,rfl,by rw [Map.aa,if_pos rfl],U2 _,by simpa using h2⟩⟩) rfl rfl (fun A' O hO=>.sl hO)
 obtain⟨e',p1,V2,A2,p2,p3,p4⟩:=hfr;refine wZ (f:=fun id=>.ref id 0 0 es len len false) (ob:=.row 0 cs) rfl (by have this:fill (ev st.env) parts zero=some cs:=h1;simp only [lq,this]) ⟨e',by rw [←hl];exact p1,V2,A2,p2,⟨p3.le,fun id hid hn=>p3.same id hid (fun ho=>hn (hE.sub.own ho)),fun id ho=>(p3.own id ho).imp hE.sub.own (fun x=>x)⟩,p4.1.sub hE.sub,p4.2⟩
theorem Fx {l:List AV} {f:AV->Bool} (h:∀x∈l,f x=true):cz f l=true:=aX.2 h
theorem HK (hR:R A V st) {fz:Bool} {len:Nat} {zero:List AV} {parts:List (Nat×Nat×aR)} {gd:Option (Nat×Bool)} (h:Fi nt V d none fz len zero parts k) :
  ∃v H' nx',nW cf ⟨d,.b6 len zero parts,gd,fz⟩ (ev st.env) st.H st.nx=some (v,H',nx')/\Next nt A V st d v H' nx' k:=by
 unfold Fi at h;simp only at h;split at h
 ·split at h<;>first|(cases h;done)|skip
  split at h<;>first|(cases h;done)|skip
  split at h<;>first|(cases h;done)|skip
  exact⟨.ei [] 0 (some 0),st.H,st.nx,rfl,av hR (fun _=>.m_) h⟩
 ·rename_i n;obtain⟨hz,h⟩:=d_ h;obtain⟨hm,h⟩:=bw h;obtain⟨ts,V',hk,hE⟩:=kR parts 0 V _ hR h;obtain⟨hl,hk⟩:=bw hk;obtain⟨cs,h1,h2⟩:=Ac hE (zero:=zero) (by rw [hl,Nat.mul_comm];exact hm);have hcan:Can (.l ts) (.ei cs (n+1) (some (n+1))):=by have:=BA hz h2 (some (n+1));rwa [hl] at this
  cases fz with
  |false=>refine⟨.ei cs (n+1) (some (n+1)),st.H,st.nx,?_,lV (hE.sub.r hR) (Fr.Nd fun O o hh=>hE.sub.H O o hh) (Ext.CB _ hE.sub.ev) (fun _=>.tr hcan) hk⟩;have h1':fill (ev st.env) parts zero=some cs:=h1;simp only [nW,iO,kind,ep,h1',Fx h2.flat,cond_true,cond_false,cO]
  |true=>
   obtain⟨l,hl'⟩:=hE.ei rfl;have qxl:=hE.ids rfl;have h1':fill (sx st.H (ev st.env)) parts zero=some cs:=h1;have qxc:=iq ((parts.map fun p=>ev st.env p.2.2).flatMap (bx deep st.H)) st.H;refine⟨.ei cs (n+1) (some (n+1)),drop st.H ((parts.map fun p=>ev st.env p.2.2).flatMap (bx deep st.H)),st.nx,?_,lV (A1:=A) (V1:=V') ⟨(hE.sub.r hR).env,fun O o ho=>?_,(hE.sub.r hR).inj,(hE.sub.r hR).used,hR.one,fun id o ho=>?_,(hE.sub.r hR).gh⟩ ⟨U3 _,fun id _ hn=>?_,fun id ho=>.inl (hE.sub.own ho)⟩ (Ext.CB _ hE.sub.ev) (fun _=>.tr hcan) hk⟩
   ·simp only [nW,hl',ep,h1',Fx h2.flat,cond_true]
   ·obtain⟨a,ha,hor⟩:=(hE.sub.r hR).heap O o ho;refine⟨a,ha,hor.mono (fun _ _ h=>h) (fun id hi=>?_)⟩;show (drop st.H _).get id=st.H.get id;rw [qxc,if_neg];exact fun hm=>(qxl id hm).2 ⟨O,o,a,ho,ha,hi⟩
   ·have ho':(drop st.H _).get id=some o:=ho;rw [qxc] at ho';split at ho'
    ·cases ho'
    ·exact hR.fresh id o ho'
   ·rw [qxc,if_neg];exact fun hm=>hn (qxl id hm).1
theorem Ml {s io n:Nat} {a:AV} {as:List AV} {t u:TV} {ts:List TV} {o:Nat} {ovs:List (Nat×VV)} (hc:bq A t ovs as ts) (hl:ts.length=s) (hio:io < s) (hov:∀j,bU j ovs=if j=io then some .bX else none) (hp:bf t io 1 (.l [])=some u):VR A (.gl s io [u]) (.ei as 1 (some 1)):=by
 obtain⟨ts',xs,us,p1,p2,p3,p4,p5,p6,p7⟩:=cu hp;have:=hc.cells.symm.trans p1;cases this;cases p2;have hla:as.length=s:=by rw [←hc.len];exact hl
 refine VR.gl (es:=[u]) (by omega) hio (by simp [hla]) (fun x hx=>?_) (fun j e he=>?_)
 ·obtain⟨q,hq⟩:=List.getElem?_of_mem hx;have hlt:q < ts.length:=by rw [hc.len];exact(Uo.1 hq).1
  have:=hc.at_ q _ x (Un hlt) hq;rw [hov] at this;split at this
  ·rcases this with rfl|rfl<;>rfl
  ·exact this.2
 ·cases j with
  |succ j=>simp at he
  |zero=>
   simp at he;subst he;refine⟨us,p4,by rw [p5,hl],fun o t z hne ht hz=>?_,?_,fun x hx=>?_⟩
   ·rw [Nat.zero_mul,Nat.zero_add] at hz;rw [p7,if_neg (by omega)] at ht;have:=hc.at_ o t z ht hz;rw [hov,if_neg hne] at this;exact this.1
   ·rw [p7,if_pos (by omega),Nat.sub_self];rfl
   ·rw [Nat.zero_mul,Nat.zero_add] at hx;have hlt:io < ts.length:=by omega
    have:=hc.at_ io _ x (Un hlt) hx;rw [hov,if_pos rfl] at this;exact this
theorem CU {ρ:aR->AV} {n:Nat} {x:aR} {zero as:List AV} (hc:(ρ x).cells?=some as) (hn:as.length=n) (hz:zero.length=n):fill ρ [(0,n,x)] zero=some as:=by
 rw [nh];simp only [hc,cond_eq_ite,UQ,if_pos hn];have:dz zero 0 as=some as:=by rw [jg,if_pos (by omega),List.take_zero,List.nil_append,Nat.zero_add,List.drop_of_length_le (by omega),List.append_nil]
 rw [this];rfl
theorem HL {sh:Sh} (hR:R A V st) {fz:Bool} {len:Nat} {zero:List AV} {parts:List (Nat×Nat×aR)} {gd:Option (Nat×Bool)} (h:wN sh nt V d none fz len zero parts k) :
  ∃v H' nx',nW cf ⟨d,.b6 len zero parts,gd,fz⟩ (ev st.env) st.H st.nx=some (v,H',nx')/\Next nt A V st d v H' nx' k:=by
 unfold wN at h;split at h
 ·exact HK hR h
 rename_i c hcc;simp only at h;split at h;rotate_left
 ·cases h
 rename_i off n x;split at h;rotate_left
 ·cases h
 rename_i hb;simp only [UN,UQ] at hb;obtain⟨rfl,rfl,rfl,hz⟩:=hb;obtain⟨w,hw,hk⟩:=b8 (g:=none) hR trivial h;have fin:∀{as:List AV},(ev st.env x).cells?=some as->as.length=F1 c->(∀y∈as,AV.flat y=true)->Next nt A V st d (.ei as 1 (some 1)) st.H st.nx k->∃v H' nx',nW cf ⟨d,.b6 1 zero [(0,F1 c,x)],gd,fz⟩ (ev st.env) st.H st.nx=some (v,H',nx')/\Next nt A V st d v H' nx' k:=by
  intro as h1 h2 h3 h4;have hfl:cz AV.flat as=true:=aX.2 h3;refine⟨.ei as 1 (some 1),st.H,st.nx,?_,h4⟩;cases fz with
  |false=>simp only [nW,iO,kind,ep,CU h1 h2 hz,hfl,cond_true,cond_false,cO]
  |true=>
   have hpl:(ev st.env x).plain=true:=by
    cases hq:ev st.env x<;>rw [hq] at h1<;>first|(cases h1;done)|rfl|skip
    all_goals (cases h1;first|exact hfl|exact h3 _ UG)
   have him:bk deep st.H (ev st.env x)=some (ev st.env x):=jY hpl 27 _;have qxl:bx deep st.H (ev st.env x)=[]:=qm hpl 27 _;have qzW:(sx st.H (ev st.env) x)=ev st.env x:=xg him;have hf2:fill (sx st.H (ev st.env)) [(0,F1 c,x)] zero=some as:=CU (by rw [qzW];exact h1) h2 hz;have hm:fo (bk deep st.H) [ev st.env x]=some [ev st.env x]:=by rw [cx,him];rfl
   simp only [nW,cond_true,List.map_cons,List.map_nil,hm,ep,hf2,hfl,List.flatMap_cons,List.flatMap_nil,qxl,List.append_nil];rfl
 unfold Mu at hk;split at hk
 ·split at hk;rotate_left
  ·cases hk
  rename_i hb;simp only [UN,UQ] at hb;obtain⟨hs1,hi0⟩:=hb;have hw':ev st.env x=.ay\/ev st.env x=.ei [] 0 (some 0):=by
   generalize ev st.env x=p at hw;cases hw
   ·exact .inl rfl
   ·exact .inr rfl
  have hc1:(ev st.env x).cells?=some [ev st.env x]:=by rcases hw' with e|e<;>rw [e]<;>rfl
  refine fin hc1 (by rw [hs1];rfl) (fun y hy=>by rw [UK] at hy;subst hy;rcases hw' with e|e<;>rw [e]<;>rfl) (av hR (fun _=>?_) hk);refine VR.gl (es:=[.l []]) (by omega) (by omega) rfl (fun y hy=>by rw [UK] at hy;subst hy;rcases hw' with e|e<;>rw [e]<;>rfl) (fun j e he=>?_);cases j with
  |succ j=>simp at he
  |zero=>
   simp at he;subst he;refine⟨[.l []],rfl,rfl,fun o t z hne ht hz=>?_,rfl,fun y hy=>?_⟩
   ·cases o with
    |zero=>exact absurd rfl hne
    |succ o=>simp at ht
   ·simp at hy;subst hy;exact hw'
 ·rename_i t ovs;split at hk;rotate_left
  ·cases hk
  rename_i o;split at hk;rotate_left
  ·cases hk
  rename_i hb;simp only [UN,UQ,US] at hb;obtain⟨rfl,hio⟩:=hb;obtain⟨hso,u,hp,hk⟩:=hk;generalize he:ev st.env x=p at hw fin;cases hw with
  |@st _ _ cs ts hv hc=>
   obtain⟨l,h1,h2⟩:=mR hso;have:=hc.cells.symm.trans h1;cases this;have hov:∀j,bU j [(J3 c,VV.bX)]=if j=J3 c then some .bX else none:=fun j=>by
    rw [bQ];by_cases e:J3 c=j
    ·rw [if_pos e,if_pos e.symm]
    ·rw [if_neg e,if_neg (Ne.symm e)];rfl
   have hla:cs.length=F1 c:=by rw [←hc.len];exact h2
   refine fin rfl hla (fun y hy=>?_) (av hR (fun _=>Ml (a:=.ay) (o:=0) (n:=0) hc h2 hio hov hp) hk);obtain⟨q,hq⟩:=List.getElem?_of_mem hy;have hlt:q < ts.length:=by rw [hc.len];exact(Uo.1 hq).1
   have:=hc.at_ q _ y (Un hlt) hq;rw [hov] at this;split at this
   ·rcases this with rfl|rfl<;>rfl
   ·exact this.2
 ·cases hk
theorem JP (hR:R A V st) (ha:act g) {x:aR} (h:eT V g x fun w=>Bt nt V d g w k):ck cf nt A V st d (.lW x) k:=by
 obtain⟨w,hw,hk⟩:=b8 hR ha h;generalize he:ev st.env x=p at hw;cases hw with
 |ptr h=>exact aZ rfl (by simp only [j_,he]) (av hR (fun _=>.ptr h) hk)
 |pd h=>exact aZ rfl (by simp only [j_,he]) (av hR (fun _=>.pd h) hk)
 |ea h=>exact aZ rfl (by simp only [j_,he]) (av hR (fun _=>.ea h) hk)
 |pt hl hf h=>exact aZ rfl (by simp only [j_,he]) (av hR (fun _=>.pt hl hf h) hk)
 |_=>cases hk
theorem NG {O i off off' id gg b sz len cap:Nat} {ex:Bool} (h:A O=some (.ref id gg b sz len cap ex)):VR A (.ea O i (off+off')) (.ptr id gg (Nat.add (b+i*sz+off) off')):=by have:=VR.ea (A:=A) (i:=i) (off:=off+off') h;rwa [←Nat.add_assoc] at this
theorem NH {O v i j off off' id gg b sz len cap:Nat} {ex:Bool} (h:A (.i O v i)=some (.ref id gg b sz len cap ex)):VR A (.e2 O v i j (off+off')) (.ptr id gg (Nat.add (b+j*sz+off) off')):=by have:=VR.e2 (A:=A) (k:=j) (off:=off+off') h;rwa [←Nat.add_assoc] at this
theorem KK {v:TV} {cs:List AV} {b off off' n:Nat} (hl:b+n<=cs.length) (hf:∀x∈cs,AV.flat x=true) (h:uz v ((cs.drop b).take n)):VR A (.pt v (off+off')) (.ic cs (Nat.add (b+off) off')):=by have:=VR.pt (A:=A) (off:=off+off') hl hf h;rwa [←Nat.add_assoc] at this
theorem JR (hR:R A V st) (ha:act g) {off:Nat} {x:aR} (h:eT V g x fun w=>Bu nt V d g off w k):ck cf nt A V st d (.kO off x) k:=by
 obtain⟨w,hw,hk⟩:=b8 hR ha h;generalize he:ev st.env x=p at hw;cases hw with
 |ptr h=>exact aZ rfl (by simp only [ju,he];rfl) (av hR (fun _=>.ptr h) hk)
 |pd h=>exact aZ rfl (by simp only [ju,he];rfl) (av hR (fun _=>.pd h) hk)
 |ea h=>exact aZ rfl (by simp only [ju,he]) (av hR (fun _=>NG h) hk)
 |pt hl hf h=>exact aZ rfl (by simp only [ju,he]) (av hR (fun _=>KK hl hf h) hk)
 |e2 h=>exact aZ rfl (by simp only [ju,he]) (av hR (fun _=>NH h) hk)
 |_=>cases hk
theorem OK (hR:R A V st) (ha:act g) {off:Nat} {sz:Option Nat} {x:aR} (h:eT V g x fun w=>CW nt V d g off sz w k):ck cf nt A V st d (.F5 off sz x) k:=by
 obtain⟨w,hw,hk⟩:=b8 hR ha h;generalize he:ev st.env x=p at hw;have fin:∀{cs l:List AV} {v:AV},ev st.env x=.agg cs->cut cs off (cP sz)=some l->DS sz l=some v->Next nt A V st d v st.H st.nx k->ck cf nt A V st d (.F5 off sz x) k:=
  fun h1 h2 h3 h4=>aZ rfl (by simp only [Ct,h1,h2,h3,fe]) h4
 cases hw with
 |@tr v _ hc=>
  obtain⟨r,h1,h2⟩:=bl hR ha hk;unfold Pa at h1;split at h1
  ·rename_i cs;cases hc with
   |a ts as hl hf hh=>obtain⟨l,y,h3,h4,h5⟩:=tS (cs:=as) rfl ⟨⟨hl,hh⟩,hf⟩ h1;exact fin he h3 h4 (h2 _ h5)
  ·cases h1
 |@st v ovs cs ts hv hc=>
  simp only [CW] at hk;split at hk
  ·split at hk
   ·rename_i w hw;have hlt:=hc.keys _ _ hw;have hx:cs[off]?=some (cs[off]'(by rw [←hc.len];exact hlt)):=Un _;have hs:=hc.at_ off _ _ (Un hlt) hx;rw [hw] at hs;refine fin he (pQ hx) rfl (av hR (fun _=>?_) hk);cases w<;>first|(exact absurd hs (by intro hh;exact hh))|skip
    ·rcases hs with e|e
     ·rw [e];exact .bX
     ·rw [e];exact .m_
    ·exact .sl hs
    ·exact .ow hs
   ·rename_i ho;obtain⟨r,h1,h2⟩:=bl hR ha hk;obtain⟨y,h3,h4,_⟩:=pz hc h1 ho;exact fin he h3 rfl (h2 _ h4)
  ·rename_i n;split at hk
   ·rename_i ho;obtain⟨r,h1,h2⟩:=bl hR ha hk;obtain⟨l,ls,h3,h4,h5⟩:=gQ hc h1;rw [ho] at h5;exact fin he h3 rfl (h2 _ (s6 h5 h4))
   ·rename_i p r ho;split at hk
    ·obtain⟨u,h1,h2⟩:=hk;obtain⟨l,ls,h3,h4,h5⟩:=gQ hc h1;rw [ho] at h5;exact fin he h3 rfl (av hR (fun _=>.st h4 h5) h2)
    ·cases hk
 |_=>cases hk
theorem oI {i:TV} {n m:Nat} {a:AV} (h:lY i n=some m) (hc:Can i a):∃k z,a=.int k z/\H9 z n=some m/\m < n:=by
 unfold lY at h;split at h
 ·rename_i k z;cases hc;exact⟨k,z,rfl,h,(tV h).2⟩
 ·cases h
theorem JQ (hR:R A V st) (ha:act g) {es:Nat} {x i:aR} (h:eT V g x fun w=>j7 V g i fun i=>Fj nt V d g es w i k):ck cf nt A V st d (.dP es x i) k:=by
 obtain⟨w,hw,hk⟩:=b8 hR ha h;obtain⟨iv,hi,hk⟩:=cm hR ha hk;obtain⟨hz,hk⟩:=d_ hk;generalize he:ev st.env x=p at hw;cases hw with
 |@tr v _ hc=>
  obtain⟨e,⟨h1,h2⟩,h3⟩:=xX ha hk;unfold D5 at h1;split at h1
  ·rename_i es';split at h1
   ·rename_i m hm;obtain⟨ki,zi,g1,g2,g3⟩:=oI hm hi;cases hc with
    |nil=>simp at g3
    |ei _ cs n sz c hn hcl hsz hf hh=>
     subst hn;have hE:=hh m e h1;obtain⟨l,hl1,hl2⟩:=mR h2;obtain⟨ts,ht1,ht2⟩:=fj.1 hE;rw [hl1] at ht1;cases ht1;have hmn:=ct (z:=sz) g3;have qzT:((cs.drop (m*sz)).take sz).length=sz:=by simp only [UA,UB];omega
     have qzS:sz=es:=by rw [←hl2,ht2.1,qzT]
     subst qzS;refine aZ (v:=.ic cs (m*sz)) rfl ?_ (av hR (fun _=>?_) h3)
     ·simp only [ke,g1,he,g2];cases cs with
      |nil=>simp at hcl;omega
      |cons _ _=>rfl
     ·exact VR.pt (b:=m*sz) (off:=0) (n:=sz) (by omega) hf hE
   ·cases h1
  ·cases h1
 |@sl O _ hO=>
  dsimp only at hk;split at hk
  ·rename_i z es' ho;obtain⟨rfl,hk2⟩:=bw hk;obtain⟨m,h1,h2⟩:=lU ha hk2;obtain⟨ki,zi,g1,g2,g3⟩:=oI h1 hi;obtain⟨y,hy,hs⟩:=hR.heap O _ ho;rw [hO] at hy;cases hy;obtain⟨_,hs⟩:=hs;rcases hs with ⟨e,_⟩|⟨id,gg,b,cells,e,hH,hb,hE⟩
   ·subst e;simp at g3
   ·subst e;exact aZ (v:=.ptr id gg (b+m*z)) rfl (by simp only [ke,g1,he,g2,cond_eq_ite,UQ,if_pos];rfl) (av hR (fun _=>VR.ea (off:=0) hO) h2)
  ·rename_i K s io iz ver hole es' ho;obtain⟨rfl,hk2⟩:=bw hk;obtain⟨m,h1,h2⟩:=lU ha hk2;obtain⟨ki,zi,g1,g2,g3⟩:=oI h1 hi;obtain⟨y,hy,hs⟩:=hR.heap O _ ho;rw [hO] at hy;cases hy;obtain⟨_,_,_,hs⟩:=hs;rcases hs with ⟨e,_⟩|⟨id,gg,b,cells,e,hH,hb,hE⟩
   ·subst e;simp at g3
   ·subst e;exact aZ (v:=.ptr id gg (b+m*s)) rfl (by simp only [ke,g1,he,g2,cond_eq_ite,UQ,if_pos];rfl) (av hR (fun _=>VR.ea (off:=0) hO) h2)
  ·cases hk
 |@ow O v j _ hA=>
  obtain⟨s,io,iz,es',ho,hk⟩:=de hk;obtain⟨rfl,hk2⟩:=bw hk;obtain⟨m,h1,h2⟩:=lU ha hk2;unfold Sr at h1;split at h1;rotate_left
  ·cases h1
  rename_i l hl;obtain⟨ki,zi,g1,g2,g3⟩:=oI h1 hi;obtain⟨y,hy,hs⟩:=hR.heap O _ ho;have hsl:=vt hs hl (by simp) hA;rcases hsl.2 with ⟨e,_⟩|⟨id,gg,b,cells,e,hH,hb,hE⟩
  ·subst e;simp at g3
  ·subst e;exact aZ (v:=.ptr id gg (b+m*iz)) rfl (by simp only [ke,g1,he,g2,cond_eq_ite,UQ,if_pos];rfl) (av hR (fun _=>VR.e2 (off:=0) hA) h2)
 |_=>cases hk
theorem LV (hR:R A V st) (ha:act g) {len es:Nat} {x i:aR} (h:eT V g x fun w=>j7 V g i fun i=>Eg nt V d g len es w i k):ck cf nt A V st d (.oM len es x i) k:=by
 obtain⟨w,hw,hk⟩:=b8 hR ha h;obtain⟨iv,hi,hk⟩:=cm hR ha hk;generalize he:ev st.env x=p at hw;have fin:∀{m:Nat} {v:AV},lY iv len=some m->(∀ki zi,ev st.env i=.int ki zi->H9 zi len=some m->om (ev st.env) len es x i=some (.val v))->Next nt A V st d v st.H st.nx k->ck cf nt A V st d (.oM len es x i) k:=by intro m v h1 h2 h3;obtain⟨ki,zi,g1,g2,g3⟩:=oI h1 hi;exact aZ rfl (h2 ki zi g1 g2) h3
 cases hw with
 |@ptr O off id hO=>obtain⟨m,h1,h2⟩:=lU ha hk;exact fin h1 (fun ki zi g1 g2=>by simp only [om,g1,g2,he];rfl) (av hR (fun _=>VR.pd hO) h2)
 |@pd O off id hO=>obtain⟨m,h1,h2⟩:=lU ha hk;exact fin h1 (fun ki zi g1 g2=>by simp only [om,g1,g2,he];rfl) (av hR (fun _=>VR.pd hO) h2)
 |@pt v cs b off n hl hf hcc=>obtain⟨m,h1,h2⟩:=lU ha hk;exact fin h1 (fun ki zi g1 g2=>by simp only [om,g1,g2,he];rfl) (av hR (fun _=>KK hl hf hcc) h2)
 |_=>cases hk
end
end Go.Ax.V
namespace Go.Ax.V
section
variable {prog:Map ak} {cf:iy} {nt:Nat} {A:bt} {V:au} {st:St} {d:Option Nat} {g:G} {k:au->Prop}
theorem AL {sz z:Nat} {es:List TV} {cs:List AV} {n:Nat} (h:uR sz es) (hn:es.length=n) (hc:cs.length=n*z) (hh:∀(j:Nat) (e:TV),es[j]?=some e->uz e ((cs.drop (j*z)).take z)):es=[]\/sz=z:=by
 cases es with
 |nil=>exact .inl rfl
 |cons e r=>
  right;obtain⟨l,hl1,hl2⟩:=mR h;obtain⟨ts,ht1,ht2⟩:=fj.1 (hh 0 e rfl);rw [hl1] at ht1;cases ht1;rw [←hl2,ht2.1];have:z<=cs.length:=by rw [hc,←hn,UD,Nat.add_mul,Nat.one_mul];omega
  simp only [UA,UB];omega
structure M5 (H:aU) (sz:Nat) (xs:List TV) (a:AV) (src:Src) (l:List AV):Prop where
 eq:dU sz a=some (xs.length,src)
 get:dr H src.q=some l
 el:BK sz xs (src.cs l)
theorem vO (sz:Nat):BK sz [] []:=⟨by simp,fun x hx=>by simp at hx,fun j e h=>by simp at h⟩
theorem Lu {H:aU} {sz:Nat} {es:List TV} {a:AV} (h:wX H sz es a):∃src l,M5 H sz es a src l:=by
 obtain⟨hz,h⟩:=h;rcases h with ⟨rfl,rfl|rfl⟩|⟨id,g,b,cells,rfl,hH,hb,he⟩
 ·exact⟨.list [],[],rfl,rfl,vO sz⟩
 ·exact⟨.list [],[],by simp [dU],rfl,vO sz⟩
 ·have hl:=he.len;rw [UB] at hl;refine⟨.w7 ⟨id,g,b,es.length*sz⟩,cells.drop b,by simp [dU],?_,he⟩;simp only [Src.q,dr,hH,cond_eq_ite,UQ,if_pos];rw [dy,if_pos (by omega),UZ (by rw [UB];omega)]
theorem B6 (hR:R A V st) {sz:Nat} (hz:0 < sz) {w:VV} {a:AV} (hw:VR A w a) {k:List TV->Prop} (hk:Du V sz w k):∃xs src l,M5 st.H sz xs a src l/\k xs:=by
 cases hw with
 |@tr v _ hc=>
  obtain⟨xs,h1,h2,h3⟩:=hk;cases v<;>first|(cases h1;done)|skip
  cases h1;cases hc with
  |nil=>exact⟨[],.list [],[],⟨rfl,rfl,vO sz⟩,h3⟩
  |ei _ cs n z c hn hcl hsz hf hh=>
   refine⟨xs,.list cs,[],?_,h3⟩;rcases AL h2 hn hcl hh with rfl|rfl
   ·simp at hn;subst hn;have:cs=[]:=UY.1 (by omega);subst this;exact⟨by simp [dU],rfl,vO sz⟩
   ·exact⟨by simp [dU,hn,hcl],rfl,⟨by show cs.length=_;rw [hcl,hn],hf,hh⟩⟩
 |bX=>exact⟨[],.list [],[],⟨rfl,rfl,vO sz⟩,hk⟩
 |m_=>exact⟨[],.list [],[],⟨by simp [dU],rfl,vO sz⟩,hk⟩
 |@sl O _ hO=>
  simp only [Du] at hk;split at hk
  ·rename_i z es ho;obtain⟨rfl,hk2⟩:=bw hk;obtain⟨y,hy,hs⟩:=hR.heap O _ ho;rw [hO] at hy;cases hy;obtain⟨src,l,h⟩:=Lu hs;exact⟨es,src,l,h,hk2⟩
  ·cases hk
 |_=>cases hk
theorem AD {bytes:Nat} {es xs l:List TV} (h:jT bytes es xs=some l):l=es++xs/\(es.length+xs.length)*bytes<=most/\es.length+xs.length<=most:=by
 unfold jT at h;rw [cond_eq_ite] at h;split at h
 ·rename_i hh;rw [UN,UR,UR] at hh;cases h;exact⟨rfl,hh.1,hh.2⟩
 ·cases h
theorem uu (hR:R A V st) {V1:au} (hR1:R A V1 st) (qxh:∀id,cY V1 A id->cY V A id) (hev:kX V V1) {sz bytes:Nat} {es xs l:List TV} {s x:AV} {src:Src} {lc:List AV} (hsl:wX st.H sz es s) (hone:s.one=true) (hown:∀id,cX s=some id->¬cY V1 A id/\cY V A id)
  (hx:M5 st.H sz xs x src lc) (qjc:jT bytes es xs=some l) {so xo:aR} (e1:ev st.env so=s) (e2:ev st.env xo=x) (hk:jv nt V1 d g .sl (.gr sz l) k):ck cf nt A V st d (.app sz bytes so xo) k:=by
 obtain⟨rfl,hb1,hb2⟩:=AD qjc;have hz:=hsl.1;have qxf:kind (.app sz bytes so xo)=.plan fun ρ=>qW sz bytes (ρ so) (ρ xo):=rfl
 by_cases hm:xs=[]
 ·subst hm;refine aZ (v:=s) qxf ?_ (sk (a:=s) (nx':=st.nx) hR1 qxh hk (U3 _) hR.fresh (fun _ _=>rfl) (fun _ _ _=>rfl) (fun A' _=>by rw [List.append_nil];exact hsl) hone (fun id hi=>⟨(hown id hi).1,.inl (hown id hi).2⟩) (fun A' O hO=>.sl hO) rfl hev);have qze:Bn s=true:=by rcases hsl.2 with ⟨_,rfl|rfl⟩|⟨id,g,b,cells,rfl,_⟩<;>rfl
  simp only [qW,e1,e2,hx.eq,List.length_nil,cond_eq_ite,UQ,if_pos,qze]
 ·have hm0:xs.length≠0:=fun h=>hm (UY.1 h)
  obtain⟨hz,hsl⟩:=hsl;have fresh:∀(n:Nat),n=(es++xs).length->∀cells,BK sz (es++xs) cells->Next nt A V st d (.ref st.nx 0 0 sz n n false) (st.H.put (some (.row 0 cells)) st.nx) (st.nx+1) k:=by
   intro n hn cells hE;subst hn;obtain⟨e',p1,V2,A2,p2,p3,p4⟩:=ku (A:=A) (V:=V1) (st:=st) (a:=.ref st.nx 0 0 sz (es++xs).length (es++xs).length false) (v:=.ref st.nx 0 0 sz (es++xs).length (es++xs).length false) (ob:=.row 0 cells) hR1 hk
    (fun A' hA=>⟨hz,.inr ⟨_,_,_,cells,rfl,by rw [Map.aa,if_pos rfl],U2 _,hE⟩⟩) rfl rfl (fun A' O hO=>.sl hO)
   exact⟨e',p1,V2,A2,p2,⟨p3.le,fun id hid hn=>p3.same id hid (fun ho=>hn (qxh _ ho)),fun id ho=>(p3.own id ho).imp (qxh _) (fun x=>x)⟩,(Ext.CB A hev).trans p4.1,p4.2⟩
  rcases hsl with ⟨rfl,rfl|rfl⟩|⟨id,gg,b,cells,rfl,hH,hb,hE⟩
  ·refine⟨_,_,_,?_,fresh xs.length (by simp) (src.cs lc) (by simpa using hx.el)⟩;simp only [List.length_nil,Nat.zero_add] at hb1 hb2;simp only [iO,qxf,qW,e1,e2,hx.eq,cond_eq_ite,UQ,if_neg hm0,UN,UR];rw [if_pos ⟨hb1,hb2⟩];simp only [cO,fq,hx.get,i_,uT]
  ·refine⟨_,_,_,?_,fresh (0+xs.length) (by simp) (src.cs lc) (by simpa using hx.el)⟩;simp only [List.length_nil] at hb1 hb2;simp only [iO,qxf,qW,e1,e2,hx.eq,cond_eq_ite,UQ,if_neg hm0,UN,UR,US];rw [if_pos ⟨⟨⟨by show 0 < 0+xs.length;omega,by simp⟩,hb1⟩,hb2⟩];simp only [cO,fq,hx.get,i_,uT,List.nil_append];rfl
  ·have hl:=hE.len;rw [UB] at hl;obtain⟨hn1,hn2⟩:=hown id rfl;have hE2:=At hE hx.el;refine⟨.ref id (gg+1) 0 sz (es.length+xs.length) (es.length+xs.length) false,st.H.put (some (.row (gg+1) (cells.drop b++src.cs lc))) id,st.nx,?_,
    sk (a:=.ref id (gg+1) 0 sz (es.length+xs.length) (es.length+xs.length) false) hR1 qxh hk (U3 _) (fun i o hh=>?_) (fun i ho=>?_) (fun i _ hn=>?_) (fun A' _=>⟨hz,.inr ⟨id,gg+1,0,_,by rw [Uz],by rw [Map.aa,if_pos rfl],U2 _,hE2⟩⟩) rfl (fun i hi=>?_) (fun A' O hO=>.sl hO) rfl hev⟩
   ·simp only [iO,qxf,qW,e1,e2,hx.eq,cond_eq_ite,UQ,if_neg hm0,UN,UR,if_pos];rw [if_pos ⟨⟨trivial,hb1⟩,hb2⟩];simp only [y_,cond_eq_ite,UR];rw [if_neg (by show ¬(es.length+xs.length<=es.length);omega),if_neg (by decide)];simp only [cO,fq,hx.get,i_,hH,uX,cond_eq_ite,UQ,if_pos];rw [if_pos (by show b+es.length*sz=cells.length;omega)];simp only [uT];rfl
   ·rw [Map.aa] at hh;split at hh
    ·rename_i e;subst e;exact hR.h_ hn2
    ·exact hR.fresh i o hh
   ·rw [Map.aa,if_neg];rintro rfl;exact hn1 ho
   ·rw [Map.aa,if_neg];rintro rfl;exact hn hn2
   ·cases hi;exact⟨hn1,.inl hn2⟩
theorem Mh (hR:R A V st) {O s io iz v i:Nat} {es:List TV} {x:AV} (ho:V.H.get O=some (.gn O s io iz v none es)) (hx:A (.i O v i)=some x) :
  R A (bu V O (.gn O s io iz v (some i) es)) st/\(∀id,cY (bu V O (.gn O s io iz v (some i) es)) A id->cY V A id)/\∀id,cX x=some id->¬cY (bu V O (.gn O s io iz v (some i) es)) A id:=by
 obtain⟨a,hA,hs⟩:=hR.heap O _ ho;obtain⟨_,hv1,hv0,hv2,hv3⟩:=hR.gh O _ _ ho hA;have ids:∀id,dX A (.gn O s io iz v (some i) es) a id->dX A (.gn O s io iz v none es) a id:=by
  rintro id (h|⟨j,y,h1,h2,h3⟩)
  ·exact .inl h
  ·exact .inr ⟨j,y,by simp,h2,h3⟩
 have get':∀(O':Nat) o',(bu V O (.gn O s io iz v (some i) es)).H.get O'=some o'->(O'=O/\o'=.gn O s io iz v (some i) es)\/(O'≠O/\V.H.get O'=some o'):=fun O' o' h=>by
  simp only [bu,Map.aa] at h;split at h
  ·rename_i e;cases h;exact .inl ⟨e,rfl⟩
  ·rename_i e;exact .inr ⟨e,h⟩
 have up:∀{O':Nat} {o':VO} {y:AV} {id:Nat},(bu V O (.gn O s io iz v (some i) es)).H.get O'=some o'->A O'=some y->dX A o' y id->∃o2,V.H.get O'=some o2/\dX A o2 y id:=fun {O' o' y id} h hy hi=>by
  rcases get' O' o' h with ⟨rfl,rfl⟩|⟨_,h⟩
  ·rw [hA] at hy;cases hy;exact⟨_,ho,ids id hi⟩
  ·exact⟨o',h,hi⟩
 refine⟨⟨hR.env,fun O' o' h=>?_,fun O1 O2 o1 o2 a1 a2 id h1 h2 r1 r2 i1 i2=>?_,hR.used,hR.one,hR.fresh,fun O' o' y h hy=>?_⟩,fun id ⟨O',o',y,h1,h2,h3⟩=>?_,fun id hi ⟨O',o',y,h1,h2,h3⟩=>?_⟩
 ·rcases get' O' o' h with ⟨rfl,rfl⟩|⟨_,h⟩
  ·refine⟨a,hA,hs.1,hs.2.1,hs.2.2.1,hs.2.2.2.imp (fun h=>h) ?_⟩;rintro⟨id,g,b,cells,rfl,h5,h6,h7⟩;refine⟨id,g,b,cells,rfl,h5,h6,h7.len,fun j e he=>?_⟩;obtain⟨ts,g1,g2,g3,x',g4,g5,g6⟩:=h7.el j e he;exact⟨ts,g1,g2,g3,x',g4,g5,fun _=>g6 (by simp)⟩
  ·exact hR.heap O' o' h
 ·obtain⟨p1,q1,q2⟩:=up h1 r1 i1;obtain⟨p2,q3,q4⟩:=up h2 r2 i2;exact hR.inj O1 O2 _ _ a1 a2 id q1 q3 r1 r2 q2 q4
 ·rcases get' O' o' h with ⟨rfl,rfl⟩|⟨_,h⟩
  ·have hy':A O'=some y:=hy;rw [hA] at hy';cases hy';exact⟨rfl,hv1,hv0,fun j j' x x' id _ _=>hv2 j j' x x' id (by simp) (by simp),fun j x id _=>hv3 j x id (by simp)⟩
  ·exact hR.gh O' o' y h hy
 ·obtain⟨p,q1,q2⟩:=up h1 h2 h3;exact⟨O',p,y,q1,h2,q2⟩
 ·have hin:dX A (.gn O s io iz v none es) a id:=.inr ⟨i,x,by simp,hx,hi⟩;rcases get' O' o' h1 with ⟨rfl,rfl⟩|⟨hne,h⟩
  ·have h2':A O'=some y:=h2;rw [hA] at h2';cases h2';rcases h3 with h3|⟨j,z,k1,k2,k3⟩
   ·exact hv3 i x id (by simp) hx hi h3
   ·exact k1 (by rw [hv2 j i z x id (by simp) (by simp) k2 hx k3 hi])
  ·exact hne (hR.inj O' O _ _ _ _ id h ho h2 hA h3 hin)
structure Cg (H:aU) (s io iz:Nat) (es:List TV) (cs:List AV) (inn:Nat->Option AV):Prop where
 len:cs.length=es.length*s
 el:∀(j:Nat) (e:TV),es[j]?=some e->∃ts,b_ e=some ts/\ts.length=s/\(∀(o:Nat) t x,o≠io->ts[o]?=some t->cs[j*s+o]?=some x->Can t x/\x.flat=true)/\
  ∃x,cs[j*s+io]?=some x/\inn j=some x/\∃l,ts[io]?=some (.l l)/\wX H iz l x
 fin:∀j x,inn j=some x->j < es.length/\x.one=true
theorem Cg.gn {H:aU} {s io iz:Nat} {es:List TV} {cs:List AV} {inn:Nat->Option AV} (h:Cg H s io iz es cs inn) {A':bt} {K:Nat} (hA:∀j,A' (.i K 0 j)=inn j):Gp A' H K s io iz 0 none es cs:=
 ⟨h.len,fun j e he=>let ⟨ts,g1,g2,g3,x,g4,g5,g6⟩:=h.el j e he;⟨ts,g1,g2,g3,x,g4,by rw [hA];exact g5,fun _=>g6⟩⟩
theorem Cg.append {H:aU} {s io iz:Nat} {es xs:List TV} {cs ds:List AV} {i1 i2:Nat->Option AV} (hs:io < s) (h:Cg H s io iz es cs i1) (h':Cg H s io iz xs ds i2):Cg H s io iz (es++xs) (cs++ds) (fun j=>if j < es.length then i1 j else i2 (j - es.length)):=by
 refine⟨by rw [Uz,Uz,h.len,h'.len,Nat.add_mul],fun j e hj=>?_,fun j x hj=>?_⟩
 ·by_cases hlt:j < es.length
  ·rw [Uq hlt] at hj;have h9:=ct (z:=s) hlt;obtain⟨ts,g1,g2,g3,x,g4,g5,g6⟩:=h.el j e hj;have ap:∀o,o < s->(cs++ds)[j*s+o]?=cs[j*s+o]?:=fun o ho=>Uq (by rw [h.len];omega)
   exact⟨ts,g1,g2,fun o t y hne ht hy=>g3 o t y hne ht (by rw [←ap o (by rw [←g2];exact(Uo.1 ht).1)];exact hy),x,by rw [ap io hs];exact g4,by simp only [if_pos hlt];exact g5,g6⟩
  ·rw [Ur (by omega)] at hj;have e1:j*s=cs.length+(j - es.length)*s:=by rw [h.len,←Nat.add_mul];congr 1;omega
   obtain⟨ts,g1,g2,g3,x,g4,g5,g6⟩:=h'.el _ e hj;have ap:∀o,(cs++ds)[j*s+o]?=ds[(j - es.length)*s+o]?:=fun o=>by rw [Ur (by omega)];congr 1;omega
   exact⟨ts,g1,g2,fun o t y hne ht hy=>g3 o t y hne ht (by rw [←ap o];exact hy),x,by rw [ap io];exact g4,by simp only [if_neg hlt];exact g5,g6⟩
 ·replace hj:(if j < es.length then i1 j else i2 (j - es.length))=some x:=hj;split at hj
  ·rename_i hlt;obtain⟨p,q⟩:=h.fin j x hj;exact⟨by rw [Uz];omega,q⟩
  ·rename_i hlt;obtain⟨p,q⟩:=h'.fin _ x hj;exact⟨by rw [Uz];omega,q⟩
theorem Cg.mono {H H':aU} {s io iz:Nat} {es:List TV} {cs:List AV} {inn:Nat->Option AV} (h:Cg H s io iz es cs inn) (hH:∀j x id,inn j=some x->cX x=some id->H'.get id=H.get id):Cg H' s io iz es cs inn:=
 ⟨h.len,fun j e he=>let ⟨ts,g1,g2,g3,x,g4,g5,l,g6,g7⟩:=h.el j e he;⟨ts,g1,g2,g3,x,g4,g5,l,g6,wX.mono (fun id hi=>hH j x id g5 hi) g7⟩,h.fin⟩
theorem O8 {H:aU} {s io iz:Nat} {es:List TV} {cs:List AV} (hiz:0 < iz) (hio:io < s) (hl:cs.length=es.length*s) (hf:∀x∈cs,AV.flat x=true)
  (h:∀(j:Nat) (e:TV),es[j]?=some e->∃ts,b_ e=some ts/\ts.length=s/\(∀(o:Nat) t x,o≠io->ts[o]?=some t->cs[j*s+o]?=some x->Can t x)/\
   ts[io]?=some (.l [])/\∀x,cs[j*s+io]?=some x->x=.ay\/x=.ei [] 0 (some 0)) :
  Cg H s io iz es cs (fun j=>if j < es.length then cs[j*s+io]? else none)/\∀j x,(if j < es.length then cs[j*s+io]? else none)=some x->cX x=none:=by
 have nil:∀j x,j < es.length->cs[j*s+io]?=some x->x=.ay\/x=.ei [] 0 (some 0):=fun j x hj hx=>by obtain⟨ts,g1,g2,g3,g4,g5⟩:=h j _ (Un hj);exact g5 x hx
 refine⟨⟨hl,fun j e he=>?_,fun j x hj=>?_⟩,fun j x hj=>?_⟩
 ·obtain⟨ts,g1,g2,g3,g4,g5⟩:=h j e he;have hlt:=(Uo.1 he).1;have h9:=ct (z:=s) hlt;have hx:cs[j*s+io]?=some (cs[j*s+io]'(by omega)):=Un _;exact⟨ts,g1,g2,fun o t y hne ht hy=>⟨g3 o t y hne ht hy,hf y (Uw hy)⟩,_,hx,by simp only [if_pos hlt];exact hx,[],g4,hiz,.inl ⟨rfl,g5 _ hx⟩⟩
 ·split at hj
  ·rename_i hlt;exact⟨hlt,by rcases nil j x hlt hj with rfl|rfl<;>rfl⟩
  ·cases hj
 ·split at hj
  ·rename_i hlt;rcases nil j x hlt hj with rfl|rfl<;>rfl
  ·cases hj
theorem KM {A:bt} {s io:Nat} {xs:List TV} {a:AV} (h:VR A (.gl s io xs) a):0 < s/\io < s/\∃cs,a=.ei cs xs.length (some xs.length)/\cs.length=xs.length*s/\(∀x∈cs,AV.flat x=true)/\
  (∀(j:Nat) (e:TV),xs[j]?=some e->∃ts,b_ e=some ts/\ts.length=s/\(∀(o:Nat) t x,o≠io->ts[o]?=some t->cs[j*s+o]?=some x->Can t x)/\
   ts[io]?=some (.l [])/\∀x,cs[j*s+io]?=some x->x=.ay\/x=.ei [] 0 (some 0)):=by
 cases h with
 |gl h1 h2 h3 h4 h5=>exact⟨h1,h2,_,rfl,h3,h4,h5⟩
theorem Mk {A':bt} {H':aU} {K s io iz:Nat} {l:List TV} {a:AV} {inn:Nat->Option AV} (q1:0 < s) (q2:io < s) (q3:0 < iz) (hA:∀j,A' (.i K 0 j)=inn j) (hv:∀v j,0 < v->A' (.i K v j)=none)
  (hc:(l=[]/\(a=.ay\/a=.ei [] 0 (some 0))/\∀j,inn j=none)\/∃id g b cells,a=.ref id g b s l.length l.length false/\H'.get id=some (.row g cells)/\b<=cells.length/\Cg H' s io iz l (cells.drop b) inn)
  (hd:∀j j' x x' id,inn j=some x->inn j'=some x'->cX x=some id->cX x'=some id->j=j') (ho:∀j x id,inn j=some x->cX x=some id->cX a≠some id) :
  OR A' H' (.gn K s io iz 0 none l) a/\jq A' K a (.gn K s io iz 0 none l)/\∀id,dX A' (.gn K s io iz 0 none l) a id->cX a=some id\/∃j x,inn j=some x/\cX x=some id:=by
 refine⟨⟨q1,q2,q3,?_⟩,⟨rfl,hv,fun j x hj=>?_,fun j j' x x' id _ _ h1 h2=>?_,fun j x id _ h1=>?_⟩,fun id hi=>?_⟩
 ·rcases hc with ⟨h1,h2,_⟩|⟨id,g,b,cells,h1,h2,h3,h4⟩
  ·exact .inl ⟨h1,h2⟩
  ·exact .inr ⟨id,g,b,cells,h1,h2,h3,h4.gn hA⟩
 ·rw [hA] at hj;rcases hc with ⟨_,_,h3⟩|⟨id,g,b,cells,h1,h2,h3,h4⟩
  ·rw [h3] at hj;cases hj
  ·exact(h4.fin j x hj).1
 ·rw [hA] at h1 h2;exact hd j j' x x' id h1 h2
 ·rw [hA] at h1;exact ho j x id h1
 ·rcases hi with hi|⟨j,x,_,h2,h3⟩
  ·exact .inl hi
  ·rw [hA] at h2;exact .inr ⟨j,x,h2,h3⟩
theorem IQ (hR:R A V st) {V1:au} (hR1:R A V1 st) (qxh:∀id,cY V1 A id->cY V A id) (hev:kX V V1) {s io iz bytes dd:Nat} {es xs l:List TV} {sv:AV} {qxB:Nat->Option AV} {so xo:aR} (q2:io < s) (q3:0 < iz)
  (hD:(es=[]/\(sv=.ay\/sv=.ei [] 0 (some 0))/\∀j,qxB j=none)\/∃id g b cells,sv=.ref id g b s es.length es.length false/\st.H.get id=some (.row g cells)/\b<=cells.length/\Cg st.H s io iz es (cells.drop b) qxB) (hone:sv.one=true)
  (hi1:∀id,cX sv=some id->¬cY V1 A id/\cY V A id) (hi2:∀j x id,qxB j=some x->cX x=some id->¬cY V1 A id/\cY V A id)
  (hd:∀j j' x x' id,qxB j=some x->qxB j'=some x'->cX x=some id->cX x'=some id->j=j') (ho:∀j x id,qxB j=some x->cX x=some id->cX sv≠some id)
  (e1:ev st.env so=sv) (hx:VR A (.gl s io xs) (ev st.env xo)) (qjc:jT bytes es xs=some l) (hk:jv nt V1 (some dd) g .sl (.gn dd s io iz 0 none l) k):ck cf nt A V st (some dd) (.app s bytes so xo) k:=by
 obtain⟨rfl,hb1,hb2⟩:=AD qjc;obtain⟨q1,_,cs,e2,hcl,hcf,hel⟩:=KM hx;obtain⟨hcg,hcn⟩:=O8 (H:=st.H) (iz:=iz) q3 q2 hcl hcf hel;generalize hix:(fun j=>if j < xs.length then cs[j*s+io]? else none)=innx at hcg;have qzA:∀j x,innx j=some x->cX x=none:=fun j x h=>hcn j x (by rw [←hix] at h;exact h)
 have qxf:kind (.app s bytes so xo)=.plan fun ρ=>qW s bytes (ρ so) (ρ xo):=rfl
 have hsrc:dU s (.ei cs xs.length (some xs.length))=some (xs.length,.list cs):=by simp only [dU,cond_eq_ite,UQ];rw [if_pos (by show xs.length*s=cs.length;omega)]
 have mk:∀{a:AV} {H':aU} {nx':Nat} (inn:Nat->Option AV),(∀j x,inn j=some x->x.one=true)->st.nx<=nx'->(∀id ob,H'.get id=some ob->id < nx')->(∀id,cY V1 A id->H'.get id=st.H.get id)->(∀id,id < st.nx->¬cY V A id->H'.get id=st.H.get id)->
   a.one=true->((es++xs=[]/\(a=.ay\/a=.ei [] 0 (some 0))/\∀j,inn j=none)\/∃id g b cells,a=.ref id g b s (es++xs).length (es++xs).length false/\H'.get id=some (.row g cells)/\b<=cells.length/\Cg H' s io iz (es++xs) (cells.drop b) inn)->
   (∀j j' x x' id,inn j=some x->inn j'=some x'->cX x=some id->cX x'=some id->j=j')->(∀j x id,inn j=some x->cX x=some id->cX a≠some id)->
   (∀id,cX a=some id->¬cY V1 A id/\(cY V A id\/st.nx<=id))->(∀j x id,inn j=some x->cX x=some id->¬cY V1 A id/\cY V A id)->Next nt A V st (some dd) a H' nx' k:=by
  intro a H' nx' inn r1 r2 r3 r4 r5 r6 r7 r8 r9 r10 r11;refine z9 (inn:=inn) hR1 qxh hk r2 r3 r4 r5 r1 (fun A' d' hd' hm h0 h1=>?_) r6 (fun A' O hO=>.sl hO) hev;cases hd';obtain⟨t1,t2,t3⟩:=Mk q1 q2 q3 h0 h1 r7 r8 r9;refine⟨t1,t2,fun id hi=>?_⟩;rcases t3 id hi with h|⟨j,x,h2,h3⟩
  ·exact r10 id h
  ·exact⟨(r11 j x id h2 h3).1,.inl (r11 j x id h2 h3).2⟩
 by_cases hm:xs=[]
 ·subst hm;have qze:Bn sv=true:=by rcases hD with ⟨_,rfl|rfl,_⟩|⟨id,g,b,cells,rfl,_⟩<;>rfl
  refine aZ (v:=sv) qxf ?_ (mk qxB (fun j x h=>?_) (U3 _) hR.fresh (fun _ _=>rfl) (fun _ _ _=>rfl) hone ?_ hd ho (fun id hi=>⟨(hi1 id hi).1,.inl (hi1 id hi).2⟩) hi2)
  ·simp only [List.length_nil] at hsrc e2;simp only [qW,e1,e2,hsrc,cond_eq_ite,UQ,if_pos,qze]
  ·rcases hD with ⟨_,_,h3⟩|⟨id,g,b,cells,_,_,_,h4⟩
   ·rw [h3] at h;cases h
   ·exact(h4.fin j x h).2
  ·rw [List.append_nil];exact hD
 ·have hm0:xs.length≠0:=fun h=>hm (UY.1 h)
  have fresh:∀(n:Nat),n=(es++xs).length->es=[]->Next nt A V st (some dd) (.ref st.nx 0 0 s n n false) (st.H.put (some (.row 0 cs)) st.nx) (st.nx+1) k:=by
   intro n hn hes;subst hes;subst hn;have hno:∀id,cY V1 A id->id≠st.nx:=fun id ho he=>by have:=hR.h_ (qxh id ho);omega
   refine mk innx (fun j x h=>(hcg.fin j x h).2) (Nat.le_succ _) (fun id ob hh=>?_) (fun id ho=>by rw [Map.aa,if_neg (hno id ho)]) (fun id hlt _=>by rw [Map.aa,if_neg (by omega)]) rfl (.inr ⟨st.nx,0,0,cs,rfl,by rw [Map.aa,if_pos rfl],U2 _,?_⟩)
    (fun j j' x x' id h1 h2 h3=>by rw [qzA j x h1] at h3;cases h3) (fun j x id h1 h3=>by rw [qzA j x h1] at h3;cases h3) (fun id hi=>by cases hi;exact⟨fun ho=>hno _ ho rfl,.inr (U3 _)⟩) (fun j x id h1 h3=>by rw [qzA j x h1] at h3;cases h3)
   ·rw [Map.aa] at hh;split at hh
    ·omega
    ·have:=hR.fresh _ _ hh;omega
   ·rw [List.drop_zero,List.nil_append];exact hcg.mono (fun j x id h1 h3=>by rw [qzA j x h1] at h3;cases h3)
  rcases hD with ⟨rfl,rfl|rfl,_⟩|⟨id,gg,b,cells,rfl,hH,hb,hE⟩
  ·refine⟨_,_,_,?_,fresh xs.length (by simp) rfl⟩;simp only [List.length_nil,Nat.zero_add] at hb1 hb2;simp only [iO,qxf,qW,e1,e2,hsrc,cond_eq_ite,UQ,if_neg hm0,UN,UR];rw [if_pos ⟨hb1,hb2⟩];simp only [cO,fq,Src.q,dr,i_,uT,Src.cs]
  ·refine⟨_,_,_,?_,fresh (0+xs.length) (by simp) rfl⟩;simp only [List.length_nil] at hb1 hb2;simp only [iO,qxf,qW,e1,e2,hsrc,cond_eq_ite,UQ,if_neg hm0,UN,UR,US];rw [if_pos ⟨⟨⟨by show 0 < 0+xs.length;omega,by simp⟩,hb1⟩,hb2⟩];simp only [cO,fq,Src.q,dr,i_,uT,Src.cs,List.nil_append];rfl
  ·have hl:=hE.len;rw [UB] at hl;obtain⟨hn1,hn2⟩:=hi1 id rfl;have hE2:=Cg.append q2 hE hcg;have both:∀j x id',(if j < es.length then qxB j else innx (j - es.length))=some x->cX x=some id'->qxB j=some x:=fun j x id' h h3=>by
    split at h
    ·exact h
    ·rw [qzA _ x h] at h3;cases h3
   refine⟨.ref id (gg+1) 0 s (es.length+xs.length) (es.length+xs.length) false,st.H.put (some (.row (gg+1) (cells.drop b++cs))) id,st.nx,?_,
    mk (fun j=>if j < es.length then qxB j else innx (j - es.length)) (fun j x h=>(hE2.fin j x h).2) (U3 _) (fun i o hh=>?_) (fun i hoi=>?_) (fun i _ hn=>?_) rfl (.inr ⟨id,gg+1,0,_,by rw [Uz],by rw [Map.aa,if_pos rfl],U2 _,?_⟩)
     (fun j j' x x' id' h1 h2 h3 h4=>hd j j' x x' id' (both j x id' h1 h3) (both j' x' id' h2 h4) h3 h4) (fun j x id' h1 h3=>ho j x id' (both j x id' h1 h3) h3) (fun i hi=>?_) (fun j x id' h1 h3=>hi2 j x id' (both j x id' h1 h3) h3)⟩
   ·simp only [iO,qxf,qW,e1,e2,hsrc,cond_eq_ite,UQ,if_neg hm0,UN,UR,if_pos];rw [if_pos ⟨⟨trivial,hb1⟩,hb2⟩];simp only [y_,cond_eq_ite,UR];rw [if_neg (by show ¬(es.length+xs.length<=es.length);omega),if_neg (by decide)];simp only [cO,fq,Src.q,dr,i_,hH,uX,cond_eq_ite,UQ,if_pos];rw [if_pos (by show b+es.length*s=cells.length;omega)];simp only [uT];rfl
   ·rw [Map.aa] at hh;split at hh
    ·rename_i e;subst e;exact hR.h_ hn2
    ·exact hR.fresh i o hh
   ·rw [Map.aa,if_neg];rintro rfl;exact hn1 hoi
   ·rw [Map.aa,if_neg];rintro rfl;exact hn hn2
   ·rw [List.drop_zero];refine hE2.mono fun j x id' h1 h3=>?_
    rw [Map.aa,if_neg];rintro rfl;exact ho j x id' (both j x id' h1 h3) h3 rfl
   ·cases hi;exact⟨hn1,.inl hn2⟩
theorem OS {sh:Sh} (hR:R A V st) (ha:act g) {es bytes:Nat} {s x:aR} (h:eT V g s fun w=>eT V g x fun x=>Aq sh nt V d g es bytes w x k):ck cf nt A V st d (.app es bytes s x) k:=by
 obtain⟨w,hw,h⟩:=b8 hR ha h;obtain⟨y,hy,hk⟩:=b8 hR ha h;unfold Aq at hk;split at hk
 ·rename_i s' io xs;have hse:=(bw hk).1;replace hk:=(bw hk).2;subst hse;unfold Bw at hk;cases d with
  |none=>cases hk
  |some dd=>
  dsimp only at hk;obtain⟨_,q2,_⟩:=KM hy;have nilD:∀{sv:AV},(sv=.ay\/sv=.ei [] 0 (some 0))->ev st.env s=sv->Nat.blt 0 (Ja (sh.gc dd))=true->(∃l,jT bytes [] xs=some l/\jv nt V (some dd) g .sl (.gn dd s' io (Ja (sh.gc dd)) 0 none l) k)->ck cf nt A V st (some dd) (.app s' bytes s x) k:=by rintro sv hsv e1 hz ⟨l,h1,h2⟩;exact IQ (es:=[]) (qxB:=fun _=>none) hR hR (fun _ h=>h) (kX.refl V) q2 (by simpa using hz) (.inl ⟨rfl,hsv,fun _=>rfl⟩) (by rcases hsv with rfl|rfl<;>rfl) (fun id hi=>by rcases hsv with rfl|rfl<;>cases hi) (fun j x id h=>by cases h) (fun j j' x x' id h=>by cases h) (fun j x id h=>by cases h) e1 hy h1 h2
  generalize e1:ev st.env s=a at hw;cases hw with
  |bX=>
   simp only at hk;split at hk
   ·rename_i hb;rw [UN] at hb;exact nilD (.inl rfl) e1 hb.2 hk
   ·cases hk
  |m_=>
   simp only at hk;split at hk
   ·rename_i hb;rw [UN] at hb;exact nilD (.inr rfl) e1 hb.2 hk
   ·cases hk
  |@sl O _ hO=>
   simp only at hk;split at hk;rotate_left
   ·cases hk
   rename_i K s2 io2 iz ver es ho;split at hk;rotate_left
   ·cases hk
   rename_i hb;simp only [UN,UQ] at hb;obtain⟨rfl,rfl⟩:=hb;obtain⟨l,h1,h2⟩:=hk;obtain⟨y',hy',hs⟩:=hR.heap O _ ho;rw [hO] at hy';cases hy';obtain⟨rfl,hv1,hv0,hv2,hv3⟩:=hR.gh O _ _ ho hO;obtain⟨p1,p2,p3,hs⟩:=hs;refine IQ (es:=es) (qxB:=fun j=>A (.i K ver j)) hR (hR.bT K) (fun _ h=>(b5 V K).own h) (b5 V K).ev p2 p3 ?_ (hR.one _ _ hO) (fun id hi=>⟨ef hR ho hO (.inl hi),⟨K,_,_,ho,hO,.inl hi⟩⟩)
    (fun j x id h3 h4=>⟨ef hR ho hO (.inr ⟨j,x,by simp,h3,h4⟩),⟨K,_,_,ho,hO,.inr ⟨j,x,by simp,h3,h4⟩⟩⟩) (fun j j' x x' id=>hv2 j j' x x' id (by simp) (by simp)) (fun j x id=>hv3 j x id (by simp)) e1 hy h1 h2
   rcases hs with ⟨h3,h4⟩|⟨id,g',b,cells,h3,h4,h5,h6⟩
   ·exact .inl ⟨h3,h4,fun j=>by
     cases hq:A (.i K ver j) with
     |none=>rfl
     |some x=>have:=hv0 j x hq;rw [h3] at this;simp at this⟩
   ·exact .inr ⟨id,g',b,cells,h3,h4,h5,h6.len,fun j e he=>(let ⟨ts,g1,g2,g3,x,g4,g5,g6⟩:=h6.el j e he;⟨ts,g1,g2,g3,x,g4,g5,g6 (by simp)⟩),fun j x hx=>⟨hv0 j x hx,hR.one _ _ hx⟩⟩
  |_=>cases hk
 rename_i hngl;obtain⟨hz,hk⟩:=d_ hk;obtain⟨xs,src,l,hx,hk⟩:=B6 hR hz hy hk;generalize e1:ev st.env s=a at hw;cases hw with
 |bX=>obtain⟨l',h1,h2⟩:=hk;exact uu hR hR (fun _ h=>h) (kX.refl V) ⟨hz,.inl ⟨rfl,.inl rfl⟩⟩ rfl (fun id hi=>by cases hi) hx h1 e1 rfl h2
 |m_=>obtain⟨l',h1,h2⟩:=hk;exact uu hR hR (fun _ h=>h) (kX.refl V) ⟨hz,.inl ⟨rfl,.inr rfl⟩⟩ rfl (fun id hi=>by cases hi) hx h1 e1 rfl h2
 |@sl O _ hO=>
  dsimp only at hk;split at hk
  ·rename_i z es' ho;obtain⟨rfl,l',h1,h2⟩:=bw hk;obtain⟨y',hy',hs⟩:=hR.heap O _ ho;rw [hO] at hy';cases hy';exact uu hR (hR.bT O) (fun _ h=>(b5 V O).own h) (b5 V O).ev hs (hR.one _ _ hO) (fun id hi=>⟨ef hR ho hO (.inl hi),⟨O,_,_,ho,hO,.inl hi⟩⟩) hx h1 e1 rfl h2
  ·cases hk
 |@ow O v i _ hA=>dsimp only at hk;obtain⟨s2,io,iz,es',ho,hk⟩:=de hk;obtain⟨rfl,l0,h0,l',h1,h2⟩:=bw hk;obtain⟨y',hy',hs⟩:=hR.heap O _ ho;obtain⟨r1,r2,r3⟩:=Mh hR ho hA;exact uu hR r1 r2 (kX.Lv ho (U3 _)) (vt hs h0 (by simp) hA) (hR.one _ _ hA) (fun id hi=>⟨r3 id hi,⟨O,_,_,ho,hy',.inr ⟨i,_,by simp,hA,hi⟩⟩⟩) hx h1 e1 rfl h2
 |_=>cases hk
theorem OI (hR:R A V st) (ha:act g) {str:Bool} {x:aR} (h:eT V g x fun w=>Fh nt V d g str w k):ck cf nt A V st d (.len str x) k:=by
 obtain⟨w,hw,hk⟩:=b8 hR ha h;generalize he:ev st.env x=p at hw;cases str with
 |true=>
  cases hw with
  |@tr v _ hc=>
   obtain⟨r,h1,h2⟩:=bl hR ha hk;cases v<;>first|(cases h1;done)|skip
   cases h1;cases hc;exact aZ rfl (by simp only [lH,he]) (h2 _ (.i _ _))
  |_=>cases hk
 |false=>
  cases hw with
  |@tr v _ hc=>
   obtain⟨r,h1,h2⟩:=bl hR ha hk;cases v<;>first|(cases h1;done)|skip
   cases h1;cases hc with
   |nil=>exact aZ rfl (by simp only [lH,he];rfl) (h2 _ (.i _ _))
   |ei _ cs n z c hn=>subst hn;exact aZ rfl (by simp only [lH,he]) (h2 _ (.i _ _))
  |bX=>obtain⟨r,h1,h2⟩:=bl hR ha hk;cases h1;exact aZ rfl (by simp only [lH,he]) (h2 _ (.i _ _))
  |m_=>obtain⟨r,h1,h2⟩:=bl hR ha hk;cases h1;exact aZ (v:=.int .i64 ((0:Nat):Int)) rfl (by simp only [lH,he]) (h2 _ (.i _ _))
  |@sl O _ hO=>
   simp only [Fh] at hk;split at hk
   ·rename_i z es ho;obtain⟨y,hy,hs⟩:=hR.heap O _ ho;rw [hO] at hy;cases hy;obtain⟨r,h1,h2⟩:=bl hR ha hk;cases h1;rcases hs.2 with ⟨rfl,rfl|rfl⟩|⟨id,gg,b,cells,rfl,_⟩
    ·exact aZ (v:=.int .i64 0) rfl (by simp only [lH,he]) (h2 _ (.i _ _))
    ·exact aZ (v:=.int .i64 ((0:Nat):Int)) rfl (by simp only [lH,he]) (h2 _ (.i _ _))
    ·exact aZ rfl (by simp only [lH,he]) (h2 _ (.i _ _))
   ·rename_i K s io iz ver hole es ho;obtain⟨y,hy,hs⟩:=hR.heap O _ ho;rw [hO] at hy;cases hy;obtain⟨r,h1,h2⟩:=bl hR ha hk;cases h1;rcases hs.2.2.2 with ⟨rfl,rfl|rfl⟩|⟨id,gg,b,cells,rfl,_⟩
    ·exact aZ (v:=.int .i64 0) rfl (by simp only [lH,he]) (h2 _ (.i _ _))
    ·exact aZ (v:=.int .i64 ((0:Nat):Int)) rfl (by simp only [lH,he]) (h2 _ (.i _ _))
    ·exact aZ rfl (by simp only [lH,he]) (h2 _ (.i _ _))
   ·cases hk
  |@ow O v j _ hA=>
   obtain⟨s,io,iz,es,ho,hk⟩:=de hk;obtain⟨y,hy,hs⟩:=hR.heap O _ ho;obtain⟨r,h1,h2⟩:=bl hR ha hk;unfold Mc at h1;split at h1;rotate_left
   ·cases h1
   rename_i l hl;cases h1;have hsl:=vt hs hl (by simp) hA;rcases hsl.2 with ⟨rfl,rfl|rfl⟩|⟨id,gg,b,cells,rfl,_⟩
   ·exact aZ (v:=.int .i64 0) rfl (by simp only [lH,he]) (h2 _ (.i _ _))
   ·exact aZ (v:=.int .i64 ((0:Nat):Int)) rfl (by simp only [lH,he]) (h2 _ (.i _ _))
   ·exact aZ rfl (by simp only [lH,he]) (h2 _ (.i _ _))
  |_=>cases hk
end
end Go.Ax.V
namespace Go.Ax.V
section
variable {prog:Map ak} {cf:iy} {nt:Nat} {A:bt} {V:au} {st:St} {d:Option Nat} {g:G} {k:au->Prop}
def Qz (e:Env) (x:Option aR) (v:Option TV):Prop:=match x with|none=>v=none|some x=>∃u,v=some u/\Can u (ev e x)
theorem xq {e:Env} {x:Option aR} {v:Option TV} (h:Qz e x v) {other y r:Nat} (hb:IL v other y=some r):Fv (ev e) x other y=some r:=by
 cases x with
 |none=>cases h;exact hb
 |some x=>
  obtain⟨u,rfl,hc⟩:=h;cases u<;>first|(cases hb;done)|skip
  generalize he:ev e x=p at hc;cases hc;simp only [Fv,he];exact hb
theorem Fw {e:Env} {lo hi:Option aR} {l h:Option TV} (hl:Qz e lo l) (hh:Qz e hi h) {n a b:Nat} (hb:Gh l h n=some (a,b)):lM (ev e) lo hi none n n=some (a,b,n)/\a<=b/\b<=n:=by
 unfold Gh at hb;split at hb
 ·cases hb
 rename_i b' h1;split at hb
 ·cases hb
 rename_i a' h2;cases hb;have le:∀{x:Option TV} {o y r:Nat},IL x o y=some r->o<=y->r<=y:=fun {x o y r} hb ho=>by
  unfold IL at hb;split at hb
  ·cases hb;exact ho
  ·exact(uq hb).2
  ·cases hb
 refine⟨?_,le h2 (U2 _),le h1 (U3 _)⟩;have e0:Fv (ev e) none n n=some n:=rfl;simp only [lM,e0,xq hh h1,xq hl h2]
theorem qg (h:R A V st) (ha:act g) {x:Option aR} {k:Option TV->Prop} (hk:va V g x k):∃v,k v/\Qz st.env x v:=by obtain⟨v,h1,h2⟩:=HD h ha hk;exact⟨v,h1,by cases x<;>exact h2⟩
theorem Ei {sz:Nat} {es:List TV} {cs:List AV} (h:BK sz es cs) {a b:Nat} (hab:a<=b) (hb:b<=es.length):BK sz ((es.drop a).take (b - a)) ((cs.drop (a*sz)).take ((b - a)*sz)):=by
 have h1:a*sz+(b - a)*sz=b*sz:=by rw [←Nat.add_mul];congr 1;omega
 have h2:b*sz<=es.length*sz:=Nat.mul_le_mul_right sz hb;have hl:=h.len;refine⟨by simp only [UA,UB];rw [Nat.min_eq_left (by omega),Nat.min_eq_left (by omega)],iZ h.flat _ _,fun j e hj=>?_⟩;rw [jP] at hj;split at hj
 ·rename_i hlt;have h3:=ct (z:=sz) hlt;have:((((cs.drop (a*sz)).take ((b - a)*sz)).drop (j*sz)).take sz)=(cs.drop ((a+j)*sz)).take sz:=by rw [List.drop_take,List.take_take,List.drop_drop,Nat.min_eq_left (by omega),Nat.add_mul]
  rw [this];exact h.el _ e hj
 ·cases hj
theorem vP {x:Option aR} (h:lZ x=true):∃k,x=some (.c (.int k (.ofNat 0))):=by
 unfold lZ at h;split at h
 ·exact⟨_,rfl⟩
 ·cases h
def SI (mx:Option aR) (c:Option Nat) (m a:Nat):Option Nat:=match mx with
 |some _=>some (m - a)
 |none=>match c with
  |some c=>some (c - a)
  |none=>none
theorem AP {es n a b m:Nat} {ρ:aR->AV} {cs cs':List AV} {lo hi mx:Option aR} {c:Option Nat} (q1:n*es=cs.length) (hb:lM ρ lo hi mx n n=some (a,b,m)) (q2:cut cs (a*es) ((b - a)*es)=some cs') :
  Dy es ρ (.ei cs n c) lo hi mx=some (.ei cs' (b - a) (SI mx c m a)):=by
 have h1:Nat.beq (Nat.mul n es) cs.length=true:=by simpa using q1
 have h2:cut cs (Nat.mul a es) (Nat.mul (Nat.sub b a) es)=some cs':=q2;simp only [Dy,h1,hb,h2,cond_true];cases mx<;>cases c<;>rfl
theorem LQ (hR:R A V st) (ha:act g) {es:Nat} {x:aR} {lo hi mx:Option aR} (h:eT V g x fun w=>Ee nt V d g es w lo hi mx k):ck cf nt A V st d (.n_ es x lo hi mx) k:=by
 obtain⟨w,hw,hk⟩:=b8 hR ha h;have hz:=(d_ hk).1;replace hk:=(d_ hk).2;clear h;have qxf:kind (.n_ es x lo hi mx)=.plan fun ρ=>fe (Dy es ρ (ρ x) lo hi mx):=rfl
 generalize he:ev st.env x=p at hw;have fin:∀{v:AV},Dy es (ev st.env) p lo hi mx=some v->Next nt A V st d v st.H st.nx k->ck cf nt A V st d (.n_ es x lo hi mx) k:=
  fun h1 h2=>aZ qxf (by rw [he,h1];rfl) h2
 cases hw with
 |@sl O _ hO=>
  dsimp only at hk;split at hk;rotate_left
  ·cases hk
  rename_i z xs ho;split at hk;rotate_left
  ·cases hk
  split at hk;rotate_left
  ·cases hk
  obtain⟨rfl,hk2⟩:=bw hk;obtain⟨l,⟨m,h1,h2⟩,hl⟩:=qg (g:=none) hR trivial hk2;obtain⟨y,hy,hs⟩:=hR.heap O _ ho;rw [hO] at hy;cases hy;have hm:m<=xs.length:=by
   unfold IL at h1;split at h1
   ·cases h1;exact U2 _
   ·exact(uq h1).2
   ·cases h1
  have hb:lM (ev st.env) lo none none xs.length xs.length=some (m,xs.length,xs.length):=by
   have e0:∀n,Fv (ev st.env) none n xs.length=some n:=fun _=>rfl
   simp only [lM,e0,xq hl h1]
  have nxt:∀{a:AV},a.one=true->wX st.H z (xs.drop m) a->(∀id,cX a=some id->cX p=some id)->Next nt A V st d a st.H st.nx k:=fun {a} h3 h4 h5=>
   z8 (a:=a) (nx':=st.nx) (hR.bT O) (b5 V O).H h2 (U3 _) hR.fresh (fun _ _=>rfl) (fun _ _ _=>rfl) (fun A' _=>h4) h3
    (fun id hi=>⟨ef hR ho hO (.inl (h5 id hi)),.inl ⟨O,_,_,ho,hO,.inl (h5 id hi)⟩⟩) (fun A' O hO=>.sl hO)
  rcases hs.2 with ⟨rfl,rfl|rfl⟩|⟨id,gg,b,cells,rfl,hH,hbl,hE⟩
  ·simp at hm;subst hm;exact fin (by simp only [Dy];simp only [List.length_nil] at hb;rw [hb]) (nxt rfl ⟨hz,.inl ⟨by simp,.inl rfl⟩⟩ (fun id hi=>hi))
  ·simp at hm;subst hm;refine fin (v:=.ei [] 0 (some 0)) ?_ (nxt rfl ⟨hz,.inl ⟨by simp,.inr rfl⟩⟩ (fun id hi=>hi));simp only [List.length_nil] at hb;simp only [Dy,cond_eq_ite,UQ];rw [if_pos (by simp),hb];simp [dy]
  ·have hl':=hE.len;rw [UB] at hl';refine fin (v:=.ref id gg (b+m*z) z (xs.length - m) (xs.length - m) false) ?_ (nxt rfl ⟨hz,.inr ⟨id,gg,b+m*z,cells,by simp,hH,?_,?_⟩⟩ (fun id hi=>hi))
   ·simp only [Dy,cond_eq_ite,UQ,if_pos,hb];rfl
   ·have:=Nat.mul_le_mul_right z hm;omega
   ·have hE':=Ei hE hm (U3 _);have e1:(xs.drop m).take (xs.length - m)=xs.drop m:=UZ (by simp);have e2:((cells.drop b).drop (m*z)).take ((xs.length - m)*z)=cells.drop (b+m*z):=by rw [List.drop_drop,UZ];rw [UB,Nat.sub_mul];omega
    rwa [e1,e2] at hE'
 |@tr v _ hc=>
  dsimp only at hk;split at hk
  ·obtain⟨l,hk1,hl⟩:=qg hR ha hk;obtain⟨h,hk2,hh⟩:=qg hR ha hk1;obtain⟨r,⟨h1,h2⟩,h3⟩:=xX ha hk2;clear hk hk1 hk2;unfold Qr at h1;split at h1
   ·rename_i xs;split at h1
    ·rename_i a b hab;cases h1;obtain⟨hb,qjT,qje⟩:=Fw hl hh hab;cases hc with
     |nil=>refine fin (v:=.ay) (by simp only [Dy];simp only [List.length_nil] at hb;rw [hb]) (av hR (fun _=>.tr ?_) h3);simp;exact .nil
     |ei _ cs n z c hn hcl hsz hf hcc=>
      subst hn;have hE:BK z xs cs:=⟨hcl,hf,hcc⟩;have qxj:∀z',(z'=z\/xs=[])->xs.length*z'=cs.length/\cut cs (a*z') ((b - a)*z')=some ((cs.drop (a*z)).take ((b - a)*z)):=by
       intro z' hz';rcases hz' with rfl|rfl
       ·refine⟨hcl.symm,?_⟩;have:=Nat.mul_le_mul_right z' qje;have h1:a*z'+(b - a)*z'=b*z':=by rw [←Nat.add_mul];congr 1;omega
        rw [dy,if_pos (by omega)]
       ·simp only [List.length_nil,Nat.zero_mul] at hcl qje ⊢;have:cs=[]:=UY.1 hcl;subst this;have:b=0:=by omega
        subst this;have:a=0:=by omega
        subst this;simp [dy]
      obtain⟨q1,q2⟩:=qxj es (by rcases AL (h2 xs rfl) rfl hcl hcc with h|h;exact .inr h;exact .inl h);have hE':=Ei hE qjT qje;have hcan:∀c',Can (.l ((xs.drop a).take (b - a))) (.ei ((cs.drop (a*z)).take ((b - a)*z)) (b - a) c'):=fun c'=>by have:=BA hsz hE' c';rwa [show ((xs.drop a).take (b - a)).length=b - a by simp;omega] at this
      exact fin (AP q1 hb q2) (av hR (fun _=>.tr (hcan _)) h3)
    ·cases h1
   ·cases h1
  ·split at hk
   ·rename_i qxk;simp only [UN] at qxk;obtain⟨⟨⟨hc1,hc2⟩,hc3⟩,hc4⟩:=qxk;obtain⟨k1,rfl⟩:=vP hc1;obtain⟨k2,hm2⟩:=vP hc2;cases hm2;obtain rfl:lo=none:=(by cases lo<;>first|rfl|cases hc3);obtain⟨l,h1,hsz,h2⟩:=hk;cases v<;>first|(cases h1;done)|skip
    cases h1;cases hc with
    |nil=>exact fin (v:=.ay) rfl (av hR (fun _=>.bX) h2)
    |ei _ cs n z c hn hcl hz' hf hcc=>
     refine fin (v:=.ei [] 0 (some 0)) ?_ (av hR (fun _=>.m_) h2);have q1:n*es=cs.length:=by
      rcases AL hsz hn hcl hcc with h|h
      ·subst h;simp at hn;subst hn;simp at hcl;simp [hcl]
      ·rw [h,hcl]
     have hb:lM (ev st.env) none (some (.c (.int k1 (.ofNat 0)))) (some (.c (.int k2 (.ofNat 0)))) n n=some (0,0,0):=by rfl
     exact AP q1 hb (by simp [dy])
   ·cases hk
 |bX=>
  dsimp only at hk;split at hk
  ·rename_i qxk;simp only [UN] at qxk;obtain⟨⟨hc1,hc2⟩,hc3⟩:=qxk;obtain⟨k1,rfl⟩:=vP hc1;obtain⟨k2,rfl⟩:=vP hc2;obtain rfl:lo=none:=(by cases lo<;>first|rfl|cases hc3);exact fin (v:=.ay) rfl (av hR (fun _=>.bX) hk)
  ·cases hk
 |m_=>
  dsimp only at hk;split at hk
  ·rename_i qxk;simp only [UN] at qxk;obtain⟨⟨hc1,hc2⟩,hc3⟩:=qxk;obtain⟨k1,rfl⟩:=vP hc1;obtain⟨k2,rfl⟩:=vP hc2;obtain rfl:lo=none:=(by cases lo<;>first|rfl|cases hc3);refine fin (v:=.ei [] 0 (some 0)) ?_ (av hR (fun _=>.m_) hk);have hb:lM (ev st.env) none (some (.c (.int k1 (.ofNat 0)))) (some (.c (.int k2 (.ofNat 0)))) 0 0=some (0,0,0):=by rfl
   exact AP (by simp) hb (by simp [dy])
  ·cases hk
 |_=>cases hk
theorem JO (hR:R A V st) {len es:Nat} {x:aR} {hi:Option aR} (hz:0 < es) (h:eT V none x fun w=>nk nt V d len es w hi k):ck cf nt A V st d (.k9 len es x none hi none) k:=by
 obtain⟨w,hw,hk⟩:=b8 (g:=none) hR trivial h;generalize he:ev st.env x=p at hw;have go:∀{O off id:Nat} {v:TV} {ovs:List (Nat×VV)} {u:TV},p=.ptr id 0 off->A O=some (.ptr id 0 0)->V.H.get O=some (.ob v ovs)->b9 v off (len*es)=some u->(va V none hi fun h=>∃m,IL h len len=some m/\dh nt V d none (.sa O off m es) k)->ck cf nt A V st d (.k9 len es x none hi none) k:=by
  intro O off id v ovs u e0 hO ho hu hk;subst e0;obtain⟨l,⟨m,h1,h2⟩,hl⟩:=qg (g:=none) hR trivial hk;obtain⟨z,hz',id',cs,ts,rfl,hH,hc⟩:=hR.heap O _ ho;rw [hO] at hz';cases hz';obtain⟨ts',_,q2,q3,_⟩:=jV hu;have:=hc.cells.symm.trans q2;cases this;have hb:lM (ev st.env) none hi none len len=some (0,m,len):=by
   have e0:∀n y,Fv (ev st.env) none n y=some n:=fun _ _=>rfl
   simp only [lM,e0,xq hl h1]
  have qxj:cut cs off (Nat.mul len es)=some ((cs.drop off).take (len*es)):=by rw [dy];exact if_pos (by rw [←hc.len];exact q3)
  have qxf:kind (.k9 len es x none hi none)=.plan fun ρ=>lG ρ len es x none hi none:=rfl
  refine⟨.ref id 0 off es m len true,st.H,st.nx,?_,av hR (fun _=>.sa hz hO) h2⟩;simp only [iO,qxf,lG,he,hb,cO,fq,dr,hH,Nat.beq_refl,cond_true,qxj,i_,uT];simp
 cases hw with
 |@ptr O off id hO=>
  simp only [nk] at hk;split at hk
  ·rename_i v ovs ho;obtain⟨u,h1,h2⟩:=hk;exact go rfl hO ho h1 h2
  ·cases hk
 |@pd O off id hO=>
  simp only [nk] at hk;split at hk
  ·rename_i v ovs ho;obtain⟨u,h1,h2⟩:=hk;exact go rfl hO ho h1 h2
  ·cases hk
 |_=>cases hk
theorem Kp {sz:Nat} {es:List TV} {cs:List AV} (h:BK sz es cs) (n:Nat):BK sz (es.take n) (cs.take (min es.length n*sz)):=by
 have:=Ei h (a:=0) (b:=min es.length n) (U2 _) (Nat.min_le_left _ _);rw [Nat.zero_mul,List.drop_zero,List.drop_zero,Nat.sub_zero] at this;have e:es.take (min es.length n)=es.take n:=by rw [List.take_eq_take_min (i:=n),Nat.min_comm]
 rwa [e] at this
theorem OO (hR:R A V st) {es:Nat} {s x:aR} (hz:0 < es) (h:eT V none s fun w=>eT V none x fun x=>CX nt V d es w x k):ck cf nt A V st d (.Gv es s x) k:=by
 obtain⟨w,hw,h⟩:=b8 (g:=none) hR trivial h;obtain⟨y,hy,hk⟩:=b8 (g:=none) hR trivial h;generalize he:ev st.env s=p at hw;cases hw with
 |@sa O off n z id cap hz' hO=>
  simp only [CX] at hk;obtain⟨rfl,hk⟩:=bw hk;split at hk;rotate_left
  ·cases hk
  rename_i v ovs ho;split at hk;rotate_left
  ·cases hk
  obtain⟨xs,src,l,hx,u,hcp,hk⟩:=B6 hR hz hy hk;obtain⟨q,hq,id',cs,ts,rfl,hH,hc⟩:=hR.heap O _ ho;rw [hO] at hq;cases hq;obtain⟨cs',us,h3,h4⟩:=C4 hc hcp (Kp hx.el n);have qxf:kind (.Gv z s x)=.plan fun ρ=>C3 z (ρ s) (ρ x):=rfl
  have qzx:first (src.cs l) (Nat.mul (min xs.length n) z)=some ((src.cs l).take (min xs.length n*z)):=by rw [uc];exact if_pos (by rw [hx.el.len];exact Nat.mul_le_mul_right z (Nat.min_le_left _ _))
  obtain⟨g1,g2⟩:=s9 (o:=.ob u []) (ob:=.row 0 cs') hR ho hO (.inl rfl) ⟨_,cs',us,rfl,by rw [Map.aa,if_pos rfl],h4⟩ (fun id hi=>(dj rfl).2 ((dj rfl).1 hi)) (fun _=>uP rfl);obtain⟨e',p1,V2,A2,p2,p3,p4,p5⟩:=av (g:=none) (v:=.int .i64 ((min xs.length n:Nat):Int)) g1 (fun _=>VR.tr (.i _ _)) hk;refine⟨.int .i64 ((min xs.length n:Nat):Int),_,_,?_,e',p1,V2,A2,p2,g2.trans p3,(Ext.CB A (kX.set rfl)).trans p4,p5⟩;simp only [iO,qxf,C3,he,hx.eq,Nat.beq_refl,cond_true,cO,fq,hx.get,i_,hH,uX,qzx,h3,uT];rw [show (min (xs.length:Int) (n:Int))=((min xs.length n:Nat):Int) by omega]
 |_=>cases hk
end
end Go.Ax.V
namespace Go.Ax.V
section
variable {prog:Map ak} {cf:iy} {nt:Nat} {A:bt} {V:au} {st:St} {d:Option Nat} {g:G} {k:au->Prop}
theorem Cb (zero:List AV):∀m,(rows m zero).length=m*zero.length
 |0=>by simp [rows]
 |m+1=>by have:=Cb zero m;unfold rows at this ⊢;rw [List.replicate_succ,List.flatten_cons,Uz,this,Nat.add_mul,Nat.one_mul,Nat.add_comm]
theorem Ca (zero:List AV):∀m j,j < m->((rows m zero).drop (j*zero.length)).take zero.length=zero
 |0,j,h=>by omega
 |m+1,0,h=>by unfold rows;rw [List.replicate_succ,List.flatten_cons,Nat.zero_mul,List.drop_zero,List.take_left]
 |m+1,j+1,h=>by have:=Ca zero m j (by omega);unfold rows at this ⊢;rw [List.replicate_succ,List.flatten_cons,Nat.add_mul,Nat.one_mul,Nat.add_comm,List.drop_append,List.drop_of_length_le (by omega),List.nil_append];rwa [show zero.length+j*zero.length - zero.length=j*zero.length by omega]
theorem AA {cs:List AV} (h:cz er cs=true):pY (cS cs) cs/\∀x∈cs,AV.flat x=true:=by refine⟨⟨j0 cs,fun j t x ht hx=>?_⟩,fun x hx=>(kU (aX.1 h x hx)).2⟩;rw [pU,hx] at ht;cases ht;exact(kU (aX.1 h x (Uw hx))).1
theorem Gx {zero:List AV} (h:cz er zero=true):uz (Ey zero.length zero) zero:=by
 have hb:=(AA h).1;have ag:uz (.a (cS zero)) zero:=.a _ _ hb.1 hb.2;unfold Ey;split
 ·rename_i hl
  match zero,hl,h with
  |[x],_,h=>have hx:=aX.1 h x UG;refine .one _ _ ?_ (kU hx).1;cases x<;>first|rfl|cases hx
 ·exact ag
theorem LS (hR:R A V st) {es bytes:Nat} {zero:List AV} {n:aR} (h:pos es <| match cz er zero&&Nat.beq zero.length es with
   |true=>j7 V none n fun n=>∃m,L0 bytes n=some m/\jv nt V d none .sl (.gr es (List.replicate m (Ey es zero))) k
   |false=>False):ck cf nt A V st d (.vg es bytes zero n) k:=by
 have hz:=(d_ h).1;replace h:=(d_ h).2;split at h
 ·rename_i hc;rw [UN,UQ] at hc;obtain⟨hc,rfl⟩:=hc;obtain⟨v,hv,m,h1,h2⟩:=cm (g:=none) hR trivial h;unfold L0 at h1;split at h1
  ·rename_i ki z;generalize he:ev st.env n=p at hv;cases hv;split at h1
   ·rename_i m' hm;rw [cond_eq_ite] at h1;split at h1
    ·rename_i qxk;cases h1;refine wZ (f:=fun id=>.ref id 0 0 zero.length m m false) (ob:=.row 0 (rows m zero)) rfl ?_ (ku hR h2 (fun A' hA=>⟨hz,.inr ⟨st.nx,0,0,rows m zero,by simp,by rw [Map.aa,if_pos rfl],U2 _,?_⟩⟩) rfl rfl (fun A' O hO=>.sl hO))
     ·simp only [wh,he,hm,qxk,cond_true]
     ·rw [List.drop_zero];refine⟨by rw [Cb,List.length_replicate],fun x hx=>?_,fun j e hj=>?_⟩
      ·unfold rows at hx;obtain⟨l,hl,hx⟩:=List.mem_flatten.1 hx;rw [List.mem_replicate] at hl;rw [hl.2] at hx;exact(AA hc).2 x hx
      ·have hlt:j < m:=by have:=(Uo.1 hj).1;simpa using this
       rw [List.getElem?_replicate,if_pos hlt] at hj;cases hj;rw [Ca zero m j hlt];exact Gx hc
    ·cases h1
   ·cases h1
  ·cases h1
 ·cases h
theorem OQ (hR:R A V st) (ha:act g) {op:BinOp} {x y:aR} (h:j7 V g x fun x=>j7 V g y fun y=>eU nt V d g (b7 op x y) k):ck cf nt A V st d (.bin op x y) k:=by
 obtain⟨u,h1,h⟩:=cm hR ha h;obtain⟨w,h2,h⟩:=cm hR ha h;obtain⟨r,h3,h4⟩:=bl hR ha h;obtain⟨c,h5,h6⟩:=IJ h3 h1 h2;have hk:kind (.bin op x y)=.plan fun ρ=>fe (Dc op (ρ x) (ρ y)):=rfl
 exact aZ hk (by simp only [h5,fe]) (h4 _ h6)
theorem Sj (hR:R A V st) (ha:act g) {op:UnOp} {x:aR} (h:j7 V g x fun x=>eU nt V d g (v_ op x) k):ck cf nt A V st d (.un op x) k:=by
 obtain⟨u,h1,h⟩:=cm hR ha h;obtain⟨r,h3,h4⟩:=bl hR ha h;obtain⟨c,h5,h6⟩:=Jk h3 h1;have hk:kind (.un op x)=.plan fun ρ=>fe (Lf op (ρ x)):=rfl
 exact aZ hk (by simp only [h5,fe]) (h4 _ h6)
theorem LW (hR:R A V st) (ha:act g) {c:IntKind} {x:aR} (h:j7 V g x fun x=>eU nt V d g (gy c x) k):ck cf nt A V st d (.conv c x) k:=by
 obtain⟨u,h1,h⟩:=cm hR ha h;obtain⟨r,h3,h4⟩:=bl hR ha h;unfold gy at h3;split at h3
 ·cases h3;generalize he:ev st.env x=p at h1;cases h1;exact aZ rfl (by simp only [wj,he]) (h4 _ (.i _ _))
 ·cases h3
theorem Kh {t:Dn} {neg:Bool} {x y r:TV} {a b:AV} (h:Pe t neg x y=some r) (ha:Can x a) (hb:Can y b):∃c,Jb t a b=some c/\r=.b (bif neg then !c else c):=by
 cases t with
 |one l=>
  simp only [Pe] at h;cases hx:ua x with
  |none=>rw [hx] at h;cases h
  |some x'=>
   rw [hx] at h;cases hy:ua y with
   |none=>rw [hy] at h;cases h
   |some y'=>
    rw [hy] at h;simp only at h;cases hc:Iv l x' y' with
    |none=>rw [hc] at h;cases h
    |some c=>rw [hc] at h;cases h;exact⟨c,by rw [jZ hx ha,jZ hy hb];exact hc,by cases neg<;>rfl⟩
 |agg ls=>
  cases ha<;>first|(cases h;done)|skip
  rename_i xs as hl hf hh;cases hb<;>first|(cases h;done)|skip
  rename_i ys bs hl' hf' hh';simp only [Pe] at h;cases hx:oR xs with
  |none=>rw [hx] at h;cases h
  |some x'=>
   rw [hx] at h;cases hy:oR ys with
   |none=>rw [hy] at h;cases h
   |some y'=>
    rw [hy] at h;simp only at h;cases hc:Dl ls x' y' with
    |none=>rw [hc] at h;cases h
    |some c=>rw [hc] at h;cases h;refine⟨c,?_,by cases neg<;>rfl⟩;rw [ng hx ⟨hl,hh⟩,ng hy ⟨hl',hh'⟩];exact hc
 |slice=>cases h
theorem ON (hR:R A V st) (ha:act g) {t:Dn} {neg:Bool} {x y:aR} (h:j7 V g x fun x=>j7 V g y fun y=>eU nt V d g (Pe t neg x y) k):ck cf nt A V st d (.eq t neg x y) k:=by
 obtain⟨u,h1,h⟩:=cm hR ha h;obtain⟨w,h2,h⟩:=cm hR ha h;obtain⟨r,h3,h4⟩:=bl hR ha h;have hk:kind (.eq t neg x y)=.plan fun ρ=>HB ρ t neg x y:=rfl
 obtain⟨c,h5,rfl⟩:=Kh h3 h1 h2;exact aZ hk (by simp only [HB,h5];cases neg<;>rfl) (h4 _ (.b _))
theorem OM (hR:R A V st) {neg:Bool} {x y:aR} (hy:Ic y=true) (h:j7 V none x fun x=>∃es:List TV,oD x=some es/\∀b:Bool,(es≠[]->b=neg)->dh nt V d none (.tr (.b b)) k):ck cf nt A V st d (.eq .slice neg x y) k:=by
 obtain⟨u,h1,es,h2,h3⟩:=cm (g:=none) hR trivial h;have hk:kind (.eq .slice neg x y)=.plan fun ρ=>HB ρ .slice neg x y:=rfl
 have hyv:ev st.env y=.ay:=by
  cases y with
  |c v=>cases v<;>first|rfl|cases hy
  |t n=>cases hy
 have hc:∃c,Jb .slice (ev st.env x) .ay=some c/\(es≠[]->c=false):=by
  generalize ev st.env x=a at h1;cases h1<;>first|(cases h2;done)|skip
  ·cases h2;exact⟨true,rfl,fun h=>absurd rfl h⟩
  ·exact⟨false,rfl,fun _=>rfl⟩
 obtain⟨c,h4,h5⟩:=hc;refine aZ hk (v:=.bool (bif neg then !c else c)) (by simp only [HB,hyv,h4];cases neg<;>rfl) (av hR (fun _=>.tr (.b _)) (h3 _ (fun hne=>?_)));rw [h5 hne];cases neg<;>rfl
theorem OH (hR:R A V st) (ha:act g) {mx:Bool} {xs:List aR} (h:Hg V g xs fun xs=>eU nt V d g (HR mx xs) k):ck cf nt A V st d (.DR mx xs) k:=by
 obtain⟨vs,h1,h⟩:=Ck hR ha h;obtain⟨r,h3,h4⟩:=bl hR ha h;unfold HR at h3;split at h3
 ·rename_i v l hl;split at h3
  ·rename_i r' hr;have e:=ng hl h1;have hk:kind (.DR mx xs)=.plan fun ρ=>Ba ρ mx xs:=rfl
   exact aZ hk (by simp only [Ba,e,hr,fe]) (h4 _ (vu h3))
  ·cases h3
 ·cases h3
theorem OJ (hR:R A V st) (ha:act g) {x i:aR} (h:j7 V g x fun x=>j7 V g i fun i=>eU nt V d g (oK x i) k):ck cf nt A V st d (.idx x i) k:=by
 obtain⟨u,h1,h⟩:=cm hR ha h;obtain⟨w,h2,h⟩:=cm hR ha h;obtain⟨r,h3,h4⟩:=bl hR ha h;unfold oK at h3;split at h3
 ·split at h3
  ·split at h3
   ·rename_i b hb;cases h3;generalize e1:ev st.env x=p at h1;generalize e2:ev st.env i=q at h2;cases h1;cases h2;exact aZ rfl (by simp only [Cs,e1,e2,hb]) (h4 _ (.i _ _))
   ·cases h3
  ·cases h3
 ·cases h3
theorem JN (hR:R A V st) (ha:act g) {x:aR} {lo hi:Option aR} (h:j7 V g x fun x=>va V g lo fun lo=>va V g hi fun hi=>eU nt V d g (Dw x lo hi) k):ck cf nt A V st d (.nO x lo hi) k:=by
 obtain⟨u,h1,h⟩:=cm hR ha h;obtain⟨l,h,hl⟩:=qg hR ha h;obtain⟨hv,h,hh⟩:=qg hR ha h;obtain⟨r,h3,h4⟩:=bl hR ha h;unfold Dw at h3;split at h3
 ·split at h3
  ·rename_i a b hab;cases h3;obtain⟨hb,_,_⟩:=Fw hl hh hab;generalize e1:ev st.env x=p at h1;cases h1;exact aZ rfl (by simp only [oh,e1,hb]) (h4 _ (.s _))
  ·cases h3
 ·cases h3
theorem OL (hR:R A V st) (ha:act g) {i:Nat} {x:aR} (h:j7 V g x fun x=>eU nt V d g (jw i x) k):ck cf nt A V st d (.ext i x) k:=by
 obtain⟨u,h1,h⟩:=cm hR ha h;obtain⟨r,h3,h4⟩:=bl hR ha h;unfold jw at h3;split at h3
 ·rename_i vs;generalize e1:ev st.env x=p at h1;cases h1 with
  |tp _ as hl hf hh=>
   have hlt:i < as.length:=by rw [←hl];exact(Uo.1 h3).1
   have hx:as[i]?=some as[i]:=Un hlt;exact aZ rfl (by simp only [Cu,e1,hx,fe]) (h4 _ (hh i r _ h3 hx))
 ·cases h3
def sc (t:TV):Bool:=match t with|.l _=>false|.a _=>false|.tp _=>false|.A8 _ _=>false|_=>true
theorem tX {d:Nat} {H:aU} {v a:AV} (h:bk (d+1) H v=some a) (hi:∀cs n c,a≠.ei cs n c) (ha:∀cs,a≠.agg cs) (ht:∀cs,a≠.iR cs):v=a:=by
 cases v with
 |ref id g off es len cap ex=>
  rw [gH] at h;split at h
  ·rw [cond_eq_ite] at h;split at h
   ·split at h
    ·split at h
     ·cases h;exact absurd rfl (hi _ _ _)
     ·cases h
    ·cases h
   ·cases h
  ·cases h
 |agg cs=>
  rw [gI] at h;split at h
  ·cases h;exact absurd rfl (ha _)
  ·cases h
 |iR cs=>
  rw [jU] at h;split at h
  ·cases h;exact absurd rfl (ht _)
  ·cases h
 |ptr=>cases h
 |nU=>cases h
 |_=>exact U0 h
theorem j5 {t:TV} {a v:AV} (h:Can t a) (hs:sc t=true) {d:Nat} {H:aU} (him:bk (d+1) H v=some a):own (d+1) H v=true:=by
 cases h<;>first|(cases hs;done)|skip
 all_goals
  have:=tX him (fun _ _ _ h=>by cases h) (fun _ h=>by cases h) (fun _ h=>by cases h);subst this;rfl
theorem De {ts:List TV} {as vs:List AV} {d:Nat} {H:aU} (f:TV->Bool) (ho:∀t a v,Can t a->f t=true->bk d H v=some a->own d H v=true) (hc:pY ts as) (hs:∀t∈ts,f t=true) (hm:fo (bk d H) vs=some as):cz (own d H) vs=true:=by
 rw [aX];intro v hv;obtain⟨j,hj⟩:=List.getElem?_of_mem hv;obtain⟨hl,hat⟩:=iU hm;obtain⟨a,ha,him⟩:=hat j v hj;have hlt:j < ts.length:=by rw [hc.1];exact(Uo.1 ha).1
 exact ho _ a v (hc.2 j _ a (Un hlt) ha) (hs _ (Ux hlt)) him
theorem zP {t:TV} {a v:AV} (h:Can t a) (hs:t.ED=true) {d:Nat} {H:aU} (him:bk (d+2) H v=some a):own (d+2) H v=true:=by
 cases h with
 |a ts as hl hf hh=>
  have hs':=aX.1 hs;cases v with
  |agg cs=>
   rw [gI] at him;split at him
   ·rename_i cs' hm;cases him;rw [ET];exact De sc (fun t a v h1 h2 h3=>j5 h1 h2 h3) ⟨hl,hh⟩ (fun t ht=>hs' t ht) hm
   ·cases him
  |ref id g off es len cap ex=>
   rw [gH] at him;split at him
   ·rw [cond_eq_ite] at him;split at him
    ·split at him
     ·split at him<;>cases him
     ·cases him
    ·cases him
   ·cases him
  |iR cs=>rw [jU] at him;split at him<;>cases him
  |_=>cases him
 |tp ts as hl hf hh=>cases hs
 |A8 x u hf h=>cases hs
 |nil=>cases hs
 |ei=>cases hs
 |i k n=>exact j5 (.i k n) rfl him
 |b x=>exact j5 (.b x) rfl him
 |s x=>exact j5 (.s x) rfl him
 |f n=>exact j5 (.f n) rfl him
 |np=>exact j5 .np rfl him
theorem GP {t:TV} {a v:AV} (h:Can t a) (hs:t.FI=true) {d:Nat} {H:aU} (him:bk (d+3) H v=some a):own (d+3) H v=true:=by
 cases h with
 |tp ts as hl hf hh=>
  have hs':=aX.1 hs;cases v with
  |iR cs=>
   rw [jU] at him;split at him
   ·rename_i cs' hm;cases him;rw [ES];exact De TV.ED (fun t a v h1 h2 h3=>zP h1 h2 h3) ⟨hl,hh⟩ (fun t ht=>hs' t ht) hm
   ·cases him
  |ref id g off es len cap ex=>
   rw [gH] at him;split at him
   ·rw [cond_eq_ite] at him;split at him
    ·split at him
     ·split at him<;>cases him
     ·cases him
    ·cases him
   ·cases him
  |agg cs=>rw [gI] at him;split at him<;>cases him
  |_=>cases him
 |a ts as hl hf hh=>exact zP (.a ts as hl hf hh) hs him
 |nil=>cases hs
 |ei=>cases hs
 |i k n=>exact j5 (.i k n) rfl him
 |b x=>exact j5 (.b x) rfl him
 |s x=>exact j5 (.s x) rfl him
 |f n=>exact j5 (.f n) rfl him
 |A8 x u hf h=>cases hs
 |np=>exact j5 .np rfl him
theorem Au {ts:List TV} {Q:TV->Prop} {f:Nat} {vs as':List AV} {H:aU} {nx:Nat} {p:Bool} (h:VS prog f ts fun r=>qz p r/\Q r) (h1:fo (bk deep H) vs=some as') (h2:pY ts as')
  (h3:cz AV.plain vs=true->as'=vs) (h4:p=true->cz AV.plain vs=true):∃v r,cR (a_ prog) f vs .borrow H nx=some (v,H,nx)/\Can r v/\Q r:=by
 obtain⟨v,H',nx',g1,a,g2,r,g3,g4,g5⟩:=h as' h2;by_cases hp:cz AV.plain vs=true
 ·have e:=h3 hp;subst e;refine⟨a,r,?_,g3,g5⟩;have hend:fU (some (v,H',nx')) false=some a:=by
   simp only [fU,cond_eq_ite];rw [if_neg (by decide)];by_cases hv:v.plain=true
   ·rw [if_pos hv];have:bk deep H' v=some v:=jY hv 27 _;rw [this] at g2;exact g2
   ·rw [if_neg hv];exact g2
  simp only [cR,hp,cond_true,g1,hend]
 ·have hpf:p=false:=by cases p with|true=>exact absurd (h4 rfl) hp|false=>rfl
  subst hpf;refine⟨a,r,?_,g3,g5⟩;have ho:own deep H' v=true:=GP (d:=27) g3 g4 g2;have hpb:cz AV.plain vs=false:=by simpa using hp
  simp only [cR,hpb,cond_false,h1,g1,fU,cond_true,ho,g2]
theorem El {ts:List TV} {Q:TV->Prop} {f:Nat} {vs as':List AV} {H:aU} {nx:Nat} (h:Qi prog f ts Q) (h1:fo (bk deep H) vs=some as') (h2:pY ts as')
  (h3:cz AV.plain vs=true->as'=vs):∃v r,cR (a_ prog) f vs .borrow H nx=some (v,H,nx)/\Can r v/\Q r:=by
 obtain⟨v,H',nx',g1,ho,a,g2,r,g3,g5⟩:=h as' h2;by_cases hp:cz AV.plain vs=true
 ·have e:=h3 hp;subst e;refine⟨a,r,?_,g3,g5⟩;have hend:fU (some (v,H',nx')) false=some a:=by
   simp only [fU,cond_eq_ite];rw [if_neg (by decide)];by_cases hv:v.plain=true
   ·rw [if_pos hv];have:bk deep H' v=some v:=jY hv 27 _;rw [this] at g2;exact g2
   ·rw [if_neg hv];exact g2
  simp only [cR,hp,cond_true,g1,hend]
 ·refine⟨a,r,?_,g3,g5⟩;have hpb:cz AV.plain vs=false:=by simpa using hp
  simp only [cR,hpb,cond_false,h1,g1,fU,cond_true,ho,g2]
theorem Bc {sh:Sh} (hR:R A V st) (ha:act g) {f:Nat} {args:List aR} (h:yR sh prog nt V d g f args k):∃v,cR (a_ prog) f (args.map (ev st.env)) .borrow st.H st.nx=some (v,st.H,st.nx)/\Next nt A V st d v st.H st.nx k:=by
 obtain⟨p,ts,as',hk,h1,h2,h3,h4⟩:=AB hR ha args _ h;cases g with
 |none=>
  dsimp only at hk;split at hk
  ·obtain⟨v,r,g1,g2,g3⟩:=Au (nx:=st.nx) hk h1 h2 h3 h4;exact⟨v,g1,av hR (fun _=>.tr g2) g3⟩
  ·obtain⟨v,r,g1,g2,g3⟩:=El (nx:=st.nx) hk h1 h2 h3;exact⟨v,g1,av hR (fun _=>.tr g2) g3⟩
 |some q=>
  obtain⟨c,bb⟩:=q;obtain⟨r,hg,hput⟩:=hk;have hc:c=.b bb:=ha;subst hc;have hg':VS prog f ts fun r'=>r'=r/\qz p r:=by unfold gV at hg;cases bb<;>exact hg
  have hg'':VS prog f ts fun r'=>qz p r'/\r'=r:=hg'.mono (fun r' ⟨e,hs⟩=>by subst e;exact⟨hs,rfl⟩)
  obtain⟨v,r',g1,g2,g3⟩:=Au (nx:=st.nx) hg'' h1 h2 h3 h4;subst g3;exact⟨v,g1,av hR (fun _=>.tr g2) hput⟩
end
end Go.Ax.V
namespace Go.Ax.V
section
variable {prog:Map ak} {nt:Nat}
section
variable {A:bt} {V:au} {st:St}
theorem EI (hR:R A V st) {n:Nat} {k:TV->Prop} (h:j7 V none (.t n) k):∃c a,st.env.get n=some a/\Can c a/\k c:=by
 obtain⟨c,h1,h2⟩:=cm (g:=none) hR trivial h;simp only [j7,eT] at h;split at h
 ·cases h
 ·rename_i e he;obtain⟨a,ha,_⟩:=hR.env n e he;rw [Br ha] at h1;exact⟨c,a,ha,h1,h2⟩
end
theorem j8 {A:bt} {V:au} {st:St} (h:R A V st) {t:Nat} {w:VV} {a:AV} (ha:st.env.get t=some a) (hw:VR A w a):R A (je V t w) st where
 env t' e he:=by
  simp only [je,Map.aa] at he;split at he
  ·rename_i ht;subst ht;cases he;exact⟨a,ha,fun _=>hw⟩
  ·exact h.env t' e he
 heap:=h.heap
 inj:=h.inj
 used:=h.used
 one:=h.one
 fresh:=h.fresh
 gh:=h.gh
theorem z_ {A0:bt} {Vc:au} {st:St} (hR:R A0 Vc st) {O:Nat} {o:VO} {k:au->Prop} {a:AV} {inn:Nat->Option AV} {I:Nat->Prop} (h:tQ Vc O o k) (hi1:∀j x,inn j=some x->x.one=true)
  (hO:∀A':bt,(∀O x,A0 O=some x->A' O=some x)->(∀j,A' (.i O 0 j)=inn j)->(∀v j,0 < v->A' (.i O v j)=none)->OR A' st.H o a/\jq A' O a o/\∀id,dX A' o a id->I id) (h1:a.one=true)
  (hI:∀id,I id->¬cY Vc A0 id):∃Vc' A',k Vc'/\R A' Vc' st/\(∀O' x,A0 O'=some x->A' O'=some x)/\A' O=some a/\Vc'.env=Vc.env/\(∀id,cY Vc' A' id->cY Vc A0 id\/I id)/\Vc'.H.get O=some o/\
   (∀(O':Nat) x,A' O'=some x->A0 O'=some x\/O'=O)/\(∀n x,A' n=some x->A0 n=some x\/Vc.us.get n.base=none):=by
 unfold tQ at h;split at h
 ·cases h
 rename_i hus;have hnone:∀n:TN,n.base=O->A0 n=none:=fun n hn=>hR.used n (by rw [hn];exact hus)
 have hA':=vz (a:=a) (inn:=inn) hnone;obtain⟨g1,g2,g3⟩:=hO (mb A0 O a inn) hA' (fun j=>Iq) (fun v j hv=>Fc hv);refine⟨_,mb A0 O a inn,h,KZ hR.env hR.heap hR.inj hR.used hR.one hR.fresh hR.gh hus h1 hi1 g1 g2 (fun id hi=>hI id (g3 id hi)),hA',nj,rfl,fun id ⟨O',o',x,ho,hx,hi⟩=>?_,by simp only [Map.aa,if_pos],fun O' x hx=>?_,fun n x hx=>?_⟩
 ·simp only [Map.aa] at ho;by_cases e:O'=O
  ·subst e;rw [if_pos rfl] at ho;cases ho;rw [nj] at hx;cases hx;exact .inr (g3 id hi)
  ·rw [if_neg e] at ho;have hx':A0 O'=some x:=by rwa [fy (n:=.s O') e] at hx
   rw [oS e (hR.gh O' _ _ ho hx')] at hi;exact .inl ⟨O',o',x,ho,hx',hi⟩
 ·by_cases e:O'=O
  ·exact .inr e
  ·exact .inl (by rwa [fy (n:=.s O') e] at hx)
 ·by_cases e:n.base=O
  ·exact .inr (by rw [e];exact hus)
  ·exact .inl (by rwa [fy e] at hx)
theorem CF {A0:bt} {Vc:au} {st:St} (hR:R A0 Vc st) {O:Nat} {o:VO} {k:au->Prop} {a:AV} (h:tQ Vc O o k) (hO:∀A':bt,(∀O x,A0 O=some x->A' O=some x)->OR A' st.H o a) (h1:a.one=true)
  (hid:∀id,cX a=some id->¬cY Vc A0 id) (hpl:o.pl=true:=by rfl):∃Vc' A',k Vc'/\R A' Vc' st/\(∀O' x,A0 O'=some x->A' O'=some x)/\A' O=some a/\Vc'.env=Vc.env/\(∀id,cY Vc' A' id->cY Vc A0 id\/cX a=some id)/\Vc'.H.get O=some o/\
   (∀(O':Nat) x,A' O'=some x->A0 O'=some x\/O'=O):=
 let ⟨Vc',A',g1,g2,g3,g4,g5,g6,g7,g8,_⟩:=z_ (inn:=fun _=>none) hR h (fun j x h=>by cases h) (fun A' h2 _ _=>⟨hO A' h2,uP hpl,fun id hi=>(dj hpl).1 hi⟩) h1 hid
 ⟨Vc',A',g1,g2,g3,g4,g5,g6,g7,g8⟩
def Told (H:aU) (sz:Nat) (es:List TV) (x:AV) (inn:Nat->Option AV) (I:Nat->Prop):Prop:=
 (∀j y,inn j=some y->y.one=true)/\∀(A':bt) (t:Nat),(∀j,A' (.i t 0 j)=inn j)->(∀v j,0 < v->A' (.i t v j)=none)->OR A' H (lI t sz es) x/\jq A' t x (lI t sz es)/\∀id,dX A' (lI t sz es) x id->I id
theorem lX {A0:bt} {Vc:au} {st:St} (hR:R A0 Vc st) {O sz:Nat} {es:List TV} {k:au->Prop} {a:AV} {inn:Nat->Option AV} {I:Nat->Prop} (h:tQ Vc O (lI O sz es) k) (hT:Told st.H sz es a inn I) (h1:a.one=true) (hI:∀id,I id->¬cY Vc A0 id) :
  ∃Vc' A',k Vc'/\R A' Vc' st/\(∀O' x,A0 O'=some x->A' O'=some x)/\A' O=some a/\Vc'.env=Vc.env/\(∀id,cY Vc' A' id->cY Vc A0 id\/I id)/\Vc'.H.get O=some (lI O sz es)/\
   (∀(O':Nat) x,A' O'=some x->A0 O'=some x\/O'=O)/\(∀n x,A' n=some x->A0 n=some x\/Vc.us.get n.base=none):=
 z_ hR h hT.1 (fun A' _ h2 h3=>hT.2 A' O h2 h3) h1 hI
structure Fy (V:au) (A:bt) (Vc:au) (A0:bt) (st:St):Prop where
 old:R A V st
 new:R A0 Vc st
 apart:∀id,cY V A id->¬cY Vc A0 id
def Dk (A0 A:bt):Prop:=∀(O:Nat) id,A0 O=some (.ptr id 0 0)->A O=some (.ptr id 0 0)
theorem Hx {sz:Nat} (h:Nat.blt sz Im=true) (hp:gp sz=true):0 < sz:=by unfold gp at hp;rw [h] at hp;simpa using hp
theorem Hy {sz:Nat} (h:Nat.blt sz Im=false) (hp:gp sz=true):0 < F1 sz/\J3 sz < F1 sz/\0 < Ja sz:=by unfold gp at hp;rw [h] at hp;simpa using hp
theorem GB {H:aU} {sz:Nat} {x:AV} {I:Nat->Prop} (hp:gp sz=true) (hx:x=.ay\/x=.ei [] 0 (some 0)):Told H sz [] x (fun _=>none) I:=by
 have hi:∀id,cX x=some id->False:=fun id h=>by rcases hx with rfl|rfl<;>cases h
 refine⟨fun j y h=>(by cases h),fun A' t h1 h2=>?_⟩;unfold lI;cases hb:Nat.blt sz Im with
 |true=>exact⟨⟨Hx hb hp,.inl ⟨rfl,hx⟩⟩,trivial,fun id h=>(hi id ((dj rfl).1 h)).elim⟩
 |false=>
  obtain⟨p1,p2,p3⟩:=Hy hb hp;refine⟨⟨p1,p2,p3,.inl ⟨rfl,hx⟩⟩,⟨rfl,h2,fun j x hj=>(by rw [h1] at hj;cases hj),fun j j' x x' id _ _ hj=>(by rw [h1] at hj;cases hj),fun j x id _ hj=>(by rw [h1] at hj;cases hj)⟩,fun id h=>?_⟩;rcases h with h|⟨j,y,_,hj,_⟩
  ·exact(hi id h).elim
  ·rw [h1] at hj;cases hj
theorem p_ {V:au} {A:bt} {Vc:au} {A0:bt} {st:St} (h:Fy V A Vc A0 st) {sz:Nat} {w:VV} {x:AV} (hw:AE A w x) {k:List TV->au->Prop} (hk:j3 V sz w k) :
  ∃es V',k es V'/\V'=nr V w/\Sub V V'/\(gp sz=true->∃inn,Told st.H sz es x inn fun id=>cY V A id/\¬cY V' A id)/\x.one=true/\(∀id,x≠.ptr id 0 0):=by
 cases w<;>first|(cases hk;done)|skip
 ·refine⟨[],V,hk,rfl,Sub.refl V,fun hz=>⟨_,GB hz hw⟩,?_,?_⟩<;>rcases hw with rfl|rfl<;>first|rfl|(intro id hi;cases hi)
 ·rename_i O;have hA:A O=some x:=hw;simp only [j3] at hk;split at hk
  ·rename_i z es ho;split at hk;rotate_left
   ·cases hk
   rename_i hb;obtain⟨rfl,hk2⟩:=bw hk;obtain⟨y,hy,hs⟩:=h.old.heap O _ ho;rw [hA] at hy;cases hy;refine⟨es,_,hk2,rfl,b5 V O,fun _=>⟨fun _=>none,fun j y h=>(by cases h),fun A' t _ _=>?_⟩,h.old.one O x hA,fun id e=>?_⟩
   ·unfold lI;rw [hb];refine⟨hs,trivial,fun id hi=>?_⟩;have hi':dX A (.gr z es) x id:=.inl ((dj rfl).1 hi);exact⟨⟨O,_,x,ho,hA,hi'⟩,ef h.old ho hA hi'⟩
   ·rcases hs.2 with ⟨_,e'|e'⟩|⟨_,_,_,_,e',_⟩<;>(rw [e] at e';cases e')
  ·rename_i K s io iz ver es ho;split at hk;rotate_left
   ·cases hk
   rename_i hsz;simp only [FZ,UN,UP,UQ] at hsz;obtain⟨hb,rfl,rfl,rfl⟩:=hsz;obtain⟨y,hy,hs⟩:=h.old.heap O _ ho;rw [hA] at hy;cases hy;obtain⟨rfl,hv1,hv0,hv2,hv3⟩:=h.old.gh O _ _ ho hA;refine⟨es,_,hk,rfl,b5 V K,fun _=>⟨fun j=>if j < es.length then A (.i K ver j) else none,fun j y hj=>?_,fun A' t h1 h2=>?_⟩,h.old.one K x hA,fun id e=>?_⟩
   ·simp only at hj;split at hj
    ·exact h.old.one _ _ hj
    ·cases hj
   ·unfold lI;rw [hb];have e1:∀j,j < es.length->A' (.i t 0 j)=A (.i K ver j):=fun j hj=>(h1 j).trans (if_pos hj)
    have e2:∀j y,A' (.i t 0 j)=some y->j < es.length/\A (.i K ver j)=some y:=fun j y hy=>by
     rw [h1] at hy;simp only at hy;split at hy
     ·rename_i hj;exact⟨hj,hy⟩
     ·cases hy
    obtain⟨q1,q2,q3,q4⟩:=hs;refine⟨⟨q1,q2,q3,q4.imp (fun h=>h) ?_⟩,⟨rfl,h2,fun j x hx=>?_,fun j j' x x' id _ _ hx hx'=>?_,fun j x id _ hx=>?_⟩,fun id hi=>?_⟩
    ·rintro⟨id,g,b,cells,rfl,p1,p2,p3⟩;refine⟨id,g,b,cells,rfl,p1,p2,p3.len,fun j e he=>?_⟩;obtain⟨ts,g1,g2,g3,y,g4,g5,g6⟩:=p3.el j e he;exact⟨ts,g1,g2,g3,y,g4,by rw [e1 j (Uo.1 he).1];exact g5,g6⟩
    ·exact(e2 j x hx).1
    ·exact hv2 j j' x x' id (by simp) (by simp) (e2 j x hx).2 (e2 j' x' hx').2
    ·exact hv3 j x id (by simp) (e2 j x hx).2
    ·have hi':dX A (.gn K (F1 sz) (J3 sz) (Ja sz) ver none es) x id:=by
      rcases hi with hi|⟨j,y,p1,p2,p3⟩
      ·exact .inl hi
      ·exact .inr ⟨j,y,by simp,(e2 j y p2).2,p3⟩
     exact⟨⟨K,_,x,ho,hA,hi'⟩,ef h.old ho hA hi'⟩
   ·rcases hs.2.2.2 with ⟨_,e'|e'⟩|⟨_,_,_,_,e',_⟩<;>(rw [e] at e';cases e')
  ·cases hk
theorem Fy.sub {V V':au} {A:bt} {Vc:au} {A0:bt} {st:St} (h:Fy V A Vc A0 st) (hs:Sub V V'):Fy V' A Vc A0 st:=
 ⟨hs.r h.old,h.new,fun id ho=>h.apart id (hs.own ho)⟩
theorem jX {l:List (Nat×Nat)}:∀{ovs:List (Nat×VV)},oE ovs l=true->∀j w,bU j ovs=some w->ey j l=true
 |[],h,j,w,ho=>by simp [bU] at ho
 |(i,w')::r,h,j,w,ho=>by
  simp only [oE,UN] at h;rw [bQ] at ho;split at ho
  ·rename_i e;subst e;exact h.1
  ·exact jX h.2 j w ho
theorem kf {O j:Nat}:∀{l:List (Nat×Nat)},bU j (lu O l)=if ey j l=true then some (.sl (AK O j)) else none
 |[]=>by simp [lu,bU,ey]
 |(i,z)::l=>by
  simp only [lu,bQ,kf (l:=l),ey,UO,UQ];by_cases e:i=j
  ·subst e;simp
  ·rw [if_neg e];by_cases hk:ey j l=true
   ·rw [if_pos hk,if_pos (.inr hk)]
   ·rw [if_neg hk,if_neg];rintro(h|h)
    ·exact e h.symm
    ·exact hk h
theorem qa {Rt:Type} {O:Nat} {st:St} {ovs:List (Nat×VV)} {cs:List AV} {A:bt} (hsl:∀j w,bU j ovs=some w->∃x,cs[j]?=some x/\AE A w x):∀(offs:List (Nat×Nat)) (V Vc:au) (A0:bt) (I:JL offs Rt) (k kc:Rt->au->Prop),
  (∀p∈offs,gp p.2=true)->Fy V A Vc A0 st->k6 V ovs offs I k->IW O offs Vc I kc->∃i V' Vc' A',k i V'/\kc i Vc'/\V'=od V ovs offs/\Fy V' A Vc' A' st/\Dk A' A0/\Sub V V'/\(∀O' x,A0 O'=some x->A' O'=some x)/\Vc'.env=Vc.env/\
   (∀id,cY Vc' A' id->cY Vc A0 id\/cY V A id)/\(∀j,ey j offs=true->∃x,cs[j]?=some x/\A' (AK O j)=some x)
 |[],V,Vc,A0,I,k,kc,hz,h,hk,hkc=>⟨I,V,Vc,A0,hk,hkc,rfl,h,fun _ _ h=>h,Sub.refl V,fun _ _ h=>h,rfl,fun id h=>.inl h,fun j hj=>by cases hj⟩
 |(off,sz)::offs,V,Vc,A0,I,k,kc,hz,h,hk,hkc=>by
  simp only [k6] at hk;split at hk
  ·rename_i w hw;obtain⟨x,hx,hs⟩:=hsl off w hw;obtain⟨es,V1,hk1,hV1,hs1,qxF,hone,hnp⟩:=p_ h hs hk;have qzr:=hkc es;obtain⟨inn,hT⟩:=qxF (hz (off,sz) UG);obtain⟨Vc1,A1,qzq,hR1,hA1,hAo,qxq,hown,_,qxA,_⟩:=lX h.new qzr hT hone (fun id hi=>h.apart id hi.1);have h1:Fy V1 A Vc1 A1 st:=⟨hs1.r h.old,hR1,fun id ho hc=>(hown id hc).elim (fun hc=>h.apart id (hs1.own ho) hc) (fun hi=>hi.2 ho)⟩;have hag:Dk A1 A0:=fun O' id hO'=>by
    rcases qxA O' _ hO' with hh|rfl
    ·exact hh
    ·rw [hAo] at hO';cases hO';exact absurd rfl (hnp id)
   obtain⟨i,V',Vc',A',g1,g2,g0,g3,g3a,g4,g5,g6,g7,g8⟩:=qa hsl offs V1 Vc1 A1 (I es) k kc (fun p hp=>hz p (UH _ hp)) h1 hk1 qzq;refine⟨i,V',Vc',A',g1,g2,by rw [g0,hV1];simp only [od,hw],g3,fun O' id hO'=>hag O' id (g3a O' id hO'),hs1.trans g4,fun O' y hy=>g5 _ _ (hA1 _ _ hy),g6.trans qxq,fun id ho=>?_,fun j hj=>?_⟩
   ·rcases g7 id ho with ho|ho
    ·rcases hown id ho with ho|hi
     ·exact .inl ho
     ·exact .inr hi.1
    ·exact .inr (hs1.own ho)
   ·simp only [ey,UO,UQ] at hj;rcases hj with rfl|hj
    ·exact⟨x,hx,g5 _ _ hAo⟩
    ·exact g8 j hj
  ·cases hk
theorem mY {st:St} {A:bt}:∀(J:List vY) (V Vc:au) (A0:bt) (I:JT J Prop) (k:au->Prop),J.all oV=true->Fy V A Vc A0 st->Dk A0 A->nT J V I->gU J Vc I k->
  ∃Vc' A',k Vc'/\R A' Vc' st/\(∀id,cY Vc' A' id->cY Vc A0 id\/cY V A id)/\Fy (jm J V) A Vc' A' st/\Sub V (jm J V)
 |[],V,Vc,A0,I,k,hp,h,hag,hk,hkc=>⟨Vc,A0,hkc hk,h.new,fun id h=>.inl h,h,Sub.refl V⟩
 |.tr t::J,V,Vc,A0,I,k,hp,h,hag,hk,hkc=>by rw [List.all_cons,UN] at hp;obtain⟨v,a,ha,hc,hk⟩:=EI h.old hk;obtain⟨Vc',A',g1,g2,g3,g4⟩:=mY J V _ A0 (I v) k hp.2 ⟨h.old,j8 h.new ha (.tr hc),h.apart⟩ hag hk (hkc v);exact⟨Vc',A',g1,g2,g3,g4⟩
 |.sl t sz::J,V,Vc,A0,I,k,hp,h,hag,hk,hkc=>by
  rw [List.all_cons,UN] at hp;have hz:gp sz=true:=hp.1;have hk':eT V none (.t t) fun w=>j3 V sz w fun es V'=>nT J V' (I es):=hk
  simp only [eT] at hk';split at hk'
  ·cases hk'
  rename_i e he;obtain⟨a,ha,hv⟩:=h.old.env t e he;split at hk';rotate_left
  ·cases hk'
  rename_i hg;have hv':=hv (fun c bb hh=>by rw [hg] at hh;cases hh);have hsl:AE A e.v a:=by
   have hne:=hk';unfold j3 at hne;generalize e.v=w at hv' hne;cases hv'<;>first|(cases hne;done)|skip
   ·exact .inl rfl
   ·exact .inr rfl
   ·assumption
  obtain⟨es,V1,hk1,hV1,hs1,qxF,hone,hnp⟩:=p_ h hsl hk';have qzr:=hkc es;obtain⟨inn,hT⟩:=qxF hz;obtain⟨Vc1,A1,qzq,hR1,hA1,hAo,qxq,hown,_,qxA,_⟩:=lX h.new qzr hT hone (fun id hi=>h.apart id hi.1);have h1:Fy V1 A (je Vc1 t (.sl t)) A1 st:=⟨hs1.r h.old,j8 hR1 ha (.sl hAo),fun id ho hc=>(hown id hc).elim (fun hc=>h.apart id (hs1.own ho) hc) (fun hi=>hi.2 ho)⟩;have qjS:Dk A1 A:=fun O' id hO'=>by
   rcases qxA O' _ hO' with hh|rfl
   ·exact hag O' id hh
   ·rw [hAo] at hO';cases hO';exact absurd rfl (hnp id)
  obtain⟨Vc',A',g1,g2,g3,g4,g5⟩:=mY J V1 _ A1 (I es) k hp.2 h1 qjS hk1 qzq;have hvv:c9 V (.t t)=e.v:=by simp only [c9,he]
  have qxb:jm (.sl t sz::J) V=jm J V1:=by simp only [jm];rw [hvv,hV1]
  refine⟨Vc',A',g1,g2,fun id ho=>?_,by rw [qxb];exact g4,by rw [qxb];exact hs1.trans g5⟩;rcases g3 id ho with ho|ho
  ·rcases hown id ho with ho|hi
   ·exact .inl ho
   ·exact .inr hi.1
  ·exact .inr (hs1.own ho)
 |.pt t O off::J,V,Vc,A0,I,k,hp,h,hag,hk,hkc=>by
  rw [List.all_cons,UN] at hp;simp only [gU] at hkc;split at hkc;rotate_left
  ·cases hkc
  rename_i v ovs hO;obtain⟨y,hy,id,cs,ts,rfl,hH,hc⟩:=h.new.heap O _ hO;have qjQ:=hag O id hy;have hk':eT V none (.t t) fun w=>match w with
   |.ptr O' off'=>same O' O (same off' off (nT J V I))
   |_=>False:=hk
  simp only [eT] at hk';split at hk'
  ·cases hk'
  rename_i e he;obtain⟨a,ha,hv⟩:=h.old.env t e he;split at hk';rotate_left
  ·cases hk'
  rename_i hg;have hv':=hv (fun c bb hh=>by rw [hg] at hh;cases hh);generalize e.v=w at hv' hk';cases hv'<;>first|(cases hk';done)|skip
  rename_i O' off' id' hO';obtain⟨rfl,hk'⟩:=bw hk';obtain⟨rfl,hk'⟩:=bw hk';rw [qjQ] at hO';cases hO';obtain⟨Vc',A',g1,g2,g3,g4⟩:=mY J V _ A0 I k hp.2 ⟨h.old,j8 h.new ha (.ptr hy),h.apart⟩ hag hk' hkc;exact⟨Vc',A',g1,g2,g3,g4⟩
 |.ps t t0::J,V,Vc,A0,I,k,hp,h,hag,hk,hkc=>by
  rw [List.all_cons,UN] at hp;have hk':eT V none (.t t0) fun w0=>eT V none (.t t) fun w=>match w0 with
   |.sl O=>(match w with
    |.sl O'=>same O' O (nT J V I)
    |_=>False)
   |_=>False:=hk
  simp only [eT] at hk';split at hk'
  ·cases hk'
  rename_i e0 he0;obtain⟨a0,ha0,hv0⟩:=h.old.env t0 e0 he0;split at hk';rotate_left
  ·cases hk'
  rename_i hg0;have qjk:=hv0 (fun c bb hh=>by rw [hg0] at hh;cases hh);split at hk'
  ·cases hk'
  rename_i e he;obtain⟨a,ha,hv⟩:=h.old.env t e he;split at hk';rotate_left
  ·cases hk'
  rename_i hg;have hv':=hv (fun c bb hh=>by rw [hg] at hh;cases hh);generalize e0.v=w0 at qjk hk';cases qjk<;>first|(cases hk';done)|skip
  rename_i O hO0;generalize e.v=w at hv' hk';cases hv'<;>first|(cases hk';done)|skip
  rename_i O' hO;have hk2:same O' O (nT J V I):=hk';clear hk';obtain⟨rfl,hk'⟩:=bw hk2;rw [hO0] at hO;cases hO;simp only [gU] at hkc;split at hkc;rotate_left
  ·cases hkc
  rename_i c hc;split at hkc;rotate_left
  ·cases hkc
  rename_i hcg;split at hkc;rotate_left
  ·cases hkc
  rename_i P hcv;obtain⟨a',ha',hw⟩:=h.new.env t0 c hc;have hw':=hw (fun c bb hh=>by rw [hcg] at hh;cases hh);rw [ha0] at ha';cases ha';rw [hcv] at hw';obtain⟨Vc',A',g1,g2,g3,g4⟩:=mY J V _ A0 I k hp.2 ⟨h.old,j8 h.new ha hw',h.apart⟩ hag hk' hkc;exact⟨Vc',A',g1,g2,g3,g4⟩
 |.ob O offs::J,V,Vc,A0,I,k,hp,h,hag,hk,hkc=>by
  rw [List.all_cons,UN] at hp;have hz:∀p∈offs,gp p.2=true:=fun p hm=>UM.1 hp.1 p hm
  simp only [nT] at hk;split at hk;rotate_left
  ·cases hk
  rename_i v ovs hO;split at hk;rotate_left
  ·cases hk
  rename_i hkeys;obtain⟨y,hy,id,cs,ts,rfl,hH,hc⟩:=h.old.heap O _ hO;have hsl:∀j w,bU j ovs=some w->∃x,cs[j]?=some x/\AE A w x:=fun j w hj=>by have hlt:=hc.keys j w hj;have hx:cs[j]?=some (cs[j]'(by rw [←hc.len];exact hlt)):=Un _;have:=hc.at_ j _ _ (Un hlt) hx;rw [hj] at this;exact⟨_,hx,this⟩
  have qxi:=ef h.old hO hy (id:=id) (.inl rfl);have qxu:cY V A id:=⟨O,_,_,hO,hy,.inl rfl⟩;have h1:Fy (bT V O) A Vc A0 st:=h.sub (b5 V O);obtain⟨i,V',Vc',A',g1,g2,g0,g3,g3a,g4,g5,g6,g7,g8⟩:=qa hsl offs (bT V O) Vc A0 (I v) (fun I V'=>nT J V' I) _ hz h1 hk (hkc v);have hor:∀A3:bt,(∀O x,A' O=some x->A3 O=some x)->OR A3 st.H (.ob v (lu O offs)) (.ptr id 0 0):=by
   intro A3 hA3;refine⟨id,cs,ts,rfl,hH,⟨hc.cells,hc.len,fun j w hj=>?_,fun j t x ht hx=>?_⟩⟩
   ·rw [kf] at hj;split at hj
    ·rename_i hh;obtain⟨x,hx,_⟩:=g8 j hh;rw [hc.len];exact(Uo.1 hx).1
    ·cases hj
   ·rw [kf];by_cases hh:ey j offs=true
    ·rw [if_pos hh];obtain⟨x',hx',hA'⟩:=g8 j hh;rw [hx] at hx';cases hx';exact hA3 _ _ hA'
    ·rw [if_neg hh];have:=hc.at_ j t x ht hx;cases ho:bU j ovs with
     |none=>rw [ho] at this;exact this
     |some w=>exact absurd (jX hkeys j w ho) hh
  obtain⟨Vc2,A2,p1,p2,p3,p4,p5,p6,p7,p8⟩:=CF g3.new (a:=.ptr id 0 0) g2 hor rfl (fun id' hi=>by
   cases hi;intro ho;rcases g7 _ ho with ho|ho
   ·exact h.apart _ qxu ho
   ·exact qxi ho)
  have h2:Fy V' A Vc2 A2 st:=⟨g3.old,p2,fun id' ho hc'=>by
   rcases p6 id' hc' with hc'|hi
   ·exact g3.apart id' ho hc'
   ·cases hi;exact qxi (g4.own ho)⟩
  have qjR:Dk A2 A:=fun O' id' hO'=>by
   rcases p8 O' _ hO' with hh|rfl
   ·exact hag O' id' (g3a O' id' hh)
   ·rw [p4] at hO';cases hO';exact hy
  obtain⟨Vc3,A3,q1,q2,q3,q4,q5⟩:=mY J V' Vc2 A2 i k hp.2 h2 qjR g1 p1;have qxb:jm (.ob O offs::J) V=jm J V':=by simp only [jm,hO];rw [g0]
  refine⟨Vc3,A3,q1,q2,fun id' ho=>?_,by rw [qxb];exact q4,by rw [qxb];exact((b5 V O).trans g4).trans q5⟩;rcases q3 id' ho with ho|ho
  ·rcases p6 id' ho with ho|hi
   ·rcases g7 id' ho with ho|ho
    ·exact .inl ho
    ·exact .inr ((b5 V O).own ho)
   ·cases hi;exact .inr qxu
  ·exact .inr ((b5 V O).own (g4.own ho))
 |.st t offs::J,V,Vc,A0,I,k,hp,h,hag,hk,hkc=>by
  rw [List.all_cons,UN] at hp;have hz:∀p∈offs,gp p.2=true:=fun p hm=>UM.1 hp.1 p hm
  have hk':eT V none (.t t) fun w=>match w with
   |.st v ovs=>(match oE ovs offs with
    |true=>k6 (R:=JT J Prop) V ovs offs (I v) fun I V'=>nT J V' I
    |false=>False)
   |_=>False:=hk
  simp only [eT] at hk';split at hk'
  ·cases hk'
  rename_i e he;obtain⟨a,ha,hv⟩:=h.old.env t e he;split at hk';rotate_left
  ·cases hk'
  rename_i hg;have hv':=hv (fun c bb hh=>by rw [hg] at hh;cases hh);have hvv:c9 V (.t t)=e.v:=by simp only [c9,he]
  generalize e.v=w at hv' hk' hvv;cases hv'<;>first|(cases hk';done)|skip
  rename_i v ovs cs ts hts hc;simp only at hk';split at hk';rotate_left
  ·cases hk'
  rename_i hkeys;have hsl:∀j w,bU j ovs=some w->∃x,cs[j]?=some x/\AE A w x:=fun j w hj=>by have hlt:=hc.keys j w hj;have hx:cs[j]?=some (cs[j]'(by rw [←hc.len];exact hlt)):=Un _;have:=hc.at_ j _ _ (Un hlt) hx;rw [hj] at this;exact⟨_,hx,this⟩
  obtain⟨i,V',Vc',A',g1,g2,g0,g3,g3a,g4,g5,g6,g7,g8⟩:=qa hsl offs V Vc A0 (I v) (fun I V'=>nT J V' I) _ hz h hk' (hkc v);have hcr:bq A' v (lu t offs) cs ts:=by
   refine⟨hc.cells,hc.len,fun j w hj=>?_,fun j t' x ht hx=>?_⟩
   ·rw [kf] at hj;split at hj
    ·rename_i hh;obtain⟨x,hx,_⟩:=g8 j hh;rw [hc.len];exact(Uo.1 hx).1
    ·cases hj
   ·rw [kf];by_cases hh:ey j offs=true
    ·rw [if_pos hh];obtain⟨x',hx',hA'⟩:=g8 j hh;rw [hx] at hx';cases hx';exact hA'
    ·rw [if_neg hh];have:=hc.at_ j t' x ht hx;cases ho:bU j ovs with
     |none=>rw [ho] at this;exact this
     |some w=>exact absurd (jX hkeys j w ho) hh
  obtain⟨Vc3,A3,q1,q2,q3,q4,q5⟩:=mY J V' (je Vc' t (.st v (lu t offs))) A' i k hp.2 ⟨g3.old,j8 g3.new ha (.st hts hcr),g3.apart⟩ (fun O' id' hO'=>hag O' id' (g3a O' id' hO')) g1 g2;have qxb:jm (.st t offs::J) V=jm J V':=by simp only [jm,hvv];rw [g0]
  refine⟨Vc3,A3,q1,q2,fun id' ho=>?_,by rw [qxb];exact q4,by rw [qxb];exact g4.trans q5⟩;rcases q3 id' ho with ho|ho
  ·rcases g7 id' ho with ho|ho
   ·exact .inl ho
   ·exact .inr ho
  ·exact .inr (g4.own ho)
theorem R.zero {A:bt} {V:au} {st:St} (h:R A V st):R (fun _=>none) V0 st:=
 ⟨fun t e he=>(by cases he),fun O o ho=>(by cases ho),fun O O' o o' a a' id ho=>(by cases ho),fun _ _=>rfl,fun O a ha=>(by cases ha),h.fresh,fun O o a ho=>(by cases ho)⟩
theorem ou {A:bt} {V:au} {st:St} (h:R A V st) {J:List vY} {I:JT J Prop} {k:au->Prop} (hp:J.all oV=true) (hk:nT J V I) (hkc:gU J V0 I k):∃Vc A',k Vc/\R A' Vc st/\Fr V A st.H st.nx Vc A' st.H st.nx:=by
 have jW:∀id,¬cY V0 (fun _=>none) id:=fun id ⟨O,o,a,ho,_⟩=>by cases ho
 obtain⟨Vc,A',g1,g2,g3,_⟩:=mY J V V0 (fun _=>none) I k hp ⟨h,h.zero,fun id _ hc=>jW id hc⟩ (fun O id hO=>by cases hO) hk hkc;exact⟨Vc,A',g1,g2,⟨U3 _,fun _ _ _=>rfl,fun id ho=>(g3 id ho).elim (fun h=>absurd h (jW id)) .inl⟩⟩
end
end Go.Ax.V
namespace Go.Ax.V
def Ew (prog:Map ak) (f np:Nat) (Jout:List vY) (Q:JT Jout Prop) (Vc:au):Prop:=
 ∀(A:bt) (as:List AV) (H:aU) (nx:Nat),as.length=np->R A Vc ⟨dO as 0 .leaf,H,nx⟩->
  ∃v H' nx' A' V',a_ prog f as H nx=some (v,H',nx')/\R A' V' ⟨(dO as 0 .leaf).put (some v) np,H',nx'⟩/\nT Jout V' Q/\Fr Vc A H nx V' A' H' nx'
def BI (prog:Map ak) (f np:Nat) (Jin Jout:List vY) (Q:JT Jout Prop):JT Jin Prop:=KS Jin V0 (Ew prog f np Jout Q)
def S3 (prog:Map ak) (f:Nat) (T:au->List VV->(VV->au->Prop)->Prop):Prop:=
 ∀(A:bt) (V:au) (st:St) (ws:List VV) (as:List AV) (k:VV->au->Prop),R A V st->ws.length=as.length->(∀(j:Nat) w a,ws[j]?=some w->as[j]?=some a->VR A w a)->T V ws k->
  ∃v H' nx' A' V' w,a_ prog f as st.H st.nx=some (v,H',nx')/\R A' V' ⟨st.env,H',nx'⟩/\VR A' w v/\Ext V A V' A'/\Fr V A st.H st.nx V' A' H' nx'/\k w V'
structure uw (prog:Map ak) (sh:Sh):Prop where
 vs:sh.vs=BI prog
 inl:∀f T,sh.inl f=some T->S3 prog f T
theorem Aa {n:Nat}:∀{l:List Nat},qS n l=true↔n∈l
 |[]=>by simp [qS]
 |m::l=>by simp [qS,Aa (l:=l)]
theorem qp {us:Map Unit} {O:Nat} (h:oQ us O=true):us.get O=none:=by
 unfold oQ at h;split at h
 ·cases h
 ·assumption
theorem ot {V:au} {O:Nat} {o:VO} {k:au->Prop} (hf:oQ V.us O=true) (h:k (jz V O o)):tQ V O o k:=by have hn:=qp hf;unfold tQ;rw [hn];exact h
def Gm (V V':au):Prop:=∀T,V.us.get T=some ()->V'.us.get T=some ()/\V'.H.get T=V.H.get T
theorem vk {V:au} {O:Nat} {o:VO} (hf:oQ V.us O=true):Gm V (jz V O o):=by
 intro T hT;have hne:T≠O:=by rintro rfl;rw [qp hf] at hT;cases hT
 exact⟨by simp only [jz,Map.aa,if_neg hne];exact hT,by simp only [jz,Map.aa,if_neg hne]⟩
theorem Gm.trans {V V1 V2:au} (h:Gm V V1) (h':Gm V1 V2):Gm V V2:=fun T hT=>let ⟨a,b⟩:=h T hT;let ⟨c,d⟩:=h' T a;⟨c,d.trans b⟩
theorem BH {Rt:Type} {O:Nat}:∀(offs:List (Nat×Nat)) (V:au) (us:Map Unit) (k:au->Rt) (kk:Rt->au->Prop),OG O offs V.us=some us->(∀V',V'.us=us->Gm V V'->kk (k V') V')->IW O offs V (Qw O offs V k) kk
 |[],V,us,k,kk,h,hk=>by cases h;exact hk V rfl (fun T hT=>⟨hT,rfl⟩)
 |(off,sz)::offs,V,us,k,kk,h,hk=>by
  simp only [OG,cond_eq_ite] at h;split at h
  ·rename_i hf;intro es;refine ot hf ?_;exact BH offs _ us k kk h (fun V' h1 h2=>hk V' h1 ((vk hf).trans h2))
  ·cases h
theorem qy:∀(J:List vY) (V:au) (obs:List Nat) (k:au->Prop),FR J V.us obs=true->(∀O∈obs,V.us.get O=some ()/\∃v ov,V.H.get O=some (.ob v ov))->gU J V (KS J V k) k
 |[],V,obs,k,h,ho=>fun hk=>hk
 |.tr t::J,V,obs,k,h,ho=>fun v=>qy J (je V t (.tr v)) obs k h ho
 |.sl t sz::J,V,obs,k,h,ho=>by simp only [FR,UN] at h;intro es;refine ot h.1 ?_;refine qy J _ obs k h.2 (fun O hO=>?_);obtain⟨h1,v,ov,h2⟩:=ho O hO;obtain⟨h3,h4⟩:=vk (o:=lI t sz es) h.1 O h1;exact⟨h3,v,ov,by rw [←h2];exact h4⟩
 |.pt t O off::J,V,obs,k,h,ho=>by simp only [FR,UN] at h;obtain⟨h1,v,ov,h2⟩:=ho O (Aa.1 h.1);simp only [gU,h2];exact qy J (je V t (.ptr O off)) obs k h.2 ho
 |.ob O offs::J,V,obs,k,h,ho=>by
  simp only [FR] at h;split at h
  ·rename_i us hus;rw [UN] at h;intro v;refine BH offs V us _ _ hus (fun V' hu hkp=>?_);have hf:oQ V'.us O=true:=by rw [hu];exact h.1
   refine ot hf ?_;refine qy J _ (O::obs) k (by show FR J (V'.us.put (some ()) O) (O::obs)=true;rw [hu];exact h.2) (fun O' hO'=>?_);rcases UI.1 hO' with rfl|hO'
   ·exact⟨by simp only [jz,Map.aa,if_pos],v,lu O' offs,by simp only [jz,Map.aa,if_pos]⟩
   ·obtain⟨h1,v',ov,h2⟩:=ho O' hO';obtain⟨h3,h4⟩:=(hkp.trans (vk (o:=.ob v (lu O offs)) hf)) O' h1;exact⟨h3,v',ov,by rw [←h2];exact h4⟩
  ·cases h
 |.st t offs::J,V,obs,k,h,ho=>by
  simp only [FR] at h;split at h
  ·rename_i us hus;intro v;refine BH offs V us _ _ hus (fun V' hu hkp=>?_);refine qy J _ obs k (by show FR J V'.us obs=true;rw [hu];exact h) (fun O' hO'=>?_);obtain⟨h1,v',ov,h2⟩:=ho O' hO';obtain⟨h3,h4⟩:=hkp O' h1;exact⟨h3,v',ov,by rw [←h2];exact h4⟩
  ·cases h
 |.ps t t0::J,V,obs,k,h,ho=>by cases h
section
variable {prog:Map ak} {nt:Nat}
theorem u7 {A:bt} {V:au} {st:St} (hR:R A V st) {O:Nat} {o:VO} {a:AV} (hA:A O=some a) (hO:OR A st.H o a) (hid:∀id,cX a=some id->¬cY V A id) (hpl:o.pl=true:=by rfl) :
  R A (bu V O o) st/\∀id,cY (bu V O o) A id->cY V A id\/cX a=some id:=by
 refine⟨⟨hR.env,fun O' o' ho=>?_,fun O1 O2 o1 o2 a1 a2 id ho1 ho2 ha1 ha2 hi1 hi2=>?_,hR.used,hR.one,hR.fresh,fun O' o' x ho hx=>?_⟩,fun id ⟨O',o',x,ho,hx,hi⟩=>?_⟩
 ·simp only [bu,Map.aa] at ho;split at ho
  ·rename_i e;subst e;cases ho;exact⟨a,hA,hO⟩
  ·exact hR.heap O' o' ho
 ·simp only [bu,Map.aa] at ho1 ho2;by_cases e1:O1=O
  ·by_cases e2:O2=O
   ·rw [e1,e2]
   ·subst e1;rw [if_neg e2] at ho2;rw [if_pos rfl] at ho1;cases ho1;rw [hA] at ha1;cases ha1;exact absurd ⟨O2,_,a2,ho2,ha2,hi2⟩ (hid id ((dj hpl).1 hi1))
  ·rw [if_neg e1] at ho1;by_cases e2:O2=O
   ·subst e2;rw [if_pos rfl] at ho2;cases ho2;rw [hA] at ha2;cases ha2;exact absurd ⟨O1,_,a1,ho1,ha1,hi1⟩ (hid id ((dj hpl).1 hi2))
   ·rw [if_neg e2] at ho2;exact hR.inj O1 O2 _ _ a1 a2 id ho1 ho2 ha1 ha2 hi1 hi2
 ·simp only [bu,Map.aa] at ho;split at ho
  ·rename_i e;subst e;cases ho;exact uP hpl
  ·exact hR.gh O' o' x ho hx
 ·simp only [bu,Map.aa] at ho;by_cases e:O'=O
  ·subst e;rw [if_pos rfl] at ho;cases ho;rw [hA] at hx;cases hx;exact .inr ((dj hpl).1 hi)
  ·rw [if_neg e] at ho;exact .inl ⟨O',o',x,ho,hx,hi⟩
structure BM (V2:au) (A2:bt) (st2:St) (Vr:au) (A:bt) (st:St):Prop where
 old:R A2 V2 st2
 new:R A Vr st
 H:st.H=st2.H
 nx:st.nx=st2.nx
 apart:∀id,cY V2 A2 id->¬cY Vr A id
theorem rz {V2 Vr:au} {A2 A:bt} {st2 st:St} (h:BM V2 A2 st2 Vr A st) {sz:Nat} {w:VV} {x:AV} (hw:AE A2 w x) {k:List TV->au->Prop} (hk:j3 V2 sz w k) :
  ∃es V',k es V'/\Sub V2 V'/\(gp sz=true->∃inn,Told st.H sz es x inn fun id=>cY V2 A2 id/\¬cY V' A2 id)/\x.one=true:=by
 obtain⟨es,V',h1,_,h2,h3,h4,h5⟩:=p_ (Vc:=V0) (A0:=fun _=>none) (st:=st2) ⟨h.old,h.old.zero,fun id _ ⟨O,o,a,ho,_⟩=>(by cases ho)⟩ hw hk;exact⟨es,V',h1,h2,by rw [h.H];exact h3,h4⟩
theorem rN {Rt:Type} {d:Nat} {st2 st:St} {ovs:List (Nat×VV)} {cs:List AV} {A2:bt} (hsl:∀j w,bU j ovs=some w->∃x,cs[j]?=some x/\AE A2 w x):∀(offs:List (Nat×Nat)) (V2 Vr:au) (A:bt) (us:Map Unit) (kc:au->Rt) (k:Rt->au->Prop),
  (∀p∈offs,gp p.2=true)->BM V2 A2 st2 Vr A st->DO d offs Vr.us=some us->k6 V2 ovs offs (IC d offs Vr kc) k->
  ∃V2' Vr' A',k (kc Vr') V2'/\BM V2' A2 st2 Vr' A' st/\Sub V2 V2'/\Vr'.us=us/\(∀O x,A O=some x->A' O=some x)/\(∀id,cY Vr' A' id->cY Vr A id\/cY V2 A2 id)/\(∀j,ey j offs=true->∃x,cs[j]?=some x/\A' (ru d j)=some x)/\
   (∀n x,A' n=some x->A n=some x\/Vr.us.get n.base=none)/\kX Vr Vr'
 |[],V2,Vr,A,us,kc,k,hz,h,hus,hk=>by cases hus;exact⟨V2,Vr,A,hk,h,Sub.refl V2,rfl,fun _ _ h=>h,fun id h=>.inl h,fun j hj=>(by cases hj),fun _ _ h=>.inl h,kX.refl Vr⟩
 |(off,sz)::offs,V2,Vr,A,us,kc,k,hz,h,hus,hk=>by
  simp only [DO,cond_eq_ite] at hus;split at hus;rotate_left
  ·cases hus
  rename_i hf;simp only [k6] at hk;split at hk;rotate_left
  ·cases hk
  rename_i w hw;obtain⟨x,hx,hs⟩:=hsl off w hw;obtain⟨es,V1,hk1,hs1,qxF,hone⟩:=rz h hs hk;obtain⟨inn,hT⟩:=qxF (hz (off,sz) UG);obtain⟨Vr1,A1,hV1,hR1,hA1,hAo,qxq,hown,_,qxA,hnew⟩:=lX (k:=fun V'=>V'=jz Vr (ru d off) (lI (ru d off) sz es)) h.new (ot hf rfl) hT hone (fun id hi=>h.apart id hi.1);subst hV1;have hb:BM V1 A2 st2 (jz Vr (ru d off) (lI (ru d off) sz es)) A1 st:=⟨hs1.r h.old,hR1,h.H,h.nx,fun id ho hc=>(hown id hc).elim (fun hc=>h.apart id (hs1.own ho) hc) (fun hi=>hi.2 ho)⟩;obtain⟨V2',Vr',A',g1,g2,g3,g4,g5,g6,g7,g8,g9⟩:=rN hsl offs V1 _ A1 us kc k (fun p hp=>hz p (UH _ hp)) hb hus hk1;have hev:kX Vr (jz Vr (ru d off) (lI (ru d off) sz es)):=kX.name (qp hf);refine⟨V2',Vr',A',g1,g2,hs1.trans g3,g4,fun O y hy=>g5 _ _ (hA1 _ _ hy),fun id ho=>?_,fun j hj=>?_,fun n x hx=>(g8 n x hx).elim (fun h=>hnew n x h) (fun h=>.inr (hev.us _ h)),hev.trans g9⟩
  ·rcases g6 id ho with ho|ho
   ·rcases hown id ho with ho|hi
    ·exact .inl ho
    ·exact .inr hi.1
   ·exact .inr (hs1.own ho)
  ·simp only [ey,UO,UQ] at hj;rcases hj with rfl|hj
   ·exact⟨x,hx,g5 _ _ hAo⟩
   ·exact g7 j hj
theorem tn {d j:Nat}:∀{l:List (Nat×Nat)},bU j (wT d l)=if ey j l=true then some (.sl (ru d j)) else none
 |[]=>by simp [wT,bU,ey]
 |(i,z)::l=>by
  simp only [wT,bQ,tn (l:=l),ey,UO,UQ];by_cases e:i=j
  ·subst e;simp
  ·rw [if_neg e];by_cases hk:ey j l=true
   ·rw [if_pos hk,if_pos (.inr hk)]
   ·rw [if_neg hk,if_neg];rintro(h|h)
    ·exact e h.symm
    ·exact hk h
theorem EK {A:bt} {V:au} {st:St} (hR:R A V st) {n:Nat} {k:VV->Prop} (h:eT V none (.t n) k):∃e a,V.env.get n=some e/\st.env.get n=some a/\VR A e.v a/\k e.v:=by
 simp only [eT] at h;split at h
 ·cases h
 rename_i e he;obtain⟨a,ha,hv⟩:=hR.env n e he;split at h
 ·rename_i hg;exact⟨e,a,he,ha,hv (fun c bb hh=>by rw [hg] at hh;cases hh),h⟩
 ·cases h
theorem E7 {d:Nat} {offs:List (Nat×Nat)} {ks:List PK} {w:VV} {ws:List VV} {ims:List M_} (h:di d (.ob offs::ks) (w::ws)=some ims):∃O l,w=.ptr O 0/\di d ks ws=some l/\ims=.ob O d::.pt::l:=by
 cases w with
 |ptr O off=>
  cases off with
  |zero=>
   simp only [di] at h;split at h
   ·rename_i l hl;cases h;exact⟨O,l,rfl,hl,rfl⟩
   ·cases h
  |succ n=>simp [di] at h
 |_=>simp [di] at h
theorem E6 {d sz:Nat} {ks:List PK} {w:VV} {ws:List VV} {ims:List M_} (h:di d (.sl sz::ks) (w::ws)=some ims):∃O l,w=.sl O/\di d ks ws=some l/\ims=.sl O::l:=by
 cases w with
 |sl O=>
  simp only [di] at h;split at h
  ·rename_i l hl;cases h;exact⟨O,l,rfl,hl,rfl⟩
  ·cases h
 |_=>simp [di] at h
theorem Bs {V:au} {t:Nat} {w:VV}:kX V (je V t w):=kX.Nd rfl (fun _ _ h=>h)
theorem xe {np d:Nat} {rk:RK} {k:au->Prop} {v:AV} {st2 st:St}:∀(ks:List PK) (i:Nat) (ws:List VV) (as:List AV) (ims:List M_) (V2 Vr:au) (A2 A:bt),di d ks ws=some ims->(en np rk ks i).all oV=true->HJ nt (en np rk ks i) ims Vr.us=true->
  BM V2 A2 st2 Vr A st->(∀(j:Nat) w a,ws[j]?=some w->as[j]?=some a->VR A w a)->ws.length=as.length->(∀(j:Nat) a,as[j]?=some a->st2.env.get (i+j)=some a)->st2.env.get np=some v->st.env.get d=some v->
  nT (en np rk ks i) V2 (yZ (en np rk ks i) ims Vr k)->∃Vr' A',k Vr'/\R A' Vr' st/\(∀O x,A O=some x->A' O=some x)/\(∀id,cY Vr' A' id->cY Vr A id\/cY V2 A2 id)/\Nat.blt d nt=true/\(∀n x,A' n=some x->A n=some x\/Vr.us.get n.base=none)/\kX Vr Vr'
 |[],i,ws,as,ims,V2,Vr,A2,A,him,hp,hok,h,hw,hl,has,hnp,hd,hk=>by
  cases ws with
  |cons _ _=>cases him
  |nil=>
   cases him;cases rk with
   |tr=>have hk0:j7 V2 none (.t np) (fun v=>k (je Vr d (.tr v))):=hk;have qxU:(Nat.blt d nt&&true)=true:=hok;rw [Bool.and_true] at qxU;clear hk hok;obtain⟨u,a,ha,hc,hk1⟩:=EI h.old hk0;rw [hnp] at ha;cases ha;exact⟨_,A,hk1,j8 h.new hd (.tr hc),fun _ _ h=>h,fun id ho=>.inl ho,qxU,fun _ _ h=>.inl h,Bs⟩
   |sl sz=>
    have hz:gp sz=true:=by simp only [en,Me,List.all_cons,UN] at hp;exact hp.1
    have hk0:eT V2 none (.t np) (fun w=>j3 V2 sz w fun es V'=>k (je (jz Vr d (lI d sz es)) d (.sl d))):=hk;have qxU:(Nat.blt d nt&&(oQ Vr.us d&&true))=true:=hok;rw [Bool.and_true,UN] at qxU;clear hk hok;obtain⟨e,a,he,ha,hv,hk⟩:=EK h.old hk0;rw [hnp] at ha;cases ha;have hsl:AE A2 e.v v:=by
     have hne:=hk;unfold j3 at hne;generalize e.v=w at hv hne;cases hv<;>first|(cases hne;done)|skip
     ·exact .inl rfl
     ·exact .inr rfl
     ·assumption
    obtain⟨es,V1,hk1,hs1,qxF,hone⟩:=rz h hsl hk;obtain⟨hlt,hf⟩:=qxU;obtain⟨inn,hT⟩:=qxF hz;obtain⟨Vr1,A1,hV1,hR1,hA1,hAo,qxq,hown,_,qxA,hnew⟩:=lX (k:=fun V'=>V'=jz Vr d (lI d sz es)) h.new (ot hf rfl) hT hone (fun id hi=>h.apart id hi.1);subst hV1;exact⟨_,A1,hk1,j8 hR1 hd (.sl hAo),hA1,fun id ho=>(hown id ho).imp (fun h=>h) (fun hi=>hi.1),hlt,hnew,(kX.name (qp hf)).trans Bs⟩
   |st offs=>
    have hz:∀p∈offs,gp p.2=true:=by simp only [en,Me,List.all_cons,UN] at hp;exact fun p hm=>UM.1 hp.1 p hm
    have hk0:eT V2 none (.t np) (fun w=>match w with
     |.st v ovs=>(match oE ovs offs with
      |true=>k6 (R:=Prop) V2 ovs offs (IC (R:=Prop) (q9 d) offs Vr fun V'=>k (je V' d (.st v (wT (q9 d) offs)))) fun I V'=>I
      |false=>False)
     |_=>False):=hk
    have qxU:(Nat.blt d nt&&(match DO (q9 d) offs Vr.us with
     |some us=>true
     |none=>false))=true:=by
     have h0:(Nat.blt d nt&&(match DO (q9 d) offs Vr.us with
      |some us=>HJ nt [] [] us
      |none=>false))=true:=hok
     rw [UN] at h0 ⊢;refine⟨h0.1,?_⟩;have h1:=h0.2;split at h1
     ·rfl
     ·cases h1
    rw [UN] at qxU;clear hk hok;obtain⟨e,a,he,ha,hv,hk⟩:=EK h.old hk0;rw [hnp] at ha;cases ha;obtain⟨hlt,hus⟩:=qxU;split at hus;rotate_left
    ·cases hus
    rename_i us qjy;generalize e.v=w at hv hk;cases hv<;>first|(cases hk;done)|skip
    rename_i v ovs cs ts hts hc;simp only at hk;split at hk;rotate_left
    ·cases hk
    rename_i hkeys;have hsl:∀j w,bU j ovs=some w->∃x,cs[j]?=some x/\AE A2 w x:=fun j w hj=>by have hlt:=hc.keys j w hj;have hx:cs[j]?=some (cs[j]'(by rw [←hc.len];exact hlt)):=Un _;have:=hc.at_ j _ _ (Un hlt) hx;rw [hj] at this;exact⟨_,hx,this⟩
    obtain⟨V2',Vr',A',g1,g2,g3,g4,g5,g6,g7,g8,g9⟩:=rN (Rt:=Prop) (d:=q9 d) hsl offs V2 Vr A us _ _ hz h qjy hk;have hcr:bq A' v (wT (q9 d) offs) cs ts:=by
     refine⟨hc.cells,hc.len,fun j w hj=>?_,fun j t' x ht hx=>?_⟩
     ·rw [tn] at hj;split at hj
      ·rename_i hh;obtain⟨x,hx,_⟩:=g7 j hh;rw [hc.len];exact(Uo.1 hx).1
      ·cases hj
     ·rw [tn];by_cases hh:ey j offs=true
      ·rw [if_pos hh];obtain⟨x',hx',hA'⟩:=g7 j hh;rw [hx] at hx';cases hx';exact hA'
      ·rw [if_neg hh];have:=hc.at_ j t' x ht hx;cases ho:bU j ovs with
       |none=>rw [ho] at this;exact this
       |some w=>exact absurd (jX hkeys j w ho) hh
    exact⟨_,A',g1,j8 g2.new hd (.st hts hcr),g5,g6,hlt,g8,g9.trans Bs⟩
 |.tr::ks,i,ws,as,ims,V2,Vr,A2,A,him,hp,hok,h,hw,hl,has,hnp,hd,hk=>by
  cases ws with
  |nil=>simp [di] at him
  |cons w ws=>
   cases as with
   |nil=>cases hl
   |cons a as=>
    have qjI:di d ks ws=some ims:=by simpa only [di] using him
    simp only [en] at hp hok hk;exact xe ks (i+1) ws as ims V2 Vr A2 A qjI hp hok h (fun j w' a' h1 h2=>hw (j+1) w' a' (by simpa using h1) (by simpa using h2)) (Nat.succ.inj hl) (fun j a' h1=>by have:=has (j+1) a' (by simpa using h1);rwa [show i+(j+1)=i+1+j by omega] at this) hnp hd hk
 |.ob offs::ks,i,ws,as,ims,V2,Vr,A2,A,him,hp,hok,h,hw,hl,has,hnp,hd,hk=>by
  cases ws with
  |nil=>simp [di] at him
  |cons w ws=>
   cases as with
   |nil=>cases hl
   |cons a as=>
    obtain⟨O,l,rfl,qz4,rfl⟩:=E7 him
    ·simp only [en,List.all_cons,UN] at hp;have hz:∀p∈offs,gp p.2=true:=fun p hm=>UM.1 hp.1 p hm
     simp only [en,HJ] at hok;split at hok;rotate_left
     ·cases hok
     rename_i us hus;have hwa:=hw 0 _ a rfl rfl;cases hwa with
     |@ptr _ _ id hAO=>
     simp only [en,nT] at hk;split at hk;rotate_left
     ·cases hk
     rename_i v2 ovs hO2;split at hk;rotate_left
     ·cases hk
     rename_i hkeys;obtain⟨y,hy,id2,cs,ts,rfl,hH,hc⟩:=h.old.heap i _ hO2;have hsl:∀j w,bU j ovs=some w->∃x,cs[j]?=some x/\AE A2 w x:=fun j w hj=>by have hlt:=hc.keys j w hj;have hx:cs[j]?=some (cs[j]'(by rw [←hc.len];exact hlt)):=Un _;have:=hc.at_ j _ _ (Un hlt) hx;rw [hj] at this;exact⟨_,hx,this⟩
     have qxi:=ef h.old hO2 hy (id:=id2) (.inl rfl);have qxu:cY V2 A2 id2:=⟨i,_,_,hO2,hy,.inl rfl⟩;have hb1:BM (bT V2 i) A2 st2 Vr A st:=⟨(b5 V2 i).r h.old,h.new,h.H,h.nx,fun id' ho=>h.apart id' ((b5 V2 i).own ho),⟩;obtain⟨V2',Vr',A',g1,g2,g3,g4,g5,g6,g7,g8,g9⟩:=rN hsl offs (bT V2 i) Vr A us _ _ hz hb1 hus hk;have hk3:eT V2' none (.t i) fun w=>match w with
      |.ptr O' off'=>same O' i (same off' 0 (nT (en np rk ks (i+1)) V2' (yZ (en np rk ks (i+1)) l (bu Vr' O (.ob v2 (wT d offs))) k)))
      |_=>False:=g1
     obtain⟨e,a',he,ha',hv',hk3⟩:=EK g2.old hk3;have ha0:=has 0 _ rfl;rw [Nat.add_zero,ha'] at ha0;cases ha0;generalize e.v=w' at hv' hk3;cases w'<;>first|(cases hk3;done)|skip
     rename_i O' off';have hOi:=(bw hk3).1;have hoff:=(bw (bw hk3).2).1;have hk4:=(bw (bw hk3).2).2;clear hk3;have hOi:=hOi.symm;subst hOi;subst hoff;cases hv' with
     |ptr hO'=>
     rw [hy] at hO';cases hO';have qjW:=g5 _ _ hAO;have hor:OR A' st.H (.ob v2 (wT d offs)) (.ptr id 0 0):=by
      refine⟨id,cs,ts,rfl,by rw [h.H];exact hH,⟨hc.cells,hc.len,fun j w hj=>?_,fun j t x ht hx=>?_⟩⟩
      ·rw [tn] at hj;split at hj
       ·rename_i hh;obtain⟨x,hx,_⟩:=g7 j hh;rw [hc.len];exact(Uo.1 hx).1
       ·cases hj
      ·rw [tn];by_cases hh:ey j offs=true
       ·rw [if_pos hh];obtain⟨x',hx',hA'⟩:=g7 j hh;rw [hx] at hx';cases hx';exact hA'
       ·rw [if_neg hh];have:=hc.at_ j t x ht hx;cases ho:bU j ovs with
        |none=>rw [ho] at this;exact this
        |some w=>exact absurd (jX hkeys j w ho) hh
     obtain⟨p1,p2⟩:=u7 g2.new qjW hor (fun id' hi ho=>by
      cases hi;rcases g6 _ ho with ho|ho
      ·exact h.apart _ qxu ho
      ·exact qxi ho)
     have hb2:BM V2' A2 st2 (bu Vr' O (.ob v2 (wT d offs))) A' st:=⟨g2.old,p1,h.H,h.nx,fun id' ho hc'=>(p2 id' hc').elim (fun hc'=>g2.apart id' ho hc') (fun hi=>by cases hi;exact qxi (g3.own ho))⟩;obtain⟨Vr2,A3,q1,q2,q3,q4,q5,q6,q7⟩:=xe ks (i+1) ws as l V2' _ A2 A' qz4 hp.2.2 (by rw [show (bu Vr' O (VO.ob v2 (wT d offs))).us=us from g4];exact hok) hb2
      (fun j w' a' h1 h2=>(hw (j+1) w' a' (by simpa using h1) (by simpa using h2)).mono g5) (Nat.succ.inj hl) (fun j a' h1=>by have:=has (j+1) a' (by simpa using h1);rwa [show i+(j+1)=i+1+j by omega] at this) hnp hd hk4
     refine⟨Vr2,A3,q1,q2,fun O x hx=>q3 _ _ (g5 _ _ hx),fun id' ho=>?_,q5,fun n x hx=>(q6 n x hx).elim (fun h=>g8 n x h) (fun h=>.inr (g9.us _ h)),(g9.trans (kX.set rfl)).trans q7⟩;rcases q4 id' ho with ho|ho
     ·rcases p2 id' ho with ho|hi
      ·exact(g6 id' ho).imp (fun h=>h) (b5 V2 i).own
      ·cases hi;exact .inr qxu
     ·exact .inr ((b5 V2 i).own (g3.own ho))
 |.sl sz::ks,i,ws,as,ims,V2,Vr,A2,A,him,hp,hok,h,hw,hl,has,hnp,hd,hk=>by
  cases ws with
  |nil=>simp [di] at him
  |cons w ws=>
   cases as with
   |nil=>cases hl
   |cons a as=>
    obtain⟨O,l,rfl,qz4,rfl⟩:=E6 him;simp only [en,List.all_cons,UN] at hp;have hz:gp sz=true:=hp.1;simp only [en,HJ,UN] at hok;obtain⟨hlt,hok⟩:=hok;have hwa:=hw 0 _ a rfl rfl;cases hwa with
    |@sl _ _ hAO=>
    have hk':eT V2 none (.t i) fun w=>j3 V2 sz w fun es V'=>nT (en np rk ks (i+1)) V' (yZ (en np rk ks (i+1)) l (bu Vr O (.gr sz es)) k):=hk
    obtain⟨e,a',he,ha',hv',hk'⟩:=EK h.old hk';have ha0:=has 0 _ rfl;rw [Nat.add_zero,ha'] at ha0;cases ha0;have hsl:AE A2 e.v a:=by
     have hne:=hk';unfold j3 at hne;generalize e.v=w at hv' hne;cases hv'<;>first|(cases hne;done)|skip
     ·exact .inl rfl
     ·exact .inr rfl
     ·assumption
    obtain⟨es,V1,hk1,hs1,qxF,hone⟩:=rz h hsl hk';obtain⟨inn,hT⟩:=qxF hz;have hTO:wX st.H sz es a/\∀id,cX a=some id->cY V2 A2 id/\¬cY V1 A2 id:=by obtain⟨q1,_,q3⟩:=hT.2 (fun n=>match n with|.s _=>none|.i _ v j=>if v=0 then inn j else none) 0 (fun j=>if_pos rfl) (fun v j hv=>if_neg (by omega));unfold lI at q1 q3;rw [hlt] at q1 q3;exact⟨q1,fun id hi=>q3 id (.inl hi)⟩
    have hid:=hTO.2;obtain⟨p1,p2⟩:=u7 h.new (o:=.gr sz es) hAO hTO.1 (fun id hi=>h.apart id (hid id hi).1);have hb:BM V1 A2 st2 (bu Vr O (.gr sz es)) A st:=⟨hs1.r h.old,p1,h.H,h.nx,fun id ho hc=>(p2 id hc).elim (fun hc=>h.apart id (hs1.own ho) hc) (fun hi=>(hid id hi).2 ho)⟩;obtain⟨Vr2,A3,q1,q2,q3,q4,q5,q6,q7⟩:=xe ks (i+1) ws as l V1 (bu Vr O (.gr sz es)) A2 A qz4 hp.2 hok hb
     (fun j w' a' h1 h2=>hw (j+1) w' a' (by simpa using h1) (by simpa using h2)) (Nat.succ.inj hl) (fun j a' h1=>by have:=has (j+1) a' (by simpa using h1);rwa [show i+(j+1)=i+1+j by omega] at this) hnp hd hk1
    refine⟨Vr2,A3,q1,q2,q3,fun id ho=>?_,q5,q6,(kX.set rfl).trans q7⟩;rcases q4 id ho with ho|ho
    ·exact(p2 id ho).imp (fun h=>h) (fun hi=>(hid id hi).1)
    ·exact .inr (hs1.own ho)
theorem xZ {A:bt} {V:au} {st:St} (hR:R A V st):∀(xs:List aR) (k:List VV->Prop),JE V xs k->∃ws,ws.length=(xs.map (ev st.env)).length/\(∀(j:Nat) w a,ws[j]?=some w->(xs.map (ev st.env))[j]?=some a->VR A w a)/\k ws
 |[],k,h=>⟨[],rfl,fun j w a hw=>by simp at hw,h⟩
 |x::xs,k,h=>by
  obtain⟨w,hw,h⟩:=b8 (g:=none) hR trivial h;obtain⟨ws,h1,h2,h3⟩:=xZ hR xs _ h;refine⟨w::ws,by simpa using h1,fun j w' a hj ha=>?_,h3⟩;cases j with
  |zero=>simp at hj ha;subst hj;subst ha;exact hw
  |succ j=>exact h2 j w' a (by simpa using hj) (by simpa using ha)
theorem tW {d:Nat}:∀(ks:List PK) (ws:List VV) (ims:List M_),di d ks ws=some ims->ks.length=ws.length
 |[],[],ims,h=>rfl
 |[],_::_,ims,h=>by simp [di] at h
 |k::ks,[],ims,h=>by cases k<;>simp [di] at h
 |.tr::ks,w::ws,ims,h=>by
  have h':di d ks ws=some ims:=by simpa only [di] using h
  simp [tW ks ws ims h']
 |.ob offs::ks,w::ws,ims,h=>by obtain⟨O,l,_,h',_⟩:=E7 h;simp [tW ks ws l h']
 |.sl sz::ks,w::ws,ims,h=>by obtain⟨O,l,_,h',_⟩:=E6 h;simp [tW ks ws l h']
theorem vn:∀(as:List AV) (i:Nat) (e:Env) (j:Nat),(dO as i e).get j=if i<=j/\j < i+as.length then as[j - i]? else e.get j
 |[],i,e,j=>by simp only [dO,List.length_nil];rw [if_neg (by omega)]
 |a::as,i,e,j=>by
  simp only [dO,vn as (i+1),Map.aa,UD];by_cases h:i+1<=j/\j < i+1+as.length
  ·rw [if_pos h,if_pos (by omega),show j - i=(j - (i+1))+1 by omega,List.getElem?_cons_succ]
  ·rw [if_neg h];by_cases e1:j=i
   ·subst e1;rw [if_pos rfl,if_pos (by omega)];simp
   ·rw [if_neg e1,if_neg (by omega)]
theorem FG {V:au} {e:Map VE} {sz:Nat} {w:VV} {k k':List TV->au->Prop} (hk:∀es V',V'.env=V.env->k es V'->k' es {V' with env:=e}) (h:j3 V sz w k):j3 {V with env:=e} sz w k':=by
 cases w<;>first|(cases h;done)|skip
 ·exact hk [] V rfl h
 ·rename_i O;have gen:∀x:Option VO,(match x with
    |some (.gr z es)=>(match Nat.blt z Im with
     |true=>same z sz (k es (bT V O))
     |false=>False)
    |some (.gn _ s io iz _ none es)=>(match FZ sz s io iz with
     |true=>k es (bT V O)
     |false=>False)
    |_=>False)->(match x with
    |some (.gr z es)=>(match Nat.blt z Im with
     |true=>same z sz (k' es (bT {V with env:=e} O))
     |false=>False)
    |some (.gn _ s io iz _ none es)=>(match FZ sz s io iz with
     |true=>k' es (bT {V with env:=e} O)
     |false=>False)
    |_=>False):=by
   intro x hx;split at hx
   ·rename_i z es;cases hb:Nat.blt z Im with
    |false=>rw [hb] at hx;cases hx
    |true=>rw [hb] at hx;obtain⟨rfl,hx2⟩:=bw hx;show same z z _;unfold same;rw [cond_eq_ite,if_pos (by simp)];exact hk es (bT V O) rfl hx2
   ·rename_i s io iz ver es;cases hb:FZ sz s io iz with
    |false=>rw [hb] at hx;cases hx
    |true=>rw [hb] at hx;exact hk es (bT V O) rfl hx
   ·cases hx
  exact gen (V.H.get O) h
theorem w_ {st stc:St} (hH:stc.H=st.H) (hnx:stc.nx=st.nx):∀(ks:List PK) (i:Nat) (ws:List VV) (as:List AV) (V Vc:au) (A A0:bt) (I:JT (oH ks i) Prop) (k:au->Prop),(oH ks i).all oV=true->R A V st->R A0 Vc stc->(∀id,cY V A id->¬cY Vc A0 id)->
  (∀(j:Nat) w a,ws[j]?=some w->as[j]?=some a->VR A w a)->ws.length=as.length->(∀(j:Nat) a,as[j]?=some a->stc.env.get (i+j)=some a)->Gt ks i ws V I->gU (oH ks i) Vc I k->
  ∃Vc' A',k Vc'/\R A' Vc' stc/\(∀id,cY Vc' A' id->cY Vc A0 id\/cY V A id)/\(∀id,cY (iQ ks ws V) A id->¬cY Vc' A' id)/\Sub V (iQ ks ws V)
 |[],i,ws,as,V,Vc,A,A0,I,k,hp,hR,hRc,hap,hw,hl,has,hk,hkc=>by
  cases ws with
  |nil=>exact⟨Vc,A0,hkc hk,hRc,fun id h=>.inl h,hap,Sub.refl V⟩
  |cons w ws=>cases hk
 |.tr::ks,i,ws,as,V,Vc,A,A0,I,k,hp,hR,hRc,hap,hw,hl,has,hk,hkc=>by
  cases ws with
  |nil=>cases hk
  |cons w ws=>
   cases as with
   |nil=>cases hl
   |cons a as=>
    simp only [oH,List.all_cons,UN] at hp;simp only [Gt] at hk;obtain⟨v,hc,hk⟩:=AJ (hw 0 w a rfl rfl) hk;obtain⟨Vc',A',g1,g2,g3,g4,g5⟩:=w_ hH hnx ks (i+1) ws as V (je Vc i (.tr v)) A A0 (I v) k hp.2 hR (j8 hRc (has 0 a rfl) (.tr hc)) hap (fun j w' a' h1 h2=>hw (j+1) w' a' (by simpa using h1) (by simpa using h2)) (Nat.succ.inj hl)
     (fun j a' h1=>by have:=has (j+1) a' (by simpa using h1);rwa [show i+(j+1)=i+1+j by omega] at this) hk (hkc v)
    exact⟨Vc',A',g1,g2,g3,g4,g5⟩
 |.ob offs::ks,i,ws,as,V,Vc,A,A0,I,k,hp,hR,hRc,hap,hw,hl,has,hk,hkc=>by
  cases ws with
  |nil=>cases hk
  |cons w ws=>
   cases as with
   |nil=>cases hl
   |cons a as=>
    simp only [oH,List.all_cons,UN] at hp;have hz:∀p∈offs,gp p.2=true:=fun p hm=>UM.1 hp.1 p hm
    cases w<;>first|(cases hk;done)|skip
    rename_i O off;cases off with
    |succ n=>cases hk
    |zero=>
    simp only [Gt] at hk;split at hk;rotate_left
    ·cases hk
    rename_i v ovs hO;split at hk;rotate_left
    ·cases hk
    rename_i hkeys;have hwa:=hw 0 _ a rfl rfl;cases hwa with
    |@ptr _ _ id hAO=>
    obtain⟨y,hy,id',cs,ts,rfl,hHc,hc⟩:=hR.heap O _ hO;rw [hAO] at hy;cases hy;have hsl:∀j w,bU j ovs=some w->∃x,cs[j]?=some x/\AE A w x:=fun j w hj=>by have hlt:=hc.keys j w hj;have hx:cs[j]?=some (cs[j]'(by rw [←hc.len];exact hlt)):=Un _;have:=hc.at_ j _ _ (Un hlt) hx;rw [hj] at this;exact⟨_,hx,this⟩
    have qxi:=ef hR hO hAO (id:=id) (.inl rfl);have qxu:cY V A id:=⟨O,_,_,hO,hAO,.inl rfl⟩;have hRe:R A {bT V O with env:=.leaf} stc:=⟨fun t e he=>(by cases he),fun O' o' ho=>by obtain⟨x,hx,hor⟩:=hR.heap O' o' (eO ho).2;exact⟨x,hx,hor.mono (fun _ _ h=>h) (fun _ _=>by rw [hH])⟩,fun O1 O2 o1 o2 a1 a2 id' h1 h2=>hR.inj O1 O2 o1 o2 a1 a2 id' (eO h1).2 (eO h2).2,hR.used,hR.one,hRc.fresh,fun O' o' x ho hx=>hR.gh O' o' x (eO ho).2 hx⟩
    have h1:Fy {bT V O with env:=.leaf} A Vc A0 stc:=⟨hRe,hRc,fun id' ho=>hap id' ((b5 V O).own ho)⟩;have hk':k6 (R:=JT (.pt i i 0::oH ks (i+1)) Prop) {bT V O with env:=.leaf} ovs offs (I v) fun I V'=>Gt ks (i+1) ws {V' with env:=V.env} I:=by
     have gen:∀(offs:List (Nat×Nat)) (V1:au) (J:JL offs (JT (.pt i i 0::oH ks (i+1)) Prop)),V1.env=V.env->k6 V1 ovs offs J (fun I V'=>Gt ks (i+1) ws V' I)->k6 {V1 with env:=.leaf} ovs offs J fun I V'=>Gt ks (i+1) ws {V' with env:=V.env} I:=by
      intro offs
      induction offs with
      |nil=>intro V1 J he h;show Gt ks (i+1) ws {V1 with env:=V.env} J;rw [←he];exact h
      |cons p offs ih=>
       obtain⟨off,sz⟩:=p;intro V1 J he h;simp only [k6] at h ⊢;split at h
       ·rename_i w hw;exact FG (fun es V' he' h'=>ih V' (J es) (he'.trans he) h') h
       ·cases h
     exact gen offs (bT V O) (I v) rfl hk
    obtain⟨i2,V',Vc',A',g1,g2,g0,g3,g3a,g4,g5,g6,g7,g8⟩:=qa hsl offs {bT V O with env:=.leaf} Vc A0 (I v) _ _ hz h1 hk' (hkc v);have hor:∀A3:bt,(∀O x,A' O=some x->A3 O=some x)->OR A3 stc.H (.ob v (lu i offs)) (.ptr id 0 0):=by
     intro A3 hA3;refine⟨id,cs,ts,rfl,by rw [hH];exact hHc,⟨hc.cells,hc.len,fun j w hj=>?_,fun j t x ht hx=>?_⟩⟩
     ·rw [kf] at hj;split at hj
      ·rename_i hh;obtain⟨x,hx,_⟩:=g8 j hh;rw [hc.len];exact(Uo.1 hx).1
      ·cases hj
     ·rw [kf];by_cases hh:ey j offs=true
      ·rw [if_pos hh];obtain⟨x',hx',hA'⟩:=g8 j hh;rw [hx] at hx';cases hx';exact hA3 _ _ hA'
      ·rw [if_neg hh];have:=hc.at_ j t x ht hx;cases ho:bU j ovs with
       |none=>rw [ho] at this;exact this
       |some w=>exact absurd (jX hkeys j w ho) hh
    obtain⟨Vc2,A2,p1,p2,p3,p4,p5,p6,p7,p8⟩:=CF g3.new (a:=.ptr id 0 0) g2 hor rfl (fun id' hi ho=>by
     cases hi;rcases g7 _ ho with ho|ho
     ·exact hap _ qxu ho
     ·exact qxi ho)
    have p1':gU (.pt i i 0::oH ks (i+1)) Vc2 i2 k:=p1;simp only [gU,p7] at p1';have hR':R A {V' with env:=V.env} st:=by have hs:Sub V {V' with env:=V.env}:=⟨rfl,g4.us,fun O' o' ho=>(eO (g4.H O' o' ho)).2⟩;exact hs.r hR
    obtain⟨Vc3,A3,q1,q2,q3,q4,q5⟩:=w_ hH hnx ks (i+1) ws as {V' with env:=V.env} (je Vc2 i (.ptr i 0)) A A2 i2 k hp.2.2 hR' (j8 p2 (has 0 _ rfl) (.ptr p4)) (fun id' ho hc'=>by
      rcases p6 id' hc' with hc'|hi
      ·exact g3.apart id' ho hc'
      ·cases hi;exact qxi (g4.own ho)) (fun j w' a' h1 h2=>hw (j+1) w' a' (by simpa using h1) (by simpa using h2)) (Nat.succ.inj hl)
     (fun j a' h1=>by have:=has (j+1) a' (by simpa using h1);rwa [show i+(j+1)=i+1+j by omega] at this) g1 p1'
    have qzh:∀(offs:List (Nat×Nat)) (V1:au),V1.env=V.env->{od {V1 with env:=.leaf} ovs offs with env:=V.env}=od V1 ovs offs:=by
     intro offs
     induction offs with
     |nil=>intro V1 he;simp only [od];rw [←he]
     |cons p offs ih=>
      obtain⟨off,sz⟩:=p;intro V1 he;simp only [od];split
      ·rename_i w hw;cases w<;>first|exact ih V1 he|exact ih (bT V1 _) he
      ·exact ih V1 he
    have qxb:iQ (.ob offs::ks) (.ptr O 0::ws) V=iQ ks ws {V' with env:=V.env}:=by simp only [iQ,hO];rw [g0,qzh offs (bT V O) rfl]
    refine⟨Vc3,A3,q1,q2,fun id' ho=>?_,by rw [qxb];exact q4,by rw [qxb];exact(⟨rfl,g4.us,fun O' o' ho=>(eO (g4.H O' o' ho)).2⟩:Sub V {V' with env:=V.env}).trans q5⟩;rcases q3 id' ho with ho|ho
    ·rcases p6 id' ho with ho|hi
     ·rcases g7 id' ho with ho|ho
      ·exact .inl ho
      ·exact .inr ((b5 V O).own ho)
     ·cases hi;exact .inr qxu
    ·exact .inr ((b5 V O).own (g4.own ho))
 |.sl sz::ks,i,ws,as,V,Vc,A,A0,I,k,hp,hR,hRc,hap,hw,hl,has,hk,hkc=>by
  cases ws with
  |nil=>cases hk
  |cons w ws=>
   cases as with
   |nil=>cases hl
   |cons a as=>
    simp only [oH,List.all_cons,UN] at hp;have hz:gp sz=true:=hp.1;cases w<;>first|(cases hk;done)|skip
    rename_i O;have hwa:=hw 0 _ a rfl rfl;cases hwa with
    |@sl _ _ hAO=>
    have hk0:j3 V sz (.sl O) fun es V'=>Gt ks (i+1) ws V' (I es):=hk
    obtain⟨es,V1,hk,hV1,hs1,qxF,hone,_⟩:=p_ (Vc:=V0) (A0:=fun _=>none) (st:=st) ⟨hR,hR.zero,fun id _ ⟨O,o,a,ho,_⟩=>(by cases ho)⟩ (w:=.sl O) hAO hk0;have qjU:V1=bT V O:=hV1;subst qjU;obtain⟨inn,hT⟩:=qxF hz;have qzr:=hkc es;obtain⟨Vc1,A1,qzq,hR1,hA1,hAo,qxq,hown,_,qxA,_⟩:=lX hRc qzr (by rw [hH];exact hT) hone (fun id (hi:cY V A id/\¬cY (bT V O) A id)=>hap id hi.1);obtain⟨Vc',A',g1,g2,g3,g4,g5⟩:=w_ hH hnx ks (i+1) ws as (bT V O) (je Vc1 i (.sl i)) A A1 (I es) k hp.2 (hR.bT O) (j8 hR1 (has 0 a rfl) (.sl hAo)) (fun id hoo hc=>(hown id hc).elim (fun hc=>hap id ((b5 V O).own hoo) hc) (fun hi=>hi.2 hoo))
     (fun j w' a' h1 h2=>hw (j+1) w' a' (by simpa using h1) (by simpa using h2)) (Nat.succ.inj hl) (fun j a' h1=>by have:=has (j+1) a' (by simpa using h1);rwa [show i+(j+1)=i+1+j by omega] at this) hk qzq
    refine⟨Vc',A',g1,g2,fun id hoo=>?_,g4,(b5 V O).trans g5⟩;rcases g3 id hoo with hoo|hoo
    ·rcases hown id hoo with hoo|hi
     ·exact .inl hoo
     ·exact .inr hi.1
    ·exact .inr ((b5 V O).own hoo)
theorem EW {sh:Sh} (hsh:uw prog sh) {A:bt} {V:au} {st:St} (hR:R A V st) {d:Option Nat} {f:Nat} {args:List aR} {k:au->Prop} (h:xj sh nt V d f args k):ck (a_ prog) nt A V st d (.call f args .share) k:=by
 unfold xj at h;cases d with
 |none=>cases h
 |some d=>
 simp only at h;split at h
 ·rename_i T hT;obtain⟨ws,hwl,hw,h⟩:=xZ hR args _ h;obtain⟨v,H',nx',A',V',w,h1,h2,h3,h4,h5,h6⟩:=hsh.inl f T hT A V st ws _ _ hR hwl hw h;exact⟨v,H',nx',h1,lV (A1:=A') (V1:=V') h2 h5 h4 (fun _=>h3) h6⟩
 split at h
 ·cases h
 rename_i sg hsg;obtain⟨ws,hwl,hw,h⟩:=xZ hR args _ h;split at h
 ·cases h
 rename_i ims him;split at h
 ·cases h
 rename_i hok;simp only [UN] at hok;obtain⟨⟨hp1,hp2⟩,hn,hi⟩:=hok;rw [hsh.vs] at h;generalize has:args.map (ev st.env)=as at hwl hw;have hal:=qy (oH sg.ks 0) V0 [] (Ew prog f sg.ks.length (en sg.ks.length sg.rk sg.ks 0) (yZ (en sg.ks.length sg.rk sg.ks 0) ims {iQ sg.ks ws V with env:=V.env.put none d} k)) hn (fun O hO=>by cases hO);have jW:∀id,¬cY V0 (fun _=>none) id:=fun id ⟨O,o,a,ho,_⟩=>by cases ho
 have qjV:R (fun _=>none) V0 ⟨dO as 0 .leaf,st.H,st.nx⟩:=⟨fun t e he=>(by cases he),fun O o ho=>(by cases ho),fun O O' o o' a a' id ho=>(by cases ho),fun _ _=>rfl,fun O a ha=>(by cases ha),hR.fresh,fun O o a ho=>(by cases ho)⟩;obtain⟨Vc,A1,g1,g2,g3,g4,g5⟩:=w_ (st:=st) (stc:=⟨dO as 0 .leaf,st.H,st.nx⟩) rfl rfl sg.ks 0 ws as V V0 A (fun _=>none) _ _ hp1 hR qjV (fun id _ hc=>jW id hc) hw hwl (fun j a ha=>by show (dO as 0 .leaf).get (0+j)=_;have hjl:=(Uo.1 ha).1;rw [vn,if_pos (by omega)];simpa using ha) h hal
 have hlen:as.length=sg.ks.length:=by rw [←hwl,tW _ _ _ him]
 obtain⟨v,H',nx',A2,V2,q1,q2,q3,q4⟩:=g1 A1 as st.H st.nx hlen g2;have ownV:∀id,cY (iQ sg.ks ws V) A id->cY V A id:=fun id ho=>g5.own ho
 have hlt:∀id,cY (iQ sg.ks ws V) A id->id < st.nx:=fun id ho=>hR.h_ (ownV id ho)
 have qzf:∀id,cY (iQ sg.ks ws V) A id->H'.get id=st.H.get id:=fun id ho=>q4.same id (hlt id ho) (g4 id ho)
 have hRr:R A {iQ sg.ks ws V with env:=V.env.put none d} ⟨st.env.put (some v) d,H',nx'⟩:=by
  refine⟨fun t e he=>?_,fun O o ho=>?_,(g5.r hR).inj,fun n hu=>hR.used n (by rw [←hu];exact congrArg (fun m=>Map.get m n.base) g5.us.symm),hR.one,q2.fresh,(g5.r hR).gh⟩
  ·have he':(V.env.put none d).get t=some e:=he;rw [Map.aa] at he';split at he'
   ·cases he'
   ·rename_i hne;obtain⟨a,ha,hv⟩:=hR.env t e he';exact⟨a,by show (st.env.put (some v) d).get t=_;rw [Map.aa,if_neg hne];exact ha,hv⟩
  ·obtain⟨a,ha,hor⟩:=(g5.r hR).heap O o ho;exact⟨a,ha,hor.mono (fun _ _ h=>h) (fun id hi=>qzf id ⟨O,o,a,ho,ha,hi⟩)⟩
 have hb:BM V2 A2 ⟨(dO as 0 .leaf).put (some v) sg.ks.length,H',nx'⟩ {iQ sg.ks ws V with env:=V.env.put none d} A ⟨st.env.put (some v) d,H',nx'⟩:=
  ⟨q2,hRr,rfl,rfl,fun id ho hc=>by
   rcases q4.own id ho with ho|hle
   ·exact g4 id hc ho
   ·have:=hlt id hc;omega⟩
 obtain⟨Vr',A3,p1,p2,p3,p4,p5,p6,p7⟩:=xe (nt:=nt) (st2:=⟨(dO as 0 .leaf).put (some v) sg.ks.length,H',nx'⟩) (st:=⟨st.env.put (some v) d,H',nx'⟩) (v:=v) (d:=d) sg.ks 0 ws as ims V2 _ A2 A him hp2 (by
   have e:({iQ sg.ks ws V with env:=V.env.put none d}:au).us=V.us:=g5.us;rw [e];exact hi) hb hw hwl (fun j a ha=>by
   show ((dO as 0 .leaf).put (some v) sg.ks.length).get (0+j)=_;have hjl:=(Uo.1 ha).1;rw [Map.aa,if_neg (by omega),vn,if_pos (by omega)];simpa using ha) (by show ((dO as 0 .leaf).put (some v) sg.ks.length).get _=_;rw [Map.aa,if_pos rfl]) (by show (st.env.put (some v) d).get d=_;rw [Map.aa,if_pos rfl]) q3
 refine⟨v,H',nx',?_,st.env.put (some v) d,by simp only [u5,cond_eq_ite,if_pos p5],Vr',A3,p2,⟨q4.le,fun id hid hno=>q4.same id hid (fun hc=>?_),fun id ho=>?_⟩,⟨p3,fun n x hx=>(p6 n x hx).imp (fun h=>h) (fun h=>.inl (by have e:({iQ sg.ks ws V with env:=V.env.put none d}:au).us=V.us:=g5.us;rw [←e];exact h)),(show kX V {iQ sg.ks ws V with env:=V.env.put none d} from kX.Nd g5.us g5.H).trans p7⟩,p1⟩
 ·have hk:kind (.call f args .share)=.call f args .share:=rfl;simp only [iO,hk,cR,has];exact q1
 ·rcases g3 id hc with hc|hc
  ·exact jW id hc
  ·exact hno hc
 ·rcases p4 id ho with ho|ho
  ·exact .inl (ownV id ho)
  ·rcases q4.own id ho with ho|hle
   ·rcases g3 id ho with hc|hc
    ·exact absurd hc (jW id)
    ·exact .inl hc
   ·exact .inr hle
end
end Go.Ax.V
namespace Go.Ax.V
section
variable {sh:Sh} {prog:Map ak} {cf:iy} {nt:Nat} {A:bt} {V:au} {st:St} {d:Option Nat} {g:G} {k:au->Prop}
theorem CK {sh:Sh} {nt:Nat} {V:au} {d:Option Nat} {p:TV×Bool} {fz:Bool} {len:Nat} {zero:List AV} {parts:List (Nat×Nat×aR)} {k:au->Prop} (h:wN sh nt V d (some p) fz len zero parts k):False:=by unfold wN at h;split at h<;>cases h
theorem Ff (hsh:uw prog sh) (hR:R A V st) (ha:act g) {op:fO} (h:qT sh prog nt V d g op k):ck (a_ prog) nt A V st d op k:=by
 cases op with
 |mv x=>exact Sk hR ha h
 |pick c a b=>exact LR hR ha h
 |alloc zero=>exact JU hR h
 |box x=>exact OP hR ha h
 |build zero parts=>
  cases g with
  |none=>exact JS hR h
  |some p=>exact HM hR ha h
 |jd es len zero parts=>
  cases g with
  |none=>exact HN hR h
  |some p=>cases h
 |b6 len zero parts=>
  cases g with
  |none=>obtain⟨v,H',nx',h1,h2⟩:=HL (cf:=a_ prog) (gd:=none) (fz:=false) hR h;exact⟨v,H',nx',h1,h2⟩
  |some p=>exact(CK h).elim
 |load sz a=>exact LU hR ha h
 |store sz a x=>
  cases g with
  |none=>
   cases d with
   |none=>exact JM hR h
   |some d=>cases h
  |some p=>cases h
 |lW x=>exact JP hR ha h
 |bin op x y=>exact OQ hR ha h
 |eq t neg x y=>
  cases t with
  |slice=>
   cases g with
   |none=>
    simp only [qT] at h;split at h
    ·rename_i hy;exact OM hR hy h
    ·cases h
   |some q=>cases h
  |one l=>exact ON hR ha h
  |agg l=>exact ON hR ha h
 |un op x=>exact Sj hR ha h
 |conv c x=>exact LW hR ha h
 |vg es bytes zero n=>
  cases g with
  |none=>exact LS hR h
  |some p=>exact(d_ h).2.elim
 |nO x lo hi=>exact JN hR ha h
 |n_ es x lo hi mx=>exact LQ hR ha h
 |k9 n es x lo hi mx=>
  obtain⟨hz,h⟩:=d_ h;cases g with
  |some q=>cases h
  |none=>
   cases lo with
   |some _=>cases h
   |none=>
    cases mx with
    |some _=>cases h
    |none=>exact JO hR hz h
 |kO off x=>exact JR hR ha h
 |F5 off sz x=>exact OK hR ha h
 |dP es x i=>exact JQ hR ha h
 |oM len es x i=>exact LV hR ha h
 |idx x i=>exact OJ hR ha h
 |ext i x=>exact OL hR ha h
 |app es bytes s x=>exact OS hR ha h
 |Gv es dd s=>
  obtain⟨hz,h⟩:=d_ h;cases g with
  |some q=>cases h
  |none=>exact OO hR hz h
 |Kw es zero x=>cases h
 |len str x=>exact OI hR ha h
 |DR mx xs=>exact OH hR ha h
 |ri=>cases h
 |q_ t zero ok m k=>cases h
 |Bh t m k v=>cases h
 |zm m=>cases h
 |call f args m=>
  cases m with
  |share=>
   cases g with
   |none=>exact EW hsh hR h
   |some p=>cases h
  |borrow=>obtain⟨v,h1,h2⟩:=Bc hR ha h;exact⟨v,st.H,st.nx,h1,h2⟩
 |eP f args m=>
  cases m with
  |share=>cases h
  |borrow=>
   obtain⟨fv,hf,h⟩:=cm hR ha h;cases g with
   |none=>obtain⟨n,rfl,h⟩:=h;obtain⟨v,h1,h2⟩:=Bc (g:=none) hR trivial h;generalize he:ev st.env f=p at hf;cases hf;refine⟨v,st.H,st.nx,?_,h2⟩;have hk:kind (.eP f args .borrow)=.eP f args .borrow:=rfl;simp only [iO,hk,he];exact h1
   |some q=>obtain⟨c,bb⟩:=q;obtain⟨n,hn,h⟩:=h;obtain rfl:=hn ha;obtain⟨v,h1,h2⟩:=Bc hR ha h;generalize he:ev st.env f=p at hf;cases hf;refine⟨v,st.H,st.nx,?_,h2⟩;have hk:kind (.eP f args .borrow)=.eP f args .borrow:=rfl;simp only [iO,hk,he];exact h1
def Nl (nt:Nat) (V:au) (d:Option Nat) (c:TV) (bb:Bool) (k:au->Prop):Prop:=∃g w,((g=none/\w=VV.tr iT)\/g=some (c,bb))/\dh nt V d g w k
theorem D8 {c:TV} {bb:Bool} (hc:c≠.b bb) {P:TV->Prop} {v:TV} (h:gV c bb P v):v=iT:=by
 unfold gV at h;split at h
 ·rename_i x;split at h
  ·rename_i hh;exact absurd (by cases x<;>cases bb<;>first|rfl|cases hh) hc
  ·exact h
 ·exact h
section
variable {c:TV} {bb:Bool}
theorem xW (hc:c≠.b bb) {P k:TV->Prop} (h:G7 (some (c,bb)) P k):k iT:=by obtain⟨v,h1,h2⟩:=h;rw [D8 hc h1] at h2;exact h2
theorem bR (hc:c≠.b bb) {P:Option TV} (h:eU nt V d (some (c,bb)) P k):Nl nt V d c bb k:=⟨none,.tr iT,.inl ⟨rfl,rfl⟩,xW hc h⟩
theorem gz {w:VV} (h:dh nt V d (some (c,bb)) w k):Nl nt V d c bb k:=⟨_,w,.inr rfl,h⟩
theorem w9 {g:G} {P:Option Nat} {k:Nat->Prop} (h:Cd g P k):∃n,k n:=by
 cases g with
 |none=>obtain⟨n,_,h⟩:=h;exact⟨n,h⟩
 |some p=>obtain⟨n,_,h⟩:=h;exact⟨n,h⟩
theorem gY {x:aR} {k:VV->Prop} (h:eT V g x k):∃w,k w:=by
 cases x with
 |c v=>exact⟨_,h⟩
 |t n=>
  simp only [eT] at h;split at h
  ·cases h
  split at h
  ·exact⟨_,h⟩
  ·split at h
   ·cases h
   ·exact⟨_,h.2⟩
theorem dZ {x:aR} {k:TV->Prop} (h:j7 V g x k):∃v,k v:=by
 obtain⟨w,h⟩:=gY h;unfold BX at h;split at h
 ·exact⟨_,h⟩
 ·exact⟨_,h⟩
 ·obtain⟨u,_,h⟩:=h;exact⟨u,h⟩
 ·cases h
theorem tw {x:Option aR} {k:Option TV->Prop} (h:va V g x k):∃v,k v:=by
 cases x with
 |none=>exact⟨none,h⟩
 |some x=>obtain⟨v,h⟩:=dZ h;exact⟨some v,h⟩
theorem EJ:∀{xs:List (Nat×Nat×aR)} {k:List (Nat×Nat×TV)->Prop},Hi V g xs k->∃vs,k vs
 |[],k,h=>⟨[],h⟩
 |(off,n,x)::xs,k,h=>by obtain⟨v,h⟩:=dZ h;obtain⟨vs,h⟩:=EJ h;exact⟨_,h⟩
theorem EH:∀{xs:List aR} {k:List TV->Prop},Hg V g xs k->∃vs,k vs
 |[],k,h=>⟨[],h⟩
 |x::xs,k,h=>by obtain⟨v,h⟩:=dZ h;obtain⟨vs,h⟩:=EH h;exact⟨v::vs,h⟩
theorem sW:∀{l:List (Nat×VV)} {v:TV} {k:TV->Prop},zf V l v k->∃u,k u
 |[],v,k,h=>⟨v,h⟩
 |(off,w)::l,v,k,h=>by obtain⟨u,h⟩:=sW (l:=l) h;obtain⟨es,u',_,h⟩:=s8 h;exact⟨u',h⟩
theorem Lh {w:VV} {k:TV->Prop} (h:Nb V w k):∃t,k t:=by
 unfold Nb at h;split at h
 ·exact⟨_,h⟩
 ·exact⟨_,h⟩
 ·obtain⟨es,h⟩:=s8 h;exact⟨_,h⟩
 ·exact sW h
 ·obtain⟨es,h⟩:=s8 h;exact⟨_,h⟩
 ·split at h
  ·split at h
   ·obtain⟨es,_,h⟩:=h;exact⟨_,h⟩
   ·cases h
  ·cases h
 ·cases h
theorem mo:∀{xs:List aR} {k:Bool->List TV->Prop},pV V g xs k->∃p ts,k p ts
 |[],k,h=>⟨_,_,h⟩
 |x::xs,k,h=>by
  obtain⟨w,h⟩:=gY h;split at h
  ·obtain⟨p,ts,h⟩:=mo h;exact⟨_,_,h⟩
  ·obtain⟨p,ts,h⟩:=mo h;exact⟨_,_,h⟩
  ·obtain⟨t,h⟩:=sW h;obtain⟨p,ts,h⟩:=mo h;exact⟨_,_,h⟩
  ·obtain⟨t,h⟩:=Lh h;obtain⟨p,ts,h⟩:=mo h;exact⟨_,_,h⟩
theorem Ef (hc:c≠.b bb) {sz:Option Nat} {w:VV} (h:kP nt V d (some (c,bb)) sz w k):Nl nt V d c bb k:=by
 unfold kP at h;split at h
 ·split at h
  ·split at h
   ·split at h
    ·exact gz h
    ·exact bR hc h
   ·split at h
    ·exact bR hc h
    ·cases h
  ·cases h
 ·split at h
  ·split at h
   ·exact bR hc h
   ·cases h
  ·cases h
 ·exact bR hc h
 ·split at h
  ·exact bR hc h
  ·split at h
   ·split at h
    ·split at h
     ·split at h
      ·obtain⟨_,_,h⟩:=h;exact gz h
      ·cases h
     ·exact bR hc h
    ·split at h
     ·exact bR hc h
     ·cases h
   ·cases h
  ·cases h
 ·obtain⟨_,_,_,_,_,h⟩:=de h;exact bR hc h
 ·cases h
theorem F9 (hc:c≠.b bb) {off:Nat} {sz:Option Nat} {w:VV} (h:CW nt V d (some (c,bb)) off sz w k):Nl nt V d c bb k:=by
 unfold CW at h;split at h
 ·exact bR hc h
 ·split at h
  ·split at h
   ·exact gz h
   ·exact bR hc h
  ·split at h
   ·exact bR hc h
   ·cases h
 ·cases h
theorem Ec (hc:c≠.b bb) {sz:Nat} {w:VV} {lo hi mx:Option aR} (h:Ee nt V d (some (c,bb)) sz w lo hi mx k):Nl nt V d c bb k:=by
 replace h:=(d_ h).2;split at h
 ·split at h
  ·split at h
   ·split at h
    ·obtain⟨l,m,_,h⟩:=tw (bw h).2;cases h
    ·cases h
   ·cases h
  ·cases h
 ·split at h
  ·obtain⟨l,h⟩:=tw h;obtain⟨hh,h⟩:=tw h;exact⟨none,.tr iT,.inl ⟨rfl,rfl⟩,xW hc h⟩
  ·split at h
   ·rename_i qxk;simp at qxk
   ·cases h
 ·split at h
  ·exact gz h
  ·cases h
 ·cases h
theorem Ka (hc:c≠.b bb) {op:fO} (h:qT sh prog nt V d (some (c,bb)) op k):Nl nt V d c bb k:=by
 cases op with
 |mv x=>
  simp only [qT] at h;obtain⟨w,h⟩:=gY h;unfold Mt at h;split at h
  ·exact bR hc h
  ·cases h
  ·exact gz h
 |pick a b e=>simp only [qT] at h;obtain⟨_,h⟩:=dZ h;obtain⟨_,h⟩:=dZ h;obtain⟨_,h⟩:=dZ h;exact bR hc h
 |alloc zero=>simp only [qT] at h;split at h<;>cases h
 |box x=>
  simp only [qT] at h;obtain⟨w,h⟩:=gY h;split at h
  ·exact(y8 h.2 (fun _ _ h=>h)).elim
  ·cases h
 |build zero parts=>
  simp only [qT] at h;split at h
  ·obtain⟨_,h⟩:=EJ h;exact bR hc h
  ·cases h
 |jd es len zero parts=>cases h
 |b6 len zero parts=>exact(CK h).elim
 |load sz a=>simp only [qT] at h;obtain⟨w,h⟩:=gY h;exact Ef hc h
 |store sz a x=>cases h
 |lW x=>simp only [qT] at h;obtain⟨w,h⟩:=gY h;unfold Bt at h;split at h<;>first|exact gz h|cases h
 |bin op x y=>simp only [qT] at h;obtain⟨_,h⟩:=dZ h;obtain⟨_,h⟩:=dZ h;exact bR hc h
 |eq t neg x y=>
  cases t with
  |slice=>cases h
  |one l=>simp only [qT] at h;obtain⟨_,h⟩:=dZ h;obtain⟨_,h⟩:=dZ h;exact bR hc h
  |agg l=>simp only [qT] at h;obtain⟨_,h⟩:=dZ h;obtain⟨_,h⟩:=dZ h;exact bR hc h
 |un op x=>simp only [qT] at h;obtain⟨_,h⟩:=dZ h;exact bR hc h
 |conv e x=>simp only [qT] at h;obtain⟨_,h⟩:=dZ h;exact bR hc h
 |vg es bytes zero n=>exact(d_ h).2.elim
 |nO x lo hi=>simp only [qT] at h;obtain⟨_,h⟩:=dZ h;obtain⟨_,h⟩:=tw h;obtain⟨_,h⟩:=tw h;exact bR hc h
 |n_ es x lo hi mx=>simp only [qT] at h;obtain⟨w,h⟩:=gY h;exact Ec hc h
 |k9 n es x lo hi mx=>exact(d_ h).2.elim
 |kO off x=>simp only [qT] at h;obtain⟨w,h⟩:=gY h;unfold Bu at h;split at h<;>first|exact gz h|cases h
 |F5 off sz x=>simp only [qT] at h;obtain⟨w,h⟩:=gY h;exact F9 hc h
 |dP es x i=>
  simp only [qT] at h;obtain⟨w,h⟩:=gY h;obtain⟨iv,h⟩:=dZ h;replace h:=(d_ h).2;split at h
  ·exact gz (xW hc h)
  ·split at h
   ·obtain⟨n,h⟩:=w9 (bw h).2;exact gz h
   ·obtain⟨n,h⟩:=w9 (bw h).2;exact gz h
   ·cases h
  ·obtain⟨_,_,_,_,_,h⟩:=de h;obtain⟨n,h⟩:=w9 (bw h).2;exact gz h
  ·cases h
 |oM len es x i=>simp only [qT] at h;obtain⟨w,h⟩:=gY h;obtain⟨iv,h⟩:=dZ h;unfold Eg at h;split at h<;>first|(obtain⟨n,h⟩:=w9 h;exact gz h)|cases h
 |idx x i=>simp only [qT] at h;obtain⟨_,h⟩:=dZ h;obtain⟨_,h⟩:=dZ h;exact bR hc h
 |ext i x=>simp only [qT] at h;obtain⟨_,h⟩:=dZ h;exact bR hc h
 |app es bytes s x=>
  simp only [qT] at h;obtain⟨w,h⟩:=gY h;obtain⟨y,h⟩:=gY h;exfalso;unfold Aq at h;split at h
  ·replace h:=(bw h).2;unfold Bw at h;split at h
   ·cases h
   split at h
   ·split at h
    ·obtain⟨l,_,h⟩:=h;exact h
    ·cases h
   ·split at h
    ·split at h
     ·obtain⟨l,_,h⟩:=h;exact h
     ·cases h
    ·cases h
   ·cases h
  replace h:=(d_ h).2;unfold Du at h;have key:∀xs,(match w with
   |.bX=>∃l,jT bytes [] xs=some l/\jv nt V d (some (c,bb)) .sl (.gr es l) k
   |.sl O=>(match V.H.get O with
    |some (.gr z es')=>same z es (∃l,jT bytes es' xs=some l/\jv nt (bT V O) d (some (c,bb)) .sl (.gr es l) k)
    |_=>False)
   |.ow O v i=>J2 V O v fun s io iz es'=>same iz es (∃l0,su es' i io=some l0/\∃l,jT bytes l0 xs=some l/\jv nt (bu V O (.gn O s io iz v (some i) es')) d (some (c,bb)) .sl (.gr es l) k)
   |_=>False)->False:=fun xs h=>by
   split at h
   ·obtain⟨l,_,h⟩:=h;exact h
   ·split at h
    ·obtain⟨l,_,h⟩:=(bw h).2;exact h
    ·cases h
   ·obtain⟨_,_,_,_,_,h⟩:=de h;obtain⟨l0,_,l,_,h⟩:=(bw h).2;exact h
   ·cases h
  split at h
  ·obtain⟨xs,_,_,h⟩:=h;exact key _ h
  ·exact key _ h
  ·split at h
   ·exact key _ (bw h).2
   ·cases h
  ·cases h
 |Gv es dd s=>exact(d_ h).2.elim
 |Kw es zero x=>cases h
 |len str x=>
  simp only [qT] at h;obtain⟨w,h⟩:=gY h;unfold Fh at h;split at h
  ·split at h
   ·exact bR hc h
   ·cases h
  ·split at h
   ·exact bR hc h
   ·exact bR hc h
   ·split at h
    ·exact bR hc h
    ·exact bR hc h
    ·cases h
   ·obtain⟨_,_,_,_,_,h⟩:=de h;exact bR hc h
   ·cases h
 |DR mx xs=>simp only [qT] at h;obtain⟨vs,h⟩:=EH h;exact bR hc h
 |ri=>cases h
 |q_ t zero ok m k=>cases h
 |Bh t m k v=>cases h
 |zm m=>cases h
 |call f args m=>
  cases m with
  |share=>cases h
  |borrow=>simp only [qT] at h;obtain⟨p,ts,r,h1,h2⟩:=mo h;rw [D8 hc h1] at h2;exact⟨none,.tr iT,.inl ⟨rfl,rfl⟩,h2⟩
 |eP f args m=>
  cases m with
  |share=>cases h
  |borrow=>simp only [qT] at h;obtain⟨_,h⟩:=dZ h;obtain⟨n,_,h⟩:=h;obtain⟨p,ts,r,h1,h2⟩:=mo h;rw [D8 hc h1] at h2;exact⟨none,.tr iT,.inl ⟨rfl,rfl⟩,h2⟩
end
theorem Gf:Can iT dQ:=.tp [] [] rfl (fun x hx=>by cases hx) (fun j t x ht=>by simp at ht)
def I7 (prog:Map ak) (nt:Nat) (A:bt) (V:au) (st:St) (r:Option St) (k:au->Prop):Prop:=
 ∃st',r=some st'/\∃V' A',R A' V' st'/\Fr V A st.H st.nx V' A' st'.H st'.nx/\Ext V A V' A'/\k V'
theorem Fg (hsh:uw prog sh) (hR:R A V st) {o:aq} (h:Kd sh prog nt V o k):I7 prog nt A V st (dV (a_ prog) nt o st) k:=by
 obtain⟨dd,op,gd,fz⟩:=o;have fin:wanted st.env gd=true->(∃v H' nx',nW (a_ prog) ⟨dd,op,gd,fz⟩ (ev st.env) st.H st.nx=some (v,H',nx')/\Next nt A V st dd v H' nx' k)->I7 prog nt A V st (dV (a_ prog) nt ⟨dd,op,gd,fz⟩ st) k:=by rintro hw ⟨v,H',nx',h1,e',h2,V',A',h3,h4,h5⟩;exact⟨⟨e',H',nx'⟩,by simp only [dV,hw,cond_true,h1,h2],V',A',h3,h4,h5⟩
 unfold Kd at h;simp only at h;cases gd with
 |none=>
  cases fz with
  |true=>
   simp only at h;split at h
   ·exact fin rfl (HL hR h)
   ·cases h
  |false=>obtain⟨v,H',nx',h1,h2⟩:=Ff (g:=none) hsh hR trivial h;exact fin rfl ⟨v,H',nx',h1,h2⟩
 |some p=>
  obtain⟨n,bb⟩:=p;cases fz with
  |true=>cases h
  |false=>
   obtain⟨c,a,ha,hca,h⟩:=EI hR h;by_cases hc:c=.b bb
   ·subst hc;cases hca;obtain⟨v,H',nx',h1,h2⟩:=Ff (g:=some (.b bb,bb)) hsh hR rfl h;exact fin (by simp only [wanted,ha];cases bb<;>rfl) ⟨v,H',nx',h1,h2⟩
   ·obtain⟨g,w,hg,hp⟩:=Ka hc h;have hw:wanted st.env (some (n,bb))=false:=by
     simp only [wanted,ha];split
     ·rename_i b' hb;cases hb;cases hca
      ·cases b'<;>cases bb<;>first|rfl|exact absurd rfl hc
      ·rename_i hf _;cases hf
     ·rfl
    have hn:Next nt A V st dd dQ st.H st.nx k:=av hR (fun hact=>by
     rcases hg with ⟨rfl,rfl⟩|rfl
     ·exact .tr Gf
     ·exact absurd hact hc) hp
    obtain⟨e',h2,V',A',h3,h4,h5⟩:=hn;exact⟨⟨e',st.H,st.nx⟩,by simp only [dV,hw,cond_false,h2],V',A',h3,h4,h5⟩
theorem CV (hsh:uw prog sh):∀{l:List aq} {A:bt} {V:au} {st:St} {k:au->Prop},R A V st->Ms sh prog nt l V k->I7 prog nt A V st (eY (a_ prog) nt l st) k
 |[],A,V,st,k,hR,h=>⟨st,rfl,V,A,hR,Fr.refl _ _ _ _,Ext.refl _ _,h⟩
 |o::l,A,V,st,k,hR,h=>by obtain⟨st1,h1,V1,A1,h2,h3,hx,h4⟩:=Fg hsh hR h;obtain⟨st2,g1,V2,A2,g2,g3,gx,g4⟩:=CV hsh h2 h4;exact⟨st2,by rw [fQ,h1];exact g1,V2,A2,g2,h3.trans g3,hx.trans gx,g4⟩
end
end Go.Ax.V
namespace Go.Ax.V
section
variable {sh:Sh} {prog:Map ak} {cf:iy} {nt:Nat} {A:bt} {V:au} {st:St} {d:Option Nat} {g:G} {k:au->Prop}
theorem LK {x:aR} {k:VV->Prop} (h:eT V g x k):k (c9 V x):=by
 cases x with
 |c v=>exact h
 |t n=>
  simp only [eT] at h;split at h
  ·cases h
  rename_i e he;have e1:c9 V (.t n)=e.v:=by simp only [c9,he]
  rw [e1];split at h
  ·exact h
  ·split at h
   ·cases h
   ·exact h.2
theorem gZ (hR:R A V st) (ha:act g) {x:aR} {k:VV->Prop} (h:eT V g x k):VR A (c9 V x) (ev st.env x)/\k (c9 V x):=by
 refine⟨?_,LK h⟩;cases x with
 |c v=>exact C6 A v
 |t n=>
  simp only [eT] at h;split at h
  ·cases h
  rename_i e he;obtain⟨a,h1,h2⟩:=hR.env n e he;have e1:c9 V (.t n)=e.v:=by simp only [c9,he]
  rw [Br h1,e1];refine h2 (fun c bb hc=>?_);rw [hc] at h;simp only at h;split at h
  ·cases h
  ·obtain⟨e,_⟩:=h;cases e;exact ha
structure vW (A:bt) (V:au) (f:Dj) (r:Rec):Prop where
 rd:∀x∈r.dW,∃id,(match x with|.w7 q=>q.id=id|.obj i=>i=id|.all=>False)/\∃T∈f.rd,∃o a,V.H.get T=some o/\A T=some a/\dX A o a id
 wr:∃l,r.cW=.ids l/\∀id∈l,∃T∈f.wr,∃o a,V.H.get T=some o/\A T=some a/\dX A o a id
def vV (A:bt) (V:au) (f:Dj) (dW:List Rd) (cW:List Nat):Prop:=
 (∀x∈dW,∃id,(match x with|.w7 q=>q.id=id|.obj i=>i=id|.all=>False)/\∃T∈f.rd,∃o a,V.H.get T=some o/\A T=some a/\dX A o a id)/\
 ∀id∈cW,∃T∈f.wr,∃o a,V.H.get T=some o/\A T=some a/\dX A o a id
theorem ym {f:Dj}:vV A V f [] []:=⟨fun x hx=>(by cases hx),fun id h=>(by cases h)⟩
theorem CI {f:Dj} {p:bg} (h:p.dW=[]/\p.cW=[]):vV A V f p.dW p.cW:=by rw [h.1,h.2];exact ym
def xP (p:Option bg):Prop:=∀q,p=some q->q.dW=[]/\q.cW=[]
theorem fP (v:Option AV):xP (fe v):=by
 intro q h;cases v with
 |none=>cases h
 |some v=>cases h;exact⟨rfl,rfl⟩
theorem cr (v:AV):xP (some (.val v)):=fun q h=>by cases h;exact⟨rfl,rfl⟩
theorem mS (f:Nat->AV) (o:fZ):xP (some (.new f o)):=fun q h=>by cases h;exact⟨rfl,rfl⟩
theorem aV:xP none:=fun q h=>by cases h
theorem FX (hR:R A V st) (ha:act g) {sz:Option Nat} {a:aR} (h:eT V g a fun w=>kP nt V d g sz w k) {p:bg} (hp:lp (ev st.env) sz a=some p):vV A V ⟨g_ (c9 V a),[],[]⟩ p.dW p.cW:=by
 obtain⟨hw,hk⟩:=gZ hR ha h;generalize he:ev st.env a=x at hw;generalize c9 V a=w at hw hk;have hit:∀{O:Nat} {o:VO} {pa:AV} {id gg off:Nat},x=.ptr id gg off->V.H.get O=some o->A O=some pa->cX pa=some id->vV A V ⟨[O],[],[]⟩ p.dW p.cW:=by intro O o pa id gg off hx hO hA hi;subst hx;simp only [lp,he] at hp;cases hp;refine⟨fun y hy=>?_,fun id' h=>by cases h⟩;simp [bg.dW] at hy;subst hy;exact⟨id,rfl,O,by simp,o,pa,hO,hA,.inl hi⟩
 cases hw with
 |@ptr O off id hO=>
  simp only [kP] at hk;split at hk
  ·rename_i v ovs ho;exact hit rfl ho hO rfl
  ·cases hk
 |@pd O off id hO=>
  simp only [kP] at hk;split at hk
  ·rename_i v ovs ho;exact hit rfl ho hO rfl
  ·cases hk
 |@ea O i off id gg b z len cap ex hO=>
  simp only [kP] at hk;split at hk
  ·rename_i z es ho;exact hit rfl ho hO rfl
  ·rename_i ho;exact hit rfl ho hO rfl
  ·cases hk
 |@e2 O v i j off id gg b z len cap ex hA=>obtain⟨s,io,iz,es,ho,_⟩:=de hk;obtain⟨a0,ha0,_⟩:=hR.heap O _ ho;simp only [lp,he] at hp;cases hp;refine⟨fun y hy=>?_,fun id' h=>by cases h⟩;simp [bg.dW] at hy;subst hy;exact⟨id,rfl,O,by simp [g_],_,a0,ho,ha0,.inr ⟨i,_,by simp,hA,rfl⟩⟩
 |@pt v cs b off n hl hf hcc=>
  simp only [lp,he] at hp;split at hp
  ·exact CI (fP _ p hp)
  ·cases hp
 |_=>cases hk
theorem Ds (hR:R A V st) {sz:Nat} {a x:aR} (h:eT V none a fun w=>eT V none x fun x=>jS V sz w x k) {p:bg} (hp:lF (ev st.env) sz a x=some p):vV A V ⟨g_ (c9 V a),g_ (c9 V a),[]⟩ p.dW p.cW:=by
 obtain⟨hw,hk⟩:=gZ (g:=none) hR trivial h;obtain⟨y,hy,hk⟩:=b8 (g:=none) hR trivial hk;generalize he:ev st.env a=q at hw;generalize c9 V a=w at hw hk;have hit:∀{O:Nat} {o:VO} {pa:AV} {id gg off:Nat},q=.ptr id gg off->V.H.get O=some o->A O=some pa->cX pa=some id->vV A V ⟨[O],[O],[]⟩ p.dW p.cW:=by
  intro O o pa id gg off hx hO hA hi;subst hx;simp only [lF,he] at hp;split at hp
  ·rw [cond_eq_ite] at hp;split at hp
   ·cases hp;refine⟨fun y hy=>?_,fun id' h=>?_⟩
    ·simp [bg.dW] at hy;subst hy;exact⟨id,rfl,O,by simp,o,pa,hO,hA,.inl hi⟩
    ·simp [bg.cW] at h;subst h;exact⟨O,by simp,o,pa,hO,hA,.inl hi⟩
   ·cases hp
  ·cases hp
 cases hw with
 |@ptr O off id hO=>
  simp only [jS] at hk;split at hk
  ·rename_i v ovs ho;exact hit rfl ho hO rfl
  ·cases hk
 |@pd O off id hO=>
  simp only [jS] at hk;split at hk
  ·rename_i v ovs ho;exact hit rfl ho hO rfl
  ·cases hk
 |@ea O i off id gg b z len cap ex hO=>
  simp only [jS] at hk;split at hk
  ·rename_i z es ho;exact hit rfl ho hO rfl
  ·rename_i ho;exact hit rfl ho hO rfl
  ·cases hk
 |@e2 O v i j off id gg b z len cap ex hA=>
  obtain⟨s,io,iz,es,ho,_⟩:=de hk;obtain⟨a0,ha0,_⟩:=hR.heap O _ ho;have hin:dX A (.gn O s io iz v none es) a0 id:=.inr ⟨i,_,by simp,hA,rfl⟩;simp only [lF,he] at hp;split at hp
  ·rw [cond_eq_ite] at hp;split at hp
   ·cases hp;refine⟨fun y hy=>?_,fun id' h=>?_⟩
    ·simp [bg.dW] at hy;subst hy;exact⟨id,rfl,O,by simp [g_],_,a0,ho,ha0,hin⟩
    ·simp [bg.cW] at h;subst h;exact⟨O,by simp [g_],_,a0,ho,ha0,hin⟩
   ·cases hp
  ·cases hp
 |_=>cases hk
theorem Dx (hR:R A V st) {len es:Nat} {x:aR} {hi:Option aR} (h:eT V none x fun w=>nk nt V d len es w hi k) {p:bg} (hp:lG (ev st.env) len es x none hi none=some p):vV A V ⟨g_ (c9 V x),[],[]⟩ p.dW p.cW:=by
 obtain⟨hw,hk⟩:=gZ (g:=none) hR trivial h;generalize he:ev st.env x=q at hw;generalize c9 V x=w at hw hk;have hit:∀{O:Nat} {o:VO} {pa:AV} {id gg off:Nat},q=.ptr id gg off->V.H.get O=some o->A O=some pa->cX pa=some id->vV A V ⟨[O],[],[]⟩ p.dW p.cW:=by
  intro O o pa id gg off hx hO hA hi';subst hx;simp only [lG,he] at hp;split at hp
  ·cases hp
  cases hp;refine⟨fun y hy=>?_,fun id' h=>by cases h⟩;simp [bg.dW] at hy;subst hy;exact⟨id,rfl,O,by simp,o,pa,hO,hA,.inl hi'⟩
 cases hw with
 |@ptr O off id hO=>
  simp only [nk] at hk;split at hk
  ·rename_i v ovs ho;exact hit rfl ho hO rfl
  ·cases hk
 |@pd O off id hO=>
  simp only [nk] at hk;split at hk
  ·rename_i v ovs ho;exact hit rfl ho hO rfl
  ·cases hk
 |_=>cases hk
theorem IB (hR:R A V st) {es:Nat} {s x:aR} (hz:0 < es) (h:eT V none s fun w=>eT V none x fun x=>CX nt V d es w x k) {p:bg} (hp:C3 es (ev st.env s) (ev st.env x)=some p):vV A V ⟨AR (c9 V s)++cV (c9 V x),AR (c9 V s),[]⟩ p.dW p.cW:=by
 obtain⟨hw,hk⟩:=gZ (g:=none) hR trivial h;obtain⟨hy,hk⟩:=gZ (g:=none) hR trivial hk;generalize he:ev st.env s=q at hw hp;generalize c9 V s=w at hw hk;generalize hye:ev st.env x=r at hy hp;generalize c9 V x=y at hy hk;cases hw with
 |@sa O off n z id cap hz' hO=>
  simp only [CX] at hk;obtain⟨rfl,hk⟩:=bw hk;split at hk;rotate_left
  ·cases hk
  rename_i v ovs ho;split at hk;rotate_left
  ·cases hk
  have own:∃T∈[O]++cV y,∃o a,V.H.get T=some o/\A T=some a/\dX A o a id:=⟨O,by simp,_,_,ho,hO,.inl rfl⟩;have qjx:∃T∈[O],∃o a,V.H.get T=some o/\A T=some a/\dX A o a id:=⟨O,by simp,_,_,ho,hO,.inl rfl⟩;have src:∀{m:Nat} {sr:Src},dU z r=some (m,sr)->∀g,sr.q=some g->∃T∈[O]++cV y,∃o a,V.H.get T=some o/\A T=some a/\dX A o a g.id:=by
   intro m sr h1 g h2;cases hy with
   |@sl P _ hP=>
    simp only [Du] at hk;split at hk
    ·rename_i z' es ho';obtain⟨rfl,_⟩:=bw hk;obtain⟨b,hb,hs⟩:=hR.heap P _ ho';rw [hP] at hb;cases hb;rcases hs.2 with ⟨_,rfl|rfl⟩|⟨id2,g2,b2,cells,rfl,_⟩
     ·cases h1;cases h2
     ·simp only [dU,cond_eq_ite] at h1;split at h1
      ·cases h1;cases h2
      ·cases h1
     ·simp only [dU,cond_eq_ite] at h1;split at h1
      ·cases h1;cases h2;exact⟨P,by simp [cV],_,_,ho',hP,.inl rfl⟩
      ·cases h1
    ·cases hk
   |@tr v _ hcan=>
    obtain⟨xs,e1,_⟩:=hk;cases v<;>first|(cases e1;done)|skip
    cases hcan with
    |nil=>cases h1;cases h2
    |ei _ cs n z c hn hcl hsz hf hh=>
     simp only [dU,cond_eq_ite] at h1;split at h1
     ·cases h1;cases h2
     ·cases h1
   |bX=>cases h1;cases h2
   |m_=>
    simp only [dU,cond_eq_ite] at h1;split at h1
    ·cases h1;cases h2
    ·cases h1
   |_=>cases hk
  unfold C3 at hp;split at hp
  ·cases hp
  rename_i m sr hsr;simp only [Nat.beq_refl,cond_true] at hp;cases hp;refine⟨fun x hx=>?_,fun id' h=>?_⟩
  ·simp only [bg.dW,UJ,UK] at hx;rcases hx with hx|rfl
   ·split at hx
    ·rename_i g hg;simp at hx;subst hx;exact⟨g.id,rfl,src hsr g hg⟩
    ·cases hx
   ·exact⟨id,rfl,own⟩
  ·simp [bg.cW] at h;subst h;exact qjx
 |_=>cases hk
theorem IP (hR:R A V st) (ha:act g) {es bytes:Nat} {s x:aR} (h:eT V g s fun w=>eT V g x fun x=>Aq sh nt V d g es bytes w x k) {p:bg} (hp:qW es bytes (ev st.env s) (ev st.env x)=some p) :
  vV A V ⟨cV (c9 V s)++cV (c9 V x),cV (c9 V s),cV (c9 V s)⟩ p.dW p.cW:=by
 obtain⟨hw,h⟩:=gZ hR ha h;obtain⟨hy,hk⟩:=gZ hR ha h;generalize c9 V s=w at hw hk;generalize c9 V x=y at hy hk;replace hk:((∃s io xs,y=.gl s io xs)\/((∀O,y=.sl O->∃z es,V.H.get O=some (.gr z es))/\((∃v,y=.tr v)\/y=.bX\/∃O,y=.sl O)))/\
   (w=.bX\/(∃O o,w=.sl O/\V.H.get O=some o)\/∃O v i s io iz es,w=.ow O v i/\V.H.get O=some (.gn O s io iz v none es)):=by
  unfold Aq at hk;split at hk
  ·rename_i s' io xs;refine⟨.inl ⟨_,_,_,rfl⟩,?_⟩;replace hk:=(bw hk).2;unfold Bw at hk;split at hk
   ·cases hk
   split at hk
   ·exact .inl rfl
   ·split at hk
    ·rename_i ho;exact .inr (.inl ⟨_,_,rfl,ho⟩)
    ·cases hk
   ·cases hk
  ·replace hk:=(d_ hk).2;unfold Du at hk;split at hk
   ·obtain⟨xs,_,_,h⟩:=hk;refine⟨.inr ⟨fun O e=>(by cases e),.inl ⟨_,rfl⟩⟩,?_⟩;split at h
    ·exact .inl rfl
    ·split at h
     ·rename_i ho;exact .inr (.inl ⟨_,_,rfl,ho⟩)
     ·cases h
    ·obtain⟨_,_,_,_,ho,_⟩:=de h;exact .inr (.inr ⟨_,_,_,_,_,_,_,rfl,ho⟩)
    ·cases h
   ·refine⟨.inr ⟨fun O e=>(by cases e),.inr (.inl rfl)⟩,?_⟩;split at hk
    ·exact .inl rfl
    ·split at hk
     ·rename_i ho;exact .inr (.inl ⟨_,_,rfl,ho⟩)
     ·cases hk
    ·obtain⟨_,_,_,_,ho,_⟩:=de hk;exact .inr (.inr ⟨_,_,_,_,_,_,_,rfl,ho⟩)
    ·cases hk
   ·split at hk
    ·rename_i ho;refine⟨.inr ⟨fun O e=>(by cases e;exact⟨_,_,ho⟩),.inr (.inr ⟨_,rfl⟩)⟩,?_⟩;replace hk:=(bw hk).2;split at hk
     ·exact .inl rfl
     ·split at hk
      ·rename_i ho;exact .inr (.inl ⟨_,_,rfl,ho⟩)
      ·cases hk
     ·obtain⟨_,_,_,_,ho,_⟩:=de hk;exact .inr (.inr ⟨_,_,_,_,_,_,_,rfl,ho⟩)
     ·cases hk
    ·cases hk
   ·cases hk
 obtain⟨hky,hkw⟩:=hk;generalize ev st.env s=a at hw hp;generalize ev st.env x=b at hy hp;have hsrc:∀{m:Nat} {src:Src} {q:Di},dU es b=some (m,src)->src.q=some q->∃T∈cV y,∃o a,V.H.get T=some o/\A T=some a/\dX A o a q.id:=by
  intro m src q h1 h2;cases hy with
  |@sl O _ hO=>
   rcases hky with ⟨_,_,_,e⟩|⟨hgr,_⟩
   ·cases e
   obtain⟨z,es',ho⟩:=hgr O rfl;obtain⟨yy,hyy,hs⟩:=hR.heap O _ ho;rw [hO] at hyy;cases hyy;rcases hs.2 with ⟨_,rfl|rfl⟩|⟨id,gg,bb,cells,rfl,_⟩
   ·cases h1;cases h2
   ·simp only [dU,cond_eq_ite] at h1;split at h1
    ·cases h1;cases h2
    ·cases h1
   ·simp only [dU,cond_eq_ite] at h1;split at h1
    ·cases h1;cases h2;exact⟨O,by simp [cV],_,_,ho,hO,.inl rfl⟩
    ·cases h1
  |@tr v _ hc=>
   cases hc<;>first|(cases h1;done)|skip
   ·cases h1;cases h2
   ·simp only [dU,cond_eq_ite] at h1;split at h1
    ·cases h1;cases h2
    ·cases h1
   ·rename_i hf _;cases b<;>first|(cases hf;done)|skip
    all_goals first
     |(cases h1;cases h2;done)
     |(simp only [dU,cond_eq_ite] at h1
       split at h1
       ·cases h1;cases h2
       ·cases h1)
  |bX=>cases h1;cases h2
  |m_=>
   simp only [dU,cond_eq_ite] at h1;split at h1
   ·cases h1;cases h2
   ·cases h1
  |gl _ _ _ _ _=>
   simp only [dU,cond_eq_ite] at h1;split at h1
   ·cases h1;cases h2
   ·cases h1
  |_=>exfalso;rcases hky with ⟨_,_,_,e⟩|⟨_,⟨_,e⟩|e|⟨_,e⟩⟩<;>cases e
 have qxw:∀{id:Nat},cX a=some id->∃T∈cV w,∃o a,V.H.get T=some o/\A T=some a/\dX A o a id:=by
  intro id hi;rcases hkw with rfl|⟨O,o,rfl,ho⟩|⟨O,v,i,s,io,iz,es,rfl,ho⟩
  ·cases hw<;>cases hi
  ·cases hw with
   |sl hO=>exact⟨O,by simp [cV],_,_,ho,hO,.inl hi⟩
  ·cases hw with
   |ow hA=>obtain⟨a0,ha0,_⟩:=hR.heap O _ ho;exact⟨O,by simp [cV],_,_,ho,ha0,.inr ⟨i,_,by simp,hA,hi⟩⟩
 have mk:∀(q:Option Di) (u:Option Nat) (kk:List AV->Option fZ->Option Out),(∀r,q=some r->∃T∈cV y,∃o a,V.H.get T=some o/\A T=some a/\dX A o a r.id)->
   (∀i,u=some i->∃T∈cV w,∃o a,V.H.get T=some o/\A T=some a/\dX A o a i)->vV A V ⟨cV w++cV y,cV w,cV w⟩ (bg.look q u kk).dW (bg.look q u kk).cW:=by
  intro q u kk h1 h2;refine⟨fun z hz=>?_,fun id hid=>?_⟩
  ·simp only [bg.dW,UJ] at hz;rcases hz with hz|hz
   ·cases q with
    |none=>cases hz
    |some r=>simp at hz;subst hz;obtain⟨T,h3,h4⟩:=h1 r rfl;exact⟨r.id,rfl,T,List.mem_append_right _ h3,h4⟩
   ·cases u with
    |none=>cases hz
    |some i=>simp at hz;subst hz;obtain⟨T,h3,h4⟩:=h2 i rfl;exact⟨i,rfl,T,List.mem_append_left _ h3,h4⟩
  ·cases u with
   |none=>cases hid
   |some i=>simp [bg.cW] at hid;subst hid;exact h2 _ rfl
 unfold qW at hp;split at hp
 ·cases hp
 rename_i m src hm;rw [cond_eq_ite] at hp;split at hp
 ·rw [cond_eq_ite] at hp;split at hp
  ·cases hp;exact ym
  ·cases hp
 ·split at hp
  ·rw [cond_eq_ite] at hp;split at hp
   ·cases hp;exact mk _ _ _ (fun r hr=>hsrc hm hr) (fun i hi=>by cases hi)
   ·cases hp
  ·rw [cond_eq_ite] at hp;split at hp
   ·cases hp;exact mk _ _ _ (fun r hr=>hsrc hm hr) (fun i hi=>by cases hi)
   ·cases hp
  ·rename_i id gg off es' len cap ex;rw [cond_eq_ite] at hp;split at hp
   ·cases hp;unfold y_;rw [cond_eq_ite];split
    ·exact mk _ _ _ (fun r hr=>hsrc hm hr) (fun i hi=>by cases hi;exact qxw rfl)
    ·rw [cond_eq_ite];split
     ·exact mk _ _ _ (fun r hr=>hsrc hm hr) (fun i hi=>by cases hi;exact qxw rfl)
     ·exact mk _ _ _ (fun r hr=>hsrc hm hr) (fun i hi=>by cases hi;exact qxw rfl)
   ·cases hp
  ·cases hp
theorem og {V':au} (he:V'.env=V.env):∀(parts:List (Nat×Nat×aR)),fS V' parts=fS V parts
 |[]=>rfl
 |(_,_,x)::r=>by
  have e1:c9 V' x=c9 V x:=by cases x<;>simp only [c9,he]
  simp only [fS,og he r,e1]
theorem yT {sz:Nat}:∀(parts:List (Nat×Nat×aR)) (j:Nat) (V:au) (k:List TV->au->Prop),R A V st->kS V none true sz j parts k->
  ∀id∈(parts.map fun p=>ev st.env p.2.2).flatMap (bx deep st.H),∃T∈fS V parts,∃o a,V.H.get T=some o/\A T=some a/\dX A o a id
 |[],j,V,k,hR,hk,id,hid=>by simp at hid
 |(off,n,x)::r,j,V,k,hR,hk,id,hid=>by
  obtain⟨_,hk⟩:=hk;obtain⟨hw,hk⟩:=gZ (g:=none) hR trivial hk;rw [List.map_cons,List.flatMap_cons,UJ] at hid;have rest:∀{V1:au} {k':List TV->au->Prop},Sub V V1->kS V1 none true sz (j+1) r k'->id∈(r.map fun p=>ev st.env p.2.2).flatMap (bx deep st.H)->
    ∃T∈cV (c9 V x)++fS V r,∃o a,V.H.get T=some o/\A T=some a/\dX A o a id:=by
   intro V1 k' hs hk' hi;obtain⟨T,h1,o,a,h2,h3,h4⟩:=yT r (j+1) V1 k' (hs.r hR) hk' id hi;rw [og hs.env] at h1;exact⟨T,List.mem_append_right _ h1,o,a,hs.H _ _ h2,h3,h4⟩
  simp only [fS];generalize c9 V x=w at hw hk rest;generalize ev st.env x=a at hw hid;have no:a.plain=true->id∈bx deep st.H a->False:=fun hp hi=>by have:bx deep st.H a=[]:=qm hp 27 _;rw [this] at hi;cases hi
  cases hw with
  |tr hc=>exact hid.elim (fun hi=>(no (jc hc) hi).elim) (rest (Sub.refl V) hk.2)
  |bX=>exact hid.elim (fun hi=>(no rfl hi).elim) (rest (Sub.refl V) hk.2)
  |m_=>exact hid.elim (fun hi=>(no rfl hi).elim) (rest (Sub.refl V) hk.2)
  |@sl O _ hO=>obtain⟨_,_,hk⟩:=hk;obtain⟨ob,ho,hwh,es,hk,_⟩:=AO hk;refine hid.elim (fun hi=>?_) (rest (rW V (.sl O)) hk);obtain⟨y,hy,hs⟩:=hR.heap O _ ho;rw [hO] at hy;cases hy;exact⟨O,List.mem_append_left _ (by simp [cV]),_,_,ho,hO,ql hwh hs 27 id hi⟩
  |@st t o cs tl hv hc=>
   obtain⟨qzn,hk⟩:=hk;replace qzn:JV o=true:=by simpa using qzn
   have qxE:=ry hk;obtain⟨u,hk⟩:=sW hk;refine hid.elim (fun hi=>?_) (rest (k7 o V) hk.2);have hi':id∈cs.flatMap (bx 29 st.H):=hi;obtain⟨y,hy,hi'⟩:=List.mem_flatMap.1 hi';obtain⟨q,hq⟩:=List.getElem?_of_mem hy;have hlt:q < tl.length:=by rw [hc.len];exact(Uo.1 hq).1
   have hat:=hc.at_ q _ y (Un hlt) hq;cases ho:bU q o with
   |none=>rw [ho] at hat;have hh:bx 29 st.H y=[]:=oL hat.2 28 _;rw [hh] at hi';cases hi'
   |some w=>
    rw [ho] at hat;cases w<;>first|(exact absurd hat (by intro hh;exact hh))|skip
    ·rcases hat with e|e<;>(rw [e] at hi';cases hi')
    ·rename_i O;have hO:A O=some y:=hat;obtain⟨ob,hO',hwh⟩:=qxE q O (kg ho);obtain⟨y',hy',hs'⟩:=hR.heap O _ hO';rw [hO] at hy';cases hy';have hmem:∀{l:List (Nat×VV)} {i:Nat},(i,VV.sl O)∈l->O∈u_ l:=by
      intro l
      induction l with
      |nil=>intro i h;cases h
      |cons p l ih=>
       intro i h;obtain⟨i',w'⟩:=p;rcases UI.1 h with h1|h1
       ·cases h1;simp [u_]
       ·cases w'<;>first|exact ih h1|exact UH _ (ih h1)
     exact⟨O,List.mem_append_left _ (hmem (kg ho)),_,_,hO',hO,ql hwh hs' 26 id hi'⟩
    ·exact absurd (kg ho) (ye qzn _ _ _ _)
  |_=>cases hk
theorem k5 (hR:R A V st) (ha:act g):∀{xs:List aR} {k:Bool->List TV->Prop},uQ V xs=true->pV V g xs k->cz AV.plain (xs.map (ev st.env))=true
 |[],k,h,hk=>rfl
 |x::xs,k,h,hk=>by
  simp only [uQ,UN] at h;obtain⟨hw,hk⟩:=gZ hR ha hk;rw [List.map_cons,aX];have h1:=h.1;generalize c9 V x=w at hw hk h1;generalize ev st.env x=a at hw;have fin:∀{kk:Bool->List TV->Prop},a.plain=true->pV V g xs kk->∀y∈a::xs.map (ev st.env),AV.plain y=true:=by
   intro kk hp hk y hy;rcases UI.1 hy with rfl|hy
   ·exact hp
   ·exact aX.1 (k5 hR ha h.2 hk) y hy
  cases hw<;>first|(cases h1;done)|skip
  ·rename_i v hc;exact fin (jc hc) hk
  ·exact fin rfl hk
  ·exact fin rfl hk
  ·rename_i v ovs cs ts hv hc;obtain⟨t,hk⟩:=sW hk;exact fin (pq hc h1) hk
theorem H_ (hR:R A V st) {len:Nat} {zero:List AV} {parts:List (Nat×Nat×aR)} (h:wN sh nt V d none true len zero parts k) :
  ∀id∈(parts.map fun p=>ev st.env p.2.2).flatMap (bx deep st.H),∃T∈fS V parts,∃o a,V.H.get T=some o/\A T=some a/\dX A o a id:=by
 unfold wN at h;split at h
 ·unfold Fi at h;simp only at h;split at h
  ·split at h<;>first|(cases h;done)|skip
   split at h<;>first|(cases h;done)|skip
  ·exact yT parts 0 V _ hR (bw (d_ h).2).2
 ·simp only at h;split at h;rotate_left
  ·cases h
  rename_i off n x;split at h;rotate_left
  ·cases h
  obtain⟨w,hw,hk⟩:=b8 (g:=none) hR trivial h;have hpl:(ev st.env x).plain=true:=by
   generalize ev st.env x=p at hw;unfold Mu at hk;split at hk
   ·cases hw<;>rfl
   ·split at hk
    ·cases hw with
     |st hv hc=>exact pq hc rfl
    ·cases hk
   ·cases hk
  intro id hid;have hh:bx deep st.H (ev st.env x)=[]:=qm hpl 27 _;simp only [List.map_cons,List.map_nil,List.flatMap_cons,List.flatMap_nil,List.append_nil] at hid;rw [hh] at hid;cases hid
theorem Kb (hR:R A V st) {o:aq} (h:Kd sh prog nt V o k) {f:Dj} (hf:Bp V o=some f) {st':St} (hrun:dV (a_ prog) nt o st=some st') (n0:Nat) :
  ∃r,cq (a_ prog) nt n0 o st=some (st',r)/\vW A V f r/\r.CC=st.nx/\r.uN=st'.nx:=by
 obtain⟨dd,op,gd,fz⟩:=o;unfold dV at hrun;simp only [cond_eq_ite] at hrun;by_cases hw:wanted st.env gd=true;rotate_left
 ·rw [if_neg hw] at hrun;split at hrun
  ·rename_i e he;cases hrun;exact⟨⟨[],.ids [],st.H,st.H,st.nx,st.nx⟩,by simp only [cq,cond_eq_ite,if_neg hw,he],⟨fun x hx=>(by cases hx),⟨[],rfl,fun id hid=>(by cases hid)⟩⟩,rfl,rfl⟩
  ·cases hrun
 rw [if_pos hw] at hrun;split at hrun
 ·cases hrun
 rename_i v H' nx' hdo;split at hrun;rotate_left
 ·cases hrun
 rename_i e he;cases hrun;have fin:∀{dW:List Rd} {cW:List Nat},gP (a_ prog) n0 ⟨dd,op,gd,fz⟩ (ev st.env) st.H st.nx=some (v,H',nx',dW,.ids cW)->vV A V f dW cW->
   ∃r,cq (a_ prog) nt n0 ⟨dd,op,gd,fz⟩ st=some (⟨e,H',nx'⟩,r)/\vW A V f r/\r.CC=st.nx/\r.uN=nx':=by
  intro dW cW h1 h2;exact⟨⟨dW,.ids cW,st.H,H',st.nx,nx'⟩,by simp only [cq,cond_eq_ite,if_pos hw,h1,he],⟨h2.1,cW,rfl,h2.2⟩,rfl,rfl⟩
 cases fz with
 |true=>
  have hgd:gd=none:=by
   cases gd with
   |none=>rfl
   |some p=>cases h
  subst hgd;simp only [Kd] at h;split at h
  ·rename_i len zero parts;simp only [Bp] at hf;cases hf;have qzp:∀id∈(parts.map fun p=>ev st.env p.2.2).flatMap (bx deep st.H),∃T∈fS V parts,∃o a,V.H.get T=some o/\A T=some a/\dX A o a id:=H_ hR h;simp only [nW,cond_true] at hdo
   ·split at hdo
    ·cases hdo
    rename_i l hl;split at hdo
    ·rename_i v' hv';cases hdo;refine fin (dW:=((parts.map fun p=>ev st.env p.2.2).flatMap (bx deep st.H)).map Rd.obj) (cW:=(parts.map fun p=>ev st.env p.2.2).flatMap (bx deep st.H)) ?_ ⟨fun x hx=>?_,qzp⟩
     ·simp only [gP,cond_true,hl,hv']
     ·obtain⟨id,hid,rfl⟩:=UL.1 hx;exact⟨id,rfl,qzp id hid⟩
    ·cases hdo
  ·cases h
 |false=>
  have hev:∃g:G,act g/\qT sh prog nt V dd g op k:=by
   cases gd with
   |none=>exact⟨none,trivial,h⟩
   |some p=>
    obtain⟨n,bb⟩:=p;obtain⟨c,a,ha,hca,h⟩:=EI hR h;refine⟨some (c,bb),?_,h⟩;simp only [wanted,ha] at hw;split at hw
    ·rename_i b' hb;cases hb;cases hca;rotate_left
     ·rename_i hf _;cases hf
     show TV.b b'=TV.b bb;congr 1;cases b'<;>cases bb<;>first|rfl|cases hw
    ·cases hw
  obtain⟨g,hact,h⟩:=hev;have qxz:iO (a_ prog) op (ev st.env) st.H st.nx=some (v,H',nx'):=hdo;have plan:∀{p:(aR->AV)->Option bg},kind op=.plan p->(∀q,p (ev st.env)=some q->vV A V f q.dW q.cW)->∃r,cq (a_ prog) nt n0 ⟨dd,op,gd,false⟩ st=some (⟨e,H',nx'⟩,r)/\vW A V f r/\r.CC=st.nx/\r.uN=nx':=by
   intro p hk hl;simp only [iO,hk] at qxz;split at qxz
   ·rename_i q hq;refine fin (dW:=q.dW) (cW:=q.cW) ?_ (hl q hq);simp only [gP,cond_false,o_,hk,hq,qxz]
   ·cases qxz
  have plain:∀{p:(aR->AV)->Option bg},kind op=.plan p->xP (p (ev st.env))->∃r,cq (a_ prog) nt n0 ⟨dd,op,gd,false⟩ st=some (⟨e,H',nx'⟩,r)/\vW A V f r/\r.CC=st.nx/\r.uN=nx':=
   fun hk hs=>plan hk (fun q hq=>CI (hs q hq))
  have call:∀{n:Nat} {args:List aR},(kind op=.call n args .borrow\/∃fv,kind op=.eP fv args .borrow/\ev st.env fv=.func n)->cz AV.plain (args.map (ev st.env))=true->
    ∃r,cq (a_ prog) nt n0 ⟨dd,op,gd,false⟩ st=some (⟨e,H',nx'⟩,r)/\vW A V f r/\r.CC=st.nx/\r.uN=nx':=by
   intro n args hk hp;have hd:cR (a_ prog) n (args.map (ev st.env)) .borrow st.H st.nx=some (v,H',nx'):=by
    rcases hk with hk|⟨fv,hk,hf⟩
    ·simpa only [iO,hk] using qxz
    ·simpa only [iO,hk,hf] using qxz
   have hH:H'=st.H/\nx'=st.nx:=by
    have hd':=hd;simp only [cR,hp,cond_true] at hd';split at hd'
    ·cases hd';exact⟨rfl,rfl⟩
    ·cases hd'
   obtain⟨rfl,rfl⟩:=hH;refine fin (dW:=[]) (cW:=[]) ?_ ym;rcases hk with hk|⟨fv,hk,hf⟩
   ·simp only [gP,cond_false,o_,hk,dm,hp,cond_true,hd]
   ·simp only [gP,cond_false,o_,hk,hf,dm,hp,cond_true,hd]
  cases op with
  |mv x=>exact plain rfl (cr _)
  |pick c a b=>
   refine plain (p:=fun ρ=>tj ρ c a b) rfl ?_;unfold tj;split
   ·split<;>exact cr _
   ·exact aV
  |alloc zero=>exact plain rfl (mS _ _)
  |box x=>
   refine plain (p:=fun ρ=>Cv ρ x) rfl ?_;unfold Cv;split
   ·exact mS _ _
   ·exact aV
  |build zero parts=>
   refine plain (p:=fun ρ=>mZ ρ zero parts) rfl ?_;unfold mZ;split
   ·exact cr _
   ·exact aV
  |jd es len zero parts=>
   refine plain (p:=fun ρ=>lq ρ es len zero parts) rfl ?_;unfold lq;split
   ·exact mS _ _
   ·exact aV
  |b6 len zero parts=>
   refine plain (p:=fun ρ=>ep ρ len zero parts) rfl ?_;unfold ep;split
   ·rw [cond_eq_ite];split
    ·exact cr _
    ·exact aV
   ·exact aV
  |load sz a=>simp only [Bp] at hf;cases hf;exact plan (p:=fun ρ=>lp ρ sz a) rfl (fun q hq=>FX hR hact h hq)
  |store sz a x=>
   simp only [Bp] at hf;cases hf;cases g with
   |none=>
    cases dd with
    |none=>exact plan (p:=fun ρ=>lF ρ sz a x) rfl (fun q hq=>Ds hR h hq)
    |some _=>cases h
   |some _=>cases h
  |lW x=>refine plain (p:=fun ρ=>j_ ρ x) rfl ?_;unfold j_;split<;>first|exact cr _|exact aV
  |bin op x y=>exact plain (p:=fun ρ=>fe (Dc op (ρ x) (ρ y))) rfl (fP _)
  |eq t neg x y=>
   refine plain (p:=fun ρ=>HB ρ t neg x y) rfl ?_;unfold HB;split
   ·exact cr _
   ·exact aV
  |un op x=>exact plain (p:=fun ρ=>fe (Lf op (ρ x))) rfl (fP _)
  |conv c x=>
   refine plain (p:=fun ρ=>wj ρ c x) rfl ?_;unfold wj;split
   ·exact cr _
   ·exact aV
  |vg es bytes zero n=>
   refine plain (p:=fun ρ=>wh ρ es bytes zero n) rfl ?_;unfold wh;split
   ·split
    ·rw [cond_eq_ite];split
     ·exact mS _ _
     ·exact aV
    ·exact aV
   ·exact aV
  |nO x lo hi=>
   refine plain (p:=fun ρ=>oh ρ x lo hi) rfl ?_;unfold oh;split
   ·split
    ·exact aV
    ·exact cr _
   ·exact aV
  |n_ es x lo hi mx=>exact plain (p:=fun ρ=>fe (Dy es ρ (ρ x) lo hi mx)) rfl (fP _)
  |k9 n es x lo hi mx=>
   cases hf;obtain⟨hz,h⟩:=d_ h;cases g with
   |some q=>cases h
   |none=>
    cases lo with
    |some _=>cases h
    |none=>
     cases mx with
     |some _=>cases h
     |none=>exact plan (p:=fun ρ=>lG ρ n es x none hi none) rfl (fun q hq=>Dx hR h hq)
  |kO off x=>refine plain (p:=fun ρ=>ju ρ off x) rfl ?_;unfold ju;split<;>first|exact cr _|exact aV
  |F5 off sz x=>
   refine plain (p:=fun ρ=>Ct ρ off sz x) rfl ?_;unfold Ct;split
   ·split
    ·exact fP _
    ·exact aV
   ·exact aV
  |dP es x i=>
   refine plain (p:=fun ρ=>ke ρ es x i) rfl ?_;unfold ke;split
   ·split
    ·split
     ·split
      ·exact aV
      ·exact cr _
     ·exact aV
    ·rw [cond_eq_ite];split
     ·split
      ·exact cr _
      ·exact aV
     ·exact aV
    ·exact aV
   ·exact aV
  |oM len es x i=>
   refine plain (p:=fun ρ=>om ρ len es x i) rfl ?_;unfold om;split
   ·split
    ·split<;>first|exact cr _|exact aV
    ·exact aV
   ·exact aV
  |idx x i=>
   refine plain (p:=fun ρ=>Cs ρ x i) rfl ?_;unfold Cs;split
   ·split
    ·split
     ·exact cr _
     ·exact aV
    ·exact aV
   ·exact aV
  |ext i x=>
   refine plain (p:=fun ρ=>Cu ρ i x) rfl ?_;unfold Cu;split
   ·exact fP _
   ·exact aV
  |app es bytes s x=>simp only [Bp] at hf;cases hf;exact plan (p:=fun ρ=>qW es bytes (ρ s) (ρ x)) rfl (fun q hq=>IP hR hact h hq)
  |Gv es dd s=>
   cases hf;obtain⟨hz,h⟩:=d_ h;cases g with
   |some q=>cases h
   |none=>exact plan (p:=fun ρ=>C3 es (ρ dd) (ρ s)) rfl (fun q hq=>IB hR hz h hq)
  |Kw es zero x=>cases hf
  |len str x=>
   refine plain (p:=fun ρ=>lH ρ str x) rfl ?_;unfold lH;split
   ·split
    ·exact cr _
    ·exact aV
   ·split<;>first|exact cr _|exact aV
  |DR mx xs=>
   refine plain (p:=fun ρ=>Ba ρ mx xs) rfl ?_;unfold Ba;split
   ·exact fP _
   ·exact aV
  |ri=>cases h
  |q_ t zero ok m k=>cases hf
  |Bh t m k v=>cases hf
  |zm m=>cases hf
  |call n args m=>
   cases m with
   |share=>cases hf
   |borrow=>
    simp only [Bp] at hf;split at hf
    ·rename_i ht;simp only [qT] at h;exact call (.inl rfl) (k5 hR hact ht h)
    ·cases hf
  |eP fv args m=>
   cases m with
   |share=>cases hf
   |borrow=>
    simp only [Bp] at hf;split at hf
    ·rename_i ht;simp only [qT] at h;obtain⟨fvv,hfv,h⟩:=cm hR hact h;cases g with
     |none=>obtain⟨n,rfl,h⟩:=h;generalize he':ev st.env fv=p at hfv;cases hfv;exact call (.inr ⟨fv,rfl,he'⟩) (k5 (g:=none) hR trivial ht h)
     |some q=>obtain⟨c,bb⟩:=q;obtain⟨n,hn,h⟩:=h;obtain rfl:=hn hact;generalize he':ev st.env fv=p at hfv;cases hfv;exact call (.inr ⟨fv,rfl,he'⟩) (k5 hR hact ht h)
    ·cases hf
end
end Go.Ax.V
namespace Go.Ax.V
section
variable {sh:Sh} {prog:Map ak} {cf:iy} {nt:Nat}
theorem ko {n:Nat}:∀{l:List Nat},qS n l=true↔n∈l
 |[]=>by simp [qS]
 |m::l=>by simp [qS,ko (l:=l)]
theorem B4 {m:List Nat}:∀{l:List Nat},Jo l m=true->∀n∈l,n∈m
 |[],h,n,hn=>by cases hn
 |x::l,h,n,hn=>by
  simp only [Jo,UN] at h;rcases UI.1 hn with rfl|hn
  ·exact ko.1 h.1
  ·exact B4 h.2 n hn
theorem qw {m:List Nat}:∀{l:List Nat},Aw l m=true->∀n∈l,n ∉ m
 |[],h,n,hn=>by cases hn
 |x::l,h,n,hn=>by
  simp only [Aw,UN,UP] at h;rcases UI.1 hn with rfl|hn
  ·intro hm;rw [ko.2 hm] at h;exact absurd h.1 (by decide)
  ·exact qw h.2 n hn
theorem oc {info:List (Nat×Nat×List Nat)} {T:Nat}:∀{l:List Nat},T∈l->(ee T info).1∈k_ info l
 |[],h=>by cases h
 |x::l,h=>by
  rcases UI.1 h with rfl|h
  ·exact UG
  ·exact UH _ (oc h)
theorem um {info:List (Nat×Nat×List Nat)} {ah:List Nat}:∀{l:List Nat},mh info ah l=true->∀T∈l,∀c∈(ee T info).2,c∈ah
 |[],h,T,hT=>by cases hT
 |x::l,h,T,hT=>by
  simp only [mh,UN] at h;rcases UI.1 hT with rfl|hT
  ·exact B4 h.1
  ·exact um h.2 T hT
theorem fT (T T':Nat) (x:Nat×List Nat) (l:List (Nat×Nat×List Nat)):ee T ((T',x)::l)=if T'=T then x else ee T l:=by simp only [ee,cond_eq_ite,UQ]
theorem Gl {α:Type} (v:Option α) (l r:Map α) (p:Nat->Bool):zp (.node v l r) p=((match v with|none=>true|some _=>p 0)&&(zp l (fun k=>p (Nat.succ (Nat.mul 2 k)))&&zp r (fun k=>p (Nat.succ (Nat.succ (Nat.mul 2 k)))))):=rfl
theorem mw {α:Type}:∀(m:Map α) (p:Nat->Bool),zp m p=true->∀i x,m.get i=some x->p i=true
 |.leaf,p,h,i,x,hx=>by cases hx
 |.node v l r,p,h,i,x,hx=>by
  rw [Gl,UN,UN] at h;obtain⟨h1,h2,h3⟩:=h;rw [Map.cQ] at hx;by_cases h0:i=0
  ·subst h0;simp at hx;subst hx;exact h1
  ·rw [if_neg h0] at hx;split at hx
   ·have:=mw l _ h2 _ x hx;rwa [show Nat.succ (Nat.mul 2 (i / 2))=i by show 2*(i / 2)+1=i;omega] at this
   ·have:=mw r _ h3 _ x hx;rwa [show Nat.succ (Nat.succ (Nat.mul 2 (i / 2 - 1)))=i by show 2*(i / 2 - 1)+2=i;omega] at this
theorem jn {V:au} {T:Nat}:l9 V T=true↔∃o,V.H.get T=some o:=by
 unfold l9;split
 ·rename_i o ho;exact⟨fun _=>⟨o,ho⟩,fun _=>rfl⟩
 ·rename_i ho;exact⟨fun h=>(by cases h),fun ⟨o,h⟩=>(by rw [ho] at h;cases h)⟩
theorem BG {α:Type}:∀(m:Map α) (f:Nat->Prop->Prop) (P:Nat->Prop) (k:Prop),(∀T k,f T k->P T/\k)->Gk m f k->k/\∀T x,m.get T=some x->P T
 |.leaf,f,P,k,hf,h=>⟨h,fun T x hT=>(by cases hT)⟩
 |.node v l r,f,P,k,hf,h=>by
  have h':(match v with|none=>fun k=>k|some _=>f 0) (Gk l (fun i=>f (Nat.succ (Nat.mul 2 i))) (Gk r (fun i=>f (Nat.succ (Nat.succ (Nat.mul 2 i)))) k)):=h;have h0:(∀x,v=some x->P 0)/\Gk l (fun i=>f (Nat.succ (Nat.mul 2 i))) (Gk r (fun i=>f (Nat.succ (Nat.succ (Nat.mul 2 i)))) k):=by
   cases v with
   |none=>exact⟨fun x hx=>(by cases hx),h'⟩
   |some x=>obtain⟨p,q⟩:=hf 0 _ h';exact⟨fun _ _=>p,q⟩
  obtain⟨hl,h1⟩:=BG l _ (fun i=>P (Nat.succ (Nat.mul 2 i))) _ (fun T k h=>hf _ _ h) h0.2;obtain⟨hk,h2⟩:=BG r _ (fun i=>P (Nat.succ (Nat.succ (Nat.mul 2 i)))) _ (fun T k h=>hf _ _ h) hl;refine⟨hk,fun T x hT=>?_⟩;rw [Map.cQ] at hT;by_cases h00:T=0
  ·subst h00;rw [if_pos rfl] at hT;exact h0.1 x hT
  ·rw [if_neg h00] at hT;split at hT
   ·have:=h1 _ x hT;rwa [show Nat.succ (Nat.mul 2 (T / 2))=T by show 2*(T / 2)+1=T;omega] at this
   ·have:=h2 _ x hT;rwa [show Nat.succ (Nat.succ (Nat.mul 2 (T / 2 - 1)))=T by show 2*(T / 2 - 1)+2=T;omega] at this
def I4:Option VO->Option VO->Prop
 |some (.gn K _ _ _ v h _),some (.gn K' _ _ _ v' h' _)=>K=K'/\v=v'/\(h=none\/h=h')
 |some (.gn ..),some _=>False
 |some _,some (.gn ..)=>False
 |_,_=>True
theorem GQ {x y:Option VO} {k:Prop} (h:GR x y k):I4 x y/\k:=by
 unfold GR at h;split at h
 ·split at h
  ·split at h
   ·rename_i hb;rw [UN,UQ,UQ] at hb;obtain⟨rfl,rfl⟩:=hb;split at h
    ·exact⟨⟨rfl,rfl,.inl rfl⟩,h⟩
    ·split at h
     ·obtain⟨rfl,h⟩:=h;exact⟨⟨rfl,rfl,.inr rfl⟩,h⟩
     ·cases h
   ·cases h
  ·cases h
  ·exact⟨trivial,h⟩
 ·rename_i o hne;split at h
  ·cases h
  ·rename_i qzY;refine⟨?_,h⟩;cases o<;>first|(exact(hne _ _ _ _ _ _ _ rfl).elim)|skip
   all_goals (cases y with
    |none=>trivial
    |some o=>cases o<;>first|trivial|exact(qzY _ _ _ _ _ _ _ rfl).elim)
 ·exact⟨trivial,h⟩
def KD (V V':au):Prop:=∀T o,V'.H.get T=some o->I4 (V.H.get T) (V'.H.get T)
theorem Ez {l:List aq} {V V':au} {k:Prop} (h:FC l V V' k):k/\(l≠[]->KD V V'):=by
 cases l with
 |nil=>exact⟨h,fun hn=>absurd rfl hn⟩
 |cons o l=>obtain⟨h1,h2⟩:=BG V'.H _ (fun T=>I4 (V.H.get T) (V'.H.get T)) k (fun T k h=>GQ h) h;exact⟨h1,fun _ T o ho=>h2 T o ho⟩
theorem tY {A A1:bt} {V V1:au} {st:St} (hR:R A V st) (hx:Ext V A V1 A1) (hs:KD V V1) {T:Nat} {o o':VO} {a:AV} {id:Nat} (h':V.H.get T=some o') (h:V1.H.get T=some o) (ha:A T=some a) (hi:dX A1 o a id):dX A o' a id:=by
 have hso:=hs T o h;rw [h',h] at hso;rcases hi with hi|hi
 ·exact .inl hi
 cases o with
 |gn K s io iz v hl es=>
  cases o' with
  |gn K' s' io' iz' v' hl' es'=>
   obtain⟨rfl,rfl,hh⟩:=hso;obtain⟨j,x,h1,h2,h3⟩:=hi;obtain⟨rfl,hv,_⟩:=hR.gh T _ a h' ha;rcases hx.new _ x h2 with h4|h4|⟨K2,v2,j2,s2,io2,iz2,ver2,qzj,es2,e,h4,h5⟩
   ·refine .inr ⟨j,x,fun he=>?_,h4,h3⟩;rcases hh with rfl|rfl
    ·cases he
    ·exact h1 he
   ·obtain⟨y,hy,_⟩:=hR.heap _ _ h';have:=hR.used (.s K') h4;rw [hy] at this;cases this
   ·cases e;rw [h'] at h4;cases h4;omega
  |_=>cases hso
 |_=>cases hi
structure I8 (hp:Prop) (n0:Nat) (rs:List Rec) (A:bt) (V:au) (st:St) (info:List (Nat×Nat×List Nat)) (ρ:Nat->Option Nat):Prop where
 known:∀T o a id,V.H.get T=some o->A T=some a->dX A o a id->id < n0\/∃c∈(ee T info).2,∃r,rs[c]?=some r/\r.CC<=id/\id < r.uN
 root:hp->∀T o a id,V.H.get T=some o->A T=some a->dX A o a id->ρ id=some (ee T info).1
 dom:∀id q,ρ id=some q->id < st.nx
def zq (ρ:Nat->Option Nat) (r:Rec) (f:List Nat×List Nat):Prop:=
 (∀x∈r.dW,∃id,(match x with|.w7 q=>q.id=id|.obj i=>i=id|.all=>False)/\∃q,ρ id=some q/\q∈f.1)/\∃l,r.cW=.ids l/\∀id∈l,∃q,ρ id=some q/\q∈f.2
structure Gn (hp:Prop) (n0:Nat) (ahead:List (List Nat)) (rs:List Rec) (feet:List (List Nat×List Nat)) (ρ:Nat->Option Nat) (P:List (Nat×Nat)):Prop where
 len:feet.length=rs.length
 JD:hp->∀(c:Nat) r f,rs[c]?=some r->feet[c]?=some f->zq ρ r f\/∀p∈P,(p.1=c\/p.2=c)->j9 rs p=true
 known:∀(c:Nat) r ah,rs[c]?=some r->ahead[c]?=some ah->∀rs',(∀(i:Nat) a,rs[i]?=some a->rs'[i]?=some a)->r.dW.all (Hj n0 rs' ah)=true/\zw n0 rs' ah r.cW=true
theorem yb {rs:List Rec} {r:Rec} {p:Nat×Nat} (h:j9 rs p=true):j9 (rs++[r]) p=true:=by
 unfold j9 at h ⊢;split at h
 ·rename_i a b ha hb;have h1:(rs++[r])[p.1]?=some a:=by rw [Uq (Uo.1 ha).1];exact ha
  have h2:(rs++[r])[p.2]?=some b:=by rw [Uq (Uo.1 hb).1];exact hb
  rw [h1,h2];exact h
 ·cases h
theorem zq.mono {ρ ρ':Nat->Option Nat} (h:∀id q,ρ id=some q->ρ' id=some q) {r:Rec} {f:List Nat×List Nat} (hr:zq ρ r f):zq ρ' r f:=
 ⟨fun x hx=>let ⟨id,h1,q,h2,h3⟩:=hr.1 x hx;⟨id,h1,q,h _ _ h2,h3⟩,let ⟨l,h1,h2⟩:=hr.2;⟨l,h1,fun id hid=>let ⟨q,h3,h4⟩:=h2 id hid;⟨q,h _ _ h3,h4⟩⟩⟩
def Oy (d:Option Nat) (info:List (Nat×Nat×List Nat)):Nat:=match d with
 |some T=>(ee T info).1
 |none=>0
theorem GG {n0 i:Nat} {rs:List Rec} {A A1:bt} {V V1:au} {st st1:St} {info info':List (Nat×Nat×List Nat)} {ρ:Nat->Option Nat} {f:Dj} {d:Option Nat} {r:Rec} {feet:List (List Nat×List Nat)} {ahead:List (List Nat)} {ah:List Nat}
  (hR:R A V st) (hR1:R A1 V1 st1) (hF:Fr V A st.H st.nx V1 A1 st1.H st1.nx) (hx:Ext V A V1 A1) {hp:Prop} {P:List (Nat×Nat)} (hinv:I8 hp n0 rs A V st info ρ) (hh:Gn hp n0 ahead rs feet ρ P) (hi:rs.length=i)
  (hfo:vW A V f r) (h0:r.CC=st.nx) (h1:r.uN=st1.nx) (hah:ahead[i]?=some ah) (hch:mh info ah (f.rd++f.wr)=true) (hs:zO d i V V1 f info=some info') :
  ∃ρ',(KD V V1->I8 hp n0 (rs++[r]) A1 V1 st1 info' ρ')/\Gn hp n0 ahead (rs++[r]) (feet++[(k_ info f.rd,k_ info f.wr)]) ρ' P:=by
 have qx7:(rs++[r])[i]?=some r:=by rw [Ur (by omega),hi,Nat.sub_self];rfl
 have hold:∀(c:Nat) a,rs[c]?=some a->(rs++[r])[c]?=some a:=fun c a hc=>by rw [Uq (Uo.1 hc).1];exact hc
 have hkeys:∀T o,V1.H.get T=some o->(∃o',V.H.get T=some o')\/d=some T:=by
  unfold zO at hs;split at hs
  ·cases hs
  ·rename_i hc;intro T o hT;have:=mw _ _ hc T o hT;rw [UO] at this;rcases this with h|h
   ·exact .inl (jn.1 h)
   ·right;cases d with
    |none=>cases h
    |some d=>simp [Tl] at h;rw [h]
 have hnew:∀T,d=some T->V.H.get T=none->∀o,V1.H.get T=some o->∃rt ch,info'=(T,rt,ch)::info/\i∈ch/\∀O o',V.H.get O=some o'->(l9 V1 O&&E5 (V.H.get O) (V1.H.get O))=false->(ee O info).1=rt/\∀c∈(ee O info).2,c∈ch:=by
  intro T hd hT o ho;subst hd;unfold zO at hs;split at hs
  ·cases hs
  simp only at hs;have hb:(l9 V1 T&&!l9 V T)=true:=by
   have e1:l9 V1 T=true:=jn.2 ⟨o,ho⟩;have e2:l9 V T=false:=by
    cases hh:l9 V T with
    |false=>rfl
    |true=>obtain⟨o',h'⟩:=jn.1 hh;rw [hT] at h';cases h'
   rw [e1,e2];rfl
  rw [hb] at hs;simp only at hs;split at hs
  ·cases hs
  rename_i hc;have gone:∀O o',V.H.get O=some o'->(l9 V1 O&&E5 (V.H.get O) (V1.H.get O))=false->O∈f.src:=fun O o' h2 h3=>by
   have:=mw _ _ hc O o' h2;rw [UO] at this;rcases this with h|h
   ·exact ko.1 h
   ·rw [h3] at h;cases h
  split at hs
  ·rename_i hsrc;cases hs;exact⟨_,_,rfl,by simp,fun O o' h2 h3=>by have:=gone O o' h2 h3;rw [hsrc] at this;cases this⟩
  ·rename_i O1 hsrc;cases hs;refine⟨_,_,rfl,UG,fun O o' h2 h3=>?_⟩;have:=gone O o' h2 h3;rw [hsrc] at this;simp at this;subst this;exact⟨rfl,fun c hc=>UH _ hc⟩
  ·cases hs
 have hsame:∀T o,V.H.get T=some o->ee T info'=ee T info:=by
  intro T o hT;unfold zO at hs;split at hs
  ·cases hs
  cases d with
  |none=>cases hs;rfl
  |some d=>
  simp only at hs;split at hs
  ·cases hs;rfl
  rename_i hb;simp only [UN,UP] at hb;have hne:d≠T:=by rintro rfl;rw [jn.2 ⟨o,hT⟩] at hb;exact absurd hb.2 (by decide)
  split at hs
  ·cases hs
  split at hs
  ·cases hs;rw [fT,if_neg hne]
  ·cases hs;rw [fT,if_neg hne]
  ·cases hs
 have hid:KD V V1->∀T,d=some T->V.H.get T=none->∀o a id,V1.H.get T=some o->A1 T=some a->dX A1 o a id->(st.nx<=id/\id < st1.nx)\/∃(O:Nat) (o':VO) (a':AV),V.H.get O=some o'/\(l9 V1 O&&E5 (V.H.get O) (V1.H.get O))=false/\A O=some a'/\dX A o' a' id:=by
  intro hsm T hd hT o a id ho ha qxW;have qxh:cY V1 A1 id:=⟨T,o,a,ho,ha,qxW⟩;rcases hF.own id qxh with ⟨O,o',a',g1,g2,g3⟩|hle
  ·right;refine⟨O,o',a',g1,?_,g2,g3⟩;cases hO:V1.H.get O with
   |none=>
    have:l9 V1 O=false:=by
     cases hh:l9 V1 O with
     |false=>rfl
     |true=>obtain⟨o2,h2⟩:=jn.1 hh;rw [hO] at h2;cases h2
    rw [this];rfl
   |some o2=>
    rw [jn.2 ⟨o2,hO⟩,Bool.true_and,g1];have hne:O≠T:=by rintro rfl;rw [hT] at g1;cases g1
    have key:¬dX A1 o2 a' id:=fun hi=>hne (hR1.inj O T o2 o a' a id hO ho (hx.mono _ _ g2) ha hi qxW)
    have hso:=hsm O o2 hO;rw [g1,hO] at hso;have hfw:=J1 hx.mono g3;cases o' with
    |gn K s io iz v h es=>
     cases o2 with
     |gn K' s' io' iz' v' h' es'=>
      obtain⟨rfl,rfl,hh⟩:=hso;rcases hh with rfl|rfl
      ·cases h' with
       |some j=>rfl
       |none=>
        exfalso;apply key;rcases hfw with hfw|⟨j,x,p1,p2,p3⟩
        ·exact .inl hfw
        ·exact .inr ⟨j,x,by simp,p2,p3⟩
      ·exfalso;apply key;rcases hfw with hfw|⟨j,x,p1,p2,p3⟩
       ·exact .inl hfw
       ·exact .inr ⟨j,x,p1,p2,p3⟩
     |_=>cases hso
    |_=>
     exfalso;rcases hfw with hfw|hfw
     ·exact key (.inl hfw)
     ·cases hfw
  ·exact .inl ⟨hle,hR1.h_ qxh⟩
 let rtD:Nat:=Oy d info'
 let ρ':Nat->Option Nat:=fun id=>if id < st.nx then ρ id else if id < st1.nx then some rtD else none
 have hρ:∀id q,ρ id=some q->ρ' id=some q:=fun id q h=>by show (if id < st.nx then ρ id else _)=_;rw [if_pos (hinv.dom id q h)];exact h
 have qxY:∀T o,V.H.get T=some o->∃a,A T=some a:=fun T o h=>let ⟨a,h1,_⟩:=hR.heap T o h;⟨a,h1⟩
 refine⟨ρ',fun hsm=>⟨fun T o a id ho ha qxW=>?_,fun hP T o a id ho ha qxW=>?_,fun id q h=>?_⟩,⟨by simp [hh.len],fun hP c r' f' hr hf=>?_,fun c r' ah' hr ha' rs' qzH=>?_⟩⟩
 ·cases hT:V.H.get T with
  |some o'=>obtain⟨a',ha'⟩:=qxY T o' hT;have:=hx.mono _ _ ha';rw [ha] at this;cases this;rw [hsame T o' hT];have qx9:=tY hR hx hsm hT ho ha' qxW;exact(hinv.known T o' a id hT ha' qx9).imp (fun h=>h) (fun ⟨c,h2,r2,h3,h4⟩=>⟨c,h2,r2,hold c r2 h3,h4⟩)
  |none=>
   have hd:d=some T:=(hkeys T o ho).elim (fun ⟨o',h⟩=>by rw [hT] at h;cases h) (fun h=>h);obtain⟨rt,ch,qx8,qjq,hO⟩:=hnew T hd hT o ho;rw [qx8,fT,if_pos rfl];rcases hid hsm T hd hT o a id ho ha qxW with ⟨h2,h3⟩|⟨O,o',a',g1,g2,g3,g4⟩
   ·exact .inr ⟨i,qjq,r,qx7,by rw [h0];exact h2,by rw [h1];exact h3⟩
   ·obtain⟨_,hc⟩:=hO O o' g1 g2;exact(hinv.known O o' a' id g1 g3 g4).imp (fun h=>h) (fun ⟨c,h2,r2,h3,h4⟩=>⟨c,hc c h2,r2,hold c r2 h3,h4⟩)
 ·cases hT:V.H.get T with
  |some o'=>obtain⟨a',ha'⟩:=qxY T o' hT;have:=hx.mono _ _ ha';rw [ha] at this;cases this;rw [hsame T o' hT];have qx9:=tY hR hx hsm hT ho ha' qxW;exact hρ _ _ (hinv.root hP T o' a id hT ha' qx9)
  |none=>
   have hd:d=some T:=(hkeys T o ho).elim (fun ⟨o',h⟩=>by rw [hT] at h;cases h) (fun h=>h);obtain⟨rt,ch,qx8,qjq,hO⟩:=hnew T hd hT o ho;rcases hid hsm T hd hT o a id ho ha qxW with ⟨h2,h3⟩|⟨O,o',a',g1,g2,g3,g4⟩
   ·show (if id < st.nx then ρ id else if id < st1.nx then some rtD else none)=_;rw [if_neg (by omega),if_pos h3];show some (Oy d info')=_;rw [hd];rfl
   ·obtain⟨qxO,_⟩:=hO O o' g1 g2;rw [qx8,fT,if_pos rfl,←qxO];exact hρ _ _ (hinv.root hP O o' a' id g1 g3 g4)
 ·have h':(if id < st.nx then ρ id else if id < st1.nx then some rtD else none)=some q:=h;split at h'
  ·have:=hF.le;omega
  ·split at h'
   ·assumption
   ·cases h'
 ·by_cases hc:c < rs.length
  ·rw [Uq hc] at hr;rw [Uq (by rw [hh.len];exact hc)] at hf;exact(hh.JD hP c r' f' hr hf).imp (fun h=>h.mono hρ) (fun h p hp hc=>yb (h p hp hc))
  ·have hce:c=rs.length:=by have:=(Uo.1 hr).1;simp at this;omega
   subst hce;rw [Ur (U3 _),Nat.sub_self] at hr;rw [Ur (by rw [hh.len];exact U3 _),hh.len,Nat.sub_self] at hf;cases hr;cases hf;refine .inl ⟨fun x hx'=>?_,?_⟩
   ·obtain⟨id,g1,T,g2,o,a,g3,g4,g5⟩:=hfo.rd x hx';exact⟨id,g1,_,hρ _ _ (hinv.root hP T o a id g3 g4 g5),oc g2⟩
   ·obtain⟨l,g1,g2⟩:=hfo.wr;refine⟨l,g1,fun id qxv=>?_⟩;obtain⟨T,g3,o,a,g4,g5,g6⟩:=g2 id qxv;exact⟨_,hρ _ _ (hinv.root hP T o a id g4 g5 g6),oc g3⟩
 ·by_cases hc:c < rs.length
  ·rw [Uq hc] at hr;exact hh.known c r' ah' hr ha' rs' (fun j a hj=>qzH j a (hold j a hj))
  ·have hce:c=rs.length:=by have:=(Uo.1 hr).1;simp at this;omega
   subst hce;rw [Ur (U3 _),Nat.sub_self] at hr;cases hr;rw [hi,hah] at ha';cases ha';have okId:∀T o a id,T∈f.rd++f.wr->V.H.get T=some o->A T=some a->dX A o a id->CP n0 rs' ah id=true:=by
    intro T o a id hT g1 g2 g3;unfold CP;rw [UO];rcases hinv.known T o a id g1 g2 g3 with h|⟨c,h2,r2,h3,h4,h5⟩
    ·exact .inl (by simpa using h)
    ·right;rw [List.any_eq_true];refine⟨c,um hch T hT c h2,?_⟩;rw [qzH c r2 (hold c r2 h3)];simp only [UN];exact⟨by simpa using h4,by simpa using h5⟩
   refine⟨UM.2 (fun x hx'=>?_),?_⟩
   ·obtain⟨id,g1,T,g2,o,a,g3,g4,g5⟩:=hfo.rd x hx';have:=okId T o a id (List.mem_append_left _ g2) g3 g4 g5;cases x with
    |w7 q=>cases g1;exact this
    |obj j=>cases g1;exact this
    |all=>cases g1
   ·obtain⟨l,g1,g2⟩:=hfo.wr;rw [g1];refine UM.2 (fun id qxv=>?_);obtain⟨T,g3,o,a,g4,g5,g6⟩:=g2 id qxv;exact okId T o a id (List.mem_append_right _ g3) g4 g5 g6
theorem wo {n0:Nat} {rs:List Rec}:∀(ahead:List (List Nat)) (l:List Rec),ahead.length=l.length->(∀(c:Nat) r ah,l[c]?=some r->ahead[c]?=some ah->r.dW.all (Hj n0 rs ah)=true/\zw n0 rs ah r.cW=true)->kr n0 rs ahead l=true
 |[],[],h,hk=>rfl
 |[],_::_,h,hk=>by cases h
 |_::_,[],h,hk=>by cases h
 |a::as,r::l,h,hk=>by obtain⟨h1,h2⟩:=hk 0 r a rfl rfl;simp only [kr,h1,h2,Bool.true_and];exact wo as l (Nat.succ.inj h) (fun c r' ah hr ha=>hk (c+1) r' ah (by simpa using hr) (by simpa using ha))
theorem B5 {ρ:Nat->Option Nat} {a b:Rec} {fa fb:List Nat×List Nat} (ha:zq ρ a fa) (hb:zq ρ b fb) (hd:∀q∈fa.2,q ∉ fb.1):still a b=true:=by
 unfold still;rw [aX];intro x hx;obtain⟨id,h1,q,h2,h3⟩:=hb.1 x hx;obtain⟨l,h4,h5⟩:=ha.2;have hno:id ∉ l:=fun hm=>by obtain⟨q',h6,h7⟩:=h5 id hm;rw [h2] at h6;cases h6;exact hd q h7 h3
 have hc:l.contains id=false:=by
  cases hh:l.contains id with
  |false=>rfl
  |true=>exact absurd (by simpa using hh) hno
 cases x with
 |w7 r=>cases h1;simp only [js,h4,hc,cond_false]
 |obj j=>cases h1;simp only [js,h4,hc,Bool.not_false]
 |all=>cases h1
theorem IU {ρ:Nat->Option Nat} {a b:Rec} {fa fb:List Nat×List Nat} (ha:zq ρ a fa) (hb:zq ρ b fb) (hd:∀q∈fa.2,q ∉ fb.2):apart a b=true:=by
 obtain⟨l,h1,h2⟩:=ha.2;obtain⟨l',h3,h4⟩:=hb.2;unfold apart;rw [h1,h3];simp only;rw [UM];intro id hid;obtain⟨q,h5,h6⟩:=h2 id hid;cases hh:l'.contains id with
 |false=>rfl
 |true=>obtain⟨q',h7,h8⟩:=h4 id (by simpa using hh);rw [h5] at h7;cases h7;exact absurd h8 (hd q h6)
theorem Cr {n0:Nat} {ahead:List (List Nat)} {rs:List Rec} {feet:List (List Nat×List Nat)} {ρ:Nat->Option Nat} {hp:Prop} {P:List (Nat×Nat)} (hh:Gn hp n0 ahead rs feet ρ P):∀{pairs:List (Nat×Nat)},(∀p∈pairs,p∈P)->(pairs≠[]->hp)->A_ feet pairs=true->cz (j9 rs) pairs=true
 |[],_,_,h=>rfl
 |(i,j)::l,hsub,hpp,h=>by
  have hP:=hpp (by simp);simp only [A_,UN] at h;rw [aX];intro p hp;rcases UI.1 hp with rfl|hp
  ·have h1:=h.1;split at h1;rotate_left
   ·cases h1
   rename_i fa hfa;split at h1;rotate_left
   ·cases h1
   rename_i fb hfb;rw [UN,UN] at h1;obtain⟨d1,d2,d3⟩:=h1;have li:=(Uo.1 hfa).1;have lj:=(Uo.1 hfb).1;rw [hh.len] at li lj;have ra:=Un li;have rb:=Un lj;rcases hh.JD hP i _ fa ra hfa with ha|ha;rotate_left
   ·exact ha _ (hsub _ UG) (.inl rfl)
   rcases hh.JD hP j _ fb rb hfb with hb|hb;rotate_left
   ·exact hb _ (hsub _ UG) (.inr rfl)
   unfold j9;simp only [ra,rb,UN];exact⟨⟨B5 ha hb (qw d1),B5 hb ha (qw d2)⟩,IU ha hb (qw d3)⟩
  ·exact aX.1 (Cr hh (fun q hq=>hsub q (UH _ hq)) (fun _=>hP) h.2) p hp
def gE (info:List (Nat×Nat×List Nat)):List Nat:=info.map (·.1)
theorem c_:∀{info:List (Nat×Nat×List Nat)} {V:au} {O:Nat} {o:VO},(gb info V).H.get O=some o->O ∉ gE info/\V.H.get O=some o
 |[],V,O,o,h=>⟨by simp [gE],h⟩
 |(T,x)::l,V,O,o,h=>by obtain⟨h1,h2⟩:=c_ (info:=l) (V:=bT V T) h;obtain⟨h3,h4⟩:=eO h2;refine⟨fun hm=>?_,h4⟩;simp only [gE,List.map_cons,UI] at hm;exact hm.elim h3 h1
theorem yX:∀(info:List (Nat×Nat×List Nat)) (V:au),(gb info V).env=V.env/\(gb info V).us=V.us
 |[],V=>⟨rfl,rfl⟩
 |(T,x)::l,V=>by obtain⟨h1,h2⟩:=yX l (bT V T);exact⟨h1,h2⟩
theorem sw {T:Nat}:∀{info:List (Nat×Nat×List Nat)},T ∉ gE info->ee T info=(T,[])
 |[],_=>rfl
 |(T',x)::l,h=>by simp only [gE,List.map_cons,UI,not_or] at h;rw [fT,if_neg (Ne.symm h.1)];exact sw h.2
theorem yw {i T:Nat} {info:List (Nat×Nat×List Nat)}:∀{ns:List Nat},T∈ns->ee T (wu i ns info)=(T,[i])
 |[],h=>by cases h
 |T'::r,h=>by
  simp only [wu,fT];by_cases e:T'=T
  ·subst e;rw [if_pos rfl]
  ·rw [if_neg e];rcases UI.1 h with rfl|h
   ·exact absurd rfl e
   ·exact yw h
theorem qk {i T:Nat} {info:List (Nat×Nat×List Nat)}:∀{ns:List Nat},T ∉ ns->ee T (wu i ns info)=ee T info
 |[],h=>rfl
 |T'::r,h=>by simp only [UI,not_or] at h;simp only [wu,fT,if_neg (Ne.symm h.1)];exact qk h.2
theorem qh {V:au}:∀{l:List Nat},CD V l=true->∀T∈l,V.H.get T=none
 |[],h,T,hT=>by cases hT
 |x::l,h,T,hT=>by
  simp only [CD,UN] at h;rcases UI.1 hT with rfl|hT
  ·have h1:=h.1;split at h1
   ·cases h1
   ·assumption
  ·exact qh h.2 T hT
theorem BS {V:au} {o:aq} {ns:List Nat} (h:AG sh V o=some ns):(∃d f args,o=⟨some d,.call f args .share,none,false⟩)\/∃d f args,o=⟨d,.call f args .borrow,none,false⟩:=by
 obtain⟨dd,op,gd,fz⟩:=o;unfold AG at h;simp only at h;split at h
 ·cases h
 split at h
 ·cases h
 split at h
 ·split at h
  ·exact .inl ⟨_,_,_,rfl⟩
  ·cases h
 ·exact .inr ⟨_,_,_,rfl⟩
 ·cases h
theorem mj {A A1:bt} {V V1:au} {st:St} {st1:St} {qxr:List (Nat×Nat×List Nat)} (hR:R A V st) (hx:∀O x,A O=some x->A1 O=some x)
  (hH:∀T o a id,T∈gE qxr->V.H.get T=some o->A T=some a->dX A o a id->st1.H.get id=st.H.get id)
  (hown:∀id,cY V1 A1 id->cY (gb qxr V) A id\/st.nx<=id) :
  ∀(info:List (Nat×Nat×List Nat)) (W:au),(∀T∈gE info,T∈gE qxr)->R A1 W st1->(∀O o,W.H.get O=some o->V1.H.get O=some o\/(O∈gE qxr/\V.H.get O=some o/\o.pl=true))->
   R A1 (mm V info W) st1/\(mm V info W).env=W.env/\(mm V info W).us=W.us/\(∀O o,(mm V info W).H.get O=some o->V1.H.get O=some o\/(O∈gE qxr/\V.H.get O=some o/\o.pl=true))/\∀O o,W.H.get O=some o->(mm V info W).H.get O=some o
 |[],W,_,hW,hk=>⟨hW,rfl,rfl,hk,fun _ _ h=>h⟩
 |(T,x)::l,W,hs,hW,hk=>by
  have hsl:∀T∈gE l,T∈gE qxr:=fun T' h=>hs T' (by simp only [gE,List.map_cons,UI];exact .inr h)
  have hT:T∈gE qxr:=hs T (by simp [gE]);simp only [mm];split
  ·exact mj hR hx hH hown l W hsl hW hk
  rename_i hWT;split;rotate_left
  ·exact mj hR hx hH hown l W hsl hW hk
  rename_i o ho;split;rotate_left
  ·exact mj hR hx hH hown l W hsl hW hk
  rename_i hpl;obtain⟨a,hA,hor⟩:=hR.heap T o ho;have qxJ:∀id,cX a=some id->cY V A id:=fun id hi=>⟨T,o,a,ho,hA,.inl hi⟩
  obtain⟨hR',_⟩:=u7 (hpl:=hpl) hW (O:=T) (o:=o) (hx _ _ hA) (hor.mono hx (fun id hi=>hH T o a id hT ho hA hi)) (fun id hi ⟨O,o',a',h1,h2,h3⟩=>by
   rcases hk O o' h1 with h4|⟨h4,h5,qzi⟩
   ·rcases hown id ⟨O,o',a',h4,h2,h3⟩ with ⟨O2,o2,a2,h6,h7,h8⟩|hle
    ·obtain⟨hn,h6'⟩:=c_ h6;have:=hR.inj O2 T o2 o a2 a id h6' ho h7 hA h8 (.inl hi);subst this;exact hn hT
    ·have:=hR.h_ (qxJ id hi);omega
   ·obtain⟨a2,h7,_⟩:=hR.heap O o' h5;have:=hx _ _ h7;rw [h2] at this;cases this;have:=hR.inj O T o' o a' a id h5 ho h7 hA ((dj qzi).2 ((dj qzi).1 h3)) (.inl hi);subst this;rw [hWT] at h1;cases h1)
  obtain⟨g1,g2,g3,g4,g5⟩:=mj hR hx hH hown l (bu W T o) hsl hR' (fun O o' h=>by
   simp only [bu,Map.aa] at h;split at h
   ·rename_i e;subst e;cases h;exact .inr ⟨hT,ho,hpl⟩
   ·exact hk O o' h)
  refine⟨g1,g2,g3,g4,fun O o' h=>g5 O o' ?_⟩;simp only [bu,Map.aa];split
  ·rename_i e;subst e;rw [hWT] at h;cases h
  ·exact h
def MW (prog:Map ak) (nt n0:Nat) (o:aq) (A:bt) (V1:au) (st:St) (k:au->Prop):Prop:=
 ∃H' nx' e' H2 dW cW V2 A2,cq (a_ prog) nt n0 o st=some (⟨e',H2,nx'⟩,⟨dW,cW,st.H,H2,st.nx,nx'⟩)/\(∀id,H2.get id=if id < n0\/(st.nx<=id/\id < nx') then H'.get id else st.H.get id)/\
  R A2 V2 ⟨e',H',nx'⟩/\Fr V1 A (st.H.upto fun i=>Nat.blt i n0) st.nx V2 A2 H' nx'/\Ext V1 A V2 A2/\k V2/\(∀rs ah,dW.all (Hj n0 rs ah)=true/\zw n0 rs ah cW=true)/\(dW=[]\/dW=[.all])/\(cW=.ids []\/cW=.all)
theorem Dp (hsh:uw prog sh) {n0 d f:Nat} {args:List aR} {A:bt} {V1:au} {st:St} {k:au->Prop} (hR0:R A V1 ⟨st.env,st.H.upto fun i=>Nat.blt i n0,st.nx⟩)
  (hk:xj sh nt V1 (some d) f args k):MW prog nt n0 ⟨some d,.call f args .share,none,false⟩ A V1 st k:=by
 obtain⟨v,H',nx',hdo,e',hput,V2,A1,hR1,hF,hx,hk1⟩:=EW (nt:=nt) hsh hR0 hk;have hkd:kind (.call f args .share)=.call f args .share:=rfl;have hcf:a_ prog f (args.map (ev st.env)) (st.H.upto fun i=>Nat.blt i n0) st.nx=some (v,H',nx'):=by simpa only [iO,hkd,cR] using hdo
 let P:Nat->Bool:=fun i=>Nat.blt i n0||(Nat.ble st.nx i&&Nat.blt i nx')
 have hP:∀i,P i=true↔(i < n0\/(st.nx<=i/\i < nx')):=fun i=>by show (Nat.blt i n0||(Nat.ble st.nx i&&Nat.blt i nx'))=true↔_;simp
 let H2:aU:=(H'.upto P).union (st.H.upto fun i=>!P i)
 refine⟨H',nx',e',H2,[.all],.all,V2,A1,?_,fun id=>?_,hR1,hF,hx,hk1,fun rs ah=>⟨rfl,rfl⟩,.inr rfl,.inr rfl⟩
 ·have h1:gP (a_ prog) n0 ⟨some d,.call f args .share,none,false⟩ (ev st.env) st.H st.nx=some (v,H2,nx',[.all],.all):=by simp only [gP,cond_false,o_,hkd,dm,hcf];rfl
  have hw:wanted st.env none=true:=rfl;simp only [cq,hw,cond_true,h1,hput]
 ·show ((H'.upto P).union (st.H.upto fun i=>!P i)).get id=_;rw [Map.Am,Map.ij,Map.ij];by_cases h:P id=true
  ·rw [if_pos ((hP id).1 h)];simp only [h,if_true,Bool.not_true];cases H'.get id<;>rfl
  ·rw [if_neg (fun hc=>h ((hP id).2 hc))];simp only [h];rfl
theorem BR {n0 f:Nat} {d:Option Nat} {args:List aR} {A:bt} {V1:au} {st:St} {k:au->Prop} (hR0:R A V1 ⟨st.env,st.H.upto fun i=>Nat.blt i n0,st.nx⟩)
  (hk:yR sh prog nt V1 d none f args k):MW prog nt n0 ⟨d,.call f args .borrow,none,false⟩ A V1 st k:=by
 obtain⟨v,hdo,e',hput,V2,A1,hR1,hF,hx,hk1⟩:=Bc (g:=none) hR0 trivial hk;have hkd:kind (.call f args .borrow)=.call f args .borrow:=rfl;have hw:wanted st.env none=true:=rfl;have qxz:cR (a_ prog) f (args.map (ev st.env)) .borrow (st.H.upto fun i=>Nat.blt i n0) st.nx=some (v,(st.H.upto fun i=>Nat.blt i n0),st.nx):=hdo;have qxc:∀id,st.H.get id=if id < n0\/(st.nx<=id/\id < st.nx) then (st.H.upto fun i=>Nat.blt i n0).get id else st.H.get id:=by
  intro id;split
  ·rw [Map.ij,if_pos];rename_i h;have:id < n0:=by rcases h with h|h<;>omega
   simpa using this
  ·rfl
 by_cases hp:cz AV.plain (args.map (ev st.env))=true
 ·have h0:cR (a_ prog) f (args.map (ev st.env)) .borrow st.H st.nx=some (v,st.H,st.nx):=by
   simp only [cR,hp,cond_true] at qxz ⊢;split at qxz
   ·rename_i r hr;simp only [Option.some.injEq,Prod.mk.injEq] at qxz;simp only [hr,qxz.1]
   ·cases qxz
  refine⟨_,st.nx,e',st.H,[],.ids [],V2,A1,?_,qxc,hR1,hF,hx,hk1,fun rs ah=>⟨rfl,rfl⟩,.inl rfl,.inl rfl⟩;have h1:gP (a_ prog) n0 ⟨d,.call f args .borrow,none,false⟩ (ev st.env) st.H st.nx=some (v,st.H,st.nx,[],.ids []):=by simp only [gP,cond_false,o_,hkd,dm,hp,cond_true,h0]
  simp only [cq,hw,cond_true,h1,hput]
 ·have hpb:cz AV.plain (args.map (ev st.env))=false:=by simpa using hp
  refine⟨_,st.nx,e',st.H,[.all],.ids [],V2,A1,?_,qxc,hR1,hF,hx,hk1,fun rs ah=>⟨rfl,rfl⟩,.inr rfl,.inl rfl⟩;have h1:gP (a_ prog) n0 ⟨d,.call f args .borrow,none,false⟩ (ev st.env) st.H st.nx=some (v,st.H,st.nx,[.all],.ids []):=by simp only [gP,cond_false,o_,hkd,dm,hpb,qxz]
  simp only [cq,hw,cond_true,h1,hput]
mutual
theorem Ga:∀a:AV,jx a a=true
 |.bool _=>by simp [jx]
 |.int k n=>by simp [jx,Ki,sy]
 |.str _=>by simp [jx]
 |.qR=>rfl
 |.ay=>rfl
 |.ptr _ _ _=>by simp [jx]
 |.ic cs _=>by simp [jx,ja cs]
 |.ei cs _ _=>by simp [jx,ja cs]
 |.ref _ _ _ _ _ _ _=>by simp [jx]
 |.agg cs=>by simp [jx,ja cs]
 |.iR cs=>by simp [jx,ja cs]
 |.func _=>by simp [jx]
 |.nU _=>by simp [jx]
theorem ja:∀l:List AV,oU l l=true
 |[]=>rfl
 |x::xs=>by simp [oU,Ga x,ja xs]
end
theorem LN {a b:Rec} {q:Di} {xs:List AV} (ha1:a.cW=.ids []) (ha2:a.dW=[.w7 q]) (hb1:b.dW=[]\/b.dW=[.all]) (hb2:b.cW=.ids []\/b.cW=.all)
  (f0:dr b.H0 (some q)=some xs) (f1:dr b.H1 (some q)=some xs) (fa:dr a.H0 (some q)=some xs):(still a b&&still b a&&apart a b)=true:=by
 rw [UN,UN];refine⟨⟨?_,?_⟩,?_⟩
 ·unfold still;rcases hb1 with h|h<;>rw [h]
  ·rfl
  ·rw [aX];intro y hy;simp at hy;subst hy;simp only [js,ha1]
 ·unfold still;rw [ha2,aX];intro y hy;simp at hy;subst hy;rcases hb2 with h|h<;>simp only [js,h]
  ·rfl
  ·simp only [zQ,f0,f1,fa,ja,Bool.and_self]
 ·unfold apart;rw [ha1];rcases hb2 with h|h<;>rw [h];rfl
def KG (v:TV) (ovs:List (Nat×VV)) (off:Nat) (key:iP):Prop:=match key with
 |.sl N=>bU off ovs=some (.sl N)
 |.tr c=>bU off ovs=none/\∃t,TV.uniq t=true/\c=some t/\ej v off=some t
def M9 (V:au) (O off:Nat) (keys:List iP):Prop:=keys≠[]/\∃v ovs,V.H.get O=some (.ob v ovs)/\∀(j:Nat) key,keys[j]?=some key->KG v ovs (off+j) key
def S2 (A:bt) (key:iP) (x:AV):Prop:=match key with
 |.sl N=>A (.s N)=some x
 |.tr c=>∀t,c=some t->Can t x
def AF (A:bt) (keys:List iP) (xs:List AV):Prop:=keys≠[]/\xs.length=keys.length/\∀(j:Nat) key x,keys[j]?=some key->xs[j]?=some x->S2 A key x
theorem AF.mono {A A':bt} {keys:List iP} {xs:List AV} (h:AF A keys xs) (hx:∀O x,A O=some x->A' O=some x):AF A' keys xs:=
 ⟨h.1,h.2.1,fun j key x h1 h2=>by
  have:=h.2.2 j key x h1 h2;cases key with
  |sl N=>exact hx _ _ this
  |tr c=>exact this⟩
theorem IG {t:TV} {x y:AV} (hu:t.uniq=true) (h1:Can t x) (h2:Can t y):x=y:=by cases t<;>first|(cases hu;done)|(cases h1;cases h2;rfl)
theorem E4 {v:TV} {ovs:List (Nat×VV)} {k:Prop}:∀{keys:List iP} {off:Nat},FY v ovs off keys k->(∀(j:Nat) key,keys[j]?=some key->KG v ovs (off+j) key)/\k
 |[],off,h=>⟨fun j key hj=>by simp at hj,h⟩
 |key::l,off,h=>by
  have go:∀{off:Nat},KG v ovs off key->FY v ovs (off+1) l k->(∀(j:Nat) key',(key::l)[j]?=some key'->KG v ovs (off+j) key')/\k:=fun {off} h1 h2=>by
   obtain⟨g1,g2⟩:=E4 h2;refine⟨fun j key' hj=>?_,g2⟩;cases j with
   |zero=>simp at hj;subst hj;exact h1
   |succ j=>have:=g1 j key' (by simpa using hj);rw [show off+(j+1)=off+1+j by omega];exact this
  simp only [FY] at h;split at h
  ·rename_i N;split at h
   ·rename_i N' ho;split at h
    ·rename_i e;rw [UQ] at e;subst e;exact go ho h
    ·cases h
   ·cases h
  ·split at h
   ·rename_i ho;exact go ⟨ho,h.1⟩ h.2
   ·cases h
theorem J0 {V:au} {O off:Nat} {key:List iP} {k:Prop} (hne:key≠[]) (h:Md V O off key k):M9 V O off key/\k:=by
 unfold Md at h;split at h
 ·rename_i v ovs hv;obtain⟨h1,h2⟩:=E4 h;exact⟨⟨hne,v,ovs,hv,h1⟩,h2⟩
 ·cases h
theorem vw {i:Nat}:∀{cl:List (Nat×Nat×Nat×List iP)} {p:Nat×Nat×List iP},CT i cl=some p->(i,p)∈cl
 |[],p,h=>by cases h
 |(c,q)::l,p,h=>by
  simp only [CT] at h;split at h
  ·rename_i e;rw [UQ] at e;subst e;cases h;exact UG
  ·exact UH _ (vw h)
theorem tT {V:au} {cl:List (Nat×Nat×Nat×List iP)} {i:Nat} {k:Prop} (hcl:∀c O off key,(c,O,off,key)∈cl->key≠[]):∀{P:List (Nat×Nat)},tU V cl i P k->k/\∀p∈P,p.1≠i/\(p.2=i->∃O off key,CT p.1 cl=some (O,off,key)/\M9 V O off key)
 |[],h=>⟨h,fun p hp=>by cases hp⟩
 |(a,b)::l,h=>by
  simp only [tU] at h;split at h
  ·cases h
  rename_i hai;have hne:a≠i:=fun e=>by subst e;simp at hai
  split at h
  ·rename_i hbi;have hnb:b≠i:=fun e=>by subst e;simp at hbi
   obtain⟨g1,g2⟩:=tT hcl h;refine⟨g1,fun p hp=>?_⟩;rcases UI.1 hp with rfl|hp
   ·exact⟨hne,fun e=>absurd e hnb⟩
   ·exact g2 p hp
  ·split at h
   ·cases h
   ·rename_i O off key hf;obtain⟨h1,h⟩:=J0 (hcl _ _ _ _ (vw hf)) h;obtain⟨g1,g2⟩:=tT hcl h;refine⟨g1,fun p hp=>?_⟩;rcases UI.1 hp with rfl|hp
    ·exact⟨hne,fun _=>⟨O,off,key,hf,h1⟩⟩
    ·exact g2 p hp
theorem C_ {A:bt} {V:au} {st:St} (hR:R A V st) {O off id n:Nat} {v:TV} {ovs:List (Nat×VV)} {ys:List AV} (hv:V.H.get O=some (.ob v ovs)) (hA:A O=some (.ptr id 0 0))
  (hf:dr st.H (some ⟨id,0,off,n⟩)=some ys):ys.length=n/\∀(j:Nat) y,ys[j]?=some y->(∀N,bU (off+j) ovs=some (.sl N)->A (.s N)=some y)/\(bU (off+j) ovs=none->∀t,ej v (off+j)=some t->Can t y):=by
 obtain⟨a,ha,id',cs,ts,rfl,hH,hc⟩:=hR.heap O _ hv;rw [hA] at ha;cases ha;simp only [dr,hH,Nat.beq_refl,cond_true] at hf;rw [dy] at hf;split at hf;rotate_left
 ·cases hf
 rename_i hle;have h1:=U0 hf;refine⟨by rw [←h1];simp;omega,fun j y hy=>?_⟩;have hcs:cs[off+j]?=some y:=by
  rw [←h1,Uu] at hy;split at hy
  ·rw [Uv] at hy;exact hy
  ·cases hy
 have hlt:off+j < ts.length:=by rw [hc.len];exact(Uo.1 hcs).1
 have hat:=hc.at_ (off+j) _ y (Un hlt) hcs;refine⟨fun N ho=>?_,fun ho t ht=>?_⟩
 ·rw [ho] at hat;exact hat
 ·rw [ho] at hat;obtain⟨ts',h1,h2⟩:=jb ht;have:=hc.cells.symm.trans h1;cases this;rw [Un hlt] at h2;cases h2;exact hat.1
theorem E3 {A:bt} {V:au} {st:St} (hR:R A V st) {O off id:Nat} {keys:List iP} {xs:List AV} (hk:M9 V O off keys) (hA:A O=some (.ptr id 0 0)) (hx:AF A keys xs):dr st.H (some ⟨id,0,off,keys.length⟩)=some xs:=by
 obtain⟨hne,v,ovs,hv,hk⟩:=hk;obtain⟨a,ha,id',cs,ts,rfl,hH,hc⟩:=hR.heap O _ hv;rw [hA] at ha;cases ha;have qjH:∀j,j < keys.length->off+j < ts.length:=by
  intro j hj;have hkj:=hk j _ (Un hj);generalize keys[j]=key at hkj;cases key with
  |sl N=>exact hc.keys _ _ hkj
  |tr c=>obtain⟨_,t,_,_,h2⟩:=hkj;obtain⟨ts',h3,h4⟩:=jb h2;have:=hc.cells.symm.trans h3;cases this;exact(Uo.1 h4).1
 have hpos:0 < keys.length:=by cases keys with|nil=>exact absurd rfl hne|cons k ks=>simp
 have hle:off+keys.length<=cs.length:=by have:=qjH (keys.length - 1) (by omega);have:=hc.len;omega
 have hf:dr st.H (some ⟨id,0,off,keys.length⟩)=some ((cs.drop off).take keys.length):=by simp only [dr,hH,Nat.beq_refl,cond_true];rw [dy,if_pos hle]
 obtain⟨g0,g1⟩:=C_ hR hv hA hf;rw [hf];congr 1;generalize (cs.drop off).take keys.length=ys at g0 g1;refine List.ext_getElem? fun j=>?_
 by_cases hj:j < keys.length
 ·have e1:ys[j]?=some (ys[j]'(by rw [g0];exact hj)):=Un _;have e2:xs[j]?=some (xs[j]'(by rw [hx.2.1];exact hj)):=Un _;obtain⟨q1,q2⟩:=g1 j _ e1;have hkj:=hk j _ (Un hj);have hxj:=hx.2.2 j _ _ (Un hj) e2;rw [e1,e2];congr 1;generalize keys[j]=key at hkj hxj;cases key with
  |sl N=>have h1:=q1 N hkj;have h2:A (.s N)=some _:=hxj;rw [h1] at h2;exact U0 h2
  |tr c=>obtain⟨ho,t,hu,h1,h2⟩:=hkj;exact IG hu (q2 ho t h2) (hxj t h1)
 ·rw [Ut (by omega),Ut (by have:=hx.2.1;omega)]
def BL (A:bt) (rs:List Rec) (cl:List (Nat×Nat×Nat×List iP)):Prop:=∀c O off keys,(c,O,off,keys)∈cl->∃r id xs,rs[c]?=some r/\r.cW=.ids []/\r.dW=[.w7 ⟨id,0,off,keys.length⟩]/\A (.s O)=some (.ptr id 0 0)/\dr r.H0 (some ⟨id,0,off,keys.length⟩)=some xs/\AF A keys xs
theorem BL.ne {A:bt} {rs:List Rec} {cl:List (Nat×Nat×Nat×List iP)} (h:BL A rs cl):∀c O off key,(c,O,off,key)∈cl->key≠[]:=fun c O off key hm=>by obtain⟨_,_,_,_,_,_,_,_,hx⟩:=h c O off key hm;exact hx.1
theorem BL.mono {A A':bt} {rs:List Rec} {r:Rec} {cl:List (Nat×Nat×Nat×List iP)} (h:BL A rs cl) (hx:∀O x,A O=some x->A' O=some x):BL A' (rs++[r]) cl:=fun c O off key hm=>by obtain⟨r',id,x,h1,h2,h3,h4,h5,h6⟩:=h c O off key hm;exact⟨r',id,x,(by rw [Uq (Uo.1 h1).1];exact h1),h2,h3,hx _ _ h4,h5,h6.mono hx⟩
theorem Af {v:TV} {ovs:List (Nat×VV)}:∀{n off:Nat} {keys:List iP},Bm v ovs off n=some keys->keys.length=n/\∀(j:Nat) key,keys[j]?=some key->match key with
  |.sl N=>bU (off+j) ovs=some (.sl N)
  |.tr c=>bU (off+j) ovs=none/\c=ej v (off+j)
 |0,off,keys,h=>by cases h;exact⟨rfl,fun j key hj=>by simp at hj⟩
 |n+1,off,keys,h=>by
  simp only [Bm] at h;split at h
  ·cases h
  rename_i l hl;obtain⟨g1,g2⟩:=Af hl;have shift:∀j,off+(j+1)=off+1+j:=fun j=>by omega
  split at h
  ·rename_i N ho;cases h;refine⟨by simp [g1],fun j key hj=>?_⟩;cases j with
   |zero=>simp at hj;subst hj;exact ho
   |succ j=>rw [shift];exact g2 j key (by simpa using hj)
  ·cases h
  ·rename_i ho;cases h;refine⟨by simp [g1],fun j key hj=>?_⟩;cases j with
   |zero=>simp at hj;subst hj;exact⟨ho,rfl⟩
   |succ j=>rw [shift];exact g2 j key (by simpa using hj)
theorem Eo {cf:iy} {nt n0:Nat} {A:bt} {V:au} {st st1:St} {o:aq} {r:Rec} {O off:Nat} {keys:List iP} (hR:R A V st) (hc:cellOf V o=some (O,off,keys)) (he:cq cf nt n0 o st=some (st1,r)) :
  ∃id xs,r.cW=.ids []/\r.dW=[.w7 ⟨id,0,off,keys.length⟩]/\A (.s O)=some (.ptr id 0 0)/\dr r.H0 (some ⟨id,0,off,keys.length⟩)=some xs/\AF A keys xs:=by
 obtain⟨dd,op,gd,fz⟩:=o;unfold cellOf at hc;simp only at hc;split at hc
 ·cases hc
 split at hc
 ·cases hc
 split at hc;rotate_left
 ·cases hc
 rename_i sz a;split at hc;rotate_left
 ·cases hc
 rename_i O' off' qxq;split at hc;rotate_left
 ·cases hc
 rename_i v ovs hv;split at hc;rotate_left
 ·cases hc
 rename_i k0 ks hka;simp only [Option.some.injEq,Prod.mk.injEq] at hc;obtain⟨rfl,rfl,rfl⟩:=hc;obtain⟨hkl,hkk⟩:=Af hka;obtain⟨w,hw,hvr⟩:=hR.env a _ qxq;have hvr:=hvr (fun c bb h=>by cases h);generalize hwe:w=w0 at hvr;cases hvr with
 |@ptr _ _ id hA=>
 subst hwe;have hev:ev st.env (.t a)=.ptr id 0 off':=by simp only [ev,hw]
 have hwt:wanted st.env none=true:=rfl;simp only [cq,hwt,cond_true,gP,cond_false,o_] at he;have hkd:kind (.load sz (.t a))=.plan fun ρ=>lp ρ sz (.t a):=rfl
 simp only [hkd,lp,hev,cO,fq] at he;rw [hkl];cases hf:dr st.H (some ⟨id,0,off',cP sz⟩) with
 |none=>simp only [hf] at he;cases he
 |some cs=>
 have hr:r.cW=.ids []/\r.dW=[.w7 ⟨id,0,off',cP sz⟩]/\r.H0=st.H:=by
  simp only [hf,i_] at he;split at he
  ·cases he
  ·rename_i v1 H1 uN dW cW heq;split at he
   ·cases he
   ·cases he;split at heq
    ·rename_i q1 q2;simp only [Option.some.injEq,Prod.mk.injEq] at heq;obtain⟨_,_,_,h4,h5⟩:=heq;refine⟨h5.symm,h4.symm,rfl⟩
    ·cases heq
 obtain⟨g0,g1⟩:=C_ hR hv hA hf;refine⟨id,cs,hr.1,hr.2.1,hA,by rw [hr.2.2];exact hf,by simp,by rw [g0,hkl],fun j key x h1 h2=>?_⟩;obtain⟨q1,q2⟩:=g1 j x h2;have h3:=hkk j key h1;cases key with
 |sl N=>exact q1 N h3
 |tr c=>exact fun t ht=>q2 h3.1 t (by rw [←h3.2];exact ht)
open Classical in
def G6 (ns:List Nat) (V:au) (A:bt) (ρ:Nat->Option Nat) (id:Nat):Option Nat:=
 if h:∃T∈ns,∃o a,V.H.get T=some o/\A (.s T)=some a/\dX A o a id then some (Classical.choose h) else ρ id
theorem Jz {ns:List Nat} {V:au} {A:bt} {st:St} (hR:R A V st) {ρ:Nat->Option Nat} {id T:Nat} {o:VO} {a:AV} (hT:T∈ns) (h1:V.H.get T=some o) (h2:A T=some a) (h3:dX A o a id):G6 ns V A ρ id=some T:=by have hh:∃T∈ns,∃o a,V.H.get T=some o/\A (.s T)=some a/\dX A o a id:=⟨T,hT,o,a,h1,h2,h3⟩;unfold G6;rw [dif_pos hh];obtain⟨_,o',a',g1,g2,g3⟩:=Classical.choose_spec hh;congr 1;exact hR.inj _ T _ _ _ _ id g1 h1 g2 h2 g3 h3
theorem G5 {ns:List Nat} {V:au} {A:bt} {ρ:Nat->Option Nat} {id:Nat} (h:¬∃T∈ns,∃o a,V.H.get T=some o/\A (.s T)=some a/\dX A o a id):G6 ns V A ρ id=ρ id:=by unfold G6;rw [dif_neg h]
theorem Fz (hsh:uw prog sh) {PP:List (Nat×Nat)} {n0 i:Nat} {rs:List Rec} {A:bt} {V:au} {st:St} {info:List (Nat×Nat×List Nat)} {ρ:Nat->Option Nat} {feet:List (List Nat×List Nat)} {ahead:List (List Nat)} {cl:List (Nat×Nat×Nat×List iP)}
  {o:aq} {ns:List Nat} {l:List aq} {k:au->Prop} (hR:R A V st) (hinv:I8 (PP≠[]) n0 rs A V st info ρ) (hh:Gn (PP≠[]) n0 ahead rs feet ρ PP) (hcl:BL A rs cl) (hi:rs.length=i) (hn0:n0<=st.nx) (hwd:AG sh V o=some ns) (hnn:(CD V ns&&(DQ PP||!DQ l))=true)
  (hk:tU V cl i PP (Kd sh prog nt (gb info V) o fun V'=>match (zp V'.H fun T=>l9 (gb info V) T||qS T ns)&&(DQ PP||E9 (gb info V) V' feet) with
   |true=>FC l (gb info V) V' (tU (mm V info V') cl i PP (k (mm V info V')))
   |false=>False)) :
  ∃st1 r,cq (a_ prog) nt n0 o st=some (st1,r)/\∃W A1 ρ',R A1 W st1/\Fr V A st.H st.nx W A1 st1.H st1.nx/\k W/\st.nx<=st1.nx/\BL A1 (rs++[r]) cl/\
   (l≠[]->I8 (PP≠[]) n0 (rs++[r]) A1 W st1 (wu i (ns) info) ρ')/\Gn (PP≠[]) n0 ahead (rs++[r]) (feet++[([],[])]) ρ' PP:=by
 obtain⟨hk,qz3⟩:=tT hcl.ne hk;rw [UN] at hnn;obtain⟨hnn,hnl⟩:=hnn;have hnl:PP≠[]->l≠[]:=fun hP hl=>by
  subst hl;cases PP with
  |nil=>exact hP rfl
  |cons p PP=>cases hnl
 have qxl:∀O o a id,(gb info V).H.get O=some o->A O=some a->dX A o a id->id < n0:=by
  intro O o a id ho ha hid;obtain⟨hn,ho'⟩:=c_ ho;rcases hinv.known O o a id ho' ha hid with h|⟨c,hc,_⟩
  ·exact h
  ·rw [sw hn] at hc;cases hc
 obtain⟨he,hu⟩:=yX info V;have hR0:R A (gb info V) ⟨st.env,st.H.upto fun i=>Nat.blt i n0,st.nx⟩:=by
  refine⟨fun t e h=>hR.env t e (by rw [←he];exact h),fun O o ho=>?_,fun O O' o o' a a' id h1 h2=>hR.inj O O' o o' a a' id (c_ h1).2 (c_ h2).2,fun O h=>hR.used O (by rw [←hu];exact h),hR.one,fun id o h=>?_,fun O o a ho ha=>hR.gh O o a (c_ ho).2 ha⟩
  ·obtain⟨a,ha,hor⟩:=hR.heap O o (c_ ho).2;refine⟨a,ha,hor.mono (fun _ _ h=>h) (fun id hid=>?_)⟩;have:=qxl O o a id ho ha hid;show (Map.upto st.H _).get id=_;rw [Map.ij,if_pos (by simpa using this)]
  ·have h':(Map.upto st.H fun i=>Nat.blt i n0).get id=some o:=h;rw [Map.ij] at h';split at h'
   ·exact hR.fresh id o h'
   ·cases h'
 have hW:MW prog nt n0 o A (gb info V) st fun V'=>match (zp V'.H fun T=>l9 (gb info V) T||qS T ns)&&(DQ PP||E9 (gb info V) V' feet) with
   |true=>FC l (gb info V) V' (tU (mm V info V') cl i PP (k (mm V info V')))
   |false=>False:=by
  rcases BS hwd with ⟨d,f,args,rfl⟩|⟨d,f,args,rfl⟩
  ·exact Dp hsh hR0 hk
  ·exact BR hR0 hk
 obtain⟨H',nx',e',H2,dW,cW,V1,A1,qjJ,qz6,hR1,hF,hx,hk1,hrt,qjC,qzP⟩:=hW;have hle:st.nx<=nx':=hF.le
 let P:Nat->Bool:=fun i=>Nat.blt i n0||(Nat.ble st.nx i&&Nat.blt i nx')
 have hP:∀i,P i=true↔(i < n0\/(st.nx<=i/\i < nx')):=fun i=>by show (Nat.blt i n0||(Nat.ble st.nx i&&Nat.blt i nx'))=true↔_;simp
 have qxc:∀id,H2.get id=if P id=true then H'.get id else st.H.get id:=by
  intro id;rw [qz6];by_cases h:P id=true
  ·rw [if_pos ((hP id).1 h),if_pos h]
  ·rw [if_neg (fun hc=>h ((hP id).2 hc)),if_neg h]
 have qxh:∀id,cY V1 A1 id->P id=true:=by
  intro id ho;rw [hP];have hlt:=hR1.h_ ho;rcases hF.own id ho with ⟨O,o,a,h1,h2,h3⟩|h
  ·exact .inl (qxl O o a id h1 h2 h3)
  ·exact .inr ⟨h,hlt⟩
 have hR2:R A1 V1 ⟨e',H2,nx'⟩:=by
  refine⟨hR1.env,fun O o ho=>?_,hR1.inj,hR1.used,hR1.one,fun id o h=>?_,hR1.gh⟩
  ·obtain⟨a,ha,hor⟩:=hR1.heap O o ho;refine⟨a,ha,hor.mono (fun _ _ h=>h) (fun id hid=>?_)⟩;rw [show (⟨e',H2,nx'⟩:St).H.get id=_ from qxc id,if_pos (qxh id ⟨O,o,a,ho,ha,hid⟩)]
  ·have h':H2.get id=some o:=h;rw [qxc] at h';split at h'
   ·exact hR1.fresh id o h'
   ·exact UX (hR.fresh id o h') hle
 split at hk1;rotate_left
 ·cases hk1
 rename_i hall;rw [UN] at hall;obtain⟨hall,qxi⟩:=hall;have qxi:PP≠[]->E9 (gb info V) V1 feet=true:=fun hP=>by
  cases PP with
  |nil=>exact absurd rfl hP
  |cons p PP=>exact qxi
 obtain⟨hk1,hsm⟩:=Ez hk1;obtain⟨hk1,qz2⟩:=tT hcl.ne hk1;have hkeys:∀T o,V1.H.get T=some o->(∃o',(gb info V).H.get T=some o')\/T∈ns:=by intro T o hT;have:=mw _ _ hall T o hT;rw [UO] at this;exact this.imp jn.1 ko.1
 obtain⟨g1,g2,g3,g4,g5⟩:=mj (V1:=V1) (st1:=⟨e',H2,nx'⟩) (qxr:=info) hR hx.mono (fun T o a id hT ho ha hid=>by
   show H2.get id=_;rw [qxc];split
   ·rename_i hPi;have hown:cY V A id:=⟨T,o,a,ho,ha,hid⟩;have hlt:=hR.h_ hown;have h0:id < n0:=by rcases(hP id).1 hPi with h|h<;>omega
    have hno:¬cY (gb info V) A id:=fun ⟨O,o',a',h1,h2,h3⟩=>by obtain⟨hn,h1'⟩:=c_ h1;have:=hR.inj O T o' o a' a id h1' ho h2 ha h3 hid;subst this;exact hn hT
    have:=hF.same id hlt hno;rw [this];show (Map.upto st.H _).get id=_;rw [Map.ij,if_pos (by simpa using h0)]
   ·rfl) (fun id ho=>hF.own id ho) info V1 (fun _ h=>h) hR2 (fun O o h=>.inl h)
 have qz5:∀(c:Nat) a,rs[c]?=some a->(rs++[(⟨dW,cW,st.H,H2,st.nx,nx'⟩:Rec)])[c]?=some a:=fun c a hc=>by rw [Uq (Uo.1 hc).1];exact hc
 have qzs:(rs++[(⟨dW,cW,st.H,H2,st.nx,nx'⟩:Rec)])[i]?=some ⟨dW,cW,st.H,H2,st.nx,nx'⟩:=by rw [Ur (by omega),hi,Nat.sub_self];rfl
 have hpw:∀p∈PP,(p.1=i\/p.2=i)->j9 (rs++[(⟨dW,cW,st.H,H2,st.nx,nx'⟩:Rec)]) p=true:=fun p hp hpi=>by obtain⟨q1,q2⟩:=qz3 p hp;have hp2:p.2=i:=hpi.elim (fun e=>absurd e q1) (fun e=>e);obtain⟨O,off,key,q3,q4⟩:=q2 hp2;obtain⟨O',off',key',q5,q6⟩:=(qz2 p hp).2 hp2;rw [q3] at q5;cases q5;obtain⟨r0,id,x,w1,w2,w3,w4,w5,w6⟩:=hcl _ _ _ _ (vw q3);have f0:=E3 hR q4 w4 w6;have f1:=E3 g1 q6 (hx.mono _ _ w4) (w6.mono hx.mono);unfold j9;rw [qz5 _ _ w1,hp2,qzs];exact LN w2 w3 qjC qzP f0 f1 w5
 have hap:∀id q,PP≠[]->ρ id=some q->(∃T∈ns,∃o a,V1.H.get T=some o/\A1 T=some a/\dX A1 o a id)->∀f∈feet,q ∉ f.1/\q ∉ f.2:=by
  intro id q hP hq ⟨T,hT,o,a,h1,h2,h3⟩;rcases hF.own id ⟨T,o,a,h1,h2,h3⟩ with ⟨O',o',a',h6,h7,h8⟩|h
  ·obtain⟨hn,h6'⟩:=c_ h6;have qxO:=hinv.root hP O' o' a' id h6' h7 h8;rw [sw hn,hq] at qxO;have hqO:q=O':=by simpa using qxO
   subst hqO;have:=mw _ _ (qxi hP) q o' h6;rw [UO] at this;rcases this with h|h
   ·rw [h6,UN] at h;obtain⟨hpl,h⟩:=h;obtain⟨o2,h9⟩:=jn.1 h;have hA1:=hx.mono _ _ h7;have h11:=hR1.heap q o2 h9;obtain⟨a2,h12,_⟩:=h11;rw [hA1] at h12;cases h12;have h13:dX A1 o2 a' id:=.inl ((dj hpl).1 h8);have:=hR1.inj T q o o2 a a' id h1 h9 h2 hA1 h3 h13;subst this;have:=qh hnn T hT;rw [this] at h6';cases h6'
   ·intro f hf;have:=aX.1 h f hf;simp only [UN,UP] at this;exact⟨fun hm=>Bool.false_ne_true (this.1.symm.trans (ko.2 hm)),fun hm=>Bool.false_ne_true (this.2.symm.trans (ko.2 hm))⟩
  ·have:=hinv.dom id q hq;omega
 let ρ':Nat->Option Nat:=G6 ns V1 A1 ρ
 have hρ1:∀id T,T∈ns->(∃o a,V1.H.get T=some o/\A1 T=some a/\dX A1 o a id)->ρ' id=some T:=fun id T hT ⟨o,a,h1,h2,h3⟩=>Jz hR1 hT h1 h2 h3
 have hρ0:∀id,¬(∃T∈ns,∃o a,V1.H.get T=some o/\A1 T=some a/\dX A1 o a id)->ρ' id=ρ id:=fun id h=>G5 h
 have qjB:∀r f,PP≠[]->f∈feet->zq ρ r f->zq ρ' r f:=by
  intro r f hP hf ⟨h1,l0,h2,h3⟩;refine⟨fun x hx0=>?_,l0,h2,fun id hid=>?_⟩
  ·obtain⟨id,h4,q,h5,h6⟩:=h1 x hx0;refine⟨id,h4,q,?_,h6⟩;rw [hρ0 id (fun hc=>(hap id q hP h5 hc f hf).1 h6)];exact h5
  ·obtain⟨q,h5,h6⟩:=h3 id hid;refine⟨q,?_,h6⟩;rw [hρ0 id (fun hc=>(hap id q hP h5 hc f hf).2 h6)];exact h5
 refine⟨⟨e',H2,nx'⟩,⟨dW,cW,st.H,H2,st.nx,nx'⟩,?_,_,A1,ρ',g1,⟨hle,fun id hid hno=>?_,fun id ho=>?_⟩,hk1,hle,hcl.mono hx.mono,fun hl=>⟨fun T o a id ho ha hid=>?_,fun hP T o a id ho ha hid=>?_,fun id q h=>?_⟩,
  ⟨by simp [hh.len],fun hP c r' f' hr hf=>?_,fun c r' ah' hr ha' rs' qzH=>?_⟩⟩
 ·exact qjJ
 ·show H2.get id=_;rw [qxc];split
  ·rename_i hPi;have h0:id < n0:=by rcases(hP id).1 hPi with h|h<;>omega
   have:=hF.same id hid (fun ⟨O,o,a,h1,h2,h3⟩=>hno ⟨O,o,a,(c_ h1).2,h2,h3⟩);rw [this];show (Map.upto st.H _).get id=_;rw [Map.ij,if_pos (by simpa using h0)]
  ·rfl
 ·obtain⟨O,o,a,h1,h2,h3⟩:=ho;rcases g4 O o h1 with h4|⟨h4,h5,hpl⟩
  ·rcases hF.own id ⟨O,o,a,h4,h2,h3⟩ with ⟨O',o',a',h6,h7,h8⟩|h
   ·exact .inl ⟨O',o',a',(c_ h6).2,h7,h8⟩
   ·exact .inr h
  ·obtain⟨a',h6,_⟩:=hR.heap O o h5;have:=hx.mono _ _ h6;rw [h2] at this;cases this;exact .inl ⟨O,o,a,h5,h6,(dj hpl).2 ((dj hpl).1 h3)⟩
 ·have hold:∀(c:Nat) a,rs[c]?=some a->(rs++[(⟨dW,cW,st.H,H2,st.nx,nx'⟩:Rec)])[c]?=some a:=fun c a hc=>by rw [Uq (Uo.1 hc).1];exact hc
  have qx7:(rs++[(⟨dW,cW,st.H,H2,st.nx,nx'⟩:Rec)])[i]?=some ⟨dW,cW,st.H,H2,st.nx,nx'⟩:=by rw [Ur (by omega),hi,Nat.sub_self];rfl
  rcases g4 T o ho with h4|⟨h4,h5,hpl⟩
  ·by_cases hT:T∈ns
   ·rw [yw hT];rcases hF.own id ⟨T,o,a,h4,ha,hid⟩ with ⟨O',o',a',h6,h7,h8⟩|h
    ·exact .inl (qxl O' o' a' id h6 h7 h8)
    ·exact .inr ⟨i,by simp,_,qx7,h,hR1.h_ ⟨T,o,a,h4,ha,hid⟩⟩
   ·rcases hkeys T o h4 with ⟨o',h6⟩|h6
    ·obtain⟨a',h7,_⟩:=hR.heap T o' (c_ h6).2;have:=hx.mono _ _ h7;rw [ha] at this;cases this;exact .inl (qxl T o' a id h6 h7 (tY hR0 hx (hsm hl) h6 h4 h7 hid))
    ·exact absurd h6 hT
  ·have hT:T ∉ ns:=fun hm=>by have:=qh hnn T hm;rw [this] at h5;cases h5
   rw [qk hT];obtain⟨a',h6,_⟩:=hR.heap T o h5;have:=hx.mono _ _ h6;rw [ha] at this;cases this;exact(hinv.known T o a id h5 h6 ((dj hpl).2 ((dj hpl).1 hid))).imp (fun h=>h) (fun ⟨c,h2,r2,h3,h4⟩=>⟨c,h2,r2,hold c r2 h3,h4⟩)
 ·rcases g4 T o ho with h4|⟨h4,h5,hpl⟩
  ·by_cases hT:T∈ns
   ·rw [yw hT];exact hρ1 id T hT ⟨o,a,h4,ha,hid⟩
   ·rw [qk hT];rcases hkeys T o h4 with ⟨o',h6⟩|h6
    ·obtain⟨a',h7,_⟩:=hR.heap T o' (c_ h6).2;have:=hx.mono _ _ h7;rw [ha] at this;cases this;rw [hρ0 id (fun ⟨T2,hT2,o2,a2,h8,h9,h10⟩=>by have:=hR1.inj T2 T o2 o a2 a id h8 h4 h9 ha h10 hid;subst this;exact hT hT2)]
     exact hinv.root hP T o' a id (c_ h6).2 h7 (tY hR0 hx (hsm hl) h6 h4 h7 hid)
    ·exact absurd h6 hT
  ·have hT:T ∉ ns:=fun hm=>by have:=qh hnn T hm;rw [this] at h5;cases h5
   rw [qk hT];obtain⟨a',h6,_⟩:=hR.heap T o h5;have:=hx.mono _ _ h6;rw [ha] at this;cases this;rw [hρ0 id (fun ⟨T2,hT2,o2,a2,h8,h9,h10⟩=>by have:=g1.inj T2 T o2 o a2 a id (g5 _ _ h8) ho h9 ha h10 hid;subst this;exact hT hT2)]
   exact hinv.root hP T o a id h5 h6 ((dj hpl).2 ((dj hpl).1 hid))
 ·by_cases hc:∃T∈ns,∃o a,V1.H.get T=some o/\A1 T=some a/\dX A1 o a id
  ·obtain⟨T,hT,o,a,h1,h2,h3⟩:=hc;exact hR1.h_ ⟨T,o,a,h1,h2,h3⟩
  ·have h':ρ' id=some q:=h;rw [hρ0 id hc] at h';exact UX (hinv.dom id q h') hle
 ·by_cases hc:c < rs.length
  ·rw [Uq hc] at hr;rw [Uq (by rw [hh.len];exact hc)] at hf;exact(hh.JD hP c r' f' hr hf).imp (fun h=>qjB r' f' hP (Uw hf) h) (fun h p hp hc=>yb (h p hp hc))
  ·have hce:c=rs.length:=by have:=(Uo.1 hr).1;simp at this;omega
   exact .inr fun p hp hpc=>hpw p hp (by rw [←hi,←hce];exact hpc)
 ·by_cases hc:c < rs.length
  ·rw [Uq hc] at hr;exact hh.known c r' ah' hr ha' rs' (fun j a hj=>qzH j a (by rw [Uq (Uo.1 hj).1];exact hj))
  ·have hce:c=rs.length:=by have:=(Uo.1 hr).1;simp at this;omega
   subst hce;rw [Ur (U3 _),Nat.sub_self] at hr;cases hr;exact hrt rs' ah'
theorem Bv (hsh:uw prog sh) {ahead:List (List Nat)} {pairs:List (Nat×Nat)} {n0:Nat}:∀(ops:List aq) (i:Nat) (V:au) (A:bt) (st:St) (info:List (Nat×Nat×List Nat)) (feet:List (List Nat×List Nat)) (cl:List (Nat×Nat×Nat×List iP)) (rs:List Rec) (ρ:Nat->Option Nat) (k:au->Prop),
  R A V st->(ops≠[]->I8 (pairs≠[]) n0 rs A V st info ρ)->Gn (pairs≠[]) n0 ahead rs feet ρ pairs->BL A rs cl->rs.length=i->n0<=st.nx->Kf sh prog nt ahead pairs ops i V info feet cl k->
  ∃st' l,e8 (a_ prog) nt n0 ops st=some (st',l)/\kr n0 (rs++l) ahead (rs++l)=true/\cz (j9 (rs++l)) pairs=true/\∃V' A',R A' V' st'/\Fr V A st.H st.nx V' A' st'.H st'.nx/\k V'
 |[],i,V,A,st,info,feet,cl,rs,ρ,k,hR,hinv,hh,hcl,hi,hn,hk=>by
  simp only [Kf] at hk;split at hk
  ·rename_i hb;rw [UN,UQ] at hb;refine⟨st,[],rfl,?_,?_,V,A,hR,Fr.refl _ _ _ _,hk⟩
   ·rw [List.append_nil];exact wo ahead rs (by rw [hb.1,hi]) (fun c r ah hr ha=>hh.known c r ah hr ha rs (fun _ _ h=>h))
   ·rw [List.append_nil];exact Cr hh (fun _ h=>h) (fun h=>h) hb.2
  ·cases hk
 |o::l,i,V,A,st,info,feet,cl,rs,ρ,k,hR,hinv,hh,hcl,hi,hn,hk=>by
  rw [Kf] at hk;split at hk
  ·rename_i ns hso;split at hk;rotate_left
   ·cases hk
   rename_i hnn;obtain⟨st1,r,g1,W,A1,ρ',g2,g3,g4,g5,g8,g6,g7⟩:=Fz (l:=l) (k:=fun W=>Kf sh prog nt ahead pairs l (i+1) W (wu i ns info) (feet++[([],[])]) cl k) hsh hR (hinv (by simp)) hh hcl hi hn hso hnn hk;obtain⟨st2,l2,q1,q2,q3,V2,A2,q4,q5,q6⟩:=Bv hsh l (i+1) W A1 st1 _ _ cl (rs++[r]) ρ' k g2 g6 g7 g8 (by simp [hi]) (U1 hn g5) g4;refine⟨st2,r::l2,by simp only [e8,g1,q1],?_,?_,V2,A2,q4,g3.trans q5,q6⟩
   ·rwa [List.append_assoc] at q2
   ·rwa [List.append_assoc] at q3
  have hk':Kd sh prog nt V o fun V'=>match Bp V o with
   |none=>False
   |some f=>match ahead[i]? with
    |none=>False
    |some ah=>match mh info ah (f.rd++f.wr) with
     |false=>False
     |true=>match zO o.dst i V V' f info with
      |none=>False
      |some info'=>FC l V V' (Kf sh prog nt ahead pairs l (i+1) V' info' (feet++[(k_ info f.rd,k_ info f.wr)]) (Kz V o i pairs cl) k):=hk
  obtain⟨st1,h1,V1,A1,h2,h3,hx,h4⟩:=Fg hsh hR hk';split at h4
  ·cases h4
  rename_i f hf;split at h4
  ·cases h4
  rename_i ah hah;split at h4
  ·cases h4
  rename_i hch;split at h4
  ·cases h4
  rename_i info' hs;obtain⟨h4,hsm⟩:=Ez h4;obtain⟨r,g1,g2,g3,g4⟩:=Kb hR hk' hf h1 n0;obtain⟨ρ',p1,p2⟩:=GG hR h2 h3 hx (hinv (by simp)) hh hi g2 g3 g4 hah hch hs;have qjL:BL A1 (rs++[r]) (Kz V o i pairs cl):=by
   have h0:=hcl.mono (r:=r) hx.mono;unfold Kz;split
   ·exact h0
   ·split
    ·rename_i p hp;intro c O off key hm;rcases UI.1 hm with he|hm
     ·cases he;obtain⟨id,x,w1,w2,w3,w4,w5⟩:=Eo hR hp g1;exact⟨r,id,x,(by rw [Ur (by omega),hi,Nat.sub_self];rfl),w1,w2,hx.mono _ _ w3,w4,w5.mono hx.mono⟩
     ·exact h0 c O off key hm
    ·exact h0
  obtain⟨st2,l2,q1,q2,q3,V2,A2,q4,q5,q6⟩:=Bv hsh l (i+1) V1 A1 st1 info' _ _ (rs++[r]) ρ' k h2 (fun hl=>p1 (hsm hl)) p2 qjL (by simp [hi]) (U1 hn h3.le) h4;refine⟨st2,r::l2,by simp only [e8,g1,q1],?_,?_,V2,A2,q4,h3.trans q5,q6⟩
  ·rwa [List.append_assoc] at q2
  ·rwa [List.append_assoc] at q3
open Classical in
def Cc (V:au) (A:bt) (id:Nat):Option Nat:=if h:∃(T:Nat) (o:VO) (a:AV),V.H.get T=some o/\A T=some a/\dX A o a id then some (Classical.choose h) else none
theorem DF {V:au} {A:bt} {id q:Nat} (h:Cc V A id=some q):∃o a,V.H.get q=some o/\A q=some a/\dX A o a id:=by
 unfold Cc at h;split at h
 ·rename_i hh;cases h;exact Classical.choose_spec hh
 ·cases h
theorem G4 {V:au} {A:bt} {st:St} (hR:R A V st) {id T:Nat} {o:VO} {a:AV} (h1:V.H.get T=some o) (h2:A T=some a) (h3:dX A o a id):Cc V A id=some T:=by have hh:∃(T:Nat) (o:VO) (a:AV),V.H.get T=some o/\A T=some a/\dX A o a id:=⟨T,o,a,h1,h2,h3⟩;unfold Cc;rw [dif_pos hh];obtain⟨o',a',g1,g2,g3⟩:=Classical.choose_spec hh;congr 1;exact hR.inj _ T _ _ _ _ id g1 h1 g2 h2 g3 h3
theorem Ke (hsh:uw prog sh) {A:bt} {V:au} {st:St} {k:au->Prop} {ops:List aq} {ahead:List (List Nat)} {pairs:List (Nat×Nat)} (hR:R A V st) (hk:Kf sh prog nt ahead pairs ops 0 V [] [] [] k) :
  ∃st',eZ (a_ prog) nt ops ahead pairs st=some st'/\∃V' A',R A' V' st'/\Fr V A st.H st.nx V' A' st'.H st'.nx/\k V':=by
 have own:∀T o a id,V.H.get T=some o->A T=some a->dX A o a id->cY V A id:=fun T o a id h1 h2 h3=>⟨T,o,a,h1,h2,h3⟩
 obtain⟨st',l,h1,h2,h3,V',A',h4,h5,h6⟩:=Bv hsh (n0:=st.nx) ops 0 V A st [] [] [] [] (Cc V A) k hR (fun _=>⟨fun T o a id g1 g2 g3=>.inl (hR.h_ (own T o a id g1 g2 g3)),fun _ T o a id g1 g2 g3=>G4 hR g1 g2 g3,fun id q hq=>by obtain⟨o',a',g1,g2,g3⟩:=DF hq;exact hR.h_ (own _ _ _ _ g1 g2 g3)⟩) ⟨rfl,fun _ c r f hr=>by simp at hr,fun c r ah hr=>by simp at hr⟩ (fun _ _ _ _ hm=>by cases hm) rfl (U3 _) hk
 rw [List.nil_append] at h2 h3;exact⟨st',by simp only [eZ,h1,h2,h3,Bool.and_self,cond_true],V',A',h4,h5,h6⟩
end
end Go.Ax.V
namespace Go.Ax.V
def _root_.Go.Ax.V.bh.ok:bh->Bool
 |.seq a b=>a.ok&&b.ok
 |.cond _ a b=>a.ok&&b.ok
 |.block _ c=>c.ok
 |.loop J c=>J.all oV&&c.ok
 |.join J c=>J.all oV&&c.ok
 |_=>true
section
variable {sh:Sh} {prog:Map ak} {nt:Nat}
theorem OC {A:bt} {V:au} {st:St} (hR:R A V st) {O:Nat} {o o':VO} (ho:V.H.get O=some o) (hpl:o.pl=true) (qzi:o'.pl=true) (hor:∀a,A O=some a->OR A st.H o a->OR A st.H o' a) :
  R A (bu V O o') st/\Fr V A st.H st.nx (bu V O o') A st.H st.nx:=by
 have get':∀{O2:Nat} {o2:VO},(bu V O o').H.get O2=some o2->∃o3,V.H.get O2=some o3/\(∀a id,dX A o2 a id->dX A o3 a id)/\(∀a,A O2=some a->OR A st.H o3 a->OR A st.H o2 a)/\(∀a,jq A O2 a o3->jq A O2 a o2):=by
  intro O2 o2 h;simp only [bu,Map.aa] at h;split at h
  ·rename_i e;subst e;cases h;exact⟨o,ho,fun a id hi=>.inl ((dj qzi).1 hi),hor,fun _ _=>uP qzi⟩
  ·exact⟨o2,h,fun _ _ h=>h,fun _ _ h=>h,fun _ h=>h⟩
 refine⟨⟨hR.env,fun O2 o2 h=>?_,fun O1 O2 o1 o2 a1 a2 id h1 h2 g1 g2 i1 i2=>?_,hR.used,hR.one,hR.fresh,fun O2 o2 a h ha=>?_⟩,⟨U3 _,fun _ _ _=>rfl,fun id ⟨O2,o2,a,h,ha,hid⟩=>?_⟩⟩
 ·obtain⟨o3,h1,h2,h3,_⟩:=get' h;obtain⟨a,ha,hr⟩:=hR.heap O2 o3 h1;exact⟨a,ha,h3 a ha hr⟩
 ·obtain⟨o3,h3,h4,_⟩:=get' h1;obtain⟨o4,h5,h6,_⟩:=get' h2;exact hR.inj O1 O2 o3 o4 a1 a2 id h3 h5 g1 g2 (h4 _ _ i1) (h6 _ _ i2)
 ·obtain⟨o3,h1,_,_,h4⟩:=get' h;exact h4 a (hR.gh O2 o3 a h1 ha)
 ·obtain⟨o3,h1,h2,_⟩:=get' h;exact .inl ⟨O2,o3,a,h1,ha,h2 _ _ hid⟩
theorem Cq {A:bt} {st:St} {k:au->Prop}:∀{l:List (Nat×Nat)} {V:au},R A V st->JF l V k->∃V',R A V' st/\Fr V A st.H st.nx V' A st.H st.nx/\k V'
 |[],V,hR,h=>⟨V,hR,Fr.refl _ _ _ _,h⟩
 |(O,off)::l,V,hR,h=>by
  simp only [JF] at h;split at h;rotate_left
  ·cases h
  rename_i v ovs hv;split at h;rotate_left
  ·cases h
  rename_i hov;obtain⟨t,h1,h2,h3⟩:=h;obtain⟨t0,h4,h5⟩:=xx h1;obtain⟨ts0,h6,h7⟩:=jb h4;obtain⟨a,ha,id,cs,ts,rfl,hH,hc⟩:=hR.heap O _ hv;have:=hc.cells.symm.trans h6;cases this;have hlt:off < cs.length:=by rw [←hc.len];exact(Uo.1 h7).1
  have hx:cs[off]?=some cs[off]:=Un hlt;have hat:=hc.at_ off t0 _ h7 hx;rw [hov] at hat;have hcan:Can t cs[off]:=h5 _ hat.1;have hrow:LH cs[off]=true:=by
   cases t with
   |l es=>generalize cs[off]=y at hcan;cases hcan<;>rfl
   |_=>cases h2
  obtain⟨v',h8,h9⟩:=h3 cs[off];obtain⟨g1,g2⟩:=OC hR (o':=.ob v' ovs) hv rfl rfl (fun a' ha' hor=>by
   obtain⟨id2,cs2,ts2,rfl,hH2,hc2⟩:=hor;rw [ha] at ha';cases ha';rw [hH] at hH2;cases hH2;have:=hc.cells.symm.trans hc2.cells;cases this;obtain⟨ts',xs,us,e1,e2,e3,e4,e5,e6,e7⟩:=cu h8;have:=hc.cells.symm.trans e1;cases this;refine⟨id,cs,us,rfl,hH,⟨e4,by rw [e5];exact hc.len,fun j w hj=>by rw [e5];exact hc.keys j w hj,fun j u y hu hy=>?_⟩⟩;rw [e7 j] at hu;split at hu
   ·rename_i hj;have hjo:j=off:=by omega
    subst hjo;have hxs:xs=[.A8 cs[j] t]:=by have:b_ (.A8 cs[j] t)=some [.A8 cs[j] t]:=rfl;rw [e2] at this;exact U0 this
    rw [hxs] at hu;simp at hu;subst hu;rw [hx] at hy;cases hy;rw [hov];exact⟨.A8 _ _ hrow hcan,hat.2⟩
   ·exact hc.at_ j u y hu hy)
  obtain⟨V',q1,q2,q3⟩:=Cq g1 h9;exact⟨V',q1,g2.trans q2,q3⟩
theorem xk (hsh:uw prog sh):∀(c:bh) (V:au) (A:bt) (st:St) (k:bY->au->Prop),c.ok=true->R A V st->wV sh prog nt c V k->
  WC (a_ prog) (bn prog) nt c.code st (fun x st'=>∃V' A',R A' V' st'/\Fr V A st.H st.nx V' A' st'.H st'.nx/\k x V'):=by
 intro c
 induction c with
 |skip=>intro V A st k _ hR h;exact Jf ⟨V,A,hR,Fr.refl _ _ _ _,h⟩
 |exit id=>intro V A st k _ hR h;exact Jh ⟨V,A,hR,Fr.refl _ _ _ _,h⟩
 |ret=>intro V A st k _ hR h;exact K9 ⟨V,A,hR,Fr.refl _ _ _ _,h⟩
 |cj ops ahead pairs=>intro V A st k _ hR h;obtain⟨V1,hR1,hF1,h⟩:=Cq hR h;obtain⟨st',h1,V',A',h2,h3,h4⟩:=Ke hsh hR1 h;exact Ji h1 ⟨V',A',h2,hF1.trans h3,h4⟩
 |aQ ops=>intro V A st k _ hR h;obtain⟨st',h1,V',A',h2,h3,_,h4⟩:=CV hsh hR h;exact K_ ⟨st',h1,V',A',h2,h3,h4⟩
 |seq a b iha ihb=>
  intro V A st k hok hR h;simp only [bh.ok,UN] at hok;refine K8 (pZ (iha V A st _ hok.1 hR h) ?_);rintro x st' ⟨V',A',h1,h2,h3⟩;cases x with
  |normal=>refine pZ (ihb V' A' st' k hok.2 h1 h3) ?_;rintro y st2 ⟨V2,A2,g1,g2,g3⟩;exact⟨V2,A2,g1,h2.trans g2,g3⟩
  |exit i=>exact⟨V',A',h1,h2,h3⟩
  |ret=>exact⟨V',A',h1,h2,h3⟩
 |cond c a b iha ihb=>
  intro V A st k hok hR h;simp only [bh.ok,UN] at hok;obtain⟨cv,hc,h⟩:=cm (g:=none) hR trivial h;unfold aW at h;split at h
  ·rename_i x;generalize he:ev st.env c=p at hc;cases hc;cases x with
   |true=>exact AH he (iha V A st k hok.1 hR h)
   |false=>exact ze he (ihb V A st k hok.2 hR h)
  ·cases h
 |block id c ih=>
  intro V A st k hok hR h;refine Gz (pZ (ih V A st _ hok hR h) ?_);rintro x st' ⟨V',A',h1,h2,h3⟩;cases x with
  |normal=>exact⟨V',A',h1,h2,h3⟩
  |ret=>exact⟨V',A',h1,h2,h3⟩
  |exit i=>
   simp only [Es];simp only [cond_eq_ite,UQ] at h3;by_cases hi:i=id
   ·rw [if_pos hi] at h3 ⊢;exact⟨V',A',h1,h2,h3⟩
   ·rw [if_neg hi] at h3 ⊢;exact⟨V',A',h1,h2,h3⟩
 |loop J c ih=>
  intro V A st k hok hR h;simp only [bh.ok,UN] at hok;obtain⟨I,⟨n,h1⟩,h2⟩:=h;refine Jg (fun (n:Nat) st1=>∃V1 A1,R A1 V1 st1/\Fr V A st.H st.nx V1 A1 st1.H st1.nx/\nT J V1 (I n)) (fun n=>n) ?_ n st ⟨V,A,hR,Fr.refl _ _ _ _,h1⟩;rintro m st1 ⟨V1,A1,g1,g2,g3⟩;obtain⟨Vc,A2,p1,p2,p3⟩:=ou g1 hok.1 g3 (h2 m);refine pZ (ih Vc A2 st1 _ hok.2 p2 p1) ?_;rintro x st2 ⟨V2,A3,q1,q2,q3⟩;have hfr:=g2.trans (p3.trans q2);cases x with
  |normal=>obtain⟨m',hm,q3⟩:=q3;exact⟨m',hm,V2,A3,q1,hfr,q3⟩
  |exit i=>exact⟨V2,A3,q1,hfr,q3⟩
  |ret=>exact⟨V2,A3,q1,hfr,q3⟩
 |join J c ih=>
  intro V A st k hok hR h;simp only [bh.ok,UN] at hok;obtain⟨I,h1,h2⟩:=h;refine pZ (ih V A st _ hok.2 hR h1) ?_;rintro x st' ⟨V',A',g1,g2,g3⟩;cases x with
  |normal=>obtain⟨Vc,A2,p1,p2,p3⟩:=ou g1 hok.1 g3 h2;exact⟨Vc,A2,p2,g2.trans p3,p1⟩
  |exit i=>exact⟨V',A',g1,g2,g3⟩
  |ret=>exact⟨V',A',g1,g2,g3⟩
theorem CN {A:bt} {H:aU} {nx:Nat}:∀(ts:List TV) (as:List AV) (i:Nat) (V:au) (e:Env),pY ts as->R A V ⟨e,H,nx⟩->R A (Ig ts i V) ⟨dO as i e,H,nx⟩
 |[],as,i,V,e,hc,hR=>by have:as=[]:=UY.1 hc.1.symm;subst this;exact hR
 |t::ts,[],i,V,e,hc,hR=>by cases hc.1
 |t::ts,a::as,i,V,e,hc,hR=>by refine CN ts as (i+1) _ _ ⟨Nat.succ.inj hc.1,fun j u x hu hx=>hc.2 (j+1) u x hu hx⟩ ?_;exact hR.put (e:=⟨none,.tr t⟩) (v:=a) (fun _=>.tr (hc.2 0 t a rfl rfl))
theorem rY {A:bt} {V:au} {st:St} (hR:R A V st) {r:ny} {k:TV->Prop} (h:w8 V r k) (d:Nat):∃v t a,gi st.env st.H r=some v/\bk (d+4) st.H v=some a/\Can t a/\k t:=by
 cases r with
 |tmp t=>simp only [w8] at h;obtain⟨w,hw,h⟩:=b8 (g:=none) hR trivial h;obtain⟨t',a,h1,h2,h3,h4⟩:=sX hR hw h d;exact⟨_,t',a,rfl,h1,h2,h4⟩
 |cell t sz=>
  simp only [w8] at h;obtain⟨w,hw,h⟩:=b8 (g:=none) hR trivial h;generalize he:ev st.env (.t t)=p at hw;cases hw with
  |@ptr O off id hO=>
   simp only at h;split at h;rotate_left
   ·cases h
   rename_i v ovs ho;obtain⟨y,hy,id',cs,ts,rfl,hH,hc⟩:=hR.heap O _ ho;rw [hO] at hy;cases hy;have fin:∀{l:List AV} {v' t' a:_},cut cs off (cP sz)=some l->DS sz l=some v'->bk (d+4) st.H v'=some a->Can t' a->k t'->∃v t_1 a,gi st.env st.H (.cell t sz)=some v/\bk (d+4) st.H v=some a/\Can t_1 a/\k t_1:=by intro l v' t' a h1 h2 h3 h4 h5;refine⟨v',t',a,?_,h3,h4,h5⟩;simp only [gi,he,dr,hH,cond_eq_ite,UQ,if_pos,h1];exact h2
   split at h
   ·split at h
    ·rename_i w hw;have hlt:=hc.keys _ _ hw;have hx:cs[off]?=some (cs[off]'(by rw [←hc.len];exact hlt)):=Un _;have hs:=hc.at_ off _ _ (Un hlt) hx;rw [hw] at hs;obtain⟨es,a',g1,g2,g3,g4,g5⟩:=s7 hR hs h (d+1);exact fin (pQ hx) rfl g1 g2 g5
    ·rename_i ho';obtain⟨u,h1,h2⟩:=h;obtain⟨x,h3,h4,h5⟩:=pz hc h1 ho';exact fin h3 rfl (oJ h5 _ _) h4 h2
   ·rename_i n;obtain⟨u,h1,h2⟩:=h;obtain⟨l,ls,h3,h4,h5⟩:=gQ hc h1;obtain⟨u',us,cs',g1,g2,g3,g4,g5,g6⟩:=vQ hR h5 h2 d;obtain⟨l',rfl⟩:=g5 _ h4;cases g2;exact fin h3 rfl (by rw [gI,g1]) (.a _ _ g3.1.1 g3.2 g3.1.2) g4
  |_=>cases h
theorem td {A:bt} {V:au} {st:St} (hR:R A V st) (d:Nat):∀(rs:List ny) (k:List TV->Prop),uY V rs k->∃vs ts as,fo (gi st.env st.H) rs=some vs/\fo (bk (d+4) st.H) vs=some as/\pY ts as/\k ts
 |[],k,h=>⟨[],[],[],rfl,rfl,⟨rfl,fun j t x ht=>by simp at ht⟩,h⟩
 |r::rs,k,h=>by
  obtain⟨v,t,a,h1,h2,h3,h4⟩:=rY hR h d;obtain⟨vs,ts,as,g1,g2,g3,g4⟩:=td hR d rs _ h4;refine⟨v::vs,t::ts,a::as,by rw [cx,h1,g1],by rw [cx,h2,g2],⟨by simp [g3.1],fun j u x hu hx=>?_⟩,g4⟩;cases j with
  |zero=>simp at hu hx;subst hu;subst hx;exact h3
  |succ j=>exact g3.2 j u x (by simpa using hu) (by simpa using hx)
theorem ve:∀{ts:List TV},eg ts->∀t∈ts,t.gw=false
 |[],_,t,ht=>by cases ht
 |x::ts,h,t,ht=>by
  rcases UI.1 ht with rfl|ht
  ·exact h.1
  ·exact ve h.2 t ht
theorem y6 {t:TV} {a:AV} (h:Can t a) (ht:t.gw=false):a.iS=true:=by
 cases h with
 |a ts as hl hf h=>exact aX.2 hf
 |tp ts as hl hf h=>cases ht
 |A8 x u hf h=>exact(E_ (xU hf)).2.2
 |_=>rfl
theorem No {f:Nat} {af:ak} {vc:bh} {ts:List TV} {Q:TV->Prop} (hf:prog.get f=some af) (hc:vc.code=af.body) (hok:vc.ok=true) (hl:ts.length=af.params) (hsh:uw prog sh) (h:Pd sh prog af vc ts Q):VS prog f ts Q:=by
 intro as ha;have h0:R (fun _=>none) V0 ⟨.leaf,.leaf,0⟩:=⟨fun t e he=>(by cases he),fun O o ho=>(by cases ho),fun O O' o o' a a' id ho=>(by cases ho),fun _ _=>rfl,fun O a ha=>(by cases ha),fun id o ho=>(by cases ho),fun O o a ho=>(by cases ho)⟩;have hR:=CN ts as 0 V0 .leaf ha h0;have hw:=xk hsh (nt:=af.nt) vc _ _ _ _ hok hR h;rw [hc] at hw;obtain⟨⟨v,H',nx'⟩,h1,h2⟩:=D9 (r:=fun p=>∃a,bk deep p.2.1 p.1=some a/\∃r,Can r a/\Q r) hf (by rw [←ha.1];exact hl) (pZ hw (by
  rintro x st' ⟨V',A',g1,g2,g3,g4⟩;refine⟨(by cases x<;>first|exact .inl rfl|exact .inr rfl|cases g3),?_⟩;obtain⟨vs,rs,as',p1,p2,p3,p4,p5⟩:=td g1 25 af.res _ g4;have many:vs.length≠1->∃v,kW af.res st'=some v/\∃a,bk deep v.2.1 v.1=some a/\∃r,Can r a/\Q r:=by
   intro hne;have hl1:=(iU p2).1;have hlr:rs.length=vs.length:=by rw [p3.1,hl1]
   have e1:kW af.res st'=some (.iR vs,st'.H,st'.nx):=by
    unfold kW;rw [p1]
    match vs,hne with
    |[],_=>rfl
    |[_],h=>exact absurd rfl h
    |_::_::_,_=>rfl
   have e2:FD rs=.tp rs:=by
    match rs,hlr with
    |[],_=>rfl
    |[_],h=>exact absurd h.symm hne
    |_::_::_,_=>rfl
   have e3:eg rs:=by
    match rs,hlr,p4 with
    |[],_,_=>trivial
    |[_],h,_=>exact absurd h.symm hne
    |_::_::_,_,h=>exact h
   refine⟨_,e1,.iR as',?_,_,?_,by rw [e2] at p5;exact p5⟩
   ·show bk (29+1) _ _=_;rw [jU];have p2':fo (bk 29 st'.H) vs=some as':=p2;rw [p2']
   ·refine .tp _ _ p3.1 (fun x hx=>?_) p3.2;obtain⟨j,hj⟩:=List.getElem?_of_mem hx;have hlt:j < rs.length:=by rw [p3.1];exact(Uo.1 hj).1
    exact y6 (p3.2 j _ x (Un hlt) hj) (ve e3 _ (Ux hlt))
  by_cases hv:vs.length=1
  ·obtain⟨vs',rs',as2,q1,q2,q3,q5⟩:=td g1 26 af.res _ g4;rw [p1] at q1;cases q1;obtain⟨v,rfl⟩:=List.length_eq_one_iff.1 hv;have hl1:=(iU q2).1;obtain⟨a,rfl⟩:=List.length_eq_one_iff.1 hl1.symm;obtain⟨r,rfl⟩:=List.length_eq_one_iff.1 (show rs'.length=1 by rw [q3.1];rfl);refine⟨(v,st'.H,st'.nx),by unfold kW;rw [p1],a,?_,r,q3.2 0 r a rfl rfl,q5.2⟩;rw [cx] at q2;show bk (26+4) st'.H v=some a;cases hh:bk (26+4) st'.H v with
   |none=>rw [hh] at q2;cases q2
   |some y=>rw [hh] at q2;cases q2;rfl
  ·exact many hv))
 exact⟨v,H',nx',h1,h2⟩
end
end Go.Ax.V
namespace Go.Ax.V
def SH (p:Nat->Bool) (d:Option Nat):Bool:=match d with
 |some d=>!p d
 |none=>true
def K6 (p:Nat->Bool) (o:aq):Bool:=SH p o.dst
def EU (p:Nat->Bool) (l:List aq):Bool:=cz (K6 p) l
def vb (p:Nat->Bool) (c:c8):Bool:=
 c8.rec (motive:=fun _=>Bool) true (fun ops=>EU p ops) (fun ops _ _=>EU p ops) (fun _ _ a b=>a&&b) (fun _ _ _ a b=>a&&b) (fun _ _ a=>a) (fun _ a=>a) (fun _=>true) true c
def gS (p:Nat->Bool) (e e':Env):Prop:=∀t,p t=true->e'.get t=e.get t
theorem gS.refl (p:Nat->Bool) (e:Env):gS p e e:=fun _ _=>rfl
theorem gS.trans {p:Nat->Bool} {a b c:Env} (h:gS p a b) (h':gS p b c):gS p a c:=fun t ht=>(h' t ht).trans (h t ht)
section
variable {prog:Map ak} {cf:iy} {nt np:Nat} {p:Nat->Bool}
theorem qf {e e':Env} {d:Option Nat} {v:AV} (h:u5 nt e d v=some e') (hd:SH p d=true):gS p e e':=by
 cases d with
 |none=>cases h;exact gS.refl _ _
 |some d=>
  simp only [u5,cond_eq_ite] at h;split at h
  ·cases h;intro t ht;have hd':p d=false:=by simpa [SH] using hd
   rw [Map.aa,if_neg];rintro rfl;rw [hd'] at ht;cases ht
  ·cases h
theorem DB {o:aq} {st st':St} (ho:K6 p o=true) (h:dV cf nt o st=some st'):gS p st.env st'.env:=by
 simp only [dV,cond_eq_ite] at h;split at h
 ·split at h
  ·cases h
  ·split at h
   ·rename_i e he;cases h;exact qf he ho
   ·cases h
 ·split at h
  ·rename_i e he;cases h;exact qf he ho
  ·cases h
theorem wg:∀{l:List aq} {st st':St},EU p l=true->eY cf nt l st=some st'->gS p st.env st'.env
 |[],st,st',ho,h=>by cases h;exact gS.refl _ _
 |o::l,st,st',ho,h=>by
  have ho':=aX.1 ho;rw [fQ] at h;split at h
  ·rename_i st1 h1;exact(DB (ho' o UG) h1).trans (wg (aX.2 fun x hx=>ho' x (UH _ hx)) h)
  ·cases h
theorem ta {n0:Nat}:∀{l:List aq} {st st':St} {rs:List Rec},EU p l=true->e8 cf nt n0 l st=some (st',rs)->gS p st.env st'.env
 |[],st,st',rs,ho,h=>by cases h;exact gS.refl _ _
 |o::l,st,st',rs,ho,h=>by
  have ho':=aX.1 ho;have h0:=ho' o UG;simp only [e8] at h;split at h
  ·cases h
  rename_i st1 r h1;split at h
  ·cases h
  rename_i st2 l2 h2;cases h;refine gS.trans ?_ (ta (aX.2 fun x hx=>ho' x (UH _ hx)) h2);simp only [cq,cond_eq_ite] at h1;split at h1
  ·split at h1
   ·cases h1
   ·split at h1
    ·cases h1
    ·rename_i e he;cases h1;exact qf he h0
  ·split at h1
   ·cases h1
   ·rename_i e he;cases h1;exact qf he h0
theorem c5:∀(k:Nat) (c:c8) (st:St) (x:bY) (st':St),vb p c=true->(interp prog k).code nt c st=some (x,st')->gS p st.env st'.env
 |0,c,st,x,st',hc,h=>by cases h
 |k+1,c,st,x,st',hc,h=>by
  have h':bp (interp prog k).code (interp prog k).fn nt c st=some (x,st'):=h;cases c with
  |skip=>cases h';exact gS.refl _ _
  |exit id=>cases h';exact gS.refl _ _
  |ret=>cases h';exact gS.refl _ _
  |aQ ops=>
   simp only [bp] at h';split at h'
   ·rename_i st1 h1;cases h';exact wg hc h1
   ·cases h'
  |cj ops ahead pairs=>
   simp only [bp] at h';split at h'
   ·rename_i st1 h1;cases h';simp only [eZ] at h1;split at h1
    ·cases h1
    ·rename_i st2 rs h2;rw [cond_eq_ite] at h1;split at h1
     ·cases h1;exact ta hc h2
     ·cases h1
   ·cases h'
  |seq a b=>
   have hab:vb p a=true/\vb p b=true:=by have:(vb p a&&vb p b)=true:=hc;simpa using this
   simp only [bp] at h';split at h'
   ·rename_i st1 h1;exact(c5 k a _ _ _ hab.1 h1).trans (c5 k b _ _ _ hab.2 h')
   ·exact c5 k a _ _ _ hab.1 h'
  |cond c a b=>
   have hab:vb p a=true/\vb p b=true:=by have:(vb p a&&vb p b)=true:=hc;simpa using this
   simp only [bp] at h';split at h'
   ·exact c5 k a _ _ _ hab.1 h'
   ·exact c5 k b _ _ _ hab.2 h'
   ·cases h'
  |block id c=>
   have hcc:vb p c=true:=hc;simp only [bp] at h';split at h'
   ·rename_i i st1 h1;have:=c5 k c _ _ _ hcc h1;rw [cond_eq_ite] at h';split at h'<;>(cases h';exact this)
   ·exact c5 k c _ _ _ hcc h'
  |loop c=>
   have hcc:vb p c=true:=hc;simp only [bp] at h';split at h'
   ·rename_i st1 h1;exact(c5 k c _ _ _ hcc h1).trans (c5 k (.loop c) _ _ _ hc h')
   ·exact c5 k c _ _ _ hcc h'
theorem AS {c:c8} {st:St} {x:bY} {st':St} (hc:vb p c=true) (h:bn prog nt c st=some (x,st')):gS p st.env st'.env:=by obtain⟨k,hk⟩:=mU prog nt c st _ h;exact c5 k c st x st' hc (hk k (U3 _))
def Cy (V:au) (p:Nat->Bool) (np:Nat) (w:VV):au:={V with env:=(V.env.upto p).put (some ⟨none,w⟩) np}
def kept (ks:List PK) (t:Nat):Bool:=match ks[t]? with
 |some .tr=>false
 |some _=>true
 |none=>false
def EF (V:au) (r:ny) (k:TV->Prop):Prop:=match r with
 |.tmp t=>j7 V none (.t t) k
 |.cell t sz=>eT V none (.t t) fun w=>match w with
  |.ptr O off=>(match V.H.get O with
   |some (.ob v ovs)=>match sz with
    |none=>(match bU off ovs with
     |some _=>False
     |none=>∃u,ej v off=some u/\k u)
    |some n=>(match lz off n ovs with
     |[]=>∃u,b9 v off n=some u/\k u
     |_::_=>False)
   |_=>False)
  |_=>False
def EE (V:au):List ny->(List TV->Prop)->Prop
 |[],k=>k []
 |r::rs,k=>EF V r fun v=>EE V rs fun vs=>k (v::vs)
def LP (V:au) (t:Nat) (sz:Option Nat):List (Nat×VV):=match sz with
 |none=>[]
 |some n=>match c9 V (.t t) with
  |.ptr O off=>(match V.H.get O with
   |some (.ob _ ovs)=>lz off n ovs
   |_=>[])
  |_=>[]
def G8 (V:au) (t:Nat) (sz:Option Nat) (k:VV->Prop):Prop:=match sz with
 |none=>False
 |some n=>eT V none (.t t) fun w=>match w with
  |.ptr O off=>(match V.H.get O with
   |some (.ob v ovs)=>∃u,b9 v off n=some u/\k (.st u (lz off n ovs))
   |_=>False)
  |_=>False
def JA (V:au) (p:Nat->Bool) (np:Nat) (rs:List ny) (k:au->Prop):Prop:=match rs with
 |[.tmp t]=>eT V none (.t t) fun w=>k (Cy V p np w)
 |[.cell t sz]=>(match LP V t sz with
  |[]=>EF V (.cell t sz) fun v=>k (Cy V p np (.tr v))
  |_::_=>G8 V t sz fun w=>k (Cy V p np w))
 |rs=>EE V rs fun vs=>eg vs/\k (Cy V p np (.tr (.tp vs)))
def Pc (sh:Sh) (prog:Map ak) (af:ak) (vc:bh) (p:Nat->Bool) (np:Nat) (Jout:List vY) (Q:JT Jout Prop) (Vc:au):Prop:=
 wV sh prog af.nt vc Vc fun x V=>(match x with|.exit _=>False|_=>True)/\JA V p np af.res fun V'=>nT Jout V' Q
theorem OB {A:bt} {V:au} {st:St} (hR:R A V st) {as:List AV} {p:Nat->Bool} {np:Nat} (hl:as.length=np) (hs:gS p (dO as 0 .leaf) st.env) {w:VV} {v:AV} (hw:VR A w v):R A (Cy V p np w) ⟨(dO as 0 .leaf).put (some v) np,st.H,st.nx⟩:=by
 refine⟨fun t e he=>?_,hR.heap,hR.inj,hR.used,hR.one,hR.fresh,hR.gh⟩;have he':((V.env.upto p).put (some ⟨none,w⟩) np).get t=some e:=he;rw [Map.aa] at he';split at he'
 ·rename_i ht;cases he';exact⟨v,by show ((dO as 0 .leaf).put (some v) np).get t=_;rw [Map.aa,if_pos ht],fun _=>hw⟩
 ·rename_i hne;rw [Map.ij] at he';split at he'
  ·rename_i hlt;obtain⟨a,ha,hv⟩:=hR.env t e he';exact⟨a,by show ((dO as 0 .leaf).put (some v) np).get t=_;rw [Map.aa,if_neg hne,←hs t hlt];exact ha,hv⟩
  ·cases he'
theorem zU {A:bt} {V:au} {st:St} (hR:R A V st) {r:ny} {k:TV->Prop} (h:EF V r k):∃v t,gi st.env st.H r=some v/\Can t v/\k t:=by
 cases r with
 |tmp t=>obtain⟨u,h1,h2⟩:=cm (g:=none) hR trivial h;exact⟨_,u,rfl,h1,h2⟩
 |cell t sz=>
  simp only [EF] at h;obtain⟨w,hw,h⟩:=b8 (g:=none) hR trivial h;generalize he:ev st.env (.t t)=p at hw;cases hw with
  |@ptr O off id hO=>
   simp only at h;split at h;rotate_left
   ·cases h
   rename_i v ovs ho;obtain⟨y,hy,id',cs,ts,rfl,hH,hc⟩:=hR.heap O _ ho;rw [hO] at hy;cases hy;have fin:∀{l:List AV} {v':AV} {t':TV},cut cs off (cP sz)=some l->DS sz l=some v'->Can t' v'->k t'->∃v t_1,gi st.env st.H (.cell t sz)=some v/\Can t_1 v/\k t_1:=by intro l v' t' h1 h2 h3 h4;refine⟨v',t',?_,h3,h4⟩;simp only [gi,he,dr,hH,cond_eq_ite,UQ,if_pos,h1];exact h2
   split at h
   ·split at h
    ·cases h
    ·rename_i ho';obtain⟨u,h1,h2⟩:=h;obtain⟨x,h3,h4,_⟩:=pz hc h1 ho';exact fin h3 rfl h4 h2
   ·split at h
    ·rename_i ho';obtain⟨u,h1,h2⟩:=h;obtain⟨l,ls,h3,h4,h5⟩:=gQ hc h1;rw [ho'] at h5;exact fin h3 rfl (s6 h5 h4) h2
    ·cases h
  |_=>cases h
theorem FK {A:bt} {V:au} {st:St} (hR:R A V st) {t:Nat} {sz:Option Nat} {k:VV->Prop} (h:G8 V t sz k):∃v w,gi st.env st.H (.cell t sz)=some v/\VR A w v/\k w:=by
 cases sz with
 |none=>cases h
 |some n=>
  simp only [G8] at h;obtain⟨w,hw,h⟩:=b8 (g:=none) hR trivial h;generalize he:ev st.env (.t t)=p at hw;cases hw with
  |@ptr O off id hO=>
   simp only at h;split at h;rotate_left
   ·cases h
   rename_i v ovs ho;obtain⟨y,hy,id',cs,ts,rfl,hH,hc⟩:=hR.heap O _ ho;rw [hO] at hy;cases hy;obtain⟨u,h1,h2⟩:=h;obtain⟨l,ls,h3,h4,h5⟩:=gQ hc h1;refine⟨.agg l,_,?_,.st h4 h5,h2⟩;simp only [gi,he,dr,hH,cond_eq_ite,UQ,if_pos,cP,h3];rfl
  |_=>cases h
theorem zT {A:bt} {V:au} {st:St} (hR:R A V st):∀(rs:List ny) (k:List TV->Prop),EE V rs k->∃vs ts,fo (gi st.env st.H) rs=some vs/\pY ts vs/\k ts
 |[],k,h=>⟨[],[],rfl,⟨rfl,fun j t x ht=>by simp at ht⟩,h⟩
 |r::rs,k,h=>by
  obtain⟨v,t,h1,h2,h3⟩:=zU hR h;obtain⟨vs,ts,g1,g2,g3⟩:=zT hR rs _ h3;refine⟨v::vs,t::ts,by rw [cx,h1,g1],⟨by simp [g2.1],fun j u x hu hx=>?_⟩,g3⟩;cases j with
  |zero=>simp at hu hx;subst hu;subst hx;exact h2
  |succ j=>exact g2.2 j u x (by simpa using hu) (by simpa using hx)
theorem G9 {A:bt} {V:au} {st:St} (hR:R A V st) {rs:List ny} {k:au->Prop} (h:JA V p np rs k):∃v w,kW rs st=some (v,st.H,st.nx)/\VR A w v/\k (Cy V p np w):=by
 have many:rs.length≠1->(EE V rs fun vs=>eg vs/\k (Cy V p np (.tr (.tp vs))))->∃v w,kW rs st=some (v,st.H,st.nx)/\VR A w v/\k (Cy V p np w):=by
  intro hne h;obtain⟨vs,ts,h1,h2,h3,h4⟩:=zT hR rs _ h;have hl:=(iU h1).1;refine⟨.iR vs,.tr (.tp ts),?_,.tr (.tp _ _ h2.1 (fun x hx=>?_) h2.2),h4⟩
  ·unfold kW;rw [h1]
   match vs,(show vs.length≠1 by omega) with
   |[],_=>rfl
   |[_],hh=>exact absurd rfl hh
   |_::_::_,_=>rfl
  ·obtain⟨j,hj⟩:=List.getElem?_of_mem hx;have hlt:j < ts.length:=by rw [h2.1];exact(Uo.1 hj).1
   exact y6 (h2.2 j _ x (Un hlt) hj) (ve h3 _ (Ux hlt))
 match rs,h,many with
 |[],h,many=>exact many (by simp) h
 |[.tmp t],h,many=>simp only [JA] at h;obtain⟨w,hw,h⟩:=b8 (g:=none) hR trivial h;exact⟨_,w,rfl,hw,h⟩
 |[.cell t sz],h,many=>
  simp only [JA] at h;split at h
  ·obtain⟨v,u,h1,h2,h3⟩:=zU hR h;exact⟨v,.tr u,by unfold kW;rw [cx,h1];rfl,.tr h2,h3⟩
  ·obtain⟨v,w,h1,h2,h3⟩:=FK hR h;exact⟨v,w,by unfold kW;rw [cx,h1];rfl,h2,h3⟩
 |r1::_::_,h,many=>exact many (by simp) (by cases r1<;>exact h)
theorem lD {sh:Sh} {f:Nat} {af:ak} {vc:bh} {Jout:List vY} {Q:JT Jout Prop} {Vc:au} (hf:prog.get f=some af) (hc:vc.code=af.body) (hok:vc.ok=true) (hp:af.params=np) (hnw:vb p af.body=true) (hsh:uw prog sh)
  (h:Pc sh prog af vc p np Jout Q Vc):Ew prog f np Jout Q Vc:=by
 intro A as H nx hl hR;obtain⟨x,st',h1,V',A',h2,h3,h4,h5⟩:=xk hsh (nt:=af.nt) vc Vc A ⟨dO as 0 .leaf,H,nx⟩ _ hok hR h;have h1':=xl prog af.nt _ _ _ h1;rw [hc] at h1';have hsame:=AS hnw h1';obtain⟨v,w,g1,g2,g3⟩:=G9 h2 h5;refine⟨v,st'.H,st'.nx,A',_,DA ?_,OB h2 hl hsame g2,g3,⟨h3.le,h3.same,fun id ⟨O,o,a,ho,ha,hi⟩=>h3.own id ⟨O,o,a,ho,ha,hi⟩⟩⟩;have hl':as.length=af.params:=by rw [hl,hp]
 simp only [kz,hf,cond_eq_ite,UQ,if_pos hl',h1'];cases x with
 |exit i=>cases h4
 |normal=>exact g1
 |ret=>exact g1
end
end Go.Ax.V
namespace Go.Ax.V
theorem yt (prog:Map ak):∀k,vX (fun _=>a_ prog) (interp prog k).fn/\zc (fun _=>bn prog) (interp prog k).code
 |0=>⟨fun f args H nx r h=>(by cases h),fun nt c st r h=>(by cases h)⟩
 |k+1=>by
  obtain⟨h1,h2⟩:=yt prog k;constructor
  ·intro f args H nx r h;obtain⟨k0,hk⟩:=Ao (prog:=prog) h2 f args H nx r h;exact Ev.const (DA (hk k0 (U3 _)))
  ·intro nt c st r h;obtain⟨k0,hk⟩:=wP h1 h2 nt c st r h;exact Ev.const (e_ (hk k0 (U3 _)))
theorem zh {prog:Map ak} {k f:Nat} {args:List AV} {H:aU} {nx:Nat} {r:AV×aU×Nat} (h:(interp prog k).fn f args H nx=some r):a_ prog f args H nx=some r:=by obtain⟨k0,hk⟩:=(yt prog k).1 f args H nx r h;exact hk k0 (U3 _)
theorem FB {prog:Map ak} {k f:Nat} (h:isTrue ((interp prog k).fn f [] .leaf 0)=true):VS prog f [] (fun r=>r=.b true):=by intro as ha;have:as=[]:=UY.1 ha.1.symm;subst this;obtain⟨H,nx,hr⟩:=CL h;exact⟨_,H,nx,zh hr,_,rfl,_,.b true,rfl⟩
theorem sU {n:Int} (h1:-9223372036854775808<=n) (h2:n < 9223372036854775808):f_ .i64 n=n:=by
 unfold f_;have:Nh .i64 n=true:=by
  cases n with
  |ofNat m=>have h2':(m:Int) < 9223372036854775808:=h2;simp only [Nh];simp;omega
  |negSucc m=>simp only [Nh];simp;omega
 rw [this];rfl
end Go.Ax.V
namespace Go.Ax.V
theorem uk {t:Bool} {a b:Prop} (h:t=true) (ha:a):aW (.b t) a b:=by subst h;exact ha
theorem jh {t:Bool} {a b:Prop} (h:t=false) (hb:b):aW (.b t) a b:=by subst h;exact hb
theorem aS {t:Bool} {a b:Prop} (ha:t=true->a) (hb:t=false->b):aW (.b t) a b:=by
 cases t with
 |true=>exact ha rfl
 |false=>exact hb rfl
theorem Lg {a b:TV} (ha:a.gw=false) (hb:b.gw=false):lP [a,b]:=⟨ha,hb,trivial⟩
theorem eu {prog:Map ak} {f:Nat} {ts:List TV} {c:TV} {K:TV->Prop} (h:VS prog f ts (fun r=>r=c)) (hk:K c):VS prog f ts (fun r=>qz true r/\K r):=
 h.mono (fun r hr=>by subst hr;exact⟨trivial,hk⟩)
theorem jQ {t bb:Bool} {P:TV->Prop} {k:TV->Prop} {v:TV} (ht:t=bb) (hp:P v) (hk:k v):∃v,gV (.b t) bb P v/\k v:=by subst ht;refine⟨v,?_,hk⟩;unfold gV;cases t<;>exact hp
theorem J6 {t bb:Bool} {P:TV->Prop} {k:TV->Prop} (ht:t=!bb) (hk:k iT):∃v,gV (.b t) bb P v/\k v:=by subst ht;refine⟨iT,?_,hk⟩;unfold gV;cases bb<;>rfl
theorem J5 {bb:Bool} {P:TV->Prop} {k:TV->Prop} (hk:k iT):∃v,gV iT bb P v/\k v:=⟨iT,rfl,hk⟩
end Go.Ax.V
namespace Go.Ax.V
def bh.flat:bh->Bool
 |.skip=>true
 |.aQ _=>true
 |.seq a b=>a.flat&&b.flat
 |.cond _ a b=>a.flat&&b.flat
 |.block _ c=>c.flat
 |.exit _=>true
 |.ret=>true
 |_=>false
section
variable {sh:Sh} {prog:Map ak} {nt:Nat}
def _root_.Go.Ax.V.Sh.add (sh:Sh) (f:Nat) (T:au->List VV->(VV->au->Prop)->Prop):Sh:={sh with inl:=fun g=>bif Nat.beq g f then some T else sh.inl g}
def _root_.Go.Ax.V.Sh.cut (sh:Sh) (tc:Nat->List Nat) (gc:Nat->Nat) (pn:Nat->List (Nat×Nat)):Sh:={sh with tc:=tc,gc:=gc,pn:=pn}
end
end Go.Ax.V
namespace Go.Ax.V
section
variable {sh:Sh} {prog:Map ak} {nt:Nat}
def lB (lo:List (Nat×TV×Nat)):List (Nat×TV)->au
 |[]=>List.rec (motive:=fun _=>au) V0 (fun p _ V=>⟨V.env.put (some ⟨none,.ptr p.1 0⟩) p.1,V.H.put (some (.ob p.2.1 [])) p.1,V.us.put (some ()) p.1⟩) lo
 |(t,v)::l=>je (lB lo l) t (.tr v)
def OE (v:Option fZ) (b:Bool):Bool:=match v with
 |none=>true
 |some _=>b
def HH (m:aU):(Nat->Bool)->Bool:=
 Map.rec (motive:=fun _=>(Nat->Bool)->Bool) (fun _=>true)
  (fun v _ _ l r p=>Bool.rec false (Bool.rec false (r fun k=>p (Nat.succ (Nat.succ (Nat.mul 2 k)))) (l fun k=>p (Nat.succ (Nat.mul 2 k)))) (OE v (p 0))) m
theorem HG (m:aU):∀(p:Nat->Bool) (i:Nat) (o:fZ),HH m p=true->m.get i=some o->p i=true:=by
 induction m with
 |leaf=>intro p i o _ h;cases h
 |node v l r ihl ihr=>
  intro p i o h hg;have h':(Bool.rec false (Bool.rec false (HH r fun k=>p (Nat.succ (Nat.succ (Nat.mul 2 k)))) (HH l fun k=>p (Nat.succ (Nat.mul 2 k)))) (OE v (p 0)):Bool)=true:=h;rw [uo] at h';split at h';rotate_left
  ·cases h'
  rename_i h0;rw [uo] at h';split at h';rotate_left
  ·cases h'
  rename_i h1;rw [Map.cQ] at hg;by_cases hi:i=0
  ·subst hi;rw [if_pos rfl] at hg;rw [hg] at h0;exact h0
  ·rw [if_neg hi] at hg;by_cases hi1:i % 2=1
   ·rw [if_pos hi1] at hg;have:=ihl _ _ _ h1 hg;have e:Nat.succ (Nat.mul 2 (i / 2))=i:=by simp only [Nat.succ_eq_add_one,Nat.mul_eq];omega
    rw [e] at this;exact this
   ·rw [if_neg hi1] at hg;have:=ihr _ _ _ h' hg;have e:Nat.succ (Nat.succ (Nat.mul 2 (i / 2 - 1)))=i:=by simp only [Nat.succ_eq_add_one,Nat.mul_eq];omega
    rw [e] at this;exact this
theorem H6 (p:Nat×TV×Nat) (lo:List (Nat×TV×Nat)):lB (p::lo) []=⟨(lB lo []).env.put (some ⟨none,.ptr p.1 0⟩) p.1,(lB lo []).H.put (some (.ob p.2.1 [])) p.1,(lB lo []).us.put (some ()) p.1⟩:=rfl
theorem CJ {lo:List (Nat×TV×Nat)}:∀{l:List (Nat×TV)} {t:Nat} {e:VE},(lB lo l).env.get t=some e->(∃v,(t,v)∈l/\e=⟨none,.tr v⟩)\/∃v id,(t,v,id)∈lo/\e=⟨none,.ptr t 0⟩
 |[],t,e,h=>by
  refine .inr ?_
  induction lo with
  |nil=>cases h
  |cons p lo ih=>
   rw [H6] at h;have h':((lB lo []).env.put (some ⟨none,.ptr p.1 0⟩) p.1).get t=some e:=h;rw [Map.aa] at h';split at h'
   ·rename_i e1;subst e1;cases h';exact⟨p.2.1,p.2.2,UG,rfl⟩
   ·obtain⟨v,id,h1,h2⟩:=ih h';exact⟨v,id,UH _ h1,h2⟩
 |(u,v)::l,t,e,h=>by
  have h':((lB lo l).env.put (some ⟨none,.tr v⟩) u).get t=some e:=h;rw [Map.aa] at h';split at h'
  ·rename_i e1;subst e1;cases h';exact .inl ⟨v,UG,rfl⟩
  ·rcases CJ h' with ⟨v',h1,h2⟩|h
   ·exact .inl ⟨v',UH _ h1,h2⟩
   ·exact .inr h
theorem Bk {lo:List (Nat×TV×Nat)}:∀{l:List (Nat×TV)} {O:Nat} {o:VO},(lB lo l).H.get O=some o->∃v id,(O,v,id)∈lo/\o=.ob v []
 |[],O,o,h=>by
  induction lo with
  |nil=>cases h
  |cons p lo ih=>
   rw [H6] at h;have h':((lB lo []).H.put (some (.ob p.2.1 [])) p.1).get O=some o:=h;rw [Map.aa] at h';split at h'
   ·rename_i e1;subst e1;cases h';exact⟨p.2.1,p.2.2,UG,rfl⟩
   ·obtain⟨v,id,h1,h2⟩:=ih h';exact⟨v,id,UH _ h1,h2⟩
 |(u,v)::l,O,o,h=>Bk (l:=l) h
def KV:List (Nat×TV×Nat)->Nat->Option AV
 |[],_=>none
 |p::lo,O=>if p.1=O then some (.ptr p.2.2 0 0) else KV lo O
def N2 (lo:List (Nat×TV×Nat)):bt:=fun n=>match n with
 |.s O=>KV lo O
 |.i _ _ _=>none
theorem Kl {A:bt} {V:au} {st:St} {r:ny} {Q:TV->Prop} (g1:R A V st) (g4:uY V [r] fun rs=>lP rs/\Q (FD rs)):∃v,kW [r] st=some v/\∃a,bk deep v.2.1 v.1=some a/\∃t,Can t a/\Q t:=by obtain⟨v,t,a,h1,h2,h3,h4⟩:=rY g1 (k:=fun v=>lP [v]/\Q (FD [v])) g4 26;exact⟨(v,st.H,st.nx),by unfold kW;simp only [cx,h1];rfl,a,h2,t,h3,h4.2⟩
end
end Go.Ax.V
namespace Go.Ax
abbrev Wp:=(Exit->Act->World->Prop)->Act->World->Prop
def HX (nt top:Nat) (X:Wp) (st:St) (S:bY->St->Prop):Prop:=
 ∀(φ:gW) (K:Nat->Prop) (w:World) (a:Act) (Q:Exit->Act->World->Prop),ck top φ K st.H.get st.nx w->lO φ K w st.env a->a.tmps.size=nt->a.defers=[]->
  (∀x st' a' w',S x st'->Post top φ K st w nt st' a' w'->Q x.Gd a' w')->X Q a w
def EX (nt:Nat) (X:Wp) (st:St) (F:Nat->bY->St->Prop):Prop:=∃B,∀top,B<=top->HX nt top X st (F top)
abbrev cw (P:Program) (c:Code):Wp:=fun Q a w=>c.wp P Q a w
abbrev Nc (P:Program) (c:Code) (n:Nat):Wp:=fun Q a w=>Code.rounds P c Q n a w
abbrev two (s1 s2:St):Nat->bY->St->Prop:=fun _ y s=>y=.normal/\(s=s1\/s=s2)
abbrev tN (x:bY) (s1:St):Nat->bY->St->Prop:=fun _ y s=>y=x/\s=s1
section
variable {P:Program} {nt:Nat} {X:Wp} {st:St} {F F':Nat->bY->St->Prop}
theorem EX.mono (h:EX nt X st F) (hS:∀t x s,F t x s->F' t x s):EX nt X st F':=
 let ⟨B,h⟩:=h
 ⟨B,fun top ht φ K w a Q s he hs hd hQ=>h top ht φ K w a Q s he hs hd fun x st' a' w' hx hp=>hQ x st' a' w' (hS top x st' hx) hp⟩
theorem uf {ex:fW} (h1:pX P ex) {ac:c8} {x:bY} {st':St} (h:ex nt ac st=some (x,st')) {c:Code} (hm:ff P c ac=true):EX nt (cw P c) st (tN x st'):=
 ⟨st'.nx,fun top ht φ K w a Q s he hs hd hQ=>h1 nt ac st x st' h c hm top φ K w a Q ht s he hs hd fun a' w' hp=>hQ x st' a' w' ⟨rfl,rfl⟩ hp⟩
theorem F7 {a:Code} {s1:St} (h:EX nt (cw P a) st (tN .normal s1)):EX nt (cw P a) st (two s1 s1):=h.mono fun _ x s ⟨h1,h2⟩=>⟨h1,.inl h2⟩
theorem Eb {a b:Code} {s1 s2:St} (h1:EX nt (cw P a) st (two s1 s2)) (h2:EX nt (cw P b) s1 F) (h3:EX nt (cw P b) s2 F):EX nt (cw P (.seq a b)) st F:=by
 obtain⟨B1,h1⟩:=h1;obtain⟨B2,h2⟩:=h2;obtain⟨B3,h3⟩:=h3;refine⟨max B1 (max B2 B3),fun top ht φ K w a' Q s he hs hd hQ=>wp_seq (h1 top (by omega) φ K w a' _ s he hs hd (fun x st' a1 w1 hx hp=>?_))⟩;obtain⟨rfl,hx⟩:=hx;obtain⟨φ1,K1,g,q1,q2,q3⟩:=hp;rcases hx with rfl|rfl
 ·exact h2 top (by omega) φ1 K1 w1 a1 Q g.j4 q1 q2 q3 (fun x st' a' w' hS hp'=>hQ x st' a' w' hS (hp'.trans g))
 ·exact h3 top (by omega) φ1 K1 w1 a1 Q g.j4 q1 q2 q3 (fun x st' a' w' hS hp'=>hQ x st' a' w' hS (hp'.trans g))
theorem ue {a b:Code} {s1:St} (h1:EX nt (cw P a) st (tN .normal s1)) (h2:EX nt (cw P b) s1 F):EX nt (cw P (.seq a b)) st F:=Eb (F7 h1) h2 h2
theorem J8 {a b:Code} {s1:St} {i:Nat} (h1:EX nt (cw P a) st (tN (.exit i) s1)):EX nt (cw P (.seq a b)) st (tN (.exit i) s1):=by obtain⟨B1,h1⟩:=h1;refine⟨B1,fun top ht φ K w a' Q s he hs hd hQ=>wp_seq (h1 top ht φ K w a' _ s he hs hd (fun x st' a1 w1 hx hp=>?_))⟩;obtain⟨rfl,rfl⟩:=hx;exact hQ _ _ a1 w1 ⟨rfl,rfl⟩ hp
theorem It {id:Nat} {c:Code} {s1 s2:St} (h:EX nt (cw P c) st (two s1 s2)):EX nt (cw P (.block id c)) st (two s1 s2):=by obtain⟨B,h⟩:=h;refine⟨B,fun top ht φ K w a Q s he hs hd hQ=>wp_block (h top ht φ K w a _ s he hs hd (fun x st' a1 w1 hx hp=>?_))⟩;obtain⟨rfl,hx⟩:=hx;exact hQ .normal st' a1 w1 ⟨rfl,hx⟩ hp
theorem Ir {c:Code} {n:Nat} {s1 s2:St} (h1:EX nt (cw P c) st (two s1 s2)) (h2:EX nt (Nc P c n) s1 F) (h3:EX nt (Nc P c n) s2 F):EX nt (Nc P c (n+1)) st F:=by
 obtain⟨B1,h1⟩:=h1;obtain⟨B2,h2⟩:=h2;obtain⟨B3,h3⟩:=h3;refine⟨max B1 (max B2 B3),fun top ht φ K w a' Q s he hs hd hQ=>?_⟩;show Code.rounds P c Q (n+1) a' w;rw [rounds_succ];refine h1 top (by omega) φ K w a' _ s he hs hd (fun x st' a1 w1 hx hp=>?_);obtain⟨rfl,hx⟩:=hx;obtain⟨φ1,K1,g,q1,q2,q3⟩:=hp;rcases hx with rfl|rfl
 ·exact h2 top (by omega) φ1 K1 w1 a1 Q g.j4 q1 q2 q3 (fun x st' a' w' hS hp'=>hQ x st' a' w' hS (hp'.trans g))
 ·exact h3 top (by omega) φ1 K1 w1 a1 Q g.j4 q1 q2 q3 (fun x st' a' w' hS hp'=>hQ x st' a' w' hS (hp'.trans g))
theorem J_ {c b:Code} {n i:Nat} {s1:St} (h1:EX nt (cw P c) st (tN (.exit i) s1)) (h2:EX nt (cw P b) s1 F):EX nt (Nc P c (n+1)) st (fun top y s=>y=.exit i/\HX nt top (cw P b) s (F top)):=by obtain⟨B1,h1⟩:=h1;obtain⟨B2,h2⟩:=h2;refine⟨max B1 B2,fun top ht φ K w a' Q s he hs hd hQ=>?_⟩;show Code.rounds P c Q (n+1) a' w;rw [rounds_succ];refine h1 top (by omega) φ K w a' _ s he hs hd (fun x st' a1 w1 hx hp=>?_);obtain⟨rfl,rfl⟩:=hx;exact hQ _ _ a1 w1 ⟨rfl,h2 top (by omega)⟩ hp
theorem J9 {r c b:Code} {i n:Nat} {s0:St} (h0:EX nt (cw P r) st (tN .normal s0)) (h1:EX nt (Nc P c n) s0 (fun top y s=>y=.exit i/\HX nt top (cw P b) s (F top))):EX nt (cw P (.seq (.seq r (.block i (.loop c))) b)) st F:=by obtain⟨B0,h0⟩:=h0;obtain⟨B1,h1⟩:=h1;refine⟨max B0 B1,fun top ht φ K w a' Q s he hs hd hQ=>wp_seq (wp_seq (h0 top (by omega) φ K w a' _ s he hs hd (fun x st' a0 w0 hx hp0=>?_)))⟩;obtain⟨rfl,rfl⟩:=hx;obtain⟨φ0,K0,g0,p1,p2,p3⟩:=hp0;refine wp_block (wp_loop_rounds n (h1 top (by omega) φ0 K0 w0 a0 _ g0.j4 p1 p2 p3 (fun x st' a1 w1 hx hp=>?_)));obtain⟨rfl,hb⟩:=hx;obtain⟨φ1,K1,g,q1,q2,q3⟩:=hp;simp only [bY.Gd,Exit.inBlock,if_pos rfl];exact hb φ1 K1 w1 a1 Q g.j4 q1 q2 q3 (fun x st' a' w' hS hp'=>hQ x st' a' w' hS ((hp'.trans g).trans g0))
theorem J7 {f:Nat} {fn:Func} {c:Code} {params:Nat} {res:List ny} {args:List AV} (hf:P.funcs[f]?=some fn) (hb:fn.body=some c) (hnt:fn.ntmps=nt) (hpn:params<=nt) (hmr:Bj P fn.results.toList res=true) (hlen:args.length=params)
  (h:EX nt (cw P c) ⟨dO args 0 .leaf,.leaf,0⟩ (fun _ x st=>(x=.normal\/x=.ret)/\∃H nx,kW res st=some (.bool true,H,nx))) {cargs:Array Value} {W:World} (ha:zd z5 (fun b=>b < W.heap.size) W args cargs) :
  Calls P f cargs W fun e W'=>e=.returned (.bool true)/\RowKit.Grown W W':=by
 obtain⟨B,h⟩:=h;have hsz:(cargs++Array.replicate (fn.ntmps - cargs.size) undef).size=nt:=by have:=ha.1;simp;omega
 have qxq:lO z5 (fun b=>b < W.heap.size) W (dO args 0 .leaf) {tmps:=cargs++Array.replicate (fn.ntmps - cargs.size) undef,defers:=[]}:=by
  intro t;rw [yu];simp only [U2,true_and,Nat.zero_add,Nat.sub_zero];by_cases hlt:t < args.length
  ·rw [if_pos hlt];have hc:t < cargs.size:=by have:=ha.1;omega
   have h2:=ha.2 t _ _ (Un hlt) (Array.getElem?_eq_getElem hc);have e1:args.getD t dQ=args[t]:=by simp [hlt]
   have e2:(cargs++Array.replicate (fn.ntmps - cargs.size) undef).getD t undef=cargs[t]:=by rw [Array.getD_eq_getD_getElem?,Array.getElem?_append_left hc,Array.getElem?_eq_getElem hc];rfl
   rw [e1,e2];exact h2
  ·rw [if_neg hlt];have e2:(cargs++Array.replicate (fn.ntmps - cargs.size) undef).getD t undef=undef:=by rw [Array.getD_eq_getD_getElem?,Array.getElem?_append_right (by have:=ha.1;omega),Array.getElem?_replicate];split<;>rfl
   rw [e2];exact p9
 refine calls_of_wp hf hb ?_;refine h B (U3 _) z5 (fun b=>b < W.heap.size) W _ _ (xR _ (fun b hb=>hb)) qxq hsz rfl (fun x st a' w' hx hp=>?_);obtain⟨hx,H,nx,hres⟩:=hx;obtain⟨φ',K',g,qxy,hs',hd'⟩:=hp;obtain⟨V,hV1,hV2⟩:=xV (P:=P) (fn:=fn) g.j4 qxy hmr hres;have hb:a'.defers=[]/\∃V,(results fn a'.tmps).run P w'=.ok V w'/\(Ending.returned V=.returned (.bool true)/\RowKit.Grown W w'):=
  ⟨hd',V,hV1,by rw [fc hV2],Bo (g.ext.mono (fun b hb=>(sj hb).elim))⟩
 rcases hx with rfl|rfl
 ·exact hb
 ·exact hb
theorem mO {cf:iy} (hcf:mz P cf) {top:Nat} {φ:gW} {K:Nat->Prop} {w:World} {ops:Array Oper} {i:Nat} {p:Oper} {ao:aq} {st1:St} (hp:ops[i]?=some p) (hm:jJ P ops p ao=true) (hr:dV cf nt ao st=some st1) (ht:st1.nx<=top) {a:Act}
  (s:ck top φ K st.H.get st.nx w) (he:lO φ K w st.env a) (hs:a.tmps.size=nt) (hd:a.defers=[]) {Q:Exit->Act->World->Prop} {next:Act->World->Prop} (hn:∀a' w',Post top φ K st w nt st1 a' w'->next a' w'):wpOp P ops Q i next a w:=by
 have h:=rZ hcf hm hr ht s he hs hd next Q hn;unfold wpOp;rw [hp];simp only;split at h
 ·rename_i hw;rw [if_pos hw];exact .inl h
 ·rename_i hw;rw [if_neg hw];exact h
theorem Mr {cf:iy} (xh:P.follows .mixedOrders=true) (hcf:mz P cf) (hup:nw cf) {id:Nat} {ops:Array Oper} {p0 p1 p2 p3:Oper} {o0 o1 o2 o3:aq} {a0 a1 a2 b1 b2 sA sB:St}
  (hz:ops.size=4) (g0:ops[0]?=some p0) (g1:ops[1]?=some p1) (g2:ops[2]?=some p2) (g3:ops[3]?=some p3) (m0:jJ P ops p0 o0=true) (m1:jJ P ops p1 o1=true) (m2:jJ P ops p2 o2=true) (m3:jJ P ops p3 o3=true)
  (r0:Region.ready .any ops #[false,false,false,false]=[0]) (r1:Region.ready .any ops #[true,false,false,false]=[1,2]) (r2:Region.ready .any ops #[true,true,false,false]=[2]) (r3:Region.ready .any ops #[true,false,true,false]=[1])
  (r4:Region.ready .any ops #[true,true,true,false]=[3]) (r5:Region.ready .any ops #[true,true,true,true]=[])
  (e0:dV cf nt o0 st=some a0) (e1:dV cf nt o1 a0=some a1) (e2:dV cf nt o2 a1=some a2) (e3:dV cf nt o3 a2=some sA) (f1:dV cf nt o2 a0=some b1) (f2:dV cf nt o1 b1=some b2) (f3:dV cf nt o3 b2=some sB) :
  EX nt (cw P (.region id ops true)) st (two sA sB):=by
 have u1:=j6 hup e1;have u2:=j6 hup e2;have u3:=j6 hup e3;have v1:=j6 hup f1;have v2:=j6 hup f2;have v3:=j6 hup f3;refine⟨max sA.nx sB.nx,fun top ht φ K w a Q s he hs hd hQ=>?_⟩;show (Code.region id ops true).wp P Q a w;refine wp_region_any xh ?_;have gd:=vr (top:=top) s;have hQ':∀x st' a' w',(x=bY.normal/\(st'=sA\/st'=sB))->Post top φ K st w.drew nt st' a' w'->Q x.Gd a' w':=by intro x st' a' w' hx hp;obtain⟨φ',K',g,q⟩:=hp;exact hQ x st' a' w' hx ⟨φ',K',gd.trans g,q⟩
 have s':ck top φ K st.H.get st.nx w.drew:=gd.j4;have he':lO φ K w.drew st.env a:=he.keep s gd;rw [hz];have eR:Array.replicate 4 false=#[false,false,false,false]:=rfl;rw [eR];show wpAny P .any ops Q 4 #[false,false,false,false] a w.drew;have fin:∀(stf:St),(stf=sA\/stf=sB)->∀a' w',Post top φ K st w.drew nt stf a' w'->wpAny P .any ops Q 0 #[true,true,true,true] a' w':=fun stf hst a' w' hp=>⟨r5,hQ' .normal stf a' w' ⟨rfl,hst⟩ hp⟩
 refine⟨fun h=>(by rw [r0] at h;cases h),fun i hi=>?_⟩;rw [r0,UK] at hi;subst hi;refine mO hcf g0 m0 e0 (by omega) s' he' hs hd (fun a1' w1 hp1=>?_);have qjF:=hp1;obtain⟨φ1,K1,G1,q1,q2,q3⟩:=qjF;show wpAny P .any ops Q 3 #[true,false,false,false] a1' w1;refine⟨fun h=>(by rw [r1] at h;cases h),fun i hi=>?_⟩;rw [r1] at hi;rcases UI.1 hi with rfl|hi
 ·refine mO hcf g1 m1 e1 (by omega) G1.j4 q1 q2 q3 (fun a2' w2 hp2=>?_);obtain⟨φ2,K2,G2,t1,t2,t3⟩:=hp2;show wpAny P .any ops Q 2 #[true,true,false,false] a2' w2;refine⟨fun h=>(by rw [r2] at h;cases h),fun i hi=>?_⟩;rw [r2,UK] at hi;subst hi;refine mO hcf g2 m2 e2 (by omega) G2.j4 t1 t2 t3 (fun a3' w3 hp3=>?_);obtain⟨φ3,K3,G3,y1,y2,y3⟩:=hp3;show wpAny P .any ops Q 1 #[true,true,true,false] a3' w3;refine⟨fun h=>(by rw [r4] at h;cases h),fun i hi=>?_⟩;rw [r4,UK] at hi;subst hi;refine mO hcf g3 m3 e3 (by omega) G3.j4 y1 y2 y3 (fun a4' w4 hp4=>?_);exact fin sA (.inl rfl) a4' w4 (((hp4.trans G3).trans G2).trans G1)
 ·rw [UK] at hi;subst hi;refine mO hcf g2 m2 f1 (by omega) G1.j4 q1 q2 q3 (fun a2' w2 hp2=>?_);obtain⟨φ2,K2,G2,t1,t2,t3⟩:=hp2;show wpAny P .any ops Q 2 #[true,false,true,false] a2' w2;refine⟨fun h=>(by rw [r3] at h;cases h),fun i hi=>?_⟩;rw [r3,UK] at hi;subst hi;refine mO hcf g1 m1 f2 (by omega) G2.j4 t1 t2 t3 (fun a3' w3 hp3=>?_);obtain⟨φ3,K3,G3,y1,y2,y3⟩:=hp3;show wpAny P .any ops Q 1 #[true,true,true,false] a3' w3;refine⟨fun h=>(by rw [r4] at h;cases h),fun i hi=>?_⟩;rw [r4,UK] at hi;subst hi;refine mO hcf g3 m3 f3 (by omega) G3.j4 y1 y2 y3 (fun a4' w4 hp4=>?_);exact fin sB (.inr rfl) a4' w4 (((hp4.trans G3).trans G2).trans G1)
theorem F8 {cf:iy} (hcf:mz P cf) (hup:nw cf) {id t:Nat} {ops:Array Oper} {o:Oper} {l:List Oper} {ao:aq} {al:List aq} {st1 st':St} {v a:AV} (hl:ops.toList=o::l) (hm:iV P ops (o::l) (ao::al)=true)
  (h1:dV cf nt ao st=some st1) (hv:ev st1.env (.t t)=v) (hi:bk deep st1.H v=some a) (h2:eY cf nt al ⟨st1.env.put (some a) t,drop st1.H (bx deep st1.H v),st1.nx⟩=some st'):EX nt (cw P (.region id ops false)) st (tN .normal st'):=by
 refine⟨st'.nx,fun top ht φ K w a0 Q s he hs hd hQ=>?_⟩;show (Code.region id ops false).wp P Q a0 w;have qjl:st1.nx<=st'.nx:=(uU hup h2 :);refine wp_region_list ?_;rw [hl];refine wpList_step (fun Kn hK=>?_);simp only [iV,UN] at hm;refine rZ hcf hm.1 h1 (by omega) s he hs hd Kn Q (fun a1 w1 hp=>hK a1 w1 ?_);obtain⟨φ1,K1,g,q1,q2,q3⟩:=hp;have g2:=wz g.j4 (bx deep st1.H v) (drop st1.H (bx deep st1.H v)).get (fun i=>iq _ st1.H i);have hk:=q1.keep g.j4 g2;have he2:lO φ1 (fun b=>K1 b\/Of φ1 st1.H.get (bx deep st1.H v) b) w1 (st1.env.put (some a) t) a1:=by
  intro u;rw [Bq];by_cases hu:u=t
  ·rw [if_pos hu];have hr:=q1 t;rw [hv] at hr;subst hu;exact .pure (lQ g.j4 st1.H (fun b=>K1 b\/Of φ1 st1.H.get (bx deep st1.H v) b) deep v a _ hi (fun i hi=>⟨rfl,fun ob b base h3 h4=>.inr ⟨i,hi,ob,base,h3,h4⟩⟩) (.inl fun b hb=>.inl hb) hr)
  ·rw [if_neg hu];exact hk u
 exact OA hcf hup l al _ st' a1 w1 φ1 _ hm.2 h2 ht g2.j4 he2 q2 q3 (fun a' w' hp'=>hQ .normal st' a' w' ⟨rfl,rfl⟩ ((hp'.trans g2).trans g))
end
end Go.Ax
end
