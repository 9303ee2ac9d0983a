/- Part 7 of the proof: VE, V13, V14, V15, V16, V18. -/
import Derived.Test.YtamgnhdbeecapaaCt6
set_option linter.unusedSimpArgs false
set_option linter.unusedVariables false
noncomputable section
namespace Go.Ax.V
section
variable {sh:Sh} {prog:Map ay} {cf:qn} {nt:Nat}
theorem ve {n:Nat}:∀{l:List Nat},BT n l=true↔n∈l
 |[]=>by simp [BT]
 |m::l=>by simp [BT,ve (l:=l)]
theorem JH {m:List Nat}:∀{l:List Nat},Sy l m=true->∀n∈l,n∈m
 |[],h,n,hn=>by cases hn
 |x::l,h,n,hn=>by
  simp only [Sy,qqB] at h;rcases qqw.1 hn with rfl|hn
  ·exact ve.1 h.1
  ·exact JH h.2 n hn
theorem BM {m:List Nat}:∀{l:List Nat},H_ l m=true->∀n∈l,n ∉ m
 |[],h,n,hn=>by cases hn
 |x::l,h,n,hn=>by
  simp only [H_,qqB,qqD] at h;rcases qqw.1 hn with rfl|hn
  ·intro hm;rw [ve.2 hm] at h;exact absurd h.1 (by decide)
  ·exact BM h.2 n hn
theorem AG {info:List (Nat×Nat×List Nat)} {T:Nat}:∀{l:List Nat},T∈l->(j7 T info).1∈wz info l
 |[],h=>by cases h
 |x::l,h=>by
  rcases qqw.1 h with rfl|h
  ·exact qqu
  ·exact qqv _ (AG h)
theorem Dp {info:List (Nat×Nat×List Nat)} {ah:List Nat}:∀{l:List Nat},yw info ah l=true->∀T∈l,∀c∈(j7 T info).2,c∈ah
 |[],h,T,hT=>by cases hT
 |x::l,h,T,hT=>by
  simp only [yw,qqB] at h;rcases qqw.1 hT with rfl|hT
  ·exact JH h.1
  ·exact Dp h.2 T hT
theorem m8 (T T':Nat) (x:Nat×List Nat) (l:List (Nat×Nat×List Nat)):j7 T ((T',x)::l)=if T'=T then x else j7 T l:=by simp only [j7,cond_eq_ite,qqE]
theorem OY {α:Type} (v:Option α) (l r:Map α) (p:Nat->Bool):G0 (.node v l r) p=((match v with|none=>true|some _=>p 0)&&(G0 l (fun k=>p (Nat.succ (Nat.mul 2 k)))&&G0 r (fun k=>p (Nat.succ (Nat.succ (Nat.mul 2 k)))))):=rfl
theorem y_ {α:Type}:∀(m:Map α) (p:Nat->Bool),G0 m p=true->∀i x,m.get i=some x->p i=true
 |.leaf,p,h,i,x,hx=>by cases hx
 |.node v l r,p,h,i,x,hx=>by
  rw [OY,qqB,qqB] at h;obtain⟨h1,h2,h3⟩:=h;rw [Map.ia] at hx;by_cases h0:i=0
  ·subst h0;simp at hx;subst hx;exact h1
  ·rw [if_neg h0] at hx;split at hx
   ·have:=y_ l _ h2 _ x hx;rwa [show Nat.succ (Nat.mul 2 (i / 2))=i by show 2*(i / 2)+1=i;omega] at this
   ·have:=y_ r _ h3 _ x hx;rwa [show Nat.succ (Nat.succ (Nat.mul 2 (i / 2 - 1)))=i by show 2*(i / 2 - 1)+2=i;omega] at this
theorem sk {V:bt} {T:Nat}:ym V T=true↔∃o,V.H.get T=some o:=by
 unfold ym;split
 ·rename_i o ho;exact⟨fun _=>⟨o,ho⟩,fun _=>rfl⟩
 ·rename_i ho;exact⟨fun h=>(by cases h),fun ⟨o,h⟩=>(by rw [ho] at h;cases h)⟩
theorem Jh {α:Type}:∀(m:Map α) (f:Nat->Prop->Prop) (P:Nat->Prop) (k:Prop),(∀T k,f T k->P T/\k)->OX m f k->k/\∀T x,m.get T=some x->P T
 |.leaf,f,P,k,hf,h=>⟨h,fun T x hT=>(by cases hT)⟩
 |.node v l r,f,P,k,hf,h=>by
  have h':(match v with|none=>fun k=>k|some _=>f 0) (OX l (fun i=>f (Nat.succ (Nat.mul 2 i))) (OX r (fun i=>f (Nat.succ (Nat.succ (Nat.mul 2 i)))) k)):=h;have h0:(∀x,v=some x->P 0)/\OX l (fun i=>f (Nat.succ (Nat.mul 2 i))) (OX r (fun i=>f (Nat.succ (Nat.succ (Nat.mul 2 i)))) k):=by
   cases v with
   |none=>exact⟨fun x hx=>(by cases hx),h'⟩
   |some x=>obtain⟨p,q⟩:=hf 0 _ h';exact⟨fun _ _=>p,q⟩
  obtain⟨hl,h1⟩:=Jh l _ (fun i=>P (Nat.succ (Nat.mul 2 i))) _ (fun T k h=>hf _ _ h) h0.2;obtain⟨hk,h2⟩:=Jh r _ (fun i=>P (Nat.succ (Nat.succ (Nat.mul 2 i)))) _ (fun T k h=>hf _ _ h) hl;refine⟨hk,fun T x hT=>?_⟩;rw [Map.ia] at hT;by_cases h00:T=0
  ·subst h00;rw [if_pos rfl] at hT;exact h0.1 x hT
  ·rw [if_neg h00] at hT;split at hT
   ·have:=h1 _ x hT;rwa [show Nat.succ (Nat.mul 2 (T / 2))=T by show 2*(T / 2)+1=T;omega] at this
   ·have:=h2 _ x hT;rwa [show Nat.succ (Nat.succ (Nat.mul 2 (T / 2 - 1)))=T by show 2*(T / 2 - 1)+2=T;omega] at this
def R7:Option VO->Option VO->Prop
 |some (.gn K _ _ _ v h _),some (.gn K' _ _ _ v' h' _)=>K=K'/\v=v'/\(h=none\/h=h')
 |some (.gn ..),some _=>False
 |some _,some (.gn ..)=>False
 |_,_=>True
theorem PN {x y:Option VO} {k:Prop} (h:PO x y k):R7 x y/\k:=by
 unfold PO at h;split at h
 ·split at h
  ·split at h
   ·rename_i hb;rw [qqB,qqE,qqE] at hb;obtain⟨rfl,rfl⟩:=hb;split at h
    ·exact⟨⟨rfl,rfl,.inl rfl⟩,h⟩
    ·split at h
     ·obtain⟨rfl,h⟩:=h;exact⟨⟨rfl,rfl,.inr rfl⟩,h⟩
     ·cases h
   ·cases h
  ·cases h
  ·exact⟨trivial,h⟩
 ·rename_i o hne;split at h
  ·cases h
  ·rename_i qvW;refine⟨?_,h⟩;cases o<;>first|(exact(hne _ _ _ _ _ _ _ rfl).elim)|skip
   all_goals (cases y with
    |none=>trivial
    |some o=>cases o<;>first|trivial|exact(qvW _ _ _ _ _ _ _ rfl).elim)
 ·exact⟨trivial,h⟩
def R8 (V V':bt):Prop:=∀T o,V'.H.get T=some o->R7 (V.H.get T) (V'.H.get T)
theorem MZ {l:List br} {V V':bt} {k:Prop} (h:N9 l V V' k):k/\(l≠[]->R8 V V'):=by
 cases l with
 |nil=>exact⟨h,fun hn=>absurd rfl hn⟩
 |cons o l=>obtain⟨h1,h2⟩:=Jh V'.H _ (fun T=>R7 (V.H.get T) (V'.H.get T)) k (fun T k h=>PN h) h;exact⟨h1,fun _ T o ho=>h2 T o ho⟩
theorem C_ {A A1:ei} {V V1:bt} {st:St} (hR:R A V st) (hx:Ext V A V1 A1) (hs:R8 V V1) {T:Nat} {o o':VO} {a:AV} {id:Nat} (h':V.H.get T=some o') (h:V1.H.get T=some o) (ha:A T=some a) (hi:j_ A1 o a id):j_ A o' a id:=by
 have hso:=hs T o h;rw [h',h] at hso;rcases hi with hi|hi
 ·exact .inl hi
 cases o with
 |gn K s io iz v hl es=>
  cases o' with
  |gn K' s' io' iz' v' hl' es'=>
   obtain⟨rfl,rfl,hh⟩:=hso;obtain⟨j,x,h1,h2,h3⟩:=hi;obtain⟨rfl,hv,_⟩:=hR.nh T _ a h' ha;rcases hx.new _ x h2 with h4|h4|⟨K2,v2,j2,s2,io2,iz2,ver2,qk1,es2,e,h4,h5⟩
   ·refine .inr ⟨j,x,fun he=>?_,h4,h3⟩;rcases hh with rfl|rfl
    ·cases he
    ·exact h1 he
   ·obtain⟨y,hy,_⟩:=hR.heap _ _ h';have:=hR.used (.s K') h4;rw [hy] at this;cases this
   ·cases e;rw [h'] at h4;cases h4;omega
  |_=>cases hso
 |_=>cases hi
structure Sb (hp:Prop) (n0:Nat) (rs:List Rec) (A:ei) (V:bt) (st:St) (info:List (Nat×Nat×List Nat)) (ρ:Nat->Option Nat):Prop where
 known:∀T o a id,V.H.get T=some o->A T=some a->j_ A o a id->id < n0\/∃c∈(j7 T info).2,∃r,rs[c]?=some r/\r.Kh<=id/\id < r.Dw
 root:hp->∀T o a id,V.H.get T=some o->A T=some a->j_ A o a id->ρ id=some (j7 T info).1
 dom:∀id q,ρ id=some q->id < st.nx
def G2 (ρ:Nat->Option Nat) (r:Rec) (f:List Nat×List Nat):Prop:=
 (∀x∈r.jt,∃id,(match x with|.CA q=>q.id=id|.obj i=>i=id|.all=>False)/\∃q,ρ id=some q/\q∈f.1)/\∃l,r.gQ=.ids l/\∀id∈l,∃q,ρ id=some q/\q∈f.2
structure O0 (hp:Prop) (n0:Nat) (ahead:List (List Nat)) (rs:List Rec) (feet:List (List Nat×List Nat)) (ρ:Nat->Option Nat) (P:List (Nat×Nat)):Prop where
 len:feet.length=rs.length
 SM:hp->∀(c:Nat) r f,rs[c]?=some r->feet[c]?=some f->G2 ρ r f\/∀p∈P,(p.1=c\/p.2=c)->uv rs p=true
 known:∀(c:Nat) r ah,rs[c]?=some r->ahead[c]?=some ah->∀rs',(∀(i:Nat) a,rs[i]?=some a->rs'[i]?=some a)->r.jt.all (Qj n0 rs' ah)=true/\G7 n0 rs' ah r.gQ=true
theorem FN {rs:List Rec} {r:Rec} {p:Nat×Nat} (h:uv rs p=true):uv (rs++[r]) p=true:=by
 unfold uv at h ⊢;split at h
 ·rename_i a b ha hb;have h1:(rs++[r])[p.1]?=some a:=by rw [qqc (qqb.1 ha).1];exact ha
  have h2:(rs++[r])[p.2]?=some b:=by rw [qqc (qqb.1 hb).1];exact hb
  rw [h1,h2];exact h
 ·cases h
theorem G2.mono {ρ ρ':Nat->Option Nat} (h:∀id q,ρ id=some q->ρ' id=some q) {r:Rec} {f:List Nat×List Nat} (hr:G2 ρ r f):G2 ρ' r f:=
 ⟨fun x hx=>let ⟨id,h1,q,h2,h3⟩:=hr.1 x hx;⟨id,h1,q,h _ _ h2,h3⟩,let ⟨l,h1,h2⟩:=hr.2;⟨l,h1,fun id hid=>let ⟨q,h3,h4⟩:=h2 id hid;⟨q,h _ _ h3,h4⟩⟩⟩
def Zb (d:Option Nat) (info:List (Nat×Nat×List Nat)):Nat:=match d with
 |some T=>(j7 T info).1
 |none=>0
theorem Py {n0 i:Nat} {rs:List Rec} {A A1:ei} {V V1:bt} {st st1:St} {info info':List (Nat×Nat×List Nat)} {ρ:Nat->Option Nat} {f:Lp} {d:Option Nat} {r:Rec} {feet:List (List Nat×List Nat)} {ahead:List (List Nat)} {ah:List Nat}
  (hR:R A V st) (hR1:R A1 V1 st1) (hF:Fr V A st.H st.nx V1 A1 st1.H st1.nx) (hx:Ext V A V1 A1) {hp:Prop} {P:List (Nat×Nat)} (hinv:Sb hp n0 rs A V st info ρ) (hh:O0 hp n0 ahead rs feet ρ P) (hi:rs.length=i)
  (hfo:Eh A V f r) (h0:r.Kh=st.nx) (h1:r.Dw=st1.nx) (hah:ahead[i]?=some ah) (hch:yw info ah (f.rd++f.wr)=true) (hs:G_ d i V V1 f info=some info') :
  ∃ρ',(R8 V V1->Sb hp n0 (rs++[r]) A1 V1 st1 info' ρ')/\O0 hp n0 ahead (rs++[r]) (feet++[(wz info f.rd,wz info f.wr)]) ρ' P:=by
 have qjo:(rs++[r])[i]?=some r:=by rw [qqd (by omega),hi,Nat.sub_self];rfl
 have hold:∀(c:Nat) a,rs[c]?=some a->(rs++[r])[c]?=some a:=fun c a hc=>by rw [qqc (qqb.1 hc).1];exact hc
 have hkeys:∀T o,V1.H.get T=some o->(∃o',V.H.get T=some o')\/d=some T:=by
  unfold G_ at hs;split at hs
  ·cases hs
  ·rename_i hc;intro T o hT;have:=y_ _ _ hc T o hT;rw [qqC] at this;rcases this with h|h
   ·exact .inl (sk.1 h)
   ·right;cases d with
    |none=>cases h
    |some d=>simp [isD] at h;rw [h]
 have hnew:∀T,d=some T->V.H.get T=none->∀o,V1.H.get T=some o->∃rt ch,info'=(T,rt,ch)::info/\i∈ch/\∀O o',V.H.get O=some o'->(ym V1 O&&Ns (V.H.get O) (V1.H.get O))=false->(j7 O info).1=rt/\∀c∈(j7 O info).2,c∈ch:=by
  intro T hd hT o ho;subst hd;unfold G_ at hs;split at hs
  ·cases hs
  simp only at hs;have hb:(ym V1 T&&!ym V T)=true:=by
   have e1:ym V1 T=true:=sk.2 ⟨o,ho⟩;have e2:ym V T=false:=by
    cases hh:ym V T with
    |false=>rfl
    |true=>obtain⟨o',h'⟩:=sk.1 hh;rw [hT] at h';cases h'
   rw [e1,e2];rfl
  rw [hb] at hs;simp only at hs;split at hs
  ·cases hs
  rename_i hc;have gone:∀O o',V.H.get O=some o'->(ym V1 O&&Ns (V.H.get O) (V1.H.get O))=false->O∈f.src:=fun O o' h2 h3=>by
   have:=y_ _ _ hc O o' h2;rw [qqC] at this;rcases this with h|h
   ·exact ve.1 h
   ·rw [h3] at h;cases h
  split at hs
  ·rename_i hsrc;cases hs;exact⟨_,_,rfl,by simp,fun O o' h2 h3=>by have:=gone O o' h2 h3;rw [hsrc] at this;cases this⟩
  ·rename_i O1 hsrc;cases hs;refine⟨_,_,rfl,qqu,fun O o' h2 h3=>?_⟩;have:=gone O o' h2 h3;rw [hsrc] at this;simp at this;subst this;exact⟨rfl,fun c hc=>qqv _ hc⟩
  ·cases hs
 have hsame:∀T o,V.H.get T=some o->j7 T info'=j7 T info:=by
  intro T o hT;unfold G_ at hs;split at hs
  ·cases hs
  cases d with
  |none=>cases hs;rfl
  |some d=>
  simp only at hs;split at hs
  ·cases hs;rfl
  rename_i hb;simp only [qqB,qqD] at hb;have hne:d≠T:=by rintro rfl;rw [sk.2 ⟨o,hT⟩] at hb;exact absurd hb.2 (by decide)
  split at hs
  ·cases hs
  split at hs
  ·cases hs;rw [m8,if_neg hne]
  ·cases hs;rw [m8,if_neg hne]
  ·cases hs
 have hid:R8 V V1->∀T,d=some T->V.H.get T=none->∀o a id,V1.H.get T=some o->A1 T=some a->j_ A1 o a id->(st.nx<=id/\id < st1.nx)\/∃(O:Nat) (o':VO) (a':AV),V.H.get O=some o'/\(ym V1 O&&Ns (V.H.get O) (V1.H.get O))=false/\A O=some a'/\j_ A o' a' id:=by
  intro hsm T hd hT o a id ho ha qz0;have qxp:gW V1 A1 id:=⟨T,o,a,ho,ha,qz0⟩;rcases hF.own id qxp with ⟨O,o',a',g1,g2,g3⟩|hle
  ·right;refine⟨O,o',a',g1,?_,g2,g3⟩;cases hO:V1.H.get O with
   |none=>
    have:ym V1 O=false:=by
     cases hh:ym V1 O with
     |false=>rfl
     |true=>obtain⟨o2,h2⟩:=sk.1 hh;rw [hO] at h2;cases h2
    rw [this];rfl
   |some o2=>
    rw [sk.2 ⟨o2,hO⟩,Bool.true_and,g1];have hne:O≠T:=by rintro rfl;rw [hT] at g1;cases g1
    have key:¬j_ A1 o2 a' id:=fun hi=>hne (hR1.inj O T o2 o a' a id hO ho (hx.mono _ _ g2) ha hi qz0)
    have hso:=hsm O o2 hO;rw [g1,hO] at hso;have hfw:=S9 hx.mono g3;cases o' with
    |gn K s io iz v h es=>
     cases o2 with
     |gn K' s' io' iz' v' h' es'=>
      obtain⟨rfl,rfl,hh⟩:=hso;rcases hh with rfl|rfl
      ·cases h' with
       |some j=>rfl
       |none=>
        exfalso;apply key;rcases hfw with hfw|⟨j,x,p1,p2,p3⟩
        ·exact .inl hfw
        ·exact .inr ⟨j,x,by simp,p2,p3⟩
      ·exfalso;apply key;rcases hfw with hfw|⟨j,x,p1,p2,p3⟩
       ·exact .inl hfw
       ·exact .inr ⟨j,x,p1,p2,p3⟩
     |_=>cases hso
    |_=>
     exfalso;rcases hfw with hfw|hfw
     ·exact key (.inl hfw)
     ·cases hfw
  ·exact .inl ⟨hle,hR1.p_ qxp⟩
 let rtD:Nat:=Zb d info'
 let ρ':Nat->Option Nat:=fun id=>if id < st.nx then ρ id else if id < st1.nx then some rtD else none
 have hρ:∀id q,ρ id=some q->ρ' id=some q:=fun id q h=>by show (if id < st.nx then ρ id else _)=_;rw [if_pos (hinv.dom id q h)];exact h
 have qz2:∀T o,V.H.get T=some o->∃a,A T=some a:=fun T o h=>let ⟨a,h1,_⟩:=hR.heap T o h;⟨a,h1⟩
 refine⟨ρ',fun hsm=>⟨fun T o a id ho ha qz0=>?_,fun hP T o a id ho ha qz0=>?_,fun id q h=>?_⟩,⟨by simp [hh.len],fun hP c r' f' hr hf=>?_,fun c r' ah' hr ha' rs' qwI=>?_⟩⟩
 ·cases hT:V.H.get T with
  |some o'=>obtain⟨a',ha'⟩:=qz2 T o' hT;have:=hx.mono _ _ ha';rw [ha] at this;cases this;rw [hsame T o' hT];have qjq:=C_ hR hx hsm hT ho ha' qz0;exact(hinv.known T o' a id hT ha' qjq).imp (fun h=>h) (fun ⟨c,h2,r2,h3,h4⟩=>⟨c,h2,r2,hold c r2 h3,h4⟩)
  |none=>
   have hd:d=some T:=(hkeys T o ho).elim (fun ⟨o',h⟩=>by rw [hT] at h;cases h) (fun h=>h);obtain⟨rt,ch,qjp,qQ5,hO⟩:=hnew T hd hT o ho;rw [qjp,m8,if_pos rfl];rcases hid hsm T hd hT o a id ho ha qz0 with ⟨h2,h3⟩|⟨O,o',a',g1,g2,g3,g4⟩
   ·exact .inr ⟨i,qQ5,r,qjo,by rw [h0];exact h2,by rw [h1];exact h3⟩
   ·obtain⟨_,hc⟩:=hO O o' g1 g2;exact(hinv.known O o' a' id g1 g3 g4).imp (fun h=>h) (fun ⟨c,h2,r2,h3,h4⟩=>⟨c,hc c h2,r2,hold c r2 h3,h4⟩)
 ·cases hT:V.H.get T with
  |some o'=>obtain⟨a',ha'⟩:=qz2 T o' hT;have:=hx.mono _ _ ha';rw [ha] at this;cases this;rw [hsame T o' hT];have qjq:=C_ hR hx hsm hT ho ha' qz0;exact hρ _ _ (hinv.root hP T o' a id hT ha' qjq)
  |none=>
   have hd:d=some T:=(hkeys T o ho).elim (fun ⟨o',h⟩=>by rw [hT] at h;cases h) (fun h=>h);obtain⟨rt,ch,qjp,qQ5,hO⟩:=hnew T hd hT o ho;rcases hid hsm T hd hT o a id ho ha qz0 with ⟨h2,h3⟩|⟨O,o',a',g1,g2,g3,g4⟩
   ·show (if id < st.nx then ρ id else if id < st1.nx then some rtD else none)=_;rw [if_neg (by omega),if_pos h3];show some (Zb d info')=_;rw [hd];rfl
   ·obtain⟨qzs,_⟩:=hO O o' g1 g2;rw [qjp,m8,if_pos rfl,←qzs];exact hρ _ _ (hinv.root hP O o' a' id g1 g3 g4)
 ·have h':(if id < st.nx then ρ id else if id < st1.nx then some rtD else none)=some q:=h;split at h'
  ·have:=hF.le;omega
  ·split at h'
   ·assumption
   ·cases h'
 ·by_cases hc:c < rs.length
  ·rw [qqc hc] at hr;rw [qqc (by rw [hh.len];exact hc)] at hf;exact(hh.SM hP c r' f' hr hf).imp (fun h=>h.mono hρ) (fun h p hp hc=>FN (h p hp hc))
  ·have hce:c=rs.length:=by have:=(qqb.1 hr).1;simp at this;omega
   subst hce;rw [qqd (qqT _),Nat.sub_self] at hr;rw [qqd (by rw [hh.len];exact qqT _),hh.len,Nat.sub_self] at hf;cases hr;cases hf;refine .inl ⟨fun x hx'=>?_,?_⟩
   ·obtain⟨id,g1,T,g2,o,a,g3,g4,g5⟩:=hfo.rd x hx';exact⟨id,g1,_,hρ _ _ (hinv.root hP T o a id g3 g4 g5),AG g2⟩
   ·obtain⟨l,g1,g2⟩:=hfo.wr;refine⟨l,g1,fun id qxL=>?_⟩;obtain⟨T,g3,o,a,g4,g5,g6⟩:=g2 id qxL;exact⟨_,hρ _ _ (hinv.root hP T o a id g4 g5 g6),AG g3⟩
 ·by_cases hc:c < rs.length
  ·rw [qqc hc] at hr;exact hh.known c r' ah' hr ha' rs' (fun j a hj=>qwI j a (hold j a hj))
  ·have hce:c=rs.length:=by have:=(qqb.1 hr).1;simp at this;omega
   subst hce;rw [qqd (qqT _),Nat.sub_self] at hr;cases hr;rw [hi,hah] at ha';cases ha';have okId:∀T o a id,T∈f.rd++f.wr->V.H.get T=some o->A T=some a->j_ A o a id->Kz n0 rs' ah id=true:=by
    intro T o a id hT g1 g2 g3;unfold Kz;rw [qqC];rcases hinv.known T o a id g1 g2 g3 with h|⟨c,h2,r2,h3,h4,h5⟩
    ·exact .inl (by simpa using h)
    ·right;rw [List.any_eq_true];refine⟨c,Dp hch T hT c h2,?_⟩;rw [qwI c r2 (hold c r2 h3)];simp only [qqB];exact⟨by simpa using h4,by simpa using h5⟩
   refine⟨qqA.2 (fun x hx'=>?_),?_⟩
   ·obtain⟨id,g1,T,g2,o,a,g3,g4,g5⟩:=hfo.rd x hx';have:=okId T o a id (List.mem_append_left _ g2) g3 g4 g5;cases x with
    |CA q=>cases g1;exact this
    |obj j=>cases g1;exact this
    |all=>cases g1
   ·obtain⟨l,g1,g2⟩:=hfo.wr;rw [g1];refine qqA.2 (fun id qxL=>?_);obtain⟨T,g3,o,a,g4,g5,g6⟩:=g2 id qxL;exact okId T o a id (List.mem_append_right _ g3) g4 g5 g6
theorem Ey {n0:Nat} {rs:List Rec}:∀(ahead:List (List Nat)) (l:List Rec),ahead.length=l.length->(∀(c:Nat) r ah,l[c]?=some r->ahead[c]?=some ah->r.jt.all (Qj n0 rs ah)=true/\G7 n0 rs ah r.gQ=true)->vg n0 rs ahead l=true
 |[],[],h,hk=>rfl
 |[],_::_,h,hk=>by cases h
 |_::_,[],h,hk=>by cases h
 |a::as,r::l,h,hk=>by obtain⟨h1,h2⟩:=hk 0 r a rfl rfl;simp only [vg,h1,h2,Bool.true_and];exact Ey as l (Nat.succ.inj h) (fun c r' ah hr ha=>hk (c+1) r' ah (by simpa using hr) (by simpa using ha))
theorem JJ {ρ:Nat->Option Nat} {a b:Rec} {fa fb:List Nat×List Nat} (ha:G2 ρ a fa) (hb:G2 ρ b fb) (hd:∀q∈fa.2,q ∉ fb.1):still a b=true:=by
 unfold still;rw [cj];intro x hx;obtain⟨id,h1,q,h2,h3⟩:=hb.1 x hx;obtain⟨l,h4,h5⟩:=ha.2;have hno:id ∉ l:=fun hm=>by obtain⟨q',h6,h7⟩:=h5 id hm;rw [h2] at h6;cases h6;exact hd q h7 h3
 have hc:l.contains id=false:=by
  cases hh:l.contains id with
  |false=>rfl
  |true=>exact absurd (by simpa using hh) hno
 cases x with
 |CA r=>cases h1;simp only [sx,h4,hc,cond_false]
 |obj j=>cases h1;simp only [sx,h4,hc,Bool.not_false]
 |all=>cases h1
theorem R0 {ρ:Nat->Option Nat} {a b:Rec} {fa fb:List Nat×List Nat} (ha:G2 ρ a fa) (hb:G2 ρ b fb) (hd:∀q∈fa.2,q ∉ fb.2):apart a b=true:=by
 obtain⟨l,h1,h2⟩:=ha.2;obtain⟨l',h3,h4⟩:=hb.2;unfold apart;rw [h1,h3];simp only;rw [qqA];intro id hid;obtain⟨q,h5,h6⟩:=h2 id hid;cases hh:l'.contains id with
 |false=>rfl
 |true=>obtain⟨q',h7,h8⟩:=h4 id (by simpa using hh);rw [h5] at h7;cases h7;exact absurd h8 (hd q h6)
theorem J5 {n0:Nat} {ahead:List (List Nat)} {rs:List Rec} {feet:List (List Nat×List Nat)} {ρ:Nat->Option Nat} {hp:Prop} {P:List (Nat×Nat)} (hh:O0 hp n0 ahead rs feet ρ P):∀{pairs:List (Nat×Nat)},(∀p∈pairs,p∈P)->(pairs≠[]->hp)->IJ feet pairs=true->gE (uv rs) pairs=true
 |[],_,_,h=>rfl
 |(i,j)::l,hsub,hpp,h=>by
  have hP:=hpp (by simp);simp only [IJ,qqB] at h;rw [cj];intro p hp;rcases qqw.1 hp with rfl|hp
  ·have h1:=h.1;split at h1;rotate_left
   ·cases h1
   rename_i fa hfa;split at h1;rotate_left
   ·cases h1
   rename_i fb hfb;rw [qqB,qqB] at h1;obtain⟨d1,d2,d3⟩:=h1;have li:=(qqb.1 hfa).1;have lj:=(qqb.1 hfb).1;rw [hh.len] at li lj;have ra:=qqa li;have rb:=qqa lj;rcases hh.SM hP i _ fa ra hfa with ha|ha;rotate_left
   ·exact ha _ (hsub _ qqu) (.inl rfl)
   rcases hh.SM hP j _ fb rb hfb with hb|hb;rotate_left
   ·exact hb _ (hsub _ qqu) (.inr rfl)
   unfold uv;simp only [ra,rb,qqB];exact⟨⟨JJ ha hb (BM d1),JJ hb ha (BM d2)⟩,R0 ha hb (BM d3)⟩
  ·exact cj.1 (J5 hh (fun q hq=>hsub q (qqv _ hq)) (fun _=>hP) h.2) p hp
def oC (info:List (Nat×Nat×List Nat)):List Nat:=info.map (·.1)
theorem iw:∀{info:List (Nat×Nat×List Nat)} {V:bt} {O:Nat} {o:VO},(n9 info V).H.get O=some o->O ∉ oC info/\V.H.get O=some o
 |[],V,O,o,h=>⟨by simp [oC],h⟩
 |(T,x)::l,V,O,o,h=>by obtain⟨h1,h2⟩:=iw (info:=l) (V:=f_ V T) h;obtain⟨h3,h4⟩:=lq h2;refine⟨fun hm=>?_,h4⟩;simp only [oC,List.map_cons,qqw] at hm;exact hm.elim h3 h1
theorem Gq:∀(info:List (Nat×Nat×List Nat)) (V:bt),(n9 info V).env=V.env/\(n9 info V).us=V.us
 |[],V=>⟨rfl,rfl⟩
 |(T,x)::l,V=>by obtain⟨h1,h2⟩:=Gq l (f_ V T);exact⟨h1,h2⟩
theorem Cv {T:Nat}:∀{info:List (Nat×Nat×List Nat)},T ∉ oC info->j7 T info=(T,[])
 |[],_=>rfl
 |(T',x)::l,h=>by simp only [oC,List.map_cons,qqw,not_or] at h;rw [m8,if_neg (Ne.symm h.1)];exact Cv h.2
theorem F8 {i T:Nat} {info:List (Nat×Nat×List Nat)}:∀{ns:List Nat},T∈ns->j7 T (EC i ns info)=(T,[i])
 |[],h=>by cases h
 |T'::r,h=>by
  simp only [EC,m8];by_cases e:T'=T
  ·subst e;rw [if_pos rfl]
  ·rw [if_neg e];rcases qqw.1 h with rfl|h
   ·exact absurd rfl e
   ·exact F8 h
theorem BF {i T:Nat} {info:List (Nat×Nat×List Nat)}:∀{ns:List Nat},T ∉ ns->j7 T (EC i ns info)=j7 T info
 |[],h=>rfl
 |T'::r,h=>by simp only [qqw,not_or] at h;simp only [EC,m8,if_neg (Ne.symm h.1)];exact BF h.2
theorem BB {V:bt}:∀{l:List Nat},Kj V l=true->∀T∈l,V.H.get T=none
 |[],h,T,hT=>by cases hT
 |x::l,h,T,hT=>by
  simp only [Kj,qqB] at h;rcases qqw.1 hT with rfl|hT
  ·have h1:=h.1;split at h1
   ·cases h1
   ·assumption
  ·exact BB h.2 T hT
theorem Ju {V:bt} {o:br} {ns:List Nat} (h:Iq sh V o=some ns):(∃d f args,o=⟨some d,.call f args .share,none,false⟩)\/∃d f args,o=⟨d,.call f args .borrow,none,false⟩:=by
 obtain⟨dd,op,gd,fz⟩:=o;unfold Iq at h;simp only at h;split at h
 ·cases h
 split at h
 ·cases h
 split at h
 ·split at h
  ·exact .inl ⟨_,_,_,rfl⟩
  ·cases h
 ·exact .inr ⟨_,_,_,rfl⟩
 ·cases h
theorem yx {A A1:ei} {V V1:bt} {st:St} {st1:St} {qxE:List (Nat×Nat×List Nat)} (hR:R A V st) (hx:∀O x,A O=some x->A1 O=some x)
  (hH:∀T o a id,T∈oC qxE->V.H.get T=some o->A T=some a->j_ A o a id->st1.H.get id=st.H.get id)
  (hown:∀id,gW V1 A1 id->gW (n9 qxE V) A id\/st.nx<=id) :
  ∀(info:List (Nat×Nat×List Nat)) (W:bt),(∀T∈oC info,T∈oC qxE)->R A1 W st1->(∀O o,W.H.get O=some o->V1.H.get O=some o\/(O∈oC qxE/\V.H.get O=some o/\o.pl=true))->
   R A1 (yz V info W) st1/\(yz V info W).env=W.env/\(yz V info W).us=W.us/\(∀O o,(yz V info W).H.get O=some o->V1.H.get O=some o\/(O∈oC qxE/\V.H.get O=some o/\o.pl=true))/\∀O o,W.H.get O=some o->(yz V info W).H.get O=some o
 |[],W,_,hW,hk=>⟨hW,rfl,rfl,hk,fun _ _ h=>h⟩
 |(T,x)::l,W,hs,hW,hk=>by
  have hsl:∀T∈oC l,T∈oC qxE:=fun T' h=>hs T' (by simp only [oC,List.map_cons,qqw];exact .inr h)
  have hT:T∈oC qxE:=hs T (by simp [oC]);simp only [yz];split
  ·exact yx hR hx hH hown l W hsl hW hk
  rename_i hWT;split;rotate_left
  ·exact yx hR hx hH hown l W hsl hW hk
  rename_i o ho;split;rotate_left
  ·exact yx hR hx hH hown l W hsl hW hk
  rename_i hpl;obtain⟨a,hA,hor⟩:=hR.heap T o ho;have qx4:∀id,gR a=some id->gW V A id:=fun id hi=>⟨T,o,a,ho,hA,.inl hi⟩
  obtain⟨hR',_⟩:=DM (hpl:=hpl) hW (O:=T) (o:=o) (hx _ _ hA) (hor.mono hx (fun id hi=>hH T o a id hT ho hA hi)) (fun id hi ⟨O,o',a',h1,h2,h3⟩=>by
   rcases hk O o' h1 with h4|⟨h4,h5,qk0⟩
   ·rcases hown id ⟨O,o',a',h4,h2,h3⟩ with ⟨O2,o2,a2,h6,h7,h8⟩|hle
    ·obtain⟨hn,h6'⟩:=iw h6;have:=hR.inj O2 T o2 o a2 a id h6' ho h7 hA h8 (.inl hi);subst this;exact hn hT
    ·have:=hR.p_ (qx4 id hi);omega
   ·obtain⟨a2,h7,_⟩:=hR.heap O o' h5;have:=hx _ _ h7;rw [h2] at this;cases this;have:=hR.inj O T o' o a' a id h5 ho h7 hA ((jd qk0).2 ((jd qk0).1 h3)) (.inl hi);subst this;rw [hWT] at h1;cases h1)
  obtain⟨g1,g2,g3,g4,g5⟩:=yx hR hx hH hown l (ew W T o) hsl hR' (fun O o' h=>by
   simp only [ew,Map.bk] at h;split at h
   ·rename_i e;subst e;cases h;exact .inr ⟨hT,ho,hpl⟩
   ·exact hk O o' h)
  refine⟨g1,g2,g3,g4,fun O o' h=>g5 O o' ?_⟩;simp only [ew,Map.bk];split
  ·rename_i e;subst e;rw [hWT] at h;cases h
  ·exact h
def Ww (prog:Map ay) (nt n0:Nat) (o:br) (A:ei) (V1:bt) (st:St) (k:bt->Prop):Prop:=
 ∃H' nx' e' H2 jt gQ V2 A2,gv (ey prog) nt n0 o st=some (⟨e',H2,nx'⟩,⟨jt,gQ,st.H,H2,st.nx,nx'⟩)/\(∀id,H2.get id=if id < n0\/(st.nx<=id/\id < nx') then H'.get id else st.H.get id)/\
  R A2 V2 ⟨e',H',nx'⟩/\Fr V1 A (st.H.upto fun i=>Nat.blt i n0) st.nx V2 A2 H' nx'/\Ext V1 A V2 A2/\k V2/\(∀rs ah,jt.all (Qj n0 rs ah)=true/\G7 n0 rs ah gQ=true)/\(jt=[]\/jt=[.all])/\(gQ=.ids []\/gQ=.all)
theorem LA (hsh:vz prog sh) {n0 d f:Nat} {args:List b_} {A:ei} {V1:bt} {st:St} {k:bt->Prop} (hR0:R A V1 ⟨st.env,st.H.upto fun i=>Nat.blt i n0,st.nx⟩)
  (hk:Fe sh nt V1 (some d) f args k):Ww prog nt n0 ⟨some d,.call f args .share,none,false⟩ A V1 st k:=by
 obtain⟨v,H',nx',hdo,e',hput,V2,A1,hR1,hF,hx,hk1⟩:=Nj (nt:=nt) hsh hR0 hk;have hkd:kind (.call f args .share)=.call f args .share:=rfl;have hcf:ey prog f (args.map (ev st.env)) (st.H.upto fun i=>Nat.blt i n0) st.nx=some (v,H',nx'):=by simpa only [qj,hkd,gL] using hdo
 let P:Nat->Bool:=fun i=>Nat.blt i n0||(Nat.ble st.nx i&&Nat.blt i nx')
 have hP:∀i,P i=true↔(i < n0\/(st.nx<=i/\i < nx')):=fun i=>by show (Nat.blt i n0||(Nat.ble st.nx i&&Nat.blt i nx'))=true↔_;simp
 let H2:ck:=(H'.upto P).union (st.H.upto fun i=>!P i)
 refine⟨H',nx',e',H2,[.all],.all,V2,A1,?_,fun id=>?_,hR1,hF,hx,hk1,fun rs ah=>⟨rfl,rfl⟩,.inr rfl,.inr rfl⟩
 ·have h1:oR (ey prog) n0 ⟨some d,.call f args .share,none,false⟩ (ev st.env) st.H st.nx=some (v,H2,nx',[.all],.all):=by simp only [oR,cond_false,Bb,hkd,je,hcf];rfl
  have hw:wanted st.env none=true:=rfl;simp only [gv,hw,cond_true,h1,hput]
 ·show ((H'.upto P).union (st.H.upto fun i=>!P i)).get id=_;rw [Map.HU,Map.qd,Map.qd];by_cases h:P id=true
  ·rw [if_pos ((hP id).1 h)];simp only [h,if_true,Bool.not_true];cases H'.get id<;>rfl
  ·rw [if_neg (fun hc=>h ((hP id).2 hc))];simp only [h];rfl
theorem Jt {n0 f:Nat} {d:Option Nat} {args:List b_} {A:ei} {V1:bt} {st:St} {k:bt->Prop} (hR0:R A V1 ⟨st.env,st.H.upto fun i=>Nat.blt i n0,st.nx⟩)
  (hk:Gf sh prog nt V1 d none f args k):Ww prog nt n0 ⟨d,.call f args .borrow,none,false⟩ A V1 st k:=by
 obtain⟨v,hdo,e',hput,V2,A1,hR1,hF,hx,hk1⟩:=IM (g:=none) hR0 trivial hk;have hkd:kind (.call f args .borrow)=.call f args .borrow:=rfl;have hw:wanted st.env none=true:=rfl;have qxR:gL (ey prog) f (args.map (ev st.env)) .borrow (st.H.upto fun i=>Nat.blt i n0) st.nx=some (v,(st.H.upto fun i=>Nat.blt i n0),st.nx):=hdo;have qq9:∀id,st.H.get id=if id < n0\/(st.nx<=id/\id < st.nx) then (st.H.upto fun i=>Nat.blt i n0).get id else st.H.get id:=by
  intro id;split
  ·rw [Map.qd,if_pos];rename_i h;have:id < n0:=by rcases h with h|h<;>omega
   simpa using this
  ·rfl
 by_cases hp:gE AV.plain (args.map (ev st.env))=true
 ·have h0:gL (ey prog) f (args.map (ev st.env)) .borrow st.H st.nx=some (v,st.H,st.nx):=by
   simp only [gL,hp,cond_true] at qxR ⊢;split at qxR
   ·rename_i r hr;simp only [Option.some.injEq,Prod.mk.injEq] at qxR;simp only [hr,qxR.1]
   ·cases qxR
  refine⟨_,st.nx,e',st.H,[],.ids [],V2,A1,?_,qq9,hR1,hF,hx,hk1,fun rs ah=>⟨rfl,rfl⟩,.inl rfl,.inl rfl⟩;have h1:oR (ey prog) n0 ⟨d,.call f args .borrow,none,false⟩ (ev st.env) st.H st.nx=some (v,st.H,st.nx,[],.ids []):=by simp only [oR,cond_false,Bb,hkd,je,hp,cond_true,h0]
  simp only [gv,hw,cond_true,h1,hput]
 ·have hpb:gE AV.plain (args.map (ev st.env))=false:=by simpa using hp
  refine⟨_,st.nx,e',st.H,[.all],.ids [],V2,A1,?_,qq9,hR1,hF,hx,hk1,fun rs ah=>⟨rfl,rfl⟩,.inr rfl,.inl rfl⟩;have h1:oR (ey prog) n0 ⟨d,.call f args .borrow,none,false⟩ (ev st.env) st.H st.nx=some (v,st.H,st.nx,[.all],.ids []):=by simp only [oR,cond_false,Bb,hkd,je,hpb,qxR]
  simp only [gv,hw,cond_true,h1,hput]
mutual
theorem ON:∀a:AV,tf a a=true
 |.bool _=>by simp [tf]
 |.int k n=>by simp [tf,Tl,D6]
 |.str _=>by simp [tf]
 |.BS=>rfl
 |.av=>rfl
 |.ptr _ _ _=>by simp [tf]
 |.qc cs _=>by simp [tf,qy cs]
 |.ju cs _ _=>by simp [tf,qy cs]
 |.ref _ _ _ _ _ _ _=>by simp [tf]
 |.agg cs=>by simp [tf,qy cs]
 |.qo cs=>by simp [tf,qy cs]
 |.func _=>by simp [tf]
 |.Am _=>by simp [tf]
theorem qy:∀l:List AV,A9 l l=true
 |[]=>rfl
 |x::xs=>by simp [A9,ON x,qy xs]
end
theorem UW {a b:Rec} {q:Lm} {xs:List AV} (ha1:a.gQ=.ids []) (ha2:a.jt=[.CA q]) (hb1:b.jt=[]\/b.jt=[.all]) (hb2:b.gQ=.ids []\/b.gQ=.all)
  (f0:jg b.H0 (some q)=some xs) (f1:jg b.H1 (some q)=some xs) (fa:jg a.H0 (some q)=some xs):(still a b&&still b a&&apart a b)=true:=by
 rw [qqB,qqB];refine⟨⟨?_,?_⟩,?_⟩
 ·unfold still;rcases hb1 with h|h<;>rw [h]
  ·rfl
  ·rw [cj];intro y hy;simp at hy;subst hy;simp only [sx,ha1]
 ·unfold still;rw [ha2,cj];intro y hy;simp at hy;subst hy;rcases hb2 with h|h<;>simp only [sx,h]
  ·rfl
  ·simp only [Hf,f0,f1,fa,qy,Bool.and_self]
 ·unfold apart;rw [ha1];rcases hb2 with h|h<;>rw [h];rfl
def TG (v:TV) (ovs:List (Nat×VV)) (off:Nat) (key:qk):Prop:=match key with
 |.sl N=>eC off ovs=some (.sl N)
 |.tr c=>eC off ovs=none/\∃t,TV.uniq t=true/\c=some t/\ct v off=some t
def WM (V:bt) (O off:Nat) (keys:List qk):Prop:=keys≠[]/\∃v ovs,V.H.get O=some (.ob v ovs)/\∀(j:Nat) key,keys[j]?=some key->TG v ovs (off+j) key
def KeyX (A:ei) (key:qk) (x:AV):Prop:=match key with
 |.sl N=>A (.s N)=some x
 |.tr c=>∀t,c=some t->Can t x
def Im (A:ei) (keys:List qk) (xs:List AV):Prop:=keys≠[]/\xs.length=keys.length/\∀(j:Nat) key x,keys[j]?=some key->xs[j]?=some x->KeyX A key x
theorem Im.mono {A A':ei} {keys:List qk} {xs:List AV} (h:Im A keys xs) (hx:∀O x,A O=some x->A' O=some x):Im A' keys xs:=
 ⟨h.1,h.2.1,fun j key x h1 h2=>by
  have:=h.2.2 j key x h1 h2;cases key with
  |sl N=>exact hx _ _ this
  |tr c=>exact this⟩
theorem RO {t:TV} {x y:AV} (hu:t.uniq=true) (h1:Can t x) (h2:Can t y):x=y:=by cases t<;>first|(cases hu;done)|(cases h1;cases h2;rfl)
theorem Nr {v:TV} {ovs:List (Nat×VV)} {k:Prop}:∀{keys:List qk} {off:Nat},OC v ovs off keys k->(∀(j:Nat) key,keys[j]?=some key->TG v ovs (off+j) key)/\k
 |[],off,h=>⟨fun j key hj=>by simp at hj,h⟩
 |key::l,off,h=>by
  have go:∀{off:Nat},TG v ovs off key->OC v ovs (off+1) l k->(∀(j:Nat) key',(key::l)[j]?=some key'->TG v ovs (off+j) key')/\k:=fun {off} h1 h2=>by
   obtain⟨g1,g2⟩:=Nr h2;refine⟨fun j key' hj=>?_,g2⟩;cases j with
   |zero=>simp at hj;subst hj;exact h1
   |succ j=>have:=g1 j key' (by simpa using hj);rw [show off+(j+1)=off+1+j by omega];exact this
  simp only [OC] at h;split at h
  ·rename_i N;split at h
   ·rename_i N' ho;split at h
    ·rename_i e;rw [qqE] at e;subst e;exact go ho h
    ·cases h
   ·cases h
  ·split at h
   ·rename_i ho;exact go ⟨ho,h.1⟩ h.2
   ·cases h
theorem S7 {V:bt} {O off:Nat} {key:List qk} {k:Prop} (hne:key≠[]) (h:Vh V O off key k):WM V O off key/\k:=by
 unfold Vh at h;split at h
 ·rename_i v ovs hv;obtain⟨h1,h2⟩:=Nr h;exact⟨⟨hne,v,ovs,hv,h1⟩,h2⟩
 ·cases h
theorem D3 {i:Nat}:∀{cl:List (Nat×Nat×Nat×List qk)} {p:Nat×Nat×List qk},KH i cl=some p->(i,p)∈cl
 |[],p,h=>by cases h
 |(c,q)::l,p,h=>by
  simp only [KH] at h;split at h
  ·rename_i e;rw [qqE] at e;subst e;cases h;exact qqu
  ·exact qqv _ (D3 h)
theorem C6 {V:bt} {cl:List (Nat×Nat×Nat×List qk)} {i:Nat} {k:Prop} (hcl:∀c O off key,(c,O,off,key)∈cl->key≠[]):∀{P:List (Nat×Nat)},C7 V cl i P k->k/\∀p∈P,p.1≠i/\(p.2=i->∃O off key,KH p.1 cl=some (O,off,key)/\WM V O off key)
 |[],h=>⟨h,fun p hp=>by cases hp⟩
 |(a,b)::l,h=>by
  simp only [C7] at h;split at h
  ·cases h
  rename_i hai;have hne:a≠i:=fun e=>by subst e;simp at hai
  split at h
  ·rename_i hbi;have hnb:b≠i:=fun e=>by subst e;simp at hbi
   obtain⟨g1,g2⟩:=C6 hcl h;refine⟨g1,fun p hp=>?_⟩;rcases qqw.1 hp with rfl|hp
   ·exact⟨hne,fun e=>absurd e hnb⟩
   ·exact g2 p hp
  ·split at h
   ·cases h
   ·rename_i O off key hf;obtain⟨h1,h⟩:=S7 (hcl _ _ _ _ (D3 hf)) h;obtain⟨g1,g2⟩:=C6 hcl h;refine⟨g1,fun p hp=>?_⟩;rcases qqw.1 hp with rfl|hp
    ·exact⟨hne,fun _=>⟨O,off,key,hf,h1⟩⟩
    ·exact g2 p hp
theorem K_ {A:ei} {V:bt} {st:St} (hR:R A V st) {O off id n:Nat} {v:TV} {ovs:List (Nat×VV)} {ys:List AV} (hv:V.H.get O=some (.ob v ovs)) (hA:A O=some (.ptr id 0 0))
  (hf:jg st.H (some ⟨id,0,off,n⟩)=some ys):ys.length=n/\∀(j:Nat) y,ys[j]?=some y->(∀N,eC (off+j) ovs=some (.sl N)->A (.s N)=some y)/\(eC (off+j) ovs=none->∀t,ct v (off+j)=some t->Can t y):=by
 obtain⟨a,ha,id',cs,ts,rfl,hH,hc⟩:=hR.heap O _ hv;rw [hA] at ha;cases ha;simp only [jg,hH,Nat.beq_refl,cond_true] at hf;rw [jf] at hf;split at hf;rotate_left
 ·cases hf
 rename_i hle;have h1:=qqO hf;refine⟨by rw [←h1];simp;omega,fun j y hy=>?_⟩;have hcs:cs[off+j]?=some y:=by
  rw [←h1,qqg] at hy;split at hy
  ·rw [qqh] at hy;exact hy
  ·cases hy
 have hlt:off+j < ts.length:=by rw [hc.len];exact(qqb.1 hcs).1
 have hat:=hc.at_ (off+j) _ y (qqa hlt) hcs;refine⟨fun N ho=>?_,fun ho t ht=>?_⟩
 ·rw [ho] at hat;exact hat
 ·rw [ho] at hat;obtain⟨ts',h1,h2⟩:=qz ht;have:=hc.cells.symm.trans h1;cases this;rw [qqa hlt] at h2;cases h2;exact hat.1
theorem Nq {A:ei} {V:bt} {st:St} (hR:R A V st) {O off id:Nat} {keys:List qk} {xs:List AV} (hk:WM V O off keys) (hA:A O=some (.ptr id 0 0)) (hx:Im A keys xs):jg st.H (some ⟨id,0,off,keys.length⟩)=some xs:=by
 obtain⟨hne,v,ovs,hv,hk⟩:=hk;obtain⟨a,ha,id',cs,ts,rfl,hH,hc⟩:=hR.heap O _ hv;rw [hA] at ha;cases ha;have qXP:∀j,j < keys.length->off+j < ts.length:=by
  intro j hj;have hkj:=hk j _ (qqa hj);generalize keys[j]=key at hkj;cases key with
  |sl N=>exact hc.keys _ _ hkj
  |tr c=>obtain⟨_,t,_,_,h2⟩:=hkj;obtain⟨ts',h3,h4⟩:=qz h2;have:=hc.cells.symm.trans h3;cases this;exact(qqb.1 h4).1
 have hpos:0 < keys.length:=by cases keys with|nil=>exact absurd rfl hne|cons k ks=>simp
 have hle:off+keys.length<=cs.length:=by have:=qXP (keys.length - 1) (by omega);have:=hc.len;omega
 have hf:jg st.H (some ⟨id,0,off,keys.length⟩)=some ((cs.drop off).take keys.length):=by simp only [jg,hH,Nat.beq_refl,cond_true];rw [jf,if_pos hle]
 obtain⟨g0,g1⟩:=K_ hR hv hA hf;rw [hf];congr 1;generalize (cs.drop off).take keys.length=ys at g0 g1;refine List.ext_getElem? fun j=>?_
 by_cases hj:j < keys.length
 ·have e1:ys[j]?=some (ys[j]'(by rw [g0];exact hj)):=qqa _;have e2:xs[j]?=some (xs[j]'(by rw [hx.2.1];exact hj)):=qqa _;obtain⟨q1,q2⟩:=g1 j _ e1;have hkj:=hk j _ (qqa hj);have hxj:=hx.2.2 j _ _ (qqa hj) e2;rw [e1,e2];congr 1;generalize keys[j]=key at hkj hxj;cases key with
  |sl N=>have h1:=q1 N hkj;have h2:A (.s N)=some _:=hxj;rw [h1] at h2;exact qqO h2
  |tr c=>obtain⟨ho,t,hu,h1,h2⟩:=hkj;exact RO hu (q2 ho t h2) (hxj t h1)
 ·rw [qqf (by omega),qqf (by have:=hx.2.1;omega)]
def Jl (A:ei) (rs:List Rec) (cl:List (Nat×Nat×Nat×List qk)):Prop:=∀c O off keys,(c,O,off,keys)∈cl->∃r id xs,rs[c]?=some r/\r.gQ=.ids []/\r.jt=[.CA ⟨id,0,off,keys.length⟩]/\A (.s O)=some (.ptr id 0 0)/\jg r.H0 (some ⟨id,0,off,keys.length⟩)=some xs/\Im A keys xs
theorem Jl.ne {A:ei} {rs:List Rec} {cl:List (Nat×Nat×Nat×List qk)} (h:Jl A rs cl):∀c O off key,(c,O,off,key)∈cl->key≠[]:=fun c O off key hm=>by obtain⟨_,_,_,_,_,_,_,_,hx⟩:=h c O off key hm;exact hx.1
theorem Jl.mono {A A':ei} {rs:List Rec} {r:Rec} {cl:List (Nat×Nat×Nat×List qk)} (h:Jl A rs cl) (hx:∀O x,A O=some x->A' O=some x):Jl A' (rs++[r]) cl:=fun c O off key hm=>by obtain⟨r',id,x,h1,h2,h3,h4,h5,h6⟩:=h c O off key hm;exact⟨r',id,x,(by rw [qqc (qqb.1 h1).1];exact h1),h2,h3,hx _ _ h4,h5,h6.mono hx⟩
theorem HL {v:TV} {ovs:List (Nat×VV)}:∀{n off:Nat} {keys:List qk},IU v ovs off n=some keys->keys.length=n/\∀(j:Nat) key,keys[j]?=some key->match key with
  |.sl N=>eC (off+j) ovs=some (.sl N)
  |.tr c=>eC (off+j) ovs=none/\c=ct v (off+j)
 |0,off,keys,h=>by cases h;exact⟨rfl,fun j key hj=>by simp at hj⟩
 |n+1,off,keys,h=>by
  simp only [IU] at h;split at h
  ·cases h
  rename_i l hl;obtain⟨g1,g2⟩:=HL hl;have shift:∀j,off+(j+1)=off+1+j:=fun j=>by omega
  split at h
  ·rename_i N ho;cases h;refine⟨by simp [g1],fun j key hj=>?_⟩;cases j with
   |zero=>simp at hj;subst hj;exact ho
   |succ j=>rw [shift];exact g2 j key (by simpa using hj)
  ·cases h
  ·rename_i ho;cases h;refine⟨by simp [g1],fun j key hj=>?_⟩;cases j with
   |zero=>simp at hj;subst hj;exact⟨ho,rfl⟩
   |succ j=>rw [shift];exact g2 j key (by simpa using hj)
theorem MO {cf:qn} {nt n0:Nat} {A:ei} {V:bt} {st st1:St} {o:br} {r:Rec} {O off:Nat} {keys:List qk} (hR:R A V st) (hc:cellOf V o=some (O,off,keys)) (he:gv cf nt n0 o st=some (st1,r)) :
  ∃id xs,r.gQ=.ids []/\r.jt=[.CA ⟨id,0,off,keys.length⟩]/\A (.s O)=some (.ptr id 0 0)/\jg r.H0 (some ⟨id,0,off,keys.length⟩)=some xs/\Im A keys xs:=by
 obtain⟨dd,op,gd,fz⟩:=o;unfold cellOf at hc;simp only at hc;split at hc
 ·cases hc
 split at hc
 ·cases hc
 split at hc;rotate_left
 ·cases hc
 rename_i sz a;split at hc;rotate_left
 ·cases hc
 rename_i O' off' qxB;split at hc;rotate_left
 ·cases hc
 rename_i v ovs hv;split at hc;rotate_left
 ·cases hc
 rename_i k0 ks hka;simp only [Option.some.injEq,Prod.mk.injEq] at hc;obtain⟨rfl,rfl,rfl⟩:=hc;obtain⟨hkl,hkk⟩:=HL hka;obtain⟨w,hw,hvr⟩:=hR.env a _ qxB;have hvr:=hvr (fun c bb h=>by cases h);generalize hwe:w=w0 at hvr;cases hvr with
 |@ptr _ _ id hA=>
 subst hwe;have hev:ev st.env (.t a)=.ptr id 0 off':=by simp only [ev,hw]
 have hwt:wanted st.env none=true:=rfl;simp only [gv,hwt,cond_true,oR,cond_false,Bb] at he;have hkd:kind (.load sz (.t a))=.plan fun ρ=>xb ρ sz (.t a):=rfl
 simp only [hkd,xb,hev,gG,lY] at he;rw [hkl];cases hf:jg st.H (some ⟨id,0,off',gH sz⟩) with
 |none=>simp only [hf] at he;cases he
 |some cs=>
 have hr:r.gQ=.ids []/\r.jt=[.CA ⟨id,0,off',gH sz⟩]/\r.H0=st.H:=by
  simp only [hf,qx] at he;split at he
  ·cases he
  ·rename_i v1 H1 Dw jt gQ heq;split at he
   ·cases he
   ·cases he;split at heq
    ·rename_i q1 q2;simp only [Option.some.injEq,Prod.mk.injEq] at heq;obtain⟨_,_,_,h4,h5⟩:=heq;refine⟨h5.symm,h4.symm,rfl⟩
    ·cases heq
 obtain⟨g0,g1⟩:=K_ hR hv hA hf;refine⟨id,cs,hr.1,hr.2.1,hA,by rw [hr.2.2];exact hf,by simp,by rw [g0,hkl],fun j key x h1 h2=>?_⟩;obtain⟨q1,q2⟩:=g1 j x h2;have h3:=hkk j key h1;cases key with
 |sl N=>exact q1 N h3
 |tr c=>exact fun t ht=>q2 h3.1 t (by rw [←h3.2];exact ht)
open Classical in
def P7 (ns:List Nat) (V:bt) (A:ei) (ρ:Nat->Option Nat) (id:Nat):Option Nat:=
 if h:∃T∈ns,∃o a,V.H.get T=some o/\A (.s T)=some a/\j_ A o a id then some (Classical.choose h) else ρ id
theorem SL {ns:List Nat} {V:bt} {A:ei} {st:St} (hR:R A V st) {ρ:Nat->Option Nat} {id T:Nat} {o:VO} {a:AV} (hT:T∈ns) (h1:V.H.get T=some o) (h2:A T=some a) (h3:j_ A o a id):P7 ns V A ρ id=some T:=by have hh:∃T∈ns,∃o a,V.H.get T=some o/\A (.s T)=some a/\j_ A o a id:=⟨T,hT,o,a,h1,h2,h3⟩;unfold P7;rw [dif_pos hh];obtain⟨_,o',a',g1,g2,g3⟩:=Classical.choose_spec hh;congr 1;exact hR.inj _ T _ _ _ _ id g1 h1 g2 h2 g3 h3
theorem P6 {ns:List Nat} {V:bt} {A:ei} {ρ:Nat->Option Nat} {id:Nat} (h:¬∃T∈ns,∃o a,V.H.get T=some o/\A (.s T)=some a/\j_ A o a id):P7 ns V A ρ id=ρ id:=by unfold P7;rw [dif_neg h]
theorem N6 (hsh:vz prog sh) {PP:List (Nat×Nat)} {n0 i:Nat} {rs:List Rec} {A:ei} {V:bt} {st:St} {info:List (Nat×Nat×List Nat)} {ρ:Nat->Option Nat} {feet:List (List Nat×List Nat)} {ahead:List (List Nat)} {cl:List (Nat×Nat×Nat×List qk)}
  {o:br} {ns:List Nat} {l:List br} {k:bt->Prop} (hR:R A V st) (hinv:Sb (PP≠[]) n0 rs A V st info ρ) (hh:O0 (PP≠[]) n0 ahead rs feet ρ PP) (hcl:Jl A rs cl) (hi:rs.length=i) (hn0:n0<=st.nx) (hwd:Iq sh V o=some ns) (hnn:(Kj V ns&&(Ma PP||!Ma l))=true)
  (hk:C7 V cl i PP (Tf sh prog nt (n9 info V) o fun V'=>match (G0 V'.H fun T=>ym (n9 info V) T||BT T ns)&&(Ma PP||Ny (n9 info V) V' feet) with
   |true=>N9 l (n9 info V) V' (C7 (yz V info V') cl i PP (k (yz V info V')))
   |false=>False)) :
  ∃st1 r,gv (ey prog) nt n0 o st=some (st1,r)/\∃W A1 ρ',R A1 W st1/\Fr V A st.H st.nx W A1 st1.H st1.nx/\k W/\st.nx<=st1.nx/\Jl A1 (rs++[r]) cl/\
   (l≠[]->Sb (PP≠[]) n0 (rs++[r]) A1 W st1 (EC i (ns) info) ρ')/\O0 (PP≠[]) n0 ahead (rs++[r]) (feet++[([],[])]) ρ' PP:=by
 obtain⟨hk,qv1⟩:=C6 hcl.ne hk;rw [qqB] at hnn;obtain⟨hnn,hnl⟩:=hnn;have hnl:PP≠[]->l≠[]:=fun hP hl=>by
  subst hl;cases PP with
  |nil=>exact hP rfl
  |cons p PP=>cases hnl
 have qxs:∀O o a id,(n9 info V).H.get O=some o->A O=some a->j_ A o a id->id < n0:=by
  intro O o a id ho ha hid;obtain⟨hn,ho'⟩:=iw ho;rcases hinv.known O o a id ho' ha hid with h|⟨c,hc,_⟩
  ·exact h
  ·rw [Cv hn] at hc;cases hc
 obtain⟨he,hu⟩:=Gq info V;have hR0:R A (n9 info V) ⟨st.env,st.H.upto fun i=>Nat.blt i n0,st.nx⟩:=by
  refine⟨fun t e h=>hR.env t e (by rw [←he];exact h),fun O o ho=>?_,fun O O' o o' a a' id h1 h2=>hR.inj O O' o o' a a' id (iw h1).2 (iw h2).2,fun O h=>hR.used O (by rw [←hu];exact h),hR.one,fun id o h=>?_,fun O o a ho ha=>hR.nh O o a (iw ho).2 ha⟩
  ·obtain⟨a,ha,hor⟩:=hR.heap O o (iw ho).2;refine⟨a,ha,hor.mono (fun _ _ h=>h) (fun id hid=>?_)⟩;have:=qxs O o a id ho ha hid;show (Map.upto st.H _).get id=_;rw [Map.qd,if_pos (by simpa using this)]
  ·have h':(Map.upto st.H fun i=>Nat.blt i n0).get id=some o:=h;rw [Map.qd] at h';split at h'
   ·exact hR.fresh id o h'
   ·cases h'
 have hW:Ww prog nt n0 o A (n9 info V) st fun V'=>match (G0 V'.H fun T=>ym (n9 info V) T||BT T ns)&&(Ma PP||Ny (n9 info V) V' feet) with
   |true=>N9 l (n9 info V) V' (C7 (yz V info V') cl i PP (k (yz V info V')))
   |false=>False:=by
  rcases Ju hwd with ⟨d,f,args,rfl⟩|⟨d,f,args,rfl⟩
  ·exact LA hsh hR0 hk
  ·exact Jt hR0 hk
 obtain⟨H',nx',e',H2,jt,gQ,V1,A1,qXU,qv4,hR1,hF,hx,hk1,hrt,qXJ,qvL⟩:=hW;have hle:st.nx<=nx':=hF.le
 let P:Nat->Bool:=fun i=>Nat.blt i n0||(Nat.ble st.nx i&&Nat.blt i nx')
 have hP:∀i,P i=true↔(i < n0\/(st.nx<=i/\i < nx')):=fun i=>by show (Nat.blt i n0||(Nat.ble st.nx i&&Nat.blt i nx'))=true↔_;simp
 have qq9:∀id,H2.get id=if P id=true then H'.get id else st.H.get id:=by
  intro id;rw [qv4];by_cases h:P id=true
  ·rw [if_pos ((hP id).1 h),if_pos h]
  ·rw [if_neg (fun hc=>h ((hP id).2 hc)),if_neg h]
 have qxp:∀id,gW V1 A1 id->P id=true:=by
  intro id ho;rw [hP];have hlt:=hR1.p_ ho;rcases hF.own id ho with ⟨O,o,a,h1,h2,h3⟩|h
  ·exact .inl (qxs O o a id h1 h2 h3)
  ·exact .inr ⟨h,hlt⟩
 have hR2:R A1 V1 ⟨e',H2,nx'⟩:=by
  refine⟨hR1.env,fun O o ho=>?_,hR1.inj,hR1.used,hR1.one,fun id o h=>?_,hR1.nh⟩
  ·obtain⟨a,ha,hor⟩:=hR1.heap O o ho;refine⟨a,ha,hor.mono (fun _ _ h=>h) (fun id hid=>?_)⟩;rw [show (⟨e',H2,nx'⟩:St).H.get id=_ from qq9 id,if_pos (qxp id ⟨O,o,a,ho,ha,hid⟩)]
  ·have h':H2.get id=some o:=h;rw [qq9] at h';split at h'
   ·exact hR1.fresh id o h'
   ·exact qqL (hR.fresh id o h') hle
 split at hk1;rotate_left
 ·cases hk1
 rename_i hall;rw [qqB] at hall;obtain⟨hall,qxq⟩:=hall;have qxq:PP≠[]->Ny (n9 info V) V1 feet=true:=fun hP=>by
  cases PP with
  |nil=>exact absurd rfl hP
  |cons p PP=>exact qxq
 obtain⟨hk1,hsm⟩:=MZ hk1;obtain⟨hk1,qv0⟩:=C6 hcl.ne hk1;have hkeys:∀T o,V1.H.get T=some o->(∃o',(n9 info V).H.get T=some o')\/T∈ns:=by intro T o hT;have:=y_ _ _ hall T o hT;rw [qqC] at this;exact this.imp sk.1 ve.1
 obtain⟨g1,g2,g3,g4,g5⟩:=yx (V1:=V1) (st1:=⟨e',H2,nx'⟩) (qxE:=info) hR hx.mono (fun T o a id hT ho ha hid=>by
   show H2.get id=_;rw [qq9];split
   ·rename_i hPi;have hown:gW V A id:=⟨T,o,a,ho,ha,hid⟩;have hlt:=hR.p_ hown;have h0:id < n0:=by rcases(hP id).1 hPi with h|h<;>omega
    have hno:¬gW (n9 info V) A id:=fun ⟨O,o',a',h1,h2,h3⟩=>by obtain⟨hn,h1'⟩:=iw h1;have:=hR.inj O T o' o a' a id h1' ho h2 ha h3 hid;subst this;exact hn hT
    have:=hF.same id hlt hno;rw [this];show (Map.upto st.H _).get id=_;rw [Map.qd,if_pos (by simpa using h0)]
   ·rfl) (fun id ho=>hF.own id ho) info V1 (fun _ h=>h) hR2 (fun O o h=>.inl h)
 have qv3:∀(c:Nat) a,rs[c]?=some a->(rs++[(⟨jt,gQ,st.H,H2,st.nx,nx'⟩:Rec)])[c]?=some a:=fun c a hc=>by rw [qqc (qqb.1 hc).1];exact hc
 have qk9:(rs++[(⟨jt,gQ,st.H,H2,st.nx,nx'⟩:Rec)])[i]?=some ⟨jt,gQ,st.H,H2,st.nx,nx'⟩:=by rw [qqd (by omega),hi,Nat.sub_self];rfl
 have hpw:∀p∈PP,(p.1=i\/p.2=i)->uv (rs++[(⟨jt,gQ,st.H,H2,st.nx,nx'⟩:Rec)]) p=true:=fun p hp hpi=>by obtain⟨q1,q2⟩:=qv1 p hp;have hp2:p.2=i:=hpi.elim (fun e=>absurd e q1) (fun e=>e);obtain⟨O,off,key,q3,q4⟩:=q2 hp2;obtain⟨O',off',key',q5,q6⟩:=(qv0 p hp).2 hp2;rw [q3] at q5;cases q5;obtain⟨r0,id,x,w1,w2,w3,w4,w5,w6⟩:=hcl _ _ _ _ (D3 q3);have f0:=Nq hR q4 w4 w6;have f1:=Nq g1 q6 (hx.mono _ _ w4) (w6.mono hx.mono);unfold uv;rw [qv3 _ _ w1,hp2,qk9];exact UW w2 w3 qXJ qvL f0 f1 w5
 have hap:∀id q,PP≠[]->ρ id=some q->(∃T∈ns,∃o a,V1.H.get T=some o/\A1 T=some a/\j_ A1 o a id)->∀f∈feet,q ∉ f.1/\q ∉ f.2:=by
  intro id q hP hq ⟨T,hT,o,a,h1,h2,h3⟩;rcases hF.own id ⟨T,o,a,h1,h2,h3⟩ with ⟨O',o',a',h6,h7,h8⟩|h
  ·obtain⟨hn,h6'⟩:=iw h6;have qzs:=hinv.root hP O' o' a' id h6' h7 h8;rw [Cv hn,hq] at qzs;have hqO:q=O':=by simpa using qzs
   subst hqO;have:=y_ _ _ (qxq hP) q o' h6;rw [qqC] at this;rcases this with h|h
   ·rw [h6,qqB] at h;obtain⟨hpl,h⟩:=h;obtain⟨o2,h9⟩:=sk.1 h;have hA1:=hx.mono _ _ h7;have h11:=hR1.heap q o2 h9;obtain⟨a2,h12,_⟩:=h11;rw [hA1] at h12;cases h12;have h13:j_ A1 o2 a' id:=.inl ((jd hpl).1 h8);have:=hR1.inj T q o o2 a a' id h1 h9 h2 hA1 h3 h13;subst this;have:=BB hnn T hT;rw [this] at h6';cases h6'
   ·intro f hf;have:=cj.1 h f hf;simp only [qqB,qqD] at this;exact⟨fun hm=>Bool.false_ne_true (this.1.symm.trans (ve.2 hm)),fun hm=>Bool.false_ne_true (this.2.symm.trans (ve.2 hm))⟩
  ·have:=hinv.dom id q hq;omega
 let ρ':Nat->Option Nat:=P7 ns V1 A1 ρ
 have hρ1:∀id T,T∈ns->(∃o a,V1.H.get T=some o/\A1 T=some a/\j_ A1 o a id)->ρ' id=some T:=fun id T hT ⟨o,a,h1,h2,h3⟩=>SL hR1 hT h1 h2 h3
 have hρ0:∀id,¬(∃T∈ns,∃o a,V1.H.get T=some o/\A1 T=some a/\j_ A1 o a id)->ρ' id=ρ id:=fun id h=>P6 h
 have qXI:∀r f,PP≠[]->f∈feet->G2 ρ r f->G2 ρ' r f:=by
  intro r f hP hf ⟨h1,l0,h2,h3⟩;refine⟨fun x hx0=>?_,l0,h2,fun id hid=>?_⟩
  ·obtain⟨id,h4,q,h5,h6⟩:=h1 x hx0;refine⟨id,h4,q,?_,h6⟩;rw [hρ0 id (fun hc=>(hap id q hP h5 hc f hf).1 h6)];exact h5
  ·obtain⟨q,h5,h6⟩:=h3 id hid;refine⟨q,?_,h6⟩;rw [hρ0 id (fun hc=>(hap id q hP h5 hc f hf).2 h6)];exact h5
 refine⟨⟨e',H2,nx'⟩,⟨jt,gQ,st.H,H2,st.nx,nx'⟩,?_,_,A1,ρ',g1,⟨hle,fun id hid hno=>?_,fun id ho=>?_⟩,hk1,hle,hcl.mono hx.mono,fun hl=>⟨fun T o a id ho ha hid=>?_,fun hP T o a id ho ha hid=>?_,fun id q h=>?_⟩,
  ⟨by simp [hh.len],fun hP c r' f' hr hf=>?_,fun c r' ah' hr ha' rs' qwI=>?_⟩⟩
 ·exact qXU
 ·show H2.get id=_;rw [qq9];split
  ·rename_i hPi;have h0:id < n0:=by rcases(hP id).1 hPi with h|h<;>omega
   have:=hF.same id hid (fun ⟨O,o,a,h1,h2,h3⟩=>hno ⟨O,o,a,(iw h1).2,h2,h3⟩);rw [this];show (Map.upto st.H _).get id=_;rw [Map.qd,if_pos (by simpa using h0)]
  ·rfl
 ·obtain⟨O,o,a,h1,h2,h3⟩:=ho;rcases g4 O o h1 with h4|⟨h4,h5,hpl⟩
  ·rcases hF.own id ⟨O,o,a,h4,h2,h3⟩ with ⟨O',o',a',h6,h7,h8⟩|h
   ·exact .inl ⟨O',o',a',(iw h6).2,h7,h8⟩
   ·exact .inr h
  ·obtain⟨a',h6,_⟩:=hR.heap O o h5;have:=hx.mono _ _ h6;rw [h2] at this;cases this;exact .inl ⟨O,o,a,h5,h6,(jd hpl).2 ((jd hpl).1 h3)⟩
 ·have hold:∀(c:Nat) a,rs[c]?=some a->(rs++[(⟨jt,gQ,st.H,H2,st.nx,nx'⟩:Rec)])[c]?=some a:=fun c a hc=>by rw [qqc (qqb.1 hc).1];exact hc
  have qjo:(rs++[(⟨jt,gQ,st.H,H2,st.nx,nx'⟩:Rec)])[i]?=some ⟨jt,gQ,st.H,H2,st.nx,nx'⟩:=by rw [qqd (by omega),hi,Nat.sub_self];rfl
  rcases g4 T o ho with h4|⟨h4,h5,hpl⟩
  ·by_cases hT:T∈ns
   ·rw [F8 hT];rcases hF.own id ⟨T,o,a,h4,ha,hid⟩ with ⟨O',o',a',h6,h7,h8⟩|h
    ·exact .inl (qxs O' o' a' id h6 h7 h8)
    ·exact .inr ⟨i,by simp,_,qjo,h,hR1.p_ ⟨T,o,a,h4,ha,hid⟩⟩
   ·rcases hkeys T o h4 with ⟨o',h6⟩|h6
    ·obtain⟨a',h7,_⟩:=hR.heap T o' (iw h6).2;have:=hx.mono _ _ h7;rw [ha] at this;cases this;exact .inl (qxs T o' a id h6 h7 (C_ hR0 hx (hsm hl) h6 h4 h7 hid))
    ·exact absurd h6 hT
  ·have hT:T ∉ ns:=fun hm=>by have:=BB hnn T hm;rw [this] at h5;cases h5
   rw [BF hT];obtain⟨a',h6,_⟩:=hR.heap T o h5;have:=hx.mono _ _ h6;rw [ha] at this;cases this;exact(hinv.known T o a id h5 h6 ((jd hpl).2 ((jd hpl).1 hid))).imp (fun h=>h) (fun ⟨c,h2,r2,h3,h4⟩=>⟨c,h2,r2,hold c r2 h3,h4⟩)
 ·rcases g4 T o ho with h4|⟨h4,h5,hpl⟩
  ·by_cases hT:T∈ns
   ·rw [F8 hT];exact hρ1 id T hT ⟨o,a,h4,ha,hid⟩
   ·rw [BF hT];rcases hkeys T o h4 with ⟨o',h6⟩|h6
    ·obtain⟨a',h7,_⟩:=hR.heap T o' (iw h6).2;have:=hx.mono _ _ h7;rw [ha] at this;cases this;rw [hρ0 id (fun ⟨T2,hT2,o2,a2,h8,h9,h10⟩=>by have:=hR1.inj T2 T o2 o a2 a id h8 h4 h9 ha h10 hid;subst this;exact hT hT2)]
     exact hinv.root hP T o' a id (iw h6).2 h7 (C_ hR0 hx (hsm hl) h6 h4 h7 hid)
    ·exact absurd h6 hT
  ·have hT:T ∉ ns:=fun hm=>by have:=BB hnn T hm;rw [this] at h5;cases h5
   rw [BF hT];obtain⟨a',h6,_⟩:=hR.heap T o h5;have:=hx.mono _ _ h6;rw [ha] at this;cases this;rw [hρ0 id (fun ⟨T2,hT2,o2,a2,h8,h9,h10⟩=>by have:=g1.inj T2 T o2 o a2 a id (g5 _ _ h8) ho h9 ha h10 hid;subst this;exact hT hT2)]
   exact hinv.root hP T o a id h5 h6 ((jd hpl).2 ((jd hpl).1 hid))
 ·by_cases hc:∃T∈ns,∃o a,V1.H.get T=some o/\A1 T=some a/\j_ A1 o a id
  ·obtain⟨T,hT,o,a,h1,h2,h3⟩:=hc;exact hR1.p_ ⟨T,o,a,h1,h2,h3⟩
  ·have h':ρ' id=some q:=h;rw [hρ0 id hc] at h';exact qqL (hinv.dom id q h') hle
 ·by_cases hc:c < rs.length
  ·rw [qqc hc] at hr;rw [qqc (by rw [hh.len];exact hc)] at hf;exact(hh.SM hP c r' f' hr hf).imp (fun h=>qXI r' f' hP (qqi hf) h) (fun h p hp hc=>FN (h p hp hc))
  ·have hce:c=rs.length:=by have:=(qqb.1 hr).1;simp at this;omega
   exact .inr fun p hp hpc=>hpw p hp (by rw [←hi,←hce];exact hpc)
 ·by_cases hc:c < rs.length
  ·rw [qqc hc] at hr;exact hh.known c r' ah' hr ha' rs' (fun j a hj=>qwI j a (by rw [qqc (qqb.1 hj).1];exact hj))
  ·have hce:c=rs.length:=by have:=(qqb.1 hr).1;simp at this;omega
   subst hce;rw [qqd (qqT _),Nat.sub_self] at hr;cases hr;exact hrt rs' ah'
theorem I3 (hsh:vz prog sh) {ahead:List (List Nat)} {pairs:List (Nat×Nat)} {n0:Nat}:∀(ops:List br) (i:Nat) (V:bt) (A:ei) (st:St) (info:List (Nat×Nat×List Nat)) (feet:List (List Nat×List Nat)) (cl:List (Nat×Nat×Nat×List qk)) (rs:List Rec) (ρ:Nat->Option Nat) (k:bt->Prop),
  R A V st->(ops≠[]->Sb (pairs≠[]) n0 rs A V st info ρ)->O0 (pairs≠[]) n0 ahead rs feet ρ pairs->Jl A rs cl->rs.length=i->n0<=st.nx->Th sh prog nt ahead pairs ops i V info feet cl k->
  ∃st' l,lJ (ey prog) nt n0 ops st=some (st',l)/\vg n0 (rs++l) ahead (rs++l)=true/\gE (uv (rs++l)) pairs=true/\∃V' A',R A' V' st'/\Fr V A st.H st.nx V' A' st'.H st'.nx/\k V'
 |[],i,V,A,st,info,feet,cl,rs,ρ,k,hR,hinv,hh,hcl,hi,hn,hk=>by
  simp only [Th] at hk;split at hk
  ·rename_i hb;rw [qqB,qqE] at hb;refine⟨st,[],rfl,?_,?_,V,A,hR,Fr.refl _ _ _ _,hk⟩
   ·rw [List.append_nil];exact Ey ahead rs (by rw [hb.1,hi]) (fun c r ah hr ha=>hh.known c r ah hr ha rs (fun _ _ h=>h))
   ·rw [List.append_nil];exact J5 hh (fun _ h=>h) (fun h=>h) hb.2
  ·cases hk
 |o::l,i,V,A,st,info,feet,cl,rs,ρ,k,hR,hinv,hh,hcl,hi,hn,hk=>by
  rw [Th] at hk;split at hk
  ·rename_i ns hso;split at hk;rotate_left
   ·cases hk
   rename_i hnn;obtain⟨st1,r,g1,W,A1,ρ',g2,g3,g4,g5,g8,g6,g7⟩:=N6 (l:=l) (k:=fun W=>Th sh prog nt ahead pairs l (i+1) W (EC i ns info) (feet++[([],[])]) cl k) hsh hR (hinv (by simp)) hh hcl hi hn hso hnn hk;obtain⟨st2,l2,q1,q2,q3,V2,A2,q4,q5,q6⟩:=I3 hsh l (i+1) W A1 st1 _ _ cl (rs++[r]) ρ' k g2 g6 g7 g8 (by simp [hi]) (qqR hn g5) g4;refine⟨st2,r::l2,by simp only [lJ,g1,q1],?_,?_,V2,A2,q4,g3.trans q5,q6⟩
   ·rwa [List.append_assoc] at q2
   ·rwa [List.append_assoc] at q3
  have hk':Tf sh prog nt V o fun V'=>match IX V o with
   |none=>False
   |some f=>match ahead[i]? with
    |none=>False
    |some ah=>match yw info ah (f.rd++f.wr) with
     |false=>False
     |true=>match G_ o.dst i V V' f info with
      |none=>False
      |some info'=>N9 l V V' (Th sh prog nt ahead pairs l (i+1) V' info' (feet++[(wz info f.rd,wz info f.wr)]) (TC V o i pairs cl) k):=hk
  obtain⟨st1,h1,V1,A1,h2,h3,hx,h4⟩:=NJ hsh hR hk';split at h4
  ·cases h4
  rename_i f hf;split at h4
  ·cases h4
  rename_i ah hah;split at h4
  ·cases h4
  rename_i hch;split at h4
  ·cases h4
  rename_i info' hs;obtain⟨h4,hsm⟩:=MZ h4;obtain⟨r,g1,g2,g3,g4⟩:=Te hR hk' hf h1 n0;obtain⟨ρ',p1,p2⟩:=Py hR h2 h3 hx (hinv (by simp)) hh hi g2 g3 g4 hah hch hs;have qXY:Jl A1 (rs++[r]) (TC V o i pairs cl):=by
   have h0:=hcl.mono (r:=r) hx.mono;unfold TC;split
   ·exact h0
   ·split
    ·rename_i p hp;intro c O off key hm;rcases qqw.1 hm with he|hm
     ·cases he;obtain⟨id,x,w1,w2,w3,w4,w5⟩:=MO hR hp g1;exact⟨r,id,x,(by rw [qqd (by omega),hi,Nat.sub_self];rfl),w1,w2,hx.mono _ _ w3,w4,w5.mono hx.mono⟩
     ·exact h0 c O off key hm
    ·exact h0
  obtain⟨st2,l2,q1,q2,q3,V2,A2,q4,q5,q6⟩:=I3 hsh l (i+1) V1 A1 st1 info' _ _ (rs++[r]) ρ' k h2 (fun hl=>p1 (hsm hl)) p2 qXY (by simp [hi]) (qqR hn h3.le) h4;refine⟨st2,r::l2,by simp only [lJ,g1,q1],?_,?_,V2,A2,q4,h3.trans q5,q6⟩
  ·rwa [List.append_assoc] at q2
  ·rwa [List.append_assoc] at q3
open Classical in
def JU (V:bt) (A:ei) (id:Nat):Option Nat:=if h:∃(T:Nat) (o:VO) (a:AV),V.H.get T=some o/\A T=some a/\j_ A o a id then some (Classical.choose h) else none
theorem LW {V:bt} {A:ei} {id q:Nat} (h:JU V A id=some q):∃o a,V.H.get q=some o/\A q=some a/\j_ A o a id:=by
 unfold JU at h;split at h
 ·rename_i hh;cases h;exact Classical.choose_spec hh
 ·cases h
theorem P5 {V:bt} {A:ei} {st:St} (hR:R A V st) {id T:Nat} {o:VO} {a:AV} (h1:V.H.get T=some o) (h2:A T=some a) (h3:j_ A o a id):JU V A id=some T:=by have hh:∃(T:Nat) (o:VO) (a:AV),V.H.get T=some o/\A T=some a/\j_ A o a id:=⟨T,o,a,h1,h2,h3⟩;unfold JU;rw [dif_pos hh];obtain⟨o',a',g1,g2,g3⟩:=Classical.choose_spec hh;congr 1;exact hR.inj _ T _ _ _ _ id g1 h1 g2 h2 g3 h3
theorem Tg (hsh:vz prog sh) {A:ei} {V:bt} {st:St} {k:bt->Prop} {ops:List br} {ahead:List (List Nat)} {pairs:List (Nat×Nat)} (hR:R A V st) (hk:Th sh prog nt ahead pairs ops 0 V [] [] [] k) :
  ∃st',lI (ey prog) nt ops ahead pairs st=some st'/\∃V' A',R A' V' st'/\Fr V A st.H st.nx V' A' st'.H st'.nx/\k V':=by
 have own:∀T o a id,V.H.get T=some o->A T=some a->j_ A o a id->gW V A id:=fun T o a id h1 h2 h3=>⟨T,o,a,h1,h2,h3⟩
 obtain⟨st',l,h1,h2,h3,V',A',h4,h5,h6⟩:=I3 hsh (n0:=st.nx) ops 0 V A st [] [] [] [] (JU V A) k hR (fun _=>⟨fun T o a id g1 g2 g3=>.inl (hR.p_ (own T o a id g1 g2 g3)),fun _ T o a id g1 g2 g3=>P5 hR g1 g2 g3,fun id q hq=>by obtain⟨o',a',g1,g2,g3⟩:=LW hq;exact hR.p_ (own _ _ _ _ g1 g2 g3)⟩) ⟨rfl,fun _ c r f hr=>by simp at hr,fun c r ah hr=>by simp at hr⟩ (fun _ _ _ _ hm=>by cases hm) rfl (qqT _) hk
 rw [List.nil_append] at h2 h3;exact⟨st',by simp only [lI,h1,h2,h3,Bool.and_self,cond_true],V',A',h4,h5,h6⟩
end
end Go.Ax.V
namespace Go.Ax.V
def _root_.Go.Ax.V.bu.ok:bu->Bool
 |.seq a b=>a.ok&&b.ok
 |.cond _ a b=>a.ok&&b.ok
 |.block _ c=>c.ok
 |.loop J c=>J.all A_&&c.ok
 |.join J c=>J.all A_&&c.ok
 |_=>true
section
variable {sh:Sh} {prog:Map ay} {nt:Nat}
theorem Zi {A:ei} {V:bt} {st:St} (hR:R A V st) {O:Nat} {o o':VO} (ho:V.H.get O=some o) (hpl:o.pl=true) (qk0:o'.pl=true) (hor:∀a,A O=some a->OR A st.H o a->OR A st.H o' a) :
  R A (ew V O o') st/\Fr V A st.H st.nx (ew V O o') A st.H st.nx:=by
 have get':∀{O2:Nat} {o2:VO},(ew V O o').H.get O2=some o2->∃o3,V.H.get O2=some o3/\(∀a id,j_ A o2 a id->j_ A o3 a id)/\(∀a,A O2=some a->OR A st.H o3 a->OR A st.H o2 a)/\(∀a,su A O2 a o3->su A O2 a o2):=by
  intro O2 o2 h;simp only [ew,Map.bk] at h;split at h
  ·rename_i e;subst e;cases h;exact⟨o,ho,fun a id hi=>.inl ((jd qk0).1 hi),hor,fun _ _=>Dz qk0⟩
  ·exact⟨o2,h,fun _ _ h=>h,fun _ _ h=>h,fun _ h=>h⟩
 refine⟨⟨hR.env,fun O2 o2 h=>?_,fun O1 O2 o1 o2 a1 a2 id h1 h2 g1 g2 i1 i2=>?_,hR.used,hR.one,hR.fresh,fun O2 o2 a h ha=>?_⟩,⟨qqT _,fun _ _ _=>rfl,fun id ⟨O2,o2,a,h,ha,hid⟩=>?_⟩⟩
 ·obtain⟨o3,h1,h2,h3,_⟩:=get' h;obtain⟨a,ha,hr⟩:=hR.heap O2 o3 h1;exact⟨a,ha,h3 a ha hr⟩
 ·obtain⟨o3,h3,h4,_⟩:=get' h1;obtain⟨o4,h5,h6,_⟩:=get' h2;exact hR.inj O1 O2 o3 o4 a1 a2 id h3 h5 g1 g2 (h4 _ _ i1) (h6 _ _ i2)
 ·obtain⟨o3,h1,_,_,h4⟩:=get' h;exact h4 a (hR.nh O2 o3 a h1 ha)
 ·obtain⟨o3,h1,h2,_⟩:=get' h;exact .inl ⟨O2,o3,a,h1,ha,h2 _ _ hid⟩
theorem J4 {A:ei} {st:St} {k:bt->Prop}:∀{l:List (Nat×Nat)} {V:bt},R A V st->SQ l V k->∃V',R A V' st/\Fr V A st.H st.nx V' A st.H st.nx/\k V'
 |[],V,hR,h=>⟨V,hR,Fr.refl _ _ _ _,h⟩
 |(O,off)::l,V,hR,h=>by
  simp only [SQ] at h;split at h;rotate_left
  ·cases h
  rename_i v ovs hv;split at h;rotate_left
  ·cases h
  rename_i hov;obtain⟨t,h1,h2,h3⟩:=h;obtain⟨t0,h4,h5⟩:=Fu h1;obtain⟨ts0,h6,h7⟩:=qz h4;obtain⟨a,ha,id,cs,ts,rfl,hH,hc⟩:=hR.heap O _ hv;have:=hc.cells.symm.trans h6;cases this;have hlt:off < cs.length:=by rw [←hc.len];exact(qqb.1 h7).1
  have hx:cs[off]?=some cs[off]:=qqa hlt;have hat:=hc.at_ off t0 _ h7 hx;rw [hov] at hat;have hcan:Can t cs[off]:=h5 _ hat.1;have hrow:UP cs[off]=true:=by
   cases t with
   |l es=>generalize cs[off]=y at hcan;cases hcan<;>rfl
   |_=>cases h2
  obtain⟨v',h8,h9⟩:=h3 cs[off];obtain⟨g1,g2⟩:=Zi hR (o':=.ob v' ovs) hv rfl rfl (fun a' ha' hor=>by
   obtain⟨id2,cs2,ts2,rfl,hH2,hc2⟩:=hor;rw [ha] at ha';cases ha';rw [hH] at hH2;cases hH2;have:=hc.cells.symm.trans hc2.cells;cases this;obtain⟨ts',xs,us,e1,e2,e3,e4,e5,e6,e7⟩:=gA h8;have:=hc.cells.symm.trans e1;cases this;refine⟨id,cs,us,rfl,hH,⟨e4,by rw [e5];exact hc.len,fun j w hj=>by rw [e5];exact hc.keys j w hj,fun j u y hu hy=>?_⟩⟩;rw [e7 j] at hu;split at hu
   ·rename_i hj;have hjo:j=off:=by omega
    subst hjo;have hxs:xs=[.B7 cs[j] t]:=by have:gj (.B7 cs[j] t)=some [.B7 cs[j] t]:=rfl;rw [e2] at this;exact qqO this
    rw [hxs] at hu;simp at hu;subst hu;rw [hx] at hy;cases hy;rw [hov];exact⟨.B7 _ _ hrow hcan,hat.2⟩
   ·exact hc.at_ j u y hu hy)
  obtain⟨V',q1,q2,q3⟩:=J4 g1 h9;exact⟨V',q1,g2.trans q2,q3⟩
theorem I1 (hsh:vz prog sh):∀(c:bu) (V:bt) (A:ei) (st:St) (k:gX->bt->Prop),c.ok=true->R A V st->OK sh prog nt c V k->
  WC (ey prog) (gS prog) nt c.code st (fun x st'=>∃V' A',R A' V' st'/\Fr V A st.H st.nx V' A' st'.H st'.nx/\k x V'):=by
 intro c
 induction c with
 |skip=>intro V A st k _ hR h;exact MV ⟨V,A,hR,Fr.refl _ _ _ _,h⟩
 |exit id=>intro V A st k _ hR h;exact MW ⟨V,A,hR,Fr.refl _ _ _ _,h⟩
 |ret=>intro V A st k _ hR h;exact Ph ⟨V,A,hR,Fr.refl _ _ _ _,h⟩
 |dz ops ahead pairs=>intro V A st k _ hR h;obtain⟨V1,hR1,hF1,h⟩:=J4 hR h;obtain⟨st',h1,V',A',h2,h3,h4⟩:=Tg hsh hR1 h;exact Ss h1 ⟨V',A',h2,hF1.trans h3,h4⟩
 |er ops=>intro V A st k _ hR h;obtain⟨st',h1,V',A',h2,h3,_,h4⟩:=Ge hsh hR h;exact Pj ⟨st',h1,V',A',h2,h3,h4⟩
 |seq a b iha ihb=>
  intro V A st k hok hR h;simp only [bu.ok,qqB] at hok;refine Pf (q_ (iha V A st _ hok.1 hR h) ?_);rintro x st' ⟨V',A',h1,h2,h3⟩;cases x with
  |normal=>refine q_ (ihb V' A' st' k hok.2 h1 h3) ?_;rintro y st2 ⟨V2,A2,g1,g2,g3⟩;exact⟨V2,A2,g1,h2.trans g2,g3⟩
  |exit i=>exact⟨V',A',h1,h2,h3⟩
  |ret=>exact⟨V',A',h1,h2,h3⟩
 |cond c a b iha ihb=>
  intro V A st k hok hR h;simp only [bu.ok,qqB] at hok;obtain⟨cv,hc,h⟩:=gm (g:=none) hR trivial h;unfold ak at h;split at h
  ·rename_i x;generalize he:ev st.env c=p at hc;cases hc;cases x with
   |true=>exact CD he (iha V A st k hok.1 hR h)
   |false=>exact B2 he (ihb V A st k hok.2 hR h)
  ·cases h
 |block id c ih=>
  intro V A st k hok hR h;refine Jv (q_ (ih V A st _ hok hR h) ?_);rintro x st' ⟨V',A',h1,h2,h3⟩;cases x with
  |normal=>exact⟨V',A',h1,h2,h3⟩
  |ret=>exact⟨V',A',h1,h2,h3⟩
  |exit i=>
   simp only [Je];simp only [cond_eq_ite,qqE] at h3;by_cases hi:i=id
   ·rw [if_pos hi] at h3 ⊢;exact⟨V',A',h1,h2,h3⟩
   ·rw [if_neg hi] at h3 ⊢;exact⟨V',A',h1,h2,h3⟩
 |loop J c ih=>
  intro V A st k hok hR h;simp only [bu.ok,qqB] at hok;obtain⟨I,⟨n,h1⟩,h2⟩:=h;refine Sr (fun (n:Nat) st1=>∃V1 A1,R A1 V1 st1/\Fr V A st.H st.nx V1 A1 st1.H st1.nx/\Eo J V1 (I n)) (fun n=>n) ?_ n st ⟨V,A,hR,Fr.refl _ _ _ _,h1⟩;rintro m st1 ⟨V1,A1,g1,g2,g3⟩;obtain⟨Vc,A2,p1,p2,p3⟩:=Kq g1 hok.1 g3 (h2 m);refine q_ (ih Vc A2 st1 _ hok.2 p2 p1) ?_;rintro x st2 ⟨V2,A3,q1,q2,q3⟩;have hfr:=g2.trans (p3.trans q2);cases x with
  |normal=>obtain⟨m',hm,q3⟩:=q3;exact⟨m',hm,V2,A3,q1,hfr,q3⟩
  |exit i=>exact⟨V2,A3,q1,hfr,q3⟩
  |ret=>exact⟨V2,A3,q1,hfr,q3⟩
 |join J c ih=>
  intro V A st k hok hR h;simp only [bu.ok,qqB] at hok;obtain⟨I,h1,h2⟩:=h;refine q_ (ih V A st _ hok.2 hR h1) ?_;rintro x st' ⟨V',A',g1,g2,g3⟩;cases x with
  |normal=>obtain⟨Vc,A2,p1,p2,p3⟩:=Kq g1 hok.1 g3 h2;exact⟨Vc,A2,p2,g2.trans p3,p1⟩
  |exit i=>exact⟨V',A',g1,g2,g3⟩
  |ret=>exact⟨V',A',g1,g2,g3⟩
theorem F7 {A:ei} {H:ck} {nx:Nat}:∀(ts:List TV) (as:List AV) (i:Nat) (V:bt) (e:Env),oY ts as->R A V ⟨e,H,nx⟩->R A (Nu ts i V) ⟨jj as i e,H,nx⟩
 |[],as,i,V,e,hc,hR=>by have:as=[]:=qqM.1 hc.1.symm;subst this;exact hR
 |t::ts,[],i,V,e,hc,hR=>by cases hc.1
 |t::ts,a::as,i,V,e,hc,hR=>by refine F7 ts as (i+1) _ _ ⟨Nat.succ.inj hc.1,fun j u x hu hx=>hc.2 (j+1) u x hu hx⟩ ?_;exact hR.put (e:=⟨none,.tr t⟩) (v:=a) (fun _=>.tr (hc.2 0 t a rfl rfl))
theorem L0 {A:ei} {V:bt} {st:St} (hR:R A V st) {r:wh} {k:TV->Prop} (h:EY V r k) (d:Nat):∃v t a,oc st.env st.H r=some v/\dh (d+4) st.H v=some a/\Can t a/\k t:=by
 cases r with
 |tmp t=>simp only [EY] at h;obtain⟨w,hw,h⟩:=fu (g:=none) hR trivial h;obtain⟨t',a,h1,h2,h3,h4⟩:=CH hR hw h d;exact⟨_,t',a,rfl,h1,h2,h4⟩
 |cell t sz=>
  simp only [EY] at h;obtain⟨w,hw,h⟩:=fu (g:=none) hR trivial h;generalize he:ev st.env (.t t)=p at hw;cases hw with
  |@ptr O off id hO=>
   simp only at h;split at h;rotate_left
   ·cases h
   rename_i v ovs ho;obtain⟨y,hy,id',cs,ts,rfl,hH,hc⟩:=hR.heap O _ ho;rw [hO] at hy;cases hy;have fin:∀{l:List AV} {v' t' a:_},cut cs off (gH sz)=some l->Mb sz l=some v'->dh (d+4) st.H v'=some a->Can t' a->k t'->∃v t_1 a,oc st.env st.H (.cell t sz)=some v/\dh (d+4) st.H v=some a/\Can t_1 a/\k t_1:=by intro l v' t' a h1 h2 h3 h4 h5;refine⟨v',t',a,?_,h3,h4,h5⟩;simp only [oc,he,jg,hH,cond_eq_ite,qqE,if_pos,h1];exact h2
   split at h
   ·split at h
    ·rename_i w hw;have hlt:=hc.keys _ _ hw;have hx:cs[off]?=some (cs[off]'(by rw [←hc.len];exact hlt)):=qqa _;have hs:=hc.at_ off _ _ (qqa hlt) hx;rw [hw] at hs;obtain⟨es,a',g1,g2,g3,g4,g5⟩:=CJ hR hs h (d+1);exact fin (Bf hx) rfl g1 g2 g5
    ·rename_i ho';obtain⟨u,h1,h2⟩:=h;obtain⟨x,h3,h4,h5⟩:=Bd hc h1 ho';exact fin h3 rfl (yl h5 _ _) h4 h2
   ·rename_i n;obtain⟨u,h1,h2⟩:=h;obtain⟨l,ls,h3,h4,h5⟩:=oS hc h1;obtain⟨u',us,cs',g1,g2,g3,g4,g5,g6⟩:=D_ hR h5 h2 d;obtain⟨l',rfl⟩:=g5 _ h4;cases g2;exact fin h3 rfl (by rw [oJ,g1]) (.a _ _ g3.1.1 g3.2 g3.1.2) g4
  |_=>cases h
theorem FH {A:ei} {V:bt} {st:St} (hR:R A V st) (d:Nat):∀(rs:List wh) (k:List TV->Prop),UR V rs k->∃vs ts as,lX (oc st.env st.H) rs=some vs/\lX (dh (d+4) st.H) vs=some as/\oY ts as/\k ts
 |[],k,h=>⟨[],[],[],rfl,rfl,⟨rfl,fun j t x ht=>by simp at ht⟩,h⟩
 |r::rs,k,h=>by
  obtain⟨v,t,a,h1,h2,h3,h4⟩:=L0 hR h d;obtain⟨vs,ts,as,g1,g2,g3,g4⟩:=FH hR d rs _ h4;refine⟨v::vs,t::ts,a::as,by rw [iq,h1,g1],by rw [iq,h2,g2],⟨by simp [g3.1],fun j u x hu hx=>?_⟩,g4⟩;cases j with
  |zero=>simp at hu hx;subst hu;subst hx;exact h3
  |succ j=>exact g3.2 j u x (by simpa using hu) (by simpa using hx)
theorem DR:∀{ts:List TV},cg ts->∀t∈ts,t.ff=false
 |[],_,t,ht=>by cases ht
 |x::ts,h,t,ht=>by
  rcases qqw.1 ht with rfl|ht
  ·exact h.1
  ·exact DR h.2 t ht
theorem Gv {t:TV} {a:AV} (h:Can t a) (ht:t.ff=false):a.qq=true:=by
 cases h with
 |a ts as hl hf h=>exact cj.2 hf
 |tp ts as hl hf h=>cases ht
 |B7 x u hf h=>exact(NB (FB hf)).2.2
 |_=>rfl
theorem Xi {f:Nat} {af:ay} {vc:bu} {ts:List TV} {Q:TV->Prop} (hf:prog.get f=some af) (hc:vc.code=af.body) (hok:vc.ok=true) (hl:ts.length=af.params) (hsh:vz prog sh) (h:ZV sh prog af vc ts Q):VS prog f ts Q:=by
 intro as ha;have h0:R (fun _=>none) V0 ⟨.leaf,.leaf,0⟩:=⟨fun t e he=>(by cases he),fun O o ho=>(by cases ho),fun O O' o o' a a' id ho=>(by cases ho),fun _ _=>rfl,fun O a ha=>(by cases ha),fun id o ho=>(by cases ho),fun O o a ho=>(by cases ho)⟩;have hR:=F7 ts as 0 V0 .leaf ha h0;have hw:=I1 hsh (nt:=af.nt) vc _ _ _ _ hok hR h;rw [hc] at hw;obtain⟨⟨v,H',nx'⟩,h1,h2⟩:=Gc (r:=fun p=>∃a,dh deep p.2.1 p.1=some a/\∃r,Can r a/\Q r) hf (by rw [←ha.1];exact hl) (q_ hw (by
  rintro x st' ⟨V',A',g1,g2,g3,g4⟩;refine⟨(by cases x<;>first|exact .inl rfl|exact .inr rfl|cases g3),?_⟩;obtain⟨vs,rs,as',p1,p2,p3,p4,p5⟩:=FH g1 25 af.res _ g4;have many:vs.length≠1->∃v,zn af.res st'=some v/\∃a,dh deep v.2.1 v.1=some a/\∃r,Can r a/\Q r:=by
   intro hne;have hl1:=(qu p2).1;have hlr:rs.length=vs.length:=by rw [p3.1,hl1]
   have e1:zn af.res st'=some (.qo vs,st'.H,st'.nx):=by
    unfold zn;rw [p1]
    match vs,hne with
    |[],_=>rfl
    |[_],h=>exact absurd rfl h
    |_::_::_,_=>rfl
   have e2:YJ rs=.tp rs:=by
    match rs,hlr with
    |[],_=>rfl
    |[_],h=>exact absurd h.symm hne
    |_::_::_,_=>rfl
   have e3:cg rs:=by
    match rs,hlr,p4 with
    |[],_,_=>trivial
    |[_],h,_=>exact absurd h.symm hne
    |_::_::_,_,h=>exact h
   refine⟨_,e1,.qo as',?_,_,?_,by rw [e2] at p5;exact p5⟩
   ·show dh (29+1) _ _=_;rw [uc];have p2':lX (dh 29 st'.H) vs=some as':=p2;rw [p2']
   ·refine .tp _ _ p3.1 (fun x hx=>?_) p3.2;obtain⟨j,hj⟩:=List.getElem?_of_mem hx;have hlt:j < rs.length:=by rw [p3.1];exact(qqb.1 hj).1
    exact Gv (p3.2 j _ x (qqa hlt) hj) (DR e3 _ (qqj hlt))
  by_cases hv:vs.length=1
  ·obtain⟨vs',rs',as2,q1,q2,q3,q5⟩:=FH g1 26 af.res _ g4;rw [p1] at q1;cases q1;obtain⟨v,rfl⟩:=List.length_eq_one_iff.1 hv;have hl1:=(qu q2).1;obtain⟨a,rfl⟩:=List.length_eq_one_iff.1 hl1.symm;obtain⟨r,rfl⟩:=List.length_eq_one_iff.1 (show rs'.length=1 by rw [q3.1];rfl);refine⟨(v,st'.H,st'.nx),by unfold zn;rw [p1],a,?_,r,q3.2 0 r a rfl rfl,q5.2⟩;rw [iq] at q2;show dh (26+4) st'.H v=some a;cases hh:dh (26+4) st'.H v with
   |none=>rw [hh] at q2;cases q2
   |some y=>rw [hh] at q2;cases q2;rfl
  ·exact many hv))
 exact⟨v,H',nx',h1,h2⟩
theorem Ux {H:ck} {z:Nat} {es:List TV} {v:AV} (h:EL H z es v) (hs:∀e∈es,TV.El e=true) (d:Nat):own (d+3) H v=true:=by
 obtain⟨hz,h⟩:=h;rcases h with ⟨_,rfl|rfl⟩|⟨id,g,b,cells,rfl,hH,hb,hE⟩
 ·rfl
 ·rfl
 ·have hl:=hE.len;rw [qqo] at hl;rw [Nf,hH];have qxl:cut cells b (Nat.mul es.length z)=some ((cells.drop b).take (es.length*z)):=by rw [jf];exact if_pos (by show b+es.length*z<=_;omega)
  simp only [qxl];rw [cj];intro x hx;have hfl:=hE.flat x (List.mem_of_mem_take hx);obtain⟨i,hi⟩:=List.getElem?_of_mem (List.mem_of_mem_take hx);have hil:i < es.length*z:=by have:=(qqb.1 hi).1;rw [qqo] at this;omega
  have hj:i / z < es.length:=by rw [Nat.div_lt_iff_lt_mul hz];exact hil
  have hc:=hE.el (i / z) _ (qqa hj);obtain⟨ts,h1,h2⟩:=lu.1 hc;have hm:i % z < z:=Nat.mod_lt _ hz;have hxs:(((cells.drop b).drop (i / z*z)).take z)[i % z]?=some x:=by rw [qqg,if_pos hm,qqh,Nat.mul_comm,Nat.div_add_mod];exact hi
  have hlt:i % z < ts.length:=by rw [h2.1];exact(qqb.1 hxs).1
  have hcan:=h2.2 _ _ x (qqa hlt) hxs;have hsc:sc ts[i % z]=true:=by
   have he:=hs _ (qqj hj);generalize es[i / z]=e at h1 he;have hmem:=qqj hlt;generalize ts[i % z]=t at hmem;cases e with
   |a cs=>cases h1;exact cj.1 he t hmem
   |tp _=>cases h1
   |l _=>cases he
   |B7 _ _=>cases he
   |_=>cases h1;rw [qqy.1 hmem];rfl
  exact s0 hcan hsc (yl hfl _ H)
theorem Pk {f:Nat} {af:ay} {vc:bu} {ts:List TV} {Q:TV->Prop} (hf:prog.get f=some af) (hc:vc.code=af.body) (hok:vc.ok=true) (hl:ts.length=af.params) (hsh:vz prog sh) (h:Rn sh prog af vc ts Q):Ly prog f ts Q:=by
 intro as ha;have h0:R (fun _=>none) V0 ⟨.leaf,.leaf,0⟩:=⟨fun t e he=>(by cases he),fun O o ho=>(by cases ho),fun O O' o o' a a' id ho=>(by cases ho),fun _ _=>rfl,fun O a ha=>(by cases ha),fun id o ho=>(by cases ho),fun O o a ho=>(by cases ho)⟩;have hR:=F7 ts as 0 V0 .leaf ha h0;have hw:=I1 hsh (nt:=af.nt) vc _ _ _ _ hok hR h;rw [hc] at hw;obtain⟨⟨v,H',nx'⟩,h1,h2⟩:=Gc (r:=fun p=>own deep p.2.1 p.1=true/\∃a,dh deep p.2.1 p.1=some a/\∃r,Can r a/\Q r) hf (by rw [←ha.1];exact hl) (q_ hw (by
  rintro x st' ⟨V',A',g1,g2,g3,g4⟩;refine⟨(by cases x<;>first|exact .inl rfl|exact .inr rfl|cases g3),?_⟩;split at g4;rotate_left
  ·cases g4
  rename_i r hr;rw [hr];cases r with
  |cell _ _=>cases g4
  |tmp t=>
   simp only [Zc] at g4;obtain⟨w,hw,hk⟩:=fu (g:=none) g1 trivial g4;have fin:∀{es:List TV} {a:AV},own deep st'.H (ev st'.env (.t t))=true->dh deep st'.H (ev st'.env (.t t))=some a->Can (.l es) a->Q (.l es)->∃v,zn [.tmp t] st'=some v/\own deep v.2.1 v.1=true/\∃a,dh deep v.2.1 v.1=some a/\∃r,Can r a/\Q r:=
    fun p1 p2 p3 p4=>⟨(ev st'.env (.t t),st'.H,st'.nx),rfl,p1,_,p2,_,p3,p4⟩
   generalize ev st'.env (.t t)=x at hw fin;cases hw with
   |gD=>exact fin rfl rfl .nil hk
   |yg=>exact fin rfl rfl ou hk
   |@sl O _ hO=>
    dsimp only at hk;split at hk;rotate_left
    ·cases hk
    rename_i z es ho;obtain⟨y,hy,hs⟩:=g1.heap O _ ho;rw [hO] at hy;cases hy;obtain⟨a',k1,k2,_⟩:=Fy hs 28;exact fin (Ux hs hk.1 27) k1 k2 hk.2
   |_=>cases hk))
 exact⟨v,H',nx',h1,h2⟩
end
end Go.Ax.V
namespace Go.Ax.V
def dOk (p:Nat->Bool) (d:Option Nat):Bool:=match d with
 |some d=>!p d
 |none=>true
def Ub (p:Nat->Bool) (o:br):Bool:=dOk p o.dst
def Nh (p:Nat->Bool) (l:List br):Bool:=gE (Ub p) l
def DQ (p:Nat->Bool) (c:lF):Bool:=
 lF.rec (motive:=fun _=>Bool) true (fun ops=>Nh p ops) (fun ops _ _=>Nh p ops) (fun _ _ a b=>a&&b) (fun _ _ _ a b=>a&&b) (fun _ _ a=>a) (fun _ a=>a) (fun _=>true) true c
def oV (p:Nat->Bool) (e e':Env):Prop:=∀t,p t=true->e'.get t=e.get t
theorem oV.refl (p:Nat->Bool) (e:Env):oV p e e:=fun _ _=>rfl
theorem oV.trans {p:Nat->Bool} {a b c:Env} (h:oV p a b) (h':oV p b c):oV p a c:=fun t ht=>(h' t ht).trans (h t ht)
section
variable {prog:Map ay} {cf:qn} {nt np:Nat} {p:Nat->Bool}
theorem Bz {e e':Env} {d:Option Nat} {v:AV} (h:DK nt e d v=some e') (hd:dOk p d=true):oV p e e':=by
 cases d with
 |none=>cases h;exact oV.refl _ _
 |some d=>
  simp only [DK,cond_eq_ite] at h;split at h
  ·cases h;intro t ht;have hd':p d=false:=by simpa [dOk] using hd
   rw [Map.bk,if_neg];rintro rfl;rw [hd'] at ht;cases ht
  ·cases h
theorem LR {o:br} {st st':St} (ho:Ub p o=true) (h:ql cf nt o st=some st'):oV p st.env st'.env:=by
 simp only [ql,cond_eq_ite] at h;split at h
 ·split at h
  ·cases h
  ·split at h
   ·rename_i e he;cases h;exact Bz he ho
   ·cases h
 ·split at h
  ·rename_i e he;cases h;exact Bz he ho
  ·cases h
theorem Em:∀{l:List br} {st st':St},Nh p l=true->pg cf nt l st=some st'->oV p st.env st'.env
 |[],st,st',ho,h=>by cases h;exact oV.refl _ _
 |o::l,st,st',ho,h=>by
  have ho':=cj.1 ho;rw [oO] at h;split at h
  ·rename_i st1 h1;exact(LR (ho' o qqu) h1).trans (Em (cj.2 fun x hx=>ho' x (qqv _ hx)) h)
  ·cases h
theorem CO {n0:Nat}:∀{l:List br} {st st':St} {rs:List Rec},Nh p l=true->lJ cf nt n0 l st=some (st',rs)->oV p st.env st'.env
 |[],st,st',rs,ho,h=>by cases h;exact oV.refl _ _
 |o::l,st,st',rs,ho,h=>by
  have ho':=cj.1 ho;have h0:=ho' o qqu;simp only [lJ] at h;split at h
  ·cases h
  rename_i st1 r h1;split at h
  ·cases h
  rename_i st2 l2 h2;cases h;refine oV.trans ?_ (CO (cj.2 fun x hx=>ho' x (qqv _ hx)) h2);simp only [gv,cond_eq_ite] at h1;split at h1
  ·split at h1
   ·cases h1
   ·split at h1
    ·cases h1
    ·rename_i e he;cases h1;exact Bz he h0
  ·split at h1
   ·cases h1
   ·rename_i e he;cases h1;exact Bz he h0
theorem h_:∀(k:Nat) (c:lF) (st:St) (x:gX) (st':St),DQ p c=true->(interp prog k).code nt c st=some (x,st')->oV p st.env st'.env
 |0,c,st,x,st',hc,h=>by cases h
 |k+1,c,st,x,st',hc,h=>by
  have h':d_ (interp prog k).code (interp prog k).fn nt c st=some (x,st'):=h;cases c with
  |skip=>cases h';exact oV.refl _ _
  |exit id=>cases h';exact oV.refl _ _
  |ret=>cases h';exact oV.refl _ _
  |er ops=>
   simp only [d_] at h';split at h'
   ·rename_i st1 h1;cases h';exact Em hc h1
   ·cases h'
  |dz ops ahead pairs=>
   simp only [d_] at h';split at h'
   ·rename_i st1 h1;cases h';simp only [lI] at h1;split at h1
    ·cases h1
    ·rename_i st2 rs h2;rw [cond_eq_ite] at h1;split at h1
     ·cases h1;exact CO hc h2
     ·cases h1
   ·cases h'
  |seq a b=>
   have hab:DQ p a=true/\DQ p b=true:=by have:(DQ p a&&DQ p b)=true:=hc;simpa using this
   simp only [d_] at h';split at h'
   ·rename_i st1 h1;exact(h_ k a _ _ _ hab.1 h1).trans (h_ k b _ _ _ hab.2 h')
   ·exact h_ k a _ _ _ hab.1 h'
  |cond c a b=>
   have hab:DQ p a=true/\DQ p b=true:=by have:(DQ p a&&DQ p b)=true:=hc;simpa using this
   simp only [d_] at h';split at h'
   ·exact h_ k a _ _ _ hab.1 h'
   ·exact h_ k b _ _ _ hab.2 h'
   ·cases h'
  |block id c=>
   have hcc:DQ p c=true:=hc;simp only [d_] at h';split at h'
   ·rename_i i st1 h1;have:=h_ k c _ _ _ hcc h1;rw [cond_eq_ite] at h';split at h'<;>(cases h';exact this)
   ·exact h_ k c _ _ _ hcc h'
  |loop c=>
   have hcc:DQ p c=true:=hc;simp only [d_] at h';split at h'
   ·rename_i st1 h1;exact(h_ k c _ _ _ hcc h1).trans (h_ k (.loop c) _ _ _ hc h')
   ·exact h_ k c _ _ _ hcc h'
theorem Iy {c:lF} {st:St} {x:gX} {st':St} (hc:DQ p c=true) (h:gS prog nt c st=some (x,st')):oV p st.env st'.env:=by obtain⟨k,hk⟩:=Cn prog nt c st _ h;exact h_ k c st x st' hc (hk k (qqT _))
def ER (V:bt) (p:Nat->Bool) (np:Nat) (w:VV):bt:={V with env:=(V.env.upto p).put (some ⟨none,w⟩) np}
def kept (ks:List PK) (t:Nat):Bool:=match ks[t]? with
 |some .tr=>false
 |some _=>true
 |none=>false
def B6 (V:bt) (r:wh) (k:TV->Prop):Prop:=match r with
 |.tmp t=>ue V none (.t t) k
 |.cell t sz=>jx V none (.t t) fun w=>match w with
  |.ptr O off=>(match V.H.get O with
   |some (.ob v ovs)=>match sz with
    |none=>(match eC off ovs with
     |some _=>False
     |none=>∃u,ct v off=some u/\k u)
    |some n=>(match xg off n ovs with
     |[]=>∃u,ax v off n=some u/\k u
     |_::_=>False)
   |_=>False)
  |_=>False
def CP (V:bt):List wh->(List TV->Prop)->Prop
 |[],k=>k []
 |r::rs,k=>B6 V r fun v=>CP V rs fun vs=>k (v::vs)
def FO (V:bt) (t:Nat) (sz:Option Nat):List (Nat×VV):=match sz with
 |none=>[]
 |some n=>match gZ V (.t t) with
  |.ptr O off=>(match V.H.get O with
   |some (.ob _ ovs)=>xg off n ovs
   |_=>[])
  |_=>[]
def P9 (V:bt) (t:Nat) (sz:Option Nat) (k:VV->Prop):Prop:=match sz with
 |none=>False
 |some n=>jx V none (.t t) fun w=>match w with
  |.ptr O off=>(match V.H.get O with
   |some (.ob v ovs)=>∃u,ax v off n=some u/\k (.st u (xg off n ovs))
   |_=>False)
  |_=>False
def LZ (V:bt) (p:Nat->Bool) (np:Nat) (rs:List wh) (k:bt->Prop):Prop:=match rs with
 |[.tmp t]=>jx V none (.t t) fun w=>k (ER V p np w)
 |[.cell t sz]=>(match FO V t sz with
  |[]=>B6 V (.cell t sz) fun v=>k (ER V p np (.tr v))
  |_::_=>P9 V t sz fun w=>k (ER V p np w))
 |rs=>CP V rs fun vs=>cg vs/\k (ER V p np (.tr (.tp vs)))
def ZU (sh:Sh) (prog:Map ay) (af:ay) (vc:bu) (p:Nat->Bool) (np:Nat) (Jout:List BP) (Q:JT Jout Prop) (Vc:bt):Prop:=
 OK sh prog af.nt vc Vc fun x V=>(match x with|.exit _=>False|_=>True)/\LZ V p np af.res fun V'=>Eo Jout V' Q
theorem FF {V:bt} {r:wh} {k k':TV->Prop} (h:B6 V r k) (hk:∀v,k v->k' v):B6 V r k':=by
 cases r with
 |tmp t=>
  simp only [B6,ue,jx] at h ⊢;split at h
  ·cases h
  ·split at h
   ·unfold JA at h ⊢;split at h
    ·exact hk _ h
    ·exact hk _ h
    ·obtain⟨u,h1,h2⟩:=h;exact⟨u,h1,hk _ h2⟩
    ·cases h
   ·cases h
 |cell t sz=>
  simp only [B6,jx] at h ⊢;split at h
  ·cases h
  ·split at h
   ·split at h
    ·split at h
     ·split at h
      ·split at h
       ·cases h
       ·obtain⟨u,h1,h2⟩:=h;exact⟨u,h1,hk _ h2⟩
      ·split at h
       ·obtain⟨u,h1,h2⟩:=h;exact⟨u,h1,hk _ h2⟩
       ·cases h
     ·cases h
    ·cases h
   ·cases h
theorem FC {V:bt}:∀{rs:List wh} {k k':List TV->Prop},CP V rs k->(∀v,k v->k' v)->CP V rs k'
 |[],k,k',h,hk=>hk _ h
 |r::rs,k,k',h,hk=>FF h fun v hv=>FC hv fun vs hvs=>hk _ hvs
theorem Ze {A:ei} {V:bt} {st:St} (hR:R A V st) {as:List AV} {p:Nat->Bool} {np:Nat} (hl:as.length=np) (hs:oV p (jj as 0 .leaf) st.env) {w:VV} {v:AV} (hw:VR A w v):R A (ER V p np w) ⟨(jj as 0 .leaf).put (some v) np,st.H,st.nx⟩:=by
 refine⟨fun t e he=>?_,hR.heap,hR.inj,hR.used,hR.one,hR.fresh,hR.nh⟩;have he':((V.env.upto p).put (some ⟨none,w⟩) np).get t=some e:=he;rw [Map.bk] at he';split at he'
 ·rename_i ht;cases he';exact⟨v,by show ((jj as 0 .leaf).put (some v) np).get t=_;rw [Map.bk,if_pos ht],fun _=>hw⟩
 ·rename_i hne;rw [Map.qd] at he';split at he'
  ·rename_i hlt;obtain⟨a,ha,hv⟩:=hR.env t e he';exact⟨a,by show ((jj as 0 .leaf).put (some v) np).get t=_;rw [Map.bk,if_neg hne,←hs t hlt];exact ha,hv⟩
  ·cases he'
theorem Hl {A:ei} {V:bt} {st:St} (hR:R A V st) {r:wh} {k:TV->Prop} (h:B6 V r k):∃v t,oc st.env st.H r=some v/\Can t v/\k t:=by
 cases r with
 |tmp t=>obtain⟨u,h1,h2⟩:=gm (g:=none) hR trivial h;exact⟨_,u,rfl,h1,h2⟩
 |cell t sz=>
  simp only [B6] at h;obtain⟨w,hw,h⟩:=fu (g:=none) hR trivial h;generalize he:ev st.env (.t t)=p at hw;cases hw with
  |@ptr O off id hO=>
   simp only at h;split at h;rotate_left
   ·cases h
   rename_i v ovs ho;obtain⟨y,hy,id',cs,ts,rfl,hH,hc⟩:=hR.heap O _ ho;rw [hO] at hy;cases hy;have fin:∀{l:List AV} {v':AV} {t':TV},cut cs off (gH sz)=some l->Mb sz l=some v'->Can t' v'->k t'->∃v t_1,oc st.env st.H (.cell t sz)=some v/\Can t_1 v/\k t_1:=by intro l v' t' h1 h2 h3 h4;refine⟨v',t',?_,h3,h4⟩;simp only [oc,he,jg,hH,cond_eq_ite,qqE,if_pos,h1];exact h2
   split at h
   ·split at h
    ·cases h
    ·rename_i ho';obtain⟨u,h1,h2⟩:=h;obtain⟨x,h3,h4,_⟩:=Bd hc h1 ho';exact fin h3 rfl h4 h2
   ·split at h
    ·rename_i ho';obtain⟨u,h1,h2⟩:=h;obtain⟨l,ls,h3,h4,h5⟩:=oS hc h1;rw [ho'] at h5;exact fin h3 rfl (CI h5 h4) h2
    ·cases h
  |_=>cases h
theorem Om {A:ei} {V:bt} {st:St} (hR:R A V st) {t:Nat} {sz:Option Nat} {k:VV->Prop} (h:P9 V t sz k):∃v w,oc st.env st.H (.cell t sz)=some v/\VR A w v/\k w:=by
 cases sz with
 |none=>cases h
 |some n=>
  simp only [P9] at h;obtain⟨w,hw,h⟩:=fu (g:=none) hR trivial h;generalize he:ev st.env (.t t)=p at hw;cases hw with
  |@ptr O off id hO=>
   simp only at h;split at h;rotate_left
   ·cases h
   rename_i v ovs ho;obtain⟨y,hy,id',cs,ts,rfl,hH,hc⟩:=hR.heap O _ ho;rw [hO] at hy;cases hy;obtain⟨u,h1,h2⟩:=h;obtain⟨l,ls,h3,h4,h5⟩:=oS hc h1;refine⟨.agg l,_,?_,.st h4 h5,h2⟩;simp only [oc,he,jg,hH,cond_eq_ite,qqE,if_pos,gH,h3];rfl
  |_=>cases h
theorem Hj {A:ei} {V:bt} {st:St} (hR:R A V st):∀(rs:List wh) (k:List TV->Prop),CP V rs k->∃vs ts,lX (oc st.env st.H) rs=some vs/\oY ts vs/\k ts
 |[],k,h=>⟨[],[],rfl,⟨rfl,fun j t x ht=>by simp at ht⟩,h⟩
 |r::rs,k,h=>by
  obtain⟨v,t,h1,h2,h3⟩:=Hl hR h;obtain⟨vs,ts,g1,g2,g3⟩:=Hj hR rs _ h3;refine⟨v::vs,t::ts,by rw [iq,h1,g1],⟨by simp [g2.1],fun j u x hu hx=>?_⟩,g3⟩;cases j with
  |zero=>simp at hu hx;subst hu;subst hx;exact h2
  |succ j=>exact g2.2 j u x (by simpa using hu) (by simpa using hx)
theorem JV {A:ei} {V:bt} {st:St} (hR:R A V st) {rs:List wh} {k:bt->Prop} (h:LZ V p np rs k):∃v w,zn rs st=some (v,st.H,st.nx)/\VR A w v/\k (ER V p np w):=by
 have many:rs.length≠1->(CP V rs fun vs=>cg vs/\k (ER V p np (.tr (.tp vs))))->∃v w,zn rs st=some (v,st.H,st.nx)/\VR A w v/\k (ER V p np w):=by
  intro hne h;obtain⟨vs,ts,h1,h2,h3,h4⟩:=Hj hR rs _ h;have hl:=(qu h1).1;refine⟨.qo vs,.tr (.tp ts),?_,.tr (.tp _ _ h2.1 (fun x hx=>?_) h2.2),h4⟩
  ·unfold zn;rw [h1]
   match vs,(show vs.length≠1 by omega) with
   |[],_=>rfl
   |[_],hh=>exact absurd rfl hh
   |_::_::_,_=>rfl
  ·obtain⟨j,hj⟩:=List.getElem?_of_mem hx;have hlt:j < ts.length:=by rw [h2.1];exact(qqb.1 hj).1
   exact Gv (h2.2 j _ x (qqa hlt) hj) (DR h3 _ (qqj hlt))
 match rs,h,many with
 |[],h,many=>exact many (by simp) h
 |[.tmp t],h,many=>simp only [LZ] at h;obtain⟨w,hw,h⟩:=fu (g:=none) hR trivial h;exact⟨_,w,rfl,hw,h⟩
 |[.cell t sz],h,many=>
  simp only [LZ] at h;split at h
  ·obtain⟨v,u,h1,h2,h3⟩:=Hl hR h;exact⟨v,.tr u,by unfold zn;rw [iq,h1];rfl,.tr h2,h3⟩
  ·obtain⟨v,w,h1,h2,h3⟩:=Om hR h;exact⟨v,w,by unfold zn;rw [iq,h1];rfl,h2,h3⟩
 |r1::_::_,h,many=>exact many (by simp) (by cases r1<;>exact h)
theorem Au {sh:Sh} {f:Nat} {af:ay} {vc:bu} {Jout:List BP} {Q:JT Jout Prop} {Vc:bt} (hf:prog.get f=some af) (hc:vc.code=af.body) (hok:vc.ok=true) (hp:af.params=np) (hnw:DQ p af.body=true) (hsh:vz prog sh)
  (h:ZU sh prog af vc p np Jout Q Vc):MS prog f np Jout Q Vc:=by
 intro A as H nx hl hR;obtain⟨x,st',h1,V',A',h2,h3,h4,h5⟩:=I1 hsh (nt:=af.nt) vc Vc A ⟨jj as 0 .leaf,H,nx⟩ _ hok hR h;have h1':=Ff prog af.nt _ _ _ h1;rw [hc] at h1';have hsame:=Iy hnw h1';obtain⟨v,w,g1,g2,g3⟩:=JV h2 h5;refine⟨v,st'.H,st'.nx,A',_,Ix ?_,Ze h2 hl hsame g2,g3,⟨h3.le,h3.same,fun id ⟨O,o,a,ho,ha,hi⟩=>h3.own id ⟨O,o,a,ho,ha,hi⟩⟩⟩;have hl':as.length=af.params:=by rw [hl,hp]
 simp only [ta,hf,cond_eq_ite,qqE,if_pos hl',h1'];cases x with
 |exit i=>cases h4
 |normal=>exact g1
 |ret=>exact g1
end
end Go.Ax.V
namespace Go.Ax.V
theorem F6 (prog:Map ay):∀k,Ei (fun _=>ey prog) (interp prog k).fn/\GI (fun _=>gS prog) (interp prog k).code
 |0=>⟨fun f args H nx r h=>(by cases h),fun nt c st r h=>(by cases h)⟩
 |k+1=>by
  obtain⟨h1,h2⟩:=F6 prog k;constructor
  ·intro f args H nx r h;obtain⟨k0,hk⟩:=HV (prog:=prog) h2 f args H nx r h;exact Ev.const (Ix (hk k0 (qqT _)))
  ·intro nt c st r h;obtain⟨k0,hk⟩:=EJ h1 h2 nt c st r h;exact Ev.const (lP (hk k0 (qqT _)))
theorem GR {prog:Map ay} {k f:Nat} {args:List AV} {H:ck} {nx:Nat} {r:AV×ck×Nat} (h:(interp prog k).fn f args H nx=some r):ey prog f args H nx=some r:=by obtain⟨k0,hk⟩:=(F6 prog k).1 f args H nx r h;exact hk k0 (qqT _)
theorem N8 {prog:Map ay} {k f:Nat} (h:isTrue ((interp prog k).fn f [] .leaf 0)=true):VS prog f [] (fun r=>r=.b true):=by intro as ha;have:as=[]:=qqM.1 ha.1.symm;subst this;obtain⟨H,nx,hr⟩:=EB h;exact⟨_,H,nx,GR hr,_,rfl,_,.b true,rfl⟩
theorem Su {prog:Map ay} {f:Nat} {ts:List TV} {as:List AV} (h:VS prog f ts (fun r=>r=.b true)) (ha:oY ts as):isTrue (ey prog f as .leaf 0)=true:=by obtain⟨v,H,nx,h1,a,h2,r,h3,rfl⟩:=h as ha;cases h3;have:=Ky (d:=29) h2 (fun _ _ _ h=>by cases h) (fun _ h=>by cases h) (fun _ h=>by cases h);subst this;rw [h1];rfl
theorem Dq:oY [] []:=⟨rfl,fun j t x ht=>by simp at ht⟩
theorem Eb {t:TV} {x:AV} {ts:List TV} {as:List AV} (h:Can t x) (hs:oY ts as):oY (t::ts) (x::as):=by
 refine⟨by simp [hs.1],fun j u y hu hy=>?_⟩;cases j with
 |zero=>simp at hu hy;subst hu;subst hy;exact h
 |succ j=>exact hs.2 j u y (by simpa using hu) (by simpa using hy)
theorem Ip {n:Int} (h1:-9223372036854775808<=n) (h2:n < 9223372036854775808):wj .i64 n=n:=by
 unfold wj;have:WZ .i64 n=true:=by
  cases n with
  |ofNat m=>have h2':(m:Int) < 9223372036854775808:=h2;simp only [WZ];simp;omega
  |negSucc m=>simp only [WZ];simp;omega
 rw [this];rfl
end Go.Ax.V
namespace Go.Ax.V
theorem de {t:Bool} {a b:Prop} (h:t=true) (ha:a):ak (.b t) a b:=by subst h;exact ha
theorem a_ {t:Bool} {a b:Prop} (h:t=false) (hb:b):ak (.b t) a b:=by subst h;exact hb
theorem aa {t:Bool} {a b:Prop} (ha:t=true->a) (hb:t=false->b):ak (.b t) a b:=by
 cases t with
 |true=>exact ha rfl
 |false=>exact hb rfl
theorem DB {a b:TV} (ha:a.ff=false) (hb:b.ff=false):oH [a,b]:=⟨ha,hb,trivial⟩
theorem cy {prog:Map ay} {f:Nat} {ts:List TV} {c:TV} {K:TV->Prop} (h:VS prog f ts (fun r=>r=c)) (hk:K c):VS prog f ts (fun r=>lB true r/\K r):=
 h.mono (fun r hr=>by subst hr;exact⟨trivial,hk⟩)
theorem bg {t bb:Bool} {P:TV->Prop} {k:TV->Prop} {v:TV} (ht:t=bb) (hp:P v) (hk:k v):∃v,gV (.b t) bb P v/\k v:=by subst ht;refine⟨v,?_,hk⟩;unfold gV;cases t<;>exact hp
theorem cr {t bb:Bool} {P:TV->Prop} {k:TV->Prop} (ht:t=!bb) (hk:k qi):∃v,gV (.b t) bb P v/\k v:=by subst ht;refine⟨qi,?_,hk⟩;unfold gV;cases bb<;>rfl
theorem BU {bb:Bool} {P:TV->Prop} {k:TV->Prop} (hk:k qi):∃v,gV qi bb P v/\k v:=⟨qi,rfl,hk⟩
end Go.Ax.V
namespace Go.Ax.V
def bu.flat:bu->Bool
 |.skip=>true
 |.er _=>true
 |.seq a b=>a.flat&&b.flat
 |.cond _ a b=>a.flat&&b.flat
 |.block _ c=>c.flat
 |.exit _=>true
 |.ret=>true
 |_=>false
def M7 (V:bt) (rs:List wh) (k:VV->Prop):Prop:=match rs with
 |[.tmp t]=>jx V none (.t t) k
 |[.cell t sz]=>B6 V (.cell t sz) fun v=>k (.tr v)
 |rs=>CP V rs fun vs=>cg vs/\k (.tr (.tp vs))
def inlT (sh:Sh) (prog:Map ay) (af:ay) (vc:bu) (V:bt) (ws:List VV) (k:VV->bt->Prop):Prop:=
 OK sh prog af.nt vc {V with env:=EH ws 0 .leaf} fun x V'=>(match x with|.exit _=>False|_=>True)/\M7 V' af.res fun w=>k w {V' with env:=V.env}
section
variable {sh:Sh} {prog:Map ay} {nt:Nat}
theorem Rm (hsh:vz prog sh):∀(c:bu) (V:bt) (A:ei) (st:St) (k:gX->bt->Prop),c.flat=true->R A V st->OK sh prog nt c V k->
  WC (ey prog) (gS prog) nt c.code st (fun x st'=>∃V' A',R A' V' st'/\Fr V A st.H st.nx V' A' st'.H st'.nx/\Ext V A V' A'/\k x V'):=by
 intro c
 induction c with
 |skip=>intro V A st k _ hR h;exact MV ⟨V,A,hR,Fr.refl _ _ _ _,Ext.refl _ _,h⟩
 |exit id=>intro V A st k _ hR h;exact MW ⟨V,A,hR,Fr.refl _ _ _ _,Ext.refl _ _,h⟩
 |ret=>intro V A st k _ hR h;exact Ph ⟨V,A,hR,Fr.refl _ _ _ _,Ext.refl _ _,h⟩
 |dz ops ahead pairs=>intro V A st k hf;cases hf
 |loop J c ih=>intro V A st k hf;cases hf
 |join J c ih=>intro V A st k hf;cases hf
 |er ops=>intro V A st k _ hR h;obtain⟨st',h1,V',A',h2,h3,h4,h5⟩:=Ge hsh hR h;exact Pj ⟨st',h1,V',A',h2,h3,h4,h5⟩
 |seq a b iha ihb=>
  intro V A st k hok hR h;simp only [bu.flat,qqB] at hok;refine Pf (q_ (iha V A st _ hok.1 hR h) ?_);rintro x st' ⟨V',A',h1,h2,hx,h3⟩;cases x with
  |normal=>refine q_ (ihb V' A' st' k hok.2 h1 h3) ?_;rintro y st2 ⟨V2,A2,g1,g2,gx,g3⟩;exact⟨V2,A2,g1,h2.trans g2,hx.trans gx,g3⟩
  |exit i=>exact⟨V',A',h1,h2,hx,h3⟩
  |ret=>exact⟨V',A',h1,h2,hx,h3⟩
 |cond c a b iha ihb=>
  intro V A st k hok hR h;simp only [bu.flat,qqB] at hok;obtain⟨cv,hc,h⟩:=gm (g:=none) hR trivial h;unfold ak at h;split at h
  ·rename_i x;generalize he:ev st.env c=p at hc;cases hc;cases x with
   |true=>exact CD he (iha V A st k hok.1 hR h)
   |false=>exact B2 he (ihb V A st k hok.2 hR h)
  ·cases h
 |block id c ih=>
  intro V A st k hok hR h;refine Jv (q_ (ih V A st _ hok hR h) ?_);rintro x st' ⟨V',A',h1,h2,hx,h3⟩;cases x with
  |normal=>exact⟨V',A',h1,h2,hx,h3⟩
  |ret=>exact⟨V',A',h1,h2,hx,h3⟩
  |exit i=>
   simp only [Je];simp only [cond_eq_ite,qqE] at h3;by_cases hi:i=id
   ·rw [if_pos hi] at h3 ⊢;exact⟨V',A',h1,h2,hx,h3⟩
   ·rw [if_neg hi] at h3 ⊢;exact⟨V',A',h1,h2,hx,h3⟩
theorem Ol {A:ei} {V:bt} {st:St} (hR:R A V st) {rs:List wh} {k:VV->Prop} (h:M7 V rs k):∃v w,zn rs st=some (v,st.H,st.nx)/\VR A w v/\k w:=by
 have h':LZ V (fun _=>false) 0 rs fun V'=>∃w,V'=ER V (fun _=>false) 0 w/\k w:=by
  match rs,h with
  |[],h=>obtain⟨h1,h2⟩:=h;exact⟨h1,_,rfl,h2⟩
  |[.tmp t],h=>
   simp only [M7,LZ,jx] at h ⊢;split at h
   ·cases h
   ·split at h
    ·exact⟨_,rfl,h⟩
    ·cases h
  |[.cell t sz],h=>
   simp only [M7] at h;have h2:FO V t sz=[]\/∃q r,FO V t sz=q::r:=by cases FO V t sz<;>simp
   rcases h2 with h2|⟨q,r,h2⟩
   ·simp only [LZ,h2];exact FF h fun v hv=>⟨_,rfl,hv⟩
   ·exfalso;simp only [FO] at h2;cases sz with
    |none=>cases h2
    |some n=>
     simp only [B6,jx,gZ] at h h2;split at h
     ·cases h
     rename_i e he;rw [he] at h2;split at h
     ·split at h
      ·rename_i O off hw;simp only [hw] at h2;split at h
       ·rename_i ho;rw [ho] at h2;split at h
        ·rename_i hh;simp only [hh] at h2;cases h2
        ·cases h
       ·cases h
      ·cases h
     ·cases h
  |r1::r2::rs,h=>
   have h2:CP V (r1::r2::rs) fun vs=>cg vs/\k (.tr (.tp vs)):=by cases r1<;>exact h
   have h3:CP V (r1::r2::rs) fun vs=>cg vs/\∃w,ER V (fun _=>false) 0 (.tr (.tp vs))=ER V (fun _=>false) 0 w/\k w:=FC h2 fun vs hv=>⟨hv.1,_,rfl,hv.2⟩
   cases r1<;>exact h3
 obtain⟨v,w,h1,h2,w',h3,h4⟩:=JV (np:=0) hR h';have hw:(some (⟨none,w⟩:VE))=some ⟨none,w'⟩:=by have e:=congrArg (fun V=>V.env.get 0) h3;simpa only [ER,Map.bk,if_pos] using e
 cases hw;exact⟨v,w,h1,h2,h4⟩
def S8 (sh:Sh) (prog:Map ay) (af:ay) (vc:bu) (np:Nat) (V:bt) (ws:List VV) (k:VV->bt->Prop):Prop:=match Nat.beq ws.length np with
 |true=>inlT sh prog af vc V ws k
 |false=>False
def _root_.Go.Ax.V.Sh.add (sh:Sh) (f:Nat) (T:bt->List VV->(VV->bt->Prop)->Prop):Sh:={sh with inl:=fun g=>bif Nat.beq g f then some T else sh.inl g}
def _root_.Go.Ax.V.Sh.cut (sh:Sh) (tc:Nat->List Nat) (gc:Nat->Nat) (pn:Nat->List (Nat×Nat)):Sh:={sh with tc:=tc,gc:=gc,pn:=pn}
theorem PE {f:Nat} {T:bt->List VV->(VV->bt->Prop)->Prop} (h:vz prog sh) (hi:WN prog f T):vz prog (sh.add f T):=by
 refine⟨h.vs,fun g T' hg=>?_⟩;simp only [Sh.add,cond_eq_ite,qqE] at hg;split at hg
 ·rename_i e;subst e;cases hg;exact hi
 ·exact h.inl g T' hg
theorem Uy {tc:Nat->List Nat} {gc:Nat->Nat} {pn:Nat->List (Nat×Nat)} (h:vz prog sh):vz prog (sh.cut tc gc pn):=⟨h.vs,h.inl⟩
theorem Q2 {f:Nat} {af:ay} {vc:bu} (hf:prog.get f=some af) (hc:vc.code=af.body) (hok:vc.flat=true) (hsh:vz prog sh) {np:Nat} (hp:af.params=np) :
  WN prog f (S8 sh prog af vc np):=by
 rintro A V st ws as k hR hl hw h;unfold S8 at h;split at h;rotate_left
 ·cases h
 rename_i hn;rw [qqE] at hn;have hR':R A {V with env:=EH ws 0 .leaf} ⟨jj as 0 .leaf,st.H,st.nx⟩:=Zf hR hl hw;obtain⟨x,st',h1,V',A',h2,h3,hx,h4,h5⟩:=Rm hsh (nt:=af.nt) vc _ A ⟨jj as 0 .leaf,st.H,st.nx⟩ _ hok hR' h;have h1':=Ff prog af.nt _ _ _ h1;rw [hc] at h1';obtain⟨v,w,g1,g2,g3⟩:=Ol h2 h5;refine⟨v,st'.H,st'.nx,A',{V' with env:=V.env},w,Ix ?_,⟨fun t e he=>?_,h2.heap,h2.inj,h2.used,h2.one,h2.fresh,h2.nh⟩,g2,⟨hx.mono,hx.new,hx.ev.us,hx.ev.gn⟩,⟨h3.le,h3.same,fun id ⟨O,o,a,ho,ha,hi⟩=>h3.own id ⟨O,o,a,ho,ha,hi⟩⟩,g3⟩
 ·have hl':as.length=af.params:=by rw [←hl,hn,hp]
  simp only [ta,hf,cond_eq_ite,qqE,if_pos hl',h1'];cases x with
  |exit i=>cases h4
  |normal=>exact g1
  |ret=>exact g1
 ·obtain⟨a,ha,hv⟩:=hR.env t e he;exact⟨a,ha,fun hh=>(hv hh).mono hx.mono⟩
end
end Go.Ax.V
end
