/- Part 7 of the proof: VE, V13, V14, V15, V16, V18. -/
import Derived.Test.YtamgnhdbeecapaaCp6

namespace Go.Ax.V
section
variable {sh:Sh} {prog:Map bk} {cf:qc} {nt:Nat}
theorem uh {n:Nat}:∀{l:List Nat},Bj n l=true↔n∈l
 |[]=>by simp [Bj]
 |m::l=>by simp [Bj,uh (l:=l)]
theorem IX {m:List Nat}:∀{l:List Nat},RG l m=true->∀n∈l,n∈m
 |[],h,n,hn=>by cases hn
 |x::l,h,n,hn=>by
  simp only [RG,Bool.and_eq_true] at h
  rcases List.mem_cons.1 hn with rfl|hn
  ·exact uh.1 h.1
  ·exact IX h.2 n hn
theorem Be {m:List Nat}:∀{l:List Nat},Ht l m=true->∀n∈l,n ∉ m
 |[],h,n,hn=>by cases hn
 |x::l,h,n,hn=>by
  simp only [Ht,Bool.and_eq_true,Bool.not_eq_true'] at h
  rcases List.mem_cons.1 hn with rfl|hn
  ·intro hm;rw [uh.2 hm] at h;exact absurd h.1 (by decide)
  ·exact Be h.2 n hn
theorem zv {info:List (Nat×Nat×List Nat)} {T:Nat}:∀{l:List Nat},T∈l->(jo T info).1∈vo info l
 |[],h=>by cases h
 |x::l,h=>by
  rcases List.mem_cons.1 h with rfl|h
  ·exact List.mem_cons_self
  ·exact List.mem_cons_of_mem _ (zv h)
theorem CR {info:List (Nat×Nat×List Nat)} {ah:List Nat}:∀{l:List Nat},xw info ah l=true->∀T∈l,∀c∈(jo T info).2,c∈ah
 |[],h,T,hT=>by cases hT
 |x::l,h,T,hT=>by
  simp only [xw,Bool.and_eq_true] at h
  rcases List.mem_cons.1 hT with rfl|hT
  ·exact IX h.1
  ·exact CR h.2 T hT
theorem lT (T T':Nat) (x:Nat×List Nat) (l:List (Nat×Nat×List Nat)):jo T ((T',x)::l)=if T'=T then x else jo T l:=by
 simp only [jo,cond_eq_ite,Nat.beq_eq]
theorem N8 {α:Type} (v:Option α) (l r:Map α) (p:Nat->Bool):Gl (.node v l r) p=((match v with|none=>true|some _=>p 0)&&(Gl l (fun k=>p (Nat.succ (Nat.mul 2 k)))&&Gl r (fun k=>p (Nat.succ (Nat.succ (Nat.mul 2 k)))))):=rfl
theorem yb {α:Type}:∀(m:Map α) (p:Nat->Bool),Gl m p=true->∀i x,m.get i=some x->p i=true
 |.leaf,p,h,i,x,hx=>by cases hx
 |.node v l r,p,h,i,x,hx=>by
  rw [N8,Bool.and_eq_true,Bool.and_eq_true] at h
  obtain⟨h1,h2,h3⟩:=h
  rw [Map.g_] at hx
  by_cases h0:i=0
  ·subst h0
   simp at hx
   subst hx
   exact h1
  ·rw [if_neg h0] at hx
   split at hx
   ·have:=yb l _ h2 _ x hx
    rwa [show Nat.succ (Nat.mul 2 (i / 2))=i by show 2*(i / 2)+1=i;omega] at this
   ·have:=yb r _ h3 _ x hx
    rwa [show Nat.succ (Nat.succ (Nat.mul 2 (i / 2 - 1)))=i by show 2*(i / 2 - 1)+2=i;omega] at this
theorem qw {V:cg} {T:Nat}:xk V T=true↔∃o,V.H.get T=some o:=by
 unfold xk
 split
 ·rename_i o ho;exact⟨fun _=>⟨o,ho⟩,fun _=>rfl⟩
 ·rename_i ho;exact⟨fun h=>(by cases h),fun ⟨o,h⟩=>(by rw [ho] at h;cases h)⟩
theorem IA {α:Type}:∀(m:Map α) (f:Nat->Prop->Prop) (P:Nat->Prop) (k:Prop),(∀T k,f T k->P T/\k)->N7 m f k->k/\∀T x,m.get T=some x->P T
 |.leaf,f,P,k,hf,h=>⟨h,fun T x hT=>(by cases hT)⟩
 |.node v l r,f,P,k,hf,h=>by
  have h':(match v with|none=>fun k=>k|some _=>f 0) (N7 l (fun i=>f (Nat.succ (Nat.mul 2 i))) (N7 r (fun i=>f (Nat.succ (Nat.succ (Nat.mul 2 i)))) k)):=h
  have h0:(∀x,v=some x->P 0)/\N7 l (fun i=>f (Nat.succ (Nat.mul 2 i))) (N7 r (fun i=>f (Nat.succ (Nat.succ (Nat.mul 2 i)))) k):=by
   cases v with
   |none=>exact⟨fun x hx=>(by cases hx),h'⟩
   |some x=>obtain⟨p,q⟩:=hf 0 _ h';exact⟨fun _ _=>p,q⟩
  obtain⟨hl,h1⟩:=IA l _ (fun i=>P (Nat.succ (Nat.mul 2 i))) _ (fun T k h=>hf _ _ h) h0.2
  obtain⟨hk,h2⟩:=IA r _ (fun i=>P (Nat.succ (Nat.succ (Nat.mul 2 i)))) _ (fun T k h=>hf _ _ h) hl
  refine⟨hk,fun T x hT=>?_⟩
  rw [Map.g_] at hT
  by_cases h00:T=0
  ·subst h00
   rw [if_pos rfl] at hT
   exact h0.1 x hT
  ·rw [if_neg h00] at hT
   split at hT
   ·have:=h1 _ x hT
    rwa [show Nat.succ (Nat.mul 2 (T / 2))=T by show 2*(T / 2)+1=T;omega] at this
   ·have:=h2 _ x hT
    rwa [show Nat.succ (Nat.succ (Nat.mul 2 (T / 2 - 1)))=T by show 2*(T / 2 - 1)+2=T;omega] at this
def Rc:Option VO->Option VO->Prop
 |some (.gn K _ _ _ v h _),some (.gn K' _ _ _ v' h' _)=>K=K'/\v=v'/\(h=none\/h=h')
 |some (.gn ..),some _=>False
 |some _,some (.gn ..)=>False
 |_,_=>True
theorem OO {x y:Option VO} {k:Prop} (h:OP x y k):Rc x y/\k:=by
 unfold OP at h
 split at h
 ·split at h
  ·split at h
   ·rename_i hb
    rw [Bool.and_eq_true,Nat.beq_eq,Nat.beq_eq] at hb
    obtain⟨rfl,rfl⟩:=hb
    split at h
    ·exact⟨⟨rfl,rfl,.inl rfl⟩,h⟩
    ·split at h
     ·obtain⟨rfl,h⟩:=h;exact⟨⟨rfl,rfl,.inr rfl⟩,h⟩
     ·cases h
   ·cases h
  ·cases h
  ·exact⟨trivial,h⟩
 ·rename_i o hne
  split at h
  ·cases h
  ·rename_i hne2
   refine⟨?_,h⟩
   cases o<;>first|(exact(hne _ _ _ _ _ _ _ rfl).elim)|skip
   all_goals (cases y with
    |none=>trivial
    |some o=>cases o<;>first|trivial|exact(hne2 _ _ _ _ _ _ _ rfl).elim)
 ·exact⟨trivial,h⟩
def SM (V V':cg):Prop:=∀T o,V'.H.get T=some o->Rc (V.H.get T) (V'.H.get T)
theorem Mb {l:List cj} {V V':cg} {k:Prop} (h:Na l V V' k):k/\(l≠[]->SM V V'):=by
 cases l with
 |nil=>exact⟨h,fun hn=>absurd rfl hn⟩
 |cons o l=>
  obtain⟨h1,h2⟩:=IA V'.H _ (fun T=>Rc (V.H.get T) (V'.H.get T)) k (fun T k h=>OO h) h
  exact⟨h1,fun _ T o ho=>h2 T o ho⟩
theorem CE {A A1:ee} {V V1:cg} {st:St} (hR:R A V st) (hx:Ext V A V1 A1) (hs:SM V V1) {T:Nat} {o o':VO} {a:AV} {id:Nat} (h':V.H.get T=some o') (h:V1.H.get T=some o) (ha:A T=some a) (hi:jJ A1 o a id):jJ A o' a id:=by
 have hso:=hs T o h
 rw [h',h] at hso
 rcases hi with hi|hi
 ·exact .inl hi
 cases o with
 |gn K s io iz v hl es=>
  cases o' with
  |gn K' s' io' iz' v' hl' es'=>
   obtain⟨rfl,rfl,hh⟩:=hso
   obtain⟨j,x,h1,h2,h3⟩:=hi
   obtain⟨rfl,hv,_⟩:=hR.lZ T _ a h' ha
   rcases hx.new _ x h2 with h4|h4|⟨K2,v2,j2,s2,io2,iz2,ver2,hole2,es2,e,h4,h5⟩
   ·refine .inr ⟨j,x,fun he=>?_,h4,h3⟩
    rcases hh with rfl|rfl
    ·cases he
    ·exact h1 he
   ·obtain⟨y,hy,_⟩:=hR.heap _ _ h'
    have:=hR.used (.s K') h4
    rw [hy] at this;cases this
   ·cases e
    rw [h'] at h4;cases h4
    omega
  |_=>cases hso
 |_=>cases hi
structure Ri (hp:Prop) (n0:Nat) (rs:List Rec) (A:ee) (V:cg) (st:St) (info:List (Nat×Nat×List Nat)) (ρ:Nat->Option Nat):Prop where
 known:∀T o a id,V.H.get T=some o->A T=some a->jJ A o a id->id < n0\/∃c∈(jo T info).2,∃r,rs[c]?=some r/\r.Jx<=id/\id < r.CY
 root:hp->∀T o a id,V.H.get T=some o->A T=some a->jJ A o a id->ρ id=some (jo T info).1
 dom:∀id q,ρ id=some q->id < st.nx
def Gm (ρ:Nat->Option Nat) (r:Rec) (f:List Nat×List Nat):Prop:=
 (∀x∈r.jx,∃id,(match x with|.El q=>q.id=id|.obj i=>i=id|.all=>False)/\∃q,ρ id=some q/\q∈f.1)/\∃l,r.gN=.ids l/\∀id∈l,∃q,ρ id=some q/\q∈f.2
structure Oe (hp:Prop) (n0:Nat) (ahead:List (List Nat)) (rs:List Rec) (feet:List (List Nat×List Nat)) (ρ:Nat->Option Nat) (P:List (Nat×Nat)):Prop where
 len:feet.length=rs.length
 RU:hp->∀(c:Nat) r f,rs[c]?=some r->feet[c]?=some f->Gm ρ r f\/∀p∈P,(p.1=c\/p.2=c)->ua rs p=true
 known:∀(c:Nat) r ah,rs[c]?=some r->ahead[c]?=some ah->∀rs',(∀(i:Nat) a,rs[i]?=some a->rs'[i]?=some a)->r.jx.all (Pe n0 rs' ah)=true/\Gv n0 rs' ah r.gN=true
theorem Fa {rs:List Rec} {r:Rec} {p:Nat×Nat} (h:ua rs p=true):ua (rs++[r]) p=true:=by
 unfold ua at h ⊢
 split at h
 ·rename_i a b ha hb
  have h1:(rs++[r])[p.1]?=some a:=by rw [List.getElem?_append_left (List.getElem?_eq_some_iff.1 ha).1];exact ha
  have h2:(rs++[r])[p.2]?=some b:=by rw [List.getElem?_append_left (List.getElem?_eq_some_iff.1 hb).1];exact hb
  rw [h1,h2];exact h
 ·cases h
theorem Gm.mono {ρ ρ':Nat->Option Nat} (h:∀id q,ρ id=some q->ρ' id=some q) {r:Rec} {f:List Nat×List Nat} (hr:Gm ρ r f):Gm ρ' r f:=
 ⟨fun x hx=>let ⟨id,h1,q,h2,h3⟩:=hr.1 x hx;⟨id,h1,q,h _ _ h2,h3⟩,let ⟨l,h1,h2⟩:=hr.2;⟨l,h1,fun id hid=>let ⟨q,h3,h4⟩:=h2 id hid;⟨q,h _ _ h3,h4⟩⟩⟩
def Yt (d:Option Nat) (info:List (Nat×Nat×List Nat)):Nat:=match d with
 |some T=>(jo T info).1
 |none=>0
theorem OC {n0 i:Nat} {rs:List Rec} {A A1:ee} {V V1:cg} {st st1:St} {info info':List (Nat×Nat×List Nat)} {ρ:Nat->Option Nat} {f:Kx} {d:Option Nat} {r:Rec} {feet:List (List Nat×List Nat)} {ahead:List (List Nat)} {ah:List Nat}
  (hR:R A V st) (hR1:R A1 V1 st1) (hF:Fr V A st.H st.nx V1 A1 st1.H st1.nx) (hx:Ext V A V1 A1) {hp:Prop} {P:List (Nat×Nat)} (hinv:Ri hp n0 rs A V st info ρ) (hh:Oe hp n0 ahead rs feet ρ P) (hi:rs.length=i)
  (hfo:DE A V f r) (h0:r.Jx=st.nx) (h1:r.CY=st1.nx) (hah:ahead[i]?=some ah) (hch:xw info ah (f.rd++f.wr)=true) (hs:GA d i V V1 f info=some info') :
  ∃ρ',(SM V V1->Ri hp n0 (rs++[r]) A1 V1 st1 info' ρ')/\Oe hp n0 ahead (rs++[r]) (feet++[(vo info f.rd,vo info f.wr)]) ρ' P:=by
 have hlast:(rs++[r])[i]?=some r:=by rw [List.getElem?_append_right (by omega),hi,Nat.sub_self];rfl
 have hold:∀(c:Nat) a,rs[c]?=some a->(rs++[r])[c]?=some a:=fun c a hc=>by
  rw [List.getElem?_append_left (List.getElem?_eq_some_iff.1 hc).1];exact hc
 have hkeys:∀T o,V1.H.get T=some o->(∃o',V.H.get T=some o')\/d=some T:=by
  unfold GA at hs
  split at hs
  ·cases hs
  ·rename_i hc
   intro T o hT
   have:=yb _ _ hc T o hT
   rw [Bool.or_eq_true] at this
   rcases this with h|h
   ·exact .inl (qw.1 h)
   ·right
    cases d with
    |none=>cases h
    |some d=>simp [isD] at h;rw [h]
 have hnew:∀T,d=some T->V.H.get T=none->∀o,V1.H.get T=some o->∃rt ch,info'=(T,rt,ch)::info/\i∈ch/\∀O o',V.H.get O=some o'->(xk V1 O&&MD (V.H.get O) (V1.H.get O))=false->(jo O info).1=rt/\∀c∈(jo O info).2,c∈ch:=by
  intro T hd hT o ho
  subst hd
  unfold GA at hs
  split at hs
  ·cases hs
  simp only at hs
  have hb:(xk V1 T&&!xk V T)=true:=by
   have e1:xk V1 T=true:=qw.2 ⟨o,ho⟩
   have e2:xk V T=false:=by
    cases hh:xk V T with
    |false=>rfl
    |true=>obtain⟨o',h'⟩:=qw.1 hh;rw [hT] at h';cases h'
   rw [e1,e2];rfl
  rw [hb] at hs
  simp only at hs
  split at hs
  ·cases hs
  rename_i hc
  have gone:∀O o',V.H.get O=some o'->(xk V1 O&&MD (V.H.get O) (V1.H.get O))=false->O∈f.src:=fun O o' h2 h3=>by
   have:=yb _ _ hc O o' h2
   rw [Bool.or_eq_true] at this
   rcases this with h|h
   ·exact uh.1 h
   ·rw [h3] at h;cases h
  split at hs
  ·rename_i hsrc
   cases hs
   exact⟨_,_,rfl,by simp,fun O o' h2 h3=>by have:=gone O o' h2 h3;rw [hsrc] at this;cases this⟩
  ·rename_i O1 hsrc
   cases hs
   refine⟨_,_,rfl,List.mem_cons_self,fun O o' h2 h3=>?_⟩
   have:=gone O o' h2 h3
   rw [hsrc] at this
   simp at this
   subst this
   exact⟨rfl,fun c hc=>List.mem_cons_of_mem _ hc⟩
  ·cases hs
 have hsame:∀T o,V.H.get T=some o->jo T info'=jo T info:=by
  intro T o hT
  unfold GA at hs
  split at hs
  ·cases hs
  cases d with
  |none=>cases hs;rfl
  |some d=>
  simp only at hs
  split at hs
  ·cases hs;rfl
  rename_i hb
  simp only [Bool.and_eq_true,Bool.not_eq_true'] at hb
  have hne:d≠T:=by
   rintro rfl
   rw [qw.2 ⟨o,hT⟩] at hb
   exact absurd hb.2 (by decide)
  split at hs
  ·cases hs
  split at hs
  ·cases hs;rw [lT,if_neg hne]
  ·cases hs;rw [lT,if_neg hne]
  ·cases hs
 have hid:SM V V1->∀T,d=some T->V.H.get T=none->∀o a id,V1.H.get T=some o->A1 T=some a->jJ A1 o a id->(st.nx<=id/\id < st1.nx)\/∃(O:Nat) (o':VO) (a':AV),V.H.get O=some o'/\(xk V1 O&&MD (V.H.get O) (V1.H.get O))=false/\A O=some a'/\jJ A o' a' id:=by
  intro hsm T hd hT o a id ho ha hida
  have hown1:gR V1 A1 id:=⟨T,o,a,ho,ha,hida⟩
  rcases hF.own id hown1 with ⟨O,o',a',g1,g2,g3⟩|hle
  ·right
   refine⟨O,o',a',g1,?_,g2,g3⟩
   cases hO:V1.H.get O with
   |none=>
    have:xk V1 O=false:=by
     cases hh:xk V1 O with
     |false=>rfl
     |true=>obtain⟨o2,h2⟩:=qw.1 hh;rw [hO] at h2;cases h2
    rw [this];rfl
   |some o2=>
    rw [qw.2 ⟨o2,hO⟩,Bool.true_and,g1]
    have hne:O≠T:=by rintro rfl;rw [hT] at g1;cases g1
    have key:¬jJ A1 o2 a' id:=fun hi=>hne (hR1.inj O T o2 o a' a id hO ho (hx.mono _ _ g2) ha hi hida)
    have hso:=hsm O o2 hO
    rw [g1,hO] at hso
    have hfw:=Sj hx.mono g3
    cases o' with
    |gn K s io iz v h es=>
     cases o2 with
     |gn K' s' io' iz' v' h' es'=>
      obtain⟨rfl,rfl,hh⟩:=hso
      rcases hh with rfl|rfl
      ·cases h' with
       |some j=>rfl
       |none=>
        exfalso
        apply key
        rcases hfw with hfw|⟨j,x,p1,p2,p3⟩
        ·exact .inl hfw
        ·exact .inr ⟨j,x,by simp,p2,p3⟩
      ·exfalso
       apply key
       rcases hfw with hfw|⟨j,x,p1,p2,p3⟩
       ·exact .inl hfw
       ·exact .inr ⟨j,x,p1,p2,p3⟩
     |_=>cases hso
    |_=>
     exfalso
     rcases hfw with hfw|hfw
     ·exact key (.inl hfw)
     ·cases hfw
  ·exact .inl ⟨hle,hR1.oR hown1⟩
 let rtD:Nat:=Yt d info'
 let ρ':Nat->Option Nat:=fun id=>if id < st.nx then ρ id else if id < st1.nx then some rtD else none
 have hρ:∀id q,ρ id=some q->ρ' id=some q:=fun id q h=>by
  show (if id < st.nx then ρ id else _)=_
  rw [if_pos (hinv.dom id q h)];exact h
 have halive:∀T o,V.H.get T=some o->∃a,A T=some a:=fun T o h=>let ⟨a,h1,_⟩:=hR.heap T o h;⟨a,h1⟩
 refine⟨ρ',fun hsm=>⟨fun T o a id ho ha hida=>?_,fun hP T o a id ho ha hida=>?_,fun id q h=>?_⟩,⟨by simp [hh.len],fun hP c r' f' hr hf=>?_,fun c r' ah' hr ha' rs' hrs'=>?_⟩⟩
 ·cases hT:V.H.get T with
  |some o'=>
   obtain⟨a',ha'⟩:=halive T o' hT
   have:=hx.mono _ _ ha'
   rw [ha] at this;cases this
   rw [hsame T o' hT]
   have hida':=CE hR hx hsm hT ho ha' hida
   exact(hinv.known T o' a id hT ha' hida').imp (fun h=>h) (fun ⟨c,h2,r2,h3,h4⟩=>⟨c,h2,r2,hold c r2 h3,h4⟩)
  |none=>
   have hd:d=some T:=(hkeys T o ho).elim (fun ⟨o',h⟩=>by rw [hT] at h;cases h) (fun h=>h)
   obtain⟨rt,ch,hinfo,hich,hO⟩:=hnew T hd hT o ho
   rw [hinfo,lT,if_pos rfl]
   rcases hid hsm T hd hT o a id ho ha hida with ⟨h2,h3⟩|⟨O,o',a',g1,g2,g3,g4⟩
   ·exact .inr ⟨i,hich,r,hlast,by rw [h0];exact h2,by rw [h1];exact h3⟩
   ·obtain⟨_,hc⟩:=hO O o' g1 g2
    exact(hinv.known O o' a' id g1 g3 g4).imp (fun h=>h) (fun ⟨c,h2,r2,h3,h4⟩=>⟨c,hc c h2,r2,hold c r2 h3,h4⟩)
 ·cases hT:V.H.get T with
  |some o'=>
   obtain⟨a',ha'⟩:=halive T o' hT
   have:=hx.mono _ _ ha'
   rw [ha] at this;cases this
   rw [hsame T o' hT]
   have hida':=CE hR hx hsm hT ho ha' hida
   exact hρ _ _ (hinv.root hP T o' a id hT ha' hida')
  |none=>
   have hd:d=some T:=(hkeys T o ho).elim (fun ⟨o',h⟩=>by rw [hT] at h;cases h) (fun h=>h)
   obtain⟨rt,ch,hinfo,hich,hO⟩:=hnew T hd hT o ho
   rcases hid hsm T hd hT o a id ho ha hida with ⟨h2,h3⟩|⟨O,o',a',g1,g2,g3,g4⟩
   ·show (if id < st.nx then ρ id else if id < st1.nx then some rtD else none)=_
    rw [if_neg (by omega),if_pos h3]
    show some (Yt d info')=_
    rw [hd]
    rfl
   ·obtain⟨hroot,_⟩:=hO O o' g1 g2
    rw [hinfo,lT,if_pos rfl,←hroot]
    exact hρ _ _ (hinv.root hP O o' a' id g1 g3 g4)
 ·have h':(if id < st.nx then ρ id else if id < st1.nx then some rtD else none)=some q:=h
  split at h'
  ·have:=hF.le;omega
  ·split at h'
   ·assumption
   ·cases h'
 ·by_cases hc:c < rs.length
  ·rw [List.getElem?_append_left hc] at hr
   rw [List.getElem?_append_left (by rw [hh.len];exact hc)] at hf
   exact(hh.RU hP c r' f' hr hf).imp (fun h=>h.mono hρ) (fun h p hp hc=>Fa (h p hp hc))
  ·have hce:c=rs.length:=by have:=(List.getElem?_eq_some_iff.1 hr).1;simp at this;omega
   subst hce
   rw [List.getElem?_append_right (Nat.le_refl _),Nat.sub_self] at hr
   rw [List.getElem?_append_right (by rw [hh.len];exact Nat.le_refl _),hh.len,Nat.sub_self] at hf
   cases hr;cases hf
   refine .inl ⟨fun x hx'=>?_,?_⟩
   ·obtain⟨id,g1,T,g2,o,a,g3,g4,g5⟩:=hfo.rd x hx'
    exact⟨id,g1,_,hρ _ _ (hinv.root hP T o a id g3 g4 g5),zv g2⟩
   ·obtain⟨l,g1,g2⟩:=hfo.wr
    refine⟨l,g1,fun id hid'=>?_⟩
    obtain⟨T,g3,o,a,g4,g5,g6⟩:=g2 id hid'
    exact⟨_,hρ _ _ (hinv.root hP T o a id g4 g5 g6),zv g3⟩
 ·by_cases hc:c < rs.length
  ·rw [List.getElem?_append_left hc] at hr
   exact hh.known c r' ah' hr ha' rs' (fun j a hj=>hrs' j a (hold j a hj))
  ·have hce:c=rs.length:=by have:=(List.getElem?_eq_some_iff.1 hr).1;simp at this;omega
   subst hce
   rw [List.getElem?_append_right (Nat.le_refl _),Nat.sub_self] at hr
   cases hr
   rw [hi,hah] at ha';cases ha'
   have okId:∀T o a id,T∈f.rd++f.wr->V.H.get T=some o->A T=some a->jJ A o a id->JO n0 rs' ah id=true:=by
    intro T o a id hT g1 g2 g3
    unfold JO
    rw [Bool.or_eq_true]
    rcases hinv.known T o a id g1 g2 g3 with h|⟨c,h2,r2,h3,h4,h5⟩
    ·exact .inl (by simpa using h)
    ·right
     rw [List.any_eq_true]
     refine⟨c,CR hch T hT c h2,?_⟩
     rw [hrs' c r2 (hold c r2 h3)]
     simp only [Bool.and_eq_true]
     exact⟨by simpa using h4,by simpa using h5⟩
   refine⟨List.all_eq_true.2 (fun x hx'=>?_),?_⟩
   ·obtain⟨id,g1,T,g2,o,a,g3,g4,g5⟩:=hfo.rd x hx'
    have:=okId T o a id (List.mem_append_left _ g2) g3 g4 g5
    cases x with
    |El q=>cases g1;exact this
    |obj j=>cases g1;exact this
    |all=>cases g1
   ·obtain⟨l,g1,g2⟩:=hfo.wr
    rw [g1]
    refine List.all_eq_true.2 (fun id hid'=>?_)
    obtain⟨T,g3,o,a,g4,g5,g6⟩:=g2 id hid'
    exact okId T o a id (List.mem_append_right _ g3) g4 g5 g6
theorem DT {n0:Nat} {rs:List Rec}:∀(ahead:List (List Nat)) (l:List Rec),ahead.length=l.length->(∀(c:Nat) r ah,l[c]?=some r->ahead[c]?=some ah->r.jx.all (Pe n0 rs ah)=true/\Gv n0 rs ah r.gN=true)->um n0 rs ahead l=true
 |[],[],h,hk=>rfl
 |[],_::_,h,hk=>by cases h
 |_::_,[],h,hk=>by cases h
 |a::as,r::l,h,hk=>by
  obtain⟨h1,h2⟩:=hk 0 r a rfl rfl
  simp only [um,h1,h2,Bool.true_and]
  exact DT as l (Nat.succ.inj h) (fun c r' ah hr ha=>hk (c+1) r' ah (by simpa using hr) (by simpa using ha))
theorem IZ {ρ:Nat->Option Nat} {a b:Rec} {fa fb:List Nat×List Nat} (ha:Gm ρ a fa) (hb:Gm ρ b fb) (hd:∀q∈fa.2,q ∉ fb.1):still a b=true:=by
 unfold still
 rw [cx]
 intro x hx
 obtain⟨id,h1,q,h2,h3⟩:=hb.1 x hx
 obtain⟨l,h4,h5⟩:=ha.2
 have hno:id ∉ l:=fun hm=>by
  obtain⟨q',h6,h7⟩:=h5 id hm
  rw [h2] at h6;cases h6
  exact hd q h7 h3
 have hc:l.contains id=false:=by
  cases hh:l.contains id with
  |false=>rfl
  |true=>exact absurd (by simpa using hh) hno
 cases x with
 |El r=>cases h1;simp only [rj,h4,hc,cond_false]
 |obj j=>cases h1;simp only [rj,h4,hc,Bool.not_false]
 |all=>cases h1
theorem QT {ρ:Nat->Option Nat} {a b:Rec} {fa fb:List Nat×List Nat} (ha:Gm ρ a fa) (hb:Gm ρ b fb) (hd:∀q∈fa.2,q ∉ fb.2):apart a b=true:=by
 obtain⟨l,h1,h2⟩:=ha.2
 obtain⟨l',h3,h4⟩:=hb.2
 unfold apart
 rw [h1,h3]
 simp only
 rw [List.all_eq_true]
 intro id hid
 obtain⟨q,h5,h6⟩:=h2 id hid
 cases hh:l'.contains id with
 |false=>rfl
 |true=>
  obtain⟨q',h7,h8⟩:=h4 id (by simpa using hh)
  rw [h5] at h7;cases h7
  exact absurd h8 (hd q h6)
theorem Jj {n0:Nat} {ahead:List (List Nat)} {rs:List Rec} {feet:List (List Nat×List Nat)} {ρ:Nat->Option Nat} {hp:Prop} {P:List (Nat×Nat)} (hh:Oe hp n0 ahead rs feet ρ P):∀{pairs:List (Nat×Nat)},(∀p∈pairs,p∈P)->(pairs≠[]->hp)->HY feet pairs=true->gJ (ua rs) pairs=true
 |[],_,_,h=>rfl
 |(i,j)::l,hsub,hpp,h=>by
  have hP:=hpp (by simp)
  simp only [HY,Bool.and_eq_true] at h
  rw [cx]
  intro p hp
  rcases List.mem_cons.1 hp with rfl|hp
  ·have h1:=h.1
   split at h1
   rotate_left
   ·cases h1
   rename_i fa hfa
   split at h1
   rotate_left
   ·cases h1
   rename_i fb hfb
   rw [Bool.and_eq_true,Bool.and_eq_true] at h1
   obtain⟨d1,d2,d3⟩:=h1
   have li:=(List.getElem?_eq_some_iff.1 hfa).1
   have lj:=(List.getElem?_eq_some_iff.1 hfb).1
   rw [hh.len] at li lj
   have ra:=List.getElem?_eq_getElem li
   have rb:=List.getElem?_eq_getElem lj
   rcases hh.RU hP i _ fa ra hfa with ha|ha
   rotate_left
   ·exact ha _ (hsub _ List.mem_cons_self) (.inl rfl)
   rcases hh.RU hP j _ fb rb hfb with hb|hb
   rotate_left
   ·exact hb _ (hsub _ List.mem_cons_self) (.inr rfl)
   unfold ua
   simp only [ra,rb,Bool.and_eq_true]
   exact⟨⟨IZ ha hb (Be d1),IZ hb ha (Be d2)⟩,QT ha hb (Be d3)⟩
  ·exact cx.1 (Jj hh (fun q hq=>hsub q (List.mem_cons_of_mem _ hq)) (fun _=>hP) h.2) p hp
def oh (info:List (Nat×Nat×List Nat)):List Nat:=info.map (·.1)
theorem ig:∀{info:List (Nat×Nat×List Nat)} {V:cg} {O:Nat} {o:VO},(mj info V).H.get O=some o->O ∉ oh info/\V.H.get O=some o
 |[],V,O,o,h=>⟨by simp [oh],h⟩
 |(T,x)::l,V,O,o,h=>by
  obtain⟨h1,h2⟩:=ig (info:=l) (V:=fq V T) h
  obtain⟨h3,h4⟩:=kg h2
  refine⟨fun hm=>?_,h4⟩
  simp only [oh,List.map_cons,List.mem_cons] at hm
  exact hm.elim h3 h1
theorem FR:∀(info:List (Nat×Nat×List Nat)) (V:cg),(mj info V).env=V.env/\(mj info V).us=V.us
 |[],V=>⟨rfl,rfl⟩
 |(T,x)::l,V=>by obtain⟨h1,h2⟩:=FR l (fq V T);exact⟨h1,h2⟩
theorem BT {T:Nat}:∀{info:List (Nat×Nat×List Nat)},T ∉ oh info->jo T info=(T,[])
 |[],_=>rfl
 |(T',x)::l,h=>by
  simp only [oh,List.map_cons,List.mem_cons,not_or] at h
  rw [lT,if_neg (Ne.symm h.1)];exact BT h.2
theorem Fz {i T:Nat} {info:List (Nat×Nat×List Nat)}:∀{ns:List Nat},T∈ns->jo T (DW i ns info)=(T,[i])
 |[],h=>by cases h
 |T'::r,h=>by
  simp only [DW,lT]
  by_cases e:T'=T
  ·subst e;rw [if_pos rfl]
  ·rw [if_neg e]
   rcases List.mem_cons.1 h with rfl|h
   ·exact absurd rfl e
   ·exact Fz h
theorem A6 {i T:Nat} {info:List (Nat×Nat×List Nat)}:∀{ns:List Nat},T ∉ ns->jo T (DW i ns info)=jo T info
 |[],h=>rfl
 |T'::r,h=>by
  simp only [List.mem_cons,not_or] at h
  simp only [DW,lT,if_neg (Ne.symm h.1)]
  exact A6 h.2
theorem AY {V:cg}:∀{l:List Nat},Jz V l=true->∀T∈l,V.H.get T=none
 |[],h,T,hT=>by cases hT
 |x::l,h,T,hT=>by
  simp only [Jz,Bool.and_eq_true] at h
  rcases List.mem_cons.1 hT with rfl|hT
  ·have h1:=h.1
   split at h1
   ·cases h1
   ·assumption
  ·exact AY h.2 T hT
theorem IK {V:cg} {o:cj} {ns:List Nat} (h:HG sh V o=some ns):(∃d f args,o=⟨some d,.call f args .share,none,false⟩)\/∃d f args,o=⟨d,.call f args .borrow,none,false⟩:=by
 obtain⟨dd,op,gd,fz⟩:=o
 unfold HG at h
 simp only at h
 split at h
 ·cases h
 split at h
 ·cases h
 split at h
 ·split at h
  ·exact .inl ⟨_,_,_,rfl⟩
  ·cases h
 ·exact .inr ⟨_,_,_,rfl⟩
 ·cases h
theorem xx {A A1:ee} {V V1:cg} {st:St} {st1:St} {info0:List (Nat×Nat×List Nat)} (hR:R A V st) (hx:∀O x,A O=some x->A1 O=some x)
  (hH:∀T o a id,T∈oh info0->V.H.get T=some o->A T=some a->jJ A o a id->st1.H.get id=st.H.get id)
  (hown:∀id,gR V1 A1 id->gR (mj info0 V) A id\/st.nx<=id) :
  ∀(info:List (Nat×Nat×List Nat)) (W:cg),(∀T∈oh info,T∈oh info0)->R A1 W st1->(∀O o,W.H.get O=some o->V1.H.get O=some o\/(O∈oh info0/\V.H.get O=some o/\o.pl=true))->
   R A1 (xy V info W) st1/\(xy V info W).env=W.env/\(xy V info W).us=W.us/\(∀O o,(xy V info W).H.get O=some o->V1.H.get O=some o\/(O∈oh info0/\V.H.get O=some o/\o.pl=true))/\∀O o,W.H.get O=some o->(xy V info W).H.get O=some o
 |[],W,_,hW,hk=>⟨hW,rfl,rfl,hk,fun _ _ h=>h⟩
 |(T,x)::l,W,hs,hW,hk=>by
  have hsl:∀T∈oh l,T∈oh info0:=fun T' h=>hs T' (by simp only [oh,List.map_cons,List.mem_cons];exact .inr h)
  have hT:T∈oh info0:=hs T (by simp [oh])
  simp only [xy]
  split
  ·exact xx hR hx hH hown l W hsl hW hk
  rename_i hWT
  split
  rotate_left
  ·exact xx hR hx hH hown l W hsl hW hk
  rename_i o ho
  split
  rotate_left
  ·exact xx hR hx hH hown l W hsl hW hk
  rename_i hpl
  obtain⟨a,hA,hor⟩:=hR.heap T o ho
  have hown0:∀id,gM a=some id->gR V A id:=fun id hi=>⟨T,o,a,ho,hA,.inl hi⟩
  obtain⟨hR',_⟩:=Da (hpl:=hpl) hW (O:=T) (o:=o) (hx _ _ hA) (hor.mono hx (fun id hi=>hH T o a id hT ho hA hi)) (fun id hi ⟨O,o',a',h1,h2,h3⟩=>by
   rcases hk O o' h1 with h4|⟨h4,h5,hpl'⟩
   ·rcases hown id ⟨O,o',a',h4,h2,h3⟩ with ⟨O2,o2,a2,h6,h7,h8⟩|hle
    ·obtain⟨hn,h6'⟩:=ig h6
     have:=hR.inj O2 T o2 o a2 a id h6' ho h7 hA h8 (.inl hi)
     subst this;exact hn hT
    ·have:=hR.oR (hown0 id hi);omega
   ·obtain⟨a2,h7,_⟩:=hR.heap O o' h5
    have:=hx _ _ h7
    rw [h2] at this;cases this
    have:=hR.inj O T o' o a' a id h5 ho h7 hA ((jh hpl').2 ((jh hpl').1 h3)) (.inl hi)
    subst this;rw [hWT] at h1;cases h1)
  obtain⟨g1,g2,g3,g4,g5⟩:=xx hR hx hH hown l (ey W T o) hsl hR' (fun O o' h=>by
   simp only [ey,Map.bt] at h
   split at h
   ·rename_i e;subst e;cases h;exact .inr ⟨hT,ho,hpl⟩
   ·exact hk O o' h)
  refine⟨g1,g2,g3,g4,fun O o' h=>g5 O o' ?_⟩
  simp only [ey,Map.bt]
  split
  ·rename_i e;subst e;rw [hWT] at h;cases h
  ·exact h
def Vm (prog:Map bk) (nt n0:Nat) (o:cj) (A:ee) (V1:cg) (st:St) (k:cg->Prop):Prop:=
 ∃H' nx' e' H2 jx gN V2 A2,gp (fe prog) nt n0 o st=some (⟨e',H2,nx'⟩,⟨jx,gN,st.H,H2,st.nx,nx'⟩)/\(∀id,H2.get id=if id < n0\/(st.nx<=id/\id < nx') then H'.get id else st.H.get id)/\
  R A2 V2 ⟨e',H',nx'⟩/\Fr V1 A (st.H.upto fun i=>Nat.blt i n0) st.nx V2 A2 H' nx'/\Ext V1 A V2 A2/\k V2/\(∀rs ah,jx.all (Pe n0 rs ah)=true/\Gv n0 rs ah gN=true)/\(jx=[]\/jx=[.all])/\(gN=.ids []\/gN=.all)
theorem KH (hsh:vi prog sh) {n0 d f:Nat} {args:List ct} {A:ee} {V1:cg} {st:St} {k:cg->Prop} (hR0:R A V1 ⟨st.env,st.H.upto fun i=>Nat.blt i n0,st.nx⟩)
  (hk:Et sh nt V1 (some d) f args k):Vm prog nt n0 ⟨some d,.call f args .share,none,false⟩ A V1 st k:=by
 obtain⟨v,H',nx',hdo,e',hput,V2,A1,hR1,hF,hx,hk1⟩:=Mt (nt:=nt) hsh hR0 hk
 have hkd:kind (.call f args .share)=.call f args .share:=rfl
 have hcf:fe prog f (args.map (ev st.env)) (st.H.upto fun i=>Nat.blt i n0) st.nx=some (v,H',nx'):=by
  simpa only [q9,hkd,h_] using hdo
 let P:Nat->Bool:=fun i=>Nat.blt i n0||(Nat.ble st.nx i&&Nat.blt i nx')
 have hP:∀i,P i=true↔(i < n0\/(st.nx<=i/\i < nx')):=fun i=>by
  show (Nat.blt i n0||(Nat.ble st.nx i&&Nat.blt i nx'))=true↔_
  simp
 let H2:cw:=(H'.upto P).union (st.H.upto fun i=>!P i)
 refine⟨H',nx',e',H2,[.all],.all,V2,A1,?_,fun id=>?_,hR1,hF,hx,hk1,fun rs ah=>⟨rfl,rfl⟩,.inr rfl,.inr rfl⟩
 ·have h1:oD (fe prog) n0 ⟨some d,.call f args .share,none,false⟩ (ev st.env) st.H st.nx=some (v,H2,nx',[.all],.all):=by
   simp only [oD,cond_false,Ap,hkd,i_,hcf];rfl
  have hw:wanted st.env none=true:=rfl
  simp only [gp,hw,cond_true,h1,hput]
 ·show ((H'.upto P).union (st.H.upto fun i=>!P i)).get id=_
  rw [Map.Hi,Map.oX,Map.oX]
  by_cases h:P id=true
  ·rw [if_pos ((hP id).1 h)]
   simp only [h,if_true,Bool.not_true]
   cases H'.get id<;>rfl
  ·rw [if_neg (fun hc=>h ((hP id).2 hc))]
   simp only [h]
   rfl
theorem IJ {n0 f:Nat} {d:Option Nat} {args:List ct} {A:ee} {V1:cg} {st:St} {k:cg->Prop} (hR0:R A V1 ⟨st.env,st.H.upto fun i=>Nat.blt i n0,st.nx⟩)
  (hk:FH prog nt V1 d none f args k):Vm prog nt n0 ⟨d,.call f args .borrow,none,false⟩ A V1 st k:=by
 obtain⟨v,hdo,e',hput,V2,A1,hR1,hF,hx,hk1⟩:=H6 (g:=none) hR0 trivial hk
 have hkd:kind (.call f args .borrow)=.call f args .borrow:=rfl
 have hw:wanted st.env none=true:=rfl
 have hdo':h_ (fe prog) f (args.map (ev st.env)) .borrow (st.H.upto fun i=>Nat.blt i n0) st.nx=some (v,(st.H.upto fun i=>Nat.blt i n0),st.nx):=hdo
 have hget:∀id,st.H.get id=if id < n0\/(st.nx<=id/\id < st.nx) then (st.H.upto fun i=>Nat.blt i n0).get id else st.H.get id:=by
  intro id
  split
  ·rw [Map.oX,if_pos]
   rename_i h
   have:id < n0:=by rcases h with h|h<;>omega
   simpa using this
  ·rfl
 by_cases hp:gJ AV.plain (args.map (ev st.env))=true
 ·have h0:h_ (fe prog) f (args.map (ev st.env)) .borrow st.H st.nx=some (v,st.H,st.nx):=by
   simp only [h_,hp,cond_true] at hdo' ⊢
   split at hdo'
   ·rename_i r hr
    simp only [Option.some.injEq,Prod.mk.injEq] at hdo'
    simp only [hr,hdo'.1]
   ·cases hdo'
  refine⟨_,st.nx,e',st.H,[],.ids [],V2,A1,?_,hget,hR1,hF,hx,hk1,fun rs ah=>⟨rfl,rfl⟩,.inl rfl,.inl rfl⟩
  have h1:oD (fe prog) n0 ⟨d,.call f args .borrow,none,false⟩ (ev st.env) st.H st.nx=some (v,st.H,st.nx,[],.ids []):=by
   simp only [oD,cond_false,Ap,hkd,i_,hp,cond_true,h0]
  simp only [gp,hw,cond_true,h1,hput]
 ·have hpb:gJ AV.plain (args.map (ev st.env))=false:=by simpa using hp
  refine⟨_,st.nx,e',st.H,[.all],.ids [],V2,A1,?_,hget,hR1,hF,hx,hk1,fun rs ah=>⟨rfl,rfl⟩,.inr rfl,.inl rfl⟩
  have h1:oD (fe prog) n0 ⟨d,.call f args .borrow,none,false⟩ (ev st.env) st.H st.nx=some (v,st.H,st.nx,[.all],.ids []):=by
   simp only [oD,cond_false,Ap,hkd,i_,hpb,hdo']
  simp only [gp,hw,cond_true,h1,hput]
mutual
theorem NU:∀a:AV,si a a=true
 |.bool _=>by simp [si]
 |.int k n=>by simp [si,Sx,BV]
 |.str _=>by simp [si]
 |.Bi=>rfl
 |.aq=>rfl
 |.ptr _ _ _=>by simp [si]
 |.oV cs _=>by simp [si,qk cs]
 |.jq cs _ _=>by simp [si,qk cs]
 |.ref _ _ _ _ _ _ _=>by simp [si]
 |.agg cs=>by simp [si,qk cs]
 |.qd cs=>by simp [si,qk cs]
 |.func _=>by simp [si]
 |.zg _=>by simp [si]
theorem qk:∀l:List AV,Al l l=true
 |[]=>rfl
 |x::xs=>by simp [Al,NU x,qk xs]
end
theorem TP {a b:Rec} {q:Kv} {xs:List AV} (ha1:a.gN=.ids []) (ha2:a.jx=[.El q]) (hb1:b.jx=[]\/b.jx=[.all]) (hb2:b.gN=.ids []\/b.gN=.all)
  (f0:jf b.H0 (some q)=some xs) (f1:jf b.H1 (some q)=some xs) (fa:jf a.H0 (some q)=some xs):(still a b&&still b a&&apart a b)=true:=by
 rw [Bool.and_eq_true,Bool.and_eq_true]
 refine⟨⟨?_,?_⟩,?_⟩
 ·unfold still
  rcases hb1 with h|h<;>rw [h]
  ·rfl
  ·rw [cx];intro y hy;simp at hy;subst hy;simp only [rj,ha1]
 ·unfold still
  rw [ha2,cx];intro y hy;simp at hy;subst hy
  rcases hb2 with h|h<;>simp only [rj,h]
  ·rfl
  ·simp only [GD,f0,f1,fa,qk,Bool.and_self]
 ·unfold apart
  rw [ha1]
  rcases hb2 with h|h<;>rw [h]
  rfl
def SP (v:TV) (ovs:List (Nat×VV)) (off:Nat) (key:p9):Prop:=match key with
 |.sl N=>fc off ovs=some (.sl N)
 |.tr c=>fc off ovs=none/\∃t,TV.uniq t=true/\c=some t/\bh v off=some t
def VD (V:cg) (O off:Nat) (keys:List p9):Prop:=keys≠[]/\∃v ovs,V.H.get O=some (.ob v ovs)/\∀(j:Nat) key,keys[j]?=some key->SP v ovs (off+j) key
def KeyX (A:ee) (key:p9) (x:AV):Prop:=match key with
 |.sl N=>A (.s N)=some x
 |.tr c=>∀t,c=some t->Can t x
def HE (A:ee) (keys:List p9) (xs:List AV):Prop:=keys≠[]/\xs.length=keys.length/\∀(j:Nat) key x,keys[j]?=some key->xs[j]?=some x->KeyX A key x
theorem HE.mono {A A':ee} {keys:List p9} {xs:List AV} (h:HE A keys xs) (hx:∀O x,A O=some x->A' O=some x):HE A' keys xs:=
 ⟨h.1,h.2.1,fun j key x h1 h2=>by
  have:=h.2.2 j key x h1 h2
  cases key with
  |sl N=>exact hx _ _ this
  |tr c=>exact this⟩
theorem QF {t:TV} {x y:AV} (hu:t.uniq=true) (h1:Can t x) (h2:Can t y):x=y:=by
 cases t<;>first|(cases hu;done)|(cases h1;cases h2;rfl)
theorem MC {v:TV} {ovs:List (Nat×VV)} {k:Prop}:∀{keys:List p9} {off:Nat},NF v ovs off keys k->(∀(j:Nat) key,keys[j]?=some key->SP v ovs (off+j) key)/\k
 |[],off,h=>⟨fun j key hj=>by simp at hj,h⟩
 |key::l,off,h=>by
  have go:∀{off:Nat},SP v ovs off key->NF v ovs (off+1) l k->(∀(j:Nat) key',(key::l)[j]?=some key'->SP v ovs (off+j) key')/\k:=fun {off} h1 h2=>by
   obtain⟨g1,g2⟩:=MC h2
   refine⟨fun j key' hj=>?_,g2⟩
   cases j with
   |zero=>simp at hj;subst hj;exact h1
   |succ j=>have:=g1 j key' (by simpa using hj);rw [show off+(j+1)=off+1+j by omega];exact this
  simp only [NF] at h
  split at h
  ·rename_i N
   split at h
   ·rename_i N' ho
    split at h
    ·rename_i e
     rw [Nat.beq_eq] at e;subst e
     exact go ho h
    ·cases h
   ·cases h
  ·split at h
   ·rename_i ho
    exact go ⟨ho,h.1⟩ h.2
   ·cases h
theorem Sg {V:cg} {O off:Nat} {key:List p9} {k:Prop} (hne:key≠[]) (h:Ue V O off key k):VD V O off key/\k:=by
 unfold Ue at h
 split at h
 ·rename_i v ovs hv
  obtain⟨h1,h2⟩:=MC h
  exact⟨⟨hne,v,ovs,hv,h1⟩,h2⟩
 ·cases h
theorem Dr {i:Nat}:∀{cl:List (Nat×Nat×Nat×List p9)} {p:Nat×Nat×List p9},JX i cl=some p->(i,p)∈cl
 |[],p,h=>by cases h
 |(c,q)::l,p,h=>by
  simp only [JX] at h
  split at h
  ·rename_i e;rw [Nat.beq_eq] at e;subst e;cases h;exact List.mem_cons_self
  ·exact List.mem_cons_of_mem _ (Dr h)
theorem CA {V:cg} {cl:List (Nat×Nat×Nat×List p9)} {i:Nat} {k:Prop} (hcl:∀c O off key,(c,O,off,key)∈cl->key≠[]):∀{P:List (Nat×Nat)},CB V cl i P k->k/\∀p∈P,p.1≠i/\(p.2=i->∃O off key,JX p.1 cl=some (O,off,key)/\VD V O off key)
 |[],h=>⟨h,fun p hp=>by cases hp⟩
 |(a,b)::l,h=>by
  simp only [CB] at h
  split at h
  ·cases h
  rename_i hai
  have hne:a≠i:=fun e=>by subst e;simp at hai
  split at h
  ·rename_i hbi
   have hnb:b≠i:=fun e=>by subst e;simp at hbi
   obtain⟨g1,g2⟩:=CA hcl h
   refine⟨g1,fun p hp=>?_⟩
   rcases List.mem_cons.1 hp with rfl|hp
   ·exact⟨hne,fun e=>absurd e hnb⟩
   ·exact g2 p hp
  ·split at h
   ·cases h
   ·rename_i O off key hf
    obtain⟨h1,h⟩:=Sg (hcl _ _ _ _ (Dr hf)) h
    obtain⟨g1,g2⟩:=CA hcl h
    refine⟨g1,fun p hp=>?_⟩
    rcases List.mem_cons.1 hp with rfl|hp
    ·exact⟨hne,fun _=>⟨O,off,key,hf,h1⟩⟩
    ·exact g2 p hp
theorem Kj {A:ee} {V:cg} {st:St} (hR:R A V st) {O off id n:Nat} {v:TV} {ovs:List (Nat×VV)} {ys:List AV} (hv:V.H.get O=some (.ob v ovs)) (hA:A O=some (.ptr id 0 0))
  (hf:jf st.H (some ⟨id,0,off,n⟩)=some ys):ys.length=n/\∀(j:Nat) y,ys[j]?=some y->(∀N,fc (off+j) ovs=some (.sl N)->A (.s N)=some y)/\(fc (off+j) ovs=none->∀t,bh v (off+j)=some t->Can t y):=by
 obtain⟨a,ha,id',cs,ts,rfl,hH,hc⟩:=hR.heap O _ hv
 rw [hA] at ha;cases ha
 simp only [jf,hH,Nat.beq_refl,cond_true] at hf
 rw [js] at hf
 split at hf
 rotate_left
 ·cases hf
 rename_i hle
 have h1:=Option.some.inj hf
 refine⟨by rw [←h1];simp;omega,fun j y hy=>?_⟩
 have hcs:cs[off+j]?=some y:=by
  rw [←h1,List.getElem?_take] at hy
  split at hy
  ·rw [List.getElem?_drop] at hy;exact hy
  ·cases hy
 have hlt:off+j < ts.length:=by rw [hc.len];exact(List.getElem?_eq_some_iff.1 hcs).1
 have hat:=hc.at_ (off+j) _ y (List.getElem?_eq_getElem hlt) hcs
 refine⟨fun N ho=>?_,fun ho t ht=>?_⟩
 ·rw [ho] at hat;exact hat
 ·rw [ho] at hat
  obtain⟨ts',h1,h2⟩:=u9 ht
  have:=hc.cells.symm.trans h1;cases this
  rw [List.getElem?_eq_getElem hlt] at h2;cases h2
  exact hat.1
theorem MB {A:ee} {V:cg} {st:St} (hR:R A V st) {O off id:Nat} {keys:List p9} {xs:List AV} (hk:VD V O off keys) (hA:A O=some (.ptr id 0 0)) (hx:HE A keys xs):jf st.H (some ⟨id,0,off,keys.length⟩)=some xs:=by
 obtain⟨hne,v,ovs,hv,hk⟩:=hk
 obtain⟨a,ha,id',cs,ts,rfl,hH,hc⟩:=hR.heap O _ hv
 rw [hA] at ha;cases ha
 have hltj:∀j,j < keys.length->off+j < ts.length:=by
  intro j hj
  have hkj:=hk j _ (List.getElem?_eq_getElem hj)
  generalize keys[j]=key at hkj
  cases key with
  |sl N=>exact hc.keys _ _ hkj
  |tr c=>
   obtain⟨_,t,_,_,h2⟩:=hkj
   obtain⟨ts',h3,h4⟩:=u9 h2
   have:=hc.cells.symm.trans h3;cases this
   exact(List.getElem?_eq_some_iff.1 h4).1
 have hpos:0 < keys.length:=by cases keys with|nil=>exact absurd rfl hne|cons k ks=>simp
 have hle:off+keys.length<=cs.length:=by have:=hltj (keys.length - 1) (by omega);have:=hc.len;omega
 have hf:jf st.H (some ⟨id,0,off,keys.length⟩)=some ((cs.drop off).take keys.length):=by
  simp only [jf,hH,Nat.beq_refl,cond_true]
  rw [js,if_pos hle]
 obtain⟨g0,g1⟩:=Kj hR hv hA hf
 rw [hf]
 congr 1
 generalize (cs.drop off).take keys.length=ys at g0 g1
 refine List.ext_getElem? fun j=>?_
 by_cases hj:j < keys.length
 ·have e1:ys[j]?=some (ys[j]'(by rw [g0];exact hj)):=List.getElem?_eq_getElem _
  have e2:xs[j]?=some (xs[j]'(by rw [hx.2.1];exact hj)):=List.getElem?_eq_getElem _
  obtain⟨q1,q2⟩:=g1 j _ e1
  have hkj:=hk j _ (List.getElem?_eq_getElem hj)
  have hxj:=hx.2.2 j _ _ (List.getElem?_eq_getElem hj) e2
  rw [e1,e2]
  congr 1
  generalize keys[j]=key at hkj hxj
  cases key with
  |sl N=>
   have h1:=q1 N hkj
   have h2:A (.s N)=some _:=hxj
   rw [h1] at h2;exact Option.some.inj h2
  |tr c=>
   obtain⟨ho,t,hu,h1,h2⟩:=hkj
   exact QF hu (q2 ho t h2) (hxj t h1)
 ·rw [List.getElem?_eq_none (by omega),List.getElem?_eq_none (by have:=hx.2.1;omega)]
def ID (A:ee) (rs:List Rec) (cl:List (Nat×Nat×Nat×List p9)):Prop:=∀c O off keys,(c,O,off,keys)∈cl->∃r id xs,rs[c]?=some r/\r.gN=.ids []/\r.jx=[.El ⟨id,0,off,keys.length⟩]/\A (.s O)=some (.ptr id 0 0)/\jf r.H0 (some ⟨id,0,off,keys.length⟩)=some xs/\HE A keys xs
theorem ID.ne {A:ee} {rs:List Rec} {cl:List (Nat×Nat×Nat×List p9)} (h:ID A rs cl):∀c O off key,(c,O,off,key)∈cl->key≠[]:=fun c O off key hm=>by
 obtain⟨_,_,_,_,_,_,_,_,hx⟩:=h c O off key hm
 exact hx.1
theorem ID.mono {A A':ee} {rs:List Rec} {r:Rec} {cl:List (Nat×Nat×Nat×List p9)} (h:ID A rs cl) (hx:∀O x,A O=some x->A' O=some x):ID A' (rs++[r]) cl:=fun c O off key hm=>by
 obtain⟨r',id,x,h1,h2,h3,h4,h5,h6⟩:=h c O off key hm
 exact⟨r',id,x,(by rw [List.getElem?_append_left (List.getElem?_eq_some_iff.1 h1).1];exact h1),h2,h3,hx _ _ h4,h5,h6.mono hx⟩
theorem G5 {v:TV} {ovs:List (Nat×VV)}:∀{n off:Nat} {keys:List p9},Ia v ovs off n=some keys->keys.length=n/\∀(j:Nat) key,keys[j]?=some key->match key with
  |.sl N=>fc (off+j) ovs=some (.sl N)
  |.tr c=>fc (off+j) ovs=none/\c=bh v (off+j)
 |0,off,keys,h=>by cases h;exact⟨rfl,fun j key hj=>by simp at hj⟩
 |n+1,off,keys,h=>by
  simp only [Ia] at h
  split at h
  ·cases h
  rename_i l hl
  obtain⟨g1,g2⟩:=G5 hl
  have shift:∀j,off+(j+1)=off+1+j:=fun j=>by omega
  split at h
  ·rename_i N ho
   cases h
   refine⟨by simp [g1],fun j key hj=>?_⟩
   cases j with
   |zero=>simp at hj;subst hj;exact ho
   |succ j=>rw [shift];exact g2 j key (by simpa using hj)
  ·cases h
  ·rename_i ho
   cases h
   refine⟨by simp [g1],fun j key hj=>?_⟩
   cases j with
   |zero=>simp at hj;subst hj;exact⟨ho,rfl⟩
   |succ j=>rw [shift];exact g2 j key (by simpa using hj)
theorem LU {cf:qc} {nt n0:Nat} {A:ee} {V:cg} {st st1:St} {o:cj} {r:Rec} {O off:Nat} {keys:List p9} (hR:R A V st) (hc:cellOf V o=some (O,off,keys)) (he:gp cf nt n0 o st=some (st1,r)) :
  ∃id xs,r.gN=.ids []/\r.jx=[.El ⟨id,0,off,keys.length⟩]/\A (.s O)=some (.ptr id 0 0)/\jf r.H0 (some ⟨id,0,off,keys.length⟩)=some xs/\HE A keys xs:=by
 obtain⟨dd,op,gd,fz⟩:=o
 unfold cellOf at hc
 simp only at hc
 split at hc
 ·cases hc
 split at hc
 ·cases hc
 split at hc
 rotate_left
 ·cases hc
 rename_i sz a
 split at hc
 rotate_left
 ·cases hc
 rename_i O' off' henv
 split at hc
 rotate_left
 ·cases hc
 rename_i v ovs hv
 split at hc
 rotate_left
 ·cases hc
 rename_i k0 ks hka
 simp only [Option.some.injEq,Prod.mk.injEq] at hc
 obtain⟨rfl,rfl,rfl⟩:=hc
 obtain⟨hkl,hkk⟩:=G5 hka
 obtain⟨w,hw,hvr⟩:=hR.env a _ henv
 have hvr:=hvr (fun c bb h=>by cases h)
 generalize hwe:w=w0 at hvr
 cases hvr with
 |@ptr _ _ id hA=>
 subst hwe
 have hev:ev st.env (.t a)=.ptr id 0 off':=by simp only [ev,hw]
 have hwt:wanted st.env none=true:=rfl
 simp only [gp,hwt,cond_true,oD,cond_false,Ap] at he
 have hkd:kind (.load sz (.t a))=.plan fun ρ=>vu ρ sz (.t a):=rfl
 simp only [hkd,vu,hev,gU,oa] at he
 rw [hkl]
 cases hf:jf st.H (some ⟨id,0,off',gC sz⟩) with
 |none=>
  simp only [hf] at he
  cases he
 |some cs=>
 have hr:r.gN=.ids []/\r.jx=[.El ⟨id,0,off',gC sz⟩]/\r.H0=st.H:=by
  simp only [hf,ur] at he
  split at he
  ·cases he
  ·rename_i v1 H1 CY jx gN heq
   split at he
   ·cases he
   ·cases he
    split at heq
    ·rename_i q1 q2
     simp only [Option.some.injEq,Prod.mk.injEq] at heq
     obtain⟨_,_,_,h4,h5⟩:=heq
     refine⟨h5.symm,h4.symm,rfl⟩
    ·cases heq
 obtain⟨g0,g1⟩:=Kj hR hv hA hf
 refine⟨id,cs,hr.1,hr.2.1,hA,by rw [hr.2.2];exact hf,by simp,by rw [g0,hkl],fun j key x h1 h2=>?_⟩
 obtain⟨q1,q2⟩:=g1 j x h2
 have h3:=hkk j key h1
 cases key with
 |sl N=>exact q1 N h3
 |tr c=>exact fun t ht=>q2 h3.1 t (by rw [←h3.2];exact ht)
open Classical in
noncomputable def O3 (ns:List Nat) (V:cg) (A:ee) (ρ:Nat->Option Nat) (id:Nat):Option Nat:=
 if h:∃T∈ns,∃o a,V.H.get T=some o/\A (.s T)=some a/\jJ A o a id then some (Classical.choose h) else ρ id
theorem RT {ns:List Nat} {V:cg} {A:ee} {st:St} (hR:R A V st) {ρ:Nat->Option Nat} {id T:Nat} {o:VO} {a:AV} (hT:T∈ns) (h1:V.H.get T=some o) (h2:A T=some a) (h3:jJ A o a id):O3 ns V A ρ id=some T:=by
 have hh:∃T∈ns,∃o a,V.H.get T=some o/\A (.s T)=some a/\jJ A o a id:=⟨T,hT,o,a,h1,h2,h3⟩
 unfold O3
 rw [dif_pos hh]
 obtain⟨_,o',a',g1,g2,g3⟩:=Classical.choose_spec hh
 congr 1
 exact hR.inj _ T _ _ _ _ id g1 h1 g2 h2 g3 h3
theorem O0 {ns:List Nat} {V:cg} {A:ee} {ρ:Nat->Option Nat} {id:Nat} (h:¬∃T∈ns,∃o a,V.H.get T=some o/\A (.s T)=some a/\jJ A o a id):O3 ns V A ρ id=ρ id:=by
 unfold O3;rw [dif_neg h]
theorem M8 (hsh:vi prog sh) {PP:List (Nat×Nat)} {n0 i:Nat} {rs:List Rec} {A:ee} {V:cg} {st:St} {info:List (Nat×Nat×List Nat)} {ρ:Nat->Option Nat} {feet:List (List Nat×List Nat)} {ahead:List (List Nat)} {cl:List (Nat×Nat×Nat×List p9)}
  {o:cj} {ns:List Nat} {l:List cj} {k:cg->Prop} (hR:R A V st) (hinv:Ri (PP≠[]) n0 rs A V st info ρ) (hh:Oe (PP≠[]) n0 ahead rs feet ρ PP) (hcl:ID A rs cl) (hi:rs.length=i) (hn0:n0<=st.nx) (hwd:HG sh V o=some ns) (hnn:(Jz V ns&&(Le PP||!Le l))=true)
  (hk:CB V cl i PP (Sq sh prog nt (mj info V) o fun V'=>match (Gl V'.H fun T=>xk (mj info V) T||Bj T ns)&&(Le PP||MI (mj info V) V' feet) with
   |true=>Na l (mj info V) V' (CB (xy V info V') cl i PP (k (xy V info V')))
   |false=>False)) :
  ∃st1 r,gp (fe prog) nt n0 o st=some (st1,r)/\∃W A1 ρ',R A1 W st1/\Fr V A st.H st.nx W A1 st1.H st1.nx/\k W/\st.nx<=st1.nx/\ID A1 (rs++[r]) cl/\
   (l≠[]->Ri (PP≠[]) n0 (rs++[r]) A1 W st1 (DW i (ns) info) ρ')/\Oe (PP≠[]) n0 ahead (rs++[r]) (feet++[([],[])]) ρ' PP:=by
 obtain⟨hk,hkey0⟩:=CA hcl.ne hk
 rw [Bool.and_eq_true] at hnn
 obtain⟨hnn,hnl⟩:=hnn
 have hnl:PP≠[]->l≠[]:=fun hP hl=>by
  subst hl
  cases PP with
  |nil=>exact hP rfl
  |cons p PP=>cases hnl
 have hids:∀O o a id,(mj info V).H.get O=some o->A O=some a->jJ A o a id->id < n0:=by
  intro O o a id ho ha hid
  obtain⟨hn,ho'⟩:=ig ho
  rcases hinv.known O o a id ho' ha hid with h|⟨c,hc,_⟩
  ·exact h
  ·rw [BT hn] at hc;cases hc
 obtain⟨he,hu⟩:=FR info V
 have hR0:R A (mj info V) ⟨st.env,st.H.upto fun i=>Nat.blt i n0,st.nx⟩:=by
  refine⟨fun t e h=>hR.env t e (by rw [←he];exact h),fun O o ho=>?_,fun O O' o o' a a' id h1 h2=>hR.inj O O' o o' a a' id (ig h1).2 (ig h2).2,fun O h=>hR.used O (by rw [←hu];exact h),hR.one,fun id o h=>?_,fun O o a ho ha=>hR.lZ O o a (ig ho).2 ha⟩
  ·obtain⟨a,ha,hor⟩:=hR.heap O o (ig ho).2
   refine⟨a,ha,hor.mono (fun _ _ h=>h) (fun id hid=>?_)⟩
   have:=hids O o a id ho ha hid
   show (Map.upto st.H _).get id=_
   rw [Map.oX,if_pos (by simpa using this)]
  ·have h':(Map.upto st.H fun i=>Nat.blt i n0).get id=some o:=h
   rw [Map.oX] at h'
   split at h'
   ·exact hR.fresh id o h'
   ·cases h'
 have hW:Vm prog nt n0 o A (mj info V) st fun V'=>match (Gl V'.H fun T=>xk (mj info V) T||Bj T ns)&&(Le PP||MI (mj info V) V' feet) with
   |true=>Na l (mj info V) V' (CB (xy V info V') cl i PP (k (xy V info V')))
   |false=>False:=by
  rcases IK hwd with ⟨d,f,args,rfl⟩|⟨d,f,args,rfl⟩
  ·exact KH hsh hR0 hk
  ·exact IJ hR0 hk
 obtain⟨H',nx',e',H2,jx,gN,V1,A1,heff,hget0,hR1,hF,hx,hk1,hrt,hrds,htch⟩:=hW
 have hle:st.nx<=nx':=hF.le
 let P:Nat->Bool:=fun i=>Nat.blt i n0||(Nat.ble st.nx i&&Nat.blt i nx')
 have hP:∀i,P i=true↔(i < n0\/(st.nx<=i/\i < nx')):=fun i=>by
  show (Nat.blt i n0||(Nat.ble st.nx i&&Nat.blt i nx'))=true↔_
  simp
 have hget:∀id,H2.get id=if P id=true then H'.get id else st.H.get id:=by
  intro id
  rw [hget0]
  by_cases h:P id=true
  ·rw [if_pos ((hP id).1 h),if_pos h]
  ·rw [if_neg (fun hc=>h ((hP id).2 hc)),if_neg h]
 have hown1:∀id,gR V1 A1 id->P id=true:=by
  intro id ho
  rw [hP]
  have hlt:=hR1.oR ho
  rcases hF.own id ho with ⟨O,o,a,h1,h2,h3⟩|h
  ·exact .inl (hids O o a id h1 h2 h3)
  ·exact .inr ⟨h,hlt⟩
 have hR2:R A1 V1 ⟨e',H2,nx'⟩:=by
  refine⟨hR1.env,fun O o ho=>?_,hR1.inj,hR1.used,hR1.one,fun id o h=>?_,hR1.lZ⟩
  ·obtain⟨a,ha,hor⟩:=hR1.heap O o ho
   refine⟨a,ha,hor.mono (fun _ _ h=>h) (fun id hid=>?_)⟩
   rw [show (⟨e',H2,nx'⟩:St).H.get id=_ from hget id,if_pos (hown1 id ⟨O,o,a,ho,ha,hid⟩)]
  ·have h':H2.get id=some o:=h
   rw [hget] at h'
   split at h'
   ·exact hR1.fresh id o h'
   ·exact Nat.lt_of_lt_of_le (hR.fresh id o h') hle
 split at hk1
 rotate_left
 ·cases hk1
 rename_i hall
 rw [Bool.and_eq_true] at hall
 obtain⟨hall,hgone⟩:=hall
 have hgone:PP≠[]->MI (mj info V) V1 feet=true:=fun hP=>by
  cases PP with
  |nil=>exact absurd rfl hP
  |cons p PP=>exact hgone
 obtain⟨hk1,hsm⟩:=Mb hk1
 obtain⟨hk1,hkey1⟩:=CA hcl.ne hk1
 have hkeys:∀T o,V1.H.get T=some o->(∃o',(mj info V).H.get T=some o')\/T∈ns:=by
  intro T o hT
  have:=yb _ _ hall T o hT
  rw [Bool.or_eq_true] at this
  exact this.imp qw.1 uh.1
 obtain⟨g1,g2,g3,g4,g5⟩:=xx (V1:=V1) (st1:=⟨e',H2,nx'⟩) (info0:=info) hR hx.mono (fun T o a id hT ho ha hid=>by
   show H2.get id=_
   rw [hget]
   split
   ·rename_i hPi
    have hown:gR V A id:=⟨T,o,a,ho,ha,hid⟩
    have hlt:=hR.oR hown
    have h0:id < n0:=by rcases(hP id).1 hPi with h|h<;>omega
    have hno:¬gR (mj info V) A id:=fun ⟨O,o',a',h1,h2,h3⟩=>by
     obtain⟨hn,h1'⟩:=ig h1
     have:=hR.inj O T o' o a' a id h1' ho h2 ha h3 hid
     subst this;exact hn hT
    have:=hF.same id hlt hno
    rw [this]
    show (Map.upto st.H _).get id=_
    rw [Map.oX,if_pos (by simpa using h0)]
   ·rfl) (fun id ho=>hF.own id ho) info V1 (fun _ h=>h) hR2 (fun O o h=>.inl h)
 have hhold:∀(c:Nat) a,rs[c]?=some a->(rs++[(⟨jx,gN,st.H,H2,st.nx,nx'⟩:Rec)])[c]?=some a:=fun c a hc=>by
  rw [List.getElem?_append_left (List.getElem?_eq_some_iff.1 hc).1];exact hc
 have hhlast:(rs++[(⟨jx,gN,st.H,H2,st.nx,nx'⟩:Rec)])[i]?=some ⟨jx,gN,st.H,H2,st.nx,nx'⟩:=by
  rw [List.getElem?_append_right (by omega),hi,Nat.sub_self];rfl
 have hpw:∀p∈PP,(p.1=i\/p.2=i)->ua (rs++[(⟨jx,gN,st.H,H2,st.nx,nx'⟩:Rec)]) p=true:=fun p hp hpi=>by
  obtain⟨q1,q2⟩:=hkey0 p hp
  have hp2:p.2=i:=hpi.elim (fun e=>absurd e q1) (fun e=>e)
  obtain⟨O,off,key,q3,q4⟩:=q2 hp2
  obtain⟨O',off',key',q5,q6⟩:=(hkey1 p hp).2 hp2
  rw [q3] at q5;cases q5
  obtain⟨r0,id,x,w1,w2,w3,w4,w5,w6⟩:=hcl _ _ _ _ (Dr q3)
  have f0:=MB hR q4 w4 w6
  have f1:=MB g1 q6 (hx.mono _ _ w4) (w6.mono hx.mono)
  unfold ua
  rw [hhold _ _ w1,hp2,hhlast]
  exact TP w2 w3 hrds htch f0 f1 w5
 have hap:∀id q,PP≠[]->ρ id=some q->(∃T∈ns,∃o a,V1.H.get T=some o/\A1 T=some a/\jJ A1 o a id)->∀f∈feet,q ∉ f.1/\q ∉ f.2:=by
  intro id q hP hq ⟨T,hT,o,a,h1,h2,h3⟩
  rcases hF.own id ⟨T,o,a,h1,h2,h3⟩ with ⟨O',o',a',h6,h7,h8⟩|h
  ·obtain⟨hn,h6'⟩:=ig h6
   have hroot:=hinv.root hP O' o' a' id h6' h7 h8
   rw [BT hn,hq] at hroot
   have hqO:q=O':=by simpa using hroot
   subst hqO
   have:=yb _ _ (hgone hP) q o' h6
   rw [Bool.or_eq_true] at this
   rcases this with h|h
   ·rw [h6,Bool.and_eq_true] at h
    obtain⟨hpl,h⟩:=h
    obtain⟨o2,h9⟩:=qw.1 h
    have hA1:=hx.mono _ _ h7
    have h11:=hR1.heap q o2 h9
    obtain⟨a2,h12,_⟩:=h11
    rw [hA1] at h12;cases h12
    have h13:jJ A1 o2 a' id:=.inl ((jh hpl).1 h8)
    have:=hR1.inj T q o o2 a a' id h1 h9 h2 hA1 h3 h13
    subst this
    have:=AY hnn T hT
    rw [this] at h6';cases h6'
   ·intro f hf
    have:=cx.1 h f hf
    simp only [Bool.and_eq_true,Bool.not_eq_true'] at this
    exact⟨fun hm=>Bool.false_ne_true (this.1.symm.trans (uh.2 hm)),fun hm=>Bool.false_ne_true (this.2.symm.trans (uh.2 hm))⟩
  ·have:=hinv.dom id q hq;omega
 let ρ':Nat->Option Nat:=O3 ns V1 A1 ρ
 have hρ1:∀id T,T∈ns->(∃o a,V1.H.get T=some o/\A1 T=some a/\jJ A1 o a id)->ρ' id=some T:=fun id T hT ⟨o,a,h1,h2,h3⟩=>RT hR1 hT h1 h2 h3
 have hρ0:∀id,¬(∃T∈ns,∃o a,V1.H.get T=some o/\A1 T=some a/\jJ A1 o a id)->ρ' id=ρ id:=fun id h=>O0 h
 have hrec:∀r f,PP≠[]->f∈feet->Gm ρ r f->Gm ρ' r f:=by
  intro r f hP hf ⟨h1,l0,h2,h3⟩
  refine⟨fun x hx0=>?_,l0,h2,fun id hid=>?_⟩
  ·obtain⟨id,h4,q,h5,h6⟩:=h1 x hx0
   refine⟨id,h4,q,?_,h6⟩
   rw [hρ0 id (fun hc=>(hap id q hP h5 hc f hf).1 h6)];exact h5
  ·obtain⟨q,h5,h6⟩:=h3 id hid
   refine⟨q,?_,h6⟩
   rw [hρ0 id (fun hc=>(hap id q hP h5 hc f hf).2 h6)];exact h5
 refine⟨⟨e',H2,nx'⟩,⟨jx,gN,st.H,H2,st.nx,nx'⟩,?_,_,A1,ρ',g1,⟨hle,fun id hid hno=>?_,fun id ho=>?_⟩,hk1,hle,hcl.mono hx.mono,fun hl=>⟨fun T o a id ho ha hid=>?_,fun hP T o a id ho ha hid=>?_,fun id q h=>?_⟩,
  ⟨by simp [hh.len],fun hP c r' f' hr hf=>?_,fun c r' ah' hr ha' rs' hrs'=>?_⟩⟩
 ·exact heff
 ·show H2.get id=_
  rw [hget]
  split
  ·rename_i hPi
   have h0:id < n0:=by rcases(hP id).1 hPi with h|h<;>omega
   have:=hF.same id hid (fun ⟨O,o,a,h1,h2,h3⟩=>hno ⟨O,o,a,(ig h1).2,h2,h3⟩)
   rw [this]
   show (Map.upto st.H _).get id=_
   rw [Map.oX,if_pos (by simpa using h0)]
  ·rfl
 ·obtain⟨O,o,a,h1,h2,h3⟩:=ho
  rcases g4 O o h1 with h4|⟨h4,h5,hpl⟩
  ·rcases hF.own id ⟨O,o,a,h4,h2,h3⟩ with ⟨O',o',a',h6,h7,h8⟩|h
   ·exact .inl ⟨O',o',a',(ig h6).2,h7,h8⟩
   ·exact .inr h
  ·obtain⟨a',h6,_⟩:=hR.heap O o h5
   have:=hx.mono _ _ h6
   rw [h2] at this;cases this
   exact .inl ⟨O,o,a,h5,h6,(jh hpl).2 ((jh hpl).1 h3)⟩
 ·have hold:∀(c:Nat) a,rs[c]?=some a->(rs++[(⟨jx,gN,st.H,H2,st.nx,nx'⟩:Rec)])[c]?=some a:=fun c a hc=>by
   rw [List.getElem?_append_left (List.getElem?_eq_some_iff.1 hc).1];exact hc
  have hlast:(rs++[(⟨jx,gN,st.H,H2,st.nx,nx'⟩:Rec)])[i]?=some ⟨jx,gN,st.H,H2,st.nx,nx'⟩:=by
   rw [List.getElem?_append_right (by omega),hi,Nat.sub_self];rfl
  rcases g4 T o ho with h4|⟨h4,h5,hpl⟩
  ·by_cases hT:T∈ns
   ·rw [Fz hT]
    rcases hF.own id ⟨T,o,a,h4,ha,hid⟩ with ⟨O',o',a',h6,h7,h8⟩|h
    ·exact .inl (hids O' o' a' id h6 h7 h8)
    ·exact .inr ⟨i,by simp,_,hlast,h,hR1.oR ⟨T,o,a,h4,ha,hid⟩⟩
   ·rcases hkeys T o h4 with ⟨o',h6⟩|h6
    ·obtain⟨a',h7,_⟩:=hR.heap T o' (ig h6).2
     have:=hx.mono _ _ h7
     rw [ha] at this;cases this
     exact .inl (hids T o' a id h6 h7 (CE hR0 hx (hsm hl) h6 h4 h7 hid))
    ·exact absurd h6 hT
  ·have hT:T ∉ ns:=fun hm=>by have:=AY hnn T hm;rw [this] at h5;cases h5
   rw [A6 hT]
   obtain⟨a',h6,_⟩:=hR.heap T o h5
   have:=hx.mono _ _ h6
   rw [ha] at this;cases this
   exact(hinv.known T o a id h5 h6 ((jh hpl).2 ((jh hpl).1 hid))).imp (fun h=>h) (fun ⟨c,h2,r2,h3,h4⟩=>⟨c,h2,r2,hold c r2 h3,h4⟩)
 ·rcases g4 T o ho with h4|⟨h4,h5,hpl⟩
  ·by_cases hT:T∈ns
   ·rw [Fz hT];exact hρ1 id T hT ⟨o,a,h4,ha,hid⟩
   ·rw [A6 hT]
    rcases hkeys T o h4 with ⟨o',h6⟩|h6
    ·obtain⟨a',h7,_⟩:=hR.heap T o' (ig h6).2
     have:=hx.mono _ _ h7
     rw [ha] at this;cases this
     rw [hρ0 id (fun ⟨T2,hT2,o2,a2,h8,h9,h10⟩=>by
      have:=hR1.inj T2 T o2 o a2 a id h8 h4 h9 ha h10 hid
      subst this;exact hT hT2)]
     exact hinv.root hP T o' a id (ig h6).2 h7 (CE hR0 hx (hsm hl) h6 h4 h7 hid)
    ·exact absurd h6 hT
  ·have hT:T ∉ ns:=fun hm=>by have:=AY hnn T hm;rw [this] at h5;cases h5
   rw [A6 hT]
   obtain⟨a',h6,_⟩:=hR.heap T o h5
   have:=hx.mono _ _ h6
   rw [ha] at this;cases this
   rw [hρ0 id (fun ⟨T2,hT2,o2,a2,h8,h9,h10⟩=>by
    have:=g1.inj T2 T o2 o a2 a id (g5 _ _ h8) ho h9 ha h10 hid
    subst this;exact hT hT2)]
   exact hinv.root hP T o a id h5 h6 ((jh hpl).2 ((jh hpl).1 hid))
 ·by_cases hc:∃T∈ns,∃o a,V1.H.get T=some o/\A1 T=some a/\jJ A1 o a id
  ·obtain⟨T,hT,o,a,h1,h2,h3⟩:=hc
   exact hR1.oR ⟨T,o,a,h1,h2,h3⟩
  ·have h':ρ' id=some q:=h
   rw [hρ0 id hc] at h'
   exact Nat.lt_of_lt_of_le (hinv.dom id q h') hle
 ·by_cases hc:c < rs.length
  ·rw [List.getElem?_append_left hc] at hr
   rw [List.getElem?_append_left (by rw [hh.len];exact hc)] at hf
   exact(hh.RU hP c r' f' hr hf).imp (fun h=>hrec r' f' hP (List.mem_of_getElem? hf) h) (fun h p hp hc=>Fa (h p hp hc))
  ·have hce:c=rs.length:=by have:=(List.getElem?_eq_some_iff.1 hr).1;simp at this;omega
   exact .inr fun p hp hpc=>hpw p hp (by rw [←hi,←hce];exact hpc)
 ·by_cases hc:c < rs.length
  ·rw [List.getElem?_append_left hc] at hr
   exact hh.known c r' ah' hr ha' rs' (fun j a hj=>hrs' j a (by rw [List.getElem?_append_left (List.getElem?_eq_some_iff.1 hj).1];exact hj))
  ·have hce:c=rs.length:=by have:=(List.getElem?_eq_some_iff.1 hr).1;simp at this;omega
   subst hce
   rw [List.getElem?_append_right (Nat.le_refl _),Nat.sub_self] at hr
   cases hr
   exact hrt rs' ah'
theorem Ik (hsh:vi prog sh) {ahead:List (List Nat)} {pairs:List (Nat×Nat)} {n0:Nat}:∀(ops:List cj) (i:Nat) (V:cg) (A:ee) (st:St) (info:List (Nat×Nat×List Nat)) (feet:List (List Nat×List Nat)) (cl:List (Nat×Nat×Nat×List p9)) (rs:List Rec) (ρ:Nat->Option Nat) (k:cg->Prop),
  R A V st->(ops≠[]->Ri (pairs≠[]) n0 rs A V st info ρ)->Oe (pairs≠[]) n0 ahead rs feet ρ pairs->ID A rs cl->rs.length=i->n0<=st.nx->Ss sh prog nt ahead pairs ops i V info feet cl k->
  ∃st' l,k9 (fe prog) nt n0 ops st=some (st',l)/\um n0 (rs++l) ahead (rs++l)=true/\gJ (ua (rs++l)) pairs=true/\∃V' A',R A' V' st'/\Fr V A st.H st.nx V' A' st'.H st'.nx/\k V'
 |[],i,V,A,st,info,feet,cl,rs,ρ,k,hR,hinv,hh,hcl,hi,hn,hk=>by
  simp only [Ss] at hk
  split at hk
  ·rename_i hb
   rw [Bool.and_eq_true,Nat.beq_eq] at hb
   refine⟨st,[],rfl,?_,?_,V,A,hR,Fr.refl _ _ _ _,hk⟩
   ·rw [List.append_nil]
    exact DT ahead rs (by rw [hb.1,hi]) (fun c r ah hr ha=>hh.known c r ah hr ha rs (fun _ _ h=>h))
   ·rw [List.append_nil];exact Jj hh (fun _ h=>h) (fun h=>h) hb.2
  ·cases hk
 |o::l,i,V,A,st,info,feet,cl,rs,ρ,k,hR,hinv,hh,hcl,hi,hn,hk=>by
  rw [Ss] at hk
  split at hk
  ·rename_i ns hso
   split at hk
   rotate_left
   ·cases hk
   rename_i hnn
   obtain⟨st1,r,g1,W,A1,ρ',g2,g3,g4,g5,g8,g6,g7⟩:=M8 (l:=l) (k:=fun W=>Ss sh prog nt ahead pairs l (i+1) W (DW i ns info) (feet++[([],[])]) cl k) hsh hR (hinv (by simp)) hh hcl hi hn hso hnn hk
   obtain⟨st2,l2,q1,q2,q3,V2,A2,q4,q5,q6⟩:=Ik hsh l (i+1) W A1 st1 _ _ cl (rs++[r]) ρ' k g2 g6 g7 g8 (by simp [hi]) (Nat.le_trans hn g5) g4
   refine⟨st2,r::l2,by simp only [k9,g1,q1],?_,?_,V2,A2,q4,g3.trans q5,q6⟩
   ·rwa [List.append_assoc] at q2
   ·rwa [List.append_assoc] at q3
  have hk':Sq sh prog nt V o fun V'=>match Ie V o with
   |none=>False
   |some f=>match ahead[i]? with
    |none=>False
    |some ah=>match xw info ah (f.rd++f.wr) with
     |false=>False
     |true=>match GA o.dst i V V' f info with
      |none=>False
      |some info'=>Na l V V' (Ss sh prog nt ahead pairs l (i+1) V' info' (feet++[(vo info f.rd,vo info f.wr)]) (SJ V o i pairs cl) k):=hk
  obtain⟨st1,h1,V1,A1,h2,h3,hx,h4⟩:=MO hsh hR hk'
  split at h4
  ·cases h4
  rename_i f hf
  split at h4
  ·cases h4
  rename_i ah hah
  split at h4
  ·cases h4
  rename_i hch
  split at h4
  ·cases h4
  rename_i info' hs
  obtain⟨h4,hsm⟩:=Mb h4
  obtain⟨r,g1,g2,g3,g4⟩:=Sp hR hk' hf h1 n0
  obtain⟨ρ',p1,p2⟩:=OC hR h2 h3 hx (hinv (by simp)) hh hi g2 g3 g4 hah hch hs
  have hcl':ID A1 (rs++[r]) (SJ V o i pairs cl):=by
   have h0:=hcl.mono (r:=r) hx.mono
   unfold SJ
   split
   ·exact h0
   ·split
    ·rename_i p hp
     intro c O off key hm
     rcases List.mem_cons.1 hm with he|hm
     ·cases he
      obtain⟨id,x,w1,w2,w3,w4,w5⟩:=LU hR hp g1
      exact⟨r,id,x,(by rw [List.getElem?_append_right (by omega),hi,Nat.sub_self];rfl),w1,w2,hx.mono _ _ w3,w4,w5.mono hx.mono⟩
     ·exact h0 c O off key hm
    ·exact h0
  obtain⟨st2,l2,q1,q2,q3,V2,A2,q4,q5,q6⟩:=Ik hsh l (i+1) V1 A1 st1 info' _ _ (rs++[r]) ρ' k h2 (fun hl=>p1 (hsm hl)) p2 hcl' (by simp [hi]) (Nat.le_trans hn h3.le) h4
  refine⟨st2,r::l2,by simp only [k9,g1,q1],?_,?_,V2,A2,q4,h3.trans q5,q6⟩
  ·rwa [List.append_assoc] at q2
  ·rwa [List.append_assoc] at q3
open Classical in
noncomputable def I9 (V:cg) (A:ee) (id:Nat):Option Nat:=if h:∃(T:Nat) (o:VO) (a:AV),V.H.get T=some o/\A T=some a/\jJ A o a id then some (Classical.choose h) else none
theorem KX {V:cg} {A:ee} {id q:Nat} (h:I9 V A id=some q):∃o a,V.H.get q=some o/\A q=some a/\jJ A o a id:=by
 unfold I9 at h
 split at h
 ·rename_i hh;cases h;exact Classical.choose_spec hh
 ·cases h
theorem OZ {V:cg} {A:ee} {st:St} (hR:R A V st) {id T:Nat} {o:VO} {a:AV} (h1:V.H.get T=some o) (h2:A T=some a) (h3:jJ A o a id):I9 V A id=some T:=by
 have hh:∃(T:Nat) (o:VO) (a:AV),V.H.get T=some o/\A T=some a/\jJ A o a id:=⟨T,o,a,h1,h2,h3⟩
 unfold I9
 rw [dif_pos hh]
 obtain⟨o',a',g1,g2,g3⟩:=Classical.choose_spec hh
 congr 1
 exact hR.inj _ T _ _ _ _ id g1 h1 g2 h2 g3 h3
theorem Sr (hsh:vi prog sh) {A:ee} {V:cg} {st:St} {k:cg->Prop} {ops:List cj} {ahead:List (List Nat)} {pairs:List (Nat×Nat)} (hR:R A V st) (hk:Ss sh prog nt ahead pairs ops 0 V [] [] [] k) :
  ∃st',k8 (fe prog) nt ops ahead pairs st=some st'/\∃V' A',R A' V' st'/\Fr V A st.H st.nx V' A' st'.H st'.nx/\k V':=by
 have own:∀T o a id,V.H.get T=some o->A T=some a->jJ A o a id->gR V A id:=fun T o a id h1 h2 h3=>⟨T,o,a,h1,h2,h3⟩
 obtain⟨st',l,h1,h2,h3,V',A',h4,h5,h6⟩:=Ik hsh (n0:=st.nx) ops 0 V A st [] [] [] [] (I9 V A) k hR (fun _=>⟨fun T o a id g1 g2 g3=>.inl (hR.oR (own T o a id g1 g2 g3)),fun _ T o a id g1 g2 g3=>OZ hR g1 g2 g3,fun id q hq=>by
   obtain⟨o',a',g1,g2,g3⟩:=KX hq
   exact hR.oR (own _ _ _ _ g1 g2 g3)⟩) ⟨rfl,fun _ c r f hr=>by simp at hr,fun c r ah hr=>by simp at hr⟩ (fun _ _ _ _ hm=>by cases hm) rfl (Nat.le_refl _) hk
 rw [List.nil_append] at h2 h3
 exact⟨st',by simp only [k8,h1,h2,h3,Bool.and_self,cond_true],V',A',h4,h5,h6⟩
end
end Go.Ax.V

namespace Go.Ax.V
def _root_.Go.Ax.V.cq.ok:cq->Bool
 |.seq a b=>a.ok&&b.ok
 |.cond _ a b=>a.ok&&b.ok
 |.block _ c=>c.ok
 |.loop J c=>J.all Am&&c.ok
 |.join J c=>J.all Am&&c.ok
 |_=>true
section
variable {sh:Sh} {prog:Map bk} {nt:Nat}
theorem Yy {A:ee} {V:cg} {st:St} (hR:R A V st) {O:Nat} {o o':VO} (ho:V.H.get O=some o) (hpl:o.pl=true) (hpl':o'.pl=true) (hor:∀a,A O=some a->OR A st.H o a->OR A st.H o' a) :
  R A (ey V O o') st/\Fr V A st.H st.nx (ey V O o') A st.H st.nx:=by
 have get':∀{O2:Nat} {o2:VO},(ey V O o').H.get O2=some o2->∃o3,V.H.get O2=some o3/\(∀a id,jJ A o2 a id->jJ A o3 a id)/\(∀a,A O2=some a->OR A st.H o3 a->OR A st.H o2 a)/\(∀a,q_ A O2 a o3->q_ A O2 a o2):=by
  intro O2 o2 h
  simp only [ey,Map.bt] at h
  split at h
  ·rename_i e;subst e;cases h
   exact⟨o,ho,fun a id hi=>.inl ((jh hpl').1 hi),hor,fun _ _=>EG hpl'⟩
  ·exact⟨o2,h,fun _ _ h=>h,fun _ _ h=>h,fun _ h=>h⟩
 refine⟨⟨hR.env,fun O2 o2 h=>?_,fun O1 O2 o1 o2 a1 a2 id h1 h2 g1 g2 i1 i2=>?_,hR.used,hR.one,hR.fresh,fun O2 o2 a h ha=>?_⟩,⟨Nat.le_refl _,fun _ _ _=>rfl,fun id ⟨O2,o2,a,h,ha,hid⟩=>?_⟩⟩
 ·obtain⟨o3,h1,h2,h3,_⟩:=get' h
  obtain⟨a,ha,hr⟩:=hR.heap O2 o3 h1
  exact⟨a,ha,h3 a ha hr⟩
 ·obtain⟨o3,h3,h4,_⟩:=get' h1
  obtain⟨o4,h5,h6,_⟩:=get' h2
  exact hR.inj O1 O2 o3 o4 a1 a2 id h3 h5 g1 g2 (h4 _ _ i1) (h6 _ _ i2)
 ·obtain⟨o3,h1,_,_,h4⟩:=get' h
  exact h4 a (hR.lZ O2 o3 a h1 ha)
 ·obtain⟨o3,h1,h2,_⟩:=get' h
  exact .inl ⟨O2,o3,a,h1,ha,h2 _ _ hid⟩
theorem Ji {A:ee} {st:St} {k:cg->Prop}:∀{l:List (Nat×Nat)} {V:cg},R A V st->RY l V k->∃V',R A V' st/\Fr V A st.H st.nx V' A st.H st.nx/\k V'
 |[],V,hR,h=>⟨V,hR,Fr.refl _ _ _ _,h⟩
 |(O,off)::l,V,hR,h=>by
  simp only [RY] at h
  split at h
  rotate_left
  ·cases h
  rename_i v ovs hv
  split at h
  rotate_left
  ·cases h
  rename_i hov
  obtain⟨t,h1,h2,h3⟩:=h
  obtain⟨t0,h4,h5⟩:=EI h1
  obtain⟨ts0,h6,h7⟩:=u9 h4
  obtain⟨a,ha,id,cs,ts,rfl,hH,hc⟩:=hR.heap O _ hv
  have:=hc.cells.symm.trans h6;cases this
  have hlt:off < cs.length:=by rw [←hc.len];exact(List.getElem?_eq_some_iff.1 h7).1
  have hx:cs[off]?=some cs[off]:=List.getElem?_eq_getElem hlt
  have hat:=hc.at_ off t0 _ h7 hx
  rw [hov] at hat
  have hcan:Can t cs[off]:=h5 _ hat.1
  have hrow:TH cs[off]=true:=by
   cases t with
   |l es=>generalize cs[off]=y at hcan;cases hcan<;>rfl
   |_=>cases h2
  obtain⟨v',h8,h9⟩:=h3 cs[off]
  obtain⟨g1,g2⟩:=Yy hR (o':=.ob v' ovs) hv rfl rfl (fun a' ha' hor=>by
   obtain⟨id2,cs2,ts2,rfl,hH2,hc2⟩:=hor
   rw [ha] at ha';cases ha'
   rw [hH] at hH2;cases hH2
   have:=hc.cells.symm.trans hc2.cells;cases this
   obtain⟨ts',xs,us,e1,e2,e3,e4,e5,e6,e7⟩:=gy h8
   have:=hc.cells.symm.trans e1;cases this
   refine⟨id,cs,us,rfl,hH,⟨e4,by rw [e5];exact hc.len,fun j w hj=>by rw [e5];exact hc.keys j w hj,fun j u y hu hy=>?_⟩⟩
   rw [e7 j] at hu
   split at hu
   ·rename_i hj
    have hjo:j=off:=by omega
    subst hjo
    have hxs:xs=[.BK cs[j] t]:=by
     have:gk (.BK cs[j] t)=some [.BK cs[j] t]:=rfl
     rw [e2] at this;exact Option.some.inj this
    rw [hxs] at hu
    simp at hu
    subst hu
    rw [hx] at hy;cases hy
    rw [hov]
    exact⟨.BK _ _ hrow hcan,hat.2⟩
   ·exact hc.at_ j u y hu hy)
  obtain⟨V',q1,q2,q3⟩:=Ji g1 h9
  exact⟨V',q1,g2.trans q2,q3⟩
theorem MQ (hsh:vi prog sh):∀(c:cq) (V:cg) (A:ee) (st:St) (k:gS->cg->Prop),c.ok=true->R A V st->Oi sh prog nt c V k->
  WC (fe prog) (gK prog) nt c.code st (fun x st'=>∃V' A',R A' V' st'/\Fr V A st.H st.nx V' A' st'.H st'.nx/\k x V'):=by
 intro c
 induction c with
 |skip=>intro V A st k _ hR h;exact L9 ⟨V,A,hR,Fr.refl _ _ _ _,h⟩
 |exit id=>intro V A st k _ hR h;exact L_ ⟨V,A,hR,Fr.refl _ _ _ _,h⟩
 |ret=>intro V A st k _ hR h;exact Ou ⟨V,A,hR,Fr.refl _ _ _ _,h⟩
 |d_ ops ahead pairs=>
  intro V A st k _ hR h
  obtain⟨V1,hR1,hF1,h⟩:=Ji hR h
  obtain⟨st',h1,V',A',h2,h3,h4⟩:=Sr hsh hR1 h
  exact RB h1 ⟨V',A',h2,hF1.trans h3,h4⟩
 |cr ops=>
  intro V A st k _ hR h
  obtain⟨st',h1,V',A',h2,h3,_,h4⟩:=FG hsh hR h
  exact Ov ⟨st',h1,V',A',h2,h3,h4⟩
 |seq a b iha ihb=>
  intro V A st k hok hR h
  simp only [cq.ok,Bool.and_eq_true] at hok
  refine Ot (sx (iha V A st _ hok.1 hR h) ?_)
  rintro x st' ⟨V',A',h1,h2,h3⟩
  cases x with
  |normal=>
   refine sx (ihb V' A' st' k hok.2 h1 h3) ?_
   rintro y st2 ⟨V2,A2,g1,g2,g3⟩
   exact⟨V2,A2,g1,h2.trans g2,g3⟩
  |exit i=>exact⟨V',A',h1,h2,h3⟩
  |ret=>exact⟨V',A',h1,h2,h3⟩
 |cond c a b iha ihb=>
  intro V A st k hok hR h
  simp only [cq.ok,Bool.and_eq_true] at hok
  obtain⟨cv,hc,h⟩:=gm (g:=none) hR trivial h
  unfold ak at h
  split at h
  ·rename_i x
   generalize he:ev st.env c=p at hc
   cases hc
   cases x with
   |true=>exact B2 he (iha V A st k hok.1 hR h)
   |false=>exact Bp he (ihb V A st k hok.2 hR h)
  ·cases h
 |block id c ih=>
  intro V A st k hok hR h
  refine IL (sx (ih V A st _ hok hR h) ?_)
  rintro x st' ⟨V',A',h1,h2,h3⟩
  cases x with
  |normal=>exact⟨V',A',h1,h2,h3⟩
  |ret=>exact⟨V',A',h1,h2,h3⟩
  |exit i=>
   simp only [Ix]
   simp only [cond_eq_ite,Nat.beq_eq] at h3
   by_cases hi:i=id
   ·rw [if_pos hi] at h3 ⊢;exact⟨V',A',h1,h2,h3⟩
   ·rw [if_neg hi] at h3 ⊢;exact⟨V',A',h1,h2,h3⟩
 |loop J c ih=>
  intro V A st k hok hR h
  simp only [cq.ok,Bool.and_eq_true] at hok
  obtain⟨I,⟨n,h1⟩,h2⟩:=h
  refine Rz (fun (n:Nat) st1=>∃V1 A1,R A1 V1 st1/\Fr V A st.H st.nx V1 A1 st1.H st1.nx/\E8 J V1 (I n)) (fun n=>n) ?_ n st ⟨V,A,hR,Fr.refl _ _ _ _,h1⟩
  rintro m st1 ⟨V1,A1,g1,g2,g3⟩
  obtain⟨Vc,A2,p1,p2,p3⟩:=JD g1 hok.1 g3 (h2 m)
  refine sx (ih Vc A2 st1 _ hok.2 p2 p1) ?_
  rintro x st2 ⟨V2,A3,q1,q2,q3⟩
  have hfr:=g2.trans (p3.trans q2)
  cases x with
  |normal=>obtain⟨m',hm,q3⟩:=q3;exact⟨m',hm,V2,A3,q1,hfr,q3⟩
  |exit i=>exact⟨V2,A3,q1,hfr,q3⟩
  |ret=>exact⟨V2,A3,q1,hfr,q3⟩
 |join J c ih=>
  intro V A st k hok hR h
  simp only [cq.ok,Bool.and_eq_true] at hok
  obtain⟨I,h1,h2⟩:=h
  refine sx (ih V A st _ hok.2 hR h1) ?_
  rintro x st' ⟨V',A',g1,g2,g3⟩
  cases x with
  |normal=>
   obtain⟨Vc,A2,p1,p2,p3⟩:=JD g1 hok.1 g3 h2
   exact⟨Vc,A2,p2,g2.trans p3,p1⟩
  |exit i=>exact⟨V',A',g1,g2,g3⟩
  |ret=>exact⟨V',A',g1,g2,g3⟩
theorem JJ {A:ee} {H:cw} {nx:Nat}:∀(ts:List TV) (as:List AV) (i:Nat) (V:cg) (e:Env),p_ ts as->R A V ⟨e,H,nx⟩->R A (Qa ts i V) ⟨je as i e,H,nx⟩
 |[],as,i,V,e,hc,hR=>by
  have:as=[]:=List.length_eq_zero_iff.1 hc.1.symm
  subst this;exact hR
 |t::ts,[],i,V,e,hc,hR=>by cases hc.1
 |t::ts,a::as,i,V,e,hc,hR=>by
  refine JJ ts as (i+1) _ _ ⟨Nat.succ.inj hc.1,fun j u x hu hx=>hc.2 (j+1) u x hu hx⟩ ?_
  exact hR.put (e:=⟨none,.tr t⟩) (v:=a) (fun _=>.tr (hc.2 0 t a rfl rfl))
theorem K4 {A:ee} {V:cg} {st:St} (hR:R A V st) {r:wz} {k:TV->Prop} (h:Em V r k) (d:Nat):∃v t a,mz st.env st.H r=some v/\dw (d+4) st.H v=some a/\Can t a/\k t:=by
 cases r with
 |tmp t=>
  simp only [Em] at h
  obtain⟨w,hw,h⟩:=gj (g:=none) hR trivial h
  obtain⟨t',a,h1,h2,h3,h4⟩:=Ei hR hw h d
  exact⟨_,t',a,rfl,h1,h2,h4⟩
 |cell t sz=>
  simp only [Em] at h
  obtain⟨w,hw,h⟩:=gj (g:=none) hR trivial h
  generalize he:ev st.env (.t t)=p at hw
  cases hw with
  |@ptr O off id hO=>
   simp only at h
   split at h
   rotate_left
   ·cases h
   rename_i v ovs ho
   obtain⟨y,hy,id',cs,ts,rfl,hH,hc⟩:=hR.heap O _ ho
   rw [hO] at hy;cases hy
   have fin:∀{l:List AV} {v' t' a:_},cut cs off (gC sz)=some l->Lf sz l=some v'->dw (d+4) st.H v'=some a->Can t' a->k t'->∃v t_1 a,mz st.env st.H (.cell t sz)=some v/\dw (d+4) st.H v=some a/\Can t_1 a/\k t_1:=by
    intro l v' t' a h1 h2 h3 h4 h5
    refine⟨v',t',a,?_,h3,h4,h5⟩
    simp only [mz,he,jf,hH,cond_eq_ite,Nat.beq_eq,if_pos,h1]
    exact h2
   split at h
   ·split at h
    ·rename_i w hw
     have hlt:=hc.keys _ _ hw
     have hx:cs[off]?=some (cs[off]'(by rw [←hc.len];exact hlt)):=List.getElem?_eq_getElem _
     have hs:=hc.at_ off _ _ (List.getElem?_eq_getElem hlt) hx
     rw [hw] at hs
     obtain⟨es,a',g1,g2,g3,g4,g5⟩:=Cb hR hs h (d+1)
     exact fin (Av hx) rfl g1 g2 g5
    ·rename_i ho'
     obtain⟨u,h1,h2⟩:=h
     obtain⟨x,h3,h4,h5⟩:=At hc h1 ho'
     exact fin h3 rfl (Ad h5 _ _) h4 h2
   ·rename_i n
    obtain⟨u,h1,h2⟩:=h
    obtain⟨l,ls,h3,h4,h5⟩:=oE hc h1
    obtain⟨u',us,cs',g1,g2,g3,g4,g5,g6⟩:=Dx hR h5 h2 d
    obtain⟨l',rfl⟩:=g5 _ h4
    cases g2
    exact fin h3 rfl (by rw [oo,g1]) (.a _ _ g3.1.1 g3.2 g3.1.2) g4
  |_=>cases h
theorem EY {A:ee} {V:cg} {st:St} (hR:R A V st) (d:Nat):∀(rs:List wz) (k:List TV->Prop),TJ V rs k->∃vs ts as,lN (mz st.env st.H) rs=some vs/\lN (dw (d+4) st.H) vs=some as/\p_ ts as/\k ts
 |[],k,h=>⟨[],[],[],rfl,rfl,⟨rfl,fun j t x ht=>by simp at ht⟩,h⟩
 |r::rs,k,h=>by
  obtain⟨v,t,a,h1,h2,h3,h4⟩:=K4 hR h d
  obtain⟨vs,ts,as,g1,g2,g3,g4⟩:=EY hR d rs _ h4
  refine⟨v::vs,t::ts,a::as,by rw [ic,h1,g1],by rw [ic,h2,g2],⟨by simp [g3.1],fun j u x hu hx=>?_⟩,g4⟩
  cases j with
  |zero=>simp at hu hx;subst hu;subst hx;exact h3
  |succ j=>exact g3.2 j u x (by simpa using hu) (by simpa using hx)
theorem Df:∀{ts:List TV},bw ts->∀t∈ts,t.jn=false
 |[],_,t,ht=>by cases ht
 |x::ts,h,t,ht=>by
  rcases List.mem_cons.1 ht with rfl|ht
  ·exact h.1
  ·exact Df h.2 t ht
theorem FW {t:TV} {a:AV} (h:Can t a) (ht:t.jn=false):a.qg=true:=by
 cases h with
 |a ts as hl hf h=>exact cx.2 hf
 |tp ts as hl hf h=>cases ht
 |BK x u hf h=>exact(MJ (ES hf)).2.2
 |_=>rfl
theorem Wc {f:Nat} {af:bk} {vc:cq} {ts:List TV} {Q:TV->Prop} (hf:prog.get f=some af) (hc:vc.code=af.body) (hok:vc.ok=true) (hl:ts.length=af.params) (hsh:vi prog sh) (h:Y1 sh prog af vc ts Q):VS prog f ts Q:=by
 intro as ha
 have h0:R (fun _=>none) V0 ⟨.leaf,.leaf,0⟩:=⟨fun t e he=>(by cases he),fun O o ho=>(by cases ho),fun O O' o o' a a' id ho=>(by cases ho),fun _ _=>rfl,fun O a ha=>(by cases ha),fun id o ho=>(by cases ho),fun O o a ho=>(by cases ho)⟩
 have hR:=JJ ts as 0 V0 .leaf ha h0
 have hw:=MQ hsh (nt:=af.nt) vc _ _ _ _ hok hR h
 rw [hc] at hw
 obtain⟨⟨v,H',nx'⟩,h1,h2⟩:=Lx (r:=fun p=>∃a,dw deep p.2.1 p.1=some a/\∃r,Can r a/\Q r) hf (by rw [←ha.1];exact hl) (sx hw (by
  rintro x st' ⟨V',A',g1,g2,g3,g4⟩
  refine⟨(by cases x<;>first|exact .inl rfl|exact .inr rfl|cases g3),?_⟩
  obtain⟨vs,rs,as',p1,p2,p3,p4,p5⟩:=EY g1 25 af.res _ g4
  have many:vs.length≠1->∃v,zd af.res st'=some v/\∃a,dw deep v.2.1 v.1=some a/\∃r,Can r a/\Q r:=by
   intro hne
   have hl1:=(qh p2).1
   have hlr:rs.length=vs.length:=by rw [p3.1,hl1]
   have e1:zd af.res st'=some (.qd vs,st'.H,st'.nx):=by
    unfold zd
    rw [p1]
    match vs,hne with
    |[],_=>rfl
    |[_],h=>exact absurd rfl h
    |_::_::_,_=>rfl
   have e2:XM rs=.tp rs:=by
    match rs,hlr with
    |[],_=>rfl
    |[_],h=>exact absurd h.symm hne
    |_::_::_,_=>rfl
   have e3:bw rs:=by
    match rs,hlr,p4 with
    |[],_,_=>trivial
    |[_],h,_=>exact absurd h.symm hne
    |_::_::_,_,h=>exact h
   refine⟨_,e1,.qd as',?_,_,?_,by rw [e2] at p5;exact p5⟩
   ·show dw (29+1) _ _=_
    rw [s_]
    have p2':lN (dw 29 st'.H) vs=some as':=p2
    rw [p2']
   ·refine .tp _ _ p3.1 (fun x hx=>?_) p3.2
    obtain⟨j,hj⟩:=List.getElem?_of_mem hx
    have hlt:j < rs.length:=by rw [p3.1];exact(List.getElem?_eq_some_iff.1 hj).1
    exact FW (p3.2 j _ x (List.getElem?_eq_getElem hlt) hj) (Df e3 _ (List.getElem_mem hlt))
  by_cases hv:vs.length=1
  ·obtain⟨vs',rs',as2,q1,q2,q3,q5⟩:=EY g1 26 af.res _ g4
   rw [p1] at q1;cases q1
   obtain⟨v,rfl⟩:=List.length_eq_one_iff.1 hv
   have hl1:=(qh q2).1
   obtain⟨a,rfl⟩:=List.length_eq_one_iff.1 hl1.symm
   obtain⟨r,rfl⟩:=List.length_eq_one_iff.1 (show rs'.length=1 by rw [q3.1];rfl)
   refine⟨(v,st'.H,st'.nx),by unfold zd;rw [p1],a,?_,r,q3.2 0 r a rfl rfl,q5.2⟩
   rw [ic] at q2
   show dw (26+4) st'.H v=some a
   cases hh:dw (26+4) st'.H v with
   |none=>rw [hh] at q2;cases q2
   |some y=>rw [hh] at q2;cases q2;rfl
  ·exact many hv))
 exact⟨v,H',nx',h1,h2⟩
end
end Go.Ax.V

namespace Go.Ax.V
def dOk (p:Nat->Bool) (d:Option Nat):Bool:=match d with
 |some d=>!p d
 |none=>true
def S8 (p:Nat->Bool) (o:cj):Bool:=dOk p o.dst
noncomputable def Mr (p:Nat->Bool) (l:List cj):Bool:=gJ (S8 p) l
noncomputable def De (p:Nat->Bool) (c:ku):Bool:=
 ku.rec (motive:=fun _=>Bool) true (fun ops=>Mr p ops) (fun ops _ _=>Mr p ops) (fun _ _ a b=>a&&b) (fun _ _ _ a b=>a&&b) (fun _ _ a=>a) (fun _ a=>a) (fun _=>true) true c
def oH (p:Nat->Bool) (e e':Env):Prop:=∀t,p t=true->e'.get t=e.get t
theorem oH.refl (p:Nat->Bool) (e:Env):oH p e e:=fun _ _=>rfl
theorem oH.trans {p:Nat->Bool} {a b c:Env} (h:oH p a b) (h':oH p b c):oH p a c:=fun t ht=>(h' t ht).trans (h t ht)
section
variable {prog:Map bk} {cf:qc} {nt np:Nat} {p:Nat->Bool}
theorem AW {e e':Env} {d:Option Nat} {v:AV} (h:C9 nt e d v=some e') (hd:dOk p d=true):oH p e e':=by
 cases d with
 |none=>cases h;exact oH.refl _ _
 |some d=>
  simp only [C9,cond_eq_ite] at h
  split at h
  ·cases h
   intro t ht
   have hd':p d=false:=by simpa [dOk] using hd
   rw [Map.bt,if_neg]
   rintro rfl;rw [hd'] at ht;cases ht
  ·cases h
theorem KR {o:cj} {st st':St} (ho:S8 p o=true) (h:qa cf nt o st=some st'):oH p st.env st'.env:=by
 simp only [qa,cond_eq_ite] at h
 split at h
 ·split at h
  ·cases h
  ·split at h
   ·rename_i e he;cases h;exact AW he ho
   ·cases h
 ·split at h
  ·rename_i e he;cases h;exact AW he ho
  ·cases h
theorem DI:∀{l:List cj} {st st':St},Mr p l=true->oP cf nt l st=some st'->oH p st.env st'.env
 |[],st,st',ho,h=>by cases h;exact oH.refl _ _
 |o::l,st,st',ho,h=>by
  have ho':=cx.1 ho
  rw [ou] at h
  split at h
  ·rename_i st1 h1
   exact(KR (ho' o List.mem_cons_self) h1).trans (DI (cx.2 fun x hx=>ho' x (List.mem_cons_of_mem _ hx)) h)
  ·cases h
theorem Cf {n0:Nat}:∀{l:List cj} {st st':St} {rs:List Rec},Mr p l=true->k9 cf nt n0 l st=some (st',rs)->oH p st.env st'.env
 |[],st,st',rs,ho,h=>by cases h;exact oH.refl _ _
 |o::l,st,st',rs,ho,h=>by
  have ho':=cx.1 ho
  have h0:=ho' o List.mem_cons_self
  simp only [k9] at h
  split at h
  ·cases h
  rename_i st1 r h1
  split at h
  ·cases h
  rename_i st2 l2 h2
  cases h
  refine oH.trans ?_ (Cf (cx.2 fun x hx=>ho' x (List.mem_cons_of_mem _ hx)) h2)
  simp only [gp,cond_eq_ite] at h1
  split at h1
  ·split at h1
   ·cases h1
   ·split at h1
    ·cases h1
    ·rename_i e he;cases h1;exact AW he h0
  ·split at h1
   ·cases h1
   ·rename_i e he;cases h1;exact AW he h0
theorem gZ:∀(k:Nat) (c:ku) (st:St) (x:gS) (st':St),De p c=true->(interp prog k).code nt c st=some (x,st')->oH p st.env st'.env
 |0,c,st,x,st',hc,h=>by cases h
 |k+1,c,st,x,st',hc,h=>by
  have h':dr (interp prog k).code (interp prog k).fn nt c st=some (x,st'):=h
  cases c with
  |skip=>cases h';exact oH.refl _ _
  |exit id=>cases h';exact oH.refl _ _
  |ret=>cases h';exact oH.refl _ _
  |cr ops=>
   simp only [dr] at h'
   split at h'
   ·rename_i st1 h1;cases h';exact DI hc h1
   ·cases h'
  |d_ ops ahead pairs=>
   simp only [dr] at h'
   split at h'
   ·rename_i st1 h1
    cases h'
    simp only [k8] at h1
    split at h1
    ·cases h1
    ·rename_i st2 rs h2
     rw [cond_eq_ite] at h1
     split at h1
     ·cases h1;exact Cf hc h2
     ·cases h1
   ·cases h'
  |seq a b=>
   have hab:De p a=true/\De p b=true:=by have:(De p a&&De p b)=true:=hc;simpa using this
   simp only [dr] at h'
   split at h'
   ·rename_i st1 h1
    exact(gZ k a _ _ _ hab.1 h1).trans (gZ k b _ _ _ hab.2 h')
   ·exact gZ k a _ _ _ hab.1 h'
  |cond c a b=>
   have hab:De p a=true/\De p b=true:=by have:(De p a&&De p b)=true:=hc;simpa using this
   simp only [dr] at h'
   split at h'
   ·exact gZ k a _ _ _ hab.1 h'
   ·exact gZ k b _ _ _ hab.2 h'
   ·cases h'
  |block id c=>
   have hcc:De p c=true:=hc
   simp only [dr] at h'
   split at h'
   ·rename_i i st1 h1
    have:=gZ k c _ _ _ hcc h1
    rw [cond_eq_ite] at h'
    split at h'<;>(cases h';exact this)
   ·exact gZ k c _ _ _ hcc h'
  |loop c=>
   have hcc:De p c=true:=hc
   simp only [dr] at h'
   split at h'
   ·rename_i st1 h1
    exact(gZ k c _ _ _ hcc h1).trans (gZ k (.loop c) _ _ _ hc h')
   ·exact gZ k c _ _ _ hcc h'
theorem HQ {c:ku} {st:St} {x:gS} {st':St} (hc:De p c=true) (h:gK prog nt c st=some (x,st')):oH p st.env st'.env:=by
 obtain⟨k,hk⟩:=BI prog nt c st _ h
 exact gZ k c st x st' hc (hk k (Nat.le_refl _))
noncomputable def D9 (V:cg) (p:Nat->Bool) (np:Nat) (w:VV):cg:={V with env:=(V.env.upto p).put (some ⟨none,w⟩) np}
def kept (ks:List PK) (t:Nat):Bool:=match ks[t]? with
 |some .tr=>false
 |some _=>true
 |none=>false
def Bu (V:cg) (r:wz) (k:TV->Prop):Prop:=match r with
 |.tmp t=>ta V none (.t t) k
 |.cell t sz=>lM V none (.t t) fun w=>match w with
  |.ptr O off=>(match V.H.get O with
   |some (.ob v ovs)=>match sz with
    |none=>(match fc off ovs with
     |some _=>False
     |none=>∃u,bh v off=some u/\k u)
    |some n=>(match v8 off n ovs with
     |[]=>∃u,c8 v off n=some u/\k u
     |_::_=>False)
   |_=>False)
  |_=>False
def Ci (V:cg):List wz->(List TV->Prop)->Prop
 |[],k=>k []
 |r::rs,k=>Bu V r fun v=>Ci V rs fun vs=>k (v::vs)
noncomputable def Fc (V:cg) (t:Nat) (sz:Option Nat):List (Nat×VV):=match sz with
 |none=>[]
 |some n=>match ju V (.t t) with
  |.ptr O off=>(match V.H.get O with
   |some (.ob _ ovs)=>v8 off n ovs
   |_=>[])
  |_=>[]
def O5 (V:cg) (t:Nat) (sz:Option Nat) (k:VV->Prop):Prop:=match sz with
 |none=>False
 |some n=>lM V none (.t t) fun w=>match w with
  |.ptr O off=>(match V.H.get O with
   |some (.ob v ovs)=>∃u,c8 v off n=some u/\k (.st u (v8 off n ovs))
   |_=>False)
  |_=>False
noncomputable def K3 (V:cg) (p:Nat->Bool) (np:Nat) (rs:List wz) (k:cg->Prop):Prop:=match rs with
 |[.tmp t]=>lM V none (.t t) fun w=>k (D9 V p np w)
 |[.cell t sz]=>(match Fc V t sz with
  |[]=>Bu V (.cell t sz) fun v=>k (D9 V p np (.tr v))
  |_::_=>O5 V t sz fun w=>k (D9 V p np w))
 |rs=>Ci V rs fun vs=>bw vs/\k (D9 V p np (.tr (.tp vs)))
def Y0 (sh:Sh) (prog:Map bk) (af:bk) (vc:cq) (p:Nat->Bool) (np:Nat) (Jout:List AE) (Q:JT Jout Prop) (Vc:cg):Prop:=
 Oi sh prog af.nt vc Vc fun x V=>(match x with|.exit _=>False|_=>True)/\K3 V p np af.res fun V'=>E8 Jout V' Q
theorem EW {V:cg} {r:wz} {k k':TV->Prop} (h:Bu V r k) (hk:∀v,k v->k' v):Bu V r k':=by
 cases r with
 |tmp t=>
  simp only [Bu,ta,lM] at h ⊢
  split at h
  ·cases h
  ·split at h
   ·unfold IQ at h ⊢
    split at h
    ·exact hk _ h
    ·exact hk _ h
    ·obtain⟨u,h1,h2⟩:=h;exact⟨u,h1,hk _ h2⟩
    ·cases h
   ·cases h
 |cell t sz=>
  simp only [Bu,lM] at h ⊢
  split at h
  ·cases h
  ·split at h
   ·split at h
    ·split at h
     ·split at h
      ·split at h
       ·cases h
       ·obtain⟨u,h1,h2⟩:=h;exact⟨u,h1,hk _ h2⟩
      ·split at h
       ·obtain⟨u,h1,h2⟩:=h;exact⟨u,h1,hk _ h2⟩
       ·cases h
     ·cases h
    ·cases h
   ·cases h
theorem ET {V:cg}:∀{rs:List wz} {k k':List TV->Prop},Ci V rs k->(∀v,k v->k' v)->Ci V rs k'
 |[],k,k',h,hk=>hk _ h
 |r::rs,k,k',h,hk=>EW h fun v hv=>ET hv fun vs hvs=>hk _ hvs
theorem Yv {A:ee} {V:cg} {st:St} (hR:R A V st) {as:List AV} {p:Nat->Bool} {np:Nat} (hl:as.length=np) (hs:oH p (je as 0 .leaf) st.env) {w:VV} {v:AV} (hw:VR A w v):R A (D9 V p np w) ⟨(je as 0 .leaf).put (some v) np,st.H,st.nx⟩:=by
 refine⟨fun t e he=>?_,hR.heap,hR.inj,hR.used,hR.one,hR.fresh,hR.lZ⟩
 have he':((V.env.upto p).put (some ⟨none,w⟩) np).get t=some e:=he
 rw [Map.bt] at he'
 split at he'
 ·rename_i ht
  cases he'
  exact⟨v,by show ((je as 0 .leaf).put (some v) np).get t=_;rw [Map.bt,if_pos ht],fun _=>hw⟩
 ·rename_i hne
  rw [Map.oX] at he'
  split at he'
  ·rename_i hlt
   obtain⟨a,ha,hv⟩:=hR.env t e he'
   exact⟨a,by show ((je as 0 .leaf).put (some v) np).get t=_;rw [Map.bt,if_neg hne,←hs t hlt];exact ha,hv⟩
  ·cases he'
theorem GJ {A:ee} {V:cg} {st:St} (hR:R A V st) {r:wz} {k:TV->Prop} (h:Bu V r k):∃v t,mz st.env st.H r=some v/\Can t v/\k t:=by
 cases r with
 |tmp t=>
  obtain⟨u,h1,h2⟩:=gm (g:=none) hR trivial h
  exact⟨_,u,rfl,h1,h2⟩
 |cell t sz=>
  simp only [Bu] at h
  obtain⟨w,hw,h⟩:=gj (g:=none) hR trivial h
  generalize he:ev st.env (.t t)=p at hw
  cases hw with
  |@ptr O off id hO=>
   simp only at h
   split at h
   rotate_left
   ·cases h
   rename_i v ovs ho
   obtain⟨y,hy,id',cs,ts,rfl,hH,hc⟩:=hR.heap O _ ho
   rw [hO] at hy;cases hy
   have fin:∀{l:List AV} {v':AV} {t':TV},cut cs off (gC sz)=some l->Lf sz l=some v'->Can t' v'->k t'->∃v t_1,mz st.env st.H (.cell t sz)=some v/\Can t_1 v/\k t_1:=by
    intro l v' t' h1 h2 h3 h4
    refine⟨v',t',?_,h3,h4⟩
    simp only [mz,he,jf,hH,cond_eq_ite,Nat.beq_eq,if_pos,h1]
    exact h2
   split at h
   ·split at h
    ·cases h
    ·rename_i ho'
     obtain⟨u,h1,h2⟩:=h
     obtain⟨x,h3,h4,_⟩:=At hc h1 ho'
     exact fin h3 rfl h4 h2
   ·split at h
    ·rename_i ho'
     obtain⟨u,h1,h2⟩:=h
     obtain⟨l,ls,h3,h4,h5⟩:=oE hc h1
     rw [ho'] at h5
     exact fin h3 rfl (Ca h5 h4) h2
    ·cases h
  |_=>cases h
theorem Nn {A:ee} {V:cg} {st:St} (hR:R A V st) {t:Nat} {sz:Option Nat} {k:VV->Prop} (h:O5 V t sz k):∃v w,mz st.env st.H (.cell t sz)=some v/\VR A w v/\k w:=by
 cases sz with
 |none=>cases h
 |some n=>
  simp only [O5] at h
  obtain⟨w,hw,h⟩:=gj (g:=none) hR trivial h
  generalize he:ev st.env (.t t)=p at hw
  cases hw with
  |@ptr O off id hO=>
   simp only at h
   split at h
   rotate_left
   ·cases h
   rename_i v ovs ho
   obtain⟨y,hy,id',cs,ts,rfl,hH,hc⟩:=hR.heap O _ ho
   rw [hO] at hy;cases hy
   obtain⟨u,h1,h2⟩:=h
   obtain⟨l,ls,h3,h4,h5⟩:=oE hc h1
   refine⟨.agg l,_,?_,.st h4 h5,h2⟩
   simp only [mz,he,jf,hH,cond_eq_ite,Nat.beq_eq,if_pos,gC,h3]
   rfl
  |_=>cases h
theorem GI {A:ee} {V:cg} {st:St} (hR:R A V st):∀(rs:List wz) (k:List TV->Prop),Ci V rs k->∃vs ts,lN (mz st.env st.H) rs=some vs/\p_ ts vs/\k ts
 |[],k,h=>⟨[],[],rfl,⟨rfl,fun j t x ht=>by simp at ht⟩,h⟩
 |r::rs,k,h=>by
  obtain⟨v,t,h1,h2,h3⟩:=GJ hR h
  obtain⟨vs,ts,g1,g2,g3⟩:=GI hR rs _ h3
  refine⟨v::vs,t::ts,by rw [ic,h1,g1],⟨by simp [g2.1],fun j u x hu hx=>?_⟩,g3⟩
  cases j with
  |zero=>simp at hu hx;subst hu;subst hx;exact h2
  |succ j=>exact g2.2 j u x (by simpa using hu) (by simpa using hx)
theorem I_ {A:ee} {V:cg} {st:St} (hR:R A V st) {rs:List wz} {k:cg->Prop} (h:K3 V p np rs k):∃v w,zd rs st=some (v,st.H,st.nx)/\VR A w v/\k (D9 V p np w):=by
 have many:rs.length≠1->(Ci V rs fun vs=>bw vs/\k (D9 V p np (.tr (.tp vs))))->∃v w,zd rs st=some (v,st.H,st.nx)/\VR A w v/\k (D9 V p np w):=by
  intro hne h
  obtain⟨vs,ts,h1,h2,h3,h4⟩:=GI hR rs _ h
  have hl:=(qh h1).1
  refine⟨.qd vs,.tr (.tp ts),?_,.tr (.tp _ _ h2.1 (fun x hx=>?_) h2.2),h4⟩
  ·unfold zd
   rw [h1]
   match vs,(show vs.length≠1 by omega) with
   |[],_=>rfl
   |[_],hh=>exact absurd rfl hh
   |_::_::_,_=>rfl
  ·obtain⟨j,hj⟩:=List.getElem?_of_mem hx
   have hlt:j < ts.length:=by rw [h2.1];exact(List.getElem?_eq_some_iff.1 hj).1
   exact FW (h2.2 j _ x (List.getElem?_eq_getElem hlt) hj) (Df h3 _ (List.getElem_mem hlt))
 match rs,h,many with
 |[],h,many=>exact many (by simp) h
 |[.tmp t],h,many=>
  simp only [K3] at h
  obtain⟨w,hw,h⟩:=gj (g:=none) hR trivial h
  exact⟨_,w,rfl,hw,h⟩
 |[.cell t sz],h,many=>
  simp only [K3] at h
  split at h
  ·obtain⟨v,u,h1,h2,h3⟩:=GJ hR h
   exact⟨v,.tr u,by unfold zd;rw [ic,h1];rfl,.tr h2,h3⟩
  ·obtain⟨v,w,h1,h2,h3⟩:=Nn hR h
   exact⟨v,w,by unfold zd;rw [ic,h1];rfl,h2,h3⟩
 |r1::_::_,h,many=>exact many (by simp) (by cases r1<;>exact h)
theorem gW {sh:Sh} {f:Nat} {af:bk} {vc:cq} {Jout:List AE} {Q:JT Jout Prop} {Vc:cg} (hf:prog.get f=some af) (hc:vc.code=af.body) (hok:vc.ok=true) (hp:af.params=np) (hnw:De p af.body=true) (hsh:vi prog sh)
  (h:Y0 sh prog af vc p np Jout Q Vc):L5 prog f np Jout Q Vc:=by
 intro A as H nx hl hR
 obtain⟨x,st',h1,V',A',h2,h3,h4,h5⟩:=MQ hsh (nt:=af.nt) vc Vc A ⟨je as 0 .leaf,H,nx⟩ _ hok hR h
 have h1':=Eu prog af.nt _ _ _ h1
 rw [hc] at h1'
 have hsame:=HQ hnw h1'
 obtain⟨v,w,g1,g2,g3⟩:=I_ h2 h5
 refine⟨v,st'.H,st'.nx,A',_,HP ?_,Yv h2 hl hsame g2,g3,⟨h3.le,h3.same,fun id ⟨O,o,a,ho,ha,hi⟩=>h3.own id ⟨O,o,a,ho,ha,hi⟩⟩⟩
 have hl':as.length=af.params:=by rw [hl,hp]
 simp only [rz,hf,cond_eq_ite,Nat.beq_eq,if_pos hl',h1']
 cases x with
 |exit i=>cases h4
 |normal=>exact g1
 |ret=>exact g1
end
end Go.Ax.V

namespace Go.Ax.V
theorem Fy (prog:Map bk):∀k,DF (fun _=>fe prog) (interp prog k).fn/\F8 (fun _=>gK prog) (interp prog k).code
 |0=>⟨fun f args H nx r h=>(by cases h),fun nt c st r h=>(by cases h)⟩
 |k+1=>by
  obtain⟨h1,h2⟩:=Fy prog k
  constructor
  ·intro f args H nx r h
   obtain⟨k0,hk⟩:=Hj (prog:=prog) h2 f args H nx r h
   exact Ev.const (HP (hk k0 (Nat.le_refl _)))
  ·intro nt c st r h
   obtain⟨k0,hk⟩:=D3 h1 h2 nt c st r h
   exact Ev.const (lg (hk k0 (Nat.le_refl _)))
theorem Ge {prog:Map bk} {k f:Nat} {args:List AV} {H:cw} {nx:Nat} {r:AV×cw×Nat} (h:(interp prog k).fn f args H nx=some r):fe prog f args H nx=some r:=by
 obtain⟨k0,hk⟩:=(Fy prog k).1 f args H nx r h
 exact hk k0 (Nat.le_refl _)
theorem M_ {prog:Map bk} {k f:Nat} (h:isTrue ((interp prog k).fn f [] .leaf 0)=true):VS prog f [] (fun r=>r=.b true):=by
 intro as ha
 have:as=[]:=List.length_eq_zero_iff.1 ha.1.symm
 subst this
 obtain⟨H,nx,hr⟩:=DV h
 exact⟨_,H,nx,Ge hr,_,rfl,_,.b true,rfl⟩
theorem RC {prog:Map bk} {f:Nat} {ts:List TV} {as:List AV} (h:VS prog f ts (fun r=>r=.b true)) (ha:p_ ts as):isTrue (fe prog f as .leaf 0)=true:=by
 obtain⟨v,H,nx,h1,a,h2,r,h3,rfl⟩:=h as ha
 cases h3
 have:=JN (d:=29) h2 (fun _ _ _ h=>by cases h) (fun _ h=>by cases h) (fun _ h=>by cases h)
 subst this
 rw [h1]
 rfl
theorem CS:p_ [] []:=⟨rfl,fun j t x ht=>by simp at ht⟩
theorem Dz {t:TV} {x:AV} {ts:List TV} {as:List AV} (h:Can t x) (hs:p_ ts as):p_ (t::ts) (x::as):=by
 refine⟨by simp [hs.1],fun j u y hu hy=>?_⟩
 cases j with
 |zero=>simp at hu hy;subst hu;subst hy;exact h
 |succ j=>exact hs.2 j u y (by simpa using hu) (by simpa using hy)
theorem AG {n:Int} (h1:-9223372036854775808<=n) (h2:n < 9223372036854775808):oJ .i64 n=n:=by
 unfold oJ
 have:S2 .i64 n=true:=by
  cases n with
  |ofNat m=>have h2':(m:Int) < 9223372036854775808:=h2;simp only [S2];simp;omega
  |negSucc m=>simp only [S2];simp;omega
 rw [this];rfl
end Go.Ax.V

namespace Go.Ax.V
theorem b_ {t:Bool} {a b:Prop} (h:t=true) (ha:a):ak (.b t) a b:=by subst h;exact ha
theorem bp {t:Bool} {a b:Prop} (h:t=false) (hb:b):ak (.b t) a b:=by subst h;exact hb
theorem aa {t:Bool} {a b:Prop} (ha:t=true->a) (hb:t=false->b):ak (.b t) a b:=by
 cases t with
 |true=>exact ha rfl
 |false=>exact hb rfl
theorem Nc {a b:TV} (ha:a.jn=false) (hb:b.jn=false):b7 [a,b]:=⟨ha,hb,trivial⟩
theorem bx {prog:Map bk} {f:Nat} {ts:List TV} {c:TV} {K:TV->Prop} (h:VS prog f ts (fun r=>r=c)) (hk:K c):VS prog f ts (fun r=>bz true r/\K r):=
 h.mono (fun r hr=>by subst hr;exact⟨trivial,hk⟩)
theorem ax {t bb:Bool} {P:TV->Prop} {k:TV->Prop} {v:TV} (ht:t=bb) (hp:P v) (hk:k v):∃v,gV (.b t) bb P v/\k v:=by
 subst ht
 refine⟨v,?_,hk⟩
 unfold gV
 cases t<;>exact hp
theorem bu {t bb:Bool} {P:TV->Prop} {k:TV->Prop} (ht:t=!bb) (hk:k qv):∃v,gV (.b t) bb P v/\k v:=by
 subst ht
 refine⟨qv,?_,hk⟩
 unfold gV
 cases bb<;>rfl
theorem Bk {bb:Bool} {P:TV->Prop} {k:TV->Prop} (hk:k qv):∃v,gV qv bb P v/\k v:=⟨qv,rfl,hk⟩
end Go.Ax.V

namespace Go.Ax.V
def cq.flat:cq->Bool
 |.skip=>true
 |.cr _=>true
 |.seq a b=>a.flat&&b.flat
 |.cond _ a b=>a.flat&&b.flat
 |.block _ c=>c.flat
 |.exit _=>true
 |.ret=>true
 |_=>false
def Mh (V:cg) (rs:List wz) (k:VV->Prop):Prop:=match rs with
 |[.tmp t]=>lM V none (.t t) k
 |[.cell t sz]=>Bu V (.cell t sz) fun v=>k (.tr v)
 |rs=>Ci V rs fun vs=>bw vs/\k (.tr (.tp vs))
noncomputable def inlT (sh:Sh) (prog:Map bk) (af:bk) (vc:cq) (V:cg) (ws:List VV) (k:VV->cg->Prop):Prop:=
 Oi sh prog af.nt vc {V with env:=D1 ws 0 .leaf} fun x V'=>(match x with|.exit _=>False|_=>True)/\Mh V' af.res fun w=>k w {V' with env:=V.env}
section
variable {sh:Sh} {prog:Map bk} {nt:Nat}
theorem Ql (hsh:vi prog sh):∀(c:cq) (V:cg) (A:ee) (st:St) (k:gS->cg->Prop),c.flat=true->R A V st->Oi sh prog nt c V k->
  WC (fe prog) (gK prog) nt c.code st (fun x st'=>∃V' A',R A' V' st'/\Fr V A st.H st.nx V' A' st'.H st'.nx/\Ext V A V' A'/\k x V'):=by
 intro c
 induction c with
 |skip=>intro V A st k _ hR h;exact L9 ⟨V,A,hR,Fr.refl _ _ _ _,Ext.refl _ _,h⟩
 |exit id=>intro V A st k _ hR h;exact L_ ⟨V,A,hR,Fr.refl _ _ _ _,Ext.refl _ _,h⟩
 |ret=>intro V A st k _ hR h;exact Ou ⟨V,A,hR,Fr.refl _ _ _ _,Ext.refl _ _,h⟩
 |d_ ops ahead pairs=>intro V A st k hf;cases hf
 |loop J c ih=>intro V A st k hf;cases hf
 |join J c ih=>intro V A st k hf;cases hf
 |cr ops=>
  intro V A st k _ hR h
  obtain⟨st',h1,V',A',h2,h3,h4,h5⟩:=FG hsh hR h
  exact Ov ⟨st',h1,V',A',h2,h3,h4,h5⟩
 |seq a b iha ihb=>
  intro V A st k hok hR h
  simp only [cq.flat,Bool.and_eq_true] at hok
  refine Ot (sx (iha V A st _ hok.1 hR h) ?_)
  rintro x st' ⟨V',A',h1,h2,hx,h3⟩
  cases x with
  |normal=>
   refine sx (ihb V' A' st' k hok.2 h1 h3) ?_
   rintro y st2 ⟨V2,A2,g1,g2,gx,g3⟩
   exact⟨V2,A2,g1,h2.trans g2,hx.trans gx,g3⟩
  |exit i=>exact⟨V',A',h1,h2,hx,h3⟩
  |ret=>exact⟨V',A',h1,h2,hx,h3⟩
 |cond c a b iha ihb=>
  intro V A st k hok hR h
  simp only [cq.flat,Bool.and_eq_true] at hok
  obtain⟨cv,hc,h⟩:=gm (g:=none) hR trivial h
  unfold ak at h
  split at h
  ·rename_i x
   generalize he:ev st.env c=p at hc
   cases hc
   cases x with
   |true=>exact B2 he (iha V A st k hok.1 hR h)
   |false=>exact Bp he (ihb V A st k hok.2 hR h)
  ·cases h
 |block id c ih=>
  intro V A st k hok hR h
  refine IL (sx (ih V A st _ hok hR h) ?_)
  rintro x st' ⟨V',A',h1,h2,hx,h3⟩
  cases x with
  |normal=>exact⟨V',A',h1,h2,hx,h3⟩
  |ret=>exact⟨V',A',h1,h2,hx,h3⟩
  |exit i=>
   simp only [Ix]
   simp only [cond_eq_ite,Nat.beq_eq] at h3
   by_cases hi:i=id
   ·rw [if_pos hi] at h3 ⊢;exact⟨V',A',h1,h2,hx,h3⟩
   ·rw [if_neg hi] at h3 ⊢;exact⟨V',A',h1,h2,hx,h3⟩
theorem Nm {A:ee} {V:cg} {st:St} (hR:R A V st) {rs:List wz} {k:VV->Prop} (h:Mh V rs k):∃v w,zd rs st=some (v,st.H,st.nx)/\VR A w v/\k w:=by
 have h':K3 V (fun _=>false) 0 rs fun V'=>∃w,V'=D9 V (fun _=>false) 0 w/\k w:=by
  match rs,h with
  |[],h=>obtain⟨h1,h2⟩:=h;exact⟨h1,_,rfl,h2⟩
  |[.tmp t],h=>
   simp only [Mh,K3,lM] at h ⊢
   split at h
   ·cases h
   ·split at h
    ·exact⟨_,rfl,h⟩
    ·cases h
  |[.cell t sz],h=>
   simp only [Mh] at h
   have h2:Fc V t sz=[]\/∃q r,Fc V t sz=q::r:=by cases Fc V t sz<;>simp
   rcases h2 with h2|⟨q,r,h2⟩
   ·simp only [K3,h2]
    exact EW h fun v hv=>⟨_,rfl,hv⟩
   ·exfalso
    simp only [Fc] at h2
    cases sz with
    |none=>cases h2
    |some n=>
     simp only [Bu,lM,ju] at h h2
     split at h
     ·cases h
     rename_i e he
     rw [he] at h2
     split at h
     ·split at h
      ·rename_i O off hw
       simp only [hw] at h2
       split at h
       ·rename_i ho
        rw [ho] at h2
        split at h
        ·rename_i hh;simp only [hh] at h2;cases h2
        ·cases h
       ·cases h
      ·cases h
     ·cases h
  |r1::r2::rs,h=>
   have h2:Ci V (r1::r2::rs) fun vs=>bw vs/\k (.tr (.tp vs)):=by cases r1<;>exact h
   have h3:Ci V (r1::r2::rs) fun vs=>bw vs/\∃w,D9 V (fun _=>false) 0 (.tr (.tp vs))=D9 V (fun _=>false) 0 w/\k w:=ET h2 fun vs hv=>⟨hv.1,_,rfl,hv.2⟩
   cases r1<;>exact h3
 obtain⟨v,w,h1,h2,w',h3,h4⟩:=I_ (np:=0) hR h'
 have hw:(some (⟨none,w⟩:VE))=some ⟨none,w'⟩:=by
  have e:=congrArg (fun V=>V.env.get 0) h3
  simpa only [D9,Map.bt,if_pos] using e
 cases hw
 exact⟨v,w,h1,h2,h4⟩
noncomputable def Si (sh:Sh) (prog:Map bk) (af:bk) (vc:cq) (np:Nat) (V:cg) (ws:List VV) (k:VV->cg->Prop):Prop:=match Nat.beq ws.length np with
 |true=>inlT sh prog af vc V ws k
 |false=>False
noncomputable def _root_.Go.Ax.V.Sh.add (sh:Sh) (f:Nat) (T:cg->List VV->(VV->cg->Prop)->Prop):Sh:={sh with inl:=fun g=>bif Nat.beq g f then some T else sh.inl g}
noncomputable def _root_.Go.Ax.V.Sh.cut (sh:Sh) (tc:Nat->List Nat) (gc:Nat->Nat) (pn:Nat->List (Nat×Nat)):Sh:={sh with tc:=tc,gc:=gc,pn:=pn}
theorem OK {f:Nat} {T:cg->List VV->(VV->cg->Prop)->Prop} (h:vi prog sh) (hi:VF prog f T):vi prog (sh.add f T):=by
 refine⟨h.vs,fun g T' hg=>?_⟩
 simp only [Sh.add,cond_eq_ite,Nat.beq_eq] at hg
 split at hg
 ·rename_i e;subst e;cases hg;exact hi
 ·exact h.inl g T' hg
theorem Ts {tc:Nat->List Nat} {gc:Nat->Nat} {pn:Nat->List (Nat×Nat)} (h:vi prog sh):vi prog (sh.cut tc gc pn):=⟨h.vs,h.inl⟩
theorem P_ {f:Nat} {af:bk} {vc:cq} (hf:prog.get f=some af) (hc:vc.code=af.body) (hok:vc.flat=true) (hsh:vi prog sh) {np:Nat} (hp:af.params=np) :
  VF prog f (Si sh prog af vc np):=by
 rintro A V st ws as k hR hl hw h
 unfold Si at h
 split at h
 rotate_left
 ·cases h
 rename_i hn
 rw [Nat.beq_eq] at hn
 have hR':R A {V with env:=D1 ws 0 .leaf} ⟨je as 0 .leaf,st.H,st.nx⟩:=Yw hR hl hw
 obtain⟨x,st',h1,V',A',h2,h3,hx,h4,h5⟩:=Ql hsh (nt:=af.nt) vc _ A ⟨je as 0 .leaf,st.H,st.nx⟩ _ hok hR' h
 have h1':=Eu prog af.nt _ _ _ h1
 rw [hc] at h1'
 obtain⟨v,w,g1,g2,g3⟩:=Nm h2 h5
 refine⟨v,st'.H,st'.nx,A',{V' with env:=V.env},w,HP ?_,⟨fun t e he=>?_,h2.heap,h2.inj,h2.used,h2.one,h2.fresh,h2.lZ⟩,g2,⟨hx.mono,hx.new,hx.ev.us,hx.ev.gn⟩,⟨h3.le,h3.same,fun id ⟨O,o,a,ho,ha,hi⟩=>h3.own id ⟨O,o,a,ho,ha,hi⟩⟩,g3⟩
 ·have hl':as.length=af.params:=by rw [←hl,hn,hp]
  simp only [rz,hf,cond_eq_ite,Nat.beq_eq,if_pos hl',h1']
  cases x with
  |exit i=>cases h4
  |normal=>exact g1
  |ret=>exact g1
 ·obtain⟨a,ha,hv⟩:=hR.env t e he
  exact⟨a,ha,fun hh=>(hv hh).mono hx.mono⟩
end
end Go.Ax.V
