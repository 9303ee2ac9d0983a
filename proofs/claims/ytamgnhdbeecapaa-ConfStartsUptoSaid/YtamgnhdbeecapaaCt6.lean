/- Part 6 of the proof: V3, V4, V5, V6, V7, V8, V9, V10, V12, VS, V11, VD. -/
import Derived.Test.YtamgnhdbeecapaaCt5
set_option linter.unusedSimpArgs false
set_option linter.unusedVariables false
namespace Go.Ax.V
theorem FE {g:G} (ha:act g) {P k:TV->Prop} (h:P8 g P k):∃v,P v/\k v:=by
 cases g with
 |none=>exact h
 |some p=>obtain⟨c,bb⟩:=p;obtain⟨v,h1,h2⟩:=h;have hc:c=.b bb:=ha;subst hc;refine⟨v,?_,h2⟩;unfold gV at h1;cases bb<;>exact h1
theorem yc {g:G} (ha:act g) {P:Option Nat} {k:Nat->Prop} (h:JW g P k):∃n,P=some n/\k n:=by
 cases g with
 |none=>exact h
 |some p=>obtain⟨c,bb⟩:=p;obtain⟨n,h1,h2⟩:=h;exact⟨n,h1 ha,h2⟩
def Next (nt:Nat) (A:ei) (V:bt) (st:St) (d:Option Nat) (v:AV) (H':ck) (nx':Nat) (k:bt->Prop):Prop:=
 ∃e',DK nt st.env d v=some e'/\∃V' A',R A' V' ⟨e',H',nx'⟩/\Fr V A st.H st.nx V' A' H' nx'/\Ext V A V' A'/\k V'
theorem R.put {A:ei} {V:bt} {st:St} (h:R A V st) {d:Nat} {e:VE} {v:AV} (hv:(∀c bb,e.gd=some (c,bb)->c=.b bb)->VR A e.v v) :
  R A {V with env:=V.env.put (some e) d} ⟨st.env.put (some v) d,st.H,st.nx⟩ where
 env t e' he:=by
  simp only [Map.bk] at he ⊢;split at he
  ·rename_i ht;subst ht;cases he;exact⟨v,by rw [if_pos rfl],hv⟩
  ·rename_i ht;rw [if_neg ht];exact h.env t e' he
 heap:=h.heap
 inj:=h.inj
 used:=h.used
 one:=h.one
 fresh:=h.fresh
 nh:=h.nh
theorem yd {nt:Nat} {A:ei} {V:bt} {st:St} {A1:ei} {V1:bt} {H':ck} {nx':Nat} {d:Option Nat} {g:G} {w:VV} {v:AV} {k:bt->Prop}
  (hR:R A1 V1 ⟨st.env,H',nx'⟩) (hF:Fr V A st.H st.nx V1 A1 H' nx') (hx:Ext V A V1 A1) (hv:act g->VR A1 w v) (h:jb nt V1 d g w k):Next nt A V st d v H' nx' k:=by
 cases d with
 |none=>exact⟨st.env,rfl,V1,A1,hR,hF,hx,h⟩
 |some d=>
  simp only [jb,cond_eq_ite] at h;split at h
  ·rename_i hd;refine⟨st.env.put (some v) d,by simp only [DK,cond_eq_ite,if_pos hd],_,A1,hR.put (e:=⟨g,w⟩) (fun hh=>hv ?_),⟨hF.le,hF.same,hF.own⟩,⟨hx.mono,hx.new,hx.ev.us,hx.ev.gn⟩,h⟩;cases g with
   |none=>trivial
   |some p=>exact hh _ _ rfl
  ·cases h
theorem bw {nt:Nat} {A:ei} {V:bt} {st:St} (hR:R A V st) {d:Option Nat} {g:G} {w:VV} {v:AV} {k:bt->Prop} (hv:act g->VR A w v) (h:jb nt V d g w k):Next nt A V st d v st.H st.nx k:=
 yd (A1:=A) (V1:=V) hR (Fr.refl _ _ _ _) (Ext.refl _ _) hv h
theorem dr {nt:Nat} {A:ei} {V:bt} {st:St} (hR:R A V st) {d:Option Nat} {g:G} (ha:act g) {P:Option TV} {k:bt->Prop} (h:lD nt V d g P k) :
  ∃r,P=some r/\∀v,Can r v->Next nt A V st d v st.H st.nx k:=by
 obtain⟨r,h1,h2⟩:=FE ha h;exact⟨r,h1,fun v hv=>bw hR (fun _=>.tr hv) h2⟩
theorem R.sub {A:ei} {V V':bt} {st:St} (h:R A V st) (he:V'.env=V.env) (hu:V'.us=V.us) (hH:∀O o,V'.H.get O=some o->V.H.get O=some o):R A V' st where
 env t e hh:=h.env t e (by rw [←he];exact hh)
 heap O o hh:=h.heap O o (hH O o hh)
 inj O O' o o' a a' id h1 h2:=h.inj O O' o o' a a' id (hH _ _ h1) (hH _ _ h2)
 used O hh:=h.used O (by rw [←hu];exact hh)
 one:=h.one
 fresh:=h.fresh
 nh O o a ho ha:=h.nh O o a (hH _ _ ho) ha
theorem lq {V:bt} {O O':Nat} {o:VO} (h:(f_ V O).H.get O'=some o):O'≠O/\V.H.get O'=some o:=by
 simp only [f_,Map.bk] at h;split at h
 ·cases h
 ·rename_i hne;exact⟨hne,h⟩
theorem R.f_ {A:ei} {V:bt} {st:St} (h:R A V st) (O:Nat):R A (f_ V O) st:=
 h.sub rfl rfl (fun O' o hh=>(lq hh).2)
def yq (A:ei) (d:Nat) (a:AV) (inn:Nat->Option AV):ei
 |.s O=>if O=d then some a else A (.s O)
 |.i K v j=>if K=d then (if v=0 then inn j else none) else A (.i K v j)
theorem z9 {A:ei} {d:Nat} {a:AV} {inn:Nat->Option AV}:yq A d a inn (.s d)=some a:=if_pos rfl
theorem mb {A:ei} {d:Nat} {a:AV} {inn:Nat->Option AV} {n:TN} (h:n.base≠d):yq A d a inn n=A n:=by cases n<;>exact if_neg h
theorem Rj {A:ei} {d:Nat} {a:AV} {inn:Nat->Option AV} {j:Nat}:yq A d a inn (.i d 0 j)=inn j:=by simp only [yq,if_pos]
theorem NG {A:ei} {d:Nat} {a:AV} {inn:Nat->Option AV} {v j:Nat} (hv:0 < v):yq A d a inn (.i d v j)=none:=by simp only [yq,if_pos,if_neg (show ¬v=0 by omega)]
theorem D4 {A:ei} {d:Nat} {a:AV} {inn:Nat->Option AV} (h:∀n:TN,n.base=d->A n=none):∀O x,A O=some x->yq A d a inn O=some x:=fun O x hx=>by rw [mb (fun he=>by rw [h O he] at hx;cases hx)];exact hx
theorem A8 {A:ei} {d:Nat} {a:AV} {inn:Nat->Option AV} {O:Nat} {o:VO} {x:AV} {id:Nat} (hne:O≠d) (hv:su A O x o):j_ (yq A d a inn) o x id↔j_ A o x id:=by
 cases o with
 |gn K s io iz ver hole es=>
  obtain⟨rfl,_⟩:=hv;have e:∀j,yq A d a inn (.i K ver j)=A (.i K ver j):=fun j=>mb hne
  simp only [j_,e]
 |_=>exact Iff.rfl
theorem Ri {A:ei} {d:Nat} {a:AV} {inn:Nat->Option AV} {O:Nat} {o:VO} {x:AV} (hne:O≠d) (hv:su A O x o):su (yq A d a inn) O x o:=by
 cases o with
 |gn K s io iz ver hole es=>
  obtain⟨rfl,h1,h0,h2,h3⟩:=hv;have e:∀v j,yq A d a inn (.i K v j)=A (.i K v j):=fun v j=>mb hne
  refine⟨rfl,fun v j hv=>by rw [e];exact h1 v j hv,fun j x=>by rw [e];exact h0 j x,fun j j' x x' id=>?_,fun j x id=>?_⟩
  ·rw [e,e];exact h2 j j' x x' id
  ·rw [e];exact h3 j x id
 |_=>trivial
theorem T9 {A:ei} {V:bt} {e:Env} {H':ck} {nx':Nat} {d:Nat} {o:VO} {a:AV} {inn:Nat->Option AV} (qxB:∀t q,V.env.get t=some q->∃x,e.get t=some x/\((∀c bb,q.gd=some (c,bb)->c=.b bb)->VR A q.v x))
  (qwb:∀(O:Nat) o,V.H.get O=some o->∃x,A O=some x/\OR A H' o x)
  (hinj:∀(O O':Nat) o o' a a' id,V.H.get O=some o->V.H.get O'=some o'->A O=some a->A O'=some a'->j_ A o a id->j_ A o' a' id->O=O')
  (qkU:∀n:TN,V.us.get n.base=none->A n=none) (hone:∀n a,A n=some a->a.one=true) (qxw:∀id ob,H'.get id=some ob->id < nx') (qzq:∀(O:Nat) o a,V.H.get O=some o->A O=some a->su A O a o)
  (hus:V.us.get d=none) (h1:a.one=true) (hi1:∀j x,inn j=some x->x.one=true) (hO:OR (yq A d a inn) H' o a) (qvJ:su (yq A d a inn) d a o)
  (hid:∀id,j_ (yq A d a inn) o a id->¬gW V A id):R (yq A d a inn) {V with H:=V.H.put (some o) d,us:=V.us.put (some ()) d} ⟨e,H',nx'⟩:=by
 have hnone:∀n:TN,n.base=d->A n=none:=fun n hn=>qkU n (by rw [hn];exact hus)
 have hA':=D4 (a:=a) (inn:=inn) hnone;have hnd:∀(O:Nat) o',V.H.get O=some o'->O≠d:=fun O o' ho he=>by obtain⟨x,hx,_⟩:=qwb O o' ho;rw [hnone (.s O) he] at hx;cases hx
 refine⟨fun t q he=>?_,fun O o' ho=>?_,fun O O' o1 o2 a1 a2 id ho1 ho2 ha1 ha2 hi1 hi2=>?_,fun n hu=>?_,fun n x hx=>?_,qxw,fun O o' x ho hx=>?_⟩
 ·obtain⟨x,hx,hv⟩:=qxB t q he;exact⟨x,hx,fun hh=>(hv hh).mono hA'⟩
 ·simp only [Map.bk] at ho;split at ho
  ·rename_i hd;subst hd;cases ho;exact⟨a,z9,hO⟩
  ·obtain⟨x,hx,hor⟩:=qwb O o' ho;exact⟨x,hA' _ _ hx,hor.mono hA' (fun _ _=>rfl)⟩
 ·simp only [Map.bk] at ho1 ho2;by_cases e1:O=d
  ·by_cases e2:O'=d
   ·rw [e1,e2]
   ·subst e1;rw [if_neg e2] at ho2;rw [if_pos rfl] at ho1;cases ho1;have qwm:A O'=some a2:=by rwa [mb (n:=.s O') e2] at ha2
    rw [z9] at ha1;cases ha1;rw [A8 e2 (qzq O' _ _ ho2 qwm)] at hi2;exact absurd ⟨O',_,a2,ho2,qwm,hi2⟩ (hid id hi1)
  ·rw [if_neg e1] at ho1;have qye:A O=some a1:=by rwa [mb (n:=.s O) e1] at ha1
   rw [A8 e1 (qzq O _ _ ho1 qye)] at hi1;by_cases e2:O'=d
   ·subst e2;rw [if_pos rfl] at ho2;cases ho2;rw [z9] at ha2;cases ha2;exact absurd ⟨O,_,a1,ho1,qye,hi1⟩ (hid id hi2)
   ·rw [if_neg e2] at ho2;have qwm:A O'=some a2:=by rwa [mb (n:=.s O') e2] at ha2
    rw [A8 e2 (qzq O' _ _ ho2 qwm)] at hi2;exact hinj O O' _ _ a1 a2 id ho1 ho2 qye qwm hi1 hi2
 ·simp only [Map.bk] at hu;split at hu
  ·cases hu
  ·rename_i hne;rw [mb hne];exact qkU n hu
 ·by_cases e:n.base=d
  ·cases n with
   |s O=>have e':O=d:=e;subst e';rw [z9] at hx;cases hx;exact h1
   |i K v j=>
    have e':K=d:=e;subst e';simp only [yq,if_pos] at hx;split at hx
    ·exact hi1 j x hx
    ·cases hx
  ·rw [mb e] at hx;exact hone n x hx
 ·simp only [Map.bk] at ho;by_cases e:O=d
  ·subst e;rw [if_pos rfl] at ho;cases ho;rw [z9] at hx;cases hx;exact qvJ
  ·rw [if_neg e] at ho;have hx':A O=some x:=by rwa [mb (n:=.s O) e] at hx
   exact Ri e (qzq O o' x ho hx')
theorem HB {nt:Nat} {A:ei} {V0 V:bt} {st:St} {d:Option Nat} {g:G} {wf:Nat->VV} {o:VO} {k:bt->Prop} {a v:AV} {H':ck} {nx':Nat} {inn:Nat->Option AV}
  (hR:R A V st) (qx4:∀id,gW V A id->gW V0 A id) (h:s_ nt V d g wf o k) (hle:st.nx<=nx') (qxw:∀id ob,H'.get id=some ob->id < nx')
  (hkeep:∀id,gW V A id->H'.get id=st.H.get id) (hsame:∀id,id < st.nx->¬gW V0 A id->H'.get id=st.H.get id) (hi1:∀j x,inn j=some x->x.one=true)
  (hO:∀(A':ei) (dd:Nat),d=some dd->(∀O x,A O=some x->A' O=some x)->(∀j,A' (.i dd 0 j)=inn j)->(∀v j,0 < v->A' (.i dd v j)=none)->OR A' H' o a/\su A' dd a o/\∀id,j_ A' o a id->¬gW V A id/\(gW V0 A id\/st.nx<=id)) (h1:a.one=true)
  (hw:∀(A':ei) (O:Nat),A' O=some a->VR A' (wf O) v) (hev:wg V0 V):Next nt A V0 st d v H' nx' k:=by
 unfold s_ at h;split at h
 ·cases h
 split at h
 ·cases h
 rename_i d;split at h
 ·cases h
 rename_i hus;have hnone:∀n:TN,n.base=d->A n=none:=fun n hn=>hR.used n (by rw [hn];exact hus)
 have hA':=D4 (a:=a) (inn:=inn) hnone;obtain⟨hO1,hO2,hO3⟩:=hO (yq A d a inn) d rfl hA' (fun j=>Rj) (fun v j hv=>NG hv);have qwa:∀(O:Nat) o,V.H.get O=some o->∃x,A O=some x/\OR A H' o x:=fun O o' ho=>by obtain⟨x,hx,hor⟩:=hR.heap O o' ho;exact⟨x,hx,hor.mono (fun _ _ h=>h) (fun id hi=>hkeep id ⟨O,o',x,ho,hx,hi⟩)⟩
 refine yd (A1:=yq A d a inn) (V1:={V with H:=V.H.put (some o) d,us:=V.us.put (some ()) d}) (T9 hR.env qwa hR.inj hR.used hR.one qxw hR.nh hus h1 hi1 hO1 hO2 (fun id hi=>(hO3 id hi).1)) ?_ ⟨hA',fun n x hx=>?_,hev.trans (wg.name hus)⟩ (fun _=>hw _ d z9) h
 ·refine⟨hle,hsame,fun id ⟨O,o',x,ho,hx,hi⟩=>?_⟩;simp only [Map.bk] at ho;by_cases e:O=d
  ·subst e;rw [if_pos rfl] at ho;cases ho;rw [z9] at hx;cases hx;exact(hO3 id hi).2
  ·rw [if_neg e] at ho;have hx':A O=some x:=by rwa [mb (n:=.s O) e] at hx
   rw [A8 e (hR.nh O _ _ ho hx')] at hi;exact .inl (qx4 id ⟨O,o',x,ho,hx',hi⟩)
 ·by_cases e:n.base=d
  ·exact .inr (.inl (by rw [e];exact hev.us _ hus))
  ·exact .inl (by rwa [mb e] at hx)
theorem Cr {nt:Nat} {A:ei} {V0 V:bt} {st:St} {d:Option Nat} {g:G} {wf:Nat->VV} {o:VO} {k:bt->Prop} {a v:AV} {H':ck} {nx':Nat}
  (hR:R A V st) (qx4:∀id,gW V A id->gW V0 A id) (h:s_ nt V d g wf o k) (hle:st.nx<=nx') (qxw:∀id ob,H'.get id=some ob->id < nx')
  (hkeep:∀id,gW V A id->H'.get id=st.H.get id) (hsame:∀id,id < st.nx->¬gW V0 A id->H'.get id=st.H.get id)
  (hO:∀A':ei,(∀O x,A O=some x->A' O=some x)->OR A' H' o a) (h1:a.one=true) (hid:∀id,gR a=some id->¬gW V A id/\(gW V0 A id\/st.nx<=id))
  (hw:∀(A':ei) (O:Nat),A' O=some a->VR A' (wf O) v) (hpl:o.pl=true) (hev:wg V0 V):Next nt A V0 st d v H' nx' k:=
 HB (inn:=fun _=>none) hR qx4 h hle qxw hkeep hsame (fun j x h=>by cases h) (fun A' dd _ h2 _ _=>⟨hO A' h2,Dz hpl,fun id hi=>hid id ((jd hpl).1 hi)⟩) h1 hw hev
theorem HA {nt:Nat} {A:ei} {V0 V:bt} {st:St} {d:Option Nat} {g:G} {wf:Nat->VV} {o:VO} {k:bt->Prop} {a v:AV} {H':ck} {nx':Nat}
  (hR:R A V st) (hsub:∀O o,V.H.get O=some o->V0.H.get O=some o) (h:s_ nt V d g wf o k) (hle:st.nx<=nx') (qxw:∀id ob,H'.get id=some ob->id < nx')
  (hkeep:∀id,gW V A id->H'.get id=st.H.get id) (hsame:∀id,id < st.nx->¬gW V0 A id->H'.get id=st.H.get id)
  (hO:∀A':ei,(∀O x,A O=some x->A' O=some x)->OR A' H' o a) (h1:a.one=true) (hid:∀id,gR a=some id->¬gW V A id/\(gW V0 A id\/st.nx<=id))
  (hw:∀(A':ei) (O:Nat),A' O=some a->VR A' (wf O) v) (hpl:o.pl=true:=by rfl) (hu:V.us=V0.us:=by rfl):Next nt A V0 st d v H' nx' k:=
 Cr hR (fun id ⟨O,o,a,h1,h2,h3⟩=>⟨O,o,a,hsub _ _ h1,h2,h3⟩) h hle qxw hkeep hsame hO h1 hid hw hpl (wg.WX hu hsub)
theorem vk {nt:Nat} {A:ei} {V:bt} {st:St} {d:Option Nat} {g:G} {wf:Nat->VV} {o:VO} {k:bt->Prop} {a v:AV} {ob:oz}
  (hR:R A V st) (h:s_ nt V d g wf o k) (hO:∀A':ei,(∀O x,A O=some x->A' O=some x)->OR A' (st.H.put (some ob) st.nx) o a) (h1:a.one=true) (hid:gR a=some st.nx)
  (hw:∀(A':ei) (O:Nat),A' O=some a->VR A' (wf O) v) (hpl:o.pl=true:=by rfl):Next nt A V st d v (st.H.put (some ob) st.nx) (st.nx+1) k:=by
 have hno:∀id,gW V A id->id≠st.nx:=fun id ho he=>by have:=hR.p_ ho;omega
 refine HA (V0:=V) hR (fun _ _ h=>h) h (Nat.le_succ _) (fun id o' hh=>?_) (fun id ho=>by rw [Map.bk,if_neg (hno id ho)])
  (fun id hlt _=>by rw [Map.bk,if_neg (by omega)]) hO h1 (fun id hi=>?_) hw hpl
 ·rw [Map.bk] at hh;split at hh
  ·omega
  ·have:=hR.fresh _ _ hh;omega
 ·rw [hid] at hi;cases hi;exact⟨fun ho=>hno _ ho rfl,.inr (qqT _)⟩
theorem CM {A:ei} {V:bt} {st:St} (hR:R A V st) {O:Nat} {o0 o:VO} {a:AV} {id:Nat} {ob:oz} (hV:V.H.get O=some o0) (hA:A O=some a) (hi:j_ A o0 a id)
  (hO:OR A (st.H.put (some ob) id) o a) (qxs:∀id,j_ A o a id->j_ A o0 a id) (qvJ:su A O a o0->su A O a o):R A (ew V O o) ⟨st.env,st.H.put (some ob) id,st.nx⟩/\Fr V A st.H st.nx (ew V O o) A (st.H.put (some ob) id) st.nx:=by
 have hown:gW V A id:=⟨O,o0,a,hV,hA,hi⟩;have get':∀(O':Nat) o' x id',(ew V O o).H.get O'=some o'->A O'=some x->j_ A o' x id'->∃o'',V.H.get O'=some o''/\j_ A o'' x id':=fun O' o' x id' hh hx hi'=>by
  simp only [ew,Map.bk] at hh;split at hh
  ·rename_i e;subst e;cases hh;rw [hA] at hx;cases hx;exact⟨_,hV,qxs _ hi'⟩
  ·exact⟨_,hh,hi'⟩
 refine⟨⟨hR.env,fun O' o' ho=>?_,fun O1 O2 o1 o2 a1 a2 id' ho1 ho2 h1 h2 i1 i2=>?_,hR.used,hR.one,fun id' o' hh=>?_,fun O' o' x ho hx=>?_⟩,⟨qqT _,fun id' _ hn=>?_,fun id' ⟨O',o',x,h1,h2,h3⟩=>?_⟩⟩
 ·simp only [ew,Map.bk] at ho;by_cases e:O'=O
  ·subst e;rw [if_pos rfl] at ho;cases ho;exact⟨a,hA,hO⟩
  ·rw [if_neg e] at ho;obtain⟨x,hx,hor⟩:=hR.heap O' o' ho;refine⟨x,hx,hor.mono (fun _ _ h=>h) (fun id' hi'=>?_)⟩;rw [Map.bk,if_neg];rintro rfl;exact e (hR.inj O' O _ _ x a _ ho hV hx hA hi' hi)
 ·obtain⟨p1,h3,h4⟩:=get' _ _ _ _ ho1 h1 i1;obtain⟨p2,h5,h6⟩:=get' _ _ _ _ ho2 h2 i2;exact hR.inj O1 O2 _ _ a1 a2 id' h3 h5 h1 h2 h4 h6
 ·have hh':(st.H.put (some ob) id).get id'=some o':=hh;rw [Map.bk] at hh';split at hh'
  ·rename_i e;subst e;exact hR.p_ hown
  ·exact hR.fresh _ _ hh'
 ·simp only [ew,Map.bk] at ho;split at ho
  ·rename_i e;subst e;cases ho;rw [hA] at hx;cases hx;exact qvJ (hR.nh _ _ _ hV hA)
  ·exact hR.nh _ _ _ ho hx
 ·rw [Map.bk,if_neg];rintro rfl;exact hn hown
 ·obtain⟨o'',h4,h5⟩:=get' _ _ _ _ h1 h2 h3;exact .inl ⟨O',o'',x,h4,h2,h5⟩
theorem yl {a:AV} (h:a.flat=true) (d:Nat) (H:ck):dh (d+1) H a=some a:=by cases a<;>first|rfl|cases h
theorem DT {cs:List AV} (h:∀x∈cs,AV.flat x=true) (d:Nat) (H:ck):lX (dh (d+1) H) cs=some cs:=by
 induction cs with
 |nil=>rfl
 |cons x cs ih=>rw [iq,yl (h x qqu),ih (fun y hy=>h y (qqv _ hy))]
theorem Hs {a:AV} (h:a.qq=true):a.flat=true\/∃cs,a=.agg cs/\∀x∈cs,AV.flat x=true:=by cases a<;>first|exact .inr ⟨_,rfl,cj.1 h⟩|exact .inl h
theorem J3 {a:AV} (h:a.plain=true):a.qq=true\/∃cs,a=.qo cs/\∀x∈cs,AV.qq x=true:=by cases a<;>first|exact .inr ⟨_,rfl,cj.1 h⟩|exact .inl h
theorem F9 {a:AV} (h:a.qq=true) (d:Nat) (H:ck):dh (d+2) H a=some a:=by
 rcases Hs h with h|⟨cs,rfl,h'⟩
 ·exact yl h (d+1) H
 ·rw [oJ,DT h']
theorem Kr {cs:List AV} (h:∀x∈cs,AV.qq x=true) (d:Nat) (H:ck):lX (dh (d+2) H) cs=some cs:=by
 induction cs with
 |nil=>rfl
 |cons x cs ih=>rw [iq,F9 (h x qqu),ih (fun y hy=>h y (qqv _ hy))]
theorem uh {a:AV} (h:a.plain=true) (d:Nat) (H:ck):dh (d+3) H a=some a:=by
 rcases J3 h with h|⟨cs,rfl,h'⟩
 ·exact F9 h (d+1) H
 ·rw [uc,Kr h']
theorem q8 {t:TV} {a:AV} (h:Can t a):a.plain=true:=by
 cases h with
 |a ts as hl hf h=>exact cj.2 hf
 |tp ts as hl hf h=>exact cj.2 hf
 |B7 x u hf h=>revert hf;cases a<;>intro hf<;>first|rfl|cases hf
 |_=>rfl
theorem I7 {sz:Nat} {es:List TV} {cs:List AV} (hz:0 < sz) (h:Jk sz es cs) (c:Option Nat):Can (.l es) (.ju cs es.length c):=
 .ju es cs es.length sz c rfl h.len hz h.flat h.el
theorem Fy {H:ck} {sz:Nat} {es:List TV} {a:AV} (h:EL H sz es a) (d:Nat):∃a',dh (d+2) H a=some a'/\Can (.l es) a'/\a'.flat=true/\(a.plain=true->a'=a)/\a.one=true:=by
 obtain⟨hz,h⟩:=h;rcases h with ⟨rfl,rfl|rfl⟩|⟨id,g,b,cells,rfl,hH,hb,he⟩
 ·exact⟨_,rfl,.nil,rfl,fun _=>rfl,rfl⟩
 ·exact⟨_,rfl,ou,rfl,fun _=>rfl,rfl⟩
 ·have hl:cells.length=b+es.length*sz:=by have:=he.len;rw [qqo] at this;omega
  refine⟨.ju (cells.drop b) es.length none,?_,I7 hz he _,rfl,(fun hp=>by cases hp),rfl⟩;rw [oI,hH];simp only [cond_eq_ite,qqE,if_pos];have:cut cells b (Nat.mul es.length sz)=some (cells.drop b):=by rw [jf,if_pos (by show b+es.length*sz<=_;omega),qqN];rw [qqo];show _<=es.length*sz;omega
  rw [this];simp only [DT he.flat]
theorem Mu {a:AV} (h:a.flat=true):a.plain=true:=by cases a<;>first|rfl|cases h
theorem IQ {f:AV->Option AV}:∀{cs:List AV} (P:Nat->AV->AV->Prop),(∀j x,cs[j]?=some x->∃y,f x=some y/\P j x y)->∃l,lX f cs=some l/\l.length=cs.length/\∀j x y,cs[j]?=some x->l[j]?=some y->P j x y
 |[],P,h=>⟨[],rfl,rfl,fun j x y hx=>by simp at hx⟩
 |x::cs,P,h=>by
  obtain⟨y,h1,h2⟩:=h 0 x rfl;obtain⟨l,h3,h4,h5⟩:=IQ (f:=f) (cs:=cs) (fun j=>P (j+1)) (fun j x hx=>h (j+1) x hx);refine⟨y::l,by rw [iq,h1,h3],by simp [h4],fun j x' y' hx hy=>?_⟩;cases j with
  |zero=>simp at hx hy;subst hx;subst hy;exact h2
  |succ j=>exact h5 j x' y' (by simpa using hx) (by simpa using hy)
theorem Q7 {A:ei} {H:ck} {K s io iz ver:Nat} {es:List TV} {a:AV} (h:OR A H (.gn K s io iz ver none es) a) (d:Nat):∃a',dh (d+3) H a=some a'/\Can (.l es) a'/\a'.flat=true/\(a.plain=true->a'=a):=by
 obtain⟨hs,hio,hiz,h⟩:=h;rcases h with ⟨rfl,rfl|rfl⟩|⟨id,g,b,cells,rfl,hH,hb,he⟩
 ·exact⟨_,rfl,.nil,rfl,fun _=>rfl⟩
 ·exact⟨_,rfl,ou,rfl,fun _=>rfl⟩
 ·have hl:cells.length=b+es.length*s:=by have:=he.len;rw [qqo] at this;omega
  have cell:∀(q:Nat) x,(cells.drop b)[q]?=some x->∃(j o:Nat) (e:TV) (ts:List TV) (t:TV),q=j*s+o/\o < s/\es[j]?=some e/\gj e=some ts/\ts.length=s/\ts[o]?=some t/\∃y,dh (d+2) H x=some y/\Can t y/\y.flat=true:=by
   intro q x hq;have hlt:q < es.length*s:=by have:=(qqb.1 hq).1;rw [he.len] at this;exact this
   have hj:q / s < es.length:=(Nat.div_lt_iff_lt_mul hs).2 hlt;have hqe:q=q / s*s+q % s:=by rw [Nat.mul_comm];exact(Nat.div_add_mod q s).symm
   obtain⟨ts,g1,g2,g3,x',g4,g5,g6⟩:=he.el (q / s) _ (qqa hj);have ho:q % s < ts.length:=by rw [g2];exact Nat.mod_lt _ hs
   refine⟨q / s,q % s,_,ts,_,hqe,Nat.mod_lt _ hs,qqa hj,g1,g2,qqa ho,?_⟩;by_cases hoo:q % s=io
   ·obtain⟨l,g7,g8⟩:=g6 (by simp);rw [hqe,hoo,g4] at hq;cases hq;obtain⟨y,p1,p2,p3,_⟩:=Fy g8 d;refine⟨y,p1,?_,p3⟩;have e:ts[q % s]=.l l:=by
     have:=qqa ho;have h2:ts[q % s]?=some (.l l):=by rw [hoo];exact g7
     rw [this] at h2;exact qqO h2
    rw [e];exact p2
   ·obtain⟨p1,p2⟩:=g3 (q % s) _ x hoo (qqa ho) (by rw [←hqe];exact hq);exact⟨x,yl p2 (d+1) H,p1,p2⟩
  obtain⟨cs',g1,g2,g3⟩:=IQ (f:=dh (d+2) H) (cs:=cells.drop b) (fun q x y=>∃(j o:Nat) (e:TV) (ts:List TV) (t:TV),q=j*s+o/\o < s/\es[j]?=some e/\gj e=some ts/\ts.length=s/\ts[o]?=some t/\Can t y/\y.flat=true) (fun q x hq=>by obtain⟨j,o,e,ts,t,h1,h2,h3,h4,h5,h6,y,h7,h8,h9⟩:=cell q x hq;exact⟨y,h7,j,o,e,ts,t,h1,h2,h3,h4,h5,h6,h8,h9⟩)
  have hlc:cs'.length=es.length*s:=by rw [g2,he.len]
  have at_:∀(q:Nat) y,cs'[q]?=some y->∃(j o:Nat) (e:TV) (ts:List TV) (t:TV),q=j*s+o/\o < s/\es[j]?=some e/\gj e=some ts/\ts.length=s/\ts[o]?=some t/\Can t y/\y.flat=true:=fun q y hy=>by
   have hlt:q < (cells.drop b).length:=by rw [←g2];exact(qqb.1 hy).1
   exact g3 q _ y (qqa hlt) hy
  refine⟨.ju cs' es.length none,?_,.ju _ _ _ s _ rfl hlc hs (fun x hx=>?_) (fun j e hj=>?_),rfl,fun hp=>by cases hp⟩
  ·rw [oI,hH];simp only [cond_eq_ite,qqE,if_pos];have:cut cells b (Nat.mul es.length s)=some (cells.drop b):=by rw [jf,if_pos (by show b+es.length*s<=_;omega),qqN];rw [qqo];show _<=es.length*s;omega
   rw [this];simp only [g1]
  ·obtain⟨q,hq⟩:=List.getElem?_of_mem hx;obtain⟨_,_,_,_,_,_,_,_,_,_,_,_,hf⟩:=at_ q x hq;exact hf
  ·obtain⟨ts,h1,h2,_⟩:=he.el j e hj;have hjl:=(qqb.1 hj).1;have hle:j*s+s<=es.length*s:=by rw [←Nat.succ_mul];exact Nat.mul_le_mul_right s hjl
   refine lu.2 ⟨ts,h1,by rw [qqn,qqo,hlc,h2];omega,fun o t y ht hy=>?_⟩;have ho:o < s:=by rw [←h2];exact(qqb.1 ht).1
   rw [qqg,qqh,if_pos ho] at hy;obtain⟨j',o',e',ts',t',p1,p2,p3,p4,p5,p6,p7,_⟩:=at_ _ y hy;have hjj:j=j':=by
    have e1:(j*s+o) / s=j:=by rw [Nat.mul_comm,Nat.mul_add_div hs,Nat.div_eq_of_lt ho,Nat.add_zero]
    have e2:(j'*s+o') / s=j':=by rw [Nat.mul_comm,Nat.mul_add_div hs,Nat.div_eq_of_lt p2,Nat.add_zero]
    rw [←e1,p1,e2]
   subst hjj;have hoo:o=o':=by omega
   subst hoo;rw [hj] at p3;cases p3;rw [h1] at p4;cases p4;rw [ht] at p6;cases p6;exact p7
theorem Kv {es:List TV} {i io:Nat} {l:List TV} (h:AX es i io=some l):∃e,es[i]?=some e/\ct e io=some (.l l):=by
 unfold AX at h;split at h
 ·rename_i e he;split at h
  ·rename_i l' hl;cases h;exact⟨e,he,hl⟩
  ·cases h
 ·cases h
theorem RN {e t:TV} {io:Nat} {ts:List TV} (hc:gj e=some ts) (h:ct e io=some t):ts[io]?=some t:=by
 cases e<;>first|(cases hc;done)|skip
 all_goals first
  |(cases hc;exact h)
  |(cases hc;cases io with
    |zero=>exact h
    |succ n=>cases h)
theorem ja {V:bt} {O v:Nat} {k:Nat->Nat->Nat->List TV->Prop} (h:Ta V O v k):∃s io iz es,V.H.get O=some (.gn O s io iz v none es)/\k s io iz es:=by
 unfold Ta at h;split at h
 ·rename_i K s io iz ver es ho;split at h
  ·rename_i hb;rw [qqB,qqE,qqE] at hb;obtain⟨rfl,rfl⟩:=hb;exact⟨s,io,iz,es,ho,h⟩
  ·cases h
 ·cases h
theorem D0 {A:ei} {H:ck} {K s io iz ver:Nat} {hole:Option Nat} {es:List TV} {a:AV} {i:Nat} {l:List TV} (h:OR A H (.gn K s io iz ver hole es) a) (hi:AX es i io=some l) (hn:hole≠some i) {x:AV} (hx:A (.i K ver i)=some x):EL H iz l x:=by
 obtain⟨hs,hio,hiz,h⟩:=h;obtain⟨e,he,hc⟩:=Kv hi;rcases h with ⟨rfl,_⟩|⟨id,g,b,cells,rfl,hH,hb,hg⟩
 ·simp at he
 ·obtain⟨ts,g1,g2,g3,x',g4,g5,g6⟩:=hg.el i e he;rw [hx] at g5;cases g5;obtain⟨l',p1,p2⟩:=g6 hn;rw [RN g1 hc] at p1;cases p1;exact p2
theorem CJ {A:ei} {V:bt} {st:St} (h:R A V st) {w:VV} {x:AV} {k:List TV->Prop} (hv:Ik A w x) (hk:EM V w k) (d:Nat) :
  ∃es a',dh (d+3) st.H x=some a'/\Can (.l es) a'/\a'.flat=true/\(x.plain=true->a'=x)/\k es:=by
 cases w<;>first|(cases hk;done)|skip
 ·refine⟨[],x,?_,?_,?_,fun _=>rfl,hk⟩<;>rcases hv with rfl|rfl<;>first|rfl|exact .nil|exact ou
 ·rename_i O;simp only [EM] at hk;split at hk
  ·rename_i sz es ho;obtain⟨a,h1,h2⟩:=h.heap O _ ho;have hv':A O=some x:=hv;rw [hv'] at h1;cases h1;obtain⟨a',h3,h4,h5,h6,_⟩:=Fy h2 (d+1);exact⟨es,a',h3,h4,h5,h6,hk⟩
  ·rename_i es ho;obtain⟨a,h1,h2⟩:=h.heap O _ ho;have hv':A O=some x:=hv;rw [hv'] at h1;cases h1;obtain⟨a',h3,h4,h5,h6⟩:=Q7 h2 d;exact⟨es,a',h3,h4,h5,h6,hk⟩
  ·cases hk
 ·rename_i O v i;obtain⟨s,io,iz,es,ho,l,hl,hk⟩:=ja hk;obtain⟨a,h1,h2⟩:=h.heap O _ ho;obtain⟨a',h3,h4,h5,h6,_⟩:=Fy (D0 h2 hl (by simp) hv) (d+1);exact⟨l,a',h3,h4,h5,h6,hk⟩
theorem CK {V:bt} {w:VV} {k:List TV->Prop} (hk:EM V w k):∃es,k es:=by
 unfold EM at hk;split at hk
 ·split at hk
  ·exact⟨_,hk⟩
  ·exact⟨_,hk⟩
  ·cases hk
 ·obtain⟨_,_,_,_,_,l,_,hk⟩:=ja hk;exact⟨l,hk⟩
 ·exact⟨_,hk⟩
 ·cases hk
theorem Qm {l:List TV} {off n:Nat} {x u:TV} (h:aq (.a l) off n x=some u):∃l',u=.a l':=by
 unfold aq at h;split at h
 ·cases h
 ·rw [cond_eq_ite] at h;split at h
  ·simp only at h;split at h
   ·cases h;exact⟨_,rfl⟩
   ·cases h
  ·cases h
theorem JB {A:ei} {V:bt} {st:St} (h:R A V st) (d:Nat):∀(ovs:List (Nat×VV)) (P:Nat->Prop) (v:TV) (ts:List TV) (cs:List AV) (k:TV->Prop),gj v=some ts->ts.length=cs.length->
  (∀j t x,P j->ts[j]?=some t->cs[j]?=some x->match eC j ovs with|none=>True|some w=>Ik A w x)->GN V ovs v k->
  ∃u us,gj u=some us/\us.length=ts.length/\k u/\(∀l,v=.a l->∃l',u=.a l')/\
   ∀j u' x,P j->us[j]?=some u'->cs[j]?=some x->match eC j ovs with|none=>ts[j]?=some u'|some w=>∃a',dh (d+3) st.H x=some a'/\Can u' a'/\a'.flat=true/\(x.plain=true->a'=x)
 |[],P,v,ts,cs,k,hc,hl,ho,hk=>⟨v,ts,hc,rfl,hk,fun l e=>⟨l,e⟩,fun j u' x _ hu hx=>hu⟩
 |(off,w)::r,P,v,ts,cs,k,hc,hl,ho,hk=>by
  obtain⟨u,us,h1,h2,h3,h4,h5⟩:=JB h d r (fun j=>P j/\j≠off) v ts cs _ hc hl (fun j t x hp ht hx=>by have:=ho j t x hp.1 ht hx;rwa [eo,if_neg (Ne.symm hp.2)] at this) hk
  by_cases hoff:P off/\off < ts.length
  ·obtain⟨hP,hlt⟩:=hoff;have hx:cs[off]?=some (cs[off]'(by omega)):=qqa _;have ht:ts[off]?=some ts[off]:=qqa _;have hsl:=ho off _ _ hP ht hx;rw [eo,if_pos rfl] at hsl;obtain⟨es,a',g1,g2,g3,g4,u',g5,g6⟩:=CJ h hsl h3 d;obtain⟨us0,xs,us',p1,p2,p3,p4,p5,p6,p7⟩:=gA g5;rw [h1] at p1;cases p1;cases p2;refine⟨u',us',p4,by omega,g6,fun l e=>?_,fun j q x hp hq hx'=>?_⟩
   ·obtain⟨l',rfl⟩:=h4 l e;exact Qm g5
   ·rw [p7] at hq;rw [eo];by_cases e:off=j
    ·subst e;rw [if_pos (by omega)] at hq;simp at hq;rw [if_pos rfl];subst hq;rw [hx'] at hx;cases hx;exact⟨a',g1,g2,g3,g4⟩
    ·rw [if_neg (by omega)] at hq;rw [if_neg e];exact h5 j q x ⟨hp,Ne.symm e⟩ hq hx'
  ·obtain⟨es,u',g5,g6⟩:=CK h3;obtain⟨us0,xs,us',p1,p2,p3,p4,p5,p6,p7⟩:=gA g5;rw [h1] at p1;cases p1;refine⟨u',us',p4,by omega,g6,fun l e=>?_,fun j q x hp hq hx'=>?_⟩
   ·obtain⟨l',rfl⟩:=h4 l e;exact Qm g5
   ·rw [p7] at hq;rw [eo];by_cases e:off=j
    ·subst e;exact absurd ⟨hp,by have:=(qqb.1 hx').1;omega⟩ hoff
    ·rw [if_neg (by omega)] at hq;rw [if_neg e];exact h5 j q x ⟨hp,Ne.symm e⟩ hq hx'
theorem D_ {A:ei} {V:bt} {st:St} (h:R A V st) {v:TV} {ovs:List (Nat×VV)} {cs:List AV} {ts:List TV} {k:TV->Prop} (hc:ee A v ovs cs ts) (hk:GN V ovs v k) (d:Nat) :
  ∃u us cs',lX (dh (d+3) st.H) cs=some cs'/\gj u=some us/\O3 us cs'/\k u/\(∀l,v=.a l->∃l',u=.a l')/\((∀x∈cs,AV.flat x=true)->cs'=cs):=by
 obtain⟨u,us,h1,h2,h3,h4,h5⟩:=JB h d ovs (fun _=>True) v ts cs k hc.cells hc.len (fun j t x _ ht hx=>by
  have:=hc.at_ j t x ht hx;unfold Sc at this;cases ho:eC j ovs with
  |none=>trivial
  |some w=>rw [ho] at this;exact this) hk
 obtain⟨cs',g1,g2,g3⟩:=IQ (f:=dh (d+3) st.H) (cs:=cs) (fun j x y=>∀u',us[j]?=some u'->Can u' y/\y.flat=true/\(x.flat=true->y=x)) (fun j x hx=>by
  have hlt:j < us.length:=by rw [h2,hc.len];exact(qqb.1 hx).1
  have hu:us[j]?=some us[j]:=qqa _;have hp:=h5 j _ x trivial hu hx;cases ho:eC j ovs with
  |none=>rw [ho] at hp;have hq:=hc.at_ j _ x hp hx;rw [ho] at hq;exact⟨x,yl hq.2 (d+2) st.H,fun u' hu'=>by rw [hu] at hu';cases hu';exact⟨hq.1,hq.2,fun _=>rfl⟩⟩
  |some w=>rw [ho] at hp;obtain⟨a',p1,p2,p3,p4⟩:=hp;exact⟨a',p1,fun u' hu'=>by rw [hu] at hu';cases hu';exact⟨p2,p3,fun hf=>p4 (Mu hf)⟩⟩)
 have hlen:us.length=cs'.length:=by rw [g2,h2,hc.len]
 have both:∀j y,cs'[j]?=some y->∃x u',cs[j]?=some x/\us[j]?=some u':=fun j y hy=>by have hlt:=(qqb.1 hy).1;exact⟨cs[j]'(by omega),us[j]'(by omega),qqa _,qqa _⟩
 refine⟨u,us,cs',g1,h1,⟨⟨hlen,fun j t y ht hy=>?_⟩,fun y hy=>?_⟩,h3,h4,fun hf=>?_⟩
 ·obtain⟨x,u',hx,hu⟩:=both j y hy;exact(g3 j x y hx hy t ht).1
 ·obtain⟨j,hj⟩:=List.getElem?_of_mem hy;obtain⟨x,u',hx,hu⟩:=both j y hj;exact(g3 j x y hx hj u' hu).2.1
 ·apply List.ext_getElem?;intro j;cases hy:cs'[j]? with
  |none=>rw [List.getElem?_eq_none_iff] at hy;exact(List.getElem?_eq_none_iff.2 (by omega)).symm
  |some y=>obtain⟨x,u',hx,hu⟩:=both j y hy;rw [hx,(g3 j x y hx hy u' hu).2.2 (hf x (qqi hx))]
theorem gz {i j z:Nat} (h:i < j):i*z+z<=j*z:=by have:(i+1)*z<=j*z:=Nat.mul_le_mul_right z h;rwa [Nat.add_mul,Nat.one_mul] at this
theorem H7 {sz:Nat} {es xs:List TV} {cs ds:List AV} (h:Jk sz es cs) (h':Jk sz xs ds):Jk sz (es++xs) (cs++ds):=by
 refine⟨by rw [qqm,qqm,h.len,h'.len,Nat.add_mul],fun x hx=>(qqx.1 hx).elim (h.flat x) (h'.flat x),fun j e hj=>?_⟩;by_cases hlt:j < es.length
 ·rw [qqc hlt] at hj;have:=gz (z:=sz) hlt;have:((cs++ds).drop (j*sz)).take sz=(cs.drop (j*sz)).take sz:=by rw [List.drop_append_of_le_length (by rw [h.len];omega),List.take_append_of_le_length (by rw [qqo,h.len];omega)]
  rw [this];exact h.el j e hj
 ·rw [qqd (by omega)] at hj;have e1:j*sz=cs.length+(j - es.length)*sz:=by rw [h.len,←Nat.add_mul];congr 1;omega
  have:((cs++ds).drop (j*sz))=ds.drop ((j - es.length)*sz):=by rw [e1,List.drop_append];simp
  rw [this];exact h'.el _ e hj
theorem VA {A:ei} {v:TV} {cs:List AV} {ts:List TV} (hc:ee A v [] cs ts) {off n:Nat} (h:off+n<=ts.length):∀x∈(cs.drop off).take n,AV.flat x=true:=by
 intro x hx;obtain⟨j,hj⟩:=List.getElem?_of_mem hx;rw [qqg] at hj;split at hj
 ·rw [qqh] at hj;have hl:off+j < ts.length:=by omega
  exact((hc.at_ (off+j) _ x (qqa hl) hj):Can _ x/\_).2
 ·cases hj
theorem Tp {A:ei} {v:TV} {cs:List AV} {ts:List TV} (hc:ee A v [] cs ts) {off sz:Nat} {e:TV} (h:Vz v off sz=some e):off+sz<=ts.length/\B1 e ((cs.drop off).take sz):=by
 have sub:∀{n:Nat},ax v off n=some e->off+n<=ts.length/\B1 e ((cs.drop off).take n):=by
  intro n h;obtain⟨ts',rfl,h2,h3,rfl⟩:=ud h;have:=hc.cells.symm.trans h2;cases this;refine⟨h3,.a _ _ (by rw [qqn,qqn,qqo,qqo,hc.len]) (fun j t x ht hx=>?_)⟩;rw [qqg] at ht hx;split at ht
  ·rw [if_pos ‹_›] at hx;rw [qqh] at ht hx;exact((hc.at_ (off+j) t x ht hx):Can t x/\_).1
  ·cases ht
 unfold Vz at h;split at h
 ·split at h
  ·rename_i e' he;rw [cond_eq_ite] at h;split at h
   ·rename_i h1;cases h;obtain⟨ts',h2,h3⟩:=qz he;have:=hc.cells.symm.trans h2;cases this;have hl:=(qqb.1 h3).1;have hl':off < cs.length:=by rw [←hc.len];exact hl
    refine⟨by omega,?_⟩;rw [List.drop_eq_getElem_cons hl',List.take_succ_cons,List.take_zero];exact .one _ _ h1 ((hc.at_ off e _ h3 (qqa hl')):Can e _/\_).1
   ·cases h
  ·cases h
 ·exact sub h
theorem PT {A:ei} {v:TV} {cs:List AV} {ts:List TV} (hc:ee A v [] cs ts) {sz:Nat}:∀{n off:Nat} {es:List TV},O5 v off sz n=some es->es.length=n/\off+n*sz<=cs.length/\Jk sz es ((cs.drop off).take (n*sz))
 |0,off,es,h=>by
  unfold O5 at h;split at h
  ·rename_i u hu;cases h;obtain⟨ts',h1,h2,h3,_⟩:=ud hu;have:=hc.cells.symm.trans h2;cases this;refine⟨rfl,by rw [←hc.len];omega,?_⟩;rw [Nat.zero_mul,List.take_zero];exact⟨(by simp),(fun x hx=>by cases hx),(fun j e h=>by simp at h)⟩
  ·cases h
 |n+1,off,es,h=>by
  unfold O5 at h;split at h;rotate_left
  ·cases h
  rename_i e he;split at h;rotate_left
  ·cases h
  rename_i r hr;cases h;obtain⟨g1,g2,g3⟩:=PT hc hr;obtain⟨k1,k2⟩:=Tp hc he;have e0:(n+1)*sz=sz+n*sz:=by rw [Nat.add_mul,Nat.one_mul,Nat.add_comm]
  refine⟨by rw [qqr,g1],by rw [e0];omega,?_⟩;have e1:(cs.drop off).take ((n+1)*sz)=(cs.drop off).take sz++(cs.drop (off+sz)).take (n*sz):=by rw [e0,List.take_add,List.drop_drop]
  rw [e1];refine H7 (es:=[e]) ⟨?_,VA hc k1,fun j e' hj=>?_⟩ g3
  ·rw [qqn,qqo,←hc.len,qqq,Nat.one_mul];omega
  ·cases j with
   |zero=>simp at hj;subst hj;rw [Nat.zero_mul,List.drop_zero,List.take_take,Nat.min_self];exact k2
   |succ j=>simp at hj
theorem KY {A:ei} {sz:Nat}:∀{xs:List TV} {v u:TV} {cs ds:List AV} {ts:List TV} {off:Nat},ee A v [] cs ts->OP v off sz xs=some u->Jk sz xs ds->∃cs' us,jl cs off ds=some cs'/\ee A u [] cs' us
 |[],v,u,cs,ds,ts,off,hc,h,hd=>by
  unfold OP at h;split at h
  ·rename_i w hw;cases h;obtain⟨ts',h1,h2,h3,_⟩:=ud hw;have:=hc.cells.symm.trans h2;cases this;have hd0:ds=[]:=qqM.1 (by rw [hd.len];simp);subst hd0;refine⟨cs,ts,?_,hc⟩;rw [rj,if_pos (by rw [←hc.len];simpa using h3)];simp
  ·cases h
 |x::xs,v,u,cs,ds,ts,off,hc,h,hd=>by
  simp only [OP] at h;split at h;rotate_left
  ·cases h
  rename_i v1 hv1;have hl:=hd.len;rw [qqr,Nat.add_mul,Nat.one_mul] at hl;obtain⟨tx,hx1,hx2⟩:=lu.1 (hd.el 0 x rfl);rw [Nat.zero_mul,List.drop_zero] at hx2;have hcx:ee A x [] (ds.take sz) tx:=⟨hx1,hx2.1,fun j w hj=>by simp [eC] at hj,fun j t y ht hy=>⟨hx2.2 j t y ht hy,hd.flat y (List.mem_of_mem_take (qqi hy))⟩⟩;obtain⟨hn,cs1,us1,h3,h4,_⟩:=oU hc hcx hv1;have hd2:Jk sz xs (ds.drop sz):=⟨by rw [qqo];omega,fun y hy=>hd.flat y (List.mem_of_mem_drop hy),fun j e he=>by have:=hd.el (j+1) e (by simpa using he);rwa [Nat.add_mul,Nat.one_mul,Nat.add_comm,←List.drop_drop] at this⟩
  obtain⟨cs2,us2,h5,h6⟩:=KY (xs:=xs) (off:=off+sz) (ds:=ds.drop sz) h4 h hd2;refine⟨cs2,us2,?_,h6⟩;obtain⟨b1,_⟩:=jq h3;obtain⟨b2,_⟩:=jq h5;obtain⟨l1,a1⟩:=lK h3;obtain⟨l2,a2⟩:=lK h5;rw [qqo] at b2;have hov:jl cs off ds=some (cs.take off++ds++cs.drop (off+ds.length)):=by rw [rj,if_pos (by omega)]
  obtain⟨l3,a3⟩:=lK hov;rw [hov];congr 1;refine List.ext_getElem? fun j=>?_
  rw [a3,a2,a1,hn,qqo];by_cases q1:off+sz<=j/\j < off+sz+(ds.length - sz)
  ·rw [if_pos q1,if_pos (by omega),qqh];congr 1;omega
  ·rw [if_neg q1];by_cases q2:off<=j/\j < off+sz
   ·rw [if_pos q2,if_pos (by omega),qqg,if_pos (by omega)]
   ·rw [if_neg q2,if_neg (by omega)]
theorem CH {A:ei} {V:bt} {st:St} (h:R A V st) {w:VV} {a:AV} {k:TV->Prop} (hv:VR A w a) (hk:WW V w k) (d:Nat) :
  ∃t a',dh (d+4) st.H a=some a'/\Can t a'/\(a.plain=true->a'=a)/\k t:=by
 cases hv<;>first|(cases hk;done)|skip
 ·rename_i v hc;exact⟨v,a,uh (q8 hc) (d+1) _,hc,fun _=>rfl,hk⟩
 ·exact⟨_,_,rfl,.nil,fun _=>rfl,hk⟩
 ·exact⟨_,_,rfl,ou,fun _=>rfl,hk⟩
 ·rename_i O hO;obtain⟨es,a',h1,h2,h3,h4,h5⟩:=CJ h (w:=.sl O) (x:=a) hO hk (d+1);exact⟨_,a',h1,h2,h4,h5⟩
 ·rename_i v ovs cs ts hv hc;obtain⟨u,us,cs',h1,h2,h3,h4,h5,h6⟩:=D_ h hc hk d;obtain⟨l',rfl⟩:=h5 _ hv;cases h2;refine⟨_,.agg cs',by rw [oJ,h1],.a _ _ h3.1.1 h3.2 h3.1.2,fun hp=>?_,h4⟩;rw [h6 (cj.1 hp)]
 ·rename_i O v i hO;obtain⟨es,a',h1,h2,h3,h4,h5⟩:=CJ h (w:=.ow O v i) (x:=a) hO hk (d+1);exact⟨_,a',h1,h2,h4,h5⟩
 ·rename_i O off n sz id cap hz hO;simp only [WW] at hk;split at hk;rotate_left
  ·cases hk
  rename_i v ovs ho;split at hk;rotate_left
  ·cases hk
  obtain⟨es,h1,h2⟩:=hk;obtain⟨z,hz',id',cs,ts,rfl,hH,hc⟩:=h.heap O _ ho;rw [hO] at hz';cases hz';obtain⟨g1,g2,g3⟩:=PT hc h1;subst g1;refine⟨_,.ju ((cs.drop off).take (es.length*sz)) es.length (some cap),?_,I7 hz g3 _,(fun hp=>by cases hp),h2⟩;rw [oI,hH];simp only [cond_eq_ite,qqE,if_pos];have:cut cs off (Nat.mul es.length sz)=some ((cs.drop off).take (es.length*sz)):=by rw [jf];exact if_pos g2
  rw [this];simp only [DT g3.flat]
theorem Km:∀{ovs:List (Nat×VV)},Hz ovs=true->∀j w,eC j ovs=some w->w=.gD
 |[],h,j,w,hj=>by simp [eC] at hj
 |(i,x)::r,h,j,w,hj=>by
  cases x<;>first|(cases h;done)|skip
  rw [eo] at hj;split at hj
  ·cases hj;rfl
  ·exact Km (ovs:=r) h j w hj
theorem Bc {A:ei} {v:TV} {ovs:List (Nat×VV)} {cs:List AV} {ts:List TV} (hc:ee A v ovs cs ts) (h:Hz ovs=true):(AV.agg cs).plain=true:=by
 refine cj.2 (fun x hx=>?_);obtain⟨j,hj⟩:=List.getElem?_of_mem hx;have hlt:j < ts.length:=by rw [hc.len];exact(qqb.1 hj).1
 have:=hc.at_ j _ x (qqa hlt) hj;cases ho:eC j ovs with
 |none=>rw [ho] at this;exact this.2
 |some w=>rw [ho] at this;have hw:=Km h j w ho;subst hw;rcases this with rfl|rfl<;>rfl
theorem Ig {A:ei} {V:bt} {st:St} {g:G} (h:R A V st) (ha:act g):∀(xs:List b_) (k:Bool->List TV->Prop),Bk V g xs k->
  ∃p ts as',k p ts/\lX (dh deep st.H) (xs.map (ev st.env))=some as'/\oY ts as'/\(gE AV.plain (xs.map (ev st.env))=true->as'=xs.map (ev st.env))/\(p=true->gE AV.plain (xs.map (ev st.env))=true)
 |[],k,hk=>⟨true,[],[],hk,rfl,⟨rfl,fun j t x ht=>by simp at ht⟩,fun _=>rfl,fun _=>rfl⟩
 |x::xs,k,hk=>by
  obtain⟨w,hw,hk⟩:=fu h ha hk;have fin:∀(t:TV) (a':AV) (kk:Bool->List TV->Prop) (q:Bool),dh deep st.H (ev st.env x)=some a'->Can t a'->((ev st.env x).plain=true->a'=ev st.env x)->(q=true->(ev st.env x).plain=true)->
    Bk V g xs kk->(∀p vs,kk p vs->k (q&&p) (t::vs))->
    ∃p ts as',k p ts/\lX (dh deep st.H) ((x::xs).map (ev st.env))=some as'/\oY ts as'/\(gE AV.plain ((x::xs).map (ev st.env))=true->as'=(x::xs).map (ev st.env))/\(p=true->gE AV.plain ((x::xs).map (ev st.env))=true):=by
   intro t a' kk q h1 h2 h3 hq h4 h5;obtain⟨p,ts,as',g1,g2,g3,g4,g5⟩:=Ig h ha xs kk h4;refine⟨q&&p,t::ts,a'::as',h5 _ _ g1,?_,⟨by simp [g3.1],fun j u y hu hy=>?_⟩,fun hp=>?_,fun hp=>?_⟩
   ·rw [List.map_cons,iq,h1,g2]
   ·cases j with
    |zero=>simp at hu hy;subst hu;subst hy;exact h2
    |succ j=>exact g3.2 j u y (by simpa using hu) (by simpa using hy)
   ·rw [List.map_cons] at hp ⊢;have hp':=cj.1 hp;rw [h3 (hp' _ qqu),g4 (cj.2 fun y hy=>hp' y (qqv _ hy))]
   ·rw [qqB] at hp;rw [List.map_cons,cj];intro y hy;rcases qqw.1 hy with rfl|hy
    ·exact hq hp.1
    ·exact cj.1 (g5 hp.2) y hy
  generalize ev st.env x=a at hw fin;have tree:∀{t:TV},Can t a->Bk V g xs (fun p vs=>k p (t::vs))->_:=fun {t} hc hk=>fin t a _ true (uh (q8 hc) 27 _) hc (fun _=>rfl) (fun _=>q8 hc) hk (fun p vs hh=>by rw [Bool.true_and];exact hh)
  cases hw with
  |tr hc=>exact tree hc hk
  |gD=>exact tree .nil hk
  |yg=>exact tree ou hk
  |sl hO=>obtain⟨t,a',h1,h2,h3,h4⟩:=CH h (.sl hO) hk 26;exact fin t a' _ false h1 h2 h3 (fun hh=>by cases hh) h4 (fun p vs hh=>hh)
  |@st v ovs cs ts hv hc=>obtain⟨t,a',h1,h2,h3,h4⟩:=CH h (.st hv hc) hk 26;exact fin t a' _ (Hz ovs) h1 h2 h3 (fun hh=>Bc hc hh) h4 (fun p vs hh=>hh)
  |ow hO=>obtain⟨t,a',h1,h2,h3,h4⟩:=CH h (.ow hO) hk 26;exact fin t a' _ false h1 h2 h3 (fun hh=>by cases hh) h4 (fun p vs hh=>hh)
  |sa hz hO=>obtain⟨t,a',h1,h2,h3,h4⟩:=CH h (.sa hz hO) hk 26;exact fin t a' _ false h1 h2 h3 (fun hh=>by cases hh) h4 (fun p vs hh=>hh)
  |_=>cases hk
end Go.Ax.V
namespace Go.Ax.V
section
variable {prog:Map ay} {cf:qn} {nt:Nat} {A:ei} {V:bt} {st:St} {d:Option Nat} {g:G} {k:bt->Prop}
def gw (cf:qn) (nt:Nat) (A:ei) (V:bt) (st:St) (d:Option Nat) (op:mj) (k:bt->Prop):Prop:=
 ∃v H' nx',qj cf op (ev st.env) st.H st.nx=some (v,H',nx')/\Next nt A V st d v H' nx' k
theorem cz {op:mj} {p:(b_->AV)->Option c9} {v:AV} (hk:kind op=.plan p) (hp:p (ev st.env)=some (.val v)) (h:Next nt A V st d v st.H st.nx k):gw cf nt A V st d op k:=
 ⟨v,st.H,st.nx,by simp only [qj,hk,hp,gG],h⟩
theorem EX {op:mj} {p:(b_->AV)->Option c9} {f:Nat->AV} {ob:oz} (hk:kind op=.plan p) (hp:p (ev st.env)=some (.new f ob)) (h:Next nt A V st d (f st.nx) (st.H.put (some ob) st.nx) (st.nx+1) k):gw cf nt A V st d op k:=
 ⟨_,_,_,by simp only [qj,hk,hp,gG],h⟩
theorem o_mv (hR:R A V st) (ha:act g) {x:b_} (h:jx V g x fun w=>Vw nt V d g w k):gw cf nt A V st d (.mv x) k:=by
 obtain⟨w,hw,hk⟩:=fu hR ha h;refine cz rfl rfl ?_;generalize ev st.env x=a at hw;cases hw with
 |bad=>cases hk
 |tr hc=>
  cases g with
  |none=>exact bw hR (fun _=>.tr hc) hk
  |some p=>obtain⟨r,h1,h2⟩:=dr hR ha hk;cases h1;exact h2 _ hc
 |gD=>exact bw hR (fun _=>.gD) hk
 |yg=>exact bw hR (fun _=>.yg) hk
 |ptr h=>exact bw hR (fun _=>.ptr h) hk
 |pd h=>exact bw hR (fun _=>.pd h) hk
 |sl h=>exact bw hR (fun _=>.sl h) hk
 |ea h=>exact bw hR (fun _=>.ea h) hk
 |pt hl hf h=>exact bw hR (fun _=>.pt hl hf h) hk
 |st hv h=>exact bw hR (fun _=>.st hv h) hk
 |ow h=>exact bw hR (fun _=>.ow h) hk
 |e2 h=>exact bw hR (fun _=>.e2 h) hk
 |gl h1 h2 h3 h4 h5=>exact bw hR (fun _=>.gl h1 h2 h3 h4 h5) hk
 |sa hz h=>exact bw hR (fun _=>.sa hz h) hk
theorem L5 {c a b r:TV} {x y z:AV} (h:ij c a b=some r) (hc:Can c x) (ha:Can a y) (hb:Can b z):∃t,x=.bool t/\Can r (match t with|true=>y|false=>z):=by
 unfold ij at h;split at h
 ·rename_i t;cases hc;exact⟨t,rfl,by cases t<;>(cases h;assumption)⟩
 ·cases h
theorem UZ (hR:R A V st) (ha:act g) {c a b:b_} (h:ue V g c fun c=>ue V g a fun a=>ue V g b fun b=>lD nt V d g (ij c a b) k):gw cf nt A V st d (.pick c a b) k:=by
 obtain⟨c',h1,h⟩:=gm hR ha h;obtain⟨a',h2,h⟩:=gm hR ha h;obtain⟨b',h3,h⟩:=gm hR ha h;obtain⟨r,h4,h5⟩:=dr hR ha h;obtain⟨t,e,h6⟩:=L5 h4 h1 h2 h3;cases t with
 |true=>exact cz rfl (by simp only [CT,e]) (h5 _ h6)
 |false=>exact cz rfl (by simp only [CT,e]) (h5 _ h6)
theorem S1 {sh:Sh} (hR:R A V st) {zero:List AV} (h:match gE kq zero with
   |true=>s_ nt V d g (fun O=>.ptr O 0) (.ob (.a (gN zero)) (tcD sh d (qb 0 zero))) k
   |false=>False):gw cf nt A V st d (.alloc zero) k:=by
 split at h
 ·rename_i hc;exact EX rfl rfl (vk hR h (fun A' hA=>⟨_,_,_,rfl,by rw [Map.bk,if_pos rfl],Jd A' hc (fun j w=>Uq)⟩) rfl rfl (fun A' O hO=>.ptr hO))
 ·cases h
theorem Mp {v:TV} (h:v.ff=false):∃ts,gj v=some ts:=by cases v<;>first|exact⟨_,rfl⟩|cases h
theorem OS {A:ei} {v u:TV} {ovs:List (Nat×VV)} {cs:List AV} {ts:List TV} {c:Nat} (hc:ee A v ovs cs ts) (ho:eC c ovs=some .gD) (hp:aq v c 1 (.l [])=some u):∃us,ee A u (xh c 1 ovs) cs us:=by
 obtain⟨ts',xs,us,h1,h2,h3,h4,h5,h6,h7⟩:=gA hp;have e1:=hc.cells.symm.trans h1;cases e1;cases h2;refine⟨us,h4,h5.trans hc.len,fun j w hj=>?_,fun j t x ht hx=>?_⟩
 ·rw [oo] at hj;split at hj
  ·cases hj
  ·rw [h5];exact hc.keys j w hj
 ·rw [h7] at ht;rw [oo];by_cases hj:c<=j/\j < c+1
  ·rw [if_pos hj] at ht ⊢;have:j=c:=by omega
   subst this;simp at ht;subst ht;have hlt:j < ts.length:=hc.keys j _ ho;have:=hc.at_ j _ x (qqa hlt) hx;rw [ho] at this;rcases this with rfl|rfl
   ·exact⟨.nil,rfl⟩
   ·exact⟨ou,rfl⟩
  ·rw [if_neg hj] at ht ⊢;exact hc.at_ j t x ht hx
theorem Gy:∀{l:List Nat} {v:TV} {ovs:List (Nat×VV)} {k:TV->List (Nat×VV)->Prop},MQ l v ovs k->(∀v o,k v o->False)->False
 |[],v,ovs,k,hk,h=>h _ _ hk
 |c::l,v,ovs,k,hk,h=>by
  simp only [MQ] at hk;split at hk
  ·obtain⟨u,_,hk⟩:=hk;exact Gy hk h
  ·cases hk
theorem Lc {A:ei} {cs:List AV}:∀(l:List Nat) (v:TV) (ovs:List (Nat×VV)) (ts:List TV) (k:TV->List (Nat×VV)->Prop),ee A v ovs cs ts->MQ l v ovs k->∃v' qzC ts',ee A v' qzC cs ts'/\k v' qzC
 |[],v,ovs,ts,k,h,hk=>⟨v,ovs,ts,h,hk⟩
 |c::l,v,ovs,ts,k,h,hk=>by
  simp only [MQ] at hk;split at hk
  ·rename_i ho;obtain⟨u,hp,hk⟩:=hk;obtain⟨us,h'⟩:=OS h ho hp;exact Lc l u _ us k h' hk
  ·cases hk
theorem ZA {sh:Sh} (hR:R A V st) (ha:act g) {x:b_} (h:jx V g x fun w=>match r_ w with
  |some (v,o)=>v.ff=false/\MQ (YL sh d) v o fun v o=>s_ nt V d g (fun O=>.ptr O 0) (.ob v o) k
  |none=>False):gw cf nt A V st d (.box x) k:=by
 obtain⟨w,hw,hk⟩:=fu hR ha h;split at hk
 ·rename_i v o hs;obtain⟨ht,hk⟩:=hk;obtain⟨ts,hts⟩:=Mp ht;obtain⟨as,h1,h2⟩:=ry hR.one hw hs hts;obtain⟨v',o',ts',h3,hk⟩:=Lc _ _ _ _ _ h2 hk;exact EX (f:=fun id=>.ptr id 0 0) (ob:=.row 0 as) rfl (by simp only [J9,h1]) (vk hR hk (fun A' hA=>⟨_,_,_,rfl,by rw [Map.bk,if_pos rfl],h3.mono hA⟩) rfl rfl (fun A' O hO=>.ptr hO))
 ·cases hk
theorem z7 (ρ:b_->AV) (p:Nat×Nat×b_) (r:List (Nat×Nat×b_)) (cells:List AV):fill ρ (p::r) cells=match (ρ p.2.2).cells? with
  |none=>none
  |some cs=>bif Nat.beq cs.length p.2.1 then match jl cells p.1 cs with
    |some cells=>fill ρ r cells
    |none=>none
   else none:=rfl
theorem FM (hR:R A V st) (ha:act g):∀(parts:List (Nat×Nat×b_)) (v:TV) (ovs:List (Nat×VV)) (cs:List AV) (ts:List TV) (k:TV->List (Nat×VV)->Prop),ee A v ovs cs ts->v=.a ts->II V g parts v ovs k->
  ∃v' qzC cs' ts',fill (ev st.env) parts cs=some cs'/\ee A v' qzC cs' ts'/\v'=.a ts'/\k v' qzC
 |[],v,ovs,cs,ts,k,hc,hv,hk=>⟨v,ovs,cs,ts,rfl,hc,hv,hk⟩
 |(off,n,x)::r,v,ovs,cs,ts,k,hc,hv,hk=>by
  obtain⟨w,hw,hk⟩:=fu hR ha hk;split at hk
  ·rename_i t o hs;obtain⟨u,hp,hk⟩:=hk;obtain⟨_,xs,_,_,hxs,_⟩:=gA hp;obtain⟨as,h1,h2⟩:=ry hR.one hw hs hxs;obtain⟨hn,cs',us,h3,h4,h5⟩:=oU hc h2 hp;obtain⟨l',rfl⟩:=h5 _ hv;have:=h4.cells;cases this;obtain⟨v',qzC,cs'',ts',g1,g2,g3,g4⟩:=FM hR ha r _ _ cs' _ k h4 rfl hk;refine⟨v',qzC,cs'',ts',?_,g2,g3,g4⟩;rw [z7];simp only [h1,cond_eq_ite,qqE,if_pos hn,h3,g1]
  ·cases hk
theorem TO {v:TV} {ovs:List (Nat×VV)} {cs:List AV} {ts:List TV} (h:ee A v ovs cs ts) (hv:v=.a ts):VR A (iy v ovs) (.agg cs):=by
 cases ovs with
 |nil=>
  subst hv;refine .tr (.a _ _ h.len (fun x hx=>?_) (fun j t x ht hx=>(h.at_ j t x ht hx).1));obtain⟨j,hj⟩:=List.getElem?_of_mem hx;have hlt:j < ts.length:=by rw [h.len];exact(qqb.1 hj).1
  exact(h.at_ j _ x (qqa hlt) hj).2
 |cons p r=>exact .st hv h
theorem S0 (hR:R A V st) {zero:List AV} {parts:List (Nat×Nat×b_)} (h:match gE kq zero with
   |true=>II V none parts (.a (gN zero)) (qb 0 zero) fun v ovs=>jb nt V d none (iy v ovs) k
   |false=>False):gw cf nt A V st d (.build zero parts) k:=by
 split at h
 ·rename_i hc;obtain⟨v',qzC,cs',ts',h1,h2,h3,h4⟩:=FM (g:=none) hR trivial parts _ _ zero _ _ (Be A hc) rfl h;exact cz rfl (by simp only [zu,h1]) (bw hR (fun _=>TO h2 h3) h4)
 ·cases h
theorem MM {v:TV} {cs:List AV} {ts:List TV} (h:ee A v [] cs ts):∀x∈cs,AV.flat x=true:=fun x hx=>by
 obtain⟨j,hj⟩:=List.getElem?_of_mem hx;have hlt:j < ts.length:=by rw [h.len];exact(qqb.1 hj).1
 exact(h.at_ j _ x (qqa hlt) hj).2
theorem K9 {cs:List AV} (h:gE kq cs=true):ee A (.a (gN cs)) [] cs (gN cs):=by refine⟨rfl,uk cs,fun j w hw=>(by cases hw),fun j t x ht hx=>?_⟩;have hm:x∈cs:=qqi hx;rw [Bj,hx] at ht;cases ht;exact vw (cj.1 h x hm)
theorem J0 (hR:R A V st) (ha:act g):∀(parts:List (Nat×Nat×b_)) (k:List (Nat×Nat×TV)->Prop),Qi V g parts k->
  ∃l,k l/\∀(v v':TV) (cs:List AV) (ts:List TV),ee A v [] cs ts->v=.a ts->DL l v=some v'->∃cs' ts',fill (ev st.env) parts cs=some cs'/\ee A v' [] cs' ts'/\v'=.a ts'
 |[],k,hk=>⟨[],hk,fun v v' cs ts hc hv hp=>by cases hp;exact⟨cs,ts,rfl,hc,hv⟩⟩
 |(off,n,x)::r,k,hk=>by
  obtain⟨t,ht,hk⟩:=gm hR ha hk;obtain⟨l,hl,hf⟩:=J0 hR ha r _ hk;refine⟨_,hl,fun v v' cs ts hc hv hp=>?_⟩;simp only [DL] at hp;split at hp
  ·rename_i u hu;obtain⟨_,xs,_,_,hxs,_⟩:=gA hu;obtain⟨as,h1,h2⟩:=ry hR.one (.tr ht) (w:=.tr t) rfl hxs;obtain⟨hn,cs',us,h3,h4,h5⟩:=oU hc h2 hu;obtain⟨l',rfl⟩:=h5 _ hv;have:=h4.cells;cases this;obtain⟨cs'',ts',g1,g2,g3⟩:=hf _ v' cs' _ h4 rfl hp;refine⟨cs'',ts',?_,g2,g3⟩;rw [z7];simp only [h1,cond_eq_ite,qqE,if_pos hn,h3,g1]
  ·cases hp
theorem QB (hR:R A V st) (ha:act g) {zero:List AV} {parts:List (Nat×Nat×b_)} (h:match gE kq zero with
   |true=>Qi V g parts fun l=>lD nt V d g (DL l (.a (gN zero))) k
   |false=>False):gw cf nt A V st d (.build zero parts) k:=by
 split at h
 ·rename_i hc;obtain⟨l,hl,hf⟩:=J0 hR ha parts _ h;obtain⟨v,h1,h2⟩:=dr hR ha hl;obtain⟨cs',ts',g1,g2,rfl⟩:=hf _ v zero _ (K9 hc) rfl h1;refine cz rfl (by simp only [zu,g1]) (h2 _ (.a _ _ g2.len (MM g2) (fun j t x ht hx=>(g2.at_ j t x ht hx).1)))
 ·cases h
theorem look_eq (H:ck) (nx:Nat) {id g off n:Nat} {cells cs:List AV} (hH:H.get id=some (.row g cells)) (hc:cut cells off n=some cs) (kk:List AV->Option oz->Option Out) (v:AV) (hk:kk cs none=some ⟨fun _=>v,none,none⟩) :
  gG (.look (some ⟨id,g,off,n⟩) none kk) H nx=some (v,H,nx):=by
 simp only [gG,lY,jg,hH,cond_eq_ite,qqE,if_pos,hc,qx,hk,DE]
theorem PD {op:mj} {p:(b_->AV)->Option c9} (hk:kind op=.plan p) {id gg off n:Nat} {cells cs:List AV} {kk:List AV->Option oz->Option Out} {v:AV} (hp:p (ev st.env)=some (.look (some ⟨id,gg,off,n⟩) none kk))
  (hH:st.H.get id=some (.row gg cells)) (hc:cut cells off n=some cs) (hkk:kk cs none=some ⟨fun _=>v,none,none⟩) (h:Next nt A V st d v st.H st.nx k):gw cf nt A V st d op k:=
 ⟨v,st.H,st.nx,by simp only [qj,hk,hp];exact look_eq _ _ hH hc _ _ hkk,h⟩
theorem ot {sz:Option Nat} {a:b_} {id gg off:Nat} {cells l:List AV} {v:AV} (he:ev st.env a=.ptr id gg off) (hH:st.H.get id=some (.row gg cells)) (hc:cut cells off (gH sz)=some l) (hm:Mb sz l=some v)
  (h:Next nt A V st d v st.H st.nx k):gw cf nt A V st d (.load sz a) k:=
 PD (cs:=l) (v:=v) (kk:=fun cs _=>match Mb sz cs with|some v=>some ⟨fun _=>v,none,none⟩|none=>none) rfl (by simp only [xb,he];rfl) hH hc (by simp only [hm]) h
theorem Bf {cs:List AV} {off:Nat} {x:AV} (h:cs[off]?=some x):cut cs off 1=some [x]:=by obtain⟨hlt,hx⟩:=qqb.1 h;rw [jf,if_pos (by omega),List.drop_eq_getElem_cons hlt,hx];rfl
theorem Bd {v:TV} {ovs:List (Nat×VV)} {cs:List AV} {ts:List TV} (hc:ee A v ovs cs ts) {off:Nat} {r:TV} (h:ct v off=some r) (ho:eC off ovs=none):∃x,cut cs off 1=some [x]/\Can r x/\x.flat=true:=by
 obtain⟨ts',h1,h2⟩:=qz h;have:=hc.cells.symm.trans h1;cases this;have hlt:off < cs.length:=by rw [←hc.len];exact(qqb.1 h2).1
 have hx:cs[off]?=some cs[off]:=qqa hlt;have:=hc.at_ _ _ _ h2 hx;rw [ho] at this;exact⟨_,Bf hx,this⟩
theorem Fu {c:Option TV} {r:TV} (h:fy c=some r):∃t,c=some t/\∀x,Can t x->Can r x:=by
 cases c with
 |none=>cases h
 |some t=>
  cases t with
  |B7 y u=>cases h;exact⟨_,rfl,fun x hx=>by cases hx;assumption⟩
  |_=>cases h;exact⟨_,rfl,fun x hx=>hx⟩
theorem oS {v:TV} {ovs:List (Nat×VV)} {cs:List AV} {ts:List TV} (hc:ee A v ovs cs ts) {off n:Nat} {r:TV} (h:ax v off n=some r) :
  ∃l ls,cut cs off n=some l/\r=.a ls/\ee A r (xg off n ovs) l ls:=by
 obtain⟨ts',h0,h1,hl,rfl⟩:=ud h;have:=hc.cells.symm.trans h1;cases this;refine⟨(cs.drop off).take n,_,by rw [jf,if_pos (by rw [←hc.len];exact hl)],rfl,⟨rfl,?_,fun j w hj=>?_,fun j t x ht hx=>?_⟩⟩
 ·have:=hc.len;simp [this]
 ·rw [CW] at hj;split at hj
  ·rename_i hj';have:=hc.keys _ _ hj;simp only [qqn,qqo];omega
  ·cases hj
 ·simp only [qqg,qqh] at ht hx;split at ht
  ·rename_i hj;rw [if_pos hj] at hx;rw [CW,if_pos hj,Nat.add_comm];exact hc.at_ _ _ _ ht hx
  ·cases ht
theorem CI {r:TV} {l:List AV} {ls:List TV} (h:ee A r [] l ls) (hr:r=.a ls):Can r (.agg l):=by have:=TO h hr;cases this;assumption
theorem Q6 {H:ck} {K s io iz ver:Nat} {hole:Option Nat} {es:List TV} {id g b z len cap:Nat} {ex:Bool} (h:OR A H (.gn K s io iz ver hole es) (.ref id g b z len cap ex)) :
  z=s/\len=es.length/\cap=es.length/\ex=false/\0 < s/\io < s/\0 < iz/\∃cells,H.get id=some (.row g cells)/\b<=cells.length/\O_ A H K s io iz ver hole es (cells.drop b):=by
 obtain⟨h1,h2,h3,h4⟩:=h;rcases h4 with ⟨_,e|e⟩|⟨id',g',b',cells,e,h5,h6,h7⟩
 ·cases e
 ·cases e
 ·cases e;exact⟨rfl,rfl,rfl,rfl,h1,h2,h3,cells,h5,h6,h7⟩
theorem Gb {H:ck} {K s io iz ver:Nat} {hole:Option Nat} {es:List TV} {cs:List AV} (h:O_ A H K s io iz ver hole es cs) (hio:io < s) {i:Nat} {e:TV} (he:es[i]?=some e) :
  ∃ts,ee A e [(io,.ow K ver i)] ((cs.drop (i*s)).take s) ts/\ts.length=s:=by
 obtain⟨ts,g1,g2,g3,x,g4,g5,g6⟩:=h.el i e he;have hlt:=(qqb.1 he).1;have hle:i*s+s<=es.length*s:=by rw [←Nat.succ_mul];exact Nat.mul_le_mul_right s hlt
 have qvR:∀(j:Nat),((cs.drop (i*s)).take s)[j]?=if j < s then cs[i*s+j]? else none:=fun j=>by rw [qqg,qqh]
 refine⟨ts,⟨g1,by rw [qqn,qqo,h.len,g2];omega,fun j w hj=>?_,fun j t y ht hy=>?_⟩,g2⟩
 ·rw [eo] at hj;split at hj
  ·rename_i e';subst e';rw [g2];exact hio
  ·cases hj
 ·have hj:j < s:=by rw [←g2];exact(qqb.1 ht).1
  rw [qvR,if_pos hj] at hy;rw [eo];split
  ·rename_i e';subst e';rw [g4] at hy;cases hy;exact g5
  ·rename_i hne;exact g3 j t y (Ne.symm hne) ht hy
theorem Gs {cells l:List AV} {b i s n off m:Nat} (h3:cut (((cells.drop b).drop (i*s)).take s) off m=some l) (hlt:i < n) (hl:cells.length - b=n*s) (hb:b<=cells.length):cut cells (b+i*s+off) m=some l:=by
 obtain⟨h6,h7⟩:=qg h3;have h9:i*s+s<=n*s:=by have:(i+1)*s<=n*s:=Nat.mul_le_mul_right s hlt;rwa [Nat.add_mul,Nat.one_mul] at this
 have h8:off+m<=s:=by simp only [qqn] at h6;omega
 rw [jf,if_pos (by omega),h7];congr 1;simp only [List.drop_drop,List.drop_take,List.take_take];congr 1;omega
theorem P_ {g:G} (ha:act g) {P:Option TV} {k:Prop} (h:Zd g P k):∃e,P=some e/\k:=by
 cases g with
 |none=>exact h
 |some q=>obtain⟨c,bb⟩:=q;obtain⟨e,h1,h2⟩:=h;exact⟨e,h1 ha,h2⟩
theorem OW {off n io:Nat} {w:VV} (h:Cy off n io=true):xg off n [(io,w)]=[]:=by simp only [Cy,qqC,qqF,qqG] at h;simp only [xg,cond_eq_ite,qqB,qqF,qqG];rw [if_neg (by omega)]
theorem QT {es:List TV} {i io j off:Nat} {sz:Option Nat} {r:TV} (h:ldI es i io j off sz=some r):∃l,AX es i io=some l/\zb l j off sz=some r:=by
 unfold ldI at h;split at h
 ·rename_i l hl;exact⟨l,hl,h⟩
 ·cases h
theorem YO {H:ck} {z:Nat} {es:List TV} {id g b len cap:Nat} {ex:Bool} (hs:EL H z es (.ref id g b z len cap ex)) {i off:Nat} {sz:Option Nat} {r:TV} (h1:zb es i off sz=some r) :
  ∃cells l x,H.get id=some (.row g cells)/\cut cells (b+i*z+off) (gH sz)=some l/\Mb sz l=some x/\Can r x:=by
 obtain⟨hz,hs⟩:=hs;rcases hs with ⟨_,e|e⟩|⟨id',g',b',cells,e,hH,hb,hE⟩
 ·cases e
 ·cases e
 ·cases e;unfold zb at h1;split at h1
  ·cases h1
  rename_i e1 he1;have hlt:i < es.length:=(qqb.1 he1).1;obtain⟨ts,ht1,ht2⟩:=lu.1 (hE.el i e1 he1);obtain⟨l,x,h3,h4,h5⟩:=C5 ht1 ⟨ht2,qw hE.flat _ _⟩ h1;have hl:=hE.len;rw [qqo] at hl;exact⟨cells,l,x,hH,Gs h3 hlt hl hb,h4,h5⟩
theorem PB {H:ck} {z:Nat} {es:List TV} {id g b z' len cap:Nat} {ex:Bool} (hs:EL H z es (.ref id g b z' len cap ex)):z'=z:=by rcases hs.2 with ⟨_,e|e⟩|⟨id',g',b',cells,e,_⟩<;>cases e;rfl
theorem U1 (hR:R A V st) (ha:act g) {sz:Option Nat} {a:b_} (h:jx V g a fun w=>vm nt V d g sz w k):gw cf nt A V st d (.load sz a) k:=by
 obtain⟨w,hw,hk⟩:=fu hR ha h;generalize he:ev st.env a=x at hw;cases hw<;>first|(cases hk;done)|skip
 ·rename_i O off id hO;simp only [vm] at hk;split at hk
  ·rename_i v ovs hv;obtain⟨y,hy,id',cs,ts,rfl,hH,hc⟩:=hR.heap O _ hv;rw [hO] at hy;cases hy;split at hk
   ·split at hk
    ·rename_i w hw;have hlt:=hc.keys _ _ hw;have hx:cs[off]?=some (cs[off]'(by rw [←hc.len];exact hlt)):=qqa _;have hs:=hc.at_ off _ _ (qqa hlt) hx;rw [hw] at hs;refine ot he hH (Bf hx) rfl (bw hR (fun _=>?_) hk);cases w<;>first|(exact absurd hs (by intro hh;exact hh))|skip
     ·rcases hs with e|e
      ·rw [e];exact .gD
      ·rw [e];exact .yg
     ·exact .sl hs
     ·exact .ow hs
    ·rename_i ho;obtain⟨r,h1,h2⟩:=dr hR ha hk;obtain⟨t,h1',hun⟩:=Fu h1;obtain⟨x,h3,h4,_⟩:=Bd hc h1' ho;exact ot he hH h3 rfl (h2 _ (hun _ h4))
   ·rename_i n;split at hk
    ·rename_i ho;obtain⟨r,h1,h2⟩:=dr hR ha hk;obtain⟨l,ls,h3,h4,h5⟩:=oS hc h1;rw [ho] at h5;exact ot he hH h3 rfl (h2 _ (CI h5 h4))
    ·rename_i p r ho;split at hk
     ·obtain⟨u,h1,h2⟩:=hk;obtain⟨l,ls,h3,h4,h5⟩:=oS hc h1;rw [ho] at h5;exact ot he hH h3 rfl (bw hR (fun _=>.st h4 h5) h2)
     ·cases hk
  ·cases hk
 ·rename_i O off id hO;simp only [vm] at hk;split at hk
  ·rename_i v ovs hv;split at hk;rotate_left
   ·cases hk
   obtain⟨y,hy,id',cs,ts,rfl,hH,hc⟩:=hR.heap O _ hv;rw [hO] at hy;cases hy;obtain⟨r,h1,h2⟩:=dr hR ha hk;have hf:O3 ts cs:=by
    refine⟨⟨hc.len,fun j t x ht hx=>(hc.at_ j t x ht hx).1⟩,fun x hx=>?_⟩;obtain⟨j,hj⟩:=List.getElem?_of_mem hx;have hlt:j < ts.length:=by rw [hc.len];exact(qqb.1 hj).1
    exact(hc.at_ j _ x (qqa hlt) hj).2
   obtain⟨l,x,h3,h4,h5⟩:=C5 hc.cells hf h1;exact ot he hH h3 h4 (h2 _ h5)
  ·cases hk
 ·rename_i O i off id gg b z len cap ex hO;simp only [vm] at hk;split at hk
  ·rename_i z' es hv;obtain⟨y,hy,hs⟩:=hR.heap O _ hv;rw [hO] at hy;cases hy;obtain⟨r,h1,h2⟩:=dr hR ha hk;obtain⟨hz,hs⟩:=hs;rcases hs with ⟨_,e|e⟩|⟨id',g',b',cells,e,hH,hb,hE⟩
   ·cases e
   ·cases e
   ·cases e;unfold zb at h1;split at h1
    ·cases h1
    rename_i e1 he1;have hlt:i < es.length:=(qqb.1 he1).1;obtain⟨ts,ht1,ht2⟩:=lu.1 (hE.el i e1 he1);obtain⟨l,x,h3,h4,h5⟩:=C5 ht1 ⟨ht2,qw hE.flat _ _⟩ h1;have hl:=hE.len;rw [qqo] at hl;obtain⟨h6,h7⟩:=qg h3;have h8:off+gH sz<=z:=by simp only [qqn] at h6;omega
    have h9:i*z+z<=es.length*z:=by have:(i+1)*z<=es.length*z:=Nat.mul_le_mul_right z hlt;rwa [Nat.add_mul,Nat.one_mul] at this
    refine ot he hH (l:=l) ?_ h4 (h2 _ h5);rw [jf,if_pos (by omega),h7];congr 1;simp only [List.drop_drop,List.drop_take,List.take_take];congr 1;omega
  ·rename_i K s io iz ver hole es hv;split at hk;rotate_left
   ·cases hk
   rename_i hK;rw [qqE] at hK;subst hK;obtain⟨y,hy,hs⟩:=hR.heap K _ hv;rw [hO] at hy;cases hy;obtain⟨rfl,rfl,rfl,rfl,p1,p2,p3,cells,hH,hb,hG⟩:=Q6 hs;have hl:=hG.len;rw [qqo] at hl;split at hk
   ·split at hk
    ·rename_i ho;rw [qqE] at ho;subst ho;split at hk;rotate_left
     ·cases hk
     obtain⟨e,he1,hk⟩:=P_ ha hk;obtain⟨ts,g1,g2,g3,x,g4,g5,g6⟩:=hG.el i e he1;refine ot he hH (l:=[x]) ?_ rfl (bw hR (fun _=>.ow g5) hk);rw [qqh] at g4;have:=Bf g4;rw [←Nat.add_assoc] at this;exact this
    ·obtain⟨r,h1,h2⟩:=dr hR ha hk;rename_i ho;have ho':off≠io:=fun e=>by subst e;simp at ho
     unfold zb at h1;split at h1
     ·cases h1
     rename_i e1 he1;obtain⟨ts,hc,hts⟩:=Gb hG p2 he1;obtain⟨x,h3,h4,_⟩:=Bd hc h1 (by rw [eo,if_neg (Ne.symm ho')];rfl);exact ot he hH (Gs h3 (qqb.1 he1).1 hl hb) rfl (h2 _ h4)
   ·rename_i n;split at hk;rotate_left
    ·cases hk
    rename_i hap;obtain⟨r,h1,h2⟩:=dr hR ha hk;unfold zb at h1;split at h1
    ·cases h1
    rename_i e1 he1;obtain⟨ts,hc,hts⟩:=Gb hG p2 he1;obtain⟨l,ls,h3,h4,h5⟩:=oS hc h1;rw [OW hap] at h5;exact ot he hH (Gs h3 (qqb.1 he1).1 hl hb) rfl (h2 _ (CI h5 h4))
  ·cases hk
 ·rename_i v cs b off n hl hf hcc;obtain⟨r,h1,h2⟩:=dr hR ha hk;obtain⟨ts,ht1,ht2⟩:=lu.1 hcc;obtain⟨l,x,h3,h4,h5⟩:=C5 ht1 ⟨ht2,qw hf _ _⟩ h1;obtain⟨h6,h7⟩:=qg h3;have h8:off+gH sz<=n:=by simp only [qqn] at h6;omega
  have qxl:cut cs (b+off) (gH sz)=some l:=by rw [jf,if_pos (by omega),h7];congr 1;simp only [List.drop_drop,List.drop_take,List.take_take];congr 1;omega
  exact cz (v:=x) rfl (by simp only [xb,he,qxl,h4,lR]) (h2 _ h5)
 ·rename_i O v i j off id gg b z len cap ex hA;obtain⟨s,io,iz,es,ho,hk⟩:=ja hk;obtain⟨y,hy,hs⟩:=hR.heap O _ ho;obtain⟨r,h1,h2⟩:=dr hR ha hk;obtain⟨l,hl,h1⟩:=QT h1;have hsl:=D0 hs hl (by simp) hA;obtain rfl:=PB hsl;obtain⟨cells,l',x,hH,h3,h4,h5⟩:=YO hsl h1;exact ot he hH h3 h4 (h2 _ h5)
end
end Go.Ax.V
namespace Go.Ax.V
section
variable {prog:Map ay} {cf:qn} {nt:Nat} {A:ei} {V:bt} {st:St} {d:Option Nat} {g:G} {k:bt->Prop}
theorem tv {α:Type} (l:List α) (a n j:Nat):((l.drop a).take n)[j]?=if j < n then l[a+j]? else none:=by rw [qqg,qqh]
theorem Ru {z:Nat} {es:List TV} {row row' ce':List AV} {i:Nat} {e e':TV} (hE:Jk z es row) (hi:es[i]?=some e) (hc:B1 e' ce') (hl:ce'.length=z) (hf:∀x∈ce',AV.flat x=true)
  (hl':row'.length=row.length) (hr:∀j,row'[j]?=if i*z<=j/\j < i*z+z then ce'[j - i*z]? else row[j]?):Jk z (es.set i e') row':=by
 have hlt:i < es.length:=(qqb.1 hi).1;refine⟨by rw [hl',hE.len,qqs],fun x hx=>?_,fun j e1 hj=>?_⟩
 ·obtain⟨q,hq⟩:=List.getElem?_of_mem hx;rw [hr] at hq;split at hq
  ·exact hf x (qqi hq)
  ·exact hE.flat x (qqi hq)
 ·rw [List.getElem?_set] at hj;by_cases e:i=j
  ·subst e;rw [if_pos rfl,if_pos hlt] at hj;cases hj;have:(row'.drop (i*z)).take z=ce':=by
    apply List.ext_getElem?;intro q;rw [tv];by_cases hq:q < z
    ·rw [if_pos hq,hr,if_pos ⟨by omega,by omega⟩];congr 1;omega
    ·rw [if_neg hq];exact(List.getElem?_eq_none_iff.2 (by omega)).symm
   rw [this];exact hc
  ·rw [if_neg e] at hj;have:(row'.drop (j*z)).take z=(row.drop (j*z)).take z:=by
    apply List.ext_getElem?;intro q;rw [tv,tv];by_cases hq:q < z
    ·rw [if_pos hq,if_pos hq,hr,if_neg];rintro⟨h1,h2⟩;rcases Nat.lt_or_gt_of_ne e with h|h
     ·have:=gz (z:=z) h;omega
     ·have:=gz (z:=z) h;omega
    ·rw [if_neg hq,if_neg hq]
   rw [this];exact hE.el j e1 hj
theorem YN {H:ck} {z:Nat} {es es':List TV} {id g b len cap:Nat} {ex:Bool} (hs:EL H z es (.ref id g b z len cap ex)) {i off sz:Nat} {t:TV} {as:List AV} {xs:List TV} {A:ei} (hp:jn es i off sz t=some es') (hx:ee A t [] as xs) :
  as.length=sz/\∃cells cells',H.get id=some (.row g cells)/\jl cells (b+i*z+off) as=some cells'/\EL (H.put (some (.row g cells')) id) z es' (.ref id g b z len cap ex):=by
 obtain⟨hz,hs⟩:=hs;rcases hs with ⟨_,e|e⟩|⟨id',g',b',cells,e,hH,hb,hE⟩
 ·cases e
 ·cases e
 ·cases e;unfold jn at hp;split at hp
  ·cases hp
  rename_i e1 he1;split at hp
  ·rename_i e1' hp';cases hp;have hlt:i < es.length:=(qqb.1 he1).1;obtain⟨ts,ht1,ht2⟩:=lu.1 (hE.el i e1 he1);have hce:ee A e1 [] (((cells.drop b).drop (i*z)).take z) ts:=⟨ht1,ht2.1,fun j w hj=>by simp [eC] at hj,fun j t x ht hx=>⟨ht2.2 j t x ht hx,qw hE.flat _ _ x (qqi hx)⟩⟩;obtain⟨hn,ce',us,h3,h4,h5⟩:=oU hce hx hp';obtain⟨hov,hat⟩:=lK h3;obtain⟨hb1,_⟩:=jq h3;have hl:=hE.len;rw [qqo] at hl;have h9:=gz (z:=z) hlt;have hz':(((cells.drop b).drop (i*z)).take z).length=z:=by simp only [qqn,qqo];omega
   rw [hz'] at hb1 hov;have qxV:jl cells (b+i*z+off) as=some (cells.take (b+i*z+off)++as++cells.drop (b+i*z+off+as.length)):=by rw [rj,if_pos (by omega)]
   obtain⟨hl2,qz1⟩:=lK qxV;refine⟨hn,cells,_,hH,qxV,hz,.inr ⟨id,g,b,_,by simp only [qqs],by rw [Map.bk,if_pos rfl],by omega,?_⟩⟩;refine Ru (ce':=ce') hE he1 (lu.2 ⟨us,h4.cells,h4.len,fun j t x ht hx=>((h4.at_ j t x ht hx):Can t x/\_).1⟩) hov (fun x hx=>?_) (by simp only [qqo];omega) (fun j=>?_)
   ·obtain⟨q,hq⟩:=List.getElem?_of_mem hx;have hlq:q < us.length:=by rw [h4.len];exact(qqb.1 hq).1
    exact((h4.at_ q _ x (qqa hlq) hq):Can _ x/\_).2
   ·rw [qqh,qz1,qqh];by_cases hj:i*z<=j/\j < i*z+z
    ·rw [if_pos hj,hat,tv,qqh];by_cases hq:off<=j - i*z/\j - i*z < off+as.length
     ·rw [if_pos hq,if_pos (by omega)];congr 1;omega
     ·rw [if_neg hq,if_neg (by omega),if_pos (by omega)];congr 1;omega
    ·rw [if_neg hj,if_neg (by omega)]
  ·cases hp
theorem ZK {A:ei} {H:ck} {K s io iz ver:Nat} {hole:Option Nat} {es es':List TV} {b:Nat} {cells as:List AV} {xs:List TV} {i off sz:Nat} {t:TV} (hio:io < s) (hb:b<=cells.length) (hG:O_ A H K s io iz ver hole es (cells.drop b)) (hap:Cy off sz io=true)
  (hp:jn es i off sz t=some es') (hx:ee A t [] as xs):as.length=sz/\es'.length=es.length/\∃cells',jl cells (b+i*s+off) as=some cells'/\b<=cells'.length/\O_ A H K s io iz ver hole es' (cells'.drop b):=by
 unfold jn at hp;split at hp
 ·cases hp
 rename_i e1 he1;split at hp;rotate_left
 ·cases hp
 rename_i e1' hp';cases hp;have hlt:i < es.length:=(qqb.1 he1).1;obtain⟨ts,hce,hts⟩:=Gb hG hio he1;obtain⟨hn,ce',us,h3,h4,h5⟩:=oU hce hx hp';rw [CX] at h4;have qxl:xh off sz [(io,VV.ow K ver i)]=[(io,VV.ow K ver i)]:=by simp only [Cy,qqC,qqF,qqG] at hap;simp only [xh,cond_eq_ite,qqB,qqF,qqG];rw [if_neg (by omega)]
 rw [qxl] at h4;obtain⟨hov,hat⟩:=lK h3;obtain⟨hb1,_⟩:=jq h3;have hl:=hG.len;rw [qqo] at hl;have h9:=gz (z:=s) hlt;have hz':(((cells.drop b).drop (i*s)).take s).length=s:=by simp only [qqn,qqo];omega
 rw [hz'] at hb1 hov;have qxV:jl cells (b+i*s+off) as=some (cells.take (b+i*s+off)++as++cells.drop (b+i*s+off+as.length)):=by rw [rj,if_pos (by omega)]
 obtain⟨hl2,qz1⟩:=lK qxV;have hcell:∀q,(List.drop b (cells.take (b+i*s+off)++as++cells.drop (b+i*s+off+as.length)))[q]?=if i*s<=q/\q < i*s+s then ce'[q - i*s]? else (cells.drop b)[q]?:=by
  intro q;rw [qqh,qz1,qqh];by_cases hj:i*s<=q/\q < i*s+s
  ·rw [if_pos hj,hat,tv,qqh];by_cases hq:off<=q - i*s/\q - i*s < off+as.length
   ·rw [if_pos hq,if_pos (by omega)];congr 1;omega
   ·rw [if_neg hq,if_neg (by omega),if_pos (by omega)];congr 1;omega
  ·rw [if_neg hj,if_neg (by omega)]
 refine⟨hn,by rw [qqs],_,qxV,by omega,by rw [qqo,qqs];omega,fun j e he=>?_⟩;rw [List.getElem?_set] at he;by_cases hij:i=j
 ·subst hij;rw [if_pos rfl,if_pos hlt] at he;cases he;have hus:us.length=s:=by rw [h4.len];exact hov
  have qQ8:∀o,o < s->(List.drop b (cells.take (b+i*s+off)++as++cells.drop (b+i*s+off+as.length)))[i*s+o]?=ce'[o]?:=fun o ho=>by rw [hcell,if_pos (by omega)];congr 1;omega
  refine⟨us,h4.cells,hus,fun o t x hne ht hxx=>?_,?_⟩
  ·have ho:o < s:=by rw [←hus];exact(qqb.1 ht).1
   rw [qQ8 o ho] at hxx;have:=h4.at_ o t x ht hxx;rw [eo,if_neg (Ne.symm hne)] at this;exact this
  ·obtain⟨ts0,g1,g2,g3,x,g4,g5,g6⟩:=hG.el i e1 he1;have qXG:ts0=ts:=by have:=hce.cells;rw [g1] at this;cases this;rfl
   subst qXG;obtain⟨ts1,xs1,us1,q1,q2,q3,q4,q5,q6,q7⟩:=gA hp';rw [g1] at q1;cases q1;rw [h4.cells] at q4;cases q4;have hoff:¬(off<=io/\io < off+sz):=by simp only [Cy,qqC,qqF,qqG] at hap;omega
   refine⟨x,?_,g5,fun hn=>?_⟩
   ·rw [qQ8 io hio,hat,if_neg (by rw [hn];exact hoff),tv,if_pos hio];exact g4
   ·obtain⟨l,g7,g8⟩:=g6 hn;exact⟨l,by rw [q7,if_neg hoff];exact g7,g8⟩
 ·rw [if_neg hij] at he;obtain⟨ts0,g1,g2,g3,x,g4,g5,g6⟩:=hG.el j e he;have hne:∀o,o < s->¬(i*s<=j*s+o/\j*s+o < i*s+s):=fun o ho=>by
   rcases Nat.lt_or_gt_of_ne hij with h|h
   ·have:=gz (z:=s) h;omega
   ·have:=gz (z:=s) h;omega
  refine⟨ts0,g1,g2,fun o t y h1 h2 h3=>?_,x,?_,g5,g6⟩
  ·have ho:o < s:=by rw [←g2];exact(qqb.1 h2).1
   rw [hcell,if_neg (hne o ho)] at h3;exact g3 o t y h1 h2 h3
  ·rw [hcell,if_neg (hne io hio)];exact g4
theorem O_.mono {A A':ei} {H H':ck} {K s io iz ver qwv:Nat} {hole:Option Nat} {es:List TV} {cs:List AV} (h:O_ A H K s io iz ver hole es cs) (hA:∀j x,A (.i K ver j)=some x->A' (.i K qwv j)=some x)
  (hH:∀j x id,hole≠some j->A (.i K ver j)=some x->gR x=some id->H'.get id=H.get id):O_ A' H' K s io iz qwv hole es cs:=by
 refine⟨h.len,fun j e he=>?_⟩;obtain⟨ts,g1,g2,g3,x,g4,g5,g6⟩:=h.el j e he;refine⟨ts,g1,g2,g3,x,g4,hA j x g5,fun hn=>?_⟩;obtain⟨l,g7,g8⟩:=g6 hn;exact⟨l,g7,g8.mono fun id hi=>hH j x id hn g5 hi⟩
theorem wg.UB {V:bt} {O s io iz ver v0:Nat} {hole qk3:Option Nat} {es es0:List TV} (h:V.H.get O=some (.gn O s io iz v0 qk3 es0)) (hv:v0<=ver):wg V (ew V O (.gn O s io iz ver hole es)):=by
 refine⟨fun _ h=>h,fun K s' io' iz' qwv qk4 es' hK=>?_⟩;simp only [ew,Map.bk] at hK;split at hK
 ·cases hK;exact .inr ⟨s,io,iz,v0,qk3,es0,h,hv⟩
 ·exact .inr ⟨s',io',iz',qwv,qk4,es',hK,qqT _⟩
theorem Vk {A:ei} {H H':ck} {O s io iz ver:Nat} {es es':List TV} {id g b:Nat} {cs:List AV} {i:Nat} {l l':List TV} (hG:O_ A H O s io iz ver none es cs) (hl:AX es i io=some l) (hp:jn es i io 1 (.l l')=some es') {x:AV} (hx:A (.i O ver i)=some x)
  (hs:EL H' iz l' x) (hH:∀j y id,j≠i->A (.i O ver j)=some y->gR y=some id->H'.get id=H.get id):es'.length=es.length/\O_ A H' O s io iz ver none es' cs:=by
 unfold jn at hp;split at hp
 ·cases hp
 rename_i e1 he1;split at hp;rotate_left
 ·cases hp
 rename_i e1' hp';cases hp;have hlt:i < es.length:=(qqb.1 he1).1;refine⟨by rw [qqs],by rw [hG.len,qqs],fun j e he=>?_⟩;rw [List.getElem?_set] at he;by_cases hij:i=j
 ·subst hij;rw [if_pos rfl,if_pos hlt] at he;cases he;obtain⟨ts,g1,g2,g3,y,g4,g5,g6⟩:=hG.el i e1 he1;rw [hx] at g5;cases g5;obtain⟨ts1,xs1,us1,q1,q2,q3,q4,q5,q6,q7⟩:=gA hp';rw [g1] at q1;cases q1;cases q2;refine⟨us1,q4,by rw [q5,g2],fun o t z hne ht hz=>?_,x,g4,hx,fun _=>⟨l',?_,hs⟩⟩
  ·rw [q7,if_neg (by omega)] at ht;exact g3 o t z hne ht hz
  ·rw [q7,if_pos (by omega),Nat.sub_self];rfl
 ·rw [if_neg hij] at he;obtain⟨ts,g1,g2,g3,y,g4,g5,g6⟩:=hG.el j e he;refine⟨ts,g1,g2,g3,y,g4,g5,fun hn=>?_⟩;obtain⟨l2,g7,g8⟩:=g6 hn;exact⟨l2,g7,g8.mono fun id hi=>hH j y id (Ne.symm hij) g5 hi⟩
def Fs (A:ei) (K ver i:Nat) (x:AV):ei
 |.s O=>A (.s O)
 |.i K' v j=>if K'=K/\v=ver+1 then (if j=i then some x else A (.i K ver j)) else A (.i K' v j)
theorem zd {A:ei} {K ver i:Nat} {x:AV} {K' v j:Nat} (h:¬(K'=K/\v=ver+1)):Fs A K ver i x (.i K' v j)=A (.i K' v j):=if_neg h
theorem zf {A:ei} {K ver i:Nat} {x:AV} {j:Nat}:Fs A K ver i x (.i K (ver+1) j)=if j=i then some x else A (.i K ver j):=if_pos ⟨rfl,rfl⟩
theorem Jx {A:ei} {K ver i:Nat} {x:AV} {O:Nat} {o:VO} {y:AV} {id:Nat} (hne:O≠K) (hv:su A O y o):j_ (Fs A K ver i x) o y id↔j_ A o y id:=by
 cases o with
 |gn K' s io iz v hole es=>
  obtain⟨rfl,_⟩:=hv;have e:∀j,Fs A K ver i x (.i K' v j)=A (.i K' v j):=fun j=>zd (fun h=>hne h.1)
  simp only [j_,e]
 |_=>exact Iff.rfl
theorem VI {A:ei} {V:bt} {st:St} (hR:R A V st) {K N s io iz ver:Nat} {hole:Option Nat} {es es' l:List TV} {id g b:Nat} {cells:List AV} {i:Nat} {x:AV} (hv:V.H.get K=some (.gn K s io iz ver hole es)) (hA:A K=some (.ref id g b s es.length es.length false))
  (hH:st.H.get id=some (.row g cells)) (hb:b<=cells.length) (hG:O_ A st.H K s io iz ver hole es (cells.drop b)) (q1:0 < s) (q2:io < s) (q3:0 < iz) (hN:V.H.get N=some (.gr iz l)) (hx:A N=some x) (hNK:N≠K) (hho:hole=none\/hole=some i)
  (hp:jn es i io 1 (.l l)=some es'):∃cells',jl cells (b+i*s+io) [x]=some cells'/\R (Fs A K ver i x) (ew (f_ V N) K (.gn K s io iz (ver+1) none es')) ⟨st.env,st.H.put (some (.row g cells')) id,st.nx⟩/\
   Fr V A st.H st.nx (ew (f_ V N) K (.gn K s io iz (ver+1) none es')) (Fs A K ver i x) (st.H.put (some (.row g cells')) id) st.nx/\Ext V A (ew (f_ V N) K (.gn K s io iz (ver+1) none es')) (Fs A K ver i x):=by
 obtain⟨_,hv1,hv0,hv2,hv3⟩:=hR.nh K _ _ hv hA;have hol:∀j,j≠i->hole≠some j:=fun j hj he=>by rcases hho with h|h<;>rw [h] at he<;>cases he;exact hj rfl
 obtain⟨y,hy,hsN⟩:=hR.heap N _ hN;rw [hx] at hy;cases hy;have idN:∀id',gR x=some id'->j_ A (.gr iz l) x id':=fun id' h=>.inl h
 have idK:j_ A (.gn K s io iz ver hole es) (.ref id g b s es.length es.length false) id:=.inl rfl;have xne:∀id',gR x=some id'->id'≠id:=fun id' h he=>by subst he;exact hNK (hR.inj N K _ _ _ _ id' hN hv hx hA (idN _ h) idK)
 unfold jn at hp;split at hp
 ·cases hp
 rename_i e1 he1;split at hp;rotate_left
 ·cases hp
 rename_i e1' hp';cases hp;have hlt:i < es.length:=(qqb.1 he1).1;have hl:=hG.len;rw [qqo] at hl;have h9:=gz (z:=s) hlt;have qxV:jl cells (b+i*s+io) [x]=some (cells.take (b+i*s+io)++[x]++cells.drop (b+i*s+io+1)):=by rw [rj,if_pos (by simp only [qqq];omega)];rfl
 obtain⟨hl2,qz1⟩:=lK qxV;generalize cells.take (b+i*s+io)++[x]++cells.drop (b+i*s+io+1)=cells' at qxV hl2 qz1;have hcell:∀q,(cells'.drop b)[q]?=if q=i*s+io then some x else (cells.drop b)[q]?:=by
  intro q;rw [qqh,qz1,qqh];simp only [qqq];by_cases hq:q=i*s+io
  ·subst hq;rw [if_pos rfl,if_pos (by omega),show b+(i*s+io) - (b+i*s+io)=0 by omega];rfl
  ·rw [if_neg hq,if_neg (by omega)]
 have hmono:∀n y,A n=some y->Fs A K ver i x n=some y:=fun n y hn=>by
  cases n with
  |s O=>exact hn
  |i K' v j=>
   by_cases he:K'=K/\v=ver+1
   ·obtain⟨rfl,rfl⟩:=he;rw [hv1 (ver+1) j (by omega)] at hn;cases hn
   ·rw [zd he];exact hn
 have qq9:∀id',id'≠id->(st.H.put (some (.row g cells')) id).get id'=st.H.get id':=fun id' h=>by rw [Map.bk,if_neg h]
 have hlen':(es.set i e1').length=es.length:=qqs;have idsNew:∀id',j_ (Fs A K ver i x) (.gn K s io iz (ver+1) none (es.set i e1')) (.ref id g b s es.length es.length false) id'->j_ A (.gn K s io iz ver hole es) (.ref id g b s es.length es.length false) id'\/gR x=some id':=by
  rintro id' (h|⟨j,y,h1,h2,h3⟩)
  ·exact .inl (.inl h)
  ·rw [zf] at h2;split at h2
   ·cases h2;exact .inr h3
   ·rename_i hji;exact .inl (.inr ⟨j,y,hol j hji,h2,h3⟩)
 have get':∀(O':Nat) o',(ew (f_ V N) K (.gn K s io iz (ver+1) none (es.set i e1'))).H.get O'=some o'->(O'=K/\o'=.gn K s io iz (ver+1) none (es.set i e1'))\/(O'≠K/\O'≠N/\V.H.get O'=some o'):=fun O' o' h=>by
  simp only [ew,Map.bk] at h;split at h
  ·rename_i e;cases h;exact .inl ⟨e,rfl⟩
  ·rename_i e;obtain⟨h1,h2⟩:=lq h;exact .inr ⟨e,h1,h2⟩
 refine⟨cells',qxV,⟨fun t e he=>?_,fun O' o' ho=>?_,fun O1 O2 o1 o2 a1 a2 id' ho1 ho2 ha1 ha2 hi1 hi2=>?_,fun n hn=>?_,fun n y hn=>?_,fun id' ob hh=>?_,fun O' o' y ho hy=>?_⟩,⟨qqT _,fun id' _ hn=>?_,fun id' ⟨O',o',y,h1,h2,h3⟩=>?_⟩,⟨hmono,fun n y hn=>?_,?_⟩⟩
 ·obtain⟨a,h1,h2⟩:=hR.env t e he;exact⟨a,h1,fun hh=>(h2 hh).mono hmono⟩
 ·rcases get' O' o' ho with ⟨rfl,rfl⟩|⟨hne,qvV,h⟩
  ·refine⟨_,hA,q1,q2,q3,.inr ⟨id,g,b,cells',by rw [hlen'],by rw [Map.bk,if_pos rfl],by omega,by rw [qqo,hlen'];omega,fun j e he=>?_⟩⟩;rw [List.getElem?_set] at he;by_cases hij:i=j
   ·subst hij;rw [if_pos rfl,if_pos hlt] at he;cases he;obtain⟨ts,g1,g2,g3,y,g4,g5,g6⟩:=hG.el i e1 he1;obtain⟨ts1,xs1,us1,p1,p2,p3,p4,p5,p6,p7⟩:=gA hp';rw [g1] at p1;cases p1;cases p2;refine⟨us1,p4,by rw [p5,g2],fun o t z hno ht hz=>?_,x,by rw [hcell,if_pos rfl],by rw [zf,if_pos rfl],fun _=>⟨l,?_,EL.mono (fun id' hi=>qq9 id' (xne id' hi)) (show EL st.H iz l x from hsN)⟩⟩
    ·rw [p7,if_neg (by omega)] at ht;rw [hcell,if_neg (by omega)] at hz;exact g3 o t z hno ht hz
    ·rw [p7,if_pos (by omega),Nat.sub_self];rfl
   ·rw [if_neg hij] at he;obtain⟨ts,g1,g2,g3,y,g4,g5,g6⟩:=hG.el j e he;have hne:∀o,o < s->j*s+o≠i*s+io:=fun o ho=>by
     rcases Nat.lt_or_gt_of_ne hij with h|h
     ·have:=gz (z:=s) h;omega
     ·have:=gz (z:=s) h;omega
    refine⟨ts,g1,g2,fun o t z hno ht hz=>?_,y,by rw [hcell,if_neg (hne io q2)];exact g4,by rw [zf,if_neg (Ne.symm hij)];exact g5,fun _=>?_⟩
    ·have ho:o < s:=by rw [←g2];exact(qqb.1 ht).1
     rw [hcell,if_neg (hne o ho)] at hz;exact g3 o t z hno ht hz
    ·obtain⟨l2,g7,g8⟩:=g6 (hol j (Ne.symm hij));exact⟨l2,g7,g8.mono fun id' hi=>qq9 id' (fun he=>hv3 j y id' (hol j (Ne.symm hij)) g5 hi (by rw [he];rfl))⟩
  ·obtain⟨a,h1,h2⟩:=hR.heap O' o' h;refine⟨a,hmono _ _ h1,h2.mono hmono (fun id' hi=>qq9 id' (fun he=>?_))⟩;subst he;exact hne (hR.inj O' K _ _ _ _ id' h hv h1 hA hi idK)
 ·have sh:∀{O':Nat} {o':VO} {a':AV},(ew (f_ V N) K (.gn K s io iz (ver+1) none (es.set i e1'))).H.get O'=some o'->A O'=some a'->j_ (Fs A K ver i x) o' a' id'->∃(P:Nat) (p:VO) (ap:AV),V.H.get P=some p/\A P=some ap/\j_ A p ap id'/\(P=O'\/(P=N/\O'=K)):=by
   intro O' o' a' ho ha hi;rcases get' O' o' ho with ⟨rfl,rfl⟩|⟨hne,qvV,h⟩
   ·rw [hA] at ha;cases ha;rcases idsNew _ hi with h|h
    ·exact⟨_,_,_,hv,hA,h,.inl rfl⟩
    ·exact⟨_,_,_,hN,hx,idN _ h,.inr ⟨rfl,rfl⟩⟩
   ·exact⟨O',o',a',h,ha,(Jx hne (hR.nh O' _ _ h ha)).1 hi,.inl rfl⟩
  obtain⟨P1,p1,x1,r1,r2,r3,r4⟩:=sh ho1 ha1 hi1;obtain⟨P2,p2,x2,t1,t2,t3,t4⟩:=sh ho2 ha2 hi2;have hPP:=hR.inj P1 P2 _ _ _ _ id' r1 t1 r2 t2 r3 t3;have notN:∀{O':Nat} {o':VO},(ew (f_ V N) K (.gn K s io iz (ver+1) none (es.set i e1'))).H.get O'=some o'->O'≠N:=fun {O' o'} h he=>by
   rcases get' O' o' h with ⟨h1,_⟩|⟨_,h1,_⟩
   ·exact hNK (he▸h1)
   ·exact h1 he
  rcases r4 with rfl|⟨rfl,rfl⟩
  ·rcases t4 with rfl|⟨rfl,rfl⟩
   ·exact hPP
   ·exact absurd hPP (notN ho1)
  ·rcases t4 with rfl|⟨h1,h2⟩
   ·exact absurd hPP.symm (notN ho2)
   ·exact h2.symm
 ·have hn':V.us.get n.base=none:=hn;have h0:=hR.used n hn';cases n with
  |s O=>exact h0
  |i K' v j=>
   rw [zd]
   ·exact h0
   ·rintro⟨rfl,rfl⟩;have:=hR.used (.s K') hn';rw [hA] at this;cases this
 ·cases n with
  |s O=>exact hR.one _ _ hn
  |i K' v j=>
   by_cases he:K'=K/\v=ver+1
   ·obtain⟨rfl,rfl⟩:=he;rw [zf] at hn;split at hn
    ·cases hn;exact hR.one _ _ hx
    ·exact hR.one _ _ hn
   ·rw [zd he] at hn;exact hR.one _ _ hn
 ·have hh':(st.H.put (some (.row g cells')) id).get id'=some ob:=hh;rw [Map.bk] at hh';split at hh'
  ·rename_i e;subst e;exact hR.fresh _ _ hH
  ·exact hR.fresh _ _ hh'
 ·rcases get' O' o' ho with ⟨rfl,rfl⟩|⟨hne,qvV,h⟩
  ·have hy':A O'=some y:=hy;rw [hA] at hy';cases hy';refine⟨rfl,fun v j hvv=>?_,fun j y hy=>?_,fun j j' y y' id' _ _ h1 h2 h3 h4=>?_,fun j y id' _ h1 h2=>?_⟩
   ·rw [zd (fun h=>by omega)];exact hv1 v j (by omega)
   ·rw [zf] at hy;split at hy
    ·rename_i e;subst e;rw [hlen'];exact hlt
    ·rw [hlen'];exact hv0 j y hy
   ·rw [zf] at h1 h2;split at h1
    ·cases h1;split at h2
     ·rename_i e1 e2;rw [e1,e2]
     ·rename_i e1 e2;exact absurd (hR.inj N O' _ _ _ _ id' hN hv hx hA (idN _ h3) (.inr ⟨j',y',hol j' e2,h2,h4⟩)) hNK
    ·split at h2
     ·cases h2;rename_i e1 e2;exact absurd (hR.inj N O' _ _ _ _ id' hN hv hx hA (idN _ h4) (.inr ⟨j,y,hol j e1,h1,h3⟩)) hNK
     ·rename_i e1 e2;exact hv2 j j' y y' id' (hol j e1) (hol j' e2) h1 h2 h3 h4
   ·rw [zf] at h1;split at h1
    ·cases h1;intro h;cases h;exact xne _ h2 rfl
    ·rename_i e1;exact hv3 j y id' (hol j e1) h1 h2
  ·have hk:=hR.nh O' o' y h hy;cases o' with
   |gn K' s' io' iz' v' qk4 es2=>
    obtain⟨rfl,k1,k0,k2,k3⟩:=hk;have e:∀v j,Fs A K ver i x (.i K' v j)=A (.i K' v j):=fun v j=>zd (fun h=>hne h.1)
    refine⟨rfl,fun v j hv=>by rw [e];exact k1 v j hv,fun j x=>by rw [e];exact k0 j x,fun j j' x x' id=>?_,fun j x id=>?_⟩
    ·rw [e,e];exact k2 j j' x x' id
    ·rw [e];exact k3 j x id
   |_=>trivial
 ·exact qq9 id' (fun he=>hn (he▸⟨K,_,_,hv,hA,idK⟩))
 ·left;rcases get' O' o' h1 with ⟨rfl,rfl⟩|⟨hne,qvV,h⟩
  ·have h2':A O'=some y:=h2;rw [hA] at h2';cases h2';rcases idsNew _ h3 with h|h
   ·exact⟨O',_,_,hv,hA,h⟩
   ·exact⟨N,_,_,hN,hx,idN _ h⟩
  ·exact⟨O',o',y,h,h2,(Jx hne (hR.nh O' _ _ h h2)).1 h3⟩
 ·cases n with
  |s O=>exact .inl hn
  |i K' v j=>
   by_cases he:K'=K/\v=ver+1
   ·obtain⟨rfl,rfl⟩:=he;exact .inr (.inr ⟨K',ver+1,j,s,io,iz,ver,hole,es,rfl,hv,by omega⟩)
   ·rw [zd he] at hn;exact .inl hn
 ·refine⟨fun _ h=>h,fun K2 s2 io2 iz2 v2 h2 es2 hK=>?_⟩;rcases get' K2 _ hK with ⟨rfl,e⟩|⟨_,_,h⟩
  ·cases e;exact .inr ⟨s,io,iz,ver,hole,es,hv,by omega⟩
  ·exact .inr ⟨s2,io2,iz2,v2,h2,es2,h,qqT _⟩
theorem Bu {cf:qn} {sz:Nat} {a x:b_} {id gg off:Nat} {cells cells' as:List AV} (he:ev st.env a=.ptr id gg off) (hx:(ev st.env x).cells?=some as) (hn:as.length=sz)
  (hH:st.H.get id=some (.row gg cells)) (ho:jl cells off as=some cells'):qj cf (.store sz a x) (ev st.env) st.H st.nx=some (kr,st.H.put (some (.row gg cells')) id,st.nx):=by
 have hp:kind (.store sz a x)=.plan fun ρ=>xm ρ sz a x:=rfl
 simp only [qj,hp,xm,he,hx,cond_eq_ite,qqE,if_pos hn,gG,lY,jg,qx,hH,DI,if_pos,ho,DE]
theorem SU (hR:R A V st) {sz:Nat} {a x:b_} (h:jx V none a fun w=>jx V none x fun x=>ua V sz w x k):gw cf nt A V st none (.store sz a x) k:=by
 obtain⟨w,hw,h⟩:=fu (g:=none) hR trivial h;obtain⟨y,hy,hk⟩:=fu (g:=none) hR trivial h;generalize he:ev st.env a=p at hw;have done:∀(o:VO) {O:Nat} {o0:VO} {id gg off:Nat} {pa:AV} {cells cells' as:List AV},V.H.get O=some o0->A O=some pa->gR pa=some id->o0.pl=true->o.pl=true->ev st.env a=.ptr id gg off->(ev st.env x).cells?=some as->as.length=sz->
   st.H.get id=some (.row gg cells)->jl cells off as=some cells'->OR A (st.H.put (some (.row gg cells')) id) o pa->k (ew V O o)->gw cf nt A V st none (.store sz a x) k:=by
  intro o O o0 id gg off pa cells cells' as h1 h2 h3 p0 p1 h4 h5 h6 h7 h8 h9 h10;obtain⟨g1,g2⟩:=CM hR h1 h2 ((jd p0).2 h3) h9 (fun id hi=>(jd p0).2 ((jd p1).1 hi)) (fun _=>Dz p1);exact⟨_,_,_,Bu h4 h5 h6 h7 h8,st.env,rfl,_,A,g1,g2,Ext.Kg _ (wg.set p1),h10⟩
 cases hw<;>first|(cases hk;done)|skip
 ·rename_i O off id hO;simp only [ua] at hk;split at hk
  ·rename_i v ovs hv;split at hk
   ·rename_i t o hs;obtain⟨u,hp,hk⟩:=hk;obtain⟨z,hz,id',cs,ts,rfl,hH,hc⟩:=hR.heap O _ hv;rw [hO] at hz;cases hz;obtain⟨_,xs,_,_,hxs,_⟩:=gA hp;obtain⟨as,h1,h2⟩:=ry hR.one hy hs hxs;obtain⟨hn,cs',us,h3,h4,h5⟩:=oU hc h2 hp;exact done (.ob u (CX off o (xh off sz ovs))) hv hO rfl rfl rfl he h1 hn hH h3 ⟨_,cs',us,rfl,by rw [Map.bk,if_pos rfl],h4⟩ hk
   ·cases hk
  ·cases hk
 ·rename_i O off id hO;simp only [ua] at hk;split at hk
  ·rename_i v ovs hv;split at hk;rotate_left
   ·cases hk
   split at hk
   ·rename_i t;obtain⟨u,hp,hk⟩:=hk;obtain⟨z,hz,id',cs,ts,rfl,hH,hc⟩:=hR.heap O _ hv;rw [hO] at hz;cases hz;obtain⟨_,xs,_,_,hxs,_⟩:=gA hp;obtain⟨as,h1,h2⟩:=ry hR.one hy rfl hxs;obtain⟨hn,cs',us,h3,h4,h5⟩:=oU hc h2 hp;exact done (.ob u []) hv hO rfl rfl rfl he h1 hn hH h3 ⟨_,cs',us,rfl,by rw [Map.bk,if_pos rfl],h4⟩ hk
   ·cases hk
  ·cases hk
 ·rename_i O i off id gg b z len cap ex hO;simp only [ua] at hk;split at hk
  ·rename_i z' es hv;split at hk
   ·rename_i t;obtain⟨es',hp,hk⟩:=hk;obtain⟨y',hy',hs⟩:=hR.heap O _ hv;rw [hO] at hy';cases hy';obtain⟨hz,hs⟩:=hs;rcases hs with ⟨_,e|e⟩|⟨id',g',b',cells,e,hH,hb,hE⟩
    ·cases e
    ·cases e
    ·cases e;unfold jn at hp;split at hp
     ·cases hp
     rename_i e1 he1;split at hp
     ·rename_i e1' hp';cases hp;have hlt:i < es.length:=(qqb.1 he1).1;obtain⟨ts,ht1,ht2⟩:=lu.1 (hE.el i e1 he1);obtain⟨_,xs,_,_,hxs,_⟩:=gA hp';obtain⟨as,h1,h2⟩:=ry hR.one hy rfl hxs;have hce:ee A e1 [] (((cells.drop b).drop (i*z)).take z) ts:=⟨ht1,ht2.1,fun j w hj=>by simp [eC] at hj,fun j t x ht hx=>⟨ht2.2 j t x ht hx,qw hE.flat _ _ x (qqi hx)⟩⟩;obtain⟨hn,ce',us,h3,h4,h5⟩:=oU hce h2 hp';obtain⟨hov,hat⟩:=lK h3;obtain⟨hb1,_⟩:=jq h3;have hl:=hE.len;rw [qqo] at hl;have h9:=gz (z:=z) hlt;have hz':(((cells.drop b).drop (i*z)).take z).length=z:=by simp only [qqn,qqo];omega
      rw [hz'] at hb1 hov;have qxV:jl cells (b+i*z+off) as=some (cells.take (b+i*z+off)++as++cells.drop (b+i*z+off+as.length)):=by rw [rj,if_pos (by omega)]
      obtain⟨hl2,qz1⟩:=lK qxV;refine done (.gr z (es.set i e1')) hv hO rfl rfl rfl he h1 hn hH qxV ⟨hz,.inr ⟨id,gg,b,_,by simp only [qqs],by rw [Map.bk,if_pos rfl],by omega,?_⟩⟩ hk;refine Ru (ce':=ce') hE he1 (lu.2 ⟨us,h4.cells,h4.len,fun j t x ht hx=>((h4.at_ j t x ht hx):Can t x/\_).1⟩) hov (fun x hx=>?_) (by simp only [qqo];omega) (fun j=>?_)
      ·obtain⟨q,hq⟩:=List.getElem?_of_mem hx;have hlq:q < us.length:=by rw [h4.len];exact(qqb.1 hq).1
       exact((h4.at_ q _ x (qqa hlq) hq):Can _ x/\_).2
      ·rw [qqh,qz1,qqh];by_cases hj:i*z<=j/\j < i*z+z
       ·rw [if_pos hj,hat,tv,qqh];by_cases hq:off<=j - i*z/\j - i*z < off+as.length
        ·rw [if_pos hq,if_pos (by omega)];congr 1;omega
        ·rw [if_neg hq,if_neg (by omega),if_pos (by omega)];congr 1;omega
       ·rw [if_neg hj,if_neg (by omega)]
     ·cases hp
   ·cases hk
  ·rename_i K s io iz ver hole es hv;split at hk;rotate_left
   ·cases hk
   rename_i hK;rw [qqE] at hK;subst hK;obtain⟨z',hz',hs⟩:=hR.heap K _ hv;rw [hO] at hz';cases hz';obtain⟨rfl,rfl,rfl,rfl,p1,p2,p3,cells,hH,hb,hG⟩:=Q6 hs;obtain⟨_,hv1,hv0,hv2,hv3⟩:=hR.nh K _ _ hv hO;split at hk
   ·rename_i t;split at hk;rotate_left
    ·cases hk
    rename_i hap;obtain⟨es',hp,hk⟩:=hk;have hp0:=hp;unfold jn at hp0;split at hp0
    ·cases hp0
    split at hp0;rotate_left
    ·cases hp0
    rename_i hp';obtain⟨_,xs,_,_,hxs,_⟩:=gA hp';obtain⟨as,h1,h2⟩:=ry hR.one hy rfl hxs;obtain⟨hn,hlen,cells',h3,hb',hG'⟩:=ZK p2 hb hG hap hp h2;have hid:j_ A (.gn K z io iz ver hole es) (.ref id gg b z es.length es.length false) id:=.inl rfl;obtain⟨g1,g2⟩:=CM (o:=.gn K z io iz ver hole es') (ob:=.row gg cells') hR hv hO hid ⟨p1,p2,p3,.inr ⟨id,gg,b,cells',by rw [hlen],by rw [Map.bk,if_pos rfl],hb',hG'.mono (fun j x h=>h) (fun j x id' hn' hx hi=>by rw [Map.bk,if_neg];rintro rfl;exact hv3 j x id' hn' hx hi rfl)⟩⟩ (fun id hi=>hi) (fun hvk=>⟨rfl,hv1,fun j x hx=>by rw [hlen];exact hv0 j x hx,hv2,hv3⟩)
    exact⟨_,_,_,Bu he h1 hn hH h3,st.env,rfl,_,A,g1,g2,Ext.Kg _ (wg.UB hv (qqT _)),hk⟩
   ·rename_i N;split at hk;rotate_left
    ·cases hk
    rename_i hsz;simp only [qqB,qqE,qqD] at hsz;obtain⟨rfl,rfl,hNK⟩:=hsz;have hNK:N≠K:=by rintro rfl;simp at hNK
    split at hk;rotate_left
    ·cases hk
    rename_i z' l hN;split at hk;rotate_left
    ·cases hk
    rename_i hz';rw [qqE] at hz';subst hz';have hho:(hole=none\/hole=some i)/\∃es',jn es i off 1 (.l l)=some es'/\k (ew (f_ V N) K (.gn K z off z' (ver+1) none es')):=by
     unfold T7 at hk;split at hk
     ·exact⟨.inl rfl,hk⟩
     ·obtain⟨rfl,hk⟩:=hk;exact⟨.inr rfl,hk⟩
    clear hk;obtain⟨hho,es',hp,hk⟩:=hho;have hyN:A N=some (ev st.env x):=by cases hy;assumption
    obtain⟨cells',h3,g1,g2,g3⟩:=VI hR hv hO hH hb hG p1 p2 p3 hN hyN hNK hho hp;have hone:=hR.one _ _ hyN;have hcs:(ev st.env x).cells?=some [ev st.env x]:=by cases hq:ev st.env x<;>rw [hq] at hone<;>first|rfl|cases hone
    exact⟨_,_,_,Bu he hcs rfl hH h3,st.env,rfl,_,_,g1,g2,g3,hk⟩
   ·cases hk
  ·cases hk
 ·rename_i O v i j off id gg b z len cap ex hA;obtain⟨s,io,iz,es,ho,hk⟩:=ja hk;split at hk;rotate_left
  ·cases hk
  rename_i t;obtain⟨l,hl,l',hp,es',hp2,hk⟩:=hk;obtain⟨a0,ha0,hs⟩:=hR.heap O _ ho;obtain⟨_,hv1,hv0,hv2,hv3⟩:=hR.nh O _ _ ho ha0;have hsl:=D0 hs hl (by simp) hA;obtain rfl:=PB hsl;have hp0:=hp;unfold jn at hp0;split at hp0
  ·cases hp0
  split at hp0;rotate_left
  ·cases hp0
  rename_i hp';obtain⟨_,xs,_,_,hxs,_⟩:=gA hp';obtain⟨as,h1,h2⟩:=ry hR.one hy rfl hxs;obtain⟨hn,cells,cells',hH,h3,qkW⟩:=YN hsl hp h2;have hid:j_ A (.gn O s io z v none es) a0 id:=.inr ⟨i,_,by simp,hA,rfl⟩;have hne:∀q y id',q≠i->A (.i O v q)=some y->gR y=some id'->(st.H.put (some (.row gg cells')) id).get id'=st.H.get id':=fun q y id' hq hqy hi=>by rw [Map.bk,if_neg];rintro rfl;exact hq (hv2 q i y _ id' (by simp) (by simp) hqy hA hi rfl)
  obtain⟨q1,q2,q3,hs⟩:=hs;rcases hs with ⟨rfl,_⟩|⟨id0,g0,b0,qwn,rfl,hH0,hb0,hG⟩
  ·obtain⟨e,he',_⟩:=Kv hl;simp at he'
  ·obtain⟨hlen,hG'⟩:=Vk (id:=id) (g:=gg) (b:=b) hG hl hp2 hA qkW hne;obtain⟨g1,g2⟩:=CM (o:=.gn O s io z v none es') (ob:=.row gg cells') hR ho ha0 hid ⟨q1,q2,q3,.inr ⟨id0,g0,b0,qwn,by rw [hlen],by
     rw [Map.bk,if_neg]
     ·exact hH0
     ·rintro rfl;exact hv3 i _ _ (by simp) hA rfl rfl,hb0,hG'⟩⟩ (fun id hi=>hi) (fun hvk=>⟨rfl,hv1,fun j x hx=>by rw [hlen];exact hv0 j x hx,hv2,hv3⟩)
   exact⟨_,_,_,Bu he h1 hn hH h3,st.env,rfl,_,A,g1,g2,Ext.Kg _ (wg.UB ho (qqT _)),hk⟩
end
end Go.Ax.V
namespace Go.Ax.V
section
variable {prog:Map ay} {cf:qn} {nt:Nat} {A:ei} {V:bt} {st:St} {d:Option Nat} {g:G} {k:bt->Prop}
theorem AY {a:AV} (h:a.flat=true) (d:Nat) (H:ck):fh (d+1) H a=[]:=by cases a<;>first|rfl|cases h
theorem HO {cs:List AV} (h:∀x∈cs,AV.flat x=true) (d:Nat) (H:ck):cs.flatMap (fh (d+1) H)=[]:=by rw [List.flatMap_eq_nil_iff];exact fun x hx=>AY (h x hx) d H
theorem F_ {a:AV} (h:a.qq=true) (d:Nat) (H:ck):fh (d+2) H a=[]:=by
 rcases Hs h with h|⟨cs,rfl,h'⟩
 ·exact AY h (d+1) H
 ·rw [HQ,HO h']
theorem BH {a:AV} (h:a.plain=true) (d:Nat) (H:ck):fh (d+3) H a=[]:=by
 rcases J3 h with h|⟨cs,rfl,h'⟩
 ·exact F_ h (d+1) H
 ·rw [HP,List.flatMap_eq_nil_iff];exact fun x hx=>F_ (h' x hx) d H
theorem Q3 {H:ck} {sz:Nat} {es:List TV} {a:AV} (h:EL H sz es a) (d:Nat):∀id∈fh (d+2) H a,gR a=some id:=by
 obtain⟨hz,h⟩:=h;rcases h with ⟨rfl,rfl|rfl⟩|⟨id,g,b,cells,rfl,hH,hb,he⟩
 ·intro id hi;cases hi
 ·intro id hi;cases hi
 ·intro id' hi;have hl:cells.length=b+es.length*sz:=by have:=he.len;rw [qqo] at this;omega
  have hc:cut cells b (Nat.mul es.length sz)=some (cells.drop b):=by rw [jf,if_pos (by show b+es.length*sz<=_;omega),qqN];rw [qqo];show _<=es.length*sz;omega
  rw [DZ,hH] at hi;simp only [hc,HO he.flat] at hi;simp at hi;subst hi;rfl
structure Sub (V V':bt):Prop where
 env:V'.env=V.env
 us:V'.us=V.us
 H:∀O o,V'.H.get O=some o->V.H.get O=some o
theorem Sub.refl (V:bt):Sub V V:=⟨rfl,rfl,fun _ _ h=>h⟩
theorem Sub.trans {V V1 V2:bt} (h:Sub V V1) (h':Sub V1 V2):Sub V V2:=⟨h'.env.trans h.env,h'.us.trans h.us,fun O o hh=>h.H O o (h'.H O o hh)⟩
theorem Sub.own {V V':bt} (h:Sub V V') {A:ei} {id:Nat} (ho:gW V' A id):gW V A id:=let ⟨O,o,a,h1,h2,h3⟩:=ho;⟨O,o,a,h.H _ _ h1,h2,h3⟩
theorem Sub.r {V V':bt} (h:Sub V V') {A:ei} {st:St} (hR:R A V st):R A V' st:=hR.sub h.env h.us h.H
theorem Sub.ev {V V':bt} (h:Sub V V'):wg V V':=wg.WX h.us h.H
theorem Ext.sub {V V1 V':bt} {A A':ei} (h:Ext V1 A V' A') (hs:Sub V V1):Ext V A V' A':=(Ext.Kg A hs.ev).trans h
theorem fk (V:bt) (O:Nat):Sub V (f_ V O):=⟨rfl,rfl,fun _ _ h=>(lq h).2⟩
theorem Cl (V:bt) (w:VV):Sub V (Ae V w):=by cases w<;>first|exact fk V _|exact Sub.refl V
theorem wu:∀(l:List (Nat×VV)) (V:bt),Sub V (Af V l)
 |[],V=>Sub.refl V
 |(_,w)::r,V=>(Cl V w).trans (wu r _)
theorem j8 {V:bt} {A:ei} {st:St} (hR:R A V st) {O:Nat} {o:VO} {a:AV} {id:Nat} (hV:V.H.get O=some o) (hA:A O=some a) (hi:j_ A o a id):¬gW (f_ V O) A id:=by rintro⟨O',o',a',h1,h2,h3⟩;obtain⟨hne,h1'⟩:=lq h1;exact hne (hR.inj O' O _ _ a' a id h1' hV h2 hA h3 hi)
theorem u9 {j:Nat} {w:VV}:∀{l:List (Nat×VV)},eC j l=some w->(j,w)∈l
 |[],h=>by cases h
 |(i,w')::r,h=>by
  rw [eo] at h;split at h
  ·rename_i e;subst e;cases h;exact qqu
  ·exact qqv _ (u9 h)
theorem KB:∀{l:List (Nat×VV)} {V:bt} {O:Nat} {j:Nat},(j,VV.sl O)∈l->(Af V l).H.get O=none
 |(i,w)::r,V,O,j,h=>by
  have keep:∀{V:bt},V.H.get O=none->(Af V r).H.get O=none:=fun {V} hn=>by
   cases hh:(Af V r).H.get O with
   |none=>rfl
   |some o=>have:=(wu r V).H O o hh;rw [hn] at this;cases this
  rcases qqw.1 h with h|h
  ·cases h;exact keep (by show (V.H.put none O).get O=none;rw [Map.bk,if_pos rfl])
  ·exact KB (l:=r) (V:=Ae V w) h
theorem Q5 {V V':bt} {A:ei} {st:St} (hR:R A V st) (hs:Sub V V') {O:Nat} {o:VO} {a:AV} {id:Nat} (hV:V.H.get O=some o) (hA:A O=some a) (hi:j_ A o a id) (hg:V'.H.get O=none):¬gW V' A id:=by rintro⟨O',o',a',h1,h2,h3⟩;have:=hR.inj O' O _ _ a' a id (hs.H _ _ h1) hV h2 hA h3 hi;subst this;rw [hg] at h1;cases h1
noncomputable def UQ (fz:Bool) (st:St) (x:b_):AV:=match fz with
 |true=>Cw st.H (ev st.env) x
 |false=>ev st.env x
theorem Fb {st:St} {x:b_} {a':AV} (h:dh deep st.H (ev st.env x)=some a'):Cw st.H (ev st.env) x=a':=by simp only [Cw,h]
theorem zh {n:Nat} {t:TV} (h:cw n t):∃l,gj t=some l/\l.length=n:=by
 unfold cw at h;split at h
 ·rename_i l hl;exact⟨l,hl,h⟩
 ·cases h
def Whole (o:VO):Prop:=(∃z es,o=.gr z es)\/∃K s io iz ver es,o=.gn K s io iz ver none es
theorem Iu {V:bt} {O:Nat} {k:List TV->Prop} (h:EM V (.sl O) k):∃o,V.H.get O=some o/\Whole o/\∃es,k es/\(∀{A:ei} {H:ck} {a:AV} (d:Nat),OR A H o a->∃a',dh (d+3) H a=some a'/\Can (.l es) a'/\a'.flat=true/\(a.plain=true->a'=a)):=by
 simp only [EM] at h;split at h
 ·rename_i z es ho;exact⟨_,ho,.inl ⟨z,es,rfl⟩,es,h,fun d hor=>let ⟨a',h1,h2,h3,h4,_⟩:=Fy hor (d+1);⟨a',h1,h2,h3,h4⟩⟩
 ·rename_i K s io iz ver es ho;exact⟨_,ho,.inr ⟨_,_,_,_,_,_,rfl⟩,es,h,fun d hor=>Q7 hor d⟩
 ·cases h
theorem BG {A:ei} {H:ck} {o:VO} {a:AV} (hw:Whole o) (h:OR A H o a) (d:Nat):∀id∈fh (d+3) H a,j_ A o a id:=by
 rcases hw with ⟨z,es,rfl⟩|⟨K,s,io,iz,ver,es,rfl⟩
 ·exact fun id hi=>.inl (Q3 h (d+1) id hi)
 ·obtain⟨hs,hio,hiz,h⟩:=h;rcases h with ⟨rfl,rfl|rfl⟩|⟨id,g,b,cells,rfl,hH,hb,he⟩
  ·intro id hi;cases hi
  ·intro id hi;cases hi
  ·intro id' hi;have hl:cells.length=b+es.length*s:=by have:=he.len;rw [qqo] at this;omega
   have hc:cut cells b (Nat.mul es.length s)=some (cells.drop b):=by rw [jf,if_pos (by show b+es.length*s<=_;omega),qqN];rw [qqo];show _<=es.length*s;omega
   rw [DZ,hH] at hi;simp only [hc] at hi;rcases qqw.1 hi with rfl|hi
   ·exact .inl rfl
   obtain⟨x,hx,hi⟩:=List.mem_flatMap.1 hi;obtain⟨q,hq⟩:=List.getElem?_of_mem hx;have hlt:q < es.length*s:=by have:=(qqb.1 hq).1;rw [he.len] at this;exact this
   have hj:q / s < es.length:=(Nat.div_lt_iff_lt_mul hs).2 hlt;have hqe:q=q / s*s+q % s:=by rw [Nat.mul_comm];exact(Nat.div_add_mod q s).symm
   obtain⟨ts,g1,g2,g3,x',g4,g5,g6⟩:=he.el (q / s) _ (qqa hj);have ho:q % s < ts.length:=by rw [g2];exact Nat.mod_lt _ hs
   by_cases hoo:q % s=io
   ·obtain⟨l,g7,g8⟩:=g6 (by simp);rw [hqe,hoo,g4] at hq;cases hq;exact .inr ⟨q / s,x,by simp,g5,Q3 g8 d id' hi⟩
   ·obtain⟨p1,p2⟩:=g3 (q % s) _ x hoo (qqa ho) (by rw [←hqe];exact hq);have hh:fh (d+2) H x=[]:=AY p2 (d+1) H;rw [hh] at hi;cases hi
theorem Cc {V:bt}:∀{l:List (Nat×VV)} {v:TV} {k:TV->Prop},GN V l v k->∀j O,(j,VV.sl O)∈l->∃o,V.H.get O=some o/\Whole o
 |[],v,k,h,j,O,hm=>by cases hm
 |(off,w)::r,v,k,h,j,O,hm=>by
  have ex:∀{l:List (Nat×VV)} {v:TV} {k:TV->Prop},GN V l v k->∃u,k u:=by
   intro l
   induction l with
   |nil=>intro v k h;exact⟨v,h⟩
   |cons p l ih=>intro v k h;obtain⟨off,w⟩:=p;obtain⟨u,hu⟩:=ih h;obtain⟨es,u',_,hk⟩:=CK hu;exact⟨u',hk⟩
  rcases qqw.1 hm with hm|hm
  ·cases hm;obtain⟨u,hu⟩:∃u,EM V (.sl O) (fun es=>∃u',aq u off 1 (.l es)=some u'/\k u'):=ex (l:=r) h;obtain⟨o,h1,h2,_⟩:=Iu hu;exact⟨o,h1,h2⟩
  ·exact Cc (l:=r) h j O hm
theorem FV:∀{l:List (Nat×VV)},S2 l=true->∀j O v i,(j,VV.ow O v i) ∉ l
 |[],h,j,O,v,i,hm=>by cases hm
 |(j',w)::r,h,j,O,v,i,hm=>by
  rcases qqw.1 hm with h1|h1
  ·cases h1;cases h
  ·clear hm;cases w<;>first|(cases h;done)|exact FV (l:=r) h j O v i h1
structure ElK (A:ei) (st:St) (fz:Bool) (sz:Nat) (V:bt) (j:Nat) (parts:List (Nat×Nat×b_)) (ts:List TV) (V':bt):Prop where
 sub:Sub V V'
 len:ts.length=parts.length
 fill:∀cells:List AV,(j+parts.length)*sz<=cells.length->∃cells',fill (UQ fz st) parts cells=some cells'/\cells'.length=cells.length/\(∀q,q < j*sz->cells'[q]?=cells[q]?)/\
  (∀q,(j+parts.length)*sz<=q->cells'[q]?=cells[q]?)/\(∀q x,j*sz<=q->q < (j+parts.length)*sz->cells'[q]?=some x->x.flat=true)/\∀i t,ts[i]?=some t->B1 t ((cells'.drop ((j+i)*sz)).take sz)
 ju:fz=true->∃l,lX (dh deep st.H) (parts.map fun p=>ev st.env p.2.2)=some l
 ids:fz=true->∀id∈(parts.map fun p=>ev st.env p.2.2).flatMap (fh deep st.H),gW V A id/\¬gW V' A id
theorem Gi {fz:Bool} {sz j off n:Nat} {x:b_} {r:List (Nat×Nat×b_)} {V V1 V':bt} {t:TV} {ts:List TV} {a':AV} {l:List TV} {as:List AV} (hoff:off=j*sz) (hn:n=sz)
  (qvU:UQ fz st x=a') (hc:gj t=some l) (hl:l.length=n) (has:a'.cells?=some as) (hca:O3 l as) (hs:Sub V V1) (him:fz=true->dh deep st.H (ev st.env x)=some a')
  (hid:fz=true->∀id∈fh deep st.H (ev st.env x),gW V A id/\¬gW V1 A id) (h:ElK A st fz sz V1 (j+1) r ts V'):ElK A st fz sz V j ((off,n,x)::r) (t::ts) V':=by
 subst hoff;subst hn;refine⟨hs.trans h.sub,by simp [h.len],fun cells hcl=>?_,fun hf=>?_,fun hf id qxL=>?_⟩
 ·rw [qqr] at hcl;have hal:as.length=n:=by rw [←hca.1.1];exact hl
  have hj1:(j+1)*n=j*n+n:=by rw [Nat.add_mul,Nat.one_mul]
  have hj2:(j+1+r.length)*n=(j+(r.length+1))*n:=by congr 1;omega
  have hle:(j+1)*n<=(j+(r.length+1))*n:=Nat.mul_le_mul_right n (by omega);have hov:jl cells (j*n) as=some (cells.take (j*n)++as++cells.drop (j*n+as.length)):=by rw [rj,if_pos (by omega)]
  obtain⟨ho1,ho2⟩:=lK hov;obtain⟨cells',g1,g2,g3,g4,gf,g5⟩:=h.fill _ (by rw [ho1];omega);refine⟨cells',?_,by rw [g2,ho1],fun q hq=>?_,fun q hq=>?_,fun q y hq1 hq2 hy=>?_,fun i u hu=>?_⟩
  ·rw [z7];simp only [qvU,has,cond_eq_ite,qqE,if_pos hal,hov,g1]
  ·rw [g3 q (by omega),ho2,if_neg (by omega)]
  ·rw [qqr] at hq;rw [g4 q (by omega),ho2,if_neg (by omega)]
  ·rw [qqr] at hq2;by_cases hq:q < (j+1)*n
   ·rw [g3 q hq,ho2,if_pos (by omega)] at hy;exact hca.2 y (qqi hy)
   ·exact gf q y (by omega) (by omega) hy
  ·cases i with
   |zero=>
    simp at hu;subst hu;have:(cells'.drop (j*n)).take n=as:=by
     apply List.ext_getElem?;intro q;rw [tv];by_cases hq:q < n
     ·rw [if_pos hq,g3 _ (by omega),ho2,if_pos (by omega)];congr 1;omega
     ·rw [if_neg hq];exact(List.getElem?_eq_none_iff.2 (by omega)).symm
    rw [Nat.add_zero,this];exact lu.2 ⟨l,hc,hca.1⟩
   |succ i=>have:=g5 i u (by simpa using hu);rwa [show j+1+i=j+(i+1) by omega] at this
 ·obtain⟨l',hl'⟩:=h.ju hf;exact⟨a'::l',by rw [List.map_cons,iq];simp only [him hf,hl']⟩
 ·rw [List.map_cons,List.flatMap_cons,qqx] at qxL;rcases qxL with hi|hi
  ·obtain⟨h1,h2⟩:=hid hf id hi;exact⟨h1,fun ho=>h2 (h.sub.own ho)⟩
  ·obtain⟨h1,h2⟩:=h.ids hf id hi;exact⟨hs.own h1,h2⟩
theorem vo {fz:Bool} {sz:Nat}:∀(parts:List (Nat×Nat×b_)) (j:Nat) (V:bt) (k:List TV->bt->Prop),R A V st->vp V none fz sz j parts k->∃ts V',k ts V'/\ElK A st fz sz V j parts ts V'
 |[],j,V,k,hR,hk=>⟨[],V,hk,⟨Sub.refl V,rfl,fun cells _=>⟨cells,rfl,rfl,fun _ _=>rfl,fun _ _=>rfl,fun q x h1 h2=>by simp at h2;omega,fun i t hi=>by simp at hi⟩,fun _=>⟨[],rfl⟩,fun _ id hi=>by simp at hi⟩⟩
 |(off,n,x)::r,j,V,k,hR,hk=>by
  obtain⟨h1,hk⟩:=hk;rw [qqB,qqE,qqE] at h1;obtain⟨hoff,hn⟩:=h1;obtain⟨w,hw,hq⟩:=fu (g:=none) hR trivial hk;clear hk;have tree:∀{t:TV} {k':List TV->bt->Prop},Can t (ev st.env x)->cw n t->vp V none fz sz (j+1) r k'->(∀ts V',k' ts V'->k (t::ts) V')->∃ts V',k ts V'/\ElK A st fz sz V j ((off,n,x)::r) ts V':=by
   intro t k' hc hs hk hkk;obtain⟨l,hl1,hl2⟩:=zh hs;obtain⟨as,h1,h2⟩:=Ea hc hl1;obtain⟨ts,V',g1,g2⟩:=vo r (j+1) V k' hR hk;have him:dh deep st.H (ev st.env x)=some (ev st.env x):=uh (q8 hc) 27 _;refine⟨t::ts,V',hkk _ _ g1,Gi hoff hn ?_ hl1 hl2 h1 h2 (Sub.refl V) (fun _=>him) (fun _ id hi=>?_) g2⟩
   ·cases fz with
    |true=>exact Fb him
    |false=>rfl
   ·have hh:fh deep st.H (ev st.env x)=[]:=BH (q8 hc) 27 _;rw [hh] at hi;cases hi
  generalize he:ev st.env x=a at hw;cases hw with
  |tr hc=>exact tree (he▸hc) hq.1 hq.2 (fun _ _ h=>h)
  |gD=>exact tree (he▸Can.nil) (by rw [hq.1];rfl) hq.2 (fun _ _ h=>h)
  |yg=>exact tree (he▸ou) (by rw [hq.1];rfl) hq.2 (fun _ _ h=>h)
  |@sl O _ hO=>obtain⟨rfl,rfl,hk⟩:=hq;obtain⟨ob,ho,hwh,es,hk,him⟩:=Iu hk;obtain⟨y,hy,hs⟩:=hR.heap O _ ho;rw [hO] at hy;cases hy;obtain⟨a',g1,g2,g3,g4⟩:=him 27 hs;have hsub:Sub V (Ae V (.sl O)):=Cl V _;obtain⟨ts,V',g6,g7⟩:=vo r (j+1) _ _ (hsub.r hR) hk;obtain⟨as,p1,p2⟩:=Ea (t:=.l es) g2 rfl;refine⟨_,V',g6,Gi hoff hn (Fb (by rw [he];exact g1)) rfl rfl p1 p2 hsub (fun _=>by rw [he];exact g1) (fun _ id hi=>?_) g7⟩;rw [he] at hi;have hid:=BG hwh hs 27 id hi;exact⟨⟨O,_,a,ho,hO,hid⟩,j8 hR ho hO hid⟩
  |@st t o cs tl hv hc=>
   obtain⟨hfz,hk⟩:=hq;rw [qqB] at hfz;obtain⟨rfl,qk5⟩:=hfz;have qxZ:=Cc hk;obtain⟨u,us,cs',h1,h2,h3,⟨hs,hk⟩,h5,h6⟩:=D_ hR hc hk 26;obtain⟨l',rfl⟩:=h5 _ hv;cases h2;have hsub:Sub V (Af V o):=wu o V;obtain⟨ts,V',g6,g7⟩:=vo r (j+1) _ _ (hsub.r hR) hk;have him:dh deep st.H (ev st.env x)=some (.agg cs'):=by rw [he];show dh (29+1) _ _=_;rw [oJ,h1]
   refine⟨_,V',g6,Gi hoff hn (Fb him) rfl hs rfl h3 hsub (fun _=>him) (fun _ id hi=>?_) g7⟩;rw [he] at hi;have hi':id∈cs.flatMap (fh 29 st.H):=hi;obtain⟨y,hy,hi'⟩:=List.mem_flatMap.1 hi';obtain⟨q,hq⟩:=List.getElem?_of_mem hy;have hlt:q < tl.length:=by rw [hc.len];exact(qqb.1 hq).1
   have hat:=hc.at_ q _ y (qqa hlt) hq;cases ho:eC q o with
   |none=>rw [ho] at hat;have hh:fh 29 st.H y=[]:=AY hat.2 28 _;rw [hh] at hi';cases hi'
   |some w=>
    rw [ho] at hat;cases w<;>first|(exact absurd hat (by intro hh;exact hh))|skip
    ·rcases hat with e|e<;>(rw [e] at hi';cases hi')
    ·rename_i O;have hO:A O=some y:=hat;obtain⟨ob,hO',hwh⟩:=qxZ q O (u9 ho);obtain⟨y',hy',hs'⟩:=hR.heap O _ hO';rw [hO] at hy';cases hy';have qQ4:=BG hwh hs' 26 id hi';exact⟨⟨O,_,y,hO',hO,qQ4⟩,Q5 hR hsub hO' hO qQ4 (KB (u9 ho))⟩
    ·exact absurd (u9 ho) (FV qk5 _ _ _ _)
  |_=>cases hq
end
end Go.Ax.V
namespace Go.Ax.V
section
variable {prog:Map ay} {cf:qn} {nt:Nat} {A:ei} {V:bt} {st:St} {d:Option Nat} {g:G} {k:bt->Prop}
theorem jJ {n:Nat} {p:Prop} (h:pos n p):0 < n/\p:=by
 unfold pos at h;rw [cond_eq_ite] at h;split at h
 ·rename_i hh;exact⟨by simpa using hh,h⟩
 ·cases h
theorem eg {a b:Nat} {p:Prop} (h:same a b p):a=b/\p:=by
 unfold same at h;rw [cond_eq_ite] at h;split at h
 ·rename_i hh;exact⟨by simpa using hh,h⟩
 ·cases h
theorem vt:∀(l:List Nat) (H:ck) (id:Nat),(drop H l).get id=if id∈l then none else H.get id
 |[],H,id=>by simp [drop]
 |i::l,H,id=>by
  rw [drop,vt l,Map.bk];by_cases h:id∈l
  ·rw [if_pos h,if_pos (qqv _ h)]
  ·rw [if_neg h];by_cases e:id=i
   ·rw [if_pos e,if_pos (by rw [e];exact qqu)]
   ·rw [if_neg e,if_neg (by intro hh;rcases qqw.1 hh with hh|hh;exact e hh;exact h hh)]
theorem HI {fz:Bool} {sz:Nat} {parts:List (Nat×Nat×b_)} {ts:List TV} {V':bt} (h:ElK A st fz sz V 0 parts ts V') {zero:List AV} (hl:ts.length*sz=zero.length) :
  ∃cs,fill (UQ fz st) parts zero=some cs/\Jk sz ts cs:=by
 have hlen:=h.len;obtain⟨cs,g1,g2,g3,g4,gf,g5⟩:=h.fill zero (by rw [Nat.zero_add,←h.len,hl];exact qqT _);refine⟨cs,g1,by rw [g2,hl],fun x hx=>?_,fun j e hj=>by have:=g5 j e hj;rwa [Nat.zero_add] at this⟩;obtain⟨q,hq⟩:=List.getElem?_of_mem hx;have:=(qqb.1 hq).1;exact gf q x (by omega) (by rw [Nat.zero_add,←h.len,hl,←g2];exact this) hq
theorem QC (hR:R A V st) {es len:Nat} {zero:List AV} {parts:List (Nat×Nat×b_)} (h:pos es (vp V none false es 0 parts fun ts V'=>same ts.length len (same zero.length (ts.length*es) (s_ nt V' d none .sl (.gr es ts) k)))):gw cf nt A V st d (.tj es len zero parts) k:=by
 obtain⟨hz,h⟩:=jJ h;obtain⟨ts,V',hk,hE⟩:=vo parts 0 V _ hR h;obtain⟨hl,hk⟩:=eg hk;obtain⟨hl2,hk⟩:=eg hk;obtain⟨cs,h1,h2⟩:=HI hE (zero:=zero) hl2.symm;have hfr:=vk (A:=A) (V:=V') (st:=st) (a:=.ref st.nx 0 0 es ts.length ts.length false) (v:=.ref st.nx 0 0 es ts.length ts.length false) (ob:=.row 0 cs) (hE.sub.r hR) hk
  (fun A' hA=>⟨hz,.inr ⟨_,_,_,cs,rfl,by rw [Map.bk,if_pos rfl],qqS _,by simpa using h2⟩⟩) rfl rfl (fun A' O hO=>.sl hO)
 obtain⟨e',p1,V2,A2,p2,p3,p4⟩:=hfr;refine EX (f:=fun id=>.ref id 0 0 es len len false) (ob:=.row 0 cs) rfl (by have this:fill (ev st.env) parts zero=some cs:=h1;simp only [xd,this]) ⟨e',by rw [←hl];exact p1,V2,A2,p2,⟨p3.le,fun id hid hn=>p3.same id hid (fun ho=>hn (hE.sub.own ho)),fun id ho=>(p3.own id ho).imp hE.sub.own (fun x=>x)⟩,p4.1.sub hE.sub,p4.2⟩
theorem N3 {l:List AV} {f:AV->Bool} (h:∀x∈l,f x=true):gE f l=true:=cj.2 h
theorem Qz (hR:R A V st) {fz:Bool} {len:Nat} {zero:List AV} {parts:List (Nat×Nat×b_)} {gd:Option (Nat×Bool)} (h:NL nt V d none fz len zero parts k) :
  ∃v H' nx',Ao cf ⟨d,.bx len zero parts,gd,fz⟩ (ev st.env) st.H st.nx=some (v,H',nx')/\Next nt A V st d v H' nx' k:=by
 unfold NL at h;simp only at h;split at h
 ·split at h<;>first|(cases h;done)|skip
  split at h<;>first|(cases h;done)|skip
  split at h<;>first|(cases h;done)|skip
  exact⟨.ju [] 0 (some 0),st.H,st.nx,rfl,bw hR (fun _=>.yg) h⟩
 ·rename_i n;obtain⟨hz,h⟩:=jJ h;obtain⟨hm,h⟩:=eg h;obtain⟨ts,V',hk,hE⟩:=vo parts 0 V _ hR h;obtain⟨hl,hk⟩:=eg hk;obtain⟨cs,h1,h2⟩:=HI hE (zero:=zero) (by rw [hl,Nat.mul_comm];exact hm);have hcan:Can (.l ts) (.ju cs (n+1) (some (n+1))):=by have:=I7 hz h2 (some (n+1));rwa [hl] at this
  cases fz with
  |false=>refine⟨.ju cs (n+1) (some (n+1)),st.H,st.nx,?_,yd (hE.sub.r hR) (Fr.WX fun O o hh=>hE.sub.H O o hh) (Ext.Kg _ hE.sub.ev) (fun _=>.tr hcan) hk⟩;have h1':fill (ev st.env) parts zero=some cs:=h1;simp only [Ao,qj,kind,ko,h1',N3 h2.flat,cond_true,cond_false,gG]
  |true=>
   obtain⟨l,hl'⟩:=hE.ju rfl;have qxs:=hE.ids rfl;have h1':fill (Cw st.H (ev st.env)) parts zero=some cs:=h1;have qq9:=vt ((parts.map fun p=>ev st.env p.2.2).flatMap (fh deep st.H)) st.H;refine⟨.ju cs (n+1) (some (n+1)),drop st.H ((parts.map fun p=>ev st.env p.2.2).flatMap (fh deep st.H)),st.nx,?_,yd (A1:=A) (V1:=V') ⟨(hE.sub.r hR).env,fun O o ho=>?_,(hE.sub.r hR).inj,(hE.sub.r hR).used,hR.one,fun id o ho=>?_,(hE.sub.r hR).nh⟩ ⟨qqT _,fun id _ hn=>?_,fun id ho=>.inl (hE.sub.own ho)⟩ (Ext.Kg _ hE.sub.ev) (fun _=>.tr hcan) hk⟩
   ·simp only [Ao,hl',ko,h1',N3 h2.flat,cond_true]
   ·obtain⟨a,ha,hor⟩:=(hE.sub.r hR).heap O o ho;refine⟨a,ha,hor.mono (fun _ _ h=>h) (fun id hi=>?_)⟩;show (drop st.H _).get id=st.H.get id;rw [qq9,if_neg];exact fun hm=>(qxs id hm).2 ⟨O,o,a,ho,ha,hi⟩
   ·have ho':(drop st.H _).get id=some o:=ho;rw [qq9] at ho';split at ho'
    ·cases ho'
    ·exact hR.fresh id o ho'
   ·rw [qq9,if_neg];exact fun hm=>hn (qxs id hm).1
theorem Vo {s io n:Nat} {a:AV} {as:List AV} {t u:TV} {ts:List TV} {o:Nat} {ovs:List (Nat×VV)} (hc:ee A t ovs as ts) (hl:ts.length=s) (hio:io < s) (hov:∀j,eC j ovs=if j=io then some .gD else none) (hp:aq t io 1 (.l [])=some u):VR A (.gl s io [u]) (.ju as 1 (some 1)):=by
 obtain⟨ts',xs,us,p1,p2,p3,p4,p5,p6,p7⟩:=gA hp;have:=hc.cells.symm.trans p1;cases this;cases p2;have hla:as.length=s:=by rw [←hc.len];exact hl
 refine VR.gl (es:=[u]) (by omega) hio (by simp [hla]) (fun x hx=>?_) (fun j e he=>?_)
 ·obtain⟨q,hq⟩:=List.getElem?_of_mem hx;have hlt:q < ts.length:=by rw [hc.len];exact(qqb.1 hq).1
  have:=hc.at_ q _ x (qqa hlt) hq;rw [hov] at this;split at this
  ·rcases this with rfl|rfl<;>rfl
  ·exact this.2
 ·cases j with
  |succ j=>simp at he
  |zero=>
   simp at he;subst he;refine⟨us,p4,by rw [p5,hl],fun o t z hne ht hz=>?_,?_,fun x hx=>?_⟩
   ·rw [Nat.zero_mul,Nat.zero_add] at hz;rw [p7,if_neg (by omega)] at ht;have:=hc.at_ o t z ht hz;rw [hov,if_neg hne] at this;exact this.1
   ·rw [p7,if_pos (by omega),Nat.sub_self];rfl
   ·rw [Nat.zero_mul,Nat.zero_add] at hx;have hlt:io < ts.length:=by omega
    have:=hc.at_ io _ x (qqa hlt) hx;rw [hov,if_pos rfl] at this;exact this
theorem KJ {ρ:b_->AV} {n:Nat} {x:b_} {zero as:List AV} (hc:(ρ x).cells?=some as) (hn:as.length=n) (hz:zero.length=n):fill ρ [(0,n,x)] zero=some as:=by
 rw [z7];simp only [hc,cond_eq_ite,qqE,if_pos hn];have:jl zero 0 as=some as:=by rw [rj,if_pos (by omega),List.take_zero,List.nil_append,Nat.zero_add,List.drop_of_length_le (by omega),List.append_nil]
 rw [this];rfl
theorem QA {sh:Sh} (hR:R A V st) {fz:Bool} {len:Nat} {zero:List AV} {parts:List (Nat×Nat×b_)} {gd:Option (Nat×Bool)} (h:EF sh nt V d none fz len zero parts k) :
  ∃v H' nx',Ao cf ⟨d,.bx len zero parts,gd,fz⟩ (ev st.env) st.H st.nx=some (v,H',nx')/\Next nt A V st d v H' nx' k:=by
 unfold EF at h;split at h
 ·exact Qz hR h
 rename_i c hcc;simp only at h;split at h;rotate_left
 ·cases h
 rename_i off n x;split at h;rotate_left
 ·cases h
 rename_i hb;simp only [qqB,qqE] at hb;obtain⟨rfl,rfl,rfl,hz⟩:=hb;obtain⟨w,hw,hk⟩:=fu (g:=none) hR trivial h;have fin:∀{as:List AV},(ev st.env x).cells?=some as->as.length=OG c->(∀y∈as,AV.flat y=true)->Next nt A V st d (.ju as 1 (some 1)) st.H st.nx k->∃v H' nx',Ao cf ⟨d,.bx 1 zero [(0,OG c,x)],gd,fz⟩ (ev st.env) st.H st.nx=some (v,H',nx')/\Next nt A V st d v H' nx' k:=by
  intro as h1 h2 h3 h4;have hfl:gE AV.flat as=true:=cj.2 h3;refine⟨.ju as 1 (some 1),st.H,st.nx,?_,h4⟩;cases fz with
  |false=>simp only [Ao,qj,kind,ko,KJ h1 h2 hz,hfl,cond_true,cond_false,gG]
  |true=>
   have hpl:(ev st.env x).plain=true:=by
    cases hq:ev st.env x<;>rw [hq] at h1<;>first|(cases h1;done)|rfl|skip
    all_goals (cases h1;first|exact hfl|exact h3 _ qqu)
   have him:dh deep st.H (ev st.env x)=some (ev st.env x):=uh hpl 27 _;have qxs:fh deep st.H (ev st.env x)=[]:=BH hpl 27 _;have qvU:(Cw st.H (ev st.env) x)=ev st.env x:=Fb him;have hf2:fill (Cw st.H (ev st.env)) [(0,OG c,x)] zero=some as:=KJ (by rw [qvU];exact h1) h2 hz;have hm:lX (dh deep st.H) [ev st.env x]=some [ev st.env x]:=by rw [iq,him];rfl
   simp only [Ao,cond_true,List.map_cons,List.map_nil,hm,ko,hf2,hfl,List.flatMap_cons,List.flatMap_nil,qxs,List.append_nil];rfl
 unfold Vx at hk;split at hk
 ·split at hk;rotate_left
  ·cases hk
  rename_i hb;simp only [qqB,qqE] at hb;obtain⟨hs1,hi0⟩:=hb;have hw':ev st.env x=.av\/ev st.env x=.ju [] 0 (some 0):=by
   generalize ev st.env x=p at hw;cases hw
   ·exact .inl rfl
   ·exact .inr rfl
  have hc1:(ev st.env x).cells?=some [ev st.env x]:=by rcases hw' with e|e<;>rw [e]<;>rfl
  refine fin hc1 (by rw [hs1];rfl) (fun y hy=>by rw [qqy] at hy;subst hy;rcases hw' with e|e<;>rw [e]<;>rfl) (bw hR (fun _=>?_) hk);refine VR.gl (es:=[.l []]) (by omega) (by omega) rfl (fun y hy=>by rw [qqy] at hy;subst hy;rcases hw' with e|e<;>rw [e]<;>rfl) (fun j e he=>?_);cases j with
  |succ j=>simp at he
  |zero=>
   simp at he;subst he;refine⟨[.l []],rfl,rfl,fun o t z hne ht hz=>?_,rfl,fun y hy=>?_⟩
   ·cases o with
    |zero=>exact absurd rfl hne
    |succ o=>simp at ht
   ·simp at hy;subst hy;exact hw'
 ·rename_i t ovs;split at hk;rotate_left
  ·cases hk
  rename_i o;split at hk;rotate_left
  ·cases hk
  rename_i hb;simp only [qqB,qqE,qqG] at hb;obtain⟨rfl,hio⟩:=hb;obtain⟨hso,u,hp,hk⟩:=hk;generalize he:ev st.env x=p at hw fin;cases hw with
  |@st _ _ cs ts hv hc=>
   obtain⟨l,h1,h2⟩:=zh hso;have:=hc.cells.symm.trans h1;cases this;have hov:∀j,eC j [(Tb c,VV.gD)]=if j=Tb c then some .gD else none:=fun j=>by
    rw [eo];by_cases e:Tb c=j
    ·rw [if_pos e,if_pos e.symm]
    ·rw [if_neg e,if_neg (Ne.symm e)];rfl
   have hla:cs.length=OG c:=by rw [←hc.len];exact h2
   refine fin rfl hla (fun y hy=>?_) (bw hR (fun _=>Vo (a:=.av) (o:=0) (n:=0) hc h2 hio hov hp) hk);obtain⟨q,hq⟩:=List.getElem?_of_mem hy;have hlt:q < ts.length:=by rw [hc.len];exact(qqb.1 hq).1
   have:=hc.at_ q _ y (qqa hlt) hq;rw [hov] at this;split at this
   ·rcases this with rfl|rfl<;>rfl
   ·exact this.2
 ·cases hk
theorem SX (hR:R A V st) (ha:act g) {x:b_} (h:jx V g x fun w=>I0 nt V d g w k):gw cf nt A V st d (.xj x) k:=by
 obtain⟨w,hw,hk⟩:=fu hR ha h;generalize he:ev st.env x=p at hw;cases hw with
 |ptr h=>exact cz rfl (by simp only [uw,he]) (bw hR (fun _=>.ptr h) hk)
 |pd h=>exact cz rfl (by simp only [uw,he]) (bw hR (fun _=>.pd h) hk)
 |ea h=>exact cz rfl (by simp only [uw,he]) (bw hR (fun _=>.ea h) hk)
 |pt hl hf h=>exact cz rfl (by simp only [uw,he]) (bw hR (fun _=>.pt hl hf h) hk)
 |_=>cases hk
theorem XY {O i off off' id gg b sz len cap:Nat} {ex:Bool} (h:A O=some (.ref id gg b sz len cap ex)):VR A (.ea O i (off+off')) (.ptr id gg (Nat.add (b+i*sz+off) off')):=by have:=VR.ea (A:=A) (i:=i) (off:=off+off') h;rwa [←Nat.add_assoc] at this
theorem XZ {O v i j off off' id gg b sz len cap:Nat} {ex:Bool} (h:A (.i O v i)=some (.ref id gg b sz len cap ex)):VR A (.e2 O v i j (off+off')) (.ptr id gg (Nat.add (b+j*sz+off) off')):=by have:=VR.e2 (A:=A) (k:=j) (off:=off+off') h;rwa [←Nat.add_assoc] at this
theorem TM {v:TV} {cs:List AV} {b off off' n:Nat} (hl:b+n<=cs.length) (hf:∀x∈cs,AV.flat x=true) (h:B1 v ((cs.drop b).take n)):VR A (.pt v (off+off')) (.qc cs (Nat.add (b+off) off')):=by have:=VR.pt (A:=A) (off:=off+off') hl hf h;rwa [←Nat.add_assoc] at this
theorem SZ (hR:R A V st) (ha:act g) {off:Nat} {x:b_} (h:jx V g x fun w=>I2 nt V d g off w k):gw cf nt A V st d (.vl off x) k:=by
 obtain⟨w,hw,hk⟩:=fu hR ha h;generalize he:ev st.env x=p at hw;cases hw with
 |ptr h=>exact cz rfl (by simp only [s6,he];rfl) (bw hR (fun _=>.ptr h) hk)
 |pd h=>exact cz rfl (by simp only [s6,he];rfl) (bw hR (fun _=>.pd h) hk)
 |ea h=>exact cz rfl (by simp only [s6,he]) (bw hR (fun _=>XY h) hk)
 |pt hl hf h=>exact cz rfl (by simp only [s6,he]) (bw hR (fun _=>TM hl hf h) hk)
 |e2 h=>exact cz rfl (by simp only [s6,he]) (bw hR (fun _=>XZ h) hk)
 |_=>cases hk
theorem Zv (hR:R A V st) (ha:act g) {off:Nat} {sz:Option Nat} {x:b_} (h:jx V g x fun w=>KK nt V d g off sz w k):gw cf nt A V st d (.Nz off sz x) k:=by
 obtain⟨w,hw,hk⟩:=fu hR ha h;generalize he:ev st.env x=p at hw;have fin:∀{cs l:List AV} {v:AV},ev st.env x=.agg cs->cut cs off (gH sz)=some l->Mb sz l=some v->Next nt A V st d v st.H st.nx k->gw cf nt A V st d (.Nz off sz x) k:=
  fun h1 h2 h3 h4=>cz rfl (by simp only [J7,h1,h2,h3,lR]) h4
 cases hw with
 |@tr v _ hc=>
  obtain⟨r,h1,h2⟩:=dr hR ha hk;unfold Vp at h1;split at h1
  ·rename_i cs;cases hc with
   |a ts as hl hf hh=>obtain⟨l,y,h3,h4,h5⟩:=C5 (cs:=as) rfl ⟨⟨hl,hh⟩,hf⟩ h1;exact fin he h3 h4 (h2 _ h5)
  ·cases h1
 |@st v ovs cs ts hv hc=>
  simp only [KK] at hk;split at hk
  ·split at hk
   ·rename_i w hw;have hlt:=hc.keys _ _ hw;have hx:cs[off]?=some (cs[off]'(by rw [←hc.len];exact hlt)):=qqa _;have hs:=hc.at_ off _ _ (qqa hlt) hx;rw [hw] at hs;refine fin he (Bf hx) rfl (bw hR (fun _=>?_) hk);cases w<;>first|(exact absurd hs (by intro hh;exact hh))|skip
    ·rcases hs with e|e
     ·rw [e];exact .gD
     ·rw [e];exact .yg
    ·exact .sl hs
    ·exact .ow hs
   ·rename_i ho;obtain⟨r,h1,h2⟩:=dr hR ha hk;obtain⟨y,h3,h4,_⟩:=Bd hc h1 ho;exact fin he h3 rfl (h2 _ h4)
  ·rename_i n;split at hk
   ·rename_i ho;obtain⟨r,h1,h2⟩:=dr hR ha hk;obtain⟨l,ls,h3,h4,h5⟩:=oS hc h1;rw [ho] at h5;exact fin he h3 rfl (h2 _ (CI h5 h4))
   ·rename_i p r ho;split at hk
    ·obtain⟨u,h1,h2⟩:=hk;obtain⟨l,ls,h3,h4,h5⟩:=oS hc h1;rw [ho] at h5;exact fin he h3 rfl (bw hR (fun _=>.st h4 h5) h2)
    ·cases hk
 |_=>cases hk
theorem AW {i:TV} {n m:Nat} {a:AV} (h:jm i n=some m) (hc:Can i a):∃k z,a=.int k z/\Se z n=some m/\m < n:=by
 unfold jm at h;split at h
 ·rename_i k z;cases hc;exact⟨k,z,rfl,h,(C8 h).2⟩
 ·cases h
theorem SY (hR:R A V st) (ha:act g) {es:Nat} {x i:b_} (h:jx V g x fun w=>ue V g i fun i=>NN nt V d g es w i k):gw cf nt A V st d (.jv es x i) k:=by
 obtain⟨w,hw,hk⟩:=fu hR ha h;obtain⟨iv,hi,hk⟩:=gm hR ha hk;obtain⟨hz,hk⟩:=jJ hk;generalize he:ev st.env x=p at hw;cases hw with
 |@tr v _ hc=>
  obtain⟨e,⟨h1,h2⟩,h3⟩:=FE ha hk;unfold jh at h1;split at h1
  ·rename_i es';split at h1
   ·rename_i m hm;obtain⟨ki,zi,g1,g2,g3⟩:=AW hm hi;cases hc with
    |nil=>simp at g3
    |ju _ cs n sz c hn hcl hsz hf hh=>
     subst hn;have hE:=hh m e h1;obtain⟨l,hl1,hl2⟩:=zh h2;obtain⟨ts,ht1,ht2⟩:=lu.1 hE;rw [hl1] at ht1;cases ht1;have hmn:=gz (z:=sz) g3;have qvR:((cs.drop (m*sz)).take sz).length=sz:=by simp only [qqn,qqo];omega
     have qvP:sz=es:=by rw [←hl2,ht2.1,qvR]
     subst qvP;refine cz (v:=.qc cs (m*sz)) rfl ?_ (bw hR (fun _=>?_) h3)
     ·simp only [ux,g1,he,g2];cases cs with
      |nil=>simp at hcl;omega
      |cons _ _=>rfl
     ·exact VR.pt (b:=m*sz) (off:=0) (n:=sz) (by omega) hf hE
   ·cases h1
  ·cases h1
 |@sl O _ hO=>
  dsimp only at hk;split at hk
  ·rename_i z es' ho;obtain⟨rfl,hk2⟩:=eg hk;obtain⟨m,h1,h2⟩:=yc ha hk2;obtain⟨ki,zi,g1,g2,g3⟩:=AW h1 hi;obtain⟨y,hy,hs⟩:=hR.heap O _ ho;rw [hO] at hy;cases hy;obtain⟨_,hs⟩:=hs;rcases hs with ⟨e,_⟩|⟨id,gg,b,cells,e,hH,hb,hE⟩
   ·subst e;simp at g3
   ·subst e;exact cz (v:=.ptr id gg (b+m*z)) rfl (by simp only [ux,g1,he,g2,cond_eq_ite,qqE,if_pos];rfl) (bw hR (fun _=>VR.ea (off:=0) hO) h2)
  ·rename_i K s io iz ver hole es' ho;obtain⟨rfl,hk2⟩:=eg hk;obtain⟨m,h1,h2⟩:=yc ha hk2;obtain⟨ki,zi,g1,g2,g3⟩:=AW h1 hi;obtain⟨y,hy,hs⟩:=hR.heap O _ ho;rw [hO] at hy;cases hy;obtain⟨_,_,_,hs⟩:=hs;rcases hs with ⟨e,_⟩|⟨id,gg,b,cells,e,hH,hb,hE⟩
   ·subst e;simp at g3
   ·subst e;exact cz (v:=.ptr id gg (b+m*s)) rfl (by simp only [ux,g1,he,g2,cond_eq_ite,qqE,if_pos];rfl) (bw hR (fun _=>VR.ea (off:=0) hO) h2)
  ·cases hk
 |@ow O v j _ hA=>
  obtain⟨s,io,iz,es',ho,hk⟩:=ja hk;obtain⟨rfl,hk2⟩:=eg hk;obtain⟨m,h1,h2⟩:=yc ha hk2;unfold ixI at h1;split at h1;rotate_left
  ·cases h1
  rename_i l hl;obtain⟨ki,zi,g1,g2,g3⟩:=AW h1 hi;obtain⟨y,hy,hs⟩:=hR.heap O _ ho;have hsl:=D0 hs hl (by simp) hA;rcases hsl.2 with ⟨e,_⟩|⟨id,gg,b,cells,e,hH,hb,hE⟩
  ·subst e;simp at g3
  ·subst e;exact cz (v:=.ptr id gg (b+m*iz)) rfl (by simp only [ux,g1,he,g2,cond_eq_ite,qqE,if_pos];rfl) (bw hR (fun _=>VR.e2 (off:=0) hA) h2)
 |_=>cases hk
theorem U2 (hR:R A V st) (ha:act g) {len es:Nat} {x i:b_} (h:jx V g x fun w=>ue V g i fun i=>MA nt V d g len es w i k):gw cf nt A V st d (.oD len es x i) k:=by
 obtain⟨w,hw,hk⟩:=fu hR ha h;obtain⟨iv,hi,hk⟩:=gm hR ha hk;generalize he:ev st.env x=p at hw;have fin:∀{m:Nat} {v:AV},jm iv len=some m->(∀ki zi,ev st.env i=.int ki zi->Se zi len=some m->AO (ev st.env) len es x i=some (.val v))->Next nt A V st d v st.H st.nx k->gw cf nt A V st d (.oD len es x i) k:=by intro m v h1 h2 h3;obtain⟨ki,zi,g1,g2,g3⟩:=AW h1 hi;exact cz rfl (h2 ki zi g1 g2) h3
 cases hw with
 |@ptr O off id hO=>obtain⟨m,h1,h2⟩:=yc ha hk;exact fin h1 (fun ki zi g1 g2=>by simp only [AO,g1,g2,he];rfl) (bw hR (fun _=>VR.pd hO) h2)
 |@pd O off id hO=>obtain⟨m,h1,h2⟩:=yc ha hk;exact fin h1 (fun ki zi g1 g2=>by simp only [AO,g1,g2,he];rfl) (bw hR (fun _=>VR.pd hO) h2)
 |@pt v cs b off n hl hf hcc=>obtain⟨m,h1,h2⟩:=yc ha hk;exact fin h1 (fun ki zi g1 g2=>by simp only [AO,g1,g2,he];rfl) (bw hR (fun _=>TM hl hf hcc) h2)
 |_=>cases hk
end
end Go.Ax.V
namespace Go.Ax.V
section
variable {prog:Map ay} {cf:qn} {nt:Nat} {A:ei} {V:bt} {st:St} {d:Option Nat} {g:G} {k:bt->Prop}
theorem It {sz z:Nat} {es:List TV} {cs:List AV} {n:Nat} (h:gk sz es) (hn:es.length=n) (hc:cs.length=n*z) (hh:∀(j:Nat) (e:TV),es[j]?=some e->B1 e ((cs.drop (j*z)).take z)):es=[]\/sz=z:=by
 cases es with
 |nil=>exact .inl rfl
 |cons e r=>
  right;obtain⟨l,hl1,hl2⟩:=zh h;obtain⟨ts,ht1,ht2⟩:=lu.1 (hh 0 e rfl);rw [hl1] at ht1;cases ht1;rw [←hl2,ht2.1];have:z<=cs.length:=by rw [hc,←hn,qqr,Nat.add_mul,Nat.one_mul];omega
  simp only [qqn,qqo];omega
structure WI (H:ck) (sz:Nat) (xs:List TV) (a:AV) (src:Src) (l:List AV):Prop where
 eq:js sz a=some (xs.length,src)
 get:jg H src.q=some l
 el:Jk sz xs (src.cs l)
theorem D8 (sz:Nat):Jk sz [] []:=⟨by simp,fun x hx=>by simp at hx,fun j e h=>by simp at h⟩
theorem Uw {H:ck} {sz:Nat} {es:List TV} {a:AV} (h:EL H sz es a):∃src l,WI H sz es a src l:=by
 obtain⟨hz,h⟩:=h;rcases h with ⟨rfl,rfl|rfl⟩|⟨id,g,b,cells,rfl,hH,hb,he⟩
 ·exact⟨.list [],[],rfl,rfl,D8 sz⟩
 ·exact⟨.list [],[],by simp [js],rfl,D8 sz⟩
 ·have hl:=he.len;rw [qqo] at hl;refine⟨.CA ⟨id,g,b,es.length*sz⟩,cells.drop b,by simp [js],?_,he⟩;simp only [Src.q,jg,hH,cond_eq_ite,qqE,if_pos];rw [jf,if_pos (by omega),qqN (by rw [qqo];omega)]
theorem JK (hR:R A V st) {sz:Nat} (hz:0 < sz) {w:VV} {a:AV} (hw:VR A w a) {k:List TV->Prop} (hk:LJ V sz w k):∃xs src l,WI st.H sz xs a src l/\k xs:=by
 cases hw with
 |@tr v _ hc=>
  obtain⟨xs,h1,h2,h3⟩:=hk;cases v<;>first|(cases h1;done)|skip
  cases h1;cases hc with
  |nil=>exact⟨[],.list [],[],⟨rfl,rfl,D8 sz⟩,h3⟩
  |ju _ cs n z c hn hcl hsz hf hh=>
   refine⟨xs,.list cs,[],?_,h3⟩;rcases It h2 hn hcl hh with rfl|rfl
   ·simp at hn;subst hn;have:cs=[]:=qqM.1 (by omega);subst this;exact⟨by simp [js],rfl,D8 sz⟩
   ·exact⟨by simp [js,hn,hcl],rfl,⟨by show cs.length=_;rw [hcl,hn],hf,hh⟩⟩
 |gD=>exact⟨[],.list [],[],⟨rfl,rfl,D8 sz⟩,hk⟩
 |yg=>exact⟨[],.list [],[],⟨by simp [js],rfl,D8 sz⟩,hk⟩
 |@sl O _ hO=>
  simp only [LJ] at hk;split at hk
  ·rename_i z es ho;obtain⟨rfl,hk2⟩:=eg hk;obtain⟨y,hy,hs⟩:=hR.heap O _ ho;rw [hO] at hy;cases hy;obtain⟨src,l,h⟩:=Uw hs;exact⟨es,src,l,h,hk2⟩
  ·cases hk
 |_=>cases hk
theorem Ih {bytes:Nat} {es xs l:List TV} (h:ga bytes es xs=some l):l=es++xs/\(es.length+xs.length)*bytes<=most/\es.length+xs.length<=most:=by
 unfold ga at h;rw [cond_eq_ite] at h;split at h
 ·rename_i hh;rw [qqB,qqF,qqF] at hh;cases h;exact⟨rfl,hh.1,hh.2⟩
 ·cases h
theorem Dt (hR:R A V st) {V1:bt} (hR1:R A V1 st) (qxp:∀id,gW V1 A id->gW V A id) (hev:wg V V1) {sz bytes:Nat} {es xs l:List TV} {s x:AV} {src:Src} {lc:List AV} (hsl:EL st.H sz es s) (hone:s.one=true) (hown:∀id,gR s=some id->¬gW V1 A id/\gW V A id)
  (hx:WI st.H sz xs x src lc) (qyb:ga bytes es xs=some l) {so xo:b_} (e1:ev st.env so=s) (e2:ev st.env xo=x) (hk:s_ nt V1 d g .sl (.gr sz l) k):gw cf nt A V st d (.app sz bytes so xo) k:=by
 obtain⟨rfl,hb1,hb2⟩:=Ih qyb;have hz:=hsl.1;have qxj:kind (.app sz bytes so xo)=.plan fun ρ=>BY sz bytes (ρ so) (ρ xo):=rfl
 by_cases hm:xs=[]
 ·subst hm;refine cz (v:=s) qxj ?_ (Cr (a:=s) (nx':=st.nx) hR1 qxp hk (qqT _) hR.fresh (fun _ _=>rfl) (fun _ _ _=>rfl) (fun A' _=>by rw [List.append_nil];exact hsl) hone (fun id hi=>⟨(hown id hi).1,.inl (hown id hi).2⟩) (fun A' O hO=>.sl hO) rfl hev);have qkW:IV s=true:=by rcases hsl.2 with ⟨_,rfl|rfl⟩|⟨id,g,b,cells,rfl,_⟩<;>rfl
  simp only [BY,e1,e2,hx.eq,List.length_nil,cond_eq_ite,qqE,if_pos,qkW]
 ·have hm0:xs.length≠0:=fun h=>hm (qqM.1 h)
  obtain⟨hz,hsl⟩:=hsl;have fresh:∀(n:Nat),n=(es++xs).length->∀cells,Jk sz (es++xs) cells->Next nt A V st d (.ref st.nx 0 0 sz n n false) (st.H.put (some (.row 0 cells)) st.nx) (st.nx+1) k:=by
   intro n hn cells hE;subst hn;obtain⟨e',p1,V2,A2,p2,p3,p4⟩:=vk (A:=A) (V:=V1) (st:=st) (a:=.ref st.nx 0 0 sz (es++xs).length (es++xs).length false) (v:=.ref st.nx 0 0 sz (es++xs).length (es++xs).length false) (ob:=.row 0 cells) hR1 hk
    (fun A' hA=>⟨hz,.inr ⟨_,_,_,cells,rfl,by rw [Map.bk,if_pos rfl],qqS _,hE⟩⟩) rfl rfl (fun A' O hO=>.sl hO)
   exact⟨e',p1,V2,A2,p2,⟨p3.le,fun id hid hn=>p3.same id hid (fun ho=>hn (qxp _ ho)),fun id ho=>(p3.own id ho).imp (qxp _) (fun x=>x)⟩,(Ext.Kg A hev).trans p4.1,p4.2⟩
  rcases hsl with ⟨rfl,rfl|rfl⟩|⟨id,gg,b,cells,rfl,hH,hb,hE⟩
  ·refine⟨_,_,_,?_,fresh xs.length (by simp) (src.cs lc) (by simpa using hx.el)⟩;simp only [List.length_nil,Nat.zero_add] at hb1 hb2;simp only [qj,qxj,BY,e1,e2,hx.eq,cond_eq_ite,qqE,if_neg hm0,qqB,qqF];rw [if_pos ⟨hb1,hb2⟩];simp only [gG,lY,hx.get,qx,DE]
  ·refine⟨_,_,_,?_,fresh (0+xs.length) (by simp) (src.cs lc) (by simpa using hx.el)⟩;simp only [List.length_nil] at hb1 hb2;simp only [qj,qxj,BY,e1,e2,hx.eq,cond_eq_ite,qqE,if_neg hm0,qqB,qqF,qqG];rw [if_pos ⟨⟨⟨by show 0 < 0+xs.length;omega,by simp⟩,hb1⟩,hb2⟩];simp only [gG,lY,hx.get,qx,DE,List.nil_append];rfl
  ·have hl:=hE.len;rw [qqo] at hl;obtain⟨hn1,hn2⟩:=hown id rfl;have hE2:=H7 hE hx.el;refine⟨.ref id (gg+1) 0 sz (es.length+xs.length) (es.length+xs.length) false,st.H.put (some (.row (gg+1) (cells.drop b++src.cs lc))) id,st.nx,?_,
    Cr (a:=.ref id (gg+1) 0 sz (es.length+xs.length) (es.length+xs.length) false) hR1 qxp hk (qqT _) (fun i o hh=>?_) (fun i ho=>?_) (fun i _ hn=>?_) (fun A' _=>⟨hz,.inr ⟨id,gg+1,0,_,by rw [qqm],by rw [Map.bk,if_pos rfl],qqS _,hE2⟩⟩) rfl (fun i hi=>?_) (fun A' O hO=>.sl hO) rfl hev⟩
   ·simp only [qj,qxj,BY,e1,e2,hx.eq,cond_eq_ite,qqE,if_neg hm0,qqB,qqF,if_pos];rw [if_pos ⟨⟨trivial,hb1⟩,hb2⟩];simp only [GA,cond_eq_ite,qqF];rw [if_neg (by show ¬(es.length+xs.length<=es.length);omega),if_neg (by decide)];simp only [gG,lY,hx.get,qx,hH,DI,cond_eq_ite,qqE,if_pos];rw [if_pos (by show b+es.length*sz=cells.length;omega)];simp only [DE];rfl
   ·rw [Map.bk] at hh;split at hh
    ·rename_i e;subst e;exact hR.p_ hn2
    ·exact hR.fresh i o hh
   ·rw [Map.bk,if_neg];rintro rfl;exact hn1 ho
   ·rw [Map.bk,if_neg];rintro rfl;exact hn hn2
   ·cases hi;exact⟨hn1,.inl hn2⟩
theorem Vl (hR:R A V st) {O s io iz v i:Nat} {es:List TV} {x:AV} (ho:V.H.get O=some (.gn O s io iz v none es)) (hx:A (.i O v i)=some x) :
  R A (ew V O (.gn O s io iz v (some i) es)) st/\(∀id,gW (ew V O (.gn O s io iz v (some i) es)) A id->gW V A id)/\∀id,gR x=some id->¬gW (ew V O (.gn O s io iz v (some i) es)) A id:=by
 obtain⟨a,hA,hs⟩:=hR.heap O _ ho;obtain⟨_,hv1,hv0,hv2,hv3⟩:=hR.nh O _ _ ho hA;have ids:∀id,j_ A (.gn O s io iz v (some i) es) a id->j_ A (.gn O s io iz v none es) a id:=by
  rintro id (h|⟨j,y,h1,h2,h3⟩)
  ·exact .inl h
  ·exact .inr ⟨j,y,by simp,h2,h3⟩
 have get':∀(O':Nat) o',(ew V O (.gn O s io iz v (some i) es)).H.get O'=some o'->(O'=O/\o'=.gn O s io iz v (some i) es)\/(O'≠O/\V.H.get O'=some o'):=fun O' o' h=>by
  simp only [ew,Map.bk] at h;split at h
  ·rename_i e;cases h;exact .inl ⟨e,rfl⟩
  ·rename_i e;exact .inr ⟨e,h⟩
 have up:∀{O':Nat} {o':VO} {y:AV} {id:Nat},(ew V O (.gn O s io iz v (some i) es)).H.get O'=some o'->A O'=some y->j_ A o' y id->∃o2,V.H.get O'=some o2/\j_ A o2 y id:=fun {O' o' y id} h hy hi=>by
  rcases get' O' o' h with ⟨rfl,rfl⟩|⟨_,h⟩
  ·rw [hA] at hy;cases hy;exact⟨_,ho,ids id hi⟩
  ·exact⟨o',h,hi⟩
 refine⟨⟨hR.env,fun O' o' h=>?_,fun O1 O2 o1 o2 a1 a2 id h1 h2 r1 r2 i1 i2=>?_,hR.used,hR.one,hR.fresh,fun O' o' y h hy=>?_⟩,fun id ⟨O',o',y,h1,h2,h3⟩=>?_,fun id hi ⟨O',o',y,h1,h2,h3⟩=>?_⟩
 ·rcases get' O' o' h with ⟨rfl,rfl⟩|⟨_,h⟩
  ·refine⟨a,hA,hs.1,hs.2.1,hs.2.2.1,hs.2.2.2.imp (fun h=>h) ?_⟩;rintro⟨id,g,b,cells,rfl,h5,h6,h7⟩;refine⟨id,g,b,cells,rfl,h5,h6,h7.len,fun j e he=>?_⟩;obtain⟨ts,g1,g2,g3,x',g4,g5,g6⟩:=h7.el j e he;exact⟨ts,g1,g2,g3,x',g4,g5,fun _=>g6 (by simp)⟩
  ·exact hR.heap O' o' h
 ·obtain⟨p1,q1,q2⟩:=up h1 r1 i1;obtain⟨p2,q3,q4⟩:=up h2 r2 i2;exact hR.inj O1 O2 _ _ a1 a2 id q1 q3 r1 r2 q2 q4
 ·rcases get' O' o' h with ⟨rfl,rfl⟩|⟨_,h⟩
  ·have hy':A O'=some y:=hy;rw [hA] at hy';cases hy';exact⟨rfl,hv1,hv0,fun j j' x x' id _ _=>hv2 j j' x x' id (by simp) (by simp),fun j x id _=>hv3 j x id (by simp)⟩
  ·exact hR.nh O' o' y h hy
 ·obtain⟨p,q1,q2⟩:=up h1 h2 h3;exact⟨O',p,y,q1,h2,q2⟩
 ·have hin:j_ A (.gn O s io iz v none es) a id:=.inr ⟨i,x,by simp,hx,hi⟩;rcases get' O' o' h1 with ⟨rfl,rfl⟩|⟨hne,h⟩
  ·have h2':A O'=some y:=h2;rw [hA] at h2';cases h2';rcases h3 with h3|⟨j,z,k1,k2,k3⟩
   ·exact hv3 i x id (by simp) hx hi h3
   ·exact k1 (by rw [hv2 j i z x id (by simp) (by simp) k2 hx k3 hi])
  ·exact hne (hR.inj O' O _ _ _ _ id h ho h2 hA h3 hin)
structure Cg (H:ck) (s io iz:Nat) (es:List TV) (cs:List AV) (inn:Nat->Option AV):Prop where
 len:cs.length=es.length*s
 el:∀(j:Nat) (e:TV),es[j]?=some e->∃ts,gj e=some ts/\ts.length=s/\(∀(o:Nat) t x,o≠io->ts[o]?=some t->cs[j*s+o]?=some x->Can t x/\x.flat=true)/\
  ∃x,cs[j*s+io]?=some x/\inn j=some x/\∃l,ts[io]?=some (.l l)/\EL H iz l x
 fin:∀j x,inn j=some x->j < es.length/\x.one=true
theorem Cg.gn {H:ck} {s io iz:Nat} {es:List TV} {cs:List AV} {inn:Nat->Option AV} (h:Cg H s io iz es cs inn) {A':ei} {K:Nat} (hA:∀j,A' (.i K 0 j)=inn j):O_ A' H K s io iz 0 none es cs:=
 ⟨h.len,fun j e he=>let ⟨ts,g1,g2,g3,x,g4,g5,g6⟩:=h.el j e he;⟨ts,g1,g2,g3,x,g4,by rw [hA];exact g5,fun _=>g6⟩⟩
theorem Cg.append {H:ck} {s io iz:Nat} {es xs:List TV} {cs ds:List AV} {i1 i2:Nat->Option AV} (hs:io < s) (h:Cg H s io iz es cs i1) (h':Cg H s io iz xs ds i2):Cg H s io iz (es++xs) (cs++ds) (fun j=>if j < es.length then i1 j else i2 (j - es.length)):=by
 refine⟨by rw [qqm,qqm,h.len,h'.len,Nat.add_mul],fun j e hj=>?_,fun j x hj=>?_⟩
 ·by_cases hlt:j < es.length
  ·rw [qqc hlt] at hj;have h9:=gz (z:=s) hlt;obtain⟨ts,g1,g2,g3,x,g4,g5,g6⟩:=h.el j e hj;have ap:∀o,o < s->(cs++ds)[j*s+o]?=cs[j*s+o]?:=fun o ho=>qqc (by rw [h.len];omega)
   exact⟨ts,g1,g2,fun o t y hne ht hy=>g3 o t y hne ht (by rw [←ap o (by rw [←g2];exact(qqb.1 ht).1)];exact hy),x,by rw [ap io hs];exact g4,by simp only [if_pos hlt];exact g5,g6⟩
  ·rw [qqd (by omega)] at hj;have e1:j*s=cs.length+(j - es.length)*s:=by rw [h.len,←Nat.add_mul];congr 1;omega
   obtain⟨ts,g1,g2,g3,x,g4,g5,g6⟩:=h'.el _ e hj;have ap:∀o,(cs++ds)[j*s+o]?=ds[(j - es.length)*s+o]?:=fun o=>by rw [qqd (by omega)];congr 1;omega
   exact⟨ts,g1,g2,fun o t y hne ht hy=>g3 o t y hne ht (by rw [←ap o];exact hy),x,by rw [ap io];exact g4,by simp only [if_neg hlt];exact g5,g6⟩
 ·replace hj:(if j < es.length then i1 j else i2 (j - es.length))=some x:=hj;split at hj
  ·rename_i hlt;obtain⟨p,q⟩:=h.fin j x hj;exact⟨by rw [qqm];omega,q⟩
  ·rename_i hlt;obtain⟨p,q⟩:=h'.fin _ x hj;exact⟨by rw [qqm];omega,q⟩
theorem Cg.mono {H H':ck} {s io iz:Nat} {es:List TV} {cs:List AV} {inn:Nat->Option AV} (h:Cg H s io iz es cs inn) (hH:∀j x id,inn j=some x->gR x=some id->H'.get id=H.get id):Cg H' s io iz es cs inn:=
 ⟨h.len,fun j e he=>let ⟨ts,g1,g2,g3,x,g4,g5,l,g6,g7⟩:=h.el j e he;⟨ts,g1,g2,g3,x,g4,g5,l,g6,EL.mono (fun id hi=>hH j x id g5 hi) g7⟩,h.fin⟩
theorem ZL {H:ck} {s io iz:Nat} {es:List TV} {cs:List AV} (hiz:0 < iz) (hio:io < s) (hl:cs.length=es.length*s) (hf:∀x∈cs,AV.flat x=true)
  (h:∀(j:Nat) (e:TV),es[j]?=some e->∃ts,gj e=some ts/\ts.length=s/\(∀(o:Nat) t x,o≠io->ts[o]?=some t->cs[j*s+o]?=some x->Can t x)/\
   ts[io]?=some (.l [])/\∀x,cs[j*s+io]?=some x->x=.av\/x=.ju [] 0 (some 0)) :
  Cg H s io iz es cs (fun j=>if j < es.length then cs[j*s+io]? else none)/\∀j x,(if j < es.length then cs[j*s+io]? else none)=some x->gR x=none:=by
 have nil:∀j x,j < es.length->cs[j*s+io]?=some x->x=.av\/x=.ju [] 0 (some 0):=fun j x hj hx=>by obtain⟨ts,g1,g2,g3,g4,g5⟩:=h j _ (qqa hj);exact g5 x hx
 refine⟨⟨hl,fun j e he=>?_,fun j x hj=>?_⟩,fun j x hj=>?_⟩
 ·obtain⟨ts,g1,g2,g3,g4,g5⟩:=h j e he;have hlt:=(qqb.1 he).1;have h9:=gz (z:=s) hlt;have hx:cs[j*s+io]?=some (cs[j*s+io]'(by omega)):=qqa _;exact⟨ts,g1,g2,fun o t y hne ht hy=>⟨g3 o t y hne ht hy,hf y (qqi hy)⟩,_,hx,by simp only [if_pos hlt];exact hx,[],g4,hiz,.inl ⟨rfl,g5 _ hx⟩⟩
 ·split at hj
  ·rename_i hlt;exact⟨hlt,by rcases nil j x hlt hj with rfl|rfl<;>rfl⟩
  ·cases hj
 ·split at hj
  ·rename_i hlt;rcases nil j x hlt hj with rfl|rfl<;>rfl
  ·cases hj
theorem TP {A:ei} {s io:Nat} {xs:List TV} {a:AV} (h:VR A (.gl s io xs) a):0 < s/\io < s/\∃cs,a=.ju cs xs.length (some xs.length)/\cs.length=xs.length*s/\(∀x∈cs,AV.flat x=true)/\
  (∀(j:Nat) (e:TV),xs[j]?=some e->∃ts,gj e=some ts/\ts.length=s/\(∀(o:Nat) t x,o≠io->ts[o]?=some t->cs[j*s+o]?=some x->Can t x)/\
   ts[io]?=some (.l [])/\∀x,cs[j*s+io]?=some x->x=.av\/x=.ju [] 0 (some 0)):=by
 cases h with
 |gl h1 h2 h3 h4 h5=>exact⟨h1,h2,_,rfl,h3,h4,h5⟩
theorem Vn {A':ei} {H':ck} {K s io iz:Nat} {l:List TV} {a:AV} {inn:Nat->Option AV} (q1:0 < s) (q2:io < s) (q3:0 < iz) (hA:∀j,A' (.i K 0 j)=inn j) (hv:∀v j,0 < v->A' (.i K v j)=none)
  (hc:(l=[]/\(a=.av\/a=.ju [] 0 (some 0))/\∀j,inn j=none)\/∃id g b cells,a=.ref id g b s l.length l.length false/\H'.get id=some (.row g cells)/\b<=cells.length/\Cg H' s io iz l (cells.drop b) inn)
  (hd:∀j j' x x' id,inn j=some x->inn j'=some x'->gR x=some id->gR x'=some id->j=j') (ho:∀j x id,inn j=some x->gR x=some id->gR a≠some id) :
  OR A' H' (.gn K s io iz 0 none l) a/\su A' K a (.gn K s io iz 0 none l)/\∀id,j_ A' (.gn K s io iz 0 none l) a id->gR a=some id\/∃j x,inn j=some x/\gR x=some id:=by
 refine⟨⟨q1,q2,q3,?_⟩,⟨rfl,hv,fun j x hj=>?_,fun j j' x x' id _ _ h1 h2=>?_,fun j x id _ h1=>?_⟩,fun id hi=>?_⟩
 ·rcases hc with ⟨h1,h2,_⟩|⟨id,g,b,cells,h1,h2,h3,h4⟩
  ·exact .inl ⟨h1,h2⟩
  ·exact .inr ⟨id,g,b,cells,h1,h2,h3,h4.gn hA⟩
 ·rw [hA] at hj;rcases hc with ⟨_,_,h3⟩|⟨id,g,b,cells,h1,h2,h3,h4⟩
  ·rw [h3] at hj;cases hj
  ·exact(h4.fin j x hj).1
 ·rw [hA] at h1 h2;exact hd j j' x x' id h1 h2
 ·rw [hA] at h1;exact ho j x id h1
 ·rcases hi with hi|⟨j,x,_,h2,h3⟩
  ·exact .inl hi
  ·rw [hA] at h2;exact .inr ⟨j,x,h2,h3⟩
theorem RY (hR:R A V st) {V1:bt} (hR1:R A V1 st) (qxp:∀id,gW V1 A id->gW V A id) (hev:wg V V1) {s io iz bytes dd:Nat} {es xs l:List TV} {sv:AV} {qxU:Nat->Option AV} {so xo:b_} (q2:io < s) (q3:0 < iz)
  (hD:(es=[]/\(sv=.av\/sv=.ju [] 0 (some 0))/\∀j,qxU j=none)\/∃id g b cells,sv=.ref id g b s es.length es.length false/\st.H.get id=some (.row g cells)/\b<=cells.length/\Cg st.H s io iz es (cells.drop b) qxU) (hone:sv.one=true)
  (hi1:∀id,gR sv=some id->¬gW V1 A id/\gW V A id) (hi2:∀j x id,qxU j=some x->gR x=some id->¬gW V1 A id/\gW V A id)
  (hd:∀j j' x x' id,qxU j=some x->qxU j'=some x'->gR x=some id->gR x'=some id->j=j') (ho:∀j x id,qxU j=some x->gR x=some id->gR sv≠some id)
  (e1:ev st.env so=sv) (hx:VR A (.gl s io xs) (ev st.env xo)) (qyb:ga bytes es xs=some l) (hk:s_ nt V1 (some dd) g .sl (.gn dd s io iz 0 none l) k):gw cf nt A V st (some dd) (.app s bytes so xo) k:=by
 obtain⟨rfl,hb1,hb2⟩:=Ih qyb;obtain⟨q1,_,cs,e2,hcl,hcf,hel⟩:=TP hx;obtain⟨hcg,hcn⟩:=ZL (H:=st.H) (iz:=iz) q3 q2 hcl hcf hel;generalize hix:(fun j=>if j < xs.length then cs[j*s+io]? else none)=innx at hcg;have qwh:∀j x,innx j=some x->gR x=none:=fun j x h=>hcn j x (by rw [←hix] at h;exact h)
 have qxj:kind (.app s bytes so xo)=.plan fun ρ=>BY s bytes (ρ so) (ρ xo):=rfl
 have hsrc:js s (.ju cs xs.length (some xs.length))=some (xs.length,.list cs):=by simp only [js,cond_eq_ite,qqE];rw [if_pos (by show xs.length*s=cs.length;omega)]
 have mk:∀{a:AV} {H':ck} {nx':Nat} (inn:Nat->Option AV),(∀j x,inn j=some x->x.one=true)->st.nx<=nx'->(∀id ob,H'.get id=some ob->id < nx')->(∀id,gW V1 A id->H'.get id=st.H.get id)->(∀id,id < st.nx->¬gW V A id->H'.get id=st.H.get id)->
   a.one=true->((es++xs=[]/\(a=.av\/a=.ju [] 0 (some 0))/\∀j,inn j=none)\/∃id g b cells,a=.ref id g b s (es++xs).length (es++xs).length false/\H'.get id=some (.row g cells)/\b<=cells.length/\Cg H' s io iz (es++xs) (cells.drop b) inn)->
   (∀j j' x x' id,inn j=some x->inn j'=some x'->gR x=some id->gR x'=some id->j=j')->(∀j x id,inn j=some x->gR x=some id->gR a≠some id)->
   (∀id,gR a=some id->¬gW V1 A id/\(gW V A id\/st.nx<=id))->(∀j x id,inn j=some x->gR x=some id->¬gW V1 A id/\gW V A id)->Next nt A V st (some dd) a H' nx' k:=by
  intro a H' nx' inn r1 r2 r3 r4 r5 r6 r7 r8 r9 r10 r11;refine HB (inn:=inn) hR1 qxp hk r2 r3 r4 r5 r1 (fun A' d' hd' hm h0 h1=>?_) r6 (fun A' O hO=>.sl hO) hev;cases hd';obtain⟨t1,t2,t3⟩:=Vn q1 q2 q3 h0 h1 r7 r8 r9;refine⟨t1,t2,fun id hi=>?_⟩;rcases t3 id hi with h|⟨j,x,h2,h3⟩
  ·exact r10 id h
  ·exact⟨(r11 j x id h2 h3).1,.inl (r11 j x id h2 h3).2⟩
 by_cases hm:xs=[]
 ·subst hm;have qkW:IV sv=true:=by rcases hD with ⟨_,rfl|rfl,_⟩|⟨id,g,b,cells,rfl,_⟩<;>rfl
  refine cz (v:=sv) qxj ?_ (mk qxU (fun j x h=>?_) (qqT _) hR.fresh (fun _ _=>rfl) (fun _ _ _=>rfl) hone ?_ hd ho (fun id hi=>⟨(hi1 id hi).1,.inl (hi1 id hi).2⟩) hi2)
  ·simp only [List.length_nil] at hsrc e2;simp only [BY,e1,e2,hsrc,cond_eq_ite,qqE,if_pos,qkW]
  ·rcases hD with ⟨_,_,h3⟩|⟨id,g,b,cells,_,_,_,h4⟩
   ·rw [h3] at h;cases h
   ·exact(h4.fin j x h).2
  ·rw [List.append_nil];exact hD
 ·have hm0:xs.length≠0:=fun h=>hm (qqM.1 h)
  have fresh:∀(n:Nat),n=(es++xs).length->es=[]->Next nt A V st (some dd) (.ref st.nx 0 0 s n n false) (st.H.put (some (.row 0 cs)) st.nx) (st.nx+1) k:=by
   intro n hn hes;subst hes;subst hn;have hno:∀id,gW V1 A id->id≠st.nx:=fun id ho he=>by have:=hR.p_ (qxp id ho);omega
   refine mk innx (fun j x h=>(hcg.fin j x h).2) (Nat.le_succ _) (fun id ob hh=>?_) (fun id ho=>by rw [Map.bk,if_neg (hno id ho)]) (fun id hlt _=>by rw [Map.bk,if_neg (by omega)]) rfl (.inr ⟨st.nx,0,0,cs,rfl,by rw [Map.bk,if_pos rfl],qqS _,?_⟩)
    (fun j j' x x' id h1 h2 h3=>by rw [qwh j x h1] at h3;cases h3) (fun j x id h1 h3=>by rw [qwh j x h1] at h3;cases h3) (fun id hi=>by cases hi;exact⟨fun ho=>hno _ ho rfl,.inr (qqT _)⟩) (fun j x id h1 h3=>by rw [qwh j x h1] at h3;cases h3)
   ·rw [Map.bk] at hh;split at hh
    ·omega
    ·have:=hR.fresh _ _ hh;omega
   ·rw [List.drop_zero,List.nil_append];exact hcg.mono (fun j x id h1 h3=>by rw [qwh j x h1] at h3;cases h3)
  rcases hD with ⟨rfl,rfl|rfl,_⟩|⟨id,gg,b,cells,rfl,hH,hb,hE⟩
  ·refine⟨_,_,_,?_,fresh xs.length (by simp) rfl⟩;simp only [List.length_nil,Nat.zero_add] at hb1 hb2;simp only [qj,qxj,BY,e1,e2,hsrc,cond_eq_ite,qqE,if_neg hm0,qqB,qqF];rw [if_pos ⟨hb1,hb2⟩];simp only [gG,lY,Src.q,jg,qx,DE,Src.cs]
  ·refine⟨_,_,_,?_,fresh (0+xs.length) (by simp) rfl⟩;simp only [List.length_nil] at hb1 hb2;simp only [qj,qxj,BY,e1,e2,hsrc,cond_eq_ite,qqE,if_neg hm0,qqB,qqF,qqG];rw [if_pos ⟨⟨⟨by show 0 < 0+xs.length;omega,by simp⟩,hb1⟩,hb2⟩];simp only [gG,lY,Src.q,jg,qx,DE,Src.cs,List.nil_append];rfl
  ·have hl:=hE.len;rw [qqo] at hl;obtain⟨hn1,hn2⟩:=hi1 id rfl;have hE2:=Cg.append q2 hE hcg;have both:∀j x id',(if j < es.length then qxU j else innx (j - es.length))=some x->gR x=some id'->qxU j=some x:=fun j x id' h h3=>by
    split at h
    ·exact h
    ·rw [qwh _ x h] at h3;cases h3
   refine⟨.ref id (gg+1) 0 s (es.length+xs.length) (es.length+xs.length) false,st.H.put (some (.row (gg+1) (cells.drop b++cs))) id,st.nx,?_,
    mk (fun j=>if j < es.length then qxU j else innx (j - es.length)) (fun j x h=>(hE2.fin j x h).2) (qqT _) (fun i o hh=>?_) (fun i hoi=>?_) (fun i _ hn=>?_) rfl (.inr ⟨id,gg+1,0,_,by rw [qqm],by rw [Map.bk,if_pos rfl],qqS _,?_⟩)
     (fun j j' x x' id' h1 h2 h3 h4=>hd j j' x x' id' (both j x id' h1 h3) (both j' x' id' h2 h4) h3 h4) (fun j x id' h1 h3=>ho j x id' (both j x id' h1 h3) h3) (fun i hi=>?_) (fun j x id' h1 h3=>hi2 j x id' (both j x id' h1 h3) h3)⟩
   ·simp only [qj,qxj,BY,e1,e2,hsrc,cond_eq_ite,qqE,if_neg hm0,qqB,qqF,if_pos];rw [if_pos ⟨⟨trivial,hb1⟩,hb2⟩];simp only [GA,cond_eq_ite,qqF];rw [if_neg (by show ¬(es.length+xs.length<=es.length);omega),if_neg (by decide)];simp only [gG,lY,Src.q,jg,qx,hH,DI,cond_eq_ite,qqE,if_pos];rw [if_pos (by show b+es.length*s=cells.length;omega)];simp only [DE];rfl
   ·rw [Map.bk] at hh;split at hh
    ·rename_i e;subst e;exact hR.p_ hn2
    ·exact hR.fresh i o hh
   ·rw [Map.bk,if_neg];rintro rfl;exact hn1 hoi
   ·rw [Map.bk,if_neg];rintro rfl;exact hn hn2
   ·rw [List.drop_zero];refine hE2.mono fun j x id' h1 h3=>?_
    rw [Map.bk,if_neg];rintro rfl;exact ho j x id' (both j x id' h1 h3) h3 rfl
   ·cases hi;exact⟨hn1,.inl hn2⟩
theorem ZC {sh:Sh} (hR:R A V st) (ha:act g) {es bytes:Nat} {s x:b_} (h:jx V g s fun w=>jx V g x fun x=>HY sh nt V d g es bytes w x k):gw cf nt A V st d (.app es bytes s x) k:=by
 obtain⟨w,hw,h⟩:=fu hR ha h;obtain⟨y,hy,hk⟩:=fu hR ha h;unfold HY at hk;split at hk
 ·rename_i s' io xs;have hse:=(eg hk).1;replace hk:=(eg hk).2;subst hse;unfold I4 at hk;cases d with
  |none=>cases hk
  |some dd=>
  dsimp only at hk;obtain⟨_,q2,_⟩:=TP hy;have nilD:∀{sv:AV},(sv=.av\/sv=.ju [] 0 (some 0))->ev st.env s=sv->Nat.blt 0 (Sf (sh.gc dd))=true->(∃l,ga bytes [] xs=some l/\s_ nt V (some dd) g .sl (.gn dd s' io (Sf (sh.gc dd)) 0 none l) k)->gw cf nt A V st (some dd) (.app s' bytes s x) k:=by rintro sv hsv e1 hz ⟨l,h1,h2⟩;exact RY (es:=[]) (qxU:=fun _=>none) hR hR (fun _ h=>h) (wg.refl V) q2 (by simpa using hz) (.inl ⟨rfl,hsv,fun _=>rfl⟩) (by rcases hsv with rfl|rfl<;>rfl) (fun id hi=>by rcases hsv with rfl|rfl<;>cases hi) (fun j x id h=>by cases h) (fun j j' x x' id h=>by cases h) (fun j x id h=>by cases h) e1 hy h1 h2
  generalize e1:ev st.env s=a at hw;cases hw with
  |gD=>
   simp only at hk;split at hk
   ·rename_i hb;rw [qqB] at hb;exact nilD (.inl rfl) e1 hb.2 hk
   ·cases hk
  |yg=>
   simp only at hk;split at hk
   ·rename_i hb;rw [qqB] at hb;exact nilD (.inr rfl) e1 hb.2 hk
   ·cases hk
  |@sl O _ hO=>
   simp only at hk;split at hk;rotate_left
   ·cases hk
   rename_i K s2 io2 iz ver es ho;split at hk;rotate_left
   ·cases hk
   rename_i hb;simp only [qqB,qqE] at hb;obtain⟨rfl,rfl⟩:=hb;obtain⟨l,h1,h2⟩:=hk;obtain⟨y',hy',hs⟩:=hR.heap O _ ho;rw [hO] at hy';cases hy';obtain⟨rfl,hv1,hv0,hv2,hv3⟩:=hR.nh O _ _ ho hO;obtain⟨p1,p2,p3,hs⟩:=hs;refine RY (es:=es) (qxU:=fun j=>A (.i K ver j)) hR (hR.f_ K) (fun _ h=>(fk V K).own h) (fk V K).ev p2 p3 ?_ (hR.one _ _ hO) (fun id hi=>⟨j8 hR ho hO (.inl hi),⟨K,_,_,ho,hO,.inl hi⟩⟩)
    (fun j x id h3 h4=>⟨j8 hR ho hO (.inr ⟨j,x,by simp,h3,h4⟩),⟨K,_,_,ho,hO,.inr ⟨j,x,by simp,h3,h4⟩⟩⟩) (fun j j' x x' id=>hv2 j j' x x' id (by simp) (by simp)) (fun j x id=>hv3 j x id (by simp)) e1 hy h1 h2
   rcases hs with ⟨h3,h4⟩|⟨id,g',b,cells,h3,h4,h5,h6⟩
   ·exact .inl ⟨h3,h4,fun j=>by
     cases hq:A (.i K ver j) with
     |none=>rfl
     |some x=>have:=hv0 j x hq;rw [h3] at this;simp at this⟩
   ·exact .inr ⟨id,g',b,cells,h3,h4,h5,h6.len,fun j e he=>(let ⟨ts,g1,g2,g3,x,g4,g5,g6⟩:=h6.el j e he;⟨ts,g1,g2,g3,x,g4,g5,g6 (by simp)⟩),fun j x hx=>⟨hv0 j x hx,hR.one _ _ hx⟩⟩
  |_=>cases hk
 rename_i hngl;obtain⟨hz,hk⟩:=jJ hk;obtain⟨xs,src,l,hx,hk⟩:=JK hR hz hy hk;generalize e1:ev st.env s=a at hw;cases hw with
 |gD=>obtain⟨l',h1,h2⟩:=hk;exact Dt hR hR (fun _ h=>h) (wg.refl V) ⟨hz,.inl ⟨rfl,.inl rfl⟩⟩ rfl (fun id hi=>by cases hi) hx h1 e1 rfl h2
 |yg=>obtain⟨l',h1,h2⟩:=hk;exact Dt hR hR (fun _ h=>h) (wg.refl V) ⟨hz,.inl ⟨rfl,.inr rfl⟩⟩ rfl (fun id hi=>by cases hi) hx h1 e1 rfl h2
 |@sl O _ hO=>
  dsimp only at hk;split at hk
  ·rename_i z es' ho;obtain⟨rfl,l',h1,h2⟩:=eg hk;obtain⟨y',hy',hs⟩:=hR.heap O _ ho;rw [hO] at hy';cases hy';exact Dt hR (hR.f_ O) (fun _ h=>(fk V O).own h) (fk V O).ev hs (hR.one _ _ hO) (fun id hi=>⟨j8 hR ho hO (.inl hi),⟨O,_,_,ho,hO,.inl hi⟩⟩) hx h1 e1 rfl h2
  ·cases hk
 |@ow O v i _ hA=>dsimp only at hk;obtain⟨s2,io,iz,es',ho,hk⟩:=ja hk;obtain⟨rfl,l0,h0,l',h1,h2⟩:=eg hk;obtain⟨y',hy',hs⟩:=hR.heap O _ ho;obtain⟨r1,r2,r3⟩:=Vl hR ho hA;exact Dt hR r1 r2 (wg.UB ho (qqT _)) (D0 hs h0 (by simp) hA) (hR.one _ _ hA) (fun id hi=>⟨r3 id hi,⟨O,_,_,ho,hy',.inr ⟨i,_,by simp,hA,hi⟩⟩⟩) hx h1 e1 rfl h2
 |_=>cases hk
theorem Zt (hR:R A V st) (ha:act g) {str:Bool} {x:b_} (h:jx V g x fun w=>NK nt V d g str w k):gw cf nt A V st d (.len str x) k:=by
 obtain⟨w,hw,hk⟩:=fu hR ha h;generalize he:ev st.env x=p at hw;cases str with
 |true=>
  cases hw with
  |@tr v _ hc=>
   obtain⟨r,h1,h2⟩:=dr hR ha hk;cases v<;>first|(cases h1;done)|skip
   cases h1;cases hc;exact cz rfl (by simp only [xq,he]) (h2 _ (.i _ _))
  |_=>cases hk
 |false=>
  cases hw with
  |@tr v _ hc=>
   obtain⟨r,h1,h2⟩:=dr hR ha hk;cases v<;>first|(cases h1;done)|skip
   cases h1;cases hc with
   |nil=>exact cz rfl (by simp only [xq,he];rfl) (h2 _ (.i _ _))
   |ju _ cs n z c hn=>subst hn;exact cz rfl (by simp only [xq,he]) (h2 _ (.i _ _))
  |gD=>obtain⟨r,h1,h2⟩:=dr hR ha hk;cases h1;exact cz rfl (by simp only [xq,he]) (h2 _ (.i _ _))
  |yg=>obtain⟨r,h1,h2⟩:=dr hR ha hk;cases h1;exact cz (v:=.int .i64 ((0:Nat):Int)) rfl (by simp only [xq,he]) (h2 _ (.i _ _))
  |@sl O _ hO=>
   simp only [NK] at hk;split at hk
   ·rename_i z es ho;obtain⟨y,hy,hs⟩:=hR.heap O _ ho;rw [hO] at hy;cases hy;obtain⟨r,h1,h2⟩:=dr hR ha hk;cases h1;rcases hs.2 with ⟨rfl,rfl|rfl⟩|⟨id,gg,b,cells,rfl,_⟩
    ·exact cz (v:=.int .i64 0) rfl (by simp only [xq,he]) (h2 _ (.i _ _))
    ·exact cz (v:=.int .i64 ((0:Nat):Int)) rfl (by simp only [xq,he]) (h2 _ (.i _ _))
    ·exact cz rfl (by simp only [xq,he]) (h2 _ (.i _ _))
   ·rename_i K s io iz ver hole es ho;obtain⟨y,hy,hs⟩:=hR.heap O _ ho;rw [hO] at hy;cases hy;obtain⟨r,h1,h2⟩:=dr hR ha hk;cases h1;rcases hs.2.2.2 with ⟨rfl,rfl|rfl⟩|⟨id,gg,b,cells,rfl,_⟩
    ·exact cz (v:=.int .i64 0) rfl (by simp only [xq,he]) (h2 _ (.i _ _))
    ·exact cz (v:=.int .i64 ((0:Nat):Int)) rfl (by simp only [xq,he]) (h2 _ (.i _ _))
    ·exact cz rfl (by simp only [xq,he]) (h2 _ (.i _ _))
   ·cases hk
  |@ow O v j _ hA=>
   obtain⟨s,io,iz,es,ho,hk⟩:=ja hk;obtain⟨y,hy,hs⟩:=hR.heap O _ ho;obtain⟨r,h1,h2⟩:=dr hR ha hk;unfold QO at h1;split at h1;rotate_left
   ·cases h1
   rename_i l hl;cases h1;have hsl:=D0 hs hl (by simp) hA;rcases hsl.2 with ⟨rfl,rfl|rfl⟩|⟨id,gg,b,cells,rfl,_⟩
   ·exact cz (v:=.int .i64 0) rfl (by simp only [xq,he]) (h2 _ (.i _ _))
   ·exact cz (v:=.int .i64 ((0:Nat):Int)) rfl (by simp only [xq,he]) (h2 _ (.i _ _))
   ·exact cz rfl (by simp only [xq,he]) (h2 _ (.i _ _))
  |_=>cases hk
end
end Go.Ax.V
namespace Go.Ax.V
section
variable {prog:Map ay} {cf:qn} {nt:Nat} {A:ei} {V:bt} {st:St} {d:Option Nat} {g:G} {k:bt->Prop}
def BdR (e:Env) (x:Option b_) (v:Option TV):Prop:=match x with|none=>v=none|some x=>∃u,v=some u/\Can u (ev e x)
theorem Fh {e:Env} {x:Option b_} {v:Option TV} (h:BdR e x v) {other y r:Nat} (hb:EK v other y=some r):NX (ev e) x other y=some r:=by
 cases x with
 |none=>cases h;exact hb
 |some x=>
  obtain⟨u,rfl,hc⟩:=h;cases u<;>first|(cases hb;done)|skip
  generalize he:ev e x=p at hc;cases hc;simp only [NX,he];exact hb
theorem NY {e:Env} {lo hi:Option b_} {l h:Option TV} (hl:BdR e lo l) (hh:BdR e hi h) {n a b:Nat} (hb:Le l h n=some (a,b)):xy (ev e) lo hi none n n=some (a,b,n)/\a<=b/\b<=n:=by
 unfold Le at hb;split at hb
 ·cases hb
 rename_i b' h1;split at hb
 ·cases hb
 rename_i a' h2;cases hb;have le:∀{x:Option TV} {o y r:Nat},EK x o y=some r->o<=y->r<=y:=fun {x o y r} hb ho=>by
  unfold EK at hb;split at hb
  ·cases hb;exact ho
  ·exact(Dr hb).2
  ·cases hb
 refine⟨?_,le h2 (qqS _),le h1 (qqT _)⟩;have e0:NX (ev e) none n n=some n:=rfl;simp only [xy,e0,Fh hh h1,Fh hl h2]
theorem BA (h:R A V st) (ha:act g) {x:Option b_} {k:Option TV->Prop} (hk:DO V g x k):∃v,k v/\BdR st.env x v:=by obtain⟨v,h1,h2⟩:=Qt h ha hk;exact⟨v,h1,by cases x<;>exact h2⟩
theorem MF {sz:Nat} {es:List TV} {cs:List AV} (h:Jk sz es cs) {a b:Nat} (hab:a<=b) (hb:b<=es.length):Jk sz ((es.drop a).take (b - a)) ((cs.drop (a*sz)).take ((b - a)*sz)):=by
 have h1:a*sz+(b - a)*sz=b*sz:=by rw [←Nat.add_mul];congr 1;omega
 have h2:b*sz<=es.length*sz:=Nat.mul_le_mul_right sz hb;have hl:=h.len;refine⟨by simp only [qqn,qqo];rw [Nat.min_eq_left (by omega),Nat.min_eq_left (by omega)],qw h.flat _ _,fun j e hj=>?_⟩;rw [tv] at hj;split at hj
 ·rename_i hlt;have h3:=gz (z:=sz) hlt;have:((((cs.drop (a*sz)).take ((b - a)*sz)).drop (j*sz)).take sz)=(cs.drop ((a+j)*sz)).take sz:=by rw [List.drop_take,List.take_take,List.drop_drop,Nat.min_eq_left (by omega),Nat.add_mul]
  rw [this];exact h.el _ e hj
 ·cases hj
theorem D9 {x:Option b_} (h:yj x=true):∃k,x=some (.c (.int k (.ofNat 0))):=by
 unfold yj at h;split at h
 ·exact⟨_,rfl⟩
 ·cases h
def capA (mx:Option b_) (c:Option Nat) (m a:Nat):Option Nat:=match mx with
 |some _=>some (m - a)
 |none=>match c with
  |some c=>some (c - a)
  |none=>none
theorem Iv {es n a b m:Nat} {ρ:b_->AV} {cs cs':List AV} {lo hi mx:Option b_} {c:Option Nat} (q1:n*es=cs.length) (hb:xy ρ lo hi mx n n=some (a,b,m)) (q2:cut cs (a*es) ((b - a)*es)=some cs') :
  LM es ρ (.ju cs n c) lo hi mx=some (.ju cs' (b - a) (capA mx c m a)):=by
 have h1:Nat.beq (Nat.mul n es) cs.length=true:=by simpa using q1
 have h2:cut cs (Nat.mul a es) (Nat.mul (Nat.sub b a) es)=some cs':=q2;simp only [LM,h1,hb,h2,cond_true];cases mx<;>cases c<;>rfl
theorem UY (hR:R A V st) (ha:act g) {es:Nat} {x:b_} {lo hi mx:Option b_} (h:jx V g x fun w=>My nt V d g es w lo hi mx k):gw cf nt A V st d (.zm es x lo hi mx) k:=by
 obtain⟨w,hw,hk⟩:=fu hR ha h;have hz:=(jJ hk).1;replace hk:=(jJ hk).2;clear h;have qxj:kind (.zm es x lo hi mx)=.plan fun ρ=>lR (LM es ρ (ρ x) lo hi mx):=rfl
 generalize he:ev st.env x=p at hw;have fin:∀{v:AV},LM es (ev st.env) p lo hi mx=some v->Next nt A V st d v st.H st.nx k->gw cf nt A V st d (.zm es x lo hi mx) k:=
  fun h1 h2=>cz qxj (by rw [he,h1];rfl) h2
 cases hw with
 |@sl O _ hO=>
  dsimp only at hk;split at hk;rotate_left
  ·cases hk
  rename_i z xs ho;split at hk;rotate_left
  ·cases hk
  split at hk;rotate_left
  ·cases hk
  obtain⟨rfl,hk2⟩:=eg hk;obtain⟨l,⟨m,h1,h2⟩,hl⟩:=BA (g:=none) hR trivial hk2;obtain⟨y,hy,hs⟩:=hR.heap O _ ho;rw [hO] at hy;cases hy;have hm:m<=xs.length:=by
   unfold EK at h1;split at h1
   ·cases h1;exact qqS _
   ·exact(Dr h1).2
   ·cases h1
  have hb:xy (ev st.env) lo none none xs.length xs.length=some (m,xs.length,xs.length):=by
   have e0:∀n,NX (ev st.env) none n xs.length=some n:=fun _=>rfl
   simp only [xy,e0,Fh hl h1]
  have nxt:∀{a:AV},a.one=true->EL st.H z (xs.drop m) a->(∀id,gR a=some id->gR p=some id)->Next nt A V st d a st.H st.nx k:=fun {a} h3 h4 h5=>
   HA (a:=a) (nx':=st.nx) (hR.f_ O) (fk V O).H h2 (qqT _) hR.fresh (fun _ _=>rfl) (fun _ _ _=>rfl) (fun A' _=>h4) h3
    (fun id hi=>⟨j8 hR ho hO (.inl (h5 id hi)),.inl ⟨O,_,_,ho,hO,.inl (h5 id hi)⟩⟩) (fun A' O hO=>.sl hO)
  rcases hs.2 with ⟨rfl,rfl|rfl⟩|⟨id,gg,b,cells,rfl,hH,hbl,hE⟩
  ·simp at hm;subst hm;exact fin (by simp only [LM];simp only [List.length_nil] at hb;rw [hb]) (nxt rfl ⟨hz,.inl ⟨by simp,.inl rfl⟩⟩ (fun id hi=>hi))
  ·simp at hm;subst hm;refine fin (v:=.ju [] 0 (some 0)) ?_ (nxt rfl ⟨hz,.inl ⟨by simp,.inr rfl⟩⟩ (fun id hi=>hi));simp only [List.length_nil] at hb;simp only [LM,cond_eq_ite,qqE];rw [if_pos (by simp),hb];simp [jf]
  ·have hl':=hE.len;rw [qqo] at hl';refine fin (v:=.ref id gg (b+m*z) z (xs.length - m) (xs.length - m) false) ?_ (nxt rfl ⟨hz,.inr ⟨id,gg,b+m*z,cells,by simp,hH,?_,?_⟩⟩ (fun id hi=>hi))
   ·simp only [LM,cond_eq_ite,qqE,if_pos,hb];rfl
   ·have:=Nat.mul_le_mul_right z hm;omega
   ·have hE':=MF hE hm (qqT _);have e1:(xs.drop m).take (xs.length - m)=xs.drop m:=qqN (by simp);have e2:((cells.drop b).drop (m*z)).take ((xs.length - m)*z)=cells.drop (b+m*z):=by rw [List.drop_drop,qqN];rw [qqo,Nat.sub_mul];omega
    rwa [e1,e2] at hE'
 |@tr v _ hc=>
  dsimp only at hk;split at hk
  ·obtain⟨l,hk1,hl⟩:=BA hR ha hk;obtain⟨h,hk2,hh⟩:=BA hR ha hk1;obtain⟨r,⟨h1,h2⟩,h3⟩:=FE ha hk2;clear hk hk1 hk2;unfold TU at h1;split at h1
   ·rename_i xs;split at h1
    ·rename_i a b hab;cases h1;obtain⟨hb,qX6,qyd⟩:=NY hl hh hab;cases hc with
     |nil=>refine fin (v:=.av) (by simp only [LM];simp only [List.length_nil] at hb;rw [hb]) (bw hR (fun _=>.tr ?_) h3);simp;exact .nil
     |ju _ cs n z c hn hcl hsz hf hcc=>
      subst hn;have hE:Jk z xs cs:=⟨hcl,hf,hcc⟩;have qxl:∀z',(z'=z\/xs=[])->xs.length*z'=cs.length/\cut cs (a*z') ((b - a)*z')=some ((cs.drop (a*z)).take ((b - a)*z)):=by
       intro z' hz';rcases hz' with rfl|rfl
       ·refine⟨hcl.symm,?_⟩;have:=Nat.mul_le_mul_right z' qyd;have h1:a*z'+(b - a)*z'=b*z':=by rw [←Nat.add_mul];congr 1;omega
        rw [jf,if_pos (by omega)]
       ·simp only [List.length_nil,Nat.zero_mul] at hcl qyd ⊢;have:cs=[]:=qqM.1 hcl;subst this;have:b=0:=by omega
        subst this;have:a=0:=by omega
        subst this;simp [jf]
      obtain⟨q1,q2⟩:=qxl es (by rcases It (h2 xs rfl) rfl hcl hcc with h|h;exact .inr h;exact .inl h);have hE':=MF hE qX6 qyd;have hcan:∀c',Can (.l ((xs.drop a).take (b - a))) (.ju ((cs.drop (a*z)).take ((b - a)*z)) (b - a) c'):=fun c'=>by have:=I7 hsz hE' c';rwa [show ((xs.drop a).take (b - a)).length=b - a by simp;omega] at this
      exact fin (Iv q1 hb q2) (bw hR (fun _=>.tr (hcan _)) h3)
    ·cases h1
   ·cases h1
  ·split at hk
   ·rename_i qxr;simp only [qqB] at qxr;obtain⟨⟨⟨hc1,hc2⟩,hc3⟩,hc4⟩:=qxr;obtain⟨k1,rfl⟩:=D9 hc1;obtain⟨k2,hm2⟩:=D9 hc2;cases hm2;obtain rfl:lo=none:=(by cases lo<;>first|rfl|cases hc3);obtain⟨l,h1,hsz,h2⟩:=hk;cases v<;>first|(cases h1;done)|skip
    cases h1;cases hc with
    |nil=>exact fin (v:=.av) rfl (bw hR (fun _=>.gD) h2)
    |ju _ cs n z c hn hcl hz' hf hcc=>
     refine fin (v:=.ju [] 0 (some 0)) ?_ (bw hR (fun _=>.yg) h2);have q1:n*es=cs.length:=by
      rcases It hsz hn hcl hcc with h|h
      ·subst h;simp at hn;subst hn;simp at hcl;simp [hcl]
      ·rw [h,hcl]
     have hb:xy (ev st.env) none (some (.c (.int k1 (.ofNat 0)))) (some (.c (.int k2 (.ofNat 0)))) n n=some (0,0,0):=by rfl
     exact Iv q1 hb (by simp [jf])
   ·cases hk
 |gD=>
  dsimp only at hk;split at hk
  ·rename_i qxr;simp only [qqB] at qxr;obtain⟨⟨hc1,hc2⟩,hc3⟩:=qxr;obtain⟨k1,rfl⟩:=D9 hc1;obtain⟨k2,rfl⟩:=D9 hc2;obtain rfl:lo=none:=(by cases lo<;>first|rfl|cases hc3);exact fin (v:=.av) rfl (bw hR (fun _=>.gD) hk)
  ·cases hk
 |yg=>
  dsimp only at hk;split at hk
  ·rename_i qxr;simp only [qqB] at qxr;obtain⟨⟨hc1,hc2⟩,hc3⟩:=qxr;obtain⟨k1,rfl⟩:=D9 hc1;obtain⟨k2,rfl⟩:=D9 hc2;obtain rfl:lo=none:=(by cases lo<;>first|rfl|cases hc3);refine fin (v:=.ju [] 0 (some 0)) ?_ (bw hR (fun _=>.yg) hk);have hb:xy (ev st.env) none (some (.c (.int k1 (.ofNat 0)))) (some (.c (.int k2 (.ofNat 0)))) 0 0=some (0,0,0):=by rfl
   exact Iv (by simp) hb (by simp [jf])
  ·cases hk
 |_=>cases hk
theorem SW (hR:R A V st) {len es:Nat} {x:b_} {hi:Option b_} (hz:0 < es) (h:jx V none x fun w=>z_ nt V d len es w hi k):gw cf nt A V st d (.nw len es x none hi none) k:=by
 obtain⟨w,hw,hk⟩:=fu (g:=none) hR trivial h;generalize he:ev st.env x=p at hw;have go:∀{O off id:Nat} {v:TV} {ovs:List (Nat×VV)} {u:TV},p=.ptr id 0 off->A O=some (.ptr id 0 0)->V.H.get O=some (.ob v ovs)->ax v off (len*es)=some u->(DO V none hi fun h=>∃m,EK h len len=some m/\jb nt V d none (.sa O off m es) k)->gw cf nt A V st d (.nw len es x none hi none) k:=by
  intro O off id v ovs u e0 hO ho hu hk;subst e0;obtain⟨l,⟨m,h1,h2⟩,hl⟩:=BA (g:=none) hR trivial hk;obtain⟨z,hz',id',cs,ts,rfl,hH,hc⟩:=hR.heap O _ ho;rw [hO] at hz';cases hz';obtain⟨ts',_,q2,q3,_⟩:=ud hu;have:=hc.cells.symm.trans q2;cases this;have hb:xy (ev st.env) none hi none len len=some (0,m,len):=by
   have e0:∀n y,NX (ev st.env) none n y=some n:=fun _ _=>rfl
   simp only [xy,e0,Fh hl h1]
  have qxl:cut cs off (Nat.mul len es)=some ((cs.drop off).take (len*es)):=by rw [jf];exact if_pos (by rw [←hc.len];exact q3)
  have qxj:kind (.nw len es x none hi none)=.plan fun ρ=>xp ρ len es x none hi none:=rfl
  refine⟨.ref id 0 off es m len true,st.H,st.nx,?_,bw hR (fun _=>.sa hz hO) h2⟩;simp only [qj,qxj,xp,he,hb,gG,lY,jg,hH,Nat.beq_refl,cond_true,qxl,qx,DE];simp
 cases hw with
 |@ptr O off id hO=>
  simp only [z_] at hk;split at hk
  ·rename_i v ovs ho;obtain⟨u,h1,h2⟩:=hk;exact go rfl hO ho h1 h2
  ·cases hk
 |@pd O off id hO=>
  simp only [z_] at hk;split at hk
  ·rename_i v ovs ho;obtain⟨u,h1,h2⟩:=hk;exact go rfl hO ho h1 h2
  ·cases hk
 |_=>cases hk
theorem Tq {sz:Nat} {es:List TV} {cs:List AV} (h:Jk sz es cs) (n:Nat):Jk sz (es.take n) (cs.take (min es.length n*sz)):=by
 have:=MF h (a:=0) (b:=min es.length n) (qqS _) (Nat.min_le_left _ _);rw [Nat.zero_mul,List.drop_zero,List.drop_zero,Nat.sub_zero] at this;have e:es.take (min es.length n)=es.take n:=by rw [List.take_eq_take_min (i:=n),Nat.min_comm]
 rwa [e] at this
theorem Zz (hR:R A V st) {es:Nat} {s x:b_} (hz:0 < es) (h:jx V none s fun w=>jx V none x fun x=>KL nt V d es w x k):gw cf nt A V st d (.Lw es s x) k:=by
 obtain⟨w,hw,h⟩:=fu (g:=none) hR trivial h;obtain⟨y,hy,hk⟩:=fu (g:=none) hR trivial h;generalize he:ev st.env s=p at hw;cases hw with
 |@sa O off n z id cap hz' hO=>
  simp only [KL] at hk;obtain⟨rfl,hk⟩:=eg hk;split at hk;rotate_left
  ·cases hk
  rename_i v ovs ho;split at hk;rotate_left
  ·cases hk
  obtain⟨xs,src,l,hx,u,hcp,hk⟩:=JK hR hz hy hk;obtain⟨q,hq,id',cs,ts,rfl,hH,hc⟩:=hR.heap O _ ho;rw [hO] at hq;cases hq;obtain⟨cs',us,h3,h4⟩:=KY hc hcp (Tq hx.el n);have qxj:kind (.Lw z s x)=.plan fun ρ=>KX z (ρ s) (ρ x):=rfl
  have qwe:first (src.cs l) (Nat.mul (min xs.length n) z)=some ((src.cs l).take (min xs.length n*z)):=by rw [Dd];exact if_pos (by rw [hx.el.len];exact Nat.mul_le_mul_right z (Nat.min_le_left _ _))
  obtain⟨g1,g2⟩:=CM (o:=.ob u []) (ob:=.row 0 cs') hR ho hO (.inl rfl) ⟨_,cs',us,rfl,by rw [Map.bk,if_pos rfl],h4⟩ (fun id hi=>(jd rfl).2 ((jd rfl).1 hi)) (fun _=>Dz rfl);obtain⟨e',p1,V2,A2,p2,p3,p4,p5⟩:=bw (g:=none) (v:=.int .i64 ((min xs.length n:Nat):Int)) g1 (fun _=>VR.tr (.i _ _)) hk;refine⟨.int .i64 ((min xs.length n:Nat):Int),_,_,?_,e',p1,V2,A2,p2,g2.trans p3,(Ext.Kg A (wg.set rfl)).trans p4,p5⟩;simp only [qj,qxj,KX,he,hx.eq,Nat.beq_refl,cond_true,gG,lY,hx.get,qx,hH,DI,qwe,h3,DE];rw [show (min (xs.length:Int) (n:Int))=((min xs.length n:Nat):Int) by omega]
 |_=>cases hk
end
end Go.Ax.V
namespace Go.Ax.V
section
variable {prog:Map ay} {cf:qn} {nt:Nat} {A:ei} {V:bt} {st:St} {d:Option Nat} {g:G} {k:bt->Prop}
theorem JS (zero:List AV):∀m,(rows m zero).length=m*zero.length
 |0=>by simp [rows]
 |m+1=>by have:=JS zero m;unfold rows at this ⊢;rw [List.replicate_succ,List.flatten_cons,qqm,this,Nat.add_mul,Nat.one_mul,Nat.add_comm]
theorem JR (zero:List AV):∀m j,j < m->((rows m zero).drop (j*zero.length)).take zero.length=zero
 |0,j,h=>by omega
 |m+1,0,h=>by unfold rows;rw [List.replicate_succ,List.flatten_cons,Nat.zero_mul,List.drop_zero,List.take_left]
 |m+1,j+1,h=>by have:=JR zero m j (by omega);unfold rows at this ⊢;rw [List.replicate_succ,List.flatten_cons,Nat.add_mul,Nat.one_mul,Nat.add_comm,List.drop_append,List.drop_of_length_le (by omega),List.nil_append];rwa [show zero.length+j*zero.length - zero.length=j*zero.length by omega]
theorem Ie {cs:List AV} (h:gE kq cs=true):oY (gN cs) cs/\∀x∈cs,AV.flat x=true:=by refine⟨⟨uk cs,fun j t x ht hx=>?_⟩,fun x hx=>(vw (cj.1 h x hx)).2⟩;rw [Bj,hx] at ht;cases ht;exact(vw (cj.1 h x (qqi hx))).1
theorem Pc {zero:List AV} (h:gE kq zero=true):B1 (MT zero.length zero) zero:=by
 have hb:=(Ie h).1;have ag:B1 (.a (gN zero)) zero:=.a _ _ hb.1 hb.2;unfold MT;split
 ·rename_i hl
  match zero,hl,h with
  |[x],_,h=>have hx:=cj.1 h x qqu;refine .one _ _ ?_ (vw hx).1;cases x<;>first|rfl|cases hx
 ·exact ag
theorem U0 (hR:R A V st) {es bytes:Nat} {zero:List AV} {n:b_} (h:pos es <| match gE kq zero&&Nat.beq zero.length es with
   |true=>ue V none n fun n=>∃m,FX bytes n=some m/\s_ nt V d none .sl (.gr es (List.replicate m (MT es zero))) k
   |false=>False):gw cf nt A V st d (.Al es bytes zero n) k:=by
 have hz:=(jJ h).1;replace h:=(jJ h).2;split at h
 ·rename_i hc;rw [qqB,qqE] at hc;obtain⟨hc,rfl⟩:=hc;obtain⟨v,hv,m,h1,h2⟩:=gm (g:=none) hR trivial h;unfold FX at h1;split at h1
  ·rename_i ki z;generalize he:ev st.env n=p at hv;cases hv;split at h1
   ·rename_i m' hm;rw [cond_eq_ite] at h1;split at h1
    ·rename_i qxr;cases h1;refine EX (f:=fun id=>.ref id 0 0 zero.length m m false) (ob:=.row 0 (rows m zero)) rfl ?_ (vk hR h2 (fun A' hA=>⟨hz,.inr ⟨st.nx,0,0,rows m zero,by simp,by rw [Map.bk,if_pos rfl],qqS _,?_⟩⟩) rfl rfl (fun A' O hO=>.sl hO))
     ·simp only [Ep,he,hm,qxr,cond_true]
     ·rw [List.drop_zero];refine⟨by rw [JS,qqp],fun x hx=>?_,fun j e hj=>?_⟩
      ·unfold rows at hx;obtain⟨l,hl,hx⟩:=List.mem_flatten.1 hx;rw [List.mem_replicate] at hl;rw [hl.2] at hx;exact(Ie hc).2 x hx
      ·have hlt:j < m:=by have:=(qqb.1 hj).1;simpa using this
       rw [qqk,if_pos hlt] at hj;cases hj;rw [JR zero m j hlt];exact Pc hc
    ·cases h1
   ·cases h1
  ·cases h1
 ·cases h
theorem ZB (hR:R A V st) (ha:act g) {op:BinOp} {x y:b_} (h:ue V g x fun x=>ue V g y fun y=>lD nt V d g (bf op x y) k):gw cf nt A V st d (.bin op x y) k:=by
 obtain⟨u,h1,h⟩:=gm hR ha h;obtain⟨w,h2,h⟩:=gm hR ha h;obtain⟨r,h3,h4⟩:=dr hR ha h;obtain⟨c,h5,h6⟩:=RR h3 h1 h2;have hk:kind (.bin op x y)=.plan fun ρ=>lR (Ld op (ρ x) (ρ y)):=rfl
 exact cz hk (by simp only [h5,lR]) (h4 _ h6)
theorem o_un (hR:R A V st) (ha:act g) {op:UnOp} {x:b_} (h:ue V g x fun x=>lD nt V d g (ng op x) k):gw cf nt A V st d (.un op x) k:=by
 obtain⟨u,h1,h⟩:=gm hR ha h;obtain⟨r,h3,h4⟩:=dr hR ha h;obtain⟨c,h5,h6⟩:=Sw h3 h1;have hk:kind (.un op x)=.plan fun ρ=>lR (Um op (ρ x)):=rfl
 exact cz hk (by simp only [h5,lR]) (h4 _ h6)
theorem U3 (hR:R A V st) (ha:act g) {c:IntKind} {x:b_} (h:ue V g x fun x=>lD nt V d g (NT c x) k):gw cf nt A V st d (.conv c x) k:=by
 obtain⟨u,h1,h⟩:=gm hR ha h;obtain⟨r,h3,h4⟩:=dr hR ha h;unfold NT at h3;split at h3
 ·cases h3;generalize he:ev st.env x=p at h1;cases h1;exact cz rfl (by simp only [Er,he]) (h4 _ (.i _ _))
 ·cases h3
theorem Tj {t:Lz} {neg:Bool} {x y r:TV} {a b:AV} (h:Tk t neg x y=some r) (ha:Can x a) (hb:Can y b):∃c,Sg t a b=some c/\r=.b (bif neg then !c else c):=by
 cases t with
 |one l=>
  simp only [Tk] at h;cases hx:Dc x with
  |none=>rw [hx] at h;cases h
  |some x'=>
   rw [hx] at h;cases hy:Dc y with
   |none=>rw [hy] at h;cases h
   |some y'=>
    rw [hy] at h;simp only at h;cases hc:Rp l x' y' with
    |none=>rw [hc] at h;cases h
    |some c=>rw [hc] at h;cases h;exact⟨c,by rw [uj hx ha,uj hy hb];exact hc,by cases neg<;>rfl⟩
 |agg ls=>
  cases ha<;>first|(cases h;done)|skip
  rename_i xs as hl hf hh;cases hb<;>first|(cases h;done)|skip
  rename_i ys bs hl' hf' hh';simp only [Tk] at h;cases hx:A7 xs with
  |none=>rw [hx] at h;cases h
  |some x'=>
   rw [hx] at h;cases hy:A7 ys with
   |none=>rw [hy] at h;cases h
   |some y'=>
    rw [hy] at h;simp only at h;cases hc:Lv ls x' y' with
    |none=>rw [hc] at h;cases h
    |some c=>rw [hc] at h;cases h;refine⟨c,?_,by cases neg<;>rfl⟩;rw [zy hx ⟨hl,hh⟩,zy hy ⟨hl',hh'⟩];exact hc
 |slice=>cases h
theorem Zy (hR:R A V st) (ha:act g) {t:Lz} {neg:Bool} {x y:b_} (h:ue V g x fun x=>ue V g y fun y=>lD nt V d g (Tk t neg x y) k):gw cf nt A V st d (.eq t neg x y) k:=by
 obtain⟨u,h1,h⟩:=gm hR ha h;obtain⟨w,h2,h⟩:=gm hR ha h;obtain⟨r,h3,h4⟩:=dr hR ha h;have hk:kind (.eq t neg x y)=.plan fun ρ=>Qr ρ t neg x y:=rfl
 obtain⟨c,h5,rfl⟩:=Tj h3 h1 h2;exact cz hk (by simp only [Qr,h5];cases neg<;>rfl) (h4 _ (.b _))
theorem Zx (hR:R A V st) {neg:Bool} {x y:b_} (hy:QZ y=true) (h:ue V none x fun x=>∃es:List TV,ef x=some es/\∀b:Bool,(es≠[]->b=neg)->jb nt V d none (.tr (.b b)) k):gw cf nt A V st d (.eq .slice neg x y) k:=by
 obtain⟨u,h1,es,h2,h3⟩:=gm (g:=none) hR trivial h;have hk:kind (.eq .slice neg x y)=.plan fun ρ=>Qr ρ .slice neg x y:=rfl
 have hyv:ev st.env y=.av:=by
  cases y with
  |c v=>cases v<;>first|rfl|cases hy
  |t n=>cases hy
 have hc:∃c,Sg .slice (ev st.env x) .av=some c/\(es≠[]->c=false):=by
  generalize ev st.env x=a at h1;cases h1<;>first|(cases h2;done)|skip
  ·cases h2;exact⟨true,rfl,fun h=>absurd rfl h⟩
  ·exact⟨false,rfl,fun _=>rfl⟩
 obtain⟨c,h4,h5⟩:=hc;refine cz hk (v:=.bool (bif neg then !c else c)) (by simp only [Qr,hyv,h4];cases neg<;>rfl) (bw hR (fun _=>.tr (.b _)) (h3 _ (fun hne=>?_)));rw [h5 hne];cases neg<;>rfl
theorem Zs (hR:R A V st) (ha:act g) {mx:Bool} {xs:List b_} (h:Qh V g xs fun xs=>lD nt V d g (zw mx xs) k):gw cf nt A V st d (.GL mx xs) k:=by
 obtain⟨vs,h1,h⟩:=JZ hR ha h;obtain⟨r,h3,h4⟩:=dr hR ha h;unfold zw at h3;split at h3
 ·rename_i v l hl;split at h3
  ·rename_i r' hr;have e:=zy hl h1;have hk:kind (.GL mx xs)=.plan fun ρ=>IK ρ mx xs:=rfl
   exact cz hk (by simp only [IK,e,hr,lR]) (h4 _ (D1 h3))
  ·cases h3
 ·cases h3
theorem Zu (hR:R A V st) (ha:act g) {x i:b_} (h:ue V g x fun x=>ue V g i fun i=>lD nt V d g (vj x i) k):gw cf nt A V st d (.idx x i) k:=by
 obtain⟨u,h1,h⟩:=gm hR ha h;obtain⟨w,h2,h⟩:=gm hR ha h;obtain⟨r,h3,h4⟩:=dr hR ha h;unfold vj at h3;split at h3
 ·split at h3
  ·split at h3
   ·rename_i b hb;cases h3;generalize e1:ev st.env x=p at h1;generalize e2:ev st.env i=q at h2;cases h1;cases h2;exact cz rfl (by simp only [J6,e1,e2,hb]) (h4 _ (.i _ _))
   ·cases h3
  ·cases h3
 ·cases h3
theorem SV (hR:R A V st) (ha:act g) {x:b_} {lo hi:Option b_} (h:ue V g x fun x=>DO V g lo fun lo=>DO V g hi fun hi=>lD nt V d g (AD x lo hi) k):gw cf nt A V st d (.tn x lo hi) k:=by
 obtain⟨u,h1,h⟩:=gm hR ha h;obtain⟨l,h,hl⟩:=BA hR ha h;obtain⟨hv,h,hh⟩:=BA hR ha h;obtain⟨r,h3,h4⟩:=dr hR ha h;unfold AD at h3;split at h3
 ·split at h3
  ·rename_i a b hab;cases h3;obtain⟨hb,_,_⟩:=NY hl hh hab;generalize e1:ev st.env x=p at h1;cases h1;exact cz rfl (by simp only [AM,e1,hb]) (h4 _ (.s _))
  ·cases h3
 ·cases h3
theorem Zw (hR:R A V st) (ha:act g) {i:Nat} {x:b_} (h:ue V g x fun x=>lD nt V d g (t_ i x) k):gw cf nt A V st d (.ext i x) k:=by
 obtain⟨u,h1,h⟩:=gm hR ha h;obtain⟨r,h3,h4⟩:=dr hR ha h;unfold t_ at h3;split at h3
 ·rename_i vs;generalize e1:ev st.env x=p at h1;cases h1 with
  |tp _ as hl hf hh=>
   have hlt:i < as.length:=by rw [←hl];exact(qqb.1 h3).1
   have hx:as[i]?=some as[i]:=qqa hlt;exact cz rfl (by simp only [J8,e1,hx,lR]) (h4 _ (hh i r _ h3 hx))
 ·cases h3
def sc (t:TV):Bool:=match t with|.l _=>false|.a _=>false|.tp _=>false|.B7 _ _=>false|_=>true
theorem Ky {d:Nat} {H:ck} {v a:AV} (h:dh (d+1) H v=some a) (hi:∀cs n c,a≠.ju cs n c) (ha:∀cs,a≠.agg cs) (ht:∀cs,a≠.qo cs):v=a:=by
 cases v with
 |ref id g off es len cap ex=>
  rw [oI] at h;split at h
  ·rw [cond_eq_ite] at h;split at h
   ·split at h
    ·split at h
     ·cases h;exact absurd rfl (hi _ _ _)
     ·cases h
    ·cases h
   ·cases h
  ·cases h
 |agg cs=>
  rw [oJ] at h;split at h
  ·cases h;exact absurd rfl (ha _)
  ·cases h
 |qo cs=>
  rw [uc] at h;split at h
  ·cases h;exact absurd rfl (ht _)
  ·cases h
 |ptr=>cases h
 |Am=>cases h
 |_=>exact qqO h
theorem s0 {t:TV} {a v:AV} (h:Can t a) (hs:sc t=true) {d:Nat} {H:ck} (him:dh (d+1) H v=some a):own (d+1) H v=true:=by
 cases h<;>first|(cases hs;done)|skip
 all_goals
  have:=Ky him (fun _ _ _ h=>by cases h) (fun _ h=>by cases h) (fun _ h=>by cases h);subst this;rfl
theorem Lj {ts:List TV} {as vs:List AV} {d:Nat} {H:ck} (f:TV->Bool) (ho:∀t a v,Can t a->f t=true->dh d H v=some a->own d H v=true) (hc:oY ts as) (hs:∀t∈ts,f t=true) (hm:lX (dh d H) vs=some as):gE (own d H) vs=true:=by
 rw [cj];intro v hv;obtain⟨j,hj⟩:=List.getElem?_of_mem hv;obtain⟨hl,hat⟩:=qu hm;obtain⟨a,ha,him⟩:=hat j v hj;have hlt:j < ts.length:=by rw [hc.1];exact(qqb.1 ha).1
 exact ho _ a v (hc.2 j _ a (qqa hlt) ha) (hs _ (qqj hlt)) him
theorem He {t:TV} {a v:AV} (h:Can t a) (hs:t.El=true) {d:Nat} {H:ck} (him:dh (d+2) H v=some a):own (d+2) H v=true:=by
 cases h with
 |a ts as hl hf hh=>
  have hs':=cj.1 hs;cases v with
  |agg cs=>
   rw [oJ] at him;split at him
   ·rename_i cs' hm;cases him;rw [Ng];exact Lj sc (fun t a v h1 h2 h3=>s0 h1 h2 h3) ⟨hl,hh⟩ (fun t ht=>hs' t ht) hm
   ·cases him
  |ref id g off es len cap ex=>
   rw [oI] at him;split at him
   ·rw [cond_eq_ite] at him;split at him
    ·split at him
     ·split at him<;>cases him
     ·cases him
    ·cases him
   ·cases him
  |qo cs=>rw [uc] at him;split at him<;>cases him
  |_=>cases him
 |tp ts as hl hf hh=>cases hs
 |B7 x u hf h=>cases hs
 |nil=>cases hs
 |ju=>cases hs
 |i k n=>exact s0 (.i k n) rfl him
 |b x=>exact s0 (.b x) rfl him
 |s x=>exact s0 (.s x) rfl him
 |f n=>exact s0 (.f n) rfl him
 |np=>exact s0 .np rfl him
theorem PM {t:TV} {a v:AV} (h:Can t a) (hs:t.LP=true) {d:Nat} {H:ck} (him:dh (d+3) H v=some a):own (d+3) H v=true:=by
 cases h with
 |tp ts as hl hf hh=>
  have hs':=cj.1 hs;cases v with
  |qo cs=>
   rw [uc] at him;split at him
   ·rename_i cs' hm;cases him;rw [Nd];exact Lj TV.El (fun t a v h1 h2 h3=>He h1 h2 h3) ⟨hl,hh⟩ (fun t ht=>hs' t ht) hm
   ·cases him
  |ref id g off es len cap ex=>
   rw [oI] at him;split at him
   ·rw [cond_eq_ite] at him;split at him
    ·split at him
     ·split at him<;>cases him
     ·cases him
    ·cases him
   ·cases him
  |agg cs=>rw [oJ] at him;split at him<;>cases him
  |_=>cases him
 |a ts as hl hf hh=>exact He (.a ts as hl hf hh) hs him
 |nil=>cases hs
 |ju=>cases hs
 |i k n=>exact s0 (.i k n) rfl him
 |b x=>exact s0 (.b x) rfl him
 |s x=>exact s0 (.s x) rfl him
 |f n=>exact s0 (.f n) rfl him
 |B7 x u hf h=>cases hs
 |np=>exact s0 .np rfl him
theorem H8 {ts:List TV} {Q:TV->Prop} {f:Nat} {vs as':List AV} {H:ck} {nx:Nat} {p:Bool} (h:VS prog f ts fun r=>lB p r/\Q r) (h1:lX (dh deep H) vs=some as') (h2:oY ts as')
  (h3:gE AV.plain vs=true->as'=vs) (h4:p=true->gE AV.plain vs=true):∃v r,gL (ey prog) f vs .borrow H nx=some (v,H,nx)/\Can r v/\Q r:=by
 obtain⟨v,H',nx',g1,a,g2,r,g3,g4,g5⟩:=h as' h2;by_cases hp:gE AV.plain vs=true
 ·have e:=h3 hp;subst e;refine⟨a,r,?_,g3,g5⟩;have hend:m9 (some (v,H',nx')) false=some a:=by
   simp only [m9,cond_eq_ite];rw [if_neg (by decide)];by_cases hv:v.plain=true
   ·rw [if_pos hv];have:dh deep H' v=some v:=uh hv 27 _;rw [this] at g2;exact g2
   ·rw [if_neg hv];exact g2
  simp only [gL,hp,cond_true,g1,hend]
 ·have hpf:p=false:=by cases p with|true=>exact absurd (h4 rfl) hp|false=>rfl
  subst hpf;refine⟨a,r,?_,g3,g5⟩;have ho:own deep H' v=true:=PM (d:=27) g3 g4 g2;have hpb:gE AV.plain vs=false:=by simpa using hp
  simp only [gL,hpb,cond_false,h1,g1,m9,cond_true,ho,g2]
theorem MK {ts:List TV} {Q:TV->Prop} {f:Nat} {vs as':List AV} {H:ck} {nx:Nat} (h:Ly prog f ts Q) (h1:lX (dh deep H) vs=some as') (h2:oY ts as')
  (h3:gE AV.plain vs=true->as'=vs):∃v r,gL (ey prog) f vs .borrow H nx=some (v,H,nx)/\Can r v/\Q r:=by
 obtain⟨v,H',nx',g1,ho,a,g2,r,g3,g5⟩:=h as' h2;by_cases hp:gE AV.plain vs=true
 ·have e:=h3 hp;subst e;refine⟨a,r,?_,g3,g5⟩;have hend:m9 (some (v,H',nx')) false=some a:=by
   simp only [m9,cond_eq_ite];rw [if_neg (by decide)];by_cases hv:v.plain=true
   ·rw [if_pos hv];have:dh deep H' v=some v:=uh hv 27 _;rw [this] at g2;exact g2
   ·rw [if_neg hv];exact g2
  simp only [gL,hp,cond_true,g1,hend]
 ·refine⟨a,r,?_,g3,g5⟩;have hpb:gE AV.plain vs=false:=by simpa using hp
  simp only [gL,hpb,cond_false,h1,g1,m9,cond_true,ho,g2]
theorem IM {sh:Sh} (hR:R A V st) (ha:act g) {f:Nat} {args:List b_} (h:Gf sh prog nt V d g f args k):∃v,gL (ey prog) f (args.map (ev st.env)) .borrow st.H st.nx=some (v,st.H,st.nx)/\Next nt A V st d v st.H st.nx k:=by
 obtain⟨p,ts,as',hk,h1,h2,h3,h4⟩:=Ig hR ha args _ h;cases g with
 |none=>
  dsimp only at hk;split at hk
  ·obtain⟨v,r,g1,g2,g3⟩:=H8 (nx:=st.nx) hk h1 h2 h3 h4;exact⟨v,g1,bw hR (fun _=>.tr g2) g3⟩
  ·obtain⟨v,r,g1,g2,g3⟩:=MK (nx:=st.nx) hk h1 h2 h3;exact⟨v,g1,bw hR (fun _=>.tr g2) g3⟩
 |some q=>
  obtain⟨c,bb⟩:=q;obtain⟨r,hg,hput⟩:=hk;have hc:c=.b bb:=ha;subst hc;have hg':VS prog f ts fun r'=>r'=r/\lB p r:=by unfold gV at hg;cases bb<;>exact hg
  have hg'':VS prog f ts fun r'=>lB p r'/\r'=r:=hg'.mono (fun r' ⟨e,hs⟩=>by subst e;exact⟨hs,rfl⟩)
  obtain⟨v,r',g1,g2,g3⟩:=H8 (nx:=st.nx) hg'' h1 h2 h3 h4;subst g3;exact⟨v,g1,bw hR (fun _=>.tr g2) hput⟩
end
end Go.Ax.V
namespace Go.Ax.V
section
variable {prog:Map ay} {nt:Nat}
section
variable {A:ei} {V:bt} {st:St}
theorem M_ (hR:R A V st) {n:Nat} {k:TV->Prop} (h:ue V none (.t n) k):∃c a,st.env.get n=some a/\Can c a/\k c:=by
 obtain⟨c,h1,h2⟩:=gm (g:=none) hR trivial h;simp only [ue,jx] at h;split at h
 ·cases h
 ·rename_i e he;obtain⟨a,ha,_⟩:=hR.env n e he;rw [IY ha] at h1;exact⟨c,a,ha,h1,h2⟩
end
theorem uu {A:ei} {V:bt} {st:St} (h:R A V st) {t:Nat} {w:VV} {a:AV} (ha:st.env.get t=some a) (hw:VR A w a):R A (sq V t w) st where
 env t' e he:=by
  simp only [sq,Map.bk] at he;split at he
  ·rename_i ht;subst ht;cases he;exact⟨a,ha,fun _=>hw⟩
  ·exact h.env t' e he
 heap:=h.heap
 inj:=h.inj
 used:=h.used
 one:=h.one
 fresh:=h.fresh
 nh:=h.nh
theorem HD {A0:ei} {Vc:bt} {st:St} (hR:R A0 Vc st) {O:Nat} {o:VO} {k:bt->Prop} {a:AV} {inn:Nat->Option AV} {I:Nat->Prop} (h:C2 Vc O o k) (hi1:∀j x,inn j=some x->x.one=true)
  (hO:∀A':ei,(∀O x,A0 O=some x->A' O=some x)->(∀j,A' (.i O 0 j)=inn j)->(∀v j,0 < v->A' (.i O v j)=none)->OR A' st.H o a/\su A' O a o/\∀id,j_ A' o a id->I id) (h1:a.one=true)
  (hI:∀id,I id->¬gW Vc A0 id):∃Vc' A',k Vc'/\R A' Vc' st/\(∀O' x,A0 O'=some x->A' O'=some x)/\A' O=some a/\Vc'.env=Vc.env/\(∀id,gW Vc' A' id->gW Vc A0 id\/I id)/\Vc'.H.get O=some o/\
   (∀(O':Nat) x,A' O'=some x->A0 O'=some x\/O'=O)/\(∀n x,A' n=some x->A0 n=some x\/Vc.us.get n.base=none):=by
 unfold C2 at h;split at h
 ·cases h
 rename_i hus;have hnone:∀n:TN,n.base=O->A0 n=none:=fun n hn=>hR.used n (by rw [hn];exact hus)
 have hA':=D4 (a:=a) (inn:=inn) hnone;obtain⟨g1,g2,g3⟩:=hO (yq A0 O a inn) hA' (fun j=>Rj) (fun v j hv=>NG hv);refine⟨_,yq A0 O a inn,h,T9 hR.env hR.heap hR.inj hR.used hR.one hR.fresh hR.nh hus h1 hi1 g1 g2 (fun id hi=>hI id (g3 id hi)),hA',z9,rfl,fun id ⟨O',o',x,ho,hx,hi⟩=>?_,by simp only [Map.bk,if_pos],fun O' x hx=>?_,fun n x hx=>?_⟩
 ·simp only [Map.bk] at ho;by_cases e:O'=O
  ·subst e;rw [if_pos rfl] at ho;cases ho;rw [z9] at hx;cases hx;exact .inr (g3 id hi)
  ·rw [if_neg e] at ho;have hx':A0 O'=some x:=by rwa [mb (n:=.s O') e] at hx
   rw [A8 e (hR.nh O' _ _ ho hx')] at hi;exact .inl ⟨O',o',x,ho,hx',hi⟩
 ·by_cases e:O'=O
  ·exact .inr e
  ·exact .inl (by rwa [mb (n:=.s O') e] at hx)
 ·by_cases e:n.base=O
  ·exact .inr (by rw [e];exact hus)
  ·exact .inl (by rwa [mb e] at hx)
theorem Kp {A0:ei} {Vc:bt} {st:St} (hR:R A0 Vc st) {O:Nat} {o:VO} {k:bt->Prop} {a:AV} (h:C2 Vc O o k) (hO:∀A':ei,(∀O x,A0 O=some x->A' O=some x)->OR A' st.H o a) (h1:a.one=true)
  (hid:∀id,gR a=some id->¬gW Vc A0 id) (hpl:o.pl=true:=by rfl):∃Vc' A',k Vc'/\R A' Vc' st/\(∀O' x,A0 O'=some x->A' O'=some x)/\A' O=some a/\Vc'.env=Vc.env/\(∀id,gW Vc' A' id->gW Vc A0 id\/gR a=some id)/\Vc'.H.get O=some o/\
   (∀(O':Nat) x,A' O'=some x->A0 O'=some x\/O'=O):=
 let ⟨Vc',A',g1,g2,g3,g4,g5,g6,g7,g8,_⟩:=HD (inn:=fun _=>none) hR h (fun j x h=>by cases h) (fun A' h2 _ _=>⟨hO A' h2,Dz hpl,fun id hi=>(jd hpl).1 hi⟩) h1 hid
 ⟨Vc',A',g1,g2,g3,g4,g5,g6,g7,g8⟩
def Told (H:ck) (sz:Nat) (es:List TV) (x:AV) (inn:Nat->Option AV) (I:Nat->Prop):Prop:=
 (∀j y,inn j=some y->y.one=true)/\∀(A':ei) (t:Nat),(∀j,A' (.i t 0 j)=inn j)->(∀v j,0 < v->A' (.i t v j)=none)->OR A' H (xu t sz es) x/\su A' t x (xu t sz es)/\∀id,j_ A' (xu t sz es) x id->I id
theorem yh {A0:ei} {Vc:bt} {st:St} (hR:R A0 Vc st) {O sz:Nat} {es:List TV} {k:bt->Prop} {a:AV} {inn:Nat->Option AV} {I:Nat->Prop} (h:C2 Vc O (xu O sz es) k) (hT:Told st.H sz es a inn I) (h1:a.one=true) (hI:∀id,I id->¬gW Vc A0 id) :
  ∃Vc' A',k Vc'/\R A' Vc' st/\(∀O' x,A0 O'=some x->A' O'=some x)/\A' O=some a/\Vc'.env=Vc.env/\(∀id,gW Vc' A' id->gW Vc A0 id\/I id)/\Vc'.H.get O=some (xu O sz es)/\
   (∀(O':Nat) x,A' O'=some x->A0 O'=some x\/O'=O)/\(∀n x,A' n=some x->A0 n=some x\/Vc.us.get n.base=none):=
 HD hR h hT.1 (fun A' _ h2 h3=>hT.2 A' O h2 h3) h1 hI
structure N4 (V:bt) (A:ei) (Vc:bt) (A0:ei) (st:St):Prop where
 old:R A V st
 new:R A0 Vc st
 apart:∀id,gW V A id->¬gW Vc A0 id
def Lq (A0 A:ei):Prop:=∀(O:Nat) id,A0 O=some (.ptr id 0 0)->A O=some (.ptr id 0 0)
theorem Qn {sz:Nat} (h:Nat.blt sz Q8=true) (hp:oh sz=true):0 < sz:=by unfold oh at hp;rw [h] at hp;simpa using hp
theorem Qo {sz:Nat} (h:Nat.blt sz Q8=false) (hp:oh sz=true):0 < OG sz/\Tb sz < OG sz/\0 < Sf sz:=by unfold oh at hp;rw [h] at hp;simpa using hp
theorem Pn {H:ck} {sz:Nat} {x:AV} {I:Nat->Prop} (hp:oh sz=true) (hx:x=.av\/x=.ju [] 0 (some 0)):Told H sz [] x (fun _=>none) I:=by
 have hi:∀id,gR x=some id->False:=fun id h=>by rcases hx with rfl|rfl<;>cases h
 refine⟨fun j y h=>(by cases h),fun A' t h1 h2=>?_⟩;unfold xu;cases hb:Nat.blt sz Q8 with
 |true=>exact⟨⟨Qn hb hp,.inl ⟨rfl,hx⟩⟩,trivial,fun id h=>(hi id ((jd rfl).1 h)).elim⟩
 |false=>
  obtain⟨p1,p2,p3⟩:=Qo hb hp;refine⟨⟨p1,p2,p3,.inl ⟨rfl,hx⟩⟩,⟨rfl,h2,fun j x hj=>(by rw [h1] at hj;cases hj),fun j j' x x' id _ _ hj=>(by rw [h1] at hj;cases hj),fun j x id _ hj=>(by rw [h1] at hj;cases hj)⟩,fun id h=>?_⟩;rcases h with h|⟨j,y,_,hj,_⟩
  ·exact(hi id h).elim
  ·rw [h1] at hj;cases hj
theorem Bq {V:bt} {A:ei} {Vc:bt} {A0:ei} {st:St} (h:N4 V A Vc A0 st) {sz:Nat} {w:VV} {x:AV} (hw:Ik A w x) {k:List TV->bt->Prop} (hk:uo V sz w k) :
  ∃es V',k es V'/\V'=Ae V w/\Sub V V'/\(oh sz=true->∃inn,Told st.H sz es x inn fun id=>gW V A id/\¬gW V' A id)/\x.one=true/\(∀id,x≠.ptr id 0 0):=by
 cases w<;>first|(cases hk;done)|skip
 ·refine⟨[],V,hk,rfl,Sub.refl V,fun hz=>⟨_,Pn hz hw⟩,?_,?_⟩<;>rcases hw with rfl|rfl<;>first|rfl|(intro id hi;cases hi)
 ·rename_i O;have hA:A O=some x:=hw;simp only [uo] at hk;split at hk
  ·rename_i z es ho;split at hk;rotate_left
   ·cases hk
   rename_i hb;obtain⟨rfl,hk2⟩:=eg hk;obtain⟨y,hy,hs⟩:=h.old.heap O _ ho;rw [hA] at hy;cases hy;refine⟨es,_,hk2,rfl,fk V O,fun _=>⟨fun _=>none,fun j y h=>(by cases h),fun A' t _ _=>?_⟩,h.old.one O x hA,fun id e=>?_⟩
   ·unfold xu;rw [hb];refine⟨hs,trivial,fun id hi=>?_⟩;have hi':j_ A (.gr z es) x id:=.inl ((jd rfl).1 hi);exact⟨⟨O,_,x,ho,hA,hi'⟩,j8 h.old ho hA hi'⟩
   ·rcases hs.2 with ⟨_,e'|e'⟩|⟨_,_,_,_,e',_⟩<;>(rw [e] at e';cases e')
  ·rename_i K s io iz ver es ho;split at hk;rotate_left
   ·cases hk
   rename_i hsz;simp only [OD,qqB,qqD,qqE] at hsz;obtain⟨hb,rfl,rfl,rfl⟩:=hsz;obtain⟨y,hy,hs⟩:=h.old.heap O _ ho;rw [hA] at hy;cases hy;obtain⟨rfl,hv1,hv0,hv2,hv3⟩:=h.old.nh O _ _ ho hA;refine⟨es,_,hk,rfl,fk V K,fun _=>⟨fun j=>if j < es.length then A (.i K ver j) else none,fun j y hj=>?_,fun A' t h1 h2=>?_⟩,h.old.one K x hA,fun id e=>?_⟩
   ·simp only at hj;split at hj
    ·exact h.old.one _ _ hj
    ·cases hj
   ·unfold xu;rw [hb];have e1:∀j,j < es.length->A' (.i t 0 j)=A (.i K ver j):=fun j hj=>(h1 j).trans (if_pos hj)
    have e2:∀j y,A' (.i t 0 j)=some y->j < es.length/\A (.i K ver j)=some y:=fun j y hy=>by
     rw [h1] at hy;simp only at hy;split at hy
     ·rename_i hj;exact⟨hj,hy⟩
     ·cases hy
    obtain⟨q1,q2,q3,q4⟩:=hs;refine⟨⟨q1,q2,q3,q4.imp (fun h=>h) ?_⟩,⟨rfl,h2,fun j x hx=>?_,fun j j' x x' id _ _ hx hx'=>?_,fun j x id _ hx=>?_⟩,fun id hi=>?_⟩
    ·rintro⟨id,g,b,cells,rfl,p1,p2,p3⟩;refine⟨id,g,b,cells,rfl,p1,p2,p3.len,fun j e he=>?_⟩;obtain⟨ts,g1,g2,g3,y,g4,g5,g6⟩:=p3.el j e he;exact⟨ts,g1,g2,g3,y,g4,by rw [e1 j (qqb.1 he).1];exact g5,g6⟩
    ·exact(e2 j x hx).1
    ·exact hv2 j j' x x' id (by simp) (by simp) (e2 j x hx).2 (e2 j' x' hx').2
    ·exact hv3 j x id (by simp) (e2 j x hx).2
    ·have hi':j_ A (.gn K (OG sz) (Tb sz) (Sf sz) ver none es) x id:=by
      rcases hi with hi|⟨j,y,p1,p2,p3⟩
      ·exact .inl hi
      ·exact .inr ⟨j,y,by simp,(e2 j y p2).2,p3⟩
     exact⟨⟨K,_,x,ho,hA,hi'⟩,j8 h.old ho hA hi'⟩
   ·rcases hs.2.2.2 with ⟨_,e'|e'⟩|⟨_,_,_,_,e',_⟩<;>(rw [e] at e';cases e')
  ·cases hk
theorem N4.sub {V V':bt} {A:ei} {Vc:bt} {A0:ei} {st:St} (h:N4 V A Vc A0 st) (hs:Sub V V'):N4 V' A Vc A0 st:=
 ⟨hs.r h.old,h.new,fun id ho=>h.apart id (hs.own ho)⟩
theorem ug {l:List (Nat×Nat)}:∀{ovs:List (Nat×VV)},AU ovs l=true->∀j w,eC j ovs=some w->k9 j l=true
 |[],h,j,w,ho=>by simp [eC] at ho
 |(i,w')::r,h,j,w,ho=>by
  simp only [AU,qqB] at h;rw [eo] at ho;split at ho
  ·rename_i e;subst e;exact h.1
  ·exact ug h.2 j w ho
theorem uy {O j:Nat}:∀{l:List (Nat×Nat)},eC j (xe O l)=if k9 j l=true then some (.sl (Ir O j)) else none
 |[]=>by simp [xe,eC,k9]
 |(i,z)::l=>by
  simp only [xe,eo,uy (l:=l),k9,qqC,qqE];by_cases e:i=j
  ·subst e;simp
  ·rw [if_neg e];by_cases hk:k9 j l=true
   ·rw [if_pos hk,if_pos (.inr hk)]
   ·rw [if_neg hk,if_neg];rintro(h|h)
    ·exact e h.symm
    ·exact hk h
theorem Br {Rt:Type} {O:Nat} {st:St} {ovs:List (Nat×VV)} {cs:List AV} {A:ei} (hsl:∀j w,eC j ovs=some w->∃x,cs[j]?=some x/\Ik A w x):∀(offs:List (Nat×Nat)) (V Vc:bt) (A0:ei) (I:JL offs Rt) (k kc:Rt->bt->Prop),
  (∀p∈offs,oh p.2=true)->N4 V A Vc A0 st->wo V ovs offs I k->R3 O offs Vc I kc->∃i V' Vc' A',k i V'/\kc i Vc'/\V'=AH V ovs offs/\N4 V' A Vc' A' st/\Lq A' A0/\Sub V V'/\(∀O' x,A0 O'=some x->A' O'=some x)/\Vc'.env=Vc.env/\
   (∀id,gW Vc' A' id->gW Vc A0 id\/gW V A id)/\(∀j,k9 j offs=true->∃x,cs[j]?=some x/\A' (Ir O j)=some x)
 |[],V,Vc,A0,I,k,kc,hz,h,hk,hkc=>⟨I,V,Vc,A0,hk,hkc,rfl,h,fun _ _ h=>h,Sub.refl V,fun _ _ h=>h,rfl,fun id h=>.inl h,fun j hj=>by cases hj⟩
 |(off,sz)::offs,V,Vc,A0,I,k,kc,hz,h,hk,hkc=>by
  simp only [wo] at hk;split at hk
  ·rename_i w hw;obtain⟨x,hx,hs⟩:=hsl off w hw;obtain⟨es,V1,hk1,hV1,hs1,qx0,hone,hnp⟩:=Bq h hs hk;have qk8:=hkc es;obtain⟨inn,hT⟩:=qx0 (hz (off,sz) qqu);obtain⟨Vc1,A1,qk7,hR1,hA1,hAo,qxB,hown,_,qxS,_⟩:=yh h.new qk8 hT hone (fun id hi=>h.apart id hi.1);have h1:N4 V1 A Vc1 A1 st:=⟨hs1.r h.old,hR1,fun id ho hc=>(hown id hc).elim (fun hc=>h.apart id (hs1.own ho) hc) (fun hi=>hi.2 ho)⟩;have hag:Lq A1 A0:=fun O' id hO'=>by
    rcases qxS O' _ hO' with hh|rfl
    ·exact hh
    ·rw [hAo] at hO';cases hO';exact absurd rfl (hnp id)
   obtain⟨i,V',Vc',A',g1,g2,g0,g3,g3a,g4,g5,g6,g7,g8⟩:=Br hsl offs V1 Vc1 A1 (I es) k kc (fun p hp=>hz p (qqv _ hp)) h1 hk1 qk7;refine⟨i,V',Vc',A',g1,g2,by rw [g0,hV1];simp only [AH,hw],g3,fun O' id hO'=>hag O' id (g3a O' id hO'),hs1.trans g4,fun O' y hy=>g5 _ _ (hA1 _ _ hy),g6.trans qxB,fun id ho=>?_,fun j hj=>?_⟩
   ·rcases g7 id ho with ho|ho
    ·rcases hown id ho with ho|hi
     ·exact .inl ho
     ·exact .inr hi.1
    ·exact .inr (hs1.own ho)
   ·simp only [k9,qqC,qqE] at hj;rcases hj with rfl|hj
    ·exact⟨x,hx,g5 _ _ hAo⟩
    ·exact g8 j hj
  ·cases hk
theorem zq {st:St} {A:ei}:∀(J:List BP) (V Vc:bt) (A0:ei) (I:JT J Prop) (k:bt->Prop),J.all A_=true->N4 V A Vc A0 st->Lq A0 A->Eo J V I->Bm J Vc I k->
  ∃Vc' A',k Vc'/\R A' Vc' st/\(∀id,gW Vc' A' id->gW Vc A0 id\/gW V A id)/\N4 (si J V) A Vc' A' st/\Sub V (si J V)
 |[],V,Vc,A0,I,k,hp,h,hag,hk,hkc=>⟨Vc,A0,hkc hk,h.new,fun id h=>.inl h,h,Sub.refl V⟩
 |.tr t::J,V,Vc,A0,I,k,hp,h,hag,hk,hkc=>by rw [List.all_cons,qqB] at hp;obtain⟨v,a,ha,hc,hk⟩:=M_ h.old hk;obtain⟨Vc',A',g1,g2,g3,g4⟩:=zq J V _ A0 (I v) k hp.2 ⟨h.old,uu h.new ha (.tr hc),h.apart⟩ hag hk (hkc v);exact⟨Vc',A',g1,g2,g3,g4⟩
 |.sl t sz::J,V,Vc,A0,I,k,hp,h,hag,hk,hkc=>by
  rw [List.all_cons,qqB] at hp;have hz:oh sz=true:=hp.1;have hk':jx V none (.t t) fun w=>uo V sz w fun es V'=>Eo J V' (I es):=hk
  simp only [jx] at hk';split at hk'
  ·cases hk'
  rename_i e he;obtain⟨a,ha,hv⟩:=h.old.env t e he;split at hk';rotate_left
  ·cases hk'
  rename_i hg;have hv':=hv (fun c bb hh=>by rw [hg] at hh;cases hh);have hsl:Ik A e.v a:=by
   have hne:=hk';unfold uo at hne;generalize e.v=w at hv' hne;cases hv'<;>first|(cases hne;done)|skip
   ·exact .inl rfl
   ·exact .inr rfl
   ·assumption
  obtain⟨es,V1,hk1,hV1,hs1,qx0,hone,hnp⟩:=Bq h hsl hk';have qk8:=hkc es;obtain⟨inn,hT⟩:=qx0 hz;obtain⟨Vc1,A1,qk7,hR1,hA1,hAo,qxB,hown,_,qxS,_⟩:=yh h.new qk8 hT hone (fun id hi=>h.apart id hi.1);have h1:N4 V1 A (sq Vc1 t (.sl t)) A1 st:=⟨hs1.r h.old,uu hR1 ha (.sl hAo),fun id ho hc=>(hown id hc).elim (fun hc=>h.apart id (hs1.own ho) hc) (fun hi=>hi.2 ho)⟩;have qX5:Lq A1 A:=fun O' id hO'=>by
   rcases qxS O' _ hO' with hh|rfl
   ·exact hag O' id hh
   ·rw [hAo] at hO';cases hO';exact absurd rfl (hnp id)
  obtain⟨Vc',A',g1,g2,g3,g4,g5⟩:=zq J V1 _ A1 (I es) k hp.2 h1 qX5 hk1 qk7;have hvv:gZ V (.t t)=e.v:=by simp only [gZ,he]
  have qxf:si (.sl t sz::J) V=si J V1:=by simp only [si];rw [hvv,hV1]
  refine⟨Vc',A',g1,g2,fun id ho=>?_,by rw [qxf];exact g4,by rw [qxf];exact hs1.trans g5⟩;rcases g3 id ho with ho|ho
  ·rcases hown id ho with ho|hi
   ·exact .inl ho
   ·exact .inr hi.1
  ·exact .inr (hs1.own ho)
 |.pt t O off::J,V,Vc,A0,I,k,hp,h,hag,hk,hkc=>by
  rw [List.all_cons,qqB] at hp;simp only [Bm] at hkc;split at hkc;rotate_left
  ·cases hkc
  rename_i v ovs hO;obtain⟨y,hy,id,cs,ts,rfl,hH,hc⟩:=h.new.heap O _ hO;have qX3:=hag O id hy;have hk':jx V none (.t t) fun w=>match w with
   |.ptr O' off'=>same O' O (same off' off (Eo J V I))
   |_=>False:=hk
  simp only [jx] at hk';split at hk'
  ·cases hk'
  rename_i e he;obtain⟨a,ha,hv⟩:=h.old.env t e he;split at hk';rotate_left
  ·cases hk'
  rename_i hg;have hv':=hv (fun c bb hh=>by rw [hg] at hh;cases hh);generalize e.v=w at hv' hk';cases hv'<;>first|(cases hk';done)|skip
  rename_i O' off' id' hO';obtain⟨rfl,hk'⟩:=eg hk';obtain⟨rfl,hk'⟩:=eg hk';rw [qX3] at hO';cases hO';obtain⟨Vc',A',g1,g2,g3,g4⟩:=zq J V _ A0 I k hp.2 ⟨h.old,uu h.new ha (.ptr hy),h.apart⟩ hag hk' hkc;exact⟨Vc',A',g1,g2,g3,g4⟩
 |.ps t t0::J,V,Vc,A0,I,k,hp,h,hag,hk,hkc=>by
  rw [List.all_cons,qqB] at hp;have hk':jx V none (.t t0) fun w0=>jx V none (.t t) fun w=>match w0 with
   |.sl O=>(match w with
    |.sl O'=>same O' O (Eo J V I)
    |_=>False)
   |_=>False:=hk
  simp only [jx] at hk';split at hk'
  ·cases hk'
  rename_i e0 he0;obtain⟨a0,ha0,hv0⟩:=h.old.env t0 e0 he0;split at hk';rotate_left
  ·cases hk'
  rename_i hg0;have qQZ:=hv0 (fun c bb hh=>by rw [hg0] at hh;cases hh);split at hk'
  ·cases hk'
  rename_i e he;obtain⟨a,ha,hv⟩:=h.old.env t e he;split at hk';rotate_left
  ·cases hk'
  rename_i hg;have hv':=hv (fun c bb hh=>by rw [hg] at hh;cases hh);generalize e0.v=w0 at qQZ hk';cases qQZ<;>first|(cases hk';done)|skip
  rename_i O hO0;generalize e.v=w at hv' hk';cases hv'<;>first|(cases hk';done)|skip
  rename_i O' hO;have hk2:same O' O (Eo J V I):=hk';clear hk';obtain⟨rfl,hk'⟩:=eg hk2;rw [hO0] at hO;cases hO;simp only [Bm] at hkc;split at hkc;rotate_left
  ·cases hkc
  rename_i c hc;split at hkc;rotate_left
  ·cases hkc
  rename_i hcg;split at hkc;rotate_left
  ·cases hkc
  rename_i P hcv;obtain⟨a',ha',hw⟩:=h.new.env t0 c hc;have hw':=hw (fun c bb hh=>by rw [hcg] at hh;cases hh);rw [ha0] at ha';cases ha';rw [hcv] at hw';obtain⟨Vc',A',g1,g2,g3,g4⟩:=zq J V _ A0 I k hp.2 ⟨h.old,uu h.new ha hw',h.apart⟩ hag hk' hkc;exact⟨Vc',A',g1,g2,g3,g4⟩
 |.ob O offs::J,V,Vc,A0,I,k,hp,h,hag,hk,hkc=>by
  rw [List.all_cons,qqB] at hp;have hz:∀p∈offs,oh p.2=true:=fun p hm=>qqA.1 hp.1 p hm
  simp only [Eo] at hk;split at hk;rotate_left
  ·cases hk
  rename_i v ovs hO;split at hk;rotate_left
  ·cases hk
  rename_i hkeys;obtain⟨y,hy,id,cs,ts,rfl,hH,hc⟩:=h.old.heap O _ hO;have hsl:∀j w,eC j ovs=some w->∃x,cs[j]?=some x/\Ik A w x:=fun j w hj=>by have hlt:=hc.keys j w hj;have hx:cs[j]?=some (cs[j]'(by rw [←hc.len];exact hlt)):=qqa _;have:=hc.at_ j _ _ (qqa hlt) hx;rw [hj] at this;exact⟨_,hx,this⟩
  have qxq:=j8 h.old hO hy (id:=id) (.inl rfl);have qxH:gW V A id:=⟨O,_,_,hO,hy,.inl rfl⟩;have h1:N4 (f_ V O) A Vc A0 st:=h.sub (fk V O);obtain⟨i,V',Vc',A',g1,g2,g0,g3,g3a,g4,g5,g6,g7,g8⟩:=Br hsl offs (f_ V O) Vc A0 (I v) (fun I V'=>Eo J V' I) _ hz h1 hk (hkc v);have hor:∀A3:ei,(∀O x,A' O=some x->A3 O=some x)->OR A3 st.H (.ob v (xe O offs)) (.ptr id 0 0):=by
   intro A3 hA3;refine⟨id,cs,ts,rfl,hH,⟨hc.cells,hc.len,fun j w hj=>?_,fun j t x ht hx=>?_⟩⟩
   ·rw [uy] at hj;split at hj
    ·rename_i hh;obtain⟨x,hx,_⟩:=g8 j hh;rw [hc.len];exact(qqb.1 hx).1
    ·cases hj
   ·rw [uy];by_cases hh:k9 j offs=true
    ·rw [if_pos hh];obtain⟨x',hx',hA'⟩:=g8 j hh;rw [hx] at hx';cases hx';exact hA3 _ _ hA'
    ·rw [if_neg hh];have:=hc.at_ j t x ht hx;cases ho:eC j ovs with
     |none=>rw [ho] at this;exact this
     |some w=>exact absurd (ug hkeys j w ho) hh
  obtain⟨Vc2,A2,p1,p2,p3,p4,p5,p6,p7,p8⟩:=Kp g3.new (a:=.ptr id 0 0) g2 hor rfl (fun id' hi=>by
   cases hi;intro ho;rcases g7 _ ho with ho|ho
   ·exact h.apart _ qxH ho
   ·exact qxq ho)
  have h2:N4 V' A Vc2 A2 st:=⟨g3.old,p2,fun id' ho hc'=>by
   rcases p6 id' hc' with hc'|hi
   ·exact g3.apart id' ho hc'
   ·cases hi;exact qxq (g4.own ho)⟩
  have qX4:Lq A2 A:=fun O' id' hO'=>by
   rcases p8 O' _ hO' with hh|rfl
   ·exact hag O' id' (g3a O' id' hh)
   ·rw [p4] at hO';cases hO';exact hy
  obtain⟨Vc3,A3,q1,q2,q3,q4,q5⟩:=zq J V' Vc2 A2 i k hp.2 h2 qX4 g1 p1;have qxf:si (.ob O offs::J) V=si J V':=by simp only [si,hO];rw [g0]
  refine⟨Vc3,A3,q1,q2,fun id' ho=>?_,by rw [qxf];exact q4,by rw [qxf];exact((fk V O).trans g4).trans q5⟩;rcases q3 id' ho with ho|ho
  ·rcases p6 id' ho with ho|hi
   ·rcases g7 id' ho with ho|ho
    ·exact .inl ho
    ·exact .inr ((fk V O).own ho)
   ·cases hi;exact .inr qxH
  ·exact .inr ((fk V O).own (g4.own ho))
 |.st t offs::J,V,Vc,A0,I,k,hp,h,hag,hk,hkc=>by
  rw [List.all_cons,qqB] at hp;have hz:∀p∈offs,oh p.2=true:=fun p hm=>qqA.1 hp.1 p hm
  have hk':jx V none (.t t) fun w=>match w with
   |.st v ovs=>(match AU ovs offs with
    |true=>wo (R:=JT J Prop) V ovs offs (I v) fun I V'=>Eo J V' I
    |false=>False)
   |_=>False:=hk
  simp only [jx] at hk';split at hk'
  ·cases hk'
  rename_i e he;obtain⟨a,ha,hv⟩:=h.old.env t e he;split at hk';rotate_left
  ·cases hk'
  rename_i hg;have hv':=hv (fun c bb hh=>by rw [hg] at hh;cases hh);have hvv:gZ V (.t t)=e.v:=by simp only [gZ,he]
  generalize e.v=w at hv' hk' hvv;cases hv'<;>first|(cases hk';done)|skip
  rename_i v ovs cs ts hts hc;simp only at hk';split at hk';rotate_left
  ·cases hk'
  rename_i hkeys;have hsl:∀j w,eC j ovs=some w->∃x,cs[j]?=some x/\Ik A w x:=fun j w hj=>by have hlt:=hc.keys j w hj;have hx:cs[j]?=some (cs[j]'(by rw [←hc.len];exact hlt)):=qqa _;have:=hc.at_ j _ _ (qqa hlt) hx;rw [hj] at this;exact⟨_,hx,this⟩
  obtain⟨i,V',Vc',A',g1,g2,g0,g3,g3a,g4,g5,g6,g7,g8⟩:=Br hsl offs V Vc A0 (I v) (fun I V'=>Eo J V' I) _ hz h hk' (hkc v);have hcr:ee A' v (xe t offs) cs ts:=by
   refine⟨hc.cells,hc.len,fun j w hj=>?_,fun j t' x ht hx=>?_⟩
   ·rw [uy] at hj;split at hj
    ·rename_i hh;obtain⟨x,hx,_⟩:=g8 j hh;rw [hc.len];exact(qqb.1 hx).1
    ·cases hj
   ·rw [uy];by_cases hh:k9 j offs=true
    ·rw [if_pos hh];obtain⟨x',hx',hA'⟩:=g8 j hh;rw [hx] at hx';cases hx';exact hA'
    ·rw [if_neg hh];have:=hc.at_ j t' x ht hx;cases ho:eC j ovs with
     |none=>rw [ho] at this;exact this
     |some w=>exact absurd (ug hkeys j w ho) hh
  obtain⟨Vc3,A3,q1,q2,q3,q4,q5⟩:=zq J V' (sq Vc' t (.st v (xe t offs))) A' i k hp.2 ⟨g3.old,uu g3.new ha (.st hts hcr),g3.apart⟩ (fun O' id' hO'=>hag O' id' (g3a O' id' hO')) g1 g2;have qxf:si (.st t offs::J) V=si J V':=by simp only [si,hvv];rw [g0]
  refine⟨Vc3,A3,q1,q2,fun id' ho=>?_,by rw [qxf];exact q4,by rw [qxf];exact g4.trans q5⟩;rcases q3 id' ho with ho|ho
  ·rcases g7 id' ho with ho|ho
   ·exact .inl ho
   ·exact .inr ho
  ·exact .inr (g4.own ho)
theorem R.zero {A:ei} {V:bt} {st:St} (h:R A V st):R (fun _=>none) V0 st:=
 ⟨fun t e he=>(by cases he),fun O o ho=>(by cases ho),fun O O' o o' a a' id ho=>(by cases ho),fun _ _=>rfl,fun O a ha=>(by cases ha),h.fresh,fun O o a ho=>(by cases ho)⟩
theorem Kq {A:ei} {V:bt} {st:St} (h:R A V st) {J:List BP} {I:JT J Prop} {k:bt->Prop} (hp:J.all A_=true) (hk:Eo J V I) (hkc:Bm J V0 I k):∃Vc A',k Vc/\R A' Vc st/\Fr V A st.H st.nx Vc A' st.H st.nx:=by
 have ni:∀id,¬gW V0 (fun _=>none) id:=fun id ⟨O,o,a,ho,_⟩=>by cases ho
 obtain⟨Vc,A',g1,g2,g3,_⟩:=zq J V V0 (fun _=>none) I k hp ⟨h,h.zero,fun id _ hc=>ni id hc⟩ (fun O id hO=>by cases hO) hk hkc;exact⟨Vc,A',g1,g2,⟨qqT _,fun _ _ _=>rfl,fun id ho=>(g3 id ho).elim (fun h=>absurd h (ni id)) .inl⟩⟩
end
end Go.Ax.V
namespace Go.Ax.V
def MS (prog:Map ay) (f np:Nat) (Jout:List BP) (Q:JT Jout Prop) (Vc:bt):Prop:=
 ∀(A:ei) (as:List AV) (H:ck) (nx:Nat),as.length=np->R A Vc ⟨jj as 0 .leaf,H,nx⟩->
  ∃v H' nx' A' V',ey prog f as H nx=some (v,H',nx')/\R A' V' ⟨(jj as 0 .leaf).put (some v) np,H',nx'⟩/\Eo Jout V' Q/\Fr Vc A H nx V' A' H' nx'
noncomputable def Sj (prog:Map ay) (f np:Nat) (Jin Jout:List BP) (Q:JT Jout Prop):JT Jin Prop:=T3 Jin V0 (MS prog f np Jout Q)
def WN (prog:Map ay) (f:Nat) (T:bt->List VV->(VV->bt->Prop)->Prop):Prop:=
 ∀(A:ei) (V:bt) (st:St) (ws:List VV) (as:List AV) (k:VV->bt->Prop),R A V st->ws.length=as.length->(∀(j:Nat) w a,ws[j]?=some w->as[j]?=some a->VR A w a)->T V ws k->
  ∃v H' nx' A' V' w,ey prog f as st.H st.nx=some (v,H',nx')/\R A' V' ⟨st.env,H',nx'⟩/\VR A' w v/\Ext V A V' A'/\Fr V A st.H st.nx V' A' H' nx'/\k w V'
structure vz (prog:Map ay) (sh:Sh):Prop where
 vs:sh.vs=Sj prog
 inl:∀f T,sh.inl f=some T->WN prog f T
theorem HE {n:Nat}:∀{l:List Nat},BT n l=true↔n∈l
 |[]=>by simp [BT]
 |m::l=>by simp [BT,HE (l:=l)]
theorem BJ {us:Map Unit} {O:Nat} (h:A6 us O=true):us.get O=none:=by
 unfold A6 at h;split at h
 ·cases h
 ·assumption
theorem AQ {V:bt} {O:Nat} {o:VO} {k:bt->Prop} (hf:A6 V.us O=true) (h:k (tq V O o)):C2 V O o k:=by have hn:=BJ hf;unfold C2;rw [hn];exact h
def OZ (V V':bt):Prop:=∀T,V.us.get T=some ()->V'.us.get T=some ()/\V'.H.get T=V.H.get T
theorem DX {V:bt} {O:Nat} {o:VO} (hf:A6 V.us O=true):OZ V (tq V O o):=by
 intro T hT;have hne:T≠O:=by rintro rfl;rw [BJ hf] at hT;cases hT
 exact⟨by simp only [tq,Map.bk,if_neg hne];exact hT,by simp only [tq,Map.bk,if_neg hne]⟩
theorem OZ.trans {V V1 V2:bt} (h:OZ V V1) (h':OZ V1 V2):OZ V V2:=fun T hT=>let ⟨a,b⟩:=h T hT;let ⟨c,d⟩:=h' T a;⟨c,d.trans b⟩
theorem Ji {Rt:Type} {O:Nat}:∀(offs:List (Nat×Nat)) (V:bt) (us:Map Unit) (k:bt->Rt) (kk:Rt->bt->Prop),Zm O offs V.us=some us->(∀V',V'.us=us->OZ V V'->kk (k V') V')->R3 O offs V (mkL O offs V k) kk
 |[],V,us,k,kk,h,hk=>by cases h;exact hk V rfl (fun T hT=>⟨hT,rfl⟩)
 |(off,sz)::offs,V,us,k,kk,h,hk=>by
  simp only [Zm,cond_eq_ite] at h;split at h
  ·rename_i hf;intro es;refine AQ hf ?_;exact Ji offs _ us k kk h (fun V' h1 h2=>hk V' h1 ((DX hf).trans h2))
  ·cases h
theorem BO:∀(J:List BP) (V:bt) (obs:List Nat) (k:bt->Prop),Ox J V.us obs=true->(∀O∈obs,V.us.get O=some ()/\∃v ov,V.H.get O=some (.ob v ov))->Bm J V (T3 J V k) k
 |[],V,obs,k,h,ho=>fun hk=>hk
 |.tr t::J,V,obs,k,h,ho=>fun v=>BO J (sq V t (.tr v)) obs k h ho
 |.sl t sz::J,V,obs,k,h,ho=>by simp only [Ox,qqB] at h;intro es;refine AQ h.1 ?_;refine BO J _ obs k h.2 (fun O hO=>?_);obtain⟨h1,v,ov,h2⟩:=ho O hO;obtain⟨h3,h4⟩:=DX (o:=xu t sz es) h.1 O h1;exact⟨h3,v,ov,by rw [←h2];exact h4⟩
 |.pt t O off::J,V,obs,k,h,ho=>by simp only [Ox,qqB] at h;obtain⟨h1,v,ov,h2⟩:=ho O (HE.1 h.1);simp only [Bm,h2];exact BO J (sq V t (.ptr O off)) obs k h.2 ho
 |.ob O offs::J,V,obs,k,h,ho=>by
  simp only [Ox] at h;split at h
  ·rename_i us hus;rw [qqB] at h;intro v;refine Ji offs V us _ _ hus (fun V' hu hkp=>?_);have hf:A6 V'.us O=true:=by rw [hu];exact h.1
   refine AQ hf ?_;refine BO J _ (O::obs) k (by show Ox J (V'.us.put (some ()) O) (O::obs)=true;rw [hu];exact h.2) (fun O' hO'=>?_);rcases qqw.1 hO' with rfl|hO'
   ·exact⟨by simp only [tq,Map.bk,if_pos],v,xe O' offs,by simp only [tq,Map.bk,if_pos]⟩
   ·obtain⟨h1,v',ov,h2⟩:=ho O' hO';obtain⟨h3,h4⟩:=(hkp.trans (DX (o:=.ob v (xe O offs)) hf)) O' h1;exact⟨h3,v',ov,by rw [←h2];exact h4⟩
  ·cases h
 |.st t offs::J,V,obs,k,h,ho=>by
  simp only [Ox] at h;split at h
  ·rename_i us hus;intro v;refine Ji offs V us _ _ hus (fun V' hu hkp=>?_);refine BO J _ obs k (by show Ox J V'.us obs=true;rw [hu];exact h) (fun O' hO'=>?_);obtain⟨h1,v',ov,h2⟩:=ho O' hO';obtain⟨h3,h4⟩:=hkp O' h1;exact⟨h3,v',ov,by rw [←h2];exact h4⟩
  ·cases h
 |.ps t t0::J,V,obs,k,h,ho=>by cases h
section
variable {prog:Map ay} {nt:Nat}
theorem DM {A:ei} {V:bt} {st:St} (hR:R A V st) {O:Nat} {o:VO} {a:AV} (hA:A O=some a) (hO:OR A st.H o a) (hid:∀id,gR a=some id->¬gW V A id) (hpl:o.pl=true:=by rfl) :
  R A (ew V O o) st/\∀id,gW (ew V O o) A id->gW V A id\/gR a=some id:=by
 refine⟨⟨hR.env,fun O' o' ho=>?_,fun O1 O2 o1 o2 a1 a2 id ho1 ho2 ha1 ha2 hi1 hi2=>?_,hR.used,hR.one,hR.fresh,fun O' o' x ho hx=>?_⟩,fun id ⟨O',o',x,ho,hx,hi⟩=>?_⟩
 ·simp only [ew,Map.bk] at ho;split at ho
  ·rename_i e;subst e;cases ho;exact⟨a,hA,hO⟩
  ·exact hR.heap O' o' ho
 ·simp only [ew,Map.bk] at ho1 ho2;by_cases e1:O1=O
  ·by_cases e2:O2=O
   ·rw [e1,e2]
   ·subst e1;rw [if_neg e2] at ho2;rw [if_pos rfl] at ho1;cases ho1;rw [hA] at ha1;cases ha1;exact absurd ⟨O2,_,a2,ho2,ha2,hi2⟩ (hid id ((jd hpl).1 hi1))
  ·rw [if_neg e1] at ho1;by_cases e2:O2=O
   ·subst e2;rw [if_pos rfl] at ho2;cases ho2;rw [hA] at ha2;cases ha2;exact absurd ⟨O1,_,a1,ho1,ha1,hi1⟩ (hid id ((jd hpl).1 hi2))
   ·rw [if_neg e2] at ho2;exact hR.inj O1 O2 _ _ a1 a2 id ho1 ho2 ha1 ha2 hi1 hi2
 ·simp only [ew,Map.bk] at ho;split at ho
  ·rename_i e;subst e;cases ho;exact Dz hpl
  ·exact hR.nh O' o' x ho hx
 ·simp only [ew,Map.bk] at ho;by_cases e:O'=O
  ·subst e;rw [if_pos rfl] at ho;cases ho;rw [hA] at hx;cases hx;exact .inr ((jd hpl).1 hi)
  ·rw [if_neg e] at ho;exact .inl ⟨O',o',x,ho,hx,hi⟩
structure GJ (V2:bt) (A2:ei) (st2:St) (Vr:bt) (A:ei) (st:St):Prop where
 old:R A2 V2 st2
 new:R A Vr st
 H:st.H=st2.H
 nx:st.nx=st2.nx
 apart:∀id,gW V2 A2 id->¬gW Vr A id
theorem Cd {V2 Vr:bt} {A2 A:ei} {st2 st:St} (h:GJ V2 A2 st2 Vr A st) {sz:Nat} {w:VV} {x:AV} (hw:Ik A2 w x) {k:List TV->bt->Prop} (hk:uo V2 sz w k) :
  ∃es V',k es V'/\Sub V2 V'/\(oh sz=true->∃inn,Told st.H sz es x inn fun id=>gW V2 A2 id/\¬gW V' A2 id)/\x.one=true:=by
 obtain⟨es,V',h1,_,h2,h3,h4,h5⟩:=Bq (Vc:=V0) (A0:=fun _=>none) (st:=st2) ⟨h.old,h.old.zero,fun id _ ⟨O,o,a,ho,_⟩=>(by cases ho)⟩ hw hk;exact⟨es,V',h1,h2,by rw [h.H];exact h3,h4⟩
theorem Ce {Rt:Type} {d:Nat} {st2 st:St} {ovs:List (Nat×VV)} {cs:List AV} {A2:ei} (hsl:∀j w,eC j ovs=some w->∃x,cs[j]?=some x/\Ik A2 w x):∀(offs:List (Nat×Nat)) (V2 Vr:bt) (A:ei) (us:Map Unit) (kc:bt->Rt) (k:Rt->bt->Prop),
  (∀p∈offs,oh p.2=true)->GJ V2 A2 st2 Vr A st->L_ d offs Vr.us=some us->wo V2 ovs offs (RI d offs Vr kc) k->
  ∃V2' Vr' A',k (kc Vr') V2'/\GJ V2' A2 st2 Vr' A' st/\Sub V2 V2'/\Vr'.us=us/\(∀O x,A O=some x->A' O=some x)/\(∀id,gW Vr' A' id->gW Vr A id\/gW V2 A2 id)/\(∀j,k9 j offs=true->∃x,cs[j]?=some x/\A' (Cb d j)=some x)/\
   (∀n x,A' n=some x->A n=some x\/Vr.us.get n.base=none)/\wg Vr Vr'
 |[],V2,Vr,A,us,kc,k,hz,h,hus,hk=>by cases hus;exact⟨V2,Vr,A,hk,h,Sub.refl V2,rfl,fun _ _ h=>h,fun id h=>.inl h,fun j hj=>(by cases hj),fun _ _ h=>.inl h,wg.refl Vr⟩
 |(off,sz)::offs,V2,Vr,A,us,kc,k,hz,h,hus,hk=>by
  simp only [L_,cond_eq_ite] at hus;split at hus;rotate_left
  ·cases hus
  rename_i hf;simp only [wo] at hk;split at hk;rotate_left
  ·cases hk
  rename_i w hw;obtain⟨x,hx,hs⟩:=hsl off w hw;obtain⟨es,V1,hk1,hs1,qx0,hone⟩:=Cd h hs hk;obtain⟨inn,hT⟩:=qx0 (hz (off,sz) qqu);obtain⟨Vr1,A1,hV1,hR1,hA1,hAo,qxB,hown,_,qxS,hnew⟩:=yh (k:=fun V'=>V'=tq Vr (Cb d off) (xu (Cb d off) sz es)) h.new (AQ hf rfl) hT hone (fun id hi=>h.apart id hi.1);subst hV1;have hb:GJ V1 A2 st2 (tq Vr (Cb d off) (xu (Cb d off) sz es)) A1 st:=⟨hs1.r h.old,hR1,h.H,h.nx,fun id ho hc=>(hown id hc).elim (fun hc=>h.apart id (hs1.own ho) hc) (fun hi=>hi.2 ho)⟩;obtain⟨V2',Vr',A',g1,g2,g3,g4,g5,g6,g7,g8,g9⟩:=Ce hsl offs V1 _ A1 us kc k (fun p hp=>hz p (qqv _ hp)) hb hus hk1;have hev:wg Vr (tq Vr (Cb d off) (xu (Cb d off) sz es)):=wg.name (BJ hf);refine⟨V2',Vr',A',g1,g2,hs1.trans g3,g4,fun O y hy=>g5 _ _ (hA1 _ _ hy),fun id ho=>?_,fun j hj=>?_,fun n x hx=>(g8 n x hx).elim (fun h=>hnew n x h) (fun h=>.inr (hev.us _ h)),hev.trans g9⟩
  ·rcases g6 id ho with ho|ho
   ·rcases hown id ho with ho|hi
    ·exact .inl ho
    ·exact .inr hi.1
   ·exact .inr (hs1.own ho)
  ·simp only [k9,qqC,qqE] at hj;rcases hj with rfl|hj
   ·exact⟨x,hx,g5 _ _ hAo⟩
   ·exact g7 j hj
theorem CU {d j:Nat}:∀{l:List (Nat×Nat)},eC j (EP d l)=if k9 j l=true then some (.sl (Cb d j)) else none
 |[]=>by simp [EP,eC,k9]
 |(i,z)::l=>by
  simp only [EP,eo,CU (l:=l),k9,qqC,qqE];by_cases e:i=j
  ·subst e;simp
  ·rw [if_neg e];by_cases hk:k9 j l=true
   ·rw [if_pos hk,if_pos (.inr hk)]
   ·rw [if_neg hk,if_neg];rintro(h|h)
    ·exact e h.symm
    ·exact hk h
theorem Nb {A:ei} {V:bt} {st:St} (hR:R A V st) {n:Nat} {k:VV->Prop} (h:jx V none (.t n) k):∃e a,V.env.get n=some e/\st.env.get n=some a/\VR A e.v a/\k e.v:=by
 simp only [jx] at h;split at h
 ·cases h
 rename_i e he;obtain⟨a,ha,hv⟩:=hR.env n e he;split at h
 ·rename_i hg;exact⟨e,a,he,ha,hv (fun c bb hh=>by rw [hg] at hh;cases hh),h⟩
 ·cases h
theorem Nw {d:Nat} {offs:List (Nat×Nat)} {ks:List PK} {w:VV} {ws:List VV} {ims:List WO} (h:jc d (.ob offs::ks) (w::ws)=some ims):∃O l,w=.ptr O 0/\jc d ks ws=some l/\ims=.ob O d::.pt::l:=by
 cases w with
 |ptr O off=>
  cases off with
  |zero=>
   simp only [jc] at h;split at h
   ·rename_i l hl;cases h;exact⟨O,l,rfl,hl,rfl⟩
   ·cases h
  |succ n=>simp [jc] at h
 |_=>simp [jc] at h
theorem Nv {d sz:Nat} {ks:List PK} {w:VV} {ws:List VV} {ims:List WO} (h:jc d (.sl sz::ks) (w::ws)=some ims):∃O l,w=.sl O/\jc d ks ws=some l/\ims=.sl O::l:=by
 cases w with
 |sl O=>
  simp only [jc] at h;split at h
  ·rename_i l hl;cases h;exact⟨O,l,rfl,hl,rfl⟩
  ·cases h
 |_=>simp [jc] at h
theorem IZ {V:bt} {t:Nat} {w:VV}:wg V (sq V t w):=wg.WX rfl (fun _ _ h=>h)
theorem Fa {np d:Nat} {rk:RK} {k:bt->Prop} {v:AV} {st2 st:St}:∀(ks:List PK) (i:Nat) (ws:List VV) (as:List AV) (ims:List WO) (V2 Vr:bt) (A2 A:ei),jc d ks ws=some ims->(od np rk ks i).all A_=true->Qx nt (od np rk ks i) ims Vr.us=true->
  GJ V2 A2 st2 Vr A st->(∀(j:Nat) w a,ws[j]?=some w->as[j]?=some a->VR A w a)->ws.length=as.length->(∀(j:Nat) a,as[j]?=some a->st2.env.get (i+j)=some a)->st2.env.get np=some v->st.env.get d=some v->
  Eo (od np rk ks i) V2 (Gt (od np rk ks i) ims Vr k)->∃Vr' A',k Vr'/\R A' Vr' st/\(∀O x,A O=some x->A' O=some x)/\(∀id,gW Vr' A' id->gW Vr A id\/gW V2 A2 id)/\Nat.blt d nt=true/\(∀n x,A' n=some x->A n=some x\/Vr.us.get n.base=none)/\wg Vr Vr'
 |[],i,ws,as,ims,V2,Vr,A2,A,him,hp,hok,h,hw,hl,has,hnp,hd,hk=>by
  cases ws with
  |cons _ _=>cases him
  |nil=>
   cases him;cases rk with
   |tr=>have hk0:ue V2 none (.t np) (fun v=>k (sq Vr d (.tr v))):=hk;have qzX:(Nat.blt d nt&&true)=true:=hok;rw [Bool.and_true] at qzX;clear hk hok;obtain⟨u,a,ha,hc,hk1⟩:=M_ h.old hk0;rw [hnp] at ha;cases ha;exact⟨_,A,hk1,uu h.new hd (.tr hc),fun _ _ h=>h,fun id ho=>.inl ho,qzX,fun _ _ h=>.inl h,IZ⟩
   |sl sz=>
    have hz:oh sz=true:=by simp only [od,Vi,List.all_cons,qqB] at hp;exact hp.1
    have hk0:jx V2 none (.t np) (fun w=>uo V2 sz w fun es V'=>k (sq (tq Vr d (xu d sz es)) d (.sl d))):=hk;have qzX:(Nat.blt d nt&&(A6 Vr.us d&&true))=true:=hok;rw [Bool.and_true,qqB] at qzX;clear hk hok;obtain⟨e,a,he,ha,hv,hk⟩:=Nb h.old hk0;rw [hnp] at ha;cases ha;have hsl:Ik A2 e.v v:=by
     have hne:=hk;unfold uo at hne;generalize e.v=w at hv hne;cases hv<;>first|(cases hne;done)|skip
     ·exact .inl rfl
     ·exact .inr rfl
     ·assumption
    obtain⟨es,V1,hk1,hs1,qx0,hone⟩:=Cd h hsl hk;obtain⟨hlt,hf⟩:=qzX;obtain⟨inn,hT⟩:=qx0 hz;obtain⟨Vr1,A1,hV1,hR1,hA1,hAo,qxB,hown,_,qxS,hnew⟩:=yh (k:=fun V'=>V'=tq Vr d (xu d sz es)) h.new (AQ hf rfl) hT hone (fun id hi=>h.apart id hi.1);subst hV1;exact⟨_,A1,hk1,uu hR1 hd (.sl hAo),hA1,fun id ho=>(hown id ho).imp (fun h=>h) (fun hi=>hi.1),hlt,hnew,(wg.name (BJ hf)).trans IZ⟩
   |st offs=>
    have hz:∀p∈offs,oh p.2=true:=by simp only [od,Vi,List.all_cons,qqB] at hp;exact fun p hm=>qqA.1 hp.1 p hm
    have hk0:jx V2 none (.t np) (fun w=>match w with
     |.st v ovs=>(match AU ovs offs with
      |true=>wo (R:=Prop) V2 ovs offs (RI (R:=Prop) (B5 d) offs Vr fun V'=>k (sq V' d (.st v (EP (B5 d) offs)))) fun I V'=>I
      |false=>False)
     |_=>False):=hk
    have qzX:(Nat.blt d nt&&(match L_ (B5 d) offs Vr.us with
     |some us=>true
     |none=>false))=true:=by
     have h0:(Nat.blt d nt&&(match L_ (B5 d) offs Vr.us with
      |some us=>Qx nt [] [] us
      |none=>false))=true:=hok
     rw [qqB] at h0 ⊢;refine⟨h0.1,?_⟩;have h1:=h0.2;split at h1
     ·rfl
     ·cases h1
    rw [qqB] at qzX;clear hk hok;obtain⟨e,a,he,ha,hv,hk⟩:=Nb h.old hk0;rw [hnp] at ha;cases ha;obtain⟨hlt,hus⟩:=qzX;split at hus;rotate_left
    ·cases hus
    rename_i us qXD;generalize e.v=w at hv hk;cases hv<;>first|(cases hk;done)|skip
    rename_i v ovs cs ts hts hc;simp only at hk;split at hk;rotate_left
    ·cases hk
    rename_i hkeys;have hsl:∀j w,eC j ovs=some w->∃x,cs[j]?=some x/\Ik A2 w x:=fun j w hj=>by have hlt:=hc.keys j w hj;have hx:cs[j]?=some (cs[j]'(by rw [←hc.len];exact hlt)):=qqa _;have:=hc.at_ j _ _ (qqa hlt) hx;rw [hj] at this;exact⟨_,hx,this⟩
    obtain⟨V2',Vr',A',g1,g2,g3,g4,g5,g6,g7,g8,g9⟩:=Ce (Rt:=Prop) (d:=B5 d) hsl offs V2 Vr A us _ _ hz h qXD hk;have hcr:ee A' v (EP (B5 d) offs) cs ts:=by
     refine⟨hc.cells,hc.len,fun j w hj=>?_,fun j t' x ht hx=>?_⟩
     ·rw [CU] at hj;split at hj
      ·rename_i hh;obtain⟨x,hx,_⟩:=g7 j hh;rw [hc.len];exact(qqb.1 hx).1
      ·cases hj
     ·rw [CU];by_cases hh:k9 j offs=true
      ·rw [if_pos hh];obtain⟨x',hx',hA'⟩:=g7 j hh;rw [hx] at hx';cases hx';exact hA'
      ·rw [if_neg hh];have:=hc.at_ j t' x ht hx;cases ho:eC j ovs with
       |none=>rw [ho] at this;exact this
       |some w=>exact absurd (ug hkeys j w ho) hh
    exact⟨_,A',g1,uu g2.new hd (.st hts hcr),g5,g6,hlt,g8,g9.trans IZ⟩
 |.tr::ks,i,ws,as,ims,V2,Vr,A2,A,him,hp,hok,h,hw,hl,has,hnp,hd,hk=>by
  cases ws with
  |nil=>simp [jc] at him
  |cons w ws=>
   cases as with
   |nil=>cases hl
   |cons a as=>
    have qXR:jc d ks ws=some ims:=by simpa only [jc] using him
    simp only [od] at hp hok hk;exact Fa ks (i+1) ws as ims V2 Vr A2 A qXR hp hok h (fun j w' a' h1 h2=>hw (j+1) w' a' (by simpa using h1) (by simpa using h2)) (Nat.succ.inj hl) (fun j a' h1=>by have:=has (j+1) a' (by simpa using h1);rwa [show i+(j+1)=i+1+j by omega] at this) hnp hd hk
 |.ob offs::ks,i,ws,as,ims,V2,Vr,A2,A,him,hp,hok,h,hw,hl,has,hnp,hd,hk=>by
  cases ws with
  |nil=>simp [jc] at him
  |cons w ws=>
   cases as with
   |nil=>cases hl
   |cons a as=>
    obtain⟨O,l,rfl,qv2,rfl⟩:=Nw him
    ·simp only [od,List.all_cons,qqB] at hp;have hz:∀p∈offs,oh p.2=true:=fun p hm=>qqA.1 hp.1 p hm
     simp only [od,Qx] at hok;split at hok;rotate_left
     ·cases hok
     rename_i us hus;have hwa:=hw 0 _ a rfl rfl;cases hwa with
     |@ptr _ _ id hAO=>
     simp only [od,Eo] at hk;split at hk;rotate_left
     ·cases hk
     rename_i v2 ovs hO2;split at hk;rotate_left
     ·cases hk
     rename_i hkeys;obtain⟨y,hy,id2,cs,ts,rfl,hH,hc⟩:=h.old.heap i _ hO2;have hsl:∀j w,eC j ovs=some w->∃x,cs[j]?=some x/\Ik A2 w x:=fun j w hj=>by have hlt:=hc.keys j w hj;have hx:cs[j]?=some (cs[j]'(by rw [←hc.len];exact hlt)):=qqa _;have:=hc.at_ j _ _ (qqa hlt) hx;rw [hj] at this;exact⟨_,hx,this⟩
     have qxq:=j8 h.old hO2 hy (id:=id2) (.inl rfl);have qxH:gW V2 A2 id2:=⟨i,_,_,hO2,hy,.inl rfl⟩;have hb1:GJ (f_ V2 i) A2 st2 Vr A st:=⟨(fk V2 i).r h.old,h.new,h.H,h.nx,fun id' ho=>h.apart id' ((fk V2 i).own ho),⟩;obtain⟨V2',Vr',A',g1,g2,g3,g4,g5,g6,g7,g8,g9⟩:=Ce hsl offs (f_ V2 i) Vr A us _ _ hz hb1 hus hk;have hk3:jx V2' none (.t i) fun w=>match w with
      |.ptr O' off'=>same O' i (same off' 0 (Eo (od np rk ks (i+1)) V2' (Gt (od np rk ks (i+1)) l (ew Vr' O (.ob v2 (EP d offs))) k)))
      |_=>False:=g1
     obtain⟨e,a',he,ha',hv',hk3⟩:=Nb g2.old hk3;have ha0:=has 0 _ rfl;rw [Nat.add_zero,ha'] at ha0;cases ha0;generalize e.v=w' at hv' hk3;cases w'<;>first|(cases hk3;done)|skip
     rename_i O' off';have hOi:=(eg hk3).1;have hoff:=(eg (eg hk3).2).1;have hk4:=(eg (eg hk3).2).2;clear hk3;have hOi:=hOi.symm;subst hOi;subst hoff;cases hv' with
     |ptr hO'=>
     rw [hy] at hO';cases hO';have qX9:=g5 _ _ hAO;have hor:OR A' st.H (.ob v2 (EP d offs)) (.ptr id 0 0):=by
      refine⟨id,cs,ts,rfl,by rw [h.H];exact hH,⟨hc.cells,hc.len,fun j w hj=>?_,fun j t x ht hx=>?_⟩⟩
      ·rw [CU] at hj;split at hj
       ·rename_i hh;obtain⟨x,hx,_⟩:=g7 j hh;rw [hc.len];exact(qqb.1 hx).1
       ·cases hj
      ·rw [CU];by_cases hh:k9 j offs=true
       ·rw [if_pos hh];obtain⟨x',hx',hA'⟩:=g7 j hh;rw [hx] at hx';cases hx';exact hA'
       ·rw [if_neg hh];have:=hc.at_ j t x ht hx;cases ho:eC j ovs with
        |none=>rw [ho] at this;exact this
        |some w=>exact absurd (ug hkeys j w ho) hh
     obtain⟨p1,p2⟩:=DM g2.new qX9 hor (fun id' hi ho=>by
      cases hi;rcases g6 _ ho with ho|ho
      ·exact h.apart _ qxH ho
      ·exact qxq ho)
     have hb2:GJ V2' A2 st2 (ew Vr' O (.ob v2 (EP d offs))) A' st:=⟨g2.old,p1,h.H,h.nx,fun id' ho hc'=>(p2 id' hc').elim (fun hc'=>g2.apart id' ho hc') (fun hi=>by cases hi;exact qxq (g3.own ho))⟩;obtain⟨Vr2,A3,q1,q2,q3,q4,q5,q6,q7⟩:=Fa ks (i+1) ws as l V2' _ A2 A' qv2 hp.2.2 (by rw [show (ew Vr' O (VO.ob v2 (EP d offs))).us=us from g4];exact hok) hb2
      (fun j w' a' h1 h2=>(hw (j+1) w' a' (by simpa using h1) (by simpa using h2)).mono g5) (Nat.succ.inj hl) (fun j a' h1=>by have:=has (j+1) a' (by simpa using h1);rwa [show i+(j+1)=i+1+j by omega] at this) hnp hd hk4
     refine⟨Vr2,A3,q1,q2,fun O x hx=>q3 _ _ (g5 _ _ hx),fun id' ho=>?_,q5,fun n x hx=>(q6 n x hx).elim (fun h=>g8 n x h) (fun h=>.inr (g9.us _ h)),(g9.trans (wg.set rfl)).trans q7⟩;rcases q4 id' ho with ho|ho
     ·rcases p2 id' ho with ho|hi
      ·exact(g6 id' ho).imp (fun h=>h) (fk V2 i).own
      ·cases hi;exact .inr qxH
     ·exact .inr ((fk V2 i).own (g3.own ho))
 |.sl sz::ks,i,ws,as,ims,V2,Vr,A2,A,him,hp,hok,h,hw,hl,has,hnp,hd,hk=>by
  cases ws with
  |nil=>simp [jc] at him
  |cons w ws=>
   cases as with
   |nil=>cases hl
   |cons a as=>
    obtain⟨O,l,rfl,qv2,rfl⟩:=Nv him;simp only [od,List.all_cons,qqB] at hp;have hz:oh sz=true:=hp.1;simp only [od,Qx,qqB] at hok;obtain⟨hlt,hok⟩:=hok;have hwa:=hw 0 _ a rfl rfl;cases hwa with
    |@sl _ _ hAO=>
    have hk':jx V2 none (.t i) fun w=>uo V2 sz w fun es V'=>Eo (od np rk ks (i+1)) V' (Gt (od np rk ks (i+1)) l (ew Vr O (.gr sz es)) k):=hk
    obtain⟨e,a',he,ha',hv',hk'⟩:=Nb h.old hk';have ha0:=has 0 _ rfl;rw [Nat.add_zero,ha'] at ha0;cases ha0;have hsl:Ik A2 e.v a:=by
     have hne:=hk';unfold uo at hne;generalize e.v=w at hv' hne;cases hv'<;>first|(cases hne;done)|skip
     ·exact .inl rfl
     ·exact .inr rfl
     ·assumption
    obtain⟨es,V1,hk1,hs1,qx0,hone⟩:=Cd h hsl hk';obtain⟨inn,hT⟩:=qx0 hz;have hTO:EL st.H sz es a/\∀id,gR a=some id->gW V2 A2 id/\¬gW V1 A2 id:=by obtain⟨q1,_,q3⟩:=hT.2 (fun n=>match n with|.s _=>none|.i _ v j=>if v=0 then inn j else none) 0 (fun j=>if_pos rfl) (fun v j hv=>if_neg (by omega));unfold xu at q1 q3;rw [hlt] at q1 q3;exact⟨q1,fun id hi=>q3 id (.inl hi)⟩
    have hid:=hTO.2;obtain⟨p1,p2⟩:=DM h.new (o:=.gr sz es) hAO hTO.1 (fun id hi=>h.apart id (hid id hi).1);have hb:GJ V1 A2 st2 (ew Vr O (.gr sz es)) A st:=⟨hs1.r h.old,p1,h.H,h.nx,fun id ho hc=>(p2 id hc).elim (fun hc=>h.apart id (hs1.own ho) hc) (fun hi=>(hid id hi).2 ho)⟩;obtain⟨Vr2,A3,q1,q2,q3,q4,q5,q6,q7⟩:=Fa ks (i+1) ws as l V1 (ew Vr O (.gr sz es)) A2 A qv2 hp.2 hok hb
     (fun j w' a' h1 h2=>hw (j+1) w' a' (by simpa using h1) (by simpa using h2)) (Nat.succ.inj hl) (fun j a' h1=>by have:=has (j+1) a' (by simpa using h1);rwa [show i+(j+1)=i+1+j by omega] at this) hnp hd hk1
    refine⟨Vr2,A3,q1,q2,q3,fun id ho=>?_,q5,q6,(wg.set rfl).trans q7⟩;rcases q4 id ho with ho|ho
    ·exact(p2 id ho).imp (fun h=>h) (fun hi=>(hid id hi).1)
    ·exact .inr (hs1.own ho)
theorem FJ {A:ei} {V:bt} {st:St} (hR:R A V st):∀(xs:List b_) (k:List VV->Prop),SO V xs k->∃ws,ws.length=(xs.map (ev st.env)).length/\(∀(j:Nat) w a,ws[j]?=some w->(xs.map (ev st.env))[j]?=some a->VR A w a)/\k ws
 |[],k,h=>⟨[],rfl,fun j w a hw=>by simp at hw,h⟩
 |x::xs,k,h=>by
  obtain⟨w,hw,h⟩:=fu (g:=none) hR trivial h;obtain⟨ws,h1,h2,h3⟩:=FJ hR xs _ h;refine⟨w::ws,by simpa using h1,fun j w' a hj ha=>?_,h3⟩;cases j with
  |zero=>simp at hj ha;subst hj;subst ha;exact hw
  |succ j=>exact h2 j w' a (by simpa using hj) (by simpa using ha)
theorem C9 {d:Nat}:∀(ks:List PK) (ws:List VV) (ims:List WO),jc d ks ws=some ims->ks.length=ws.length
 |[],[],ims,h=>rfl
 |[],_::_,ims,h=>by simp [jc] at h
 |k::ks,[],ims,h=>by cases k<;>simp [jc] at h
 |.tr::ks,w::ws,ims,h=>by
  have h':jc d ks ws=some ims:=by simpa only [jc] using h
  simp [C9 ks ws ims h']
 |.ob offs::ks,w::ws,ims,h=>by obtain⟨O,l,_,h',_⟩:=Nw h;simp [C9 ks ws l h']
 |.sl sz::ks,w::ws,ims,h=>by obtain⟨O,l,_,h',_⟩:=Nv h;simp [C9 ks ws l h']
theorem BE:∀(as:List AV) (i:Nat) (e:Env) (j:Nat),(jj as i e).get j=if i<=j/\j < i+as.length then as[j - i]? else e.get j
 |[],i,e,j=>by simp only [jj,List.length_nil];rw [if_neg (by omega)]
 |a::as,i,e,j=>by
  simp only [jj,BE as (i+1),Map.bk,qqr];by_cases h:i+1<=j/\j < i+1+as.length
  ·rw [if_pos h,if_pos (by omega),show j - i=(j - (i+1))+1 by omega,List.getElem?_cons_succ]
  ·rw [if_neg h];by_cases e1:j=i
   ·subst e1;rw [if_pos rfl,if_pos (by omega)];simp
   ·rw [if_neg e1,if_neg (by omega)]
theorem HZ:∀(ws:List VV) (i:Nat) (e:Map VE) (j:Nat),(EH ws i e).get j=if i<=j/\j < i+ws.length then ws[j - i]?.map (fun w=>⟨none,w⟩) else e.get j
 |[],i,e,j=>by simp only [EH,List.length_nil];rw [if_neg (by omega)]
 |w::ws,i,e,j=>by
  simp only [EH,HZ ws (i+1),Map.bk,qqr];by_cases h:i+1<=j/\j < i+1+ws.length
  ·rw [if_pos h,if_pos (by omega),show j - i=(j - (i+1))+1 by omega,List.getElem?_cons_succ]
  ·rw [if_neg h];by_cases e1:j=i
   ·subst e1;rw [if_pos rfl,if_pos (by omega)];simp
   ·rw [if_neg e1,if_neg (by omega)]
theorem Zf {A:ei} {V:bt} {st:St} (hR:R A V st) {ws:List VV} {as:List AV} (hl:ws.length=as.length) (hw:∀(j:Nat) w a,ws[j]?=some w->as[j]?=some a->VR A w a) :
  R A {V with env:=EH ws 0 .leaf} ⟨jj as 0 .leaf,st.H,st.nx⟩:=by
 refine⟨fun t e he=>?_,hR.heap,hR.inj,hR.used,hR.one,hR.fresh,hR.nh⟩;have he':(EH ws 0 .leaf).get t=some e:=he;rw [HZ] at he';split at he'
 ·rename_i ht;rw [Nat.sub_zero] at he';have hlt:t < ws.length:=by omega
  rw [qqa hlt] at he';cases he';have ha:as[t]?=some (as[t]'(by omega)):=qqa _;refine⟨as[t]'(by omega),?_,fun _=>hw t _ _ (qqa hlt) ha⟩;show (jj as 0 .leaf).get t=_;rw [BE,if_pos (by omega),Nat.sub_zero,ha]
 ·cases he'
theorem Od {V:bt} {e:Map VE} {sz:Nat} {w:VV} {k k':List TV->bt->Prop} (hk:∀es V',V'.env=V.env->k es V'->k' es {V' with env:=e}) (h:uo V sz w k):uo {V with env:=e} sz w k':=by
 cases w<;>first|(cases h;done)|skip
 ·exact hk [] V rfl h
 ·rename_i O;have gen:∀x:Option VO,(match x with
    |some (.gr z es)=>(match Nat.blt z Q8 with
     |true=>same z sz (k es (f_ V O))
     |false=>False)
    |some (.gn _ s io iz _ none es)=>(match OD sz s io iz with
     |true=>k es (f_ V O)
     |false=>False)
    |_=>False)->(match x with
    |some (.gr z es)=>(match Nat.blt z Q8 with
     |true=>same z sz (k' es (f_ {V with env:=e} O))
     |false=>False)
    |some (.gn _ s io iz _ none es)=>(match OD sz s io iz with
     |true=>k' es (f_ {V with env:=e} O)
     |false=>False)
    |_=>False):=by
   intro x hx;split at hx
   ·rename_i z es;cases hb:Nat.blt z Q8 with
    |false=>rw [hb] at hx;cases hx
    |true=>rw [hb] at hx;obtain⟨rfl,hx2⟩:=eg hx;show same z z _;unfold same;rw [cond_eq_ite,if_pos (by simp)];exact hk es (f_ V O) rfl hx2
   ·rename_i s io iz ver es;cases hb:OD sz s io iz with
    |false=>rw [hb] at hx;cases hx
    |true=>rw [hb] at hx;exact hk es (f_ V O) rfl hx
   ·cases hx
  exact gen (V.H.get O) h
theorem E0 {st stc:St} (hH:stc.H=st.H) (hnx:stc.nx=st.nx):∀(ks:List PK) (i:Nat) (ws:List VV) (as:List AV) (V Vc:bt) (A A0:ei) (I:JT (EA ks i) Prop) (k:bt->Prop),(EA ks i).all A_=true->R A V st->R A0 Vc stc->(∀id,gW V A id->¬gW Vc A0 id)->
  (∀(j:Nat) w a,ws[j]?=some w->as[j]?=some a->VR A w a)->ws.length=as.length->(∀(j:Nat) a,as[j]?=some a->stc.env.get (i+j)=some a)->O6 ks i ws V I->Bm (EA ks i) Vc I k->
  ∃Vc' A',k Vc'/\R A' Vc' stc/\(∀id,gW Vc' A' id->gW Vc A0 id\/gW V A id)/\(∀id,gW (qm ks ws V) A id->¬gW Vc' A' id)/\Sub V (qm ks ws V)
 |[],i,ws,as,V,Vc,A,A0,I,k,hp,hR,hRc,hap,hw,hl,has,hk,hkc=>by
  cases ws with
  |nil=>exact⟨Vc,A0,hkc hk,hRc,fun id h=>.inl h,hap,Sub.refl V⟩
  |cons w ws=>cases hk
 |.tr::ks,i,ws,as,V,Vc,A,A0,I,k,hp,hR,hRc,hap,hw,hl,has,hk,hkc=>by
  cases ws with
  |nil=>cases hk
  |cons w ws=>
   cases as with
   |nil=>cases hl
   |cons a as=>
    simp only [EA,List.all_cons,qqB] at hp;simp only [O6] at hk;obtain⟨v,hc,hk⟩:=MX (hw 0 w a rfl rfl) hk;obtain⟨Vc',A',g1,g2,g3,g4,g5⟩:=E0 hH hnx ks (i+1) ws as V (sq Vc i (.tr v)) A A0 (I v) k hp.2 hR (uu hRc (has 0 a rfl) (.tr hc)) hap (fun j w' a' h1 h2=>hw (j+1) w' a' (by simpa using h1) (by simpa using h2)) (Nat.succ.inj hl)
     (fun j a' h1=>by have:=has (j+1) a' (by simpa using h1);rwa [show i+(j+1)=i+1+j by omega] at this) hk (hkc v)
    exact⟨Vc',A',g1,g2,g3,g4,g5⟩
 |.ob offs::ks,i,ws,as,V,Vc,A,A0,I,k,hp,hR,hRc,hap,hw,hl,has,hk,hkc=>by
  cases ws with
  |nil=>cases hk
  |cons w ws=>
   cases as with
   |nil=>cases hl
   |cons a as=>
    simp only [EA,List.all_cons,qqB] at hp;have hz:∀p∈offs,oh p.2=true:=fun p hm=>qqA.1 hp.1 p hm
    cases w<;>first|(cases hk;done)|skip
    rename_i O off;cases off with
    |succ n=>cases hk
    |zero=>
    simp only [O6] at hk;split at hk;rotate_left
    ·cases hk
    rename_i v ovs hO;split at hk;rotate_left
    ·cases hk
    rename_i hkeys;have hwa:=hw 0 _ a rfl rfl;cases hwa with
    |@ptr _ _ id hAO=>
    obtain⟨y,hy,id',cs,ts,rfl,hHc,hc⟩:=hR.heap O _ hO;rw [hAO] at hy;cases hy;have hsl:∀j w,eC j ovs=some w->∃x,cs[j]?=some x/\Ik A w x:=fun j w hj=>by have hlt:=hc.keys j w hj;have hx:cs[j]?=some (cs[j]'(by rw [←hc.len];exact hlt)):=qqa _;have:=hc.at_ j _ _ (qqa hlt) hx;rw [hj] at this;exact⟨_,hx,this⟩
    have qxq:=j8 hR hO hAO (id:=id) (.inl rfl);have qxH:gW V A id:=⟨O,_,_,hO,hAO,.inl rfl⟩;have hRe:R A {f_ V O with env:=.leaf} stc:=⟨fun t e he=>(by cases he),fun O' o' ho=>by obtain⟨x,hx,hor⟩:=hR.heap O' o' (lq ho).2;exact⟨x,hx,hor.mono (fun _ _ h=>h) (fun _ _=>by rw [hH])⟩,fun O1 O2 o1 o2 a1 a2 id' h1 h2=>hR.inj O1 O2 o1 o2 a1 a2 id' (lq h1).2 (lq h2).2,hR.used,hR.one,hRc.fresh,fun O' o' x ho hx=>hR.nh O' o' x (lq ho).2 hx⟩
    have h1:N4 {f_ V O with env:=.leaf} A Vc A0 stc:=⟨hRe,hRc,fun id' ho=>hap id' ((fk V O).own ho)⟩;have hk':wo (R:=JT (.pt i i 0::EA ks (i+1)) Prop) {f_ V O with env:=.leaf} ovs offs (I v) fun I V'=>O6 ks (i+1) ws {V' with env:=V.env} I:=by
     have gen:∀(offs:List (Nat×Nat)) (V1:bt) (J:JL offs (JT (.pt i i 0::EA ks (i+1)) Prop)),V1.env=V.env->wo V1 ovs offs J (fun I V'=>O6 ks (i+1) ws V' I)->wo {V1 with env:=.leaf} ovs offs J fun I V'=>O6 ks (i+1) ws {V' with env:=V.env} I:=by
      intro offs
      induction offs with
      |nil=>intro V1 J he h;show O6 ks (i+1) ws {V1 with env:=V.env} J;rw [←he];exact h
      |cons p offs ih=>
       obtain⟨off,sz⟩:=p;intro V1 J he h;simp only [wo] at h ⊢;split at h
       ·rename_i w hw;exact Od (fun es V' he' h'=>ih V' (J es) (he'.trans he) h') h
       ·cases h
     exact gen offs (f_ V O) (I v) rfl hk
    obtain⟨i2,V',Vc',A',g1,g2,g0,g3,g3a,g4,g5,g6,g7,g8⟩:=Br hsl offs {f_ V O with env:=.leaf} Vc A0 (I v) _ _ hz h1 hk' (hkc v);have hor:∀A3:ei,(∀O x,A' O=some x->A3 O=some x)->OR A3 stc.H (.ob v (xe i offs)) (.ptr id 0 0):=by
     intro A3 hA3;refine⟨id,cs,ts,rfl,by rw [hH];exact hHc,⟨hc.cells,hc.len,fun j w hj=>?_,fun j t x ht hx=>?_⟩⟩
     ·rw [uy] at hj;split at hj
      ·rename_i hh;obtain⟨x,hx,_⟩:=g8 j hh;rw [hc.len];exact(qqb.1 hx).1
      ·cases hj
     ·rw [uy];by_cases hh:k9 j offs=true
      ·rw [if_pos hh];obtain⟨x',hx',hA'⟩:=g8 j hh;rw [hx] at hx';cases hx';exact hA3 _ _ hA'
      ·rw [if_neg hh];have:=hc.at_ j t x ht hx;cases ho:eC j ovs with
       |none=>rw [ho] at this;exact this
       |some w=>exact absurd (ug hkeys j w ho) hh
    obtain⟨Vc2,A2,p1,p2,p3,p4,p5,p6,p7,p8⟩:=Kp g3.new (a:=.ptr id 0 0) g2 hor rfl (fun id' hi ho=>by
     cases hi;rcases g7 _ ho with ho|ho
     ·exact hap _ qxH ho
     ·exact qxq ho)
    have p1':Bm (.pt i i 0::EA ks (i+1)) Vc2 i2 k:=p1;simp only [Bm,p7] at p1';have hR':R A {V' with env:=V.env} st:=by have hs:Sub V {V' with env:=V.env}:=⟨rfl,g4.us,fun O' o' ho=>(lq (g4.H O' o' ho)).2⟩;exact hs.r hR
    obtain⟨Vc3,A3,q1,q2,q3,q4,q5⟩:=E0 hH hnx ks (i+1) ws as {V' with env:=V.env} (sq Vc2 i (.ptr i 0)) A A2 i2 k hp.2.2 hR' (uu p2 (has 0 _ rfl) (.ptr p4)) (fun id' ho hc'=>by
      rcases p6 id' hc' with hc'|hi
      ·exact g3.apart id' ho hc'
      ·cases hi;exact qxq (g4.own ho)) (fun j w' a' h1 h2=>hw (j+1) w' a' (by simpa using h1) (by simpa using h2)) (Nat.succ.inj hl)
     (fun j a' h1=>by have:=has (j+1) a' (by simpa using h1);rwa [show i+(j+1)=i+1+j by omega] at this) g1 p1'
    have qkZ:∀(offs:List (Nat×Nat)) (V1:bt),V1.env=V.env->{AH {V1 with env:=.leaf} ovs offs with env:=V.env}=AH V1 ovs offs:=by
     intro offs
     induction offs with
     |nil=>intro V1 he;simp only [AH];rw [←he]
     |cons p offs ih=>
      obtain⟨off,sz⟩:=p;intro V1 he;simp only [AH];split
      ·rename_i w hw;cases w<;>first|exact ih V1 he|exact ih (f_ V1 _) he
      ·exact ih V1 he
    have qxf:qm (.ob offs::ks) (.ptr O 0::ws) V=qm ks ws {V' with env:=V.env}:=by simp only [qm,hO];rw [g0,qkZ offs (f_ V O) rfl]
    refine⟨Vc3,A3,q1,q2,fun id' ho=>?_,by rw [qxf];exact q4,by rw [qxf];exact(⟨rfl,g4.us,fun O' o' ho=>(lq (g4.H O' o' ho)).2⟩:Sub V {V' with env:=V.env}).trans q5⟩;rcases q3 id' ho with ho|ho
    ·rcases p6 id' ho with ho|hi
     ·rcases g7 id' ho with ho|ho
      ·exact .inl ho
      ·exact .inr ((fk V O).own ho)
     ·cases hi;exact .inr qxH
    ·exact .inr ((fk V O).own (g4.own ho))
 |.sl sz::ks,i,ws,as,V,Vc,A,A0,I,k,hp,hR,hRc,hap,hw,hl,has,hk,hkc=>by
  cases ws with
  |nil=>cases hk
  |cons w ws=>
   cases as with
   |nil=>cases hl
   |cons a as=>
    simp only [EA,List.all_cons,qqB] at hp;have hz:oh sz=true:=hp.1;cases w<;>first|(cases hk;done)|skip
    rename_i O;have hwa:=hw 0 _ a rfl rfl;cases hwa with
    |@sl _ _ hAO=>
    have hk0:uo V sz (.sl O) fun es V'=>O6 ks (i+1) ws V' (I es):=hk
    obtain⟨es,V1,hk,hV1,hs1,qx0,hone,_⟩:=Bq (Vc:=V0) (A0:=fun _=>none) (st:=st) ⟨hR,hR.zero,fun id _ ⟨O,o,a,ho,_⟩=>(by cases ho)⟩ (w:=.sl O) hAO hk0;have qX7:V1=f_ V O:=hV1;subst qX7;obtain⟨inn,hT⟩:=qx0 hz;have qk8:=hkc es;obtain⟨Vc1,A1,qk7,hR1,hA1,hAo,qxB,hown,_,qxS,_⟩:=yh hRc qk8 (by rw [hH];exact hT) hone (fun id (hi:gW V A id/\¬gW (f_ V O) A id)=>hap id hi.1);obtain⟨Vc',A',g1,g2,g3,g4,g5⟩:=E0 hH hnx ks (i+1) ws as (f_ V O) (sq Vc1 i (.sl i)) A A1 (I es) k hp.2 (hR.f_ O) (uu hR1 (has 0 a rfl) (.sl hAo)) (fun id hoo hc=>(hown id hc).elim (fun hc=>hap id ((fk V O).own hoo) hc) (fun hi=>hi.2 hoo))
     (fun j w' a' h1 h2=>hw (j+1) w' a' (by simpa using h1) (by simpa using h2)) (Nat.succ.inj hl) (fun j a' h1=>by have:=has (j+1) a' (by simpa using h1);rwa [show i+(j+1)=i+1+j by omega] at this) hk qk7
    refine⟨Vc',A',g1,g2,fun id hoo=>?_,g4,(fk V O).trans g5⟩;rcases g3 id hoo with hoo|hoo
    ·rcases hown id hoo with hoo|hi
     ·exact .inl hoo
     ·exact .inr hi.1
    ·exact .inr ((fk V O).own hoo)
theorem Nj {sh:Sh} (hsh:vz prog sh) {A:ei} {V:bt} {st:St} (hR:R A V st) {d:Option Nat} {f:Nat} {args:List b_} {k:bt->Prop} (h:Fe sh nt V d f args k):gw (ey prog) nt A V st d (.call f args .share) k:=by
 unfold Fe at h;cases d with
 |none=>cases h
 |some d=>
 simp only at h;split at h
 ·rename_i T hT;obtain⟨ws,hwl,hw,h⟩:=FJ hR args _ h;obtain⟨v,H',nx',A',V',w,h1,h2,h3,h4,h5,h6⟩:=hsh.inl f T hT A V st ws _ _ hR hwl hw h;exact⟨v,H',nx',h1,yd (A1:=A') (V1:=V') h2 h5 h4 (fun _=>h3) h6⟩
 split at h
 ·cases h
 rename_i sg hsg;obtain⟨ws,hwl,hw,h⟩:=FJ hR args _ h;split at h
 ·cases h
 rename_i ims him;split at h
 ·cases h
 rename_i hok;simp only [qqB] at hok;obtain⟨⟨hp1,hp2⟩,hn,hi⟩:=hok;rw [hsh.vs] at h;generalize has:args.map (ev st.env)=as at hwl hw;have hal:=BO (EA sg.ks 0) V0 [] (MS prog f sg.ks.length (od sg.ks.length sg.rk sg.ks 0) (Gt (od sg.ks.length sg.rk sg.ks 0) ims {qm sg.ks ws V with env:=V.env.put none d} k)) hn (fun O hO=>by cases hO);have ni:∀id,¬gW V0 (fun _=>none) id:=fun id ⟨O,o,a,ho,_⟩=>by cases ho
 have qX8:R (fun _=>none) V0 ⟨jj as 0 .leaf,st.H,st.nx⟩:=⟨fun t e he=>(by cases he),fun O o ho=>(by cases ho),fun O O' o o' a a' id ho=>(by cases ho),fun _ _=>rfl,fun O a ha=>(by cases ha),hR.fresh,fun O o a ho=>(by cases ho)⟩;obtain⟨Vc,A1,g1,g2,g3,g4,g5⟩:=E0 (st:=st) (stc:=⟨jj as 0 .leaf,st.H,st.nx⟩) rfl rfl sg.ks 0 ws as V V0 A (fun _=>none) _ _ hp1 hR qX8 (fun id _ hc=>ni id hc) hw hwl (fun j a ha=>by show (jj as 0 .leaf).get (0+j)=_;have hjl:=(qqb.1 ha).1;rw [BE,if_pos (by omega)];simpa using ha) h hal
 have hlen:as.length=sg.ks.length:=by rw [←hwl,C9 _ _ _ him]
 obtain⟨v,H',nx',A2,V2,q1,q2,q3,q4⟩:=g1 A1 as st.H st.nx hlen g2;have ownV:∀id,gW (qm sg.ks ws V) A id->gW V A id:=fun id ho=>g5.own ho
 have hlt:∀id,gW (qm sg.ks ws V) A id->id < st.nx:=fun id ho=>hR.p_ (ownV id ho)
 have qkX:∀id,gW (qm sg.ks ws V) A id->H'.get id=st.H.get id:=fun id ho=>q4.same id (hlt id ho) (g4 id ho)
 have hRr:R A {qm sg.ks ws V with env:=V.env.put none d} ⟨st.env.put (some v) d,H',nx'⟩:=by
  refine⟨fun t e he=>?_,fun O o ho=>?_,(g5.r hR).inj,fun n hu=>hR.used n (by rw [←hu];exact congrArg (fun m=>Map.get m n.base) g5.us.symm),hR.one,q2.fresh,(g5.r hR).nh⟩
  ·have he':(V.env.put none d).get t=some e:=he;rw [Map.bk] at he';split at he'
   ·cases he'
   ·rename_i hne;obtain⟨a,ha,hv⟩:=hR.env t e he';exact⟨a,by show (st.env.put (some v) d).get t=_;rw [Map.bk,if_neg hne];exact ha,hv⟩
  ·obtain⟨a,ha,hor⟩:=(g5.r hR).heap O o ho;exact⟨a,ha,hor.mono (fun _ _ h=>h) (fun id hi=>qkX id ⟨O,o,a,ho,ha,hi⟩)⟩
 have hb:GJ V2 A2 ⟨(jj as 0 .leaf).put (some v) sg.ks.length,H',nx'⟩ {qm sg.ks ws V with env:=V.env.put none d} A ⟨st.env.put (some v) d,H',nx'⟩:=
  ⟨q2,hRr,rfl,rfl,fun id ho hc=>by
   rcases q4.own id ho with ho|hle
   ·exact g4 id hc ho
   ·have:=hlt id hc;omega⟩
 obtain⟨Vr',A3,p1,p2,p3,p4,p5,p6,p7⟩:=Fa (nt:=nt) (st2:=⟨(jj as 0 .leaf).put (some v) sg.ks.length,H',nx'⟩) (st:=⟨st.env.put (some v) d,H',nx'⟩) (v:=v) (d:=d) sg.ks 0 ws as ims V2 _ A2 A him hp2 (by
   have e:({qm sg.ks ws V with env:=V.env.put none d}:bt).us=V.us:=g5.us;rw [e];exact hi) hb hw hwl (fun j a ha=>by
   show ((jj as 0 .leaf).put (some v) sg.ks.length).get (0+j)=_;have hjl:=(qqb.1 ha).1;rw [Map.bk,if_neg (by omega),BE,if_pos (by omega)];simpa using ha) (by show ((jj as 0 .leaf).put (some v) sg.ks.length).get _=_;rw [Map.bk,if_pos rfl]) (by show (st.env.put (some v) d).get d=_;rw [Map.bk,if_pos rfl]) q3
 refine⟨v,H',nx',?_,st.env.put (some v) d,by simp only [DK,cond_eq_ite,if_pos p5],Vr',A3,p2,⟨q4.le,fun id hid hno=>q4.same id hid (fun hc=>?_),fun id ho=>?_⟩,⟨p3,fun n x hx=>(p6 n x hx).imp (fun h=>h) (fun h=>.inl (by have e:({qm sg.ks ws V with env:=V.env.put none d}:bt).us=V.us:=g5.us;rw [←e];exact h)),(show wg V {qm sg.ks ws V with env:=V.env.put none d} from wg.WX g5.us g5.H).trans p7⟩,p1⟩
 ·have hk:kind (.call f args .share)=.call f args .share:=rfl;simp only [qj,hk,gL,has];exact q1
 ·rcases g3 id hc with hc|hc
  ·exact ni id hc
  ·exact hno hc
 ·rcases p4 id ho with ho|ho
  ·exact .inl (ownV id ho)
  ·rcases q4.own id ho with ho|hle
   ·rcases g3 id ho with hc|hc
    ·exact absurd hc (ni id)
    ·exact .inl hc
   ·exact .inr hle
end
end Go.Ax.V
namespace Go.Ax.V
section
variable {sh:Sh} {prog:Map ay} {cf:qn} {nt:Nat} {A:ei} {V:bt} {st:St} {d:Option Nat} {g:G} {k:bt->Prop}
theorem Ku {sh:Sh} {nt:Nat} {V:bt} {d:Option Nat} {p:TV×Bool} {fz:Bool} {len:Nat} {zero:List AV} {parts:List (Nat×Nat×b_)} {k:bt->Prop} (h:EF sh nt V d (some p) fz len zero parts k):False:=by unfold EF at h;split at h<;>cases h
theorem NI (hsh:vz prog sh) (hR:R A V st) (ha:act g) {op:mj} (h:BV sh prog nt V d g op k):gw (ey prog) nt A V st d op k:=by
 cases op with
 |mv x=>exact o_mv hR ha h
 |pick c a b=>exact UZ hR ha h
 |alloc zero=>exact S1 hR h
 |box x=>exact ZA hR ha h
 |build zero parts=>
  cases g with
  |none=>exact S0 hR h
  |some p=>exact QB hR ha h
 |tj es len zero parts=>
  cases g with
  |none=>exact QC hR h
  |some p=>cases h
 |bx len zero parts=>
  cases g with
  |none=>obtain⟨v,H',nx',h1,h2⟩:=QA (cf:=ey prog) (gd:=none) (fz:=false) hR h;exact⟨v,H',nx',h1,h2⟩
  |some p=>exact(Ku h).elim
 |load sz a=>exact U1 hR ha h
 |store sz a x=>
  cases g with
  |none=>
   cases d with
   |none=>exact SU hR h
   |some d=>cases h
  |some p=>cases h
 |xj x=>exact SX hR ha h
 |bin op x y=>exact ZB hR ha h
 |eq t neg x y=>
  cases t with
  |slice=>
   cases g with
   |none=>
    simp only [BV] at h;split at h
    ·rename_i hy;exact Zx hR hy h
    ·cases h
   |some q=>cases h
  |one l=>exact Zy hR ha h
  |agg l=>exact Zy hR ha h
 |un op x=>exact o_un hR ha h
 |conv c x=>exact U3 hR ha h
 |Al es bytes zero n=>
  cases g with
  |none=>exact U0 hR h
  |some p=>exact(jJ h).2.elim
 |tn x lo hi=>exact SV hR ha h
 |zm es x lo hi mx=>exact UY hR ha h
 |nw n es x lo hi mx=>
  obtain⟨hz,h⟩:=jJ h;cases g with
  |some q=>cases h
  |none=>
   cases lo with
   |some _=>cases h
   |none=>
    cases mx with
    |some _=>cases h
    |none=>exact SW hR hz h
 |vl off x=>exact SZ hR ha h
 |Nz off sz x=>exact Zv hR ha h
 |jv es x i=>exact SY hR ha h
 |oD len es x i=>exact U2 hR ha h
 |idx x i=>exact Zu hR ha h
 |ext i x=>exact Zw hR ha h
 |app es bytes s x=>exact ZC hR ha h
 |Lw es dd s=>
  obtain⟨hz,h⟩:=jJ h;cases g with
  |some q=>cases h
  |none=>exact Zz hR hz h
 |Ty es zero x=>cases h
 |len str x=>exact Zt hR ha h
 |GL mx xs=>exact Zs hR ha h
 |B9=>cases h
 |B8 t zero ok m k=>cases h
 |IP t m k v=>cases h
 |GW m=>cases h
 |call f args m=>
  cases m with
  |share=>
   cases g with
   |none=>exact Nj hsh hR h
   |some p=>cases h
  |borrow=>obtain⟨v,h1,h2⟩:=IM hR ha h;exact⟨v,st.H,st.nx,h1,h2⟩
 |lA f args m=>
  cases m with
  |share=>cases h
  |borrow=>
   obtain⟨fv,hf,h⟩:=gm hR ha h;cases g with
   |none=>obtain⟨n,rfl,h⟩:=h;obtain⟨v,h1,h2⟩:=IM (g:=none) hR trivial h;generalize he:ev st.env f=p at hf;cases hf;refine⟨v,st.H,st.nx,?_,h2⟩;have hk:kind (.lA f args .borrow)=.lA f args .borrow:=rfl;simp only [qj,hk,he];exact h1
   |some q=>obtain⟨c,bb⟩:=q;obtain⟨n,hn,h⟩:=h;obtain rfl:=hn ha;obtain⟨v,h1,h2⟩:=IM hR ha h;generalize he:ev st.env f=p at hf;cases hf;refine⟨v,st.H,st.nx,?_,h2⟩;have hk:kind (.lA f args .borrow)=.lA f args .borrow:=rfl;simp only [qj,hk,he];exact h1
def W2 (nt:Nat) (V:bt) (d:Option Nat) (c:TV) (bb:Bool) (k:bt->Prop):Prop:=∃g w,((g=none/\w=VV.tr qi)\/g=some (c,bb))/\jb nt V d g w k
theorem Mt {c:TV} {bb:Bool} (hc:c≠.b bb) {P:TV->Prop} {v:TV} (h:gV c bb P v):v=qi:=by
 unfold gV at h;split at h
 ·rename_i x;split at h
  ·rename_i hh;exact absurd (by cases x<;>cases bb<;>first|rfl|cases hh) hc
  ·exact h
 ·exact h
section
variable {c:TV} {bb:Bool}
theorem FD (hc:c≠.b bb) {P k:TV->Prop} (h:P8 (some (c,bb)) P k):k qi:=by obtain⟨v,h1,h2⟩:=h;rw [Mt hc h1] at h2;exact h2
theorem ep (hc:c≠.b bb) {P:Option TV} (h:lD nt V d (some (c,bb)) P k):W2 nt V d c bb k:=⟨none,.tr qi,.inl ⟨rfl,rfl⟩,FD hc h⟩
theorem oA {w:VV} (h:jb nt V d (some (c,bb)) w k):W2 nt V d c bb k:=⟨_,w,.inr rfl,h⟩
theorem EZ {g:G} {P:Option Nat} {k:Nat->Prop} (h:JW g P k):∃n,k n:=by
 cases g with
 |none=>obtain⟨n,_,h⟩:=h;exact⟨n,h⟩
 |some p=>obtain⟨n,_,h⟩:=h;exact⟨n,h⟩
theorem pq {x:b_} {k:VV->Prop} (h:jx V g x k):∃w,k w:=by
 cases x with
 |c v=>exact⟨_,h⟩
 |t n=>
  simp only [jx] at h;split at h
  ·cases h
  split at h
  ·exact⟨_,h⟩
  ·split at h
   ·cases h
   ·exact⟨_,h.2⟩
theorem jz {x:b_} {k:TV->Prop} (h:ue V g x k):∃v,k v:=by
 obtain⟨w,h⟩:=pq h;unfold JA at h;split at h
 ·exact⟨_,h⟩
 ·exact⟨_,h⟩
 ·obtain⟨u,_,h⟩:=h;exact⟨u,h⟩
 ·cases h
theorem CZ {x:Option b_} {k:Option TV->Prop} (h:DO V g x k):∃v,k v:=by
 cases x with
 |none=>exact⟨none,h⟩
 |some x=>obtain⟨v,h⟩:=jz h;exact⟨some v,h⟩
theorem Na:∀{xs:List (Nat×Nat×b_)} {k:List (Nat×Nat×TV)->Prop},Qi V g xs k->∃vs,k vs
 |[],k,h=>⟨[],h⟩
 |(off,n,x)::xs,k,h=>by obtain⟨v,h⟩:=jz h;obtain⟨vs,h⟩:=Na h;exact⟨_,h⟩
theorem M9:∀{xs:List b_} {k:List TV->Prop},Qh V g xs k->∃vs,k vs
 |[],k,h=>⟨[],h⟩
 |x::xs,k,h=>by obtain⟨v,h⟩:=jz h;obtain⟨vs,h⟩:=M9 h;exact⟨v::vs,h⟩
theorem CG:∀{l:List (Nat×VV)} {v:TV} {k:TV->Prop},GN V l v k->∃u,k u
 |[],v,k,h=>⟨v,h⟩
 |(off,w)::l,v,k,h=>by obtain⟨u,h⟩:=CG (l:=l) h;obtain⟨es,u',_,h⟩:=CK h;exact⟨u',h⟩
theorem Up {w:VV} {k:TV->Prop} (h:WW V w k):∃t,k t:=by
 unfold WW at h;split at h
 ·exact⟨_,h⟩
 ·exact⟨_,h⟩
 ·obtain⟨es,h⟩:=CK h;exact⟨_,h⟩
 ·exact CG h
 ·obtain⟨es,h⟩:=CK h;exact⟨_,h⟩
 ·split at h
  ·split at h
   ·obtain⟨es,_,h⟩:=h;exact⟨_,h⟩
   ·cases h
  ·cases h
 ·cases h
theorem y7:∀{xs:List b_} {k:Bool->List TV->Prop},Bk V g xs k->∃p ts,k p ts
 |[],k,h=>⟨_,_,h⟩
 |x::xs,k,h=>by
  obtain⟨w,h⟩:=pq h;split at h
  ·obtain⟨p,ts,h⟩:=y7 h;exact⟨_,_,h⟩
  ·obtain⟨p,ts,h⟩:=y7 h;exact⟨_,_,h⟩
  ·obtain⟨t,h⟩:=CG h;obtain⟨p,ts,h⟩:=y7 h;exact⟨_,_,h⟩
  ·obtain⟨t,h⟩:=Up h;obtain⟨p,ts,h⟩:=y7 h;exact⟨_,_,h⟩
theorem Mz (hc:c≠.b bb) {sz:Option Nat} {w:VV} (h:vm nt V d (some (c,bb)) sz w k):W2 nt V d c bb k:=by
 unfold vm at h;split at h
 ·split at h
  ·split at h
   ·split at h
    ·exact oA h
    ·exact ep hc h
   ·split at h
    ·exact ep hc h
    ·cases h
  ·cases h
 ·split at h
  ·split at h
   ·exact ep hc h
   ·cases h
  ·cases h
 ·exact ep hc h
 ·split at h
  ·exact ep hc h
  ·split at h
   ·split at h
    ·split at h
     ·split at h
      ·obtain⟨_,_,h⟩:=h;exact oA h
      ·cases h
     ·exact ep hc h
    ·split at h
     ·exact ep hc h
     ·cases h
   ·cases h
  ·cases h
 ·obtain⟨_,_,_,_,_,h⟩:=ja h;exact ep hc h
 ·cases h
theorem OL (hc:c≠.b bb) {off:Nat} {sz:Option Nat} {w:VV} (h:KK nt V d (some (c,bb)) off sz w k):W2 nt V d c bb k:=by
 unfold KK at h;split at h
 ·exact ep hc h
 ·split at h
  ·split at h
   ·exact oA h
   ·exact ep hc h
  ·split at h
   ·exact ep hc h
   ·cases h
 ·cases h
theorem Mx (hc:c≠.b bb) {sz:Nat} {w:VV} {lo hi mx:Option b_} (h:My nt V d (some (c,bb)) sz w lo hi mx k):W2 nt V d c bb k:=by
 replace h:=(jJ h).2;split at h
 ·split at h
  ·split at h
   ·split at h
    ·obtain⟨l,m,_,h⟩:=CZ (eg h).2;cases h
    ·cases h
   ·cases h
  ·cases h
 ·split at h
  ·obtain⟨l,h⟩:=CZ h;obtain⟨hh,h⟩:=CZ h;exact⟨none,.tr qi,.inl ⟨rfl,rfl⟩,FD hc h⟩
  ·split at h
   ·rename_i qxr;simp at qxr
   ·cases h
 ·split at h
  ·exact oA h
  ·cases h
 ·cases h
theorem Td (hc:c≠.b bb) {op:mj} (h:BV sh prog nt V d (some (c,bb)) op k):W2 nt V d c bb k:=by
 cases op with
 |mv x=>
  simp only [BV] at h;obtain⟨w,h⟩:=pq h;unfold Vw at h;split at h
  ·exact ep hc h
  ·cases h
  ·exact oA h
 |pick a b e=>simp only [BV] at h;obtain⟨_,h⟩:=jz h;obtain⟨_,h⟩:=jz h;obtain⟨_,h⟩:=jz h;exact ep hc h
 |alloc zero=>simp only [BV] at h;split at h<;>cases h
 |box x=>
  simp only [BV] at h;obtain⟨w,h⟩:=pq h;split at h
  ·exact(Gy h.2 (fun _ _ h=>h)).elim
  ·cases h
 |build zero parts=>
  simp only [BV] at h;split at h
  ·obtain⟨_,h⟩:=Na h;exact ep hc h
  ·cases h
 |tj es len zero parts=>cases h
 |bx len zero parts=>exact(Ku h).elim
 |load sz a=>simp only [BV] at h;obtain⟨w,h⟩:=pq h;exact Mz hc h
 |store sz a x=>cases h
 |xj x=>simp only [BV] at h;obtain⟨w,h⟩:=pq h;unfold I0 at h;split at h<;>first|exact oA h|cases h
 |bin op x y=>simp only [BV] at h;obtain⟨_,h⟩:=jz h;obtain⟨_,h⟩:=jz h;exact ep hc h
 |eq t neg x y=>
  cases t with
  |slice=>cases h
  |one l=>simp only [BV] at h;obtain⟨_,h⟩:=jz h;obtain⟨_,h⟩:=jz h;exact ep hc h
  |agg l=>simp only [BV] at h;obtain⟨_,h⟩:=jz h;obtain⟨_,h⟩:=jz h;exact ep hc h
 |un op x=>simp only [BV] at h;obtain⟨_,h⟩:=jz h;exact ep hc h
 |conv e x=>simp only [BV] at h;obtain⟨_,h⟩:=jz h;exact ep hc h
 |Al es bytes zero n=>exact(jJ h).2.elim
 |tn x lo hi=>simp only [BV] at h;obtain⟨_,h⟩:=jz h;obtain⟨_,h⟩:=CZ h;obtain⟨_,h⟩:=CZ h;exact ep hc h
 |zm es x lo hi mx=>simp only [BV] at h;obtain⟨w,h⟩:=pq h;exact Mx hc h
 |nw n es x lo hi mx=>exact(jJ h).2.elim
 |vl off x=>simp only [BV] at h;obtain⟨w,h⟩:=pq h;unfold I2 at h;split at h<;>first|exact oA h|cases h
 |Nz off sz x=>simp only [BV] at h;obtain⟨w,h⟩:=pq h;exact OL hc h
 |jv es x i=>
  simp only [BV] at h;obtain⟨w,h⟩:=pq h;obtain⟨iv,h⟩:=jz h;replace h:=(jJ h).2;split at h
  ·exact oA (FD hc h)
  ·split at h
   ·obtain⟨n,h⟩:=EZ (eg h).2;exact oA h
   ·obtain⟨n,h⟩:=EZ (eg h).2;exact oA h
   ·cases h
  ·obtain⟨_,_,_,_,_,h⟩:=ja h;obtain⟨n,h⟩:=EZ (eg h).2;exact oA h
  ·cases h
 |oD len es x i=>simp only [BV] at h;obtain⟨w,h⟩:=pq h;obtain⟨iv,h⟩:=jz h;unfold MA at h;split at h<;>first|(obtain⟨n,h⟩:=EZ h;exact oA h)|cases h
 |idx x i=>simp only [BV] at h;obtain⟨_,h⟩:=jz h;obtain⟨_,h⟩:=jz h;exact ep hc h
 |ext i x=>simp only [BV] at h;obtain⟨_,h⟩:=jz h;exact ep hc h
 |app es bytes s x=>
  simp only [BV] at h;obtain⟨w,h⟩:=pq h;obtain⟨y,h⟩:=pq h;exfalso;unfold HY at h;split at h
  ·replace h:=(eg h).2;unfold I4 at h;split at h
   ·cases h
   split at h
   ·split at h
    ·obtain⟨l,_,h⟩:=h;exact h
    ·cases h
   ·split at h
    ·split at h
     ·obtain⟨l,_,h⟩:=h;exact h
     ·cases h
    ·cases h
   ·cases h
  replace h:=(jJ h).2;unfold LJ at h;have key:∀xs,(match w with
   |.gD=>∃l,ga bytes [] xs=some l/\s_ nt V d (some (c,bb)) .sl (.gr es l) k
   |.sl O=>(match V.H.get O with
    |some (.gr z es')=>same z es (∃l,ga bytes es' xs=some l/\s_ nt (f_ V O) d (some (c,bb)) .sl (.gr es l) k)
    |_=>False)
   |.ow O v i=>Ta V O v fun s io iz es'=>same iz es (∃l0,AX es' i io=some l0/\∃l,ga bytes l0 xs=some l/\s_ nt (ew V O (.gn O s io iz v (some i) es')) d (some (c,bb)) .sl (.gr es l) k)
   |_=>False)->False:=fun xs h=>by
   split at h
   ·obtain⟨l,_,h⟩:=h;exact h
   ·split at h
    ·obtain⟨l,_,h⟩:=(eg h).2;exact h
    ·cases h
   ·obtain⟨_,_,_,_,_,h⟩:=ja h;obtain⟨l0,_,l,_,h⟩:=(eg h).2;exact h
   ·cases h
  split at h
  ·obtain⟨xs,_,_,h⟩:=h;exact key _ h
  ·exact key _ h
  ·split at h
   ·exact key _ (eg h).2
   ·cases h
  ·cases h
 |Lw es dd s=>exact(jJ h).2.elim
 |Ty es zero x=>cases h
 |len str x=>
  simp only [BV] at h;obtain⟨w,h⟩:=pq h;unfold NK at h;split at h
  ·split at h
   ·exact ep hc h
   ·cases h
  ·split at h
   ·exact ep hc h
   ·exact ep hc h
   ·split at h
    ·exact ep hc h
    ·exact ep hc h
    ·cases h
   ·obtain⟨_,_,_,_,_,h⟩:=ja h;exact ep hc h
   ·cases h
 |GL mx xs=>simp only [BV] at h;obtain⟨vs,h⟩:=M9 h;exact ep hc h
 |B9=>cases h
 |B8 t zero ok m k=>cases h
 |IP t m k v=>cases h
 |GW m=>cases h
 |call f args m=>
  cases m with
  |share=>cases h
  |borrow=>simp only [BV] at h;obtain⟨p,ts,r,h1,h2⟩:=y7 h;rw [Mt hc h1] at h2;exact⟨none,.tr qi,.inl ⟨rfl,rfl⟩,h2⟩
 |lA f args m=>
  cases m with
  |share=>cases h
  |borrow=>simp only [BV] at h;obtain⟨_,h⟩:=jz h;obtain⟨n,_,h⟩:=h;obtain⟨p,ts,r,h1,h2⟩:=y7 h;rw [Mt hc h1] at h2;exact⟨none,.tr qi,.inl ⟨rfl,rfl⟩,h2⟩
end
theorem OT:Can qi kr:=.tp [] [] rfl (fun x hx=>by cases hx) (fun j t x ht=>by simp at ht)
def Sa (prog:Map ay) (nt:Nat) (A:ei) (V:bt) (st:St) (r:Option St) (k:bt->Prop):Prop:=
 ∃st',r=some st'/\∃V' A',R A' V' st'/\Fr V A st.H st.nx V' A' st'.H st'.nx/\Ext V A V' A'/\k V'
theorem NJ (hsh:vz prog sh) (hR:R A V st) {o:br} (h:Tf sh prog nt V o k):Sa prog nt A V st (ql (ey prog) nt o st) k:=by
 obtain⟨dd,op,gd,fz⟩:=o;have fin:wanted st.env gd=true->(∃v H' nx',Ao (ey prog) ⟨dd,op,gd,fz⟩ (ev st.env) st.H st.nx=some (v,H',nx')/\Next nt A V st dd v H' nx' k)->Sa prog nt A V st (ql (ey prog) nt ⟨dd,op,gd,fz⟩ st) k:=by rintro hw ⟨v,H',nx',h1,e',h2,V',A',h3,h4,h5⟩;exact⟨⟨e',H',nx'⟩,by simp only [ql,hw,cond_true,h1,h2],V',A',h3,h4,h5⟩
 unfold Tf at h;simp only at h;cases gd with
 |none=>
  cases fz with
  |true=>
   simp only at h;split at h
   ·exact fin rfl (QA hR h)
   ·cases h
  |false=>obtain⟨v,H',nx',h1,h2⟩:=NI (g:=none) hsh hR trivial h;exact fin rfl ⟨v,H',nx',h1,h2⟩
 |some p=>
  obtain⟨n,bb⟩:=p;cases fz with
  |true=>cases h
  |false=>
   obtain⟨c,a,ha,hca,h⟩:=M_ hR h;by_cases hc:c=.b bb
   ·subst hc;cases hca;obtain⟨v,H',nx',h1,h2⟩:=NI (g:=some (.b bb,bb)) hsh hR rfl h;exact fin (by simp only [wanted,ha];cases bb<;>rfl) ⟨v,H',nx',h1,h2⟩
   ·obtain⟨g,w,hg,hp⟩:=Td hc h;have hw:wanted st.env (some (n,bb))=false:=by
     simp only [wanted,ha];split
     ·rename_i b' hb;cases hb;cases hca
      ·cases b'<;>cases bb<;>first|rfl|exact absurd rfl hc
      ·rename_i hf _;cases hf
     ·rfl
    have hn:Next nt A V st dd kr st.H st.nx k:=bw hR (fun hact=>by
     rcases hg with ⟨rfl,rfl⟩|rfl
     ·exact .tr OT
     ·exact absurd hact hc) hp
    obtain⟨e',h2,V',A',h3,h4,h5⟩:=hn;exact⟨⟨e',st.H,st.nx⟩,by simp only [ql,hw,cond_false,h2],V',A',h3,h4,h5⟩
theorem Ge (hsh:vz prog sh):∀{l:List br} {A:ei} {V:bt} {st:St} {k:bt->Prop},R A V st->Vv sh prog nt l V k->Sa prog nt A V st (pg (ey prog) nt l st) k
 |[],A,V,st,k,hR,h=>⟨st,rfl,V,A,hR,Fr.refl _ _ _ _,Ext.refl _ _,h⟩
 |o::l,A,V,st,k,hR,h=>by obtain⟨st1,h1,V1,A1,h2,h3,hx,h4⟩:=NJ hsh hR h;obtain⟨st2,g1,V2,A2,g2,g3,gx,g4⟩:=Ge hsh h2 h4;exact⟨st2,by rw [oO,h1];exact g1,V2,A2,g2,h3.trans g3,hx.trans gx,g4⟩
end
end Go.Ax.V
namespace Go.Ax.V
section
variable {sh:Sh} {prog:Map ay} {cf:qn} {nt:Nat} {A:ei} {V:bt} {st:St} {d:Option Nat} {g:G} {k:bt->Prop}
theorem US {x:b_} {k:VV->Prop} (h:jx V g x k):k (gZ V x):=by
 cases x with
 |c v=>exact h
 |t n=>
  simp only [jx] at h;split at h
  ·cases h
  rename_i e he;have e1:gZ V (.t n)=e.v:=by simp only [gZ,he]
  rw [e1];split at h
  ·exact h
  ·split at h
   ·cases h
   ·exact h.2
theorem pz (hR:R A V st) (ha:act g) {x:b_} {k:VV->Prop} (h:jx V g x k):VR A (gZ V x) (ev st.env x)/\k (gZ V x):=by
 refine⟨?_,US h⟩;cases x with
 |c v=>exact K3 A v
 |t n=>
  simp only [jx] at h;split at h
  ·cases h
  rename_i e he;obtain⟨a,h1,h2⟩:=hR.env n e he;have e1:gZ V (.t n)=e.v:=by simp only [gZ,he]
  rw [IY h1,e1];refine h2 (fun c bb hc=>?_);rw [hc] at h;simp only at h;split at h
  ·cases h
  ·obtain⟨e,_⟩:=h;cases e;exact ha
structure Eh (A:ei) (V:bt) (f:Lp) (r:Rec):Prop where
 rd:∀x∈r.jt,∃id,(match x with|.CA q=>q.id=id|.obj i=>i=id|.all=>False)/\∃T∈f.rd,∃o a,V.H.get T=some o/\A T=some a/\j_ A o a id
 wr:∃l,r.gQ=.ids l/\∀id∈l,∃T∈f.wr,∃o a,V.H.get T=some o/\A T=some a/\j_ A o a id
def Eg (A:ei) (V:bt) (f:Lp) (jt:List Rd) (gQ:List Nat):Prop:=
 (∀x∈jt,∃id,(match x with|.CA q=>q.id=id|.obj i=>i=id|.all=>False)/\∃T∈f.rd,∃o a,V.H.get T=some o/\A T=some a/\j_ A o a id)/\
 ∀id∈gQ,∃T∈f.wr,∃o a,V.H.get T=some o/\A T=some a/\j_ A o a id
theorem F2 {f:Lp}:Eg A V f [] []:=⟨fun x hx=>(by cases hx),fun id h=>(by cases h)⟩
theorem Kt {f:Lp} {p:c9} (h:p.jt=[]/\p.gQ=[]):Eg A V f p.jt p.gQ:=by rw [h.1,h.2];exact F2
def Fw (p:Option c9):Prop:=∀q,p=some q->q.jt=[]/\q.gQ=[]
theorem mw (v:Option AV):Fw (lR v):=by
 intro q h;cases v with
 |none=>cases h
 |some v=>cases h;exact⟨rfl,rfl⟩
theorem gy (v:AV):Fw (some (.val v)):=fun q h=>by cases h;exact⟨rfl,rfl⟩
theorem zk (f:Nat->AV) (o:oz):Fw (some (.new f o)):=fun q h=>by cases h;exact⟨rfl,rfl⟩
theorem cq:Fw none:=fun q h=>by cases h
theorem OB (hR:R A V st) (ha:act g) {sz:Option Nat} {a:b_} (h:jx V g a fun w=>vm nt V d g sz w k) {p:c9} (hp:xb (ev st.env) sz a=some p):Eg A V ⟨p9 (gZ V a),[],[]⟩ p.jt p.gQ:=by
 obtain⟨hw,hk⟩:=pz hR ha h;generalize he:ev st.env a=x at hw;generalize gZ V a=w at hw hk;have hit:∀{O:Nat} {o:VO} {pa:AV} {id gg off:Nat},x=.ptr id gg off->V.H.get O=some o->A O=some pa->gR pa=some id->Eg A V ⟨[O],[],[]⟩ p.jt p.gQ:=by intro O o pa id gg off hx hO hA hi;subst hx;simp only [xb,he] at hp;cases hp;refine⟨fun y hy=>?_,fun id' h=>by cases h⟩;simp [c9.jt] at hy;subst hy;exact⟨id,rfl,O,by simp,o,pa,hO,hA,.inl hi⟩
 cases hw with
 |@ptr O off id hO=>
  simp only [vm] at hk;split at hk
  ·rename_i v ovs ho;exact hit rfl ho hO rfl
  ·cases hk
 |@pd O off id hO=>
  simp only [vm] at hk;split at hk
  ·rename_i v ovs ho;exact hit rfl ho hO rfl
  ·cases hk
 |@ea O i off id gg b z len cap ex hO=>
  simp only [vm] at hk;split at hk
  ·rename_i z es ho;exact hit rfl ho hO rfl
  ·rename_i ho;exact hit rfl ho hO rfl
  ·cases hk
 |@e2 O v i j off id gg b z len cap ex hA=>obtain⟨s,io,iz,es,ho,_⟩:=ja hk;obtain⟨a0,ha0,_⟩:=hR.heap O _ ho;simp only [xb,he] at hp;cases hp;refine⟨fun y hy=>?_,fun id' h=>by cases h⟩;simp [c9.jt] at hy;subst hy;exact⟨id,rfl,O,by simp [p9],_,a0,ho,ha0,.inr ⟨i,_,by simp,hA,rfl⟩⟩
 |@pt v cs b off n hl hf hcc=>
  simp only [xb,he] at hp;split at hp
  ·exact Kt (mw _ p hp)
  ·cases hp
 |_=>cases hk
theorem LG (hR:R A V st) {sz:Nat} {a x:b_} (h:jx V none a fun w=>jx V none x fun x=>ua V sz w x k) {p:c9} (hp:xm (ev st.env) sz a x=some p):Eg A V ⟨p9 (gZ V a),p9 (gZ V a),[]⟩ p.jt p.gQ:=by
 obtain⟨hw,hk⟩:=pz (g:=none) hR trivial h;obtain⟨y,hy,hk⟩:=fu (g:=none) hR trivial hk;generalize he:ev st.env a=q at hw;generalize gZ V a=w at hw hk;have hit:∀{O:Nat} {o:VO} {pa:AV} {id gg off:Nat},q=.ptr id gg off->V.H.get O=some o->A O=some pa->gR pa=some id->Eg A V ⟨[O],[O],[]⟩ p.jt p.gQ:=by
  intro O o pa id gg off hx hO hA hi;subst hx;simp only [xm,he] at hp;split at hp
  ·rw [cond_eq_ite] at hp;split at hp
   ·cases hp;refine⟨fun y hy=>?_,fun id' h=>?_⟩
    ·simp [c9.jt] at hy;subst hy;exact⟨id,rfl,O,by simp,o,pa,hO,hA,.inl hi⟩
    ·simp [c9.gQ] at h;subst h;exact⟨O,by simp,o,pa,hO,hA,.inl hi⟩
   ·cases hp
  ·cases hp
 cases hw with
 |@ptr O off id hO=>
  simp only [ua] at hk;split at hk
  ·rename_i v ovs ho;exact hit rfl ho hO rfl
  ·cases hk
 |@pd O off id hO=>
  simp only [ua] at hk;split at hk
  ·rename_i v ovs ho;exact hit rfl ho hO rfl
  ·cases hk
 |@ea O i off id gg b z len cap ex hO=>
  simp only [ua] at hk;split at hk
  ·rename_i z es ho;exact hit rfl ho hO rfl
  ·rename_i ho;exact hit rfl ho hO rfl
  ·cases hk
 |@e2 O v i j off id gg b z len cap ex hA=>
  obtain⟨s,io,iz,es,ho,_⟩:=ja hk;obtain⟨a0,ha0,_⟩:=hR.heap O _ ho;have hin:j_ A (.gn O s io iz v none es) a0 id:=.inr ⟨i,_,by simp,hA,rfl⟩;simp only [xm,he] at hp;split at hp
  ·rw [cond_eq_ite] at hp;split at hp
   ·cases hp;refine⟨fun y hy=>?_,fun id' h=>?_⟩
    ·simp [c9.jt] at hy;subst hy;exact⟨id,rfl,O,by simp [p9],_,a0,ho,ha0,hin⟩
    ·simp [c9.gQ] at h;subst h;exact⟨O,by simp [p9],_,a0,ho,ha0,hin⟩
   ·cases hp
  ·cases hp
 |_=>cases hk
theorem LK (hR:R A V st) {len es:Nat} {x:b_} {hi:Option b_} (h:jx V none x fun w=>z_ nt V d len es w hi k) {p:c9} (hp:xp (ev st.env) len es x none hi none=some p):Eg A V ⟨p9 (gZ V x),[],[]⟩ p.jt p.gQ:=by
 obtain⟨hw,hk⟩:=pz (g:=none) hR trivial h;generalize he:ev st.env x=q at hw;generalize gZ V x=w at hw hk;have hit:∀{O:Nat} {o:VO} {pa:AV} {id gg off:Nat},q=.ptr id gg off->V.H.get O=some o->A O=some pa->gR pa=some id->Eg A V ⟨[O],[],[]⟩ p.jt p.gQ:=by
  intro O o pa id gg off hx hO hA hi';subst hx;simp only [xp,he] at hp;split at hp
  ·cases hp
  cases hp;refine⟨fun y hy=>?_,fun id' h=>by cases h⟩;simp [c9.jt] at hy;subst hy;exact⟨id,rfl,O,by simp,o,pa,hO,hA,.inl hi'⟩
 cases hw with
 |@ptr O off id hO=>
  simp only [z_] at hk;split at hk
  ·rename_i v ovs ho;exact hit rfl ho hO rfl
  ·cases hk
 |@pd O off id hO=>
  simp only [z_] at hk;split at hk
  ·rename_i v ovs ho;exact hit rfl ho hO rfl
  ·cases hk
 |_=>cases hk
theorem RG (hR:R A V st) {es:Nat} {s x:b_} (hz:0 < es) (h:jx V none s fun w=>jx V none x fun x=>KL nt V d es w x k) {p:c9} (hp:KX es (ev st.env s) (ev st.env x)=some p):Eg A V ⟨Iw (gZ V s)++gP (gZ V x),Iw (gZ V s),[]⟩ p.jt p.gQ:=by
 obtain⟨hw,hk⟩:=pz (g:=none) hR trivial h;obtain⟨hy,hk⟩:=pz (g:=none) hR trivial hk;generalize he:ev st.env s=q at hw hp;generalize gZ V s=w at hw hk;generalize hye:ev st.env x=r at hy hp;generalize gZ V x=y at hy hk;cases hw with
 |@sa O off n z id cap hz' hO=>
  simp only [KL] at hk;obtain⟨rfl,hk⟩:=eg hk;split at hk;rotate_left
  ·cases hk
  rename_i v ovs ho;split at hk;rotate_left
  ·cases hk
  have own:∃T∈[O]++gP y,∃o a,V.H.get T=some o/\A T=some a/\j_ A o a id:=⟨O,by simp,_,_,ho,hO,.inl rfl⟩;have qXh:∃T∈[O],∃o a,V.H.get T=some o/\A T=some a/\j_ A o a id:=⟨O,by simp,_,_,ho,hO,.inl rfl⟩;have src:∀{m:Nat} {sr:Src},js z r=some (m,sr)->∀g,sr.q=some g->∃T∈[O]++gP y,∃o a,V.H.get T=some o/\A T=some a/\j_ A o a g.id:=by
   intro m sr h1 g h2;cases hy with
   |@sl P _ hP=>
    simp only [LJ] at hk;split at hk
    ·rename_i z' es ho';obtain⟨rfl,_⟩:=eg hk;obtain⟨b,hb,hs⟩:=hR.heap P _ ho';rw [hP] at hb;cases hb;rcases hs.2 with ⟨_,rfl|rfl⟩|⟨id2,g2,b2,cells,rfl,_⟩
     ·cases h1;cases h2
     ·simp only [js,cond_eq_ite] at h1;split at h1
      ·cases h1;cases h2
      ·cases h1
     ·simp only [js,cond_eq_ite] at h1;split at h1
      ·cases h1;cases h2;exact⟨P,by simp [gP],_,_,ho',hP,.inl rfl⟩
      ·cases h1
    ·cases hk
   |@tr v _ hcan=>
    obtain⟨xs,e1,_⟩:=hk;cases v<;>first|(cases e1;done)|skip
    cases hcan with
    |nil=>cases h1;cases h2
    |ju _ cs n z c hn hcl hsz hf hh=>
     simp only [js,cond_eq_ite] at h1;split at h1
     ·cases h1;cases h2
     ·cases h1
   |gD=>cases h1;cases h2
   |yg=>
    simp only [js,cond_eq_ite] at h1;split at h1
    ·cases h1;cases h2
    ·cases h1
   |_=>cases hk
  unfold KX at hp;split at hp
  ·cases hp
  rename_i m sr hsr;simp only [Nat.beq_refl,cond_true] at hp;cases hp;refine⟨fun x hx=>?_,fun id' h=>?_⟩
  ·simp only [c9.jt,qqx,qqy] at hx;rcases hx with hx|rfl
   ·split at hx
    ·rename_i g hg;simp at hx;subst hx;exact⟨g.id,rfl,src hsr g hg⟩
    ·cases hx
   ·exact⟨id,rfl,own⟩
  ·simp [c9.gQ] at h;subst h;exact qXh
 |_=>cases hk
theorem RX (hR:R A V st) (ha:act g) {es bytes:Nat} {s x:b_} (h:jx V g s fun w=>jx V g x fun x=>HY sh nt V d g es bytes w x k) {p:c9} (hp:BY es bytes (ev st.env s) (ev st.env x)=some p) :
  Eg A V ⟨gP (gZ V s)++gP (gZ V x),gP (gZ V s),gP (gZ V s)⟩ p.jt p.gQ:=by
 obtain⟨hw,h⟩:=pz hR ha h;obtain⟨hy,hk⟩:=pz hR ha h;generalize gZ V s=w at hw hk;generalize gZ V x=y at hy hk;replace hk:((∃s io xs,y=.gl s io xs)\/((∀O,y=.sl O->∃z es,V.H.get O=some (.gr z es))/\((∃v,y=.tr v)\/y=.gD\/∃O,y=.sl O)))/\
   (w=.gD\/(∃O o,w=.sl O/\V.H.get O=some o)\/∃O v i s io iz es,w=.ow O v i/\V.H.get O=some (.gn O s io iz v none es)):=by
  unfold HY at hk;split at hk
  ·rename_i s' io xs;refine⟨.inl ⟨_,_,_,rfl⟩,?_⟩;replace hk:=(eg hk).2;unfold I4 at hk;split at hk
   ·cases hk
   split at hk
   ·exact .inl rfl
   ·split at hk
    ·rename_i ho;exact .inr (.inl ⟨_,_,rfl,ho⟩)
    ·cases hk
   ·cases hk
  ·replace hk:=(jJ hk).2;unfold LJ at hk;split at hk
   ·obtain⟨xs,_,_,h⟩:=hk;refine⟨.inr ⟨fun O e=>(by cases e),.inl ⟨_,rfl⟩⟩,?_⟩;split at h
    ·exact .inl rfl
    ·split at h
     ·rename_i ho;exact .inr (.inl ⟨_,_,rfl,ho⟩)
     ·cases h
    ·obtain⟨_,_,_,_,ho,_⟩:=ja h;exact .inr (.inr ⟨_,_,_,_,_,_,_,rfl,ho⟩)
    ·cases h
   ·refine⟨.inr ⟨fun O e=>(by cases e),.inr (.inl rfl)⟩,?_⟩;split at hk
    ·exact .inl rfl
    ·split at hk
     ·rename_i ho;exact .inr (.inl ⟨_,_,rfl,ho⟩)
     ·cases hk
    ·obtain⟨_,_,_,_,ho,_⟩:=ja hk;exact .inr (.inr ⟨_,_,_,_,_,_,_,rfl,ho⟩)
    ·cases hk
   ·split at hk
    ·rename_i ho;refine⟨.inr ⟨fun O e=>(by cases e;exact⟨_,_,ho⟩),.inr (.inr ⟨_,rfl⟩)⟩,?_⟩;replace hk:=(eg hk).2;split at hk
     ·exact .inl rfl
     ·split at hk
      ·rename_i ho;exact .inr (.inl ⟨_,_,rfl,ho⟩)
      ·cases hk
     ·obtain⟨_,_,_,_,ho,_⟩:=ja hk;exact .inr (.inr ⟨_,_,_,_,_,_,_,rfl,ho⟩)
     ·cases hk
    ·cases hk
   ·cases hk
 obtain⟨hky,hkw⟩:=hk;generalize ev st.env s=a at hw hp;generalize ev st.env x=b at hy hp;have hsrc:∀{m:Nat} {src:Src} {q:Lm},js es b=some (m,src)->src.q=some q->∃T∈gP y,∃o a,V.H.get T=some o/\A T=some a/\j_ A o a q.id:=by
  intro m src q h1 h2;cases hy with
  |@sl O _ hO=>
   rcases hky with ⟨_,_,_,e⟩|⟨hgr,_⟩
   ·cases e
   obtain⟨z,es',ho⟩:=hgr O rfl;obtain⟨yy,hyy,hs⟩:=hR.heap O _ ho;rw [hO] at hyy;cases hyy;rcases hs.2 with ⟨_,rfl|rfl⟩|⟨id,gg,bb,cells,rfl,_⟩
   ·cases h1;cases h2
   ·simp only [js,cond_eq_ite] at h1;split at h1
    ·cases h1;cases h2
    ·cases h1
   ·simp only [js,cond_eq_ite] at h1;split at h1
    ·cases h1;cases h2;exact⟨O,by simp [gP],_,_,ho,hO,.inl rfl⟩
    ·cases h1
  |@tr v _ hc=>
   cases hc<;>first|(cases h1;done)|skip
   ·cases h1;cases h2
   ·simp only [js,cond_eq_ite] at h1;split at h1
    ·cases h1;cases h2
    ·cases h1
   ·rename_i hf _;cases b<;>first|(cases hf;done)|skip
    all_goals first
     |(cases h1;cases h2;done)
     |(simp only [js,cond_eq_ite] at h1
       split at h1
       ·cases h1;cases h2
       ·cases h1)
  |gD=>cases h1;cases h2
  |yg=>
   simp only [js,cond_eq_ite] at h1;split at h1
   ·cases h1;cases h2
   ·cases h1
  |gl _ _ _ _ _=>
   simp only [js,cond_eq_ite] at h1;split at h1
   ·cases h1;cases h2
   ·cases h1
  |_=>exfalso;rcases hky with ⟨_,_,_,e⟩|⟨_,⟨_,e⟩|e|⟨_,e⟩⟩<;>cases e
 have qxI:∀{id:Nat},gR a=some id->∃T∈gP w,∃o a,V.H.get T=some o/\A T=some a/\j_ A o a id:=by
  intro id hi;rcases hkw with rfl|⟨O,o,rfl,ho⟩|⟨O,v,i,s,io,iz,es,rfl,ho⟩
  ·cases hw<;>cases hi
  ·cases hw with
   |sl hO=>exact⟨O,by simp [gP],_,_,ho,hO,.inl hi⟩
  ·cases hw with
   |ow hA=>obtain⟨a0,ha0,_⟩:=hR.heap O _ ho;exact⟨O,by simp [gP],_,_,ho,ha0,.inr ⟨i,_,by simp,hA,hi⟩⟩
 have mk:∀(q:Option Lm) (u:Option Nat) (kk:List AV->Option oz->Option Out),(∀r,q=some r->∃T∈gP y,∃o a,V.H.get T=some o/\A T=some a/\j_ A o a r.id)->
   (∀i,u=some i->∃T∈gP w,∃o a,V.H.get T=some o/\A T=some a/\j_ A o a i)->Eg A V ⟨gP w++gP y,gP w,gP w⟩ (c9.look q u kk).jt (c9.look q u kk).gQ:=by
  intro q u kk h1 h2;refine⟨fun z hz=>?_,fun id hid=>?_⟩
  ·simp only [c9.jt,qqx] at hz;rcases hz with hz|hz
   ·cases q with
    |none=>cases hz
    |some r=>simp at hz;subst hz;obtain⟨T,h3,h4⟩:=h1 r rfl;exact⟨r.id,rfl,T,List.mem_append_right _ h3,h4⟩
   ·cases u with
    |none=>cases hz
    |some i=>simp at hz;subst hz;obtain⟨T,h3,h4⟩:=h2 i rfl;exact⟨i,rfl,T,List.mem_append_left _ h3,h4⟩
  ·cases u with
   |none=>cases hid
   |some i=>simp [c9.gQ] at hid;subst hid;exact h2 _ rfl
 unfold BY at hp;split at hp
 ·cases hp
 rename_i m src hm;rw [cond_eq_ite] at hp;split at hp
 ·rw [cond_eq_ite] at hp;split at hp
  ·cases hp;exact F2
  ·cases hp
 ·split at hp
  ·rw [cond_eq_ite] at hp;split at hp
   ·cases hp;exact mk _ _ _ (fun r hr=>hsrc hm hr) (fun i hi=>by cases hi)
   ·cases hp
  ·rw [cond_eq_ite] at hp;split at hp
   ·cases hp;exact mk _ _ _ (fun r hr=>hsrc hm hr) (fun i hi=>by cases hi)
   ·cases hp
  ·rename_i id gg off es' len cap ex;rw [cond_eq_ite] at hp;split at hp
   ·cases hp;unfold GA;rw [cond_eq_ite];split
    ·exact mk _ _ _ (fun r hr=>hsrc hm hr) (fun i hi=>by cases hi;exact qxI rfl)
    ·rw [cond_eq_ite];split
     ·exact mk _ _ _ (fun r hr=>hsrc hm hr) (fun i hi=>by cases hi;exact qxI rfl)
     ·exact mk _ _ _ (fun r hr=>hsrc hm hr) (fun i hi=>by cases hi;exact qxI rfl)
   ·cases hp
  ·cases hp
theorem AL {V':bt} (he:V'.env=V.env):∀(parts:List (Nat×Nat×b_)),mz V' parts=mz V parts
 |[]=>rfl
 |(_,_,x)::r=>by
  have e1:gZ V' x=gZ V x:=by cases x<;>simp only [gZ,he]
  simp only [mz,AL he r,e1]
theorem Gh {sz:Nat}:∀(parts:List (Nat×Nat×b_)) (j:Nat) (V:bt) (k:List TV->bt->Prop),R A V st->vp V none true sz j parts k->
  ∀id∈(parts.map fun p=>ev st.env p.2.2).flatMap (fh deep st.H),∃T∈mz V parts,∃o a,V.H.get T=some o/\A T=some a/\j_ A o a id
 |[],j,V,k,hR,hk,id,hid=>by simp at hid
 |(off,n,x)::r,j,V,k,hR,hk,id,hid=>by
  obtain⟨_,hk⟩:=hk;obtain⟨hw,hk⟩:=pz (g:=none) hR trivial hk;rw [List.map_cons,List.flatMap_cons,qqx] at hid;have rest:∀{V1:bt} {k':List TV->bt->Prop},Sub V V1->vp V1 none true sz (j+1) r k'->id∈(r.map fun p=>ev st.env p.2.2).flatMap (fh deep st.H)->
    ∃T∈gP (gZ V x)++mz V r,∃o a,V.H.get T=some o/\A T=some a/\j_ A o a id:=by
   intro V1 k' hs hk' hi;obtain⟨T,h1,o,a,h2,h3,h4⟩:=Gh r (j+1) V1 k' (hs.r hR) hk' id hi;rw [AL hs.env] at h1;exact⟨T,List.mem_append_right _ h1,o,a,hs.H _ _ h2,h3,h4⟩
  simp only [mz];generalize gZ V x=w at hw hk rest;generalize ev st.env x=a at hw hid;have no:a.plain=true->id∈fh deep st.H a->False:=fun hp hi=>by have:fh deep st.H a=[]:=BH hp 27 _;rw [this] at hi;cases hi
  cases hw with
  |tr hc=>exact hid.elim (fun hi=>(no (q8 hc) hi).elim) (rest (Sub.refl V) hk.2)
  |gD=>exact hid.elim (fun hi=>(no rfl hi).elim) (rest (Sub.refl V) hk.2)
  |yg=>exact hid.elim (fun hi=>(no rfl hi).elim) (rest (Sub.refl V) hk.2)
  |@sl O _ hO=>obtain⟨_,_,hk⟩:=hk;obtain⟨ob,ho,hwh,es,hk,_⟩:=Iu hk;refine hid.elim (fun hi=>?_) (rest (Cl V (.sl O)) hk);obtain⟨y,hy,hs⟩:=hR.heap O _ ho;rw [hO] at hy;cases hy;exact⟨O,List.mem_append_left _ (by simp [gP]),_,_,ho,hO,BG hwh hs 27 id hi⟩
  |@st t o cs tl hv hc=>
   obtain⟨qk5,hk⟩:=hk;replace qk5:S2 o=true:=by simpa using qk5
   have qxZ:=Cc hk;obtain⟨u,hk⟩:=CG hk;refine hid.elim (fun hi=>?_) (rest (wu o V) hk.2);have hi':id∈cs.flatMap (fh 29 st.H):=hi;obtain⟨y,hy,hi'⟩:=List.mem_flatMap.1 hi';obtain⟨q,hq⟩:=List.getElem?_of_mem hy;have hlt:q < tl.length:=by rw [hc.len];exact(qqb.1 hq).1
   have hat:=hc.at_ q _ y (qqa hlt) hq;cases ho:eC q o with
   |none=>rw [ho] at hat;have hh:fh 29 st.H y=[]:=AY hat.2 28 _;rw [hh] at hi';cases hi'
   |some w=>
    rw [ho] at hat;cases w<;>first|(exact absurd hat (by intro hh;exact hh))|skip
    ·rcases hat with e|e<;>(rw [e] at hi';cases hi')
    ·rename_i O;have hO:A O=some y:=hat;obtain⟨ob,hO',hwh⟩:=qxZ q O (u9 ho);obtain⟨y',hy',hs'⟩:=hR.heap O _ hO';rw [hO] at hy';cases hy';have hmem:∀{l:List (Nat×VV)} {i:Nat},(i,VV.sl O)∈l->O∈DN l:=by
      intro l
      induction l with
      |nil=>intro i h;cases h
      |cons p l ih=>
       intro i h;obtain⟨i',w'⟩:=p;rcases qqw.1 h with h1|h1
       ·cases h1;simp [DN]
       ·cases w'<;>first|exact ih h1|exact qqv _ (ih h1)
     exact⟨O,List.mem_append_left _ (hmem (u9 ho)),_,_,hO',hO,BG hwh hs' 26 id hi'⟩
    ·exact absurd (u9 ho) (FV qk5 _ _ _ _)
  |_=>cases hk
theorem wm (hR:R A V st) (ha:act g):∀{xs:List b_} {k:Bool->List TV->Prop},DC V xs=true->Bk V g xs k->gE AV.plain (xs.map (ev st.env))=true
 |[],k,h,hk=>rfl
 |x::xs,k,h,hk=>by
  simp only [DC,qqB] at h;obtain⟨hw,hk⟩:=pz hR ha hk;rw [List.map_cons,cj];have h1:=h.1;generalize gZ V x=w at hw hk h1;generalize ev st.env x=a at hw;have fin:∀{kk:Bool->List TV->Prop},a.plain=true->Bk V g xs kk->∀y∈a::xs.map (ev st.env),AV.plain y=true:=by
   intro kk hp hk y hy;rcases qqw.1 hy with rfl|hy
   ·exact hp
   ·exact cj.1 (wm hR ha h.2 hk) y hy
  cases hw<;>first|(cases h1;done)|skip
  ·rename_i v hc;exact fin (q8 hc) hk
  ·exact fin rfl hk
  ·exact fin rfl hk
  ·rename_i v ovs cs ts hv hc;obtain⟨t,hk⟩:=CG hk;exact fin (Bc hc h1) hk
theorem QW (hR:R A V st) {len:Nat} {zero:List AV} {parts:List (Nat×Nat×b_)} (h:EF sh nt V d none true len zero parts k) :
  ∀id∈(parts.map fun p=>ev st.env p.2.2).flatMap (fh deep st.H),∃T∈mz V parts,∃o a,V.H.get T=some o/\A T=some a/\j_ A o a id:=by
 unfold EF at h;split at h
 ·unfold NL at h;simp only at h;split at h
  ·split at h<;>first|(cases h;done)|skip
   split at h<;>first|(cases h;done)|skip
  ·exact Gh parts 0 V _ hR (eg (jJ h).2).2
 ·simp only at h;split at h;rotate_left
  ·cases h
  rename_i off n x;split at h;rotate_left
  ·cases h
  obtain⟨w,hw,hk⟩:=fu (g:=none) hR trivial h;have hpl:(ev st.env x).plain=true:=by
   generalize ev st.env x=p at hw;unfold Vx at hk;split at hk
   ·cases hw<;>rfl
   ·split at hk
    ·cases hw with
     |st hv hc=>exact Bc hc rfl
    ·cases hk
   ·cases hk
  intro id hid;have hh:fh deep st.H (ev st.env x)=[]:=BH hpl 27 _;simp only [List.map_cons,List.map_nil,List.flatMap_cons,List.flatMap_nil,List.append_nil] at hid;rw [hh] at hid;cases hid
theorem Te (hR:R A V st) {o:br} (h:Tf sh prog nt V o k) {f:Lp} (hf:IX V o=some f) {st':St} (hrun:ql (ey prog) nt o st=some st') (n0:Nat) :
  ∃r,gv (ey prog) nt n0 o st=some (st',r)/\Eh A V f r/\r.Kh=st.nx/\r.Dw=st'.nx:=by
 obtain⟨dd,op,gd,fz⟩:=o;unfold ql at hrun;simp only [cond_eq_ite] at hrun;by_cases hw:wanted st.env gd=true;rotate_left
 ·rw [if_neg hw] at hrun;split at hrun
  ·rename_i e he;cases hrun;exact⟨⟨[],.ids [],st.H,st.H,st.nx,st.nx⟩,by simp only [gv,cond_eq_ite,if_neg hw,he],⟨fun x hx=>(by cases hx),⟨[],rfl,fun id hid=>(by cases hid)⟩⟩,rfl,rfl⟩
  ·cases hrun
 rw [if_pos hw] at hrun;split at hrun
 ·cases hrun
 rename_i v H' nx' hdo;split at hrun;rotate_left
 ·cases hrun
 rename_i e he;cases hrun;have fin:∀{jt:List Rd} {gQ:List Nat},oR (ey prog) n0 ⟨dd,op,gd,fz⟩ (ev st.env) st.H st.nx=some (v,H',nx',jt,.ids gQ)->Eg A V f jt gQ->
   ∃r,gv (ey prog) nt n0 ⟨dd,op,gd,fz⟩ st=some (⟨e,H',nx'⟩,r)/\Eh A V f r/\r.Kh=st.nx/\r.Dw=nx':=by
  intro jt gQ h1 h2;exact⟨⟨jt,.ids gQ,st.H,H',st.nx,nx'⟩,by simp only [gv,cond_eq_ite,if_pos hw,h1,he],⟨h2.1,gQ,rfl,h2.2⟩,rfl,rfl⟩
 cases fz with
 |true=>
  have hgd:gd=none:=by
   cases gd with
   |none=>rfl
   |some p=>cases h
  subst hgd;simp only [Tf] at h;split at h
  ·rename_i len zero parts;simp only [IX] at hf;cases hf;have qk6:∀id∈(parts.map fun p=>ev st.env p.2.2).flatMap (fh deep st.H),∃T∈mz V parts,∃o a,V.H.get T=some o/\A T=some a/\j_ A o a id:=QW hR h;simp only [Ao,cond_true] at hdo
   ·split at hdo
    ·cases hdo
    rename_i l hl;split at hdo
    ·rename_i v' hv';cases hdo;refine fin (jt:=((parts.map fun p=>ev st.env p.2.2).flatMap (fh deep st.H)).map Rd.obj) (gQ:=(parts.map fun p=>ev st.env p.2.2).flatMap (fh deep st.H)) ?_ ⟨fun x hx=>?_,qk6⟩
     ·simp only [oR,cond_true,hl,hv']
     ·obtain⟨id,hid,rfl⟩:=qqz.1 hx;exact⟨id,rfl,qk6 id hid⟩
    ·cases hdo
  ·cases h
 |false=>
  have hev:∃g:G,act g/\BV sh prog nt V dd g op k:=by
   cases gd with
   |none=>exact⟨none,trivial,h⟩
   |some p=>
    obtain⟨n,bb⟩:=p;obtain⟨c,a,ha,hca,h⟩:=M_ hR h;refine⟨some (c,bb),?_,h⟩;simp only [wanted,ha] at hw;split at hw
    ·rename_i b' hb;cases hb;cases hca;rotate_left
     ·rename_i hf _;cases hf
     show TV.b b'=TV.b bb;congr 1;cases b'<;>cases bb<;>first|rfl|cases hw
    ·cases hw
  obtain⟨g,hact,h⟩:=hev;have qxR:qj (ey prog) op (ev st.env) st.H st.nx=some (v,H',nx'):=hdo;have plan:∀{p:(b_->AV)->Option c9},kind op=.plan p->(∀q,p (ev st.env)=some q->Eg A V f q.jt q.gQ)->∃r,gv (ey prog) nt n0 ⟨dd,op,gd,false⟩ st=some (⟨e,H',nx'⟩,r)/\Eh A V f r/\r.Kh=st.nx/\r.Dw=nx':=by
   intro p hk hl;simp only [qj,hk] at qxR;split at qxR
   ·rename_i q hq;refine fin (jt:=q.jt) (gQ:=q.gQ) ?_ (hl q hq);simp only [oR,cond_false,Bb,hk,hq,qxR]
   ·cases qxR
  have plain:∀{p:(b_->AV)->Option c9},kind op=.plan p->Fw (p (ev st.env))->∃r,gv (ey prog) nt n0 ⟨dd,op,gd,false⟩ st=some (⟨e,H',nx'⟩,r)/\Eh A V f r/\r.Kh=st.nx/\r.Dw=nx':=
   fun hk hs=>plan hk (fun q hq=>Kt (hs q hq))
  have call:∀{n:Nat} {args:List b_},(kind op=.call n args .borrow\/∃fv,kind op=.lA fv args .borrow/\ev st.env fv=.func n)->gE AV.plain (args.map (ev st.env))=true->
    ∃r,gv (ey prog) nt n0 ⟨dd,op,gd,false⟩ st=some (⟨e,H',nx'⟩,r)/\Eh A V f r/\r.Kh=st.nx/\r.Dw=nx':=by
   intro n args hk hp;have hd:gL (ey prog) n (args.map (ev st.env)) .borrow st.H st.nx=some (v,H',nx'):=by
    rcases hk with hk|⟨fv,hk,hf⟩
    ·simpa only [qj,hk] using qxR
    ·simpa only [qj,hk,hf] using qxR
   have hH:H'=st.H/\nx'=st.nx:=by
    have hd':=hd;simp only [gL,hp,cond_true] at hd';split at hd'
    ·cases hd';exact⟨rfl,rfl⟩
    ·cases hd'
   obtain⟨rfl,rfl⟩:=hH;refine fin (jt:=[]) (gQ:=[]) ?_ F2;rcases hk with hk|⟨fv,hk,hf⟩
   ·simp only [oR,cond_false,Bb,hk,je,hp,cond_true,hd]
   ·simp only [oR,cond_false,Bb,hk,hf,je,hp,cond_true,hd]
  cases op with
  |mv x=>exact plain rfl (gy _)
  |pick c a b=>
   refine plain (p:=fun ρ=>CT ρ c a b) rfl ?_;unfold CT;split
   ·split<;>exact gy _
   ·exact cq
  |alloc zero=>exact plain rfl (zk _ _)
  |box x=>
   refine plain (p:=fun ρ=>J9 ρ x) rfl ?_;unfold J9;split
   ·exact zk _ _
   ·exact cq
  |build zero parts=>
   refine plain (p:=fun ρ=>zu ρ zero parts) rfl ?_;unfold zu;split
   ·exact gy _
   ·exact cq
  |tj es len zero parts=>
   refine plain (p:=fun ρ=>xd ρ es len zero parts) rfl ?_;unfold xd;split
   ·exact zk _ _
   ·exact cq
  |bx len zero parts=>
   refine plain (p:=fun ρ=>ko ρ len zero parts) rfl ?_;unfold ko;split
   ·rw [cond_eq_ite];split
    ·exact gy _
    ·exact cq
   ·exact cq
  |load sz a=>simp only [IX] at hf;cases hf;exact plan (p:=fun ρ=>xb ρ sz a) rfl (fun q hq=>OB hR hact h hq)
  |store sz a x=>
   simp only [IX] at hf;cases hf;cases g with
   |none=>
    cases dd with
    |none=>exact plan (p:=fun ρ=>xm ρ sz a x) rfl (fun q hq=>LG hR h hq)
    |some _=>cases h
   |some _=>cases h
  |xj x=>refine plain (p:=fun ρ=>uw ρ x) rfl ?_;unfold uw;split<;>first|exact gy _|exact cq
  |bin op x y=>exact plain (p:=fun ρ=>lR (Ld op (ρ x) (ρ y))) rfl (mw _)
  |eq t neg x y=>
   refine plain (p:=fun ρ=>Qr ρ t neg x y) rfl ?_;unfold Qr;split
   ·exact gy _
   ·exact cq
  |un op x=>exact plain (p:=fun ρ=>lR (Um op (ρ x))) rfl (mw _)
  |conv c x=>
   refine plain (p:=fun ρ=>Er ρ c x) rfl ?_;unfold Er;split
   ·exact gy _
   ·exact cq
  |Al es bytes zero n=>
   refine plain (p:=fun ρ=>Ep ρ es bytes zero n) rfl ?_;unfold Ep;split
   ·split
    ·rw [cond_eq_ite];split
     ·exact zk _ _
     ·exact cq
    ·exact cq
   ·exact cq
  |tn x lo hi=>
   refine plain (p:=fun ρ=>AM ρ x lo hi) rfl ?_;unfold AM;split
   ·split
    ·exact cq
    ·exact gy _
   ·exact cq
  |zm es x lo hi mx=>exact plain (p:=fun ρ=>lR (LM es ρ (ρ x) lo hi mx)) rfl (mw _)
  |nw n es x lo hi mx=>
   cases hf;obtain⟨hz,h⟩:=jJ h;cases g with
   |some q=>cases h
   |none=>
    cases lo with
    |some _=>cases h
    |none=>
     cases mx with
     |some _=>cases h
     |none=>exact plan (p:=fun ρ=>xp ρ n es x none hi none) rfl (fun q hq=>LK hR h hq)
  |vl off x=>refine plain (p:=fun ρ=>s6 ρ off x) rfl ?_;unfold s6;split<;>first|exact gy _|exact cq
  |Nz off sz x=>
   refine plain (p:=fun ρ=>J7 ρ off sz x) rfl ?_;unfold J7;split
   ·split
    ·exact mw _
    ·exact cq
   ·exact cq
  |jv es x i=>
   refine plain (p:=fun ρ=>ux ρ es x i) rfl ?_;unfold ux;split
   ·split
    ·split
     ·split
      ·exact cq
      ·exact gy _
     ·exact cq
    ·rw [cond_eq_ite];split
     ·split
      ·exact gy _
      ·exact cq
     ·exact cq
    ·exact cq
   ·exact cq
  |oD len es x i=>
   refine plain (p:=fun ρ=>AO ρ len es x i) rfl ?_;unfold AO;split
   ·split
    ·split<;>first|exact gy _|exact cq
    ·exact cq
   ·exact cq
  |idx x i=>
   refine plain (p:=fun ρ=>J6 ρ x i) rfl ?_;unfold J6;split
   ·split
    ·split
     ·exact gy _
     ·exact cq
    ·exact cq
   ·exact cq
  |ext i x=>
   refine plain (p:=fun ρ=>J8 ρ i x) rfl ?_;unfold J8;split
   ·exact mw _
   ·exact cq
  |app es bytes s x=>simp only [IX] at hf;cases hf;exact plan (p:=fun ρ=>BY es bytes (ρ s) (ρ x)) rfl (fun q hq=>RX hR hact h hq)
  |Lw es dd s=>
   cases hf;obtain⟨hz,h⟩:=jJ h;cases g with
   |some q=>cases h
   |none=>exact plan (p:=fun ρ=>KX es (ρ dd) (ρ s)) rfl (fun q hq=>RG hR hz h hq)
  |Ty es zero x=>cases hf
  |len str x=>
   refine plain (p:=fun ρ=>xq ρ str x) rfl ?_;unfold xq;split
   ·split
    ·exact gy _
    ·exact cq
   ·split<;>first|exact gy _|exact cq
  |GL mx xs=>
   refine plain (p:=fun ρ=>IK ρ mx xs) rfl ?_;unfold IK;split
   ·exact mw _
   ·exact cq
  |B9=>cases h
  |B8 t zero ok m k=>cases hf
  |IP t m k v=>cases hf
  |GW m=>cases hf
  |call n args m=>
   cases m with
   |share=>cases hf
   |borrow=>
    simp only [IX] at hf;split at hf
    ·rename_i ht;simp only [BV] at h;exact call (.inl rfl) (wm hR hact ht h)
    ·cases hf
  |lA fv args m=>
   cases m with
   |share=>cases hf
   |borrow=>
    simp only [IX] at hf;split at hf
    ·rename_i ht;simp only [BV] at h;obtain⟨fvv,hfv,h⟩:=gm hR hact h;cases g with
     |none=>obtain⟨n,rfl,h⟩:=h;generalize he':ev st.env fv=p at hfv;cases hfv;exact call (.inr ⟨fv,rfl,he'⟩) (wm (g:=none) hR trivial ht h)
     |some q=>obtain⟨c,bb⟩:=q;obtain⟨n,hn,h⟩:=h;obtain rfl:=hn hact;generalize he':ev st.env fv=p at hfv;cases hfv;exact call (.inr ⟨fv,rfl,he'⟩) (wm hR hact ht h)
    ·cases hf
end
end Go.Ax.V
