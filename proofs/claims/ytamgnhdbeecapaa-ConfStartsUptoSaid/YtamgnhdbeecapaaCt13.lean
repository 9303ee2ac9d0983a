/- Part 13 of the proof: Fd, Fb. -/
import Derived.Test.YtamgnhdbeecapaaCt10
import Derived.Test.YtamgnhdbeecapaaProg
set_option linter.unusedSimpArgs false
set_option linter.unusedVariables false
set_option maxRecDepth 100000
namespace Go.Ax.Ft
open Go Go.Ax Go.Ax.V
noncomputable abbrev PP:Program:=Go.Proofs.Try.prog
theorem y3:rowOf PP 3=some (.int .i64):=by kernel_rfl
theorem AJ {n:Nat} {ts:List TV} (h:we PP n 3 ts):∃m,ts=[ii m]:=by
 cases n with
 |zero=>cases h
 |succ n=>unfold we at h;rw [y3] at h;obtain⟨m,h1,_⟩:=h;exact⟨m,h1⟩
theorem ID {α:Type} {enc:α->TV} (sz:α->Nat):∀{es:List TV},(∀(j:Nat) (x:TV),es[j]?=some x->∃a,x=enc a/\sz a<=x.q9)->∃l:List α,es=l.map enc/\(l.map sz).sum<=fj es
 |[],h=>⟨[],rfl,qqT _⟩
 |x::es,h=>by obtain⟨a,rfl,h1⟩:=h 0 x rfl;obtain⟨l,rfl,h2⟩:=ID sz (es:=es) (fun j x hj=>h (j+1) x (by simpa using hj));refine⟨a::l,rfl,?_⟩;simp only [List.map_cons,List.sum_cons,fj];omega
theorem En {n:Nat} {t e:TypeId} {ts:List TV} {α:Type} {enc:α->TV} (sz:α->Nat) (hr:rowOf PP t=some (.sl e)) (ha:Ap (rowOf PP e)=true) (h:we PP n t ts)
  (hd:∀(k:Nat) (us:List TV),n=k+1->we PP k e us->∃a,(.a us:TV)=enc a/\sz a<=fj us+1):∃l:List α,ts=[.l (l.map enc)]/\(l.map sz).sum+1<=fj ts:=by
 cases n with
 |zero=>cases h
 |succ n=>
  unfold we at h;rw [hr] at h;obtain⟨es,rfl,_,he⟩:=h;obtain⟨l,rfl,hl⟩:=ID sz (es:=es) (fun j x hj=>by obtain⟨us,rfl,hu⟩:=he j x hj;rw [ha];obtain⟨a,h1,h2⟩:=hd n us rfl hu;exact⟨a,h1,by show sz a<=fj us+1;exact h2⟩)
  refine⟨l,rfl,?_⟩;simp only [fj,TV.q9];omega
theorem Bt {α:Type} {f:α->Nat} (hf:∀a,1<=f a):∀l:List α,l.length<=(l.map f).sum
 |[]=>qqT _
 |a::r=>by have:=hf a;have:=Bt hf r;simp only [qqr,List.map_cons,List.sum_cons];omega
theorem zj {α:Type} {f:α->Nat}:∀{l:List α} {a:α},a∈l->f a<=(l.map f).sum
 |x::r,a,h=>by
  simp only [List.map_cons,List.sum_cons];rcases qqw.1 h with rfl|h
  ·omega
  ·have:=zj (f:=f) h;omega
end Go.Ax.Ft
set_option maxRecDepth 100000
namespace Go.Ax.Ft
open Go Go.Ax Go.Ax.V
theorem y9:rowOf PP 9=some .str:=by kernel_rfl
theorem y22:rowOf PP 22=some (.sl 179):=by kernel_rfl
theorem y23:rowOf PP 23=some (.sl 187):=by kernel_rfl
theorem y24:rowOf PP 24=some (.sl 184):=by kernel_rfl
theorem y26:rowOf PP 26=some (.st [22,23,24]):=by kernel_rfl
theorem y174:rowOf PP 174=some (.sl 9):=by kernel_rfl
theorem Xe:rowOf PP 179=some (.st [9,3,3,9,9,174]):=by kernel_rfl
theorem Xd:rowOf PP 182=some (.sl 225):=by kernel_rfl
theorem Xc:rowOf PP 184=some (.st [9,174,182]):=by kernel_rfl
theorem y185:rowOf PP 185=some (.sl 190):=by kernel_rfl
theorem Xb:rowOf PP 187=some (.st [9,185]):=by kernel_rfl
theorem Xa:rowOf PP 190=some (.st [3,9,3]):=by kernel_rfl
theorem y218:rowOf PP 218=some (.sl 220):=by kernel_rfl
theorem W_:rowOf PP 220=some (.st [3,3,9,218]):=by kernel_rfl
theorem y222:rowOf PP 222=some (.st [3,220,220]):=by kernel_rfl
theorem y223:rowOf PP 223=some (.sl 231):=by kernel_rfl
theorem Uk:rowOf PP 225=some (.st [3,9,9,220,222,182,182,223]):=by kernel_rfl
theorem W9:rowOf PP 231=some (.st [9,9,182]):=by kernel_rfl
theorem s5 {n:Nat} {ts:List TV} (h:we PP n 9 ts):∃x:ByteArray,ts=[ss x]/\x.size+1<=fj ts:=by
 cases n with
 |zero=>cases h
 |succ n=>unfold we at h;rw [y9] at h;obtain⟨m,rfl,_⟩:=h;exact⟨m,rfl,by simp only [fj,TV.q9];omega⟩
theorem M8 {n:Nat} {ts:List TV} (h:we PP n 174 ts):∃l:List ByteArray,ts=[MC l]/\(l.map (fun x=>x.size+1)).sum+1<=fj ts:=by
 cases n with
 |zero=>cases h
 |succ n=>
  unfold we at h;rw [y174] at h;obtain⟨es,rfl,_,he⟩:=h;obtain⟨l,rfl,hl⟩:=ID (enc:=ss) (fun x=>x.size+1) (es:=es) (fun j x hj=>by obtain⟨us,rfl,hu⟩:=he j x hj;obtain⟨m,rfl,hm⟩:=s5 hu;rw [y9];refine⟨m,rfl,?_⟩;simp only [fj] at hm;show m.size+1<=(ss m).q9;omega)
  refine⟨l,rfl,?_⟩;simp only [fj,TV.q9] at hl ⊢;omega
theorem Jq:∀l:List NE,Dy l=(l.map Cz).sum
 |[]=>rfl
 |e::r=>by simp [Dy,Jq r]
theorem Fj:∀l:List NS,kj l=(l.map MU).sum
 |[]=>rfl
 |e::r=>by simp [kj,Fj r]
theorem Js:∀l:List NA,um l=(l.map Pd).sum
 |[]=>rfl
 |e::r=>by simp [um,Js r]
theorem FI:∀(n:Nat) (ts:List TV),we PP n 220 ts->∃e:NE,ts=W0 e/\Cz e<=fj ts:=by
 intro n
 induction n using Nat.strongRecOn with
 |_ n ih=>
  intro ts h;cases n with
  |zero=>cases h
  |succ n=>
   unfold we at h;rw [W_] at h;obtain⟨u0,w0,rfl,h0,u1,w1,rfl,h1,u2,w2,rfl,h2,u3,w3,rfl,h3,rfl⟩:=h;obtain⟨k,rfl⟩:=AJ h0;obtain⟨nm,rfl⟩:=AJ h1;obtain⟨v,rfl,hv⟩:=s5 h2;obtain⟨ks,rfl,hs⟩:=En (enc:=GZ) Cz y218 (by rw [W_];rfl) h3 (fun k us hk hu=>by obtain⟨e,rfl,he⟩:=ih k (by omega) us hu;exact⟨e,(Z0 e).symm,by omega⟩)
   refine⟨.mk k nm v ks,by simp only [W0,yu];rfl,?_⟩;rw [Cz,Jq];simp only [gM,fj,TV.q9] at hs hv ⊢;omega
theorem Qf {n:Nat} {ts:List TV} (h:we PP n 222 ts):∃c:NC,ts=cNC c/\N5 c<=fj ts:=by
 cases n with
 |zero=>cases h
 |succ n=>unfold we at h;rw [y222] at h;obtain⟨u0,w0,rfl,h0,u1,w1,rfl,h1,u2,w2,rfl,h2,rfl⟩:=h;obtain⟨op,rfl⟩:=AJ h0;obtain⟨l,rfl,hl⟩:=FI _ _ h1;obtain⟨r,rfl,hr⟩:=FI _ _ h2;refine⟨⟨op,l,r⟩,by simp [cNC],?_⟩;simp only [gM,N5];omega
theorem Qa:∀(n:Nat) (ts:List TV),we PP n 225 ts->∃s:NS,(.a ts:TV)=OO s/\MU s<=fj ts:=by
 intro n
 induction n using Nat.strongRecOn with
 |_ n ih=>
  have hb:∀(k:Nat),k < n->∀ts,we PP k 182 ts->∃l:List NS,ts=[.l (l.map OO)]/\kj l+1<=fj ts:=fun k hk ts h=>by
   obtain⟨l,h1,h2⟩:=En (enc:=OO) MU Xd (by rw [Uk];rfl) h (fun m us hm hu=>by obtain⟨s,h3,h4⟩:=ih m (by omega) us hu;exact⟨s,h3,by omega⟩)
   exact⟨l,h1,by rw [Fj];exact h2⟩
  intro ts h;cases n with
  |zero=>cases h
  |succ n=>
   unfold we at h;rw [Uk] at h;obtain⟨u0,w0,rfl,h0,u1,w1,rfl,h1,u2,w2,rfl,h2,u4,w4,rfl,h4,u5,w5,rfl,h5,u6,w6,rfl,h6,u7,w7,rfl,h7,u8,w8,rfl,h8,rfl⟩:=h;obtain⟨kind,rfl⟩:=AJ h0;obtain⟨nm,rfl,hnm⟩:=s5 h1;obtain⟨tag,rfl,htg⟩:=s5 h2;obtain⟨e,rfl,he⟩:=FI _ _ h4;obtain⟨c,rfl,hc⟩:=Qf h5;obtain⟨body,rfl,hbd⟩:=hb n (Nat.lt_succ_self n) _ h6;obtain⟨els,rfl,hel⟩:=hb n (Nat.lt_succ_self n) _ h7;obtain⟨cu,rfl,har⟩:=En (enc:=Ts) Pd y223 (by rw [W9];rfl) h8 (fun m us hm hu=>by
    cases m with
    |zero=>cases hu
    |succ m=>unfold we at hu;rw [W9] at hu;obtain⟨u0,w0,rfl,h0,u1,w1,rfl,h1,u2,w2,rfl,h2,rfl⟩:=hu;obtain⟨tag,rfl,ht⟩:=s5 h0;obtain⟨var,rfl,hv⟩:=s5 h1;obtain⟨bd,rfl,hb2⟩:=hb m (by omega) _ h2;refine⟨.mk tag var bd,by simp [Ts,yt],?_⟩;simp only [Pd,gM,fj,TV.q9] at hb2 ht hv ⊢;omega)
   refine⟨.mk kind nm tag e c body els cu,by simp [OO,yt,Dn],?_⟩;rw [MU,Js];simp only [gM,fj,TV.q9] at he hc hbd hel har hnm htg ⊢;omega
def Sq (c:W3):Nat:=c.nm.size+c.src.size+c.dst.size+(c.tags.map (fun x:ByteArray=>x.size+1)).sum+1
def Sp (m:NM):Nat:=m.tag.size+1
def Sn (r:NR):Nat:=r.chan.size+(r.l_.map Sp).sum+1
def O4 (p:NP):Nat:=p.nm.size+(p.vars.map (fun x:ByteArray=>x.size+1)).sum+kj p.body+1
theorem Qg {n:Nat} {ts:List TV} (h:we PP n 179 ts):∃c:W3,(.a ts:TV)=v_ c/\Sq c<=fj ts:=by
 cases n with
 |zero=>cases h
 |succ n=>unfold we at h;rw [Xe] at h;obtain⟨u0,w0,rfl,h0,u1,w1,rfl,h1,u2,w2,rfl,h2,u3,w3,rfl,h3,u4,w4,rfl,h4,u5,w5,rfl,h5,rfl⟩:=h;obtain⟨a0,rfl,b0⟩:=s5 h0;obtain⟨a1,rfl⟩:=AJ h1;obtain⟨a2,rfl⟩:=AJ h2;obtain⟨a3,rfl,b3⟩:=s5 h3;obtain⟨a4,rfl,b4⟩:=s5 h4;obtain⟨a5,rfl,b5⟩:=M8 h5;refine⟨⟨a0,a1,a2,a3,a4,a5⟩,rfl,?_⟩;simp only [Sq,gM,fj,TV.q9] at b0 b3 b4 b5 ⊢;omega
theorem Qd {n:Nat} {ts:List TV} (h:we PP n 190 ts):∃c:NM,(.a ts:TV)=Rz c/\Sp c<=fj ts:=by
 cases n with
 |zero=>cases h
 |succ n=>unfold we at h;rw [Xa] at h;obtain⟨u0,w0,rfl,h0,u1,w1,rfl,h1,u2,w2,rfl,h2,rfl⟩:=h;obtain⟨a0,rfl⟩:=AJ h0;obtain⟨a1,rfl,b1⟩:=s5 h1;obtain⟨a2,rfl⟩:=AJ h2;refine⟨⟨a0,a1,a2⟩,rfl,?_⟩;simp only [Sp,gM,fj,TV.q9] at b1 ⊢;omega
theorem Qb {n:Nat} {ts:List TV} (h:we PP n 187 ts):∃c:NR,(.a ts:TV)=O9 c/\Sn c<=fj ts:=by
 cases n with
 |zero=>cases h
 |succ n=>
  unfold we at h;rw [Xb] at h;obtain⟨u0,w0,rfl,h0,u1,w1,rfl,h1,rfl⟩:=h;obtain⟨a0,rfl,b0⟩:=s5 h0;obtain⟨l,rfl,b1⟩:=En (enc:=Rz) Sp y185 (by rw [Xa];rfl) h1 (fun m us hm hu=>by obtain⟨s,h3,h4⟩:=Qd hu;exact⟨s,h3,by omega⟩)
  refine⟨⟨a0,l⟩,rfl,?_⟩;simp only [Sn,gM,fj,TV.q9] at b0 b1 ⊢;omega
theorem Qc {n:Nat} {ts:List TV} (h:we PP n 184 ts):∃c:NP,(.a ts:TV)=NQ c/\O4 c<=fj ts:=by
 cases n with
 |zero=>cases h
 |succ n=>
  unfold we at h;rw [Xc] at h;obtain⟨u0,w0,rfl,h0,u1,w1,rfl,h1,u2,w2,rfl,h2,rfl⟩:=h;obtain⟨a0,rfl,b0⟩:=s5 h0;obtain⟨a1,rfl,b1⟩:=M8 h1;obtain⟨l,rfl,b2⟩:=En (enc:=OO) MU Xd (by rw [Uk];rfl) h2 (fun m us hm hu=>by obtain⟨s,h3,h4⟩:=Qa _ _ hu;exact⟨s,h3,by omega⟩)
  refine⟨⟨a0,a1,l⟩,by simp [NQ,yt],?_⟩;rw [←Fj] at b2;simp only [O4,gM,fj,TV.q9] at b0 b1 b2 ⊢;omega
theorem SN {n:Nat} {ts:List TV} (h:we PP n 26 ts) (hb:fj ts<=4194304):∃s:Ef,(.a ts:TV)=Dk s/\Jp s/\∀p∈s.procs,kj p.body<=fj ts:=by
 cases n with
 |zero=>cases h
 |succ n=>
  unfold we at h;rw [y26] at h;obtain⟨u0,w0,rfl,h0,u1,w1,rfl,h1,u2,w2,rfl,h2,rfl⟩:=h;obtain⟨cs,rfl,hc⟩:=En (enc:=v_) Sq y22 (by rw [Xe];rfl) h0 (fun m us hm hu=>by obtain⟨c,h3,h4⟩:=Qg hu;exact⟨c,h3,by omega⟩)
  obtain⟨rs,rfl,hr⟩:=En (enc:=O9) Sn y23 (by rw [Xb];rfl) h1 (fun m us hm hu=>by obtain⟨c,h3,h4⟩:=Qb hu;exact⟨c,h3,by omega⟩)
  obtain⟨ps,rfl,hp⟩:=En (enc:=NQ) O4 y24 (by rw [Xc];rfl) h2 (fun m us hm hu=>by obtain⟨c,h3,h4⟩:=Qc hu;exact⟨c,h3,by omega⟩)
  refine⟨⟨cs,rs,ps⟩,rfl,?_⟩;simp only [gM,fj] at hb hc hr hp ⊢;have l1:=Bt (f:=Sq) (fun c=>by simp [Sq]) cs;have l2:=Bt (f:=Sn) (fun c=>by simp [Sn]) rs;have l3:=Bt (f:=O4) (fun c=>by simp [O4]) ps;have ml:∀(l:List ByteArray),l.length<=(l.map (fun x:ByteArray=>x.size+1)).sum:=Bt (fun c=>by omega);have mm:∀(l:List ByteArray) (t:ByteArray),t∈l->t.size+1<=(l.map (fun x:ByteArray=>x.size+1)).sum:=fun l t ht=>zj (f:=fun x:ByteArray=>x.size+1) ht
  have m1:∀c∈cs,Sq c<=4194304:=fun c hc'=>by have:=zj (f:=Sq) hc';omega
  have m2:∀c∈rs,Sn c<=4194304:=fun c hc'=>by have:=zj (f:=Sn) hc';omega
  have m3:∀c∈ps,O4 c<=4194304:=fun c hc'=>by have:=zj (f:=O4) hc';omega
  refine⟨?_,fun p hp'=>by have:=zj (f:=O4) hp';simp only [O4] at this hp ⊢;omega⟩;refine⟨?_,?_,?_,fun c hc'=>?_,fun c hc'=>?_,fun c hc'=>?_,fun c hc'=>?_,fun c hc'=>?_,fun c hc'=>?_,fun c hc'=>?_⟩
  ·show cs.length<=_;omega
  ·show rs.length<=_;omega
  ·show ps.length<=_;omega
  ·have:=m1 c hc';have:=ml c.tags;simp only [Sq] at *;omega
  ·have:=m2 c hc';have:=Bt (f:=Sp) (fun c=>by simp [Sp]) c.l_;simp only [Sn] at *;omega
  ·have:=m3 c hc';have:=ml c.vars;simp only [O4] at *;omega
  ·have:=m3 c hc';simp only [O4] at *;omega
  ·have:=m1 c hc';have h3:∀t∈c.tags,t.size+1<=_:=mm c.tags;simp only [Sq] at this;exact⟨by omega,by omega,by omega,fun t ht=>by have:=h3 t ht;omega⟩
  ·have:=m2 c hc';have h3:∀m∈c.l_,Sp m<=_:=fun m hm=>zj (f:=Sp) hm
   simp only [Sn] at this;exact⟨by omega,fun t ht=>by have:=h3 t ht;simp only [Sp] at this;omega⟩
  ·have:=m3 c hc';have h3:∀t∈c.vars,t.size+1<=_:=mm c.vars;simp only [O4] at this;exact⟨by omega,fun t ht=>by have:=h3 t ht;omega⟩
end Go.Ax.Ft
