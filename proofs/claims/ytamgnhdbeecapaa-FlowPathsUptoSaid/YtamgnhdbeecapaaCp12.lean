/- Part 12 of the proof: Fd, Fb. -/
import Derived.Test.YtamgnhdbeecapaaCp10
import Derived.Test.YtamgnhdbeecapaaProg

set_option maxRecDepth 100000
namespace Go.Ax.Ft
open Go Go.Ax Go.Ax.V
noncomputable abbrev PP:Program:=Go.Proofs.Try.prog
theorem y3:rowOf PP 3=some (.int .i64):=by kernel_rfl
theorem zx {n:Nat} {ts:List TV} (h:vh PP n 3 ts):∃m,ts=[ii m]:=by
 cases n with
 |zero=>cases h
 |succ n=>unfold vh at h;rw [y3] at h;obtain⟨m,h1,_⟩:=h;exact⟨m,h1⟩
theorem HV {α:Type} {enc:α->TV} (sz:α->Nat):∀{es:List TV},(∀(j:Nat) (x:TV),es[j]?=some x->∃a,x=enc a/\sz a<=x.qo)->∃l:List α,es=l.map enc/\(l.map sz).sum<=fm es
 |[],h=>⟨[],rfl,Nat.le_refl _⟩
 |x::es,h=>by
  obtain⟨a,rfl,h1⟩:=h 0 x rfl
  obtain⟨l,rfl,h2⟩:=HV sz (es:=es) (fun j x hj=>h (j+1) x (by simpa using hj))
  refine⟨a::l,rfl,?_⟩
  simp only [List.map_cons,List.sum_cons,fm];omega
theorem DM {n:Nat} {t e:TypeId} {ts:List TV} {α:Type} {enc:α->TV} (sz:α->Nat) (hr:rowOf PP t=some (.sl e)) (ha:zj (rowOf PP e)=true) (h:vh PP n t ts)
  (hd:∀(k:Nat) (us:List TV),n=k+1->vh PP k e us->∃a,(.a us:TV)=enc a/\sz a<=fm us+1):∃l:List α,ts=[.l (l.map enc)]/\(l.map sz).sum+1<=fm ts:=by
 cases n with
 |zero=>cases h
 |succ n=>
  unfold vh at h
  rw [hr] at h
  obtain⟨es,rfl,_,he⟩:=h
  obtain⟨l,rfl,hl⟩:=HV sz (es:=es) (fun j x hj=>by
   obtain⟨us,rfl,hu⟩:=he j x hj
   rw [ha]
   obtain⟨a,h1,h2⟩:=hd n us rfl hu
   exact⟨a,h1,by show sz a<=fm us+1;exact h2⟩)
  refine⟨l,rfl,?_⟩
  simp only [fm,TV.qo];omega
theorem AP {α:Type} {f:α->Nat} (hf:∀a,1<=f a):∀l:List α,l.length<=(l.map f).sum
 |[]=>Nat.le_refl _
 |a::r=>by have:=hf a;have:=AP hf r;simp only [List.length_cons,List.map_cons,List.sum_cons];omega
theorem AO {α:Type} {f:α->Nat}:∀{l:List α} {a:α},a∈l->f a<=(l.map f).sum
 |x::r,a,h=>by
  simp only [List.map_cons,List.sum_cons]
  rcases List.mem_cons.1 h with rfl|h
  ·omega
  ·have:=AO (f:=f) h;omega
end Go.Ax.Ft

set_option maxRecDepth 100000
namespace Go.Ax.Ft
open Go Go.Ax Go.Ax.V
theorem y9:rowOf PP 9=some .str:=by kernel_rfl
theorem y22:rowOf PP 22=some (.sl 179):=by kernel_rfl
theorem y23:rowOf PP 23=some (.sl 187):=by kernel_rfl
theorem y24:rowOf PP 24=some (.sl 184):=by kernel_rfl
theorem y26:rowOf PP 26=some (.st [22,23,24]):=by kernel_rfl
theorem y174:rowOf PP 174=some (.sl 9):=by kernel_rfl
theorem Wb:rowOf PP 179=some (.st [9,3,3,9,9,174]):=by kernel_rfl
theorem Wa:rowOf PP 182=some (.sl 225):=by kernel_rfl
theorem V_:rowOf PP 184=some (.st [9,174,182]):=by kernel_rfl
theorem y185:rowOf PP 185=some (.sl 190):=by kernel_rfl
theorem V9:rowOf PP 187=some (.st [9,185]):=by kernel_rfl
theorem V8:rowOf PP 190=some (.st [3,9,3]):=by kernel_rfl
theorem y218:rowOf PP 218=some (.sl 220):=by kernel_rfl
theorem V7:rowOf PP 220=some (.st [3,3,9,218]):=by kernel_rfl
theorem y222:rowOf PP 222=some (.st [3,220,220]):=by kernel_rfl
theorem y223:rowOf PP 223=some (.sl 231):=by kernel_rfl
theorem Tf:rowOf PP 225=some (.st [3,9,9,220,222,182,182,223]):=by kernel_rfl
theorem V6:rowOf PP 231=some (.st [9,9,182]):=by kernel_rfl
theorem rm {n:Nat} {ts:List TV} (h:vh PP n 9 ts):∃x:ByteArray,ts=[ss x]/\x.size+1<=fm ts:=by
 cases n with
 |zero=>cases h
 |succ n=>
  unfold vh at h;rw [y9] at h
  obtain⟨m,rfl,_⟩:=h
  exact⟨m,rfl,by simp only [fm,TV.qo];omega⟩
theorem Mi {n:Nat} {ts:List TV} (h:vh PP n 174 ts):∃l:List ByteArray,ts=[LH l]/\(l.map (fun x=>x.size+1)).sum+1<=fm ts:=by
 cases n with
 |zero=>cases h
 |succ n=>
  unfold vh at h
  rw [y174] at h
  obtain⟨es,rfl,_,he⟩:=h
  obtain⟨l,rfl,hl⟩:=HV (enc:=ss) (fun x=>x.size+1) (es:=es) (fun j x hj=>by
   obtain⟨us,rfl,hu⟩:=he j x hj
   obtain⟨m,rfl,hm⟩:=rm hu
   rw [y9]
   refine⟨m,rfl,?_⟩
   simp only [fm] at hm
   show m.size+1<=(ss m).qo
   omega)
  refine⟨l,rfl,?_⟩
  simp only [fm,TV.qo] at hl ⊢;omega
theorem IF:∀l:List NE,C1 l=(l.map BZ).sum
 |[]=>rfl
 |e::r=>by simp [C1,IF r]
theorem Ez:∀l:List NS,lF l=(l.map L8).sum
 |[]=>rfl
 |e::r=>by simp [lF,Ez r]
theorem II:∀l:List NA,tq l=(l.map Oo).sum
 |[]=>rfl
 |e::r=>by simp [tq,II r]
theorem EZ:∀(n:Nat) (ts:List TV),vh PP n 220 ts->∃e:NE,ts=VP e/\BZ e<=fm ts:=by
 intro n
 induction n using Nat.strongRecOn with
 |_ n ih=>
  intro ts h
  cases n with
  |zero=>cases h
  |succ n=>
   unfold vh at h
   rw [V7] at h
   obtain⟨u0,w0,rfl,h0,u1,w1,rfl,h1,u2,w2,rfl,h2,u3,w3,rfl,h3,rfl⟩:=h
   obtain⟨k,rfl⟩:=zx h0
   obtain⟨nm,rfl⟩:=zx h1
   obtain⟨v,rfl,hv⟩:=rm h2
   obtain⟨ks,rfl,hs⟩:=DM (enc:=Gj) BZ y218 (by rw [V7];rfl) h3 (fun k us hk hu=>by
    obtain⟨e,rfl,he⟩:=ih k (by omega) us hu
    exact⟨e,(Y8 e).symm,by omega⟩)
   refine⟨.mk k nm v ks,by simp only [VP,xq];rfl,?_⟩
   rw [BZ,IF]
   simp only [gD,fm,TV.qo] at hs hv ⊢
   omega
theorem Pa {n:Nat} {ts:List TV} (h:vh PP n 222 ts):∃c:NC,ts=Z_ c/\M7 c<=fm ts:=by
 cases n with
 |zero=>cases h
 |succ n=>
  unfold vh at h
  rw [y222] at h
  obtain⟨u0,w0,rfl,h0,u1,w1,rfl,h1,u2,w2,rfl,h2,rfl⟩:=h
  obtain⟨op,rfl⟩:=zx h0
  obtain⟨l,rfl,hl⟩:=EZ _ _ h1
  obtain⟨r,rfl,hr⟩:=EZ _ _ h2
  refine⟨⟨op,l,r⟩,by simp [Z_],?_⟩
  simp only [gD,M7];omega
theorem O7:∀(n:Nat) (ts:List TV),vh PP n 225 ts->∃s:NS,(.a ts:TV)=NW s/\L8 s<=fm ts:=by
 intro n
 induction n using Nat.strongRecOn with
 |_ n ih=>
  have hb:∀(k:Nat),k < n->∀ts,vh PP k 182 ts->∃l:List NS,ts=[.l (l.map NW)]/\lF l+1<=fm ts:=fun k hk ts h=>by
   obtain⟨l,h1,h2⟩:=DM (enc:=NW) L8 Wa (by rw [Tf];rfl) h (fun m us hm hu=>by
    obtain⟨s,h3,h4⟩:=ih m (by omega) us hu
    exact⟨s,h3,by omega⟩)
   exact⟨l,h1,by rw [Ez];exact h2⟩
  intro ts h
  cases n with
  |zero=>cases h
  |succ n=>
   unfold vh at h
   rw [Tf] at h
   obtain⟨u0,w0,rfl,h0,u1,w1,rfl,h1,u2,w2,rfl,h2,u4,w4,rfl,h4,u5,w5,rfl,h5,u6,w6,rfl,h6,u7,w7,rfl,h7,u8,w8,rfl,h8,rfl⟩:=h
   obtain⟨kind,rfl⟩:=zx h0
   obtain⟨nm,rfl,hnm⟩:=rm h1
   obtain⟨tag,rfl,htg⟩:=rm h2
   obtain⟨e,rfl,he⟩:=EZ _ _ h4
   obtain⟨c,rfl,hc⟩:=Pa h5
   obtain⟨body,rfl,hbd⟩:=hb n (Nat.lt_succ_self n) _ h6
   obtain⟨els,rfl,hel⟩:=hb n (Nat.lt_succ_self n) _ h7
   obtain⟨c7,rfl,har⟩:=DM (enc:=SA) Oo y223 (by rw [V6];rfl) h8 (fun m us hm hu=>by
    cases m with
    |zero=>cases hu
    |succ m=>
     unfold vh at hu
     rw [V6] at hu
     obtain⟨u0,w0,rfl,h0,u1,w1,rfl,h1,u2,w2,rfl,h2,rfl⟩:=hu
     obtain⟨tag,rfl,ht⟩:=rm h0
     obtain⟨var,rfl,hv⟩:=rm h1
     obtain⟨bd,rfl,hb2⟩:=hb m (by omega) _ h2
     refine⟨.mk tag var bd,by simp [SA,xp],?_⟩
     simp only [Oo,gD,fm,TV.qo] at hb2 ht hv ⊢
     omega)
   refine⟨.mk kind nm tag e c body els c7,by simp [NW,xp,CP],?_⟩
   rw [L8,II]
   simp only [gD,fm,TV.qo] at he hc hbd hel har hnm htg ⊢
   omega
def Ry (c:VW):Nat:=c.nm.size+c.src.size+c.dst.size+(c.tags.map (fun x:ByteArray=>x.size+1)).sum+1
def Rx (m:NM):Nat:=m.tag.size+1
def Rv (r:NR):Nat:=r.chan.size+(r.lR.map Rx).sum+1
def Rk (p:NP):Nat:=p.nm.size+(p.vars.map (fun x:ByteArray=>x.size+1)).sum+lF p.body+1
theorem Pb {n:Nat} {ts:List TV} (h:vh PP n 179 ts):∃c:VW,(.a ts:TV)=vg c/\Ry c<=fm ts:=by
 cases n with
 |zero=>cases h
 |succ n=>
  unfold vh at h
  rw [Wb] at h
  obtain⟨u0,w0,rfl,h0,u1,w1,rfl,h1,u2,w2,rfl,h2,u3,w3,rfl,h3,u4,w4,rfl,h4,u5,w5,rfl,h5,rfl⟩:=h
  obtain⟨a0,rfl,b0⟩:=rm h0
  obtain⟨a1,rfl⟩:=zx h1
  obtain⟨a2,rfl⟩:=zx h2
  obtain⟨a3,rfl,b3⟩:=rm h3
  obtain⟨a4,rfl,b4⟩:=rm h4
  obtain⟨a5,rfl,b5⟩:=Mi h5
  refine⟨⟨a0,a1,a2,a3,a4,a5⟩,rfl,?_⟩
  simp only [Ry,gD,fm,TV.qo] at b0 b3 b4 b5 ⊢
  omega
theorem O_ {n:Nat} {ts:List TV} (h:vh PP n 190 ts):∃c:NM,(.a ts:TV)=Qv c/\Rx c<=fm ts:=by
 cases n with
 |zero=>cases h
 |succ n=>
  unfold vh at h
  rw [V8] at h
  obtain⟨u0,w0,rfl,h0,u1,w1,rfl,h1,u2,w2,rfl,h2,rfl⟩:=h
  obtain⟨a0,rfl⟩:=zx h0
  obtain⟨a1,rfl,b1⟩:=rm h1
  obtain⟨a2,rfl⟩:=zx h2
  refine⟨⟨a0,a1,a2⟩,rfl,?_⟩
  simp only [Rx,gD,fm,TV.qo] at b1 ⊢
  omega
theorem O8 {n:Nat} {ts:List TV} (h:vh PP n 187 ts):∃c:NR,(.a ts:TV)=Oj c/\Rv c<=fm ts:=by
 cases n with
 |zero=>cases h
 |succ n=>
  unfold vh at h
  rw [V9] at h
  obtain⟨u0,w0,rfl,h0,u1,w1,rfl,h1,rfl⟩:=h
  obtain⟨a0,rfl,b0⟩:=rm h0
  obtain⟨l,rfl,b1⟩:=DM (enc:=Qv) Rx y185 (by rw [V8];rfl) h1 (fun m us hm hu=>by
   obtain⟨s,h3,h4⟩:=O_ hu
   exact⟨s,h3,by omega⟩)
  refine⟨⟨a0,l⟩,rfl,?_⟩
  simp only [Rv,gD,fm,TV.qo] at b0 b1 ⊢
  omega
theorem O9 {n:Nat} {ts:List TV} (h:vh PP n 184 ts):∃c:NP,(.a ts:TV)=MU c/\Rk c<=fm ts:=by
 cases n with
 |zero=>cases h
 |succ n=>
  unfold vh at h
  rw [V_] at h
  obtain⟨u0,w0,rfl,h0,u1,w1,rfl,h1,u2,w2,rfl,h2,rfl⟩:=h
  obtain⟨a0,rfl,b0⟩:=rm h0
  obtain⟨a1,rfl,b1⟩:=Mi h1
  obtain⟨l,rfl,b2⟩:=DM (enc:=NW) L8 Wa (by rw [Tf];rfl) h2 (fun m us hm hu=>by
   obtain⟨s,h3,h4⟩:=O7 _ _ hu
   exact⟨s,h3,by omega⟩)
  refine⟨⟨a0,a1,l⟩,by simp [MU,xp],?_⟩
  rw [←Ez] at b2
  simp only [Rk,gD,fm,TV.qo] at b0 b1 b2 ⊢
  omega
theorem TK {n:Nat} {ts:List TV} (h:vh PP n 26 ts) (hb:fm ts<=4194304):∃s:D4,(.a ts:TV)=CM s/\M6 s:=by
 cases n with
 |zero=>cases h
 |succ n=>
  unfold vh at h
  rw [y26] at h
  obtain⟨u0,w0,rfl,h0,u1,w1,rfl,h1,u2,w2,rfl,h2,rfl⟩:=h
  obtain⟨cs,rfl,hc⟩:=DM (enc:=vg) Ry y22 (by rw [Wb];rfl) h0 (fun m us hm hu=>by
   obtain⟨c,h3,h4⟩:=Pb hu
   exact⟨c,h3,by omega⟩)
  obtain⟨rs,rfl,hr⟩:=DM (enc:=Oj) Rv y23 (by rw [V9];rfl) h1 (fun m us hm hu=>by
   obtain⟨c,h3,h4⟩:=O8 hu
   exact⟨c,h3,by omega⟩)
  obtain⟨ps,rfl,hp⟩:=DM (enc:=MU) Rk y24 (by rw [V_];rfl) h2 (fun m us hm hu=>by
   obtain⟨c,h3,h4⟩:=O9 hu
   exact⟨c,h3,by omega⟩)
  refine⟨⟨cs,rs,ps⟩,rfl,?_⟩
  simp only [gD,fm] at hb hc hr hp
  have l1:=AP (f:=Ry) (fun c=>by simp [Ry]) cs
  have l2:=AP (f:=Rv) (fun c=>by simp [Rv]) rs
  have l3:=AP (f:=Rk) (fun c=>by simp [Rk]) ps
  have ml:∀(l:List ByteArray),l.length<=(l.map (fun x:ByteArray=>x.size+1)).sum:=AP (fun c=>by omega)
  have mm:∀(l:List ByteArray) (t:ByteArray),t∈l->t.size+1<=(l.map (fun x:ByteArray=>x.size+1)).sum:=fun l t ht=>AO (f:=fun x:ByteArray=>x.size+1) ht
  have m1:∀c∈cs,Ry c<=4194304:=fun c hc'=>by have:=AO (f:=Ry) hc';omega
  have m2:∀c∈rs,Rv c<=4194304:=fun c hc'=>by have:=AO (f:=Rv) hc';omega
  have m3:∀c∈ps,Rk c<=4194304:=fun c hc'=>by have:=AO (f:=Rk) hc';omega
  refine⟨?_,?_,?_,fun c hc'=>?_,fun c hc'=>?_,fun c hc'=>?_,fun c hc'=>?_,fun c hc'=>?_,fun c hc'=>?_,fun c hc'=>?_⟩
  ·show cs.length<=_;omega
  ·show rs.length<=_;omega
  ·show ps.length<=_;omega
  ·have:=m1 c hc';have:=ml c.tags;simp only [Ry] at *;omega
  ·have:=m2 c hc';have:=AP (f:=Rx) (fun c=>by simp [Rx]) c.lR;simp only [Rv] at *;omega
  ·have:=m3 c hc';have:=ml c.vars;simp only [Rk] at *;omega
  ·have:=m3 c hc';simp only [Rk] at *;omega
  ·have:=m1 c hc'
   have h3:∀t∈c.tags,t.size+1<=_:=mm c.tags
   simp only [Ry] at this
   exact⟨by omega,by omega,by omega,fun t ht=>by have:=h3 t ht;omega⟩
  ·have:=m2 c hc'
   have h3:∀m∈c.lR,Rx m<=_:=fun m hm=>AO (f:=Rx) hm
   simp only [Rv] at this
   exact⟨by omega,fun t ht=>by have:=h3 t ht;simp only [Rx] at this;omega⟩
  ·have:=m3 c hc'
   have h3:∀t∈c.vars,t.size+1<=_:=mm c.vars
   simp only [Rk] at this
   exact⟨by omega,fun t ht=>by have:=h3 t ht;omega⟩
end Go.Ax.Ft
