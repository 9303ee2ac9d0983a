/- Part 11 of the proof: Fd. -/
import Derived.Test.YtamgnhdbeecapaaCr9
import Derived.Test.YtamgnhdbeecapaaProg

set_option linter.unusedSimpArgs false
set_option linter.unusedVariables false
set_option maxRecDepth 100000
namespace Go.Ax.Ft
open Go Go.Ax Go.Ax.V
noncomputable abbrev PP:Program:=Go.Proofs.Try.prog
theorem y3:rowOf PP 3=some (.int .i64):=by kernel_rfl
theorem y27:rowOf PP 27=some (.sl 3):=by kernel_rfl
theorem y28:rowOf PP 28=some (.sl 27):=by kernel_rfl
theorem y32:rowOf PP 32=some (.sl 151):=by kernel_rfl
theorem y90:rowOf PP 90=some (.sl 92):=by kernel_rfl
theorem y92:rowOf PP 92=some (.st [3,3,3,90]):=by kernel_rfl
theorem y103:rowOf PP 103=some (.st [3,92,92]):=by kernel_rfl
theorem y108:rowOf PP 108=some (.sl 169):=by kernel_rfl
theorem y110:rowOf PP 110=some (.st [32,108]):=by kernel_rfl
theorem y151:rowOf PP 151=some (.st [3,3,3,3,3,28]):=by kernel_rfl
theorem y167:rowOf PP 167=some (.sl 210):=by kernel_rfl
theorem y169:rowOf PP 169=some (.st [3,167]):=by kernel_rfl
theorem y208:rowOf PP 208=some (.sl 212):=by kernel_rfl
theorem y210:rowOf PP 210=some (.st [3,3,3,3,92,103,167,167,208]):=by kernel_rfl
theorem y212:rowOf PP 212=some (.st [3,3,167]):=by kernel_rfl
theorem rd_int {n:Nat} {ts:List TV} (h:TyT PP n 3 ts):∃m,ts=[ii m]:=by
 cases n with
 |zero=>cases h
 |succ n=>unfold TyT at h;rw [y3] at h;obtain ⟨m,h1,_⟩:=h;exact ⟨m,h1⟩
theorem rd_list {α:Type} {enc:α→TV} (sz:α→Nat):∀{es:List TV},(∀(j:Nat) (x:TV),es[j]?=some x→∃a,x=enc a∧sz a≤x.bulk)→∃l:List α,es=l.map enc∧(l.map sz).sum≤bulks es
 |[],h=>⟨[],rfl,Nat.le_refl _⟩
 |x :: es,h=>by
  obtain ⟨a,rfl,h1⟩:=h 0 x rfl
  obtain ⟨l,rfl,h2⟩:=rd_list sz (es:=es) (fun j x hj=>h (j + 1) x (by simpa using hj))
  refine ⟨a :: l,rfl,?_⟩
  simp only [List.map_cons,List.sum_cons,bulks];omega
theorem rd_sl {n:Nat} {t e:TypeId} {ts:List TV} {α:Type} {enc:α→TV} (sz:α→Nat) (hr:rowOf PP t=some (.sl e)) (ha:aggB (rowOf PP e)=true) (h:TyT PP n t ts)
  (hd:∀(k:Nat) (us:List TV),n=k + 1→TyT PP k e us→∃a,(.a us:TV)=enc a∧sz a≤bulks us + 1):∃l:List α,ts=[.l (l.map enc)]∧(l.map sz).sum + 1≤bulks ts:=by
 cases n with
 |zero=>cases h
 |succ n=>
  unfold TyT at h
  rw [hr] at h
  obtain ⟨es,rfl,_,he⟩:=h
  obtain ⟨l,rfl,hl⟩:=rd_list sz (es:=es) (fun j x hj=>by
   obtain ⟨us,rfl,hu⟩:=he j x hj
   rw [ha]
   obtain ⟨a,h1,h2⟩:=hd n us rfl hu
   exact ⟨a,h1,by show sz a≤bulks us + 1;exact h2⟩)
  refine ⟨l,rfl,?_⟩
  simp only [bulks,TV.bulk];omega
theorem szEs_sum:∀l:List Ex,szEs l=(l.map szE).sum
 |[]=>rfl
 |e :: r=>by simp [szEs,szEs_sum r]
theorem szSs_sum:∀l:List Sm,szSs l=(l.map szS).sum
 |[]=>rfl
 |e :: r=>by simp [szSs,szSs_sum r]
theorem szAs_sum:∀l:List Ar,szAs l=(l.map szA).sum
 |[]=>rfl
 |e :: r=>by simp [szAs,szAs_sum r]
theorem rd_expr:∀(n:Nat) (ts:List TV),TyT PP n 92 ts→∃e:Ex,ts=cE e∧szE e≤bulks ts:=by
 intro n
 induction n using Nat.strongRecOn with
 |_ n ih=>
  intro ts h
  cases n with
  |zero=>cases h
  |succ n=>
   unfold TyT at h
   rw [y92] at h
   obtain ⟨u0,w0,rfl,h0,u1,w1,rfl,h1,u2,w2,rfl,h2,u3,w3,rfl,h3,rfl⟩:=h
   obtain ⟨k,rfl⟩:=rd_int h0
   obtain ⟨nm,rfl⟩:=rd_int h1
   obtain ⟨v,rfl⟩:=rd_int h2
   obtain ⟨ks,rfl,hs⟩:=rd_sl (enc:=encE) szE y90 (by rw [y92];rfl) h3 (fun k us hk hu=>by
    obtain ⟨e,rfl,he⟩:=ih k (by omega) us hu
    exact ⟨e,(encE_a e).symm,by omega⟩)
   refine ⟨.mk k nm v ks,by simp only [cE,encEs_map];rfl,?_⟩
   rw [szE,szEs_sum]
   simp only [bulks_append,bulks,TV.bulk] at hs ⊢
   omega
theorem rd_cond {n:Nat} {ts:List TV} (h:TyT PP n 103 ts):∃c:Co,ts=cC c∧szC c≤bulks ts:=by
 cases n with
 |zero=>cases h
 |succ n=>
  unfold TyT at h
  rw [y103] at h
  obtain ⟨u0,w0,rfl,h0,u1,w1,rfl,h1,u2,w2,rfl,h2,rfl⟩:=h
  obtain ⟨op,rfl⟩:=rd_int h0
  obtain ⟨l,rfl,hl⟩:=rd_expr _ _ h1
  obtain ⟨r,rfl,hr⟩:=rd_expr _ _ h2
  refine ⟨⟨op,l,r⟩,by simp [cC],?_⟩
  simp only [bulks_append,szC];omega
theorem rd_stmt:∀(n:Nat) (ts:List TV),TyT PP n 210 ts→∃s:Sm,(.a ts:TV)=encS s∧szS s≤bulks ts:=by
 intro n
 induction n using Nat.strongRecOn with
 |_ n ih=>
  have hb:∀(k:Nat),k < n→∀ts,TyT PP k 167 ts→∃l:List Sm,ts=[.l (l.map encS)]∧szSs l + 1≤bulks ts:=fun k hk ts h=>by
   obtain ⟨l,h1,h2⟩:=rd_sl (enc:=encS) szS y167 (by rw [y210];rfl) h (fun m us hm hu=>by
    obtain ⟨s,h3,h4⟩:=ih m (by omega) us hu
    exact ⟨s,h3,by omega⟩)
   exact ⟨l,h1,by rw [szSs_sum];exact h2⟩
  intro ts h
  cases n with
  |zero=>cases h
  |succ n=>
   unfold TyT at h
   rw [y210] at h
   obtain ⟨u0,w0,rfl,h0,u1,w1,rfl,h1,u2,w2,rfl,h2,u3,w3,rfl,h3,u4,w4,rfl,h4,u5,w5,rfl,h5,u6,w6,rfl,h6,u7,w7,rfl,h7,u8,w8,rfl,h8,rfl⟩:=h
   obtain ⟨kind,rfl⟩:=rd_int h0
   obtain ⟨var,rfl⟩:=rd_int h1
   obtain ⟨chan,rfl⟩:=rd_int h2
   obtain ⟨tag,rfl⟩:=rd_int h3
   obtain ⟨e,rfl,he⟩:=rd_expr _ _ h4
   obtain ⟨c,rfl,hc⟩:=rd_cond h5
   obtain ⟨body,rfl,hbd⟩:=hb n (Nat.lt_succ_self n) _ h6
   obtain ⟨els,rfl,hel⟩:=hb n (Nat.lt_succ_self n) _ h7
   obtain ⟨arms,rfl,har⟩:=rd_sl (enc:=encA) szA y208 (by rw [y212];rfl) h8 (fun m us hm hu=>by
    cases m with
    |zero=>cases hu
    |succ m=>
     unfold TyT at hu
     rw [y212] at hu
     obtain ⟨u0,w0,rfl,h0,u1,w1,rfl,h1,u2,w2,rfl,h2,rfl⟩:=hu
     obtain ⟨tag,rfl⟩:=rd_int h0
     obtain ⟨var,rfl⟩:=rd_int h1
     obtain ⟨bd,rfl,hb2⟩:=hb m (by omega) _ h2
     refine ⟨.mk tag var bd,by simp [encA,encSs_map],?_⟩
     simp only [szA,bulks_append,bulks,TV.bulk] at hb2 ⊢
     omega)
   refine ⟨.mk kind var chan tag e c body els arms,by simp [encS,encSs_map,encAs_map],?_⟩
   rw [szS,szAs_sum]
   simp only [bulks_append,bulks,TV.bulk] at he hc hbd hel har ⊢
   omega
theorem rd_row {n:Nat} {ts:List TV} (h:TyT PP n 27 ts):∃l:List Int,ts=[encR l]∧l.length≤bulks ts:=by
 cases n with
 |zero=>cases h
 |succ n=>
  unfold TyT at h
  rw [y27] at h
  obtain ⟨es,rfl,_,he⟩:=h
  obtain ⟨l,rfl,hl⟩:=rd_list (enc:=ii) (fun _=>1) (es:=es) (fun j x hj=>by
   obtain ⟨us,rfl,hu⟩:=he j x hj
   obtain ⟨m,rfl⟩:=rd_int hu
   rw [y3]
   exact ⟨m,rfl,Nat.le_refl _⟩)
  refine ⟨l,rfl,?_⟩
  have hs:∀l:List Int,(l.map (fun _=>1)).sum=l.length:=fun l=>by
   induction l with
   |nil=>rfl
   |cons x r ih=>simp only [List.map_cons,List.sum_cons,List.length_cons,ih];omega
  rw [hs] at hl
  simp only [bulks,TV.bulk]
  omega
def szC1 (c:Ch):Nat:=c.rule.length + (c.rule.map List.length).sum + 1
theorem rd_chan {n:Nat} {ts:List TV} (h:TyT PP n 151 ts):∃c:Ch,(.a ts:TV)=encCh c∧szC1 c≤bulks ts:=by
 cases n with
 |zero=>cases h
 |succ n=>
  unfold TyT at h
  rw [y151] at h
  obtain ⟨u0,w0,rfl,h0,u1,w1,rfl,h1,u2,w2,rfl,h2,u3,w3,rfl,h3,u4,w4,rfl,h4,u5,w5,rfl,h5,rfl⟩:=h
  obtain ⟨a0,rfl⟩:=rd_int h0
  obtain ⟨a1,rfl⟩:=rd_int h1
  obtain ⟨a2,rfl⟩:=rd_int h2
  obtain ⟨a3,rfl⟩:=rd_int h3
  obtain ⟨a4,rfl⟩:=rd_int h4
  cases n with
  |zero=>cases h5
  |succ n=>
   unfold TyT at h5
   rw [y28] at h5
   obtain ⟨es,rfl,_,he⟩:=h5
   obtain ⟨l,rfl,hl⟩:=rd_list (enc:=encR) (fun r=>r.length + 1) (es:=es) (fun j x hj=>by
    obtain ⟨us,rfl,hu⟩:=he j x hj
    obtain ⟨m,rfl,hm⟩:=rd_row hu
    rw [y27]
    refine ⟨m,rfl,?_⟩
    have e:(encR m).bulk=m.length + 1:=by
     show bulks (m.map ii) + 1=_
     have:∀m:List Int,bulks (m.map ii)=m.length:=fun m=>by
      induction m with
      |nil=>rfl
      |cons x r ih=>simp only [List.map_cons,bulks,TV.bulk,ih,List.length_cons];omega
     rw [this]
    show m.length + 1≤(encR m).bulk
    omega)
   refine ⟨⟨a0,a1,a2,a3,a4,l⟩,rfl,?_⟩
   have hs:∀l:List (List Int),(l.map (fun r=>r.length + 1)).sum=l.length + (l.map List.length).sum:=fun l=>by
    induction l with
    |nil=>rfl
    |cons x r ih=>simp only [List.map_cons,List.sum_cons,List.length_cons,ih];omega
   rw [hs] at hl
   simp only [szC1,bulks_append,bulks,TV.bulk]
   omega
theorem rd_proc {n:Nat} {ts:List TV} (h:TyT PP n 169 ts):∃x:Pr,(.a ts:TV)=encPr x∧szSs x.body + 1≤bulks ts:=by
 cases n with
 |zero=>cases h
 |succ n=>
  unfold TyT at h
  rw [y169] at h
  obtain ⟨u0,w0,rfl,h0,u1,w1,rfl,h1,rfl⟩:=h
  obtain ⟨vars,rfl⟩:=rd_int h0
  obtain ⟨l,rfl,hl⟩:=rd_sl (enc:=encS) szS y167 (by rw [y210];rfl) h1 (fun m us hm hu=>by
   obtain ⟨s,h3,h4⟩:=rd_stmt _ _ hu
   exact ⟨s,h3,by omega⟩)
  refine ⟨⟨vars,l⟩,by simp [encPr,encSs_map],?_⟩
  simp only [bulks_append,bulks,TV.bulk,szSs_sum] at hl ⊢
  omega
theorem sum_len {α:Type} {f:α→Nat} (hf:∀a,1≤f a):∀l:List α,l.length≤(l.map f).sum
 |[]=>Nat.le_refl _
 |a :: r=>by have:=hf a;have:=sum_len hf r;simp only [List.length_cons,List.map_cons,List.sum_cons];omega
theorem sum_mem {α:Type} {f:α→Nat}:∀{l:List α} {a:α},a∈l→f a≤(l.map f).sum
 |x :: r,a,h=>by
  simp only [List.map_cons,List.sum_cons]
  rcases List.mem_cons.1 h with rfl | h
  ·omega
  ·have:=sum_mem (f:=f) h;omega
theorem rd_prog {n:Nat} {ts:List TV} (h:TyT PP n 110 ts) (hb:bulks ts≤4194304):∃p:Pg,(.a ts:TV)=encPg p∧szPg p:=by
 cases n with
 |zero=>cases h
 |succ n=>
  unfold TyT at h
  rw [y110] at h
  obtain ⟨u0,w0,rfl,h0,u1,w1,rfl,h1,rfl⟩:=h
  obtain ⟨cs,rfl,hc⟩:=rd_sl (enc:=encCh) szC1 y32 (by rw [y151];rfl) h0 (fun m us hm hu=>by
   obtain ⟨c,h3,h4⟩:=rd_chan hu
   exact ⟨c,h3,by omega⟩)
  obtain ⟨ps,rfl,hp⟩:=rd_sl (enc:=encPr) (fun x=>szSs x.body + 1) y108 (by rw [y169];rfl) h1 (fun m us hm hu=>by
   obtain ⟨c,h3,h4⟩:=rd_proc hu
   exact ⟨c,h3,by omega⟩)
  refine ⟨⟨cs,ps⟩,rfl,?_⟩
  simp only [bulks_append,bulks] at hb hc hp
  have l1:=sum_len (f:=szC1) (fun c=>by simp [szC1]) cs
  have l2:=sum_len (f:=fun x:Pr=>szSs x.body + 1) (fun c=>by omega) ps
  have m1:∀c∈cs,szC1 c≤(cs.map szC1).sum:=fun c hc=>sum_mem hc
  have m2:∀x∈ps,szSs x.body + 1≤(ps.map (fun x:Pr=>szSs x.body + 1)).sum:=fun x hx=>sum_mem (f:=fun x:Pr=>szSs x.body + 1) hx
  refine ⟨?_,?_,fun c hc'=>?_,fun c hc' r hr=>?_,fun x hx=>?_⟩
  ·show cs.length≤_;omega
  ·show ps.length≤_;omega
  ·have:=m1 c hc';simp only [szC1] at this;omega
  ·have:=m1 c hc'
   have h3:=sum_mem (f:=List.length) hr
   simp only [szC1] at this;omega
  ·have:=m2 x hx;omega
end Go.Ax.Ft
