/- Part 5 of the proof: Ax24, Ax25, Ax26, Ax27, V0, LpIR, V1, V2, V3. -/
import Derived.Test.YtamgnhdbeecapaaCp4
import Derived.LoopN

namespace Go.Ax
section
variable {cf:qc} {nt n0:Nat} {H:cw} {nx:Nat}
theorem LN (hup:Bn cf) {ao:cj} {st st1:St} {r:Rec} (hd:gp cf nt n0 ao st=some (st1,r)):st.nx<=st1.nx:=by
 have hcall:∀{f:Nat} {args:List AV} {m:Mode} {v:AV} {H':cw} {nx':Nat} {jx:List Rd} {gN:Vy},i_ cf n0 f args m st.H st.nx=some (v,H',nx',jx,gN)->st.nx<=nx':=by
  intro f args m v H' nx' jx gN h
  cases m with
  |share=>
   simp only [i_] at h
   split at h
   ·rename_i hc;cases h;exact hup _ _ _ _ _ _ _ hc
   ·cases h
  |borrow=>
   simp only [i_,cond_eq_ite] at h
   split at h<;>split at h<;>first|(cases h;exact Nat.le_refl _)|cases h
 unfold gp at hd
 rw [cond_eq_ite] at hd
 split at hd
 ·split at hd
  ·cases hd
  ·rename_i v H nx jx gN hE
   split at hd
   ·cases hd
   ·cases hd
    unfold oD at hE
    rw [cond_eq_ite] at hE
    split at hE
    ·split at hE
     ·split at hE
      ·cases hE
      ·split at hE
       ·cases hE;exact Nat.le_refl _
       ·cases hE
     ·cases hE
    ·unfold Ap at hE
     split at hE
     ·split at hE
      ·split at hE
       ·rename_i hrun;cases hE;exact BH hrun
       ·cases hE
      ·cases hE
     ·exact hcall hE
     ·split at hE
      ·exact hcall hE
      ·cases hE
 ·split at hd
  ·cases hd
  ·cases hd;exact Nat.le_refl _
theorem ER (hup:Bn cf):∀{al:List cj} {st st':St} {rs:List Rec},k9 cf nt n0 al st=some (st',rs)->st.nx<=st'.nx
 |[],st,st',rs,h=>by cases h;exact Nat.le_refl _
 |ao::al,st,st',rs,h=>by
  simp only [k9] at h
  split at h
  ·cases h
  ·rename_i st1 r h1
   split at h
   ·cases h
   ·rename_i h2
    cases h
    exact Nat.le_trans (LN hup h1) (ER hup h2)
end
def DG (ex:mq):Prop:=∀nt ac st x st',ex nt ac st=some (x,st')->st.nx<=st'.nx
theorem Kd {ex:mq} {cf:qc} (h1:DG ex) (h2:Bn cf):DG (dr ex cf):=by
 intro nt ac st x st' h
 unfold dr at h
 split at h
 ·cases h;exact Nat.le_refl _
 ·split at h
  ·rename_i hr;cases h;exact GG h2 hr
  ·cases h
 ·split at h
  ·rename_i hr
   cases h
   unfold k8 at hr
   split at hr
   ·cases hr
   ·rename_i hrun
    rw [cond_eq_ite] at hr
    split at hr
    ·cases hr;exact ER h2 hrun
    ·cases hr
  ·cases h
 ·split at h
  ·rename_i hr;exact Nat.le_trans (h1 _ _ _ _ _ hr) (h1 _ _ _ _ _ h)
  ·exact h1 _ _ _ _ _ h
 ·split at h
  ·exact h1 _ _ _ _ _ h
  ·exact h1 _ _ _ _ _ h
  ·cases h
 ·split at h
  ·rename_i hr
   rw [cond_eq_ite] at h
   split at h
   ·cases h;exact h1 _ _ _ _ _ hr
   ·cases h;exact h1 _ _ _ _ _ hr
  ·exact h1 _ _ _ _ _ h
 ·split at h
  ·rename_i hr;exact Nat.le_trans (h1 _ _ _ _ _ hr) (h1 _ _ _ _ _ h)
  ·exact h1 _ _ _ _ _ h
 ·cases h;exact Nat.le_refl _
 ·cases h;exact Nat.le_refl _
theorem HR {l:List wz} {st:St} {v:AV} {H':cw} {nx':Nat} (h:zd l st=some (v,H',nx')):H'=st.H/\nx'=st.nx:=by
 unfold zd at h
 split at h
 ·cases h;exact⟨rfl,rfl⟩
 ·cases h;exact⟨rfl,rfl⟩
 ·cases h
theorem NL {prog:Map bk} {ex:mq} (h1:DG ex):Bn (rz prog ex):=by
 intro f args H nx v H' nx' h
 unfold rz at h
 split at h
 ·cases h
 ·rw [cond_eq_ite] at h
  split at h
  ·split at h
   ·rename_i hr;obtain⟨_,rfl⟩:=HR h;exact h1 _ _ _ _ _ hr
   ·rename_i hr;obtain⟨_,rfl⟩:=HR h;exact h1 _ _ _ _ _ hr
   ·cases h
  ·cases h
theorem G6 (prog:Map bk):∀k,DG (interp prog k).code/\Bn (interp prog k).fn
 |0=>⟨fun _ _ _ _ _ h=>(by cases h),fun _ _ _ _ _ _ _ h=>(by cases h)⟩
 |k+1=>by
  obtain⟨h1,h2⟩:=G6 prog k
  exact⟨Kd h1 h2,NL h1⟩
def uj (P:Program):Code->ku->Bool
 |.skip,.skip=>true
 |.region _ ops draw,.cr al=>!draw&&BQ P ops ops.toList al
 |.region _ ops draw,.d_ al ahead pairs=>draw&&Mw P ops al ahead pairs
 |.seq a b,.seq a' b'=>uj P a a'&&uj P b b'
 |.cond c a b,.cond c' a' b'=>e8 c c'&&uj P a a'&&uj P b b'
 |.block id c,.block id' c'=>Nat.beq id id'&&uj P c c'
 |.loop c,.loop c'=>uj P c c'
 |.exit id,.exit id'=>Nat.beq id id'
 |.ret,.ret=>true
 |_,_=>false
def gS.Uy:gS->Exit
 |.normal=>.normal
 |.exit id=>.exit id
 |.ret=>.ret
def Tc (P:Program) (X:Code->(Exit->Act->World->Prop)->Act->World->Prop) (nt:Nat) (st:St) (x:gS) (st':St) (c:Code):Prop:=
 ∀(top:Nat) (φ:pq) (K:Nat->Prop) (w:World) (a:Act) (Q:Exit->Act->World->Prop),st'.nx<=top->gz top φ K st.H.get st.nx w->Bo φ K w st.env a->a.tmps.size=nt->a.defers=[]->(∀a' w',Post top φ K st w nt st' a' w'->Q x.Uy a' w')->X c Q a w
def F7 (P:Program) (ex:mq):Prop:=∀nt ac st x st',ex nt ac st=some (x,st')->∀c,uj P c ac=true->Tc P (fun c Q a w=>c.wp P Q a w) nt st x st' c
def IC (P:Program) (ex:mq) (n:Nat):Prop:=∀nt ac st x st',ex nt (.loop ac) st=some (x,st')->∀c,uj P c ac=true->Tc P (fun c Q a w=>Code.rounds P c Q n a w) nt st x st' c
theorem Mx {P:Program} {ex:mq} {cf:qc} {n:Nat} (h1:F7 P ex) (hu:DG ex) (hl:IC P ex n):IC P (dr ex cf) (n+1):=by
 intro nt ac st x st' h c hm top φ K w a Q ht s he hs hd hQ
 simp only [dr] at h
 rw [rounds_succ]
 split at h
 ·rename_i st1 hr
  have hle:=hu _ _ _ _ _ h
  refine h1 nt ac st .normal st1 hr c hm top φ K w a _ (Nat.le_trans hle ht) s he hs hd (fun a1 w1 hp=>?_)
  obtain⟨φ1,K1,g,q1,q2,q3⟩:=hp
  exact hl nt ac st1 x st' h c hm top φ1 K1 w1 a1 Q ht g.Cd q1 q2 q3 (fun a' w' hp'=>hQ a' w' (hp'.trans g))
 ·rename_i hne
  refine h1 nt ac st x st' h c hm top φ K w a _ ht s he hs hd (fun a1 w1 hp=>?_)
  cases x with
  |normal=>exact(hne _ h).elim
  |exit id=>exact hQ a1 w1 hp
  |ret=>exact hQ a1 w1 hp
theorem SG {P:Program} {ex:mq} {cf:qc} {n:Nat} (F_:P.follows .mixedOrders=true) (h1:F7 P ex) (hu:DG ex) (hl:IC P ex n) (hcf:zk P cf) (hup:Bn cf):F7 P (dr ex cf):=by
 intro nt ac st x st' h c hm top φ K w a Q ht s he hs hd hQ
 cases ac with
 |skip=>
  cases c<;>first|cases hm|skip
  cases h
  exact wp_skip (hQ a w ⟨φ,K,ia.refl s,he,hs,hd⟩)
 |cr al=>
  cases c<;>first|cases hm|skip
  rename_i id ops draw
  simp only [uj,Bool.and_eq_true,Bool.not_eq_true'] at hm
  obtain⟨rfl,hm⟩:=hm
  simp only [dr] at h
  split at h
  ·rename_i st1 hr
   cases h
   exact wp_region_list (regs hcf hup ops.toList al st st' a w φ K hm hr ht s he hs hd hQ)
  ·cases h
 |d_ al ahead pairs=>
  cases c<;>first|cases hm|skip
  rename_i id ops draw
  simp only [uj,Bool.and_eq_true] at hm
  obtain⟨rfl,hm⟩:=hm
  simp only [dr] at h
  split at h
  ·rename_i st1 hr
   cases h
   exact SB hcf hup F_ hm hr ht s he hs hd hQ
  ·cases h
 |seq a1 b1=>
  cases c<;>first|cases hm|skip
  rename_i ca cb
  simp only [uj,Bool.and_eq_true] at hm
  simp only [dr] at h
  refine wp_seq ?_
  split at h
  ·rename_i st1 hr
   have hle:=hu _ _ _ _ _ h
   refine h1 nt a1 st .normal st1 hr ca hm.1 top φ K w a _ (Nat.le_trans hle ht) s he hs hd (fun a1 w1 hp=>?_)
   obtain⟨φ1,K1,g,q1,q2,q3⟩:=hp
   exact h1 nt b1 st1 x st' h cb hm.2 top φ1 K1 w1 a1 Q ht g.Cd q1 q2 q3 (fun a' w' hp'=>hQ a' w' (hp'.trans g))
  ·rename_i hne
   refine h1 nt a1 st x st' h ca hm.1 top φ K w a _ ht s he hs hd (fun a1 w1 hp=>?_)
   cases x with
   |normal=>exact(hne _ h).elim
   |exit id=>exact hQ a1 w1 hp
   |ret=>exact hQ a1 w1 hp
 |cond c0 a1 b1=>
  cases c<;>first|cases hm|skip
  rename_i cc ca cb
  simp only [uj,Bool.and_eq_true] at hm
  simp only [dr] at h
  have hr:=he.Z5 _ _ hm.1.1
  split at h
  ·rename_i hc
   rw [hc] at hr
   exact wp_cond_true (lp hr) (h1 nt a1 st x st' h ca hm.1.2 top φ K w a Q ht s he hs hd hQ)
  ·rename_i hc
   rw [hc] at hr
   exact wp_cond_false (lp hr) (h1 nt b1 st x st' h cb hm.2 top φ K w a Q ht s he hs hd hQ)
  ·cases h
 |block id c0=>
  cases c<;>first|cases hm|skip
  rename_i id' cc
  simp only [uj,Bool.and_eq_true,Nat.beq_eq] at hm
  obtain⟨rfl,hm⟩:=hm
  simp only [dr] at h
  refine wp_block ?_
  split at h
  ·rename_i i st1 hr
   rw [cond_eq_ite] at h
   split at h
   ·rename_i hi
    rw [Nat.beq_eq] at hi
    cases h
    refine h1 nt c0 st (.exit i) st' hr cc hm top φ K w a _ ht s he hs hd (fun a1 w1 hp=>?_)
    simp only [gS.Uy,Exit.inBlock,if_pos hi]
    exact hQ a1 w1 hp
   ·rename_i hi
    rw [Nat.beq_eq] at hi
    cases h
    refine h1 nt c0 st (.exit i) st' hr cc hm top φ K w a _ ht s he hs hd (fun a1 w1 hp=>?_)
    simp only [gS.Uy,Exit.inBlock,if_neg hi]
    exact hQ a1 w1 hp
  ·rename_i hne
   refine h1 nt c0 st x st' h cc hm top φ K w a _ ht s he hs hd (fun a1 w1 hp=>?_)
   cases x with
   |normal=>exact hQ a1 w1 hp
   |exit id=>exact(hne _ _ h).elim
   |ret=>exact hQ a1 w1 hp
 |loop c0=>
  cases c<;>first|cases hm|skip
  rename_i cc
  exact wp_loop_rounds (n+1) (Mx (cf:=cf) h1 hu hl nt c0 st x st' h cc hm top φ K w a Q ht s he hs hd hQ)
 |exit id=>
  cases c<;>first|cases hm|skip
  simp only [uj,Nat.beq_eq] at hm
  subst hm
  cases h
  exact wp_exit (hQ a w ⟨φ,K,ia.refl s,he,hs,hd⟩)
 |ret=>
  cases c<;>first|cases hm|skip
  cases h
  exact wp_ret (hQ a w ⟨φ,K,ia.refl s,he,hs,hd⟩)
def JF (P:Program):List ResultVar->List wz->Bool
 |[],[]=>true
 |.tmp t::l,.tmp t'::l'=>Nat.beq t t'&&JF P l l'
 |.cell a t::l,.cell a' sz::l'=>Nat.beq a a'&&EJ P t sz&&JF P l l'
 |_,_=>false
def PT (P:Program) (fn:Func) (c:Code) (af:bk):Bool:=Nat.beq fn.ntmps af.nt&&Nat.ble af.params af.nt&&uj P c af.body&&JF P fn.results.toList af.res
def bn (P:Program) (f:Nat) (af:bk):Prop:=(∃fn c,P.funcs[f]?=some fn/\fn.body=some c/\PT P fn c af=true)/\∀args w,(callFunc f args).run P w=.ok (.enter f args) w
theorem JK:∀(vs:List AV) (i:Nat) (e:Env) (t:Nat),ev (je vs i e) (.t t)=if i<=t/\t < i+vs.length then vs.getD (t - i) j7 else ev e (.t t)
 |[],i,e,t=>by simp [je];intro h1 h2;omega
 |v::vs,i,e,t=>by
  rw [je,JK vs (i+1) _ t,LA]
  by_cases h1:t=i
  ·subst h1
   rw [if_neg (by omega),if_pos rfl,if_pos (by simp)]
   simp
  ·rw [if_neg h1]
   by_cases h2:i+1<=t/\t < i+1+vs.length
   ·rw [if_pos h2,if_pos (by simp;omega),show t - i=(t - (i+1))+1 by omega]
    simp
   ·rw [if_neg h2,if_neg (by simp;omega)]
section
variable {top:Nat} {P:Program} {φ:pq} {K:Nat->Prop} {w:World} {st:St} {a:Act}
def EX (tmps:Array Value):ResultVar->Sem Value
 |.tmp t=>pure (tmps.getD t undef)
 |.cell b t=>do loadVar t (←asAddr (tmps.getD b undef))
theorem KZ (fn:Func) (tmps:Array Value):results fn tmps=(do let vs ←fn.results.mapM (EX tmps);pure (if h:vs.size=1 then vs[0] else .tuple vs)):=by
 rfl
theorem No (s:gz top φ K st.H.get st.nx w) (he:Bo φ K w st.env a):∀(l:List ResultVar) (l':List wz) (vs:List AV),JF P l l'=true->lN (mz st.env st.H) l'=some vs->
  ∃Vs:List Value,(l.mapM (EX a.tmps)).run P w=.ok Vs w/\Vs.length=vs.length/\∀(j:Nat) (v:AV) (V:Value),vs[j]?=some v->Vs[j]?=some V->ck φ K w v V:=by
 intro l
 induction l with
 |nil=>
  intro l' vs hm hv
  cases l' with
  |nil=>cases hv;exact⟨[],rfl,rfl,fun j v V h=>by simp at h⟩
  |cons _ _=>cases hm
 |cons r l ih=>
  intro l' vs hm hv
  cases l' with
  |nil=>cases r<;>cases hm
  |cons r' l'=>
   rw [ic] at hv
   cases h1:mz st.env st.H r' with
   |none=>rw [h1] at hv;cases hv
   |some v=>
    rw [h1] at hv
    simp only at hv
    cases h2:lN (mz st.env st.H) l' with
    |none=>rw [h2] at hv;cases hv
    |some vs'=>
     rw [h2] at hv
     cases hv
     have fin:∀V:Value,ck φ K w v V->JF P l l'=true->(EX a.tmps r).run P w=.ok V w->
       ∃Vs:List Value,((r::l).mapM (EX a.tmps)).run P w=.ok Vs w/\Vs.length=(v::vs').length/\∀(j:Nat) (v':AV) (V':Value),(v::vs')[j]?=some v'->Vs[j]?=some V'->ck φ K w v' V':=by
      intro V hV hml hrun
      obtain⟨Vs,q1,q2,q3⟩:=ih l' vs' hml h2
      refine⟨V::Vs,?_,by simp [q2],fun j v' V' hj hJ=>?_⟩
      ·rw [List.mapM_cons,Sem.run_bind]
       rw [hrun]
       simp [q1]
      ·cases j with
       |zero=>simp at hj hJ;subst hj;subst hJ;exact hV
       |succ j=>exact q3 j v' V' (by simpa using hj) (by simpa using hJ)
     cases r with
     |tmp t=>
      cases r' with
      |cell _ _=>cases hm
      |tmp t'=>
       simp only [JF,Bool.and_eq_true,Nat.beq_eq] at hm
       obtain⟨rfl,hm⟩:=hm
       cases h1
       exact fin _ (he t) hm rfl
     |cell b t=>
      cases r' with
      |tmp _=>cases hm
      |cell b' sz=>
       simp only [JF,Bool.and_eq_true,Nat.beq_eq] at hm
       obtain⟨⟨rfl,htv⟩,hm⟩:=hm
       simp only [mz] at h1
       split at h1
       ·rename_i id g off hev
        split at h1
        ·rename_i cs hcs
         rw [MK] at hcs
         have hb:=he b
         rw [hev] at hb
         obtain⟨blk,base,hp1,hV⟩:=yg hb
         obtain⟨b1,base1,c,e,p1,p2,p3,p4,p5⟩:=qx s hcs
         rw [hp1] at p1
         cases p1
         have hlen:=wu c (base+off) (gC sz)
         have hget:∀(j:Nat) (x:AV),cs[j]?=some x->x.one=true/\∃u,(BR c (base+off) (gC sz))[j]?=some u/\ck φ K w x u:=by
          intro j x hx
          obtain⟨r1,u,r2,r3⟩:=p5 j x hx
          have hj:j < gC sz:=by
           rcases Nat.lt_or_ge j cs.length with hj|hj
           ·omega
           ·rw [List.getElem?_eq_none hj] at hx;cases hx
          exact⟨r1,u,by rw [qi c _ _ j hj (by omega)];exact r2,r3⟩
         refine fin _ (HU s htv h1 _ (by rw [p4,hlen]) hget) hm ?_
         simp only [EX,hV,asAddr,Sem.run_bind,Sem.run_pure,Result.andThen_ok]
         refine zu htv blk (base+off) _ hlen (fun j hj=>?_)
         rw [y7 p2,qi c _ _ j (by omega) (by omega)]
        ·cases h1
       ·cases h1
theorem KY (s:gz top φ K st.H.get st.nx w) (he:Bo φ K w st.env a) {fn:Func} {l':List wz} (hm:JF P fn.results.toList l'=true) {v:AV} {H':cw} {nx':Nat} (hv:zd l' st=some (v,H',nx')) :
  ∃V,(results fn a.tmps).run P w=.ok V w/\ck φ K w v V:=by
 unfold zd at hv
 have key:∀vs,lN (mz st.env st.H) l'=some vs->∃Vs:List Value,Vs.length=vs.length/\(∀(j:Nat) (v:AV) (V:Value),vs[j]?=some v->Vs[j]?=some V->ck φ K w v V)/\(results fn a.tmps).run P w=.ok (if h:Vs.toArray.size=1 then Vs.toArray[0] else .tuple Vs.toArray) w:=by
  intro vs hvs
  obtain⟨Vs,q1,q2,q3⟩:=No s he fn.results.toList l' vs hm hvs
  refine⟨Vs,q2,q3,?_⟩
  have e:fn.results=fn.results.toList.toArray:=by simp
  rw [KZ,e,List.mapM_toArray]
  simp [q1]
 split at hv
 ·rename_i v1 hvs
  cases hv
  obtain⟨Vs,q1,q2,q3⟩:=key _ hvs
  cases Vs with
  |nil=>simp at q1
  |cons V Vs=>
   have hVs:Vs=[]:=List.eq_nil_of_length_eq_zero (by simpa using q1)
   subst hVs
   exact⟨V,by rw [q3];rfl,q2 0 v V rfl rfl⟩
 ·rename_i vs hne hvs
  cases hv
  obtain⟨Vs,q1,q2,q3⟩:=key _ hvs
  refine⟨.tuple Vs.toArray,?_,.qd vs Vs.toArray (by simp [q1]) (fun j a V ha hV=>q2 j a V ha (by simpa using hV))⟩
  rw [q3,dif_neg]
  intro h1
  cases vs with
  |nil=>simp at q1;simp [q1] at h1
  |cons v1 vs1=>
   cases vs1 with
   |nil=>exact hne v1 rfl
   |cons _ _=>simp at q1 h1;omega
 ·cases hv
end
theorem YX {P:Program} {prog:Map bk} (hprog:∀f af,prog.get f=some af->bn P f af) {ex:mq} (h1:F7 P ex):zk P (rz prog ex):=by
 intro f args H nx v H' nx' h
 unfold rz at h
 split at h
 ·cases h
 ·rename_i af haf
  obtain⟨⟨fn,c,hf,hb,hm⟩,hcall⟩:=hprog f af haf
  simp only [PT,Bool.and_eq_true,Nat.beq_eq,Nat.ble_eq] at hm
  obtain⟨⟨⟨hnt,hpn⟩,hmc⟩,hmr⟩:=hm
  refine⟨hcall,?_⟩
  rw [cond_eq_ite] at h
  split at h
  ·rename_i hlen
   rw [Nat.beq_eq] at hlen
   intro top φ K w cargs ht s ha
   have hsz:(cargs++Array.replicate (fn.ntmps - cargs.size) undef).size=af.nt:=by
    have:=ha.1
    simp
    omega
   have henv:Bo φ K w (je args 0 .leaf) {tmps:=cargs++Array.replicate (fn.ntmps - cargs.size) undef,defers:=[]}:=by
    intro t
    rw [JK]
    simp only [Nat.zero_le,true_and,Nat.zero_add,Nat.sub_zero]
    by_cases hlt:t < args.length
    ·rw [if_pos hlt]
     have hc:t < cargs.size:=by have:=ha.1;omega
     have h2:=ha.2 t _ _ (List.getElem?_eq_getElem hlt) (Array.getElem?_eq_getElem hc)
     have e1:args.getD t j7=args[t]:=by simp [hlt]
     have e2:(cargs++Array.replicate (fn.ntmps - cargs.size) undef).getD t undef=cargs[t]:=by
      rw [Array.getD_eq_getD_getElem?,Array.getElem?_append_left hc,Array.getElem?_eq_getElem hc];rfl
     rw [e1,e2]
     exact h2
    ·rw [if_neg hlt]
     have e2:(cargs++Array.replicate (fn.ntmps - cargs.size) undef).getD t undef=undef:=by
      rw [Array.getD_eq_getD_getElem?,Array.getElem?_append_right (by have:=ha.1;omega),Array.getElem?_replicate]
      split<;>rfl
     rw [e2]
     exact C2
   have fin:∀(x:gS) (st:St),ex af.nt af.body ⟨je args 0 .leaf,H,nx⟩=some (x,st)->(x=.normal\/x=.ret)->zd af.res st=some (v,H',nx')->Calls P f cargs w (VC (Ends top φ K H.get nx w v H'.get nx')):=by
    intro x st hr hx hres
    obtain⟨rfl,rfl⟩:=HR hres
    refine calls_of_wp hf hb ?_
    refine h1 af.nt af.body _ x st hr c hmc top φ K w _ _ ht s henv hsz rfl (fun a' w' hp=>?_)
    obtain⟨φ',K',g,henv',hs',hd'⟩:=hp
    obtain⟨V,hV1,hV2⟩:=KY (P:=P) (fn:=fn) g.Cd henv' hmr hres
    have hb:a'.defers=[]/\∃V,(results fn a'.tmps).run P w'=.ok V w'/\VC (Ends top φ K H.get nx w v st.H.get st.nx) (.returned V) w':=⟨hd',V,hV1,φ',K',g,hV2⟩
    rcases hx with rfl|rfl
    ·exact hb
    ·exact hb
   split at h
   ·rename_i st hr;exact fin .normal st hr (.inl rfl) h
   ·rename_i st hr;exact fin .ret st hr (.inr rfl) h
   ·cases h
  ·cases h
theorem G7 {P:Program} (F_:P.follows .mixedOrders=true) {prog:Map bk} (hprog:∀f af,prog.get f=some af->bn P f af):∀k,F7 P (interp prog k).code/\IC P (interp prog k).code k/\zk P (interp prog k).fn
 |0=>⟨fun _ _ _ _ _ h=>(by cases h),fun _ _ _ _ _ h=>(by cases h),fun _ _ _ _ _ _ _ h=>(by cases h)⟩
 |k+1=>by
  obtain⟨h1,h2,h3⟩:=G7 F_ hprog k
  obtain⟨u1,u2⟩:=G6 prog k
  exact⟨SG F_ h1 u1 h2 h3 u2,Mx h1 u1 h2,YX hprog h1⟩
end Go.Ax

namespace Go.Ax
theorem Ic {W W':World} (e:Ext (fun _=>False) W W'):RowKit.Grown W W':=by
 refine⟨⟨e.os,e.output,fun i hi=>?_⟩,e.fz,e.size⟩
 rw [e.same i hi (fun h=>h)]
 cases h:W.heap[i]? with
 |none=>rfl
 |some ob=>
  cases ob with
  |cells c t fr=>exact⟨rfl,rfl,rfl,fun _ _=>rfl⟩
  |map es clk=>exact .inr ⟨rfl,rfl⟩
  |_=>rfl
def isTrue:Option (AV×cw×Nat)->Bool
 |some (.bool b,_,_)=>b
 |_=>false
theorem DV {r:Option (AV×cw×Nat)} (h:isTrue r=true):∃H nx,r=some (.bool true,H,nx):=by
 unfold isTrue at h
 split at h
 ·subst h;exact⟨_,_,rfl⟩
 ·cases h
theorem LV {P:Program} {cf:qc} (hcf:zk P cf) {f:Nat} {args:List AV} (h:isTrue (cf f args .leaf 0)=true) {cargs:Array Value} {W:World} (ha:F9 GR (fun b=>b < W.heap.size) W args cargs) :
  Calls P f cargs W fun e W'=>e=.returned (.bool true)/\RowKit.Grown W W':=by
 obtain⟨H,nx,hr⟩:=DV h
 refine Calls.mono ((hcf f args .leaf 0 _ H nx hr).2 nx GR (fun b=>b < W.heap.size) W cargs (Nat.le_refl _) (EN _ (fun b hb=>hb)) ha) (fun e W' he=>?_)
 cases e with
 |returned V=>
  obtain⟨φ',K',g,hv⟩:=he
  rw [lp hv]
  exact⟨rfl,Ic (g.ext.mono (fun b hb=>(BO hb).elim))⟩
 |panicked _=>exact he.elim
 |outgrown=>exact he.elim
theorem QL {φ:pq} {K:Nat->Prop} {w:World} {a:AV} {V:Value} (h:ck φ K w a V):F9 φ K w [a] #[V]:=
 ⟨rfl,fun j b U hb hU=>by
  cases j with
  |zero=>simp at hb hU;subst hb;subst hU;exact h
  |succ j=>simp at hb⟩
def mF (P:Program) (fn:Func) (af:bk):Bool:=match fn.body with|some c=>PT P fn c af|none=>false
theorem au {P:Program} {f:Nat} {fn:Func} {af:bk} (hf:P.funcs[f]?=some fn) (hm:mF P fn af=true) (hcall:∀args w,(callFunc f args).run P w=.ok (.enter f args) w):bn P f af:=by
 unfold mF at hm
 split at hm
 ·rename_i c hc;exact⟨⟨fn,c,hf,hc,hm⟩,hcall⟩
 ·cases hm
def SQ (M:Nat->bk->Prop):Map bk->(Nat->Nat)->Prop
 |.leaf,_=>True
 |.node v l r,p=>(match v with|some af=>M (p 0) af|none=>True)/\SQ M l (fun k=>p (2*k+1))/\SQ M r (fun k=>p (2*k+2))
theorem F2 {M:Nat->bk->Prop}:∀(m:Map bk) (p:Nat->Nat),SQ M m p->∀i af,m.get i=some af->M (p i) af
 |.leaf,p,_,i,af,h=>by cases h
 |.node v l r,p,h,i,af,hg=>by
  obtain⟨h1,h2,h3⟩:=h
  rw [Map.g_] at hg
  by_cases h0:i=0
  ·subst h0
   simp at hg
   subst hg
   exact h1
  ·rw [if_neg h0] at hg
   split at hg
   ·have:=F2 l _ h2 _ af hg
    rwa [show 2*(i / 2)+1=i by omega] at this
   ·have:=F2 r _ h3 _ af hg
    rwa [show 2*(i / 2 - 1)+2=i by omega] at this
end Go.Ax

namespace Go.Ax
open Classical
def Ev {α:Type} (X:Nat->Option α) (r:α):Prop:=∃k0,∀k,k0<=k->X k=some r
theorem Ev.const {α:Type} {x:Option α} {r:α} (h:x=some r):Ev (fun _=>x) r:=⟨0,fun _ _=>h⟩
theorem Ev.bind {α β:Type} {X:Nat->Option α} {Y:Nat->α->Option β} {a:α} {b:β} (h1:Ev X a) (h2:Ev (fun k=>Y k a) b):Ev (fun k=>match X k with|some x=>Y k x|none=>none) b:=by
 obtain⟨k1,h1⟩:=h1
 obtain⟨k2,h2⟩:=h2
 exact⟨max k1 k2,fun k hk=>by simp only [h1 k (by omega)];exact h2 k (by omega)⟩
theorem Ev.map {α β:Type} {X:Nat->Option α} (f:Option α->Option β) {a:α} {b:β} (h1:Ev X a) (h2:f (some a)=some b):Ev (fun k=>f (X k)) b:=by
 obtain⟨k1,h1⟩:=h1
 exact⟨k1,fun k hk=>by show f (X k)=some b;rw [h1 k hk];exact h2⟩
theorem Ev.uniq {α:Type} {X:Nat->Option α} {a b:α} (h1:Ev X a) (h2:Ev X b):a=b:=by
 obtain⟨k1,h1⟩:=h1
 obtain⟨k2,h2⟩:=h2
 have e1:=h1 (max k1 k2) (by omega)
 have e2:=h2 (max k1 k2) (by omega)
 rw [e1] at e2
 exact Option.some.inj e2
theorem Ev.congr {α:Type} {X Y:Nat->Option α} {a:α} (h:Ev X a) (e:∀k,Y k=X k):Ev Y a:=by
 obtain⟨k1,h1⟩:=h
 exact⟨k1,fun k hk=>by rw [e];exact h1 k hk⟩
def DF (cfk:Nat->qc) (cf:qc):Prop:=∀f args H nx r,cf f args H nx=some r->Ev (fun k=>cfk k f args H nx) r
def F8 (exk:Nat->mq) (ex:mq):Prop:=∀nt c st r,ex nt c st=some r->Ev (fun k=>exk k nt c st) r
section
variable {cfk:Nat->qc} {cf:qc} {nt n0:Nat}
theorem Bd (h:DF cfk cf) {f:Nat} {args:List AV} {m:Mode} {H:cw} {nx:Nat} {r:AV×cw×Nat} (hd:h_ cf f args m H nx=some r):Ev (fun k=>h_ (cfk k) f args m H nx) r:=by
 cases m with
 |share=>exact h _ _ _ _ _ hd
 |borrow=>
  simp only [h_,cond_eq_ite] at hd ⊢
  split at hd
  ·rename_i hp
   simp only [if_pos hp]
   cases hc:cf f args .leaf 0 with
   |none=>rw [hc] at hd;cases hd
   |some q=>
    rw [hc] at hd
    (obtain⟨k1,e1⟩:=h _ _ _ _ _ hc;exact⟨k1,fun k hk=>by simp only [e1 k hk];exact hd⟩)
  ·rename_i hp
   simp only [if_neg hp]
   split at hd
   ·cases hd
   ·rename_i as has
    cases hc:cf f as .leaf 0 with
    |none=>rw [hc] at hd;cases hd
    |some q=>
     rw [hc] at hd
     (obtain⟨k1,e1⟩:=h _ _ _ _ _ hc;exact⟨k1,fun k hk=>by simp only [e1 k hk];exact hd⟩)
theorem SD (h:DF cfk cf) {o:cj} {ρ:ct->AV} {H:cw} {nx:Nat} {r:AV×cw×Nat} (hd:zh cf o ρ H nx=some r):Ev (fun k=>zh (cfk k) o ρ H nx) r:=by
 simp only [zh,cond_eq_ite] at hd ⊢
 by_cases hz:o.fz=true
 ·simp only [if_pos hz] at hd ⊢
  exact Ev.const hd
 ·simp only [if_neg hz] at hd ⊢
  simp only [q9] at hd ⊢
  cases hk:kind o.op with
  |plan p=>rw [hk] at hd;exact Ev.const hd
  |call f args m=>rw [hk] at hd;exact Bd h hd
  |kn f args m=>
   rw [hk] at hd
   simp only at hd ⊢
   cases hf:ρ f<;>rw [hf] at hd<;>first|cases hd|exact Bd h hd
theorem OW (h:DF cfk cf) {o:cj} {st st':St} (hd:qa cf nt o st=some st'):Ev (fun k=>qa (cfk k) nt o st) st':=by
 simp only [qa,cond_eq_ite] at hd ⊢
 by_cases hw:wanted st.env o.gd=true
 ·simp only [if_pos hw] at hd ⊢
  cases hf:zh cf o (ev st.env) st.H st.nx with
  |none=>rw [hf] at hd;cases hd
  |some q=>
   rw [hf] at hd
   (obtain⟨k1,e1⟩:=SD h hf;exact⟨k1,fun k hk=>by simp only [e1 k hk];exact hd⟩)
 ·simp only [if_neg hw] at hd ⊢
  exact Ev.const hd
theorem Nj (h:DF cfk cf):∀{l:List cj} {st st':St},oP cf nt l st=some st'->Ev (fun k=>oP (cfk k) nt l st) st':=by
 intro l
 induction l with
 |nil=>intro st st' hd;exact Ev.const hd
 |cons o l ih=>
  intro st st' hd
  rw [ou] at hd
  split at hd
  ·rename_i st1 h1
   exact(Ev.bind (Y:=fun k st=>oP (cfk k) nt l st) (OW h h1) (ih hd)).congr (fun k=>by rw [ou];cases qa (cfk k) nt o st<;>rfl)
  ·cases hd
theorem FN (h:DF cfk cf) {f:Nat} {args:List AV} {m:Mode} {H:cw} {nx:Nat} {r:ZY} (hd:i_ cf n0 f args m H nx=some r):Ev (fun k=>i_ (cfk k) n0 f args m H nx) r:=by
 cases m with
 |share=>
  simp only [i_] at hd ⊢
  cases hc:cf f args (H.upto fun i=>Nat.blt i n0) nx with
  |none=>rw [hc] at hd;cases hd
  |some q=>
   rw [hc] at hd
   (obtain⟨k1,e1⟩:=h _ _ _ _ _ hc;exact⟨k1,fun k hk=>by simp only [e1 k hk];exact hd⟩)
 |borrow=>
  simp only [i_,cond_eq_ite] at hd ⊢
  by_cases hp:gJ AV.plain args=true
  ·simp only [if_pos hp] at hd ⊢
   cases hc:h_ cf f args .borrow H nx with
   |none=>rw [hc] at hd;cases hd
   |some q=>
    rw [hc] at hd
    (obtain⟨k1,e1⟩:=Bd h hc;exact⟨k1,fun k hk=>by simp only [e1 k hk];exact hd⟩)
  ·simp only [if_neg hp] at hd ⊢
   cases hc:h_ cf f args .borrow (H.upto fun i=>Nat.blt i n0) nx with
   |none=>rw [hc] at hd;cases hd
   |some q=>
    rw [hc] at hd
    (obtain⟨k1,e1⟩:=Bd h hc;exact⟨k1,fun k hk=>by simp only [e1 k hk];exact hd⟩)
theorem Qs (h:DF cfk cf) {o:cj} {ρ:ct->AV} {H:cw} {nx:Nat} {r:ZY} (hd:oD cf n0 o ρ H nx=some r):Ev (fun k=>oD (cfk k) n0 o ρ H nx) r:=by
 simp only [oD,cond_eq_ite] at hd ⊢
 by_cases hz:o.fz=true
 ·simp only [if_pos hz] at hd ⊢
  exact Ev.const hd
 ·simp only [if_neg hz] at hd ⊢
  simp only [Ap] at hd ⊢
  cases hk:kind o.op with
  |plan p=>rw [hk] at hd;exact Ev.const hd
  |call f args m=>rw [hk] at hd;exact FN h hd
  |kn f args m=>
   rw [hk] at hd
   simp only at hd ⊢
   cases hf:ρ f<;>rw [hf] at hd<;>first|cases hd|exact FN h hd
theorem LP (h:DF cfk cf) {o:cj} {st:St} {r:St×Rec} (hd:gp cf nt n0 o st=some r):Ev (fun k=>gp (cfk k) nt n0 o st) r:=by
 simp only [gp,cond_eq_ite] at hd ⊢
 by_cases hw:wanted st.env o.gd=true
 ·simp only [if_pos hw] at hd ⊢
  cases hf:oD cf n0 o (ev st.env) st.H st.nx with
  |none=>rw [hf] at hd;cases hd
  |some q=>
   rw [hf] at hd
   (obtain⟨k1,e1⟩:=Qs h hf;exact⟨k1,fun k hk=>by simp only [e1 k hk];exact hd⟩)
 ·simp only [if_neg hw] at hd ⊢
  exact Ev.const hd
theorem KT (h:DF cfk cf):∀{l:List cj} {st:St} {r:St×List Rec},k9 cf nt n0 l st=some r->Ev (fun k=>k9 (cfk k) nt n0 l st) r:=by
 intro l
 induction l with
 |nil=>intro st r hd;exact Ev.const hd
 |cons o l ih=>
  intro st r hd
  simp only [k9] at hd ⊢
  split at hd
  ·cases hd
  ·rename_i st1 r1 h1
   split at hd
   ·cases hd
   ·rename_i st2 l2 h2
    obtain⟨k1,e1⟩:=LP (cfk:=cfk) h h1
    obtain⟨k2,e2⟩:=ih h2
    exact⟨max k1 k2,fun k hk=>by simp only [e1 k (by omega),e2 k (by omega)];exact hd⟩
theorem KS (h:DF cfk cf) {ops:List cj} {ahead:List (List Nat)} {pairs:List (Nat×Nat)} {st st':St} (hd:k8 cf nt ops ahead pairs st=some st'):Ev (fun k=>k8 (cfk k) nt ops ahead pairs st) st':=by
 simp only [k8] at hd ⊢
 cases hr:k9 cf nt st.nx ops st with
 |none=>rw [hr] at hd;cases hd
 |some q=>
  rw [hr] at hd
  (obtain⟨k1,e1⟩:=KT h hr;exact⟨k1,fun k hk=>by simp only [e1 k hk];exact hd⟩)
theorem D3 {exk:Nat->mq} {ex:mq} (h:DF cfk cf) (hc:F8 exk ex):F8 (fun k=>dr (exk k) (cfk k)) (dr ex cf):=by
 intro nt c st r hd
 cases c with
 |skip=>exact Ev.const hd
 |exit id=>exact Ev.const hd
 |ret=>exact Ev.const hd
 |cr ops=>
  simp only [dr] at hd ⊢
  cases hr:oP cf nt ops st with
  |none=>rw [hr] at hd;cases hd
  |some q=>rw [hr] at hd;(obtain⟨k1,e1⟩:=Nj h hr;exact⟨k1,fun k hk=>by simp only [e1 k hk];exact hd⟩)
 |d_ ops ahead pairs=>
  simp only [dr] at hd ⊢
  cases hr:k8 cf nt ops ahead pairs st with
  |none=>rw [hr] at hd;cases hd
  |some q=>rw [hr] at hd;(obtain⟨k1,e1⟩:=KS h hr;exact⟨k1,fun k hk=>by simp only [e1 k hk];exact hd⟩)
 |seq a b=>
  simp only [dr] at hd ⊢
  split at hd
  ·rename_i st1 h1
   obtain⟨k1,e1⟩:=hc _ _ _ _ h1
   obtain⟨k2,e2⟩:=hc _ _ _ _ hd
   exact⟨max k1 k2,fun k hk=>by simp only [e1 k (by omega)];exact e2 k (by omega)⟩
  ·rename_i hne
   obtain⟨k1,e1⟩:=hc _ _ _ _ hd
   refine⟨k1,fun k hk=>?_⟩
   simp only [e1 k hk]
   split
   ·rename_i st1 heq;cases heq;exact absurd hd (hne st1)
   ·rfl
 |cond c a b=>
  simp only [dr] at hd ⊢
  split at hd
  ·exact hc _ _ _ _ hd
  ·exact hc _ _ _ _ hd
  ·cases hd
 |block id c=>
  simp only [dr] at hd ⊢
  split at hd
  ·rename_i i st1 h1
   obtain⟨k1,e1⟩:=hc _ _ _ _ h1
   exact⟨k1,fun k hk=>by simp only [e1 k hk];exact hd⟩
  ·rename_i hne
   obtain⟨k1,e1⟩:=hc _ _ _ _ hd
   refine⟨k1,fun k hk=>?_⟩
   simp only [e1 k hk]
   split
   ·rename_i i st1 heq;cases heq;exact absurd hd (hne i st1)
   ·rfl
 |loop c=>
  simp only [dr] at hd ⊢
  split at hd
  ·rename_i st1 h1
   obtain⟨k1,e1⟩:=hc _ _ _ _ h1
   obtain⟨k2,e2⟩:=hc _ _ _ _ hd
   exact⟨max k1 k2,fun k hk=>by simp only [e1 k (by omega)];exact e2 k (by omega)⟩
  ·rename_i hne
   obtain⟨k1,e1⟩:=hc _ _ _ _ hd
   refine⟨k1,fun k hk=>?_⟩
   simp only [e1 k hk]
   split
   ·rename_i st1 heq;cases heq;exact absurd hd (hne st1)
   ·rfl
theorem Hj {prog:Map bk} {exk:Nat->mq} {ex:mq} (hc:F8 exk ex):DF (fun k=>rz prog (exk k)) (rz prog ex):=by
 intro f args H nx r hd
 simp only [rz] at hd ⊢
 split at hd
 ·cases hd
 ·rename_i af haf
  simp only [cond_eq_ite] at hd ⊢
  split at hd
  ·rename_i hl
   simp only [if_pos hl]
   cases hr:ex af.nt af.body ⟨je args 0 .leaf,H,nx⟩ with
   |none=>rw [hr] at hd;cases hd
   |some q=>
    rw [hr] at hd
    (obtain⟨k1,e1⟩:=hc _ _ _ _ hr;exact⟨k1,fun k hk=>by simp only [e1 k hk];exact hd⟩)
  ·cases hd
end
noncomputable def fe (prog:Map bk):qc:=fun f args H nx=>if h:∃r,Ev (fun k=>(interp prog k).fn f args H nx) r then some (Classical.choose h) else none
noncomputable def gK (prog:Map bk):mq:=fun nt c st=>if h:∃r,Ev (fun k=>(interp prog k).code nt c st) r then some (Classical.choose h) else none
theorem I6 (prog:Map bk):DF (fun k=>(interp prog k).fn) (fe prog):=by
 intro f args H nx r h
 unfold fe at h
 split at h
 ·rename_i hh;cases h;exact Classical.choose_spec hh
 ·cases h
theorem BI (prog:Map bk):F8 (fun k=>(interp prog k).code) (gK prog):=by
 intro nt c st r h
 unfold gK at h
 split at h
 ·rename_i hh;cases h;exact Classical.choose_spec hh
 ·cases h
theorem OY {prog:Map bk} {f:Nat} {args:List AV} {H:cw} {nx:Nat} {r:AV×cw×Nat} (h:Ev (fun k=>(interp prog k).fn f args H nx) r):fe prog f args H nx=some r:=by
 have hh:∃r,Ev (fun k=>(interp prog k).fn f args H nx) r:=⟨r,h⟩
 unfold fe
 rw [dif_pos hh]
 exact congrArg some (Ev.uniq (Classical.choose_spec hh) h)
theorem KU {prog:Map bk} {nt:Nat} {c:ku} {st:St} {r:gS×St} (h:Ev (fun k=>(interp prog k).code nt c st) r):gK prog nt c st=some r:=by
 have hh:∃r,Ev (fun k=>(interp prog k).code nt c st) r:=⟨r,h⟩
 unfold gK
 rw [dif_pos hh]
 exact congrArg some (Ev.uniq (Classical.choose_spec hh) h)
theorem MM {α:Type} {X:Nat->Option α} {r:α} (h:Ev (fun k=>X (k+1)) r):Ev X r:=by
 obtain⟨k0,h⟩:=h
 exact⟨k0+1,fun k hk=>by have h1:X (k - 1+1)=some r:=h (k - 1) (by omega);rwa [show k - 1+1=k by omega] at h1⟩
theorem lg {prog:Map bk} {nt:Nat} {c:ku} {st:St} {r:gS×St} (h:dr (gK prog) (fe prog) nt c st=some r):gK prog nt c st=some r:=
 KU (MM (X:=fun k=>(interp prog k).code nt c st) (D3 (I6 prog) (BI prog) nt c st r h))
theorem HP {prog:Map bk} {f:Nat} {args:List AV} {H:cw} {nx:Nat} {r:AV×cw×Nat} (h:rz prog (gK prog) f args H nx=some r):fe prog f args H nx=some r:=
 OY (MM (X:=fun k=>(interp prog k).fn f args H nx) (Hj (BI prog) f args H nx r h))
theorem OX {P:Program} {prog:Map bk} (h:∀k,zk P (interp prog k).fn):zk P (fe prog):=by
 intro f args H nx v H' nx' hr
 obtain⟨k0,hk⟩:=I6 prog f args H nx _ hr
 exact h k0 f args H nx v H' nx' (hk k0 (Nat.le_refl _))
end Go.Ax

namespace Go.Ax
noncomputable def KD (cf:qc) (lf:mq) (nt:Nat) (c:ku):St->Option (gS×St):=
 ku.rec (motive:=fun _=>St->Option (gS×St))
  (fun st=>some (.normal,st))
  (fun ops st=>match oP cf nt ops st with|some st=>some (.normal,st)|none=>none)
  (fun ops ahead pairs st=>match k8 cf nt ops ahead pairs st with|some st=>some (.normal,st)|none=>none)
  (fun _ _ ea eb st=>match ea st with|some (.normal,st)=>eb st|r=>r)
  (fun c _ _ ea eb st=>match ev st.env c with|.bool true=>ea st|.bool false=>eb st|_=>none)
  (fun id _ ec st=>match ec st with|some (.exit i,st)=>bif Nat.beq i id then some (.normal,st) else some (.exit i,st)|r=>r)
  (fun c _ st=>lf nt (.loop c) st)
  (fun id st=>some (.exit id,st))
  (fun st=>some (.ret,st)) c
section
variable {prog:Map bk} {cf:qc} {lf:mq} {nt:Nat}
theorem Eu (prog:Map bk) (nt:Nat):∀(c:ku) (st:St) (r:gS×St),KD (fe prog) (gK prog) nt c st=some r->gK prog nt c st=some r:=by
 intro c
 induction c with
 |skip=>intro st r h;exact lg h
 |cr ops=>intro st r h;exact lg h
 |d_ ops ahead pairs=>intro st r h;exact lg h
 |exit id=>intro st r h;exact lg h
 |ret=>intro st r h;exact lg h
 |loop c ih=>intro st r h;exact h
 |seq a b iha ihb=>
  intro st r h
  refine lg ?_
  change (match KD (fe prog) (gK prog) nt a st with|some (.normal,st)=>KD (fe prog) (gK prog) nt b st|r=>r)=some r at h
  simp only [dr]
  split at h
  ·rename_i st1 h1
   rw [iha _ _ h1]
   exact ihb _ _ h
  ·rename_i hne
   rw [iha _ _ h]
   split
   ·rename_i st1 heq;cases heq;exact absurd h (hne st1)
   ·rfl
 |cond c a b iha ihb=>
  intro st r h
  refine lg ?_
  change (match ev st.env c with|.bool true=>KD (fe prog) (gK prog) nt a st|.bool false=>KD (fe prog) (gK prog) nt b st|_=>none)=some r at h
  simp only [dr]
  split at h
  ·rename_i hc;rw [hc];exact iha _ _ h
  ·rename_i hc;rw [hc];exact ihb _ _ h
  ·cases h
 |block id c ih=>
  intro st r h
  refine lg ?_
  change (match KD (fe prog) (gK prog) nt c st with|some (.exit i,st)=>bif Nat.beq i id then some (.normal,st) else some (.exit i,st)|r=>r)=some r at h
  simp only [dr]
  split at h
  ·rename_i i st1 h1
   rw [ih _ _ h1]
   exact h
  ·rename_i hne
   rw [ih _ _ h]
   split
   ·rename_i i st1 heq;cases heq;exact absurd h (hne i st1)
   ·rfl
def WC (cf:qc) (lf:mq) (nt:Nat) (c:ku) (st:St) (Q:gS->St->Prop):Prop:=∃x st',KD cf lf nt c st=some (x,st')/\Q x st'
def WR (cf:qc) (nt:Nat) (ops:List cj) (st:St) (Q:St->Prop):Prop:=∃st',oP cf nt ops st=some st'/\Q st'
theorem L9 {st:St} {Q:gS->St->Prop} (h:Q .normal st):WC cf lf nt .skip st Q:=⟨_,_,rfl,h⟩
theorem L_ {id:Nat} {st:St} {Q:gS->St->Prop} (h:Q (.exit id) st):WC cf lf nt (.exit id) st Q:=⟨_,_,rfl,h⟩
theorem Ou {st:St} {Q:gS->St->Prop} (h:Q .ret st):WC cf lf nt .ret st Q:=⟨_,_,rfl,h⟩
theorem Ov {ops:List cj} {st:St} {Q:gS->St->Prop} (h:WR cf nt ops st (Q .normal)):WC cf lf nt (.cr ops) st Q:=by
 obtain⟨st',h1,h2⟩:=h
 refine⟨.normal,st',?_,h2⟩
 show (match oP cf nt ops st with|some st=>some (gS.normal,st)|none=>none)=_
 rw [h1]
theorem RB {ops:List cj} {ahead:List (List Nat)} {pairs:List (Nat×Nat)} {st st':St} {Q:gS->St->Prop} (h1:k8 cf nt ops ahead pairs st=some st') (h2:Q .normal st'):WC cf lf nt (.d_ ops ahead pairs) st Q:=by
 refine⟨.normal,st',?_,h2⟩
 show (match k8 cf nt ops ahead pairs st with|some st=>some (gS.normal,st)|none=>none)=_
 rw [h1]
def XO (cf:qc) (lf:mq) (nt:Nat) (b:ku) (Q:gS->St->Prop):gS->St->Prop
 |.normal,st=>WC cf lf nt b st Q
 |x,st=>Q x st
theorem Ot {a b:ku} {st:St} {Q:gS->St->Prop} (h:WC cf lf nt a st (XO cf lf nt b Q)):WC cf lf nt (.seq a b) st Q:=by
 obtain⟨x,st1,h1,h2⟩:=h
 have e:KD cf lf nt (.seq a b) st=(match KD cf lf nt a st with|some (.normal,st)=>KD cf lf nt b st|r=>r):=rfl
 cases x with
 |normal=>
  obtain⟨x',st',h3,h4⟩:=h2
  exact⟨x',st',by rw [e,h1];exact h3,h4⟩
 |exit id=>exact⟨_,st1,by rw [e,h1],h2⟩
 |ret=>exact⟨_,st1,by rw [e,h1],h2⟩
theorem B2 {c:ct} {a b:ku} {st:St} {Q:gS->St->Prop} (hc:ev st.env c=.bool true) (h:WC cf lf nt a st Q):WC cf lf nt (.cond c a b) st Q:=by
 obtain⟨x,st1,h1,h2⟩:=h
 refine⟨x,st1,?_,h2⟩
 show (match ev st.env c with|.bool true=>KD cf lf nt a st|.bool false=>KD cf lf nt b st|_=>none)=_
 rw [hc]
 exact h1
theorem Bp {c:ct} {a b:ku} {st:St} {Q:gS->St->Prop} (hc:ev st.env c=.bool false) (h:WC cf lf nt b st Q):WC cf lf nt (.cond c a b) st Q:=by
 obtain⟨x,st1,h1,h2⟩:=h
 refine⟨x,st1,?_,h2⟩
 show (match ev st.env c with|.bool true=>KD cf lf nt a st|.bool false=>KD cf lf nt b st|_=>none)=_
 rw [hc]
 exact h1
def Ix (id:Nat) (Q:gS->St->Prop):gS->St->Prop
 |.exit i,st=>if i=id then Q .normal st else Q (.exit i) st
 |x,st=>Q x st
theorem IL {id:Nat} {c:ku} {st:St} {Q:gS->St->Prop} (h:WC cf lf nt c st (Ix id Q)):WC cf lf nt (.block id c) st Q:=by
 obtain⟨x,st1,h1,h2⟩:=h
 have e:KD cf lf nt (.block id c) st=(match KD cf lf nt c st with|some (.exit i,st)=>bif Nat.beq i id then some (.normal,st) else some (.exit i,st)|r=>r):=rfl
 cases x with
 |normal=>exact⟨_,st1,by rw [e,h1],h2⟩
 |ret=>exact⟨_,st1,by rw [e,h1],h2⟩
 |exit i=>
  simp only [Ix] at h2
  by_cases hi:i=id
  ·rw [if_pos hi] at h2
   exact⟨.normal,st1,by rw [e,h1];simp [hi],h2⟩
  ·rw [if_neg hi] at h2
   have:Nat.beq i id=false:=by
    cases hb:Nat.beq i id with
    |false=>rfl
    |true=>rw [Nat.beq_eq] at hb;exact absurd hb hi
   exact⟨.exit i,st1,by rw [e,h1];simp [this],h2⟩
theorem sx {c:ku} {st:St} {Q Q':gS->St->Prop} (h:WC cf lf nt c st Q) (hq:∀x st',Q x st'->Q' x st'):WC cf lf nt c st Q':=
 let ⟨x,st',h1,h2⟩:=h;⟨x,st',h1,hq _ _ h2⟩
end
theorem Rz {prog:Map bk} {nt:Nat} {c:ku} {Q:gS->St->Prop} {α:Type} (I:α->St->Prop) (μ:α->Nat)
  (round:∀a st,I a st->WC (fe prog) (gK prog) nt c st (fun x st'=>match x with|.normal=>∃a',μ a' < μ a/\I a' st'|x=>Q x st')) :
  ∀a st,I a st->WC (fe prog) (gK prog) nt (.loop c) st Q:=by
 have key:∀n a st,μ a=n->I a st->∃x st',gK prog nt (.loop c) st=some (x,st')/\Q x st':=by
  intro n
  induction n using Nat.strongRecOn with
  |_ n ih=>
   intro a st hn hI
   obtain⟨x,st1,h1,h2⟩:=round a st hI
   have h1':=Eu prog nt _ _ _ h1
   cases x with
   |normal=>
    obtain⟨a',hlt,hI'⟩:=h2
    obtain⟨x',st',h3,h4⟩:=ih (μ a') (by omega) a' st1 rfl hI'
    exact⟨x',st',lg (by simp only [dr,h1'];exact h3),h4⟩
   |exit id=>exact⟨_,st1,lg (by simp only [dr,h1']),h2⟩
   |ret=>exact⟨_,st1,lg (by simp only [dr,h1']),h2⟩
 intro a st hI
 obtain⟨x,st',h1,h2⟩:=key _ a st rfl hI
 exact⟨x,st',h1,h2⟩
theorem Lx {prog:Map bk} {f:Nat} {af:bk} (hf:prog.get f=some af) {args:List AV} (ha:args.length=af.params) {H:cw} {nx:Nat} {r:AV×cw×Nat->Prop}
  (h:WC (fe prog) (gK prog) af.nt af.body ⟨je args 0 .leaf,H,nx⟩ (fun x st=>(x=.normal\/x=.ret)/\∃v,zd af.res st=some v/\r v)):∃v,fe prog f args H nx=some v/\r v:=by
 obtain⟨x,st,h1,hx,v,h2,h3⟩:=h
 refine⟨v,HP ?_,h3⟩
 have h1':=Eu prog _ _ _ _ h1
 simp only [rz,hf,cond_eq_ite,Nat.beq_eq,if_pos ha,h1']
 rcases hx with rfl|rfl<;>exact h2
end Go.Ax

namespace Go.Ax.V
inductive TV where
 |i (k:IntKind) (n:Int)
 |b (b:Bool)
 |s (s:ByteArray)
 |f (n:Nat)
 |np
 |l (es:List TV)
 |a (cs:List TV)
 |tp (vs:List TV)
 |BK (x:AV) (u:TV)
 deriving Inhabited
abbrev qv:TV:=.tp []
def TV.jn:TV->Bool
 |.tp _=>true
 |_=>false
def TV.one:TV->Bool
 |.a _=>false
 |.tp _=>false
 |_=>true
noncomputable def TV.Mg:TV->Bool
 |.a cs=>gJ (fun c=>match c with|.l _=>false|.a _=>false|.tp _=>false|.BK _ _=>false|_=>true) cs
 |.l _=>false
 |.tp _=>false
 |.BK _ _=>false
 |_=>true
noncomputable def TV.Ni:TV->Bool
 |.tp vs=>gJ TV.Mg vs
 |v=>v.Mg
def TH:AV->Bool
 |.jq _ _ _=>true
 |.aq=>true
 |_=>false
mutual
inductive Can:TV->AV->Prop where
 |i (k:IntKind) (n:Int):Can (.i k n) (.int k n)
 |b (x:Bool):Can (.b x) (.bool x)
 |s (x:ByteArray):Can (.s x) (.str x)
 |f (n:Nat):Can (.f n) (.func n)
 |np:Can .np .Bi
 |nil:Can (.l []) .aq
 |jq (es:List TV) (cs:List AV) (n sz:Nat) (c:Option Nat) (hn:es.length=n) (hc:cs.length=n*sz) (hz:0 < sz) (hf:∀x∈cs,AV.flat x=true)
   (h:∀(j:Nat) (e:TV),es[j]?=some e->CX e ((cs.drop (j*sz)).take sz)):Can (.l es) (.jq cs n c)
 |a (ts:List TV) (as:List AV) (hl:ts.length=as.length) (hf:∀x∈as,AV.flat x=true) (h:∀(j:Nat) (t:TV) (x:AV),ts[j]?=some t->as[j]?=some x->Can t x):Can (.a ts) (.agg as)
 |tp (ts:List TV) (as:List AV) (hl:ts.length=as.length) (hf:∀x∈as,AV.qg x=true) (h:∀(j:Nat) (t:TV) (x:AV),ts[j]?=some t->as[j]?=some x->Can t x):Can (.tp ts) (.qd as)
 |BK (x:AV) (u:TV) (hf:TH x=true) (h:Can u x):Can (.BK x u) x
inductive CX:TV->List AV->Prop where
 |one (e:TV) (x:AV) (h1:e.one=true) (h:Can e x):CX e [x]
 |a (ts:List TV) (as:List AV) (hl:ts.length=as.length) (h:∀(j:Nat) (t:TV) (x:AV),ts[j]?=some t->as[j]?=some x->Can t x):CX (.a ts) as
end
def gk:TV->Option (List TV)
 |.a cs=>some cs
 |.tp _=>none
 |v=>some [v]
def bh (v:TV) (off:Nat):Option TV:=match v with
 |.a cs=>cs[off]?
 |.tp _=>none
 |v=>match off with
  |0=>some v
  |_+1=>none
def b9:Option TV->Option TV
 |some (.BK _ u)=>some u
 |r=>r
def Dq:List TV->Nat->Option (List TV)
 |_,0=>some []
 |[],_+1=>none
 |x::xs,n+1=>match Dq xs n with
  |some l=>some (x::l)
  |none=>none
def NX:List TV->Nat->Nat->Option (List TV)
 |cs,0,n=>Dq cs n
 |[],_+1,_=>none
 |_::xs,o+1,n=>NX xs o n
def z8:List TV->List TV->Option (List TV)
 |cells,[]=>some cells
 |[],_::_=>none
 |_::xs,y::ys=>match z8 xs ys with
  |some l=>some (y::l)
  |none=>none
def Cn:List TV->Nat->List TV->Option (List TV)
 |cells,0,cs=>z8 cells cs
 |[],_+1,_=>none
 |x::xs,o+1,cs=>match Cn xs o cs with
  |some l=>some (x::l)
  |none=>none
def c8 (v:TV) (off n:Nat):Option TV:=match v with
 |.a cs=>match NX cs off n with
  |some l=>some (.a l)
  |none=>none
 |_=>none
def av (v:TV) (off n:Nat) (x:TV):Option TV:=match gk x with
 |none=>none
 |some xs=>bif Nat.beq xs.length n then match v with
   |.a cs=>match Cn cs off xs with
    |some l=>some (.a l)
    |none=>none
   |.tp _=>none
   |_=>bif Nat.beq off 0&&x.one then some x else none
  else none
def ny (v:TV) (off:Nat):Option Nat->Option TV
 |none=>bh v off
 |some n=>c8 v off n
def YY (v:TV) (off:Nat) (sz:Option Nat):Option TV:=match v with
 |.a _=>ny v off sz
 |_=>none
def gb:TV->Option (List TV)
 |.l es=>some es
 |_=>none
def e9:TV->Option TV
 |.l es=>some (.i .i64 es.length)
 |_=>none
def zq:TV->Option TV
 |.s x=>some (.i .i64 x.size)
 |_=>none
def dz (i:TV) (n:Nat):Option Nat:=match i with
 |.i _ m=>Rn m n
 |_=>none
def oW (v i:TV):Option TV:=match v with
 |.l es=>match dz i es.length with
  |some k=>es[k]?
  |none=>none
 |_=>none
def jv (i:Nat):TV->Option TV
 |.tp vs=>vs[i]?
 |_=>none
def Rq (x:Option TV) (other y:Nat):Option Nat:=match x with
 |none=>some other
 |some (.i _ i)=>Rr i y
 |some _=>none
def Gk (lo hi:Option TV) (n:Nat):Option (Nat×Nat):=match Rq hi n n with
 |none=>none
 |some h=>match Rq lo 0 h with
  |none=>none
  |some l=>some (l,h)
def Tr (v:TV) (lo hi:Option TV):Option TV:=match v with
 |.l es=>match Gk lo hi es.length with
  |some (l,h)=>some (.l ((es.drop l).take (h - l)))
  |none=>none
 |_=>none
def zp (v:TV) (lo hi:Option TV):Option TV:=match v with
 |.s x=>match Gk lo hi x.size with
  |some (l,h)=>some (.s (x.extract l h))
  |none=>none
 |_=>none
def lJ (v i:TV):Option TV:=match v with
 |.s x=>match i with
  |.i _ (.ofNat i)=>match x[i]? with
   |some b=>some (.i .u8 b.toNat)
   |none=>none
  |_=>none
 |_=>none
def gw (bytes:Nat) (es xs:List TV):Option (List TV):=
 bif Nat.ble ((es.length+xs.length)*bytes) most&&Nat.ble (es.length+xs.length) most then some (es++xs) else none
def bf (c a b:TV):Option TV:=match c with
 |.b x=>match x with
  |true=>some a
  |false=>some b
 |_=>none
def CH:TV->Option AV
 |.i k n=>some (.int k n)
 |.b x=>some (.bool x)
 |.s x=>some (.str x)
 |.f n=>some (.func n)
 |.np=>some .Bi
 |_=>none
def JW:AV->Option TV
 |.int k n=>some (.i k n)
 |.bool x=>some (.b x)
 |.str x=>some (.s x)
 |.func n=>some (.f n)
 |.Bi=>some .np
 |_=>none
def b8 (op:BinOp) (x y:TV):Option TV:=match CH x with
 |some x=>match CH y with
  |some y=>match Ko op x y with
   |some r=>JW r
   |none=>none
  |none=>none
 |none=>none
def oe (op:UnOp) (x:TV):Option TV:=match CH x with
 |some x=>match Th op x with
  |some r=>JW r
  |none=>none
 |none=>none
def kj (k:IntKind):TV->Option TV
 |.i _ n=>some (.i k (oJ k n))
 |_=>none
def Aj:List TV->Option (List AV)
 |[]=>some []
 |x::xs=>match CH x with
  |none=>none
  |some a=>match Aj xs with
   |none=>none
   |some l=>some (a::l)
def JC (mx:Bool) (xs:List TV):Option TV:=match Aj xs with
 |some (v::vs)=>match VN mx v vs with
  |some r=>JW r
  |none=>none
 |_=>none
noncomputable def Y4 (t:KF) (neg:Bool) (x y:TV):Option TV:=match t with
 |.one l=>match CH x with
  |some x=>match CH y with
   |some y=>match Qn l x y with
    |some b=>some (.b (match neg with|true=>!b|false=>b))
    |none=>none
   |none=>none
  |none=>none
 |.agg ls=>match x with
  |.a xs=>match y with
   |.a ys=>match Aj xs with
    |some xs=>match Aj ys with
     |some ys=>match KE ls xs ys with
      |some b=>some (.b (match neg with|true=>!b|false=>b))
      |none=>none
     |none=>none
    |none=>none
   |_=>none
  |_=>none
 |.slice=>none
def PI (bytes:Nat):TV->Option Nat
 |.i k m=>match Rr m most with
  |some m=>bif Qo k .i64&&Nat.ble (Nat.mul m bytes) most then some m else none
  |none=>none
 |_=>none
def fl (es:List TV) (k off n:Nat) (x:TV):Option (List TV):=match es[k]? with
 |none=>none
 |some e=>match av e off n x with
  |some e'=>some (es.set k e')
  |none=>none
def gA (es:List TV) (k off:Nat) (sz:Option Nat):Option TV:=match es[k]? with
 |none=>none
 |some e=>ny e off sz
inductive VV where
 |bad
 |tr (v:TV)
 |gi
 |ptr (O off:Nat)
 |pd (O off:Nat)
 |sl (O:Nat)
 |ea (O i off:Nat)
 |pt (v:TV) (off:Nat)
 |st (v:TV) (ovs:List (Nat×VV))
 |ow (O ver i:Nat)
 |e2 (O ver i k off:Nat)
 |gl (s io:Nat) (es:List TV)
 deriving Inhabited
inductive VO where
 |ob (v:TV) (ovs:List (Nat×VV))
 |gr (sz:Nat) (es:List TV)
 |gn (K s io iz ver:Nat) (hole:Option Nat) (es:List TV)
def VO.pl:VO->Bool
 |.gn ..=>false
 |_=>true
structure VE where
 gd:Option (TV×Bool)
 v:VV
structure cg where
 env:Map VE
 H:Map VO
 us:Map Unit
def F0:AV->TV
 |.int k n=>.i k n
 |.bool x=>.b x
 |.str x=>.s x
 |.func n=>.f n
 |.aq=>.l []
 |_=>.np
def gE:List AV->List TV
 |[]=>[]
 |x::xs=>F0 x::gE xs
def oU:Nat->List AV->List (Nat×VV)
 |_,[]=>[]
 |i,x::xs=>match x with
  |.aq=>(i,.gi)::oU (i+1) xs
  |_=>oU (i+1) xs
def jz:AV->Bool
 |.int ..=>true
 |.bool _=>true
 |.str _=>true
 |.func _=>true
 |.aq=>true
 |.Bi=>true
 |_=>false
noncomputable def Iu (v:AV):VV:=match v with
 |.aq=>.gi
 |.agg cs=>bif gJ jz cs then .st (.a (gE cs)) (oU 0 cs) else .bad
 |.qd _=>.bad
 |v=>bif jz v then .tr (F0 v) else .bad
def L7 (sz:Nat) (zero:List AV):TV:=match sz with
 |1=>match zero with
  |[x]=>F0 x
  |_=>.a (gE zero)
 |_=>.a (gE zero)
def fc (off:Nat):List (Nat×VV)->Option VV
 |[]=>none
 |(i,x)::r=>bif Nat.beq i off then some x else fc off r
def v8 (off n:Nat):List (Nat×VV)->List (Nat×VV)
 |[]=>[]
 |(i,x)::r=>bif Nat.ble off i&&Nat.blt i (off+n) then (i - off,x)::v8 off n r else v8 off n r
def v9 (off n:Nat):List (Nat×VV)->List (Nat×VV)
 |[]=>[]
 |(i,x)::r=>bif Nat.ble off i&&Nat.blt i (off+n) then v9 off n r else (i,x)::v9 off n r
def Cr (off:Nat):List (Nat×VV)->List (Nat×VV)->List (Nat×VV)
 |[],r=>r
 |(i,x)::l,r=>(i+off,x)::Cr off l r
def ij (v:TV):List (Nat×VV)->VV
 |[]=>.tr v
 |p::r=>.st v (p::r)
def KM:VV->Option (TV×List (Nat×VV))
 |.tr v=>some (v,[])
 |.gi=>some (.l [],[(0,.gi)])
 |.sl O=>some (.l [],[(0,.sl O)])
 |.ow O v i=>some (.l [],[(0,.ow O v i)])
 |.st v o=>some (v,o)
 |_=>none
abbrev G:=Option (TV×Bool)
def lM (V:cg) (g:G) (x:ct) (k:VV->Prop):Prop:=match x with
 |.c v=>k (Iu v)
 |.t n=>match V.env.get n with
  |none=>False
  |some e=>match e.gd with
   |none=>k e.v
   |some q=>match g with
    |none=>False
    |some p=>p=q/\k e.v
def v_:List (Nat×VV)->TV->Option TV
 |[],v=>some v
 |(off,w)::r,v=>match w with
  |.gi=>(match v_ r v with
   |some u=>av u off 1 (.l [])
   |none=>none)
  |_=>none
def IQ (w:VV) (k:TV->Prop):Prop:=match w with
 |.tr v=>k v
 |.gi=>k (.l [])
 |.st v ovs=>∃u,v_ ovs v=some u/\k u
 |_=>False
def ta (V:cg) (g:G) (x:ct) (k:TV->Prop):Prop:=lM V g x fun w=>IQ w k
def Ac (es:List TV) (i io:Nat):Option (List TV):=match es[i]? with
 |some e=>(match bh e io with
  |some (.l l)=>some l
  |_=>none)
 |none=>none
def Sk (V:cg) (O v:Nat) (k:Nat->Nat->Nat->List TV->Prop):Prop:=match V.H.get O with
 |some (.gn K s io iz ver none es)=>(match Nat.beq K O&&Nat.beq ver v with
  |true=>k s io iz es
  |false=>False)
 |_=>False
def D5 (V:cg) (w:VV) (k:List TV->Prop):Prop:=match w with
 |.sl O=>match V.H.get O with
  |some (.gr _ es)=>k es
  |some (.gn _ _ _ _ _ none es)=>k es
  |_=>False
 |.ow O v i=>Sk V O v fun _ io _ es=>∃l,Ac es i io=some l/\k l
 |.gi=>k []
 |_=>False
def Ga (V:cg):List (Nat×VV)->TV->(TV->Prop)->Prop
 |[],v,k=>k v
 |(off,w)::r,v,k=>Ga V r v fun u=>D5 V w fun es=>∃u',av u off 1 (.l es)=some u'/\k u'
def XN (V:cg) (w:VV) (k:TV->Prop):Prop:=match w with
 |.tr v=>k v
 |.gi=>k (.l [])
 |.sl O=>D5 V (.sl O) fun es=>k (.l es)
 |.st v ovs=>Ga V ovs v k
 |.ow O v i=>D5 V (.ow O v i) fun es=>k (.l es)
 |_=>False
def Gg (V:cg) (g:G) (x:Option ct) (k:Option TV->Prop):Prop:=match x with
 |none=>k none
 |some x=>ta V g x fun v=>k (some v)
def Pc (V:cg) (g:G):List ct->(List TV->Prop)->Prop
 |[],k=>k []
 |x::xs,k=>ta V g x fun v=>Pc V g xs fun vs=>k (v::vs)
def gV (c:TV) (bb:Bool) (P:TV->Prop) (v:TV):Prop:=match c with
 |.b x=>match x == bb with
  |true=>P v
  |false=>v=qv
 |_=>v=qv
def O4 (g:G) (P:TV->Prop) (k:TV->Prop):Prop:=match g with
 |none=>∃v,P v/\k v
 |some (c,bb)=>∃v,gV c bb P v/\k v
def jj (nt:Nat) (V:cg) (d:Option Nat) (g:G) (w:VV) (k:cg->Prop):Prop:=match d with
 |none=>k V
 |some d=>bif Nat.blt d nt then k {V with env:=V.env.put (some ⟨g,w⟩) d} else False
def ko (nt:Nat) (V:cg) (d:Option Nat) (g:G) (P:Option TV) (k:cg->Prop):Prop:=O4 g (fun v=>P=some v) fun v=>jj nt V d none (.tr v) k
def ry (nt:Nat) (V:cg) (d:Option Nat) (g:G) (w:Nat->VV) (o:VO) (k:cg->Prop):Prop:=match g with
 |some _=>False
 |none=>match d with
  |none=>False
  |some d=>match V.us.get d with
   |some _=>False
   |none=>jj nt {V with H:=V.H.put (some o) d,us:=V.us.put (some ()) d} (some d) none (w d) k
def HX (V:cg) (g:G):List (Nat×Nat×ct)->TV->List (Nat×VV)->(TV->List (Nat×VV)->Prop)->Prop
 |[],v,ovs,k=>k v ovs
 |(off,n,x)::r,v,ovs,k=>lM V g x fun w=>match KM w with
  |some (t,o)=>∃u,av v off n t=some u/\HX V g r u (Cr off o (v9 off n ovs)) k
  |none=>False
noncomputable def yz (V:cg):VV->cg
 |.sl O=>{V with H:=V.H.put none O}
 |_=>V
noncomputable def y6 (V:cg):List (Nat×VV)->cg
 |[]=>V
 |(_,w)::r=>y6 (yz V w) r
def dh (n:Nat) (v:TV):Prop:=match gk v with
 |some l=>l.length=n
 |none=>False
def Sc:List (Nat×VV)->Bool
 |[]=>true
 |(_,.ow ..)::_=>false
 |_::r=>Sc r
def uy (V:cg) (g:G) (fz:Bool) (sz:Nat):Nat->List (Nat×Nat×ct)->(List TV->cg->Prop)->Prop
 |_,[],k=>k [] V
 |j,(off,n,x)::r,k=>(Nat.beq off (j*sz)&&Nat.beq n sz)=true/\lM V g x fun w=>match w with
  |.tr t=>dh n t/\uy V g fz sz (j+1) r fun ts V'=>k (t::ts) V'
  |.gi=>n=1/\uy V g fz sz (j+1) r fun ts V'=>k (.l []::ts) V'
  |.sl O=>fz=true/\n=1/\D5 V (.sl O) fun es=>uy (yz V (.sl O)) g fz sz (j+1) r fun ts V'=>k (.l es::ts) V'
  |.st t o=>(fz&&Sc o)=true/\Ga V o t fun t=>dh n t/\uy (y6 V o) g fz sz (j+1) r fun ts V'=>k (t::ts) V'
  |_=>False
def p_ (ts:List TV) (as:List AV):Prop:=ts.length=as.length/\∀(j:Nat) (t:TV) (x:AV),ts[j]?=some t->as[j]?=some x->Can t x
def VS (prog:Map bk) (f:Nat) (ts:List TV) (Q:TV->Prop):Prop:=
 ∀as,p_ ts as->∃v H nx,fe prog f as .leaf 0=some (v,H,nx)/\∃a,dw deep H v=some a/\∃r,Can r a/\Q r
theorem VS.mono {prog:Map bk} {f:Nat} {ts:List TV} {Q Q':TV->Prop} (h:VS prog f ts Q) (hq:∀r,Q r->Q' r):VS prog f ts Q':=
 fun as ha=>let ⟨v,H,nx,h1,a,h2,r,h3,h4⟩:=h as ha;⟨v,H,nx,h1,a,h2,r,h3,hq r h4⟩
def GS:List (Nat×VV)->Bool
 |[]=>true
 |(_,.gi)::r=>GS r
 |_::_=>false
def AB (V:cg) (g:G):List ct->(Bool->List TV->Prop)->Prop
 |[],k=>k true []
 |x::xs,k=>lM V g x fun w=>match w with
  |.tr v=>AB V g xs fun p vs=>k p (v::vs)
  |.gi=>AB V g xs fun p vs=>k p (.l []::vs)
  |.st v ovs=>Ga V ovs v fun v=>AB V g xs fun p vs=>k (GS ovs&&p) (v::vs)
  |w=>XN V w fun v=>AB V g xs fun _ vs=>k false (v::vs)
def gX (n:Nat):List TV->Prop
 |[]=>True
 |e::_=>dh n e
noncomputable def ey (V:cg) (O:Nat) (o:VO):cg:={V with H:=V.H.put (some o) O}
noncomputable def fq (V:cg) (O:Nat):cg:={V with H:=V.H.put none O}
def pos (n:Nat) (p:Prop):Prop:=bif Nat.blt 0 n then p else False
def same (a b:Nat) (p:Prop):Prop:=bif Nat.beq a b then p else False
def Ja (g:G) (P:Option Nat) (k:Nat->Prop):Prop:=match g with
 |none=>∃n,P=some n/\k n
 |some (c,bb)=>∃n,(c=.b bb->P=some n)/\k n
def xh:Option ct->Bool
 |some (.c (.int _ (.ofNat 0)))=>true
 |_=>false
noncomputable def ju (V:cg) (x:ct):VV:=match x with
 |.c v=>Iu v
 |.t n=>match V.env.get n with
  |some e=>e.v
  |none=>.bad
def Bj (n:Nat):List Nat->Bool
 |[]=>false
 |m::l=>Nat.beq n m||Bj n l
inductive AE where
 |tr (t:Nat)
 |sl (t sz:Nat)
 |pt (t O off:Nat)
 |ob (O:Nat) (offs:List (Nat×Nat))
 |st (t:Nat) (offs:List (Nat×Nat))
def JL:List (Nat×Nat)->Type->Type
 |[],R=>R
 |_::l,R=>List TV->JL l R
def JT:List AE->Type->Type
 |[],R=>R
 |.tr _::J,R=>TV->JT J R
 |.sl _ _::J,R=>List TV->JT J R
 |.pt _ _ _::J,R=>JT J R
 |.ob _ offs::J,R=>TV->JL offs (JT J R)
 |.st _ offs::J,R=>TV->JL offs (JT J R)
def HH (O off:Nat):Nat:=1024+32*O+off
noncomputable def sk (V:cg) (t:Nat) (w:VV):cg:={V with env:=V.env.put (some ⟨none,w⟩) t}
def Qg:Nat:=1073741824
def NJ (sz:Nat):Nat:=sz / 1048576 % 1024
def Sl (sz:Nat):Nat:=sz / 1024 % 1024
def Ro (sz:Nat):Nat:=sz % 1024
def wq (t sz:Nat) (es:List TV):VO:=match Nat.blt sz Qg with
 |true=>.gr sz es
 |false=>.gn t (NJ sz) (Sl sz) (Ro sz) 0 none es
def nq (sz:Nat):Bool:=match Nat.blt sz Qg with
 |true=>Nat.blt 0 sz
 |false=>Nat.blt 0 (NJ sz)&&(Nat.blt (Sl sz) (NJ sz)&&Nat.blt 0 (Ro sz))
def NG (sz s io iz:Nat):Bool:=!Nat.blt sz Qg&&(Nat.beq s (NJ sz)&&(Nat.beq io (Sl sz)&&Nat.beq iz (Ro sz)))
def tu (V:cg) (sz:Nat) (w:VV) (k:List TV->cg->Prop):Prop:=match w with
 |.sl O=>match V.H.get O with
  |some (.gr z es)=>(match Nat.blt z Qg with
   |true=>same z sz (k es (fq V O))
   |false=>False)
  |some (.gn _ s io iz _ none es)=>(match NG sz s io iz with
   |true=>k es (fq V O)
   |false=>False)
  |_=>False
 |.gi=>k [] V
 |_=>False
def vl {R:Type} (V:cg) (ovs:List (Nat×VV)):(offs:List (Nat×Nat))->JL offs R->(R->cg->Prop)->Prop
 |[],I,k=>k I V
 |(off,sz)::offs,I,k=>match fc off ovs with
  |some w=>tu V sz w fun es V'=>vl V' ovs offs (I es) k
  |none=>False
def j9 (i:Nat):List (Nat×Nat)->Bool
 |[]=>false
 |(j,_)::l=>Nat.beq i j||j9 i l
def Aa:List (Nat×VV)->List (Nat×Nat)->Bool
 |[],_=>true
 |(i,_)::r,l=>j9 i l&&Aa r l
def E8:(J:List AE)->cg->JT J Prop->Prop
 |[],_,I=>I
 |.tr t::J,V,I=>ta V none (.t t) fun v=>E8 J V (I v)
 |.sl t sz::J,V,I=>lM V none (.t t) fun w=>tu V sz w fun es V'=>E8 J V' (I es)
 |.pt t O off::J,V,I=>lM V none (.t t) fun w=>match w with
  |.ptr O' off'=>same O' O (same off' off (E8 J V I))
  |_=>False
 |.ob O offs::J,V,I=>match V.H.get O with
  |some (.ob v ovs)=>match Aa ovs offs with
   |true=>vl (R:=JT J Prop) (fq V O) ovs offs (I v) fun I V'=>E8 J V' I
   |false=>False
  |_=>False
 |.st t offs::J,V,I=>lM V none (.t t) fun w=>match w with
  |.st v ovs=>(match Aa ovs offs with
   |true=>vl (R:=JT J Prop) V ovs offs (I v) fun I V'=>E8 J V' I
   |false=>False)
  |_=>False
def Am:AE->Bool
 |.sl _ sz=>nq sz
 |.ob _ offs=>offs.all fun p=>nq p.2
 |.st _ offs=>offs.all fun p=>nq p.2
 |_=>true
def Cw (V:cg) (O:Nat) (o:VO) (k:cg->Prop):Prop:=match V.us.get O with
 |some _=>False
 |none=>k {V with H:=V.H.put (some o) O,us:=V.us.put (some ()) O}
def vz (O:Nat):List (Nat×Nat)->List (Nat×VV)
 |[]=>[]
 |(off,_)::l=>(off,.sl (HH O off))::vz O l
def QV {R:Type} (O:Nat):(offs:List (Nat×Nat))->cg->JL offs R->(R->cg->Prop)->Prop
 |[],V,I,k=>k I V
 |(off,sz)::offs,V,I,k=>∀es:List TV,Cw V (HH O off) (wq (HH O off) sz es) fun V'=>QV O offs V' (I es) k
def BY:(J:List AE)->cg->JT J Prop->(cg->Prop)->Prop
 |[],V,I,k=>I->k V
 |.tr t::J,V,I,k=>∀v:TV,BY J (sk V t (.tr v)) (I v) k
 |.sl t sz::J,V,I,k=>∀es:List TV,Cw V t (wq t sz es) fun V'=>BY J (sk V' t (.sl t)) (I es) k
 |.pt t O off::J,V,I,k=>match V.H.get O with
  |some (.ob _ _)=>BY J (sk V t (.ptr O off)) I k
  |_=>False
 |.ob O offs::J,V,I,k=>∀v:TV,QV (R:=JT J Prop) O offs V (I v) fun I V'=>Cw V' O (.ob v (vz O offs)) fun V''=>BY J V'' I k
 |.st t offs::J,V,I,k=>∀v:TV,QV (R:=JT J Prop) t offs V (I v) fun I V'=>BY J (sk V' t (.st v (vz t offs))) I k
def V0:cg:=⟨.leaf,.leaf,.leaf⟩
noncomputable def zw (V:cg) (ovs:List (Nat×VV)):List (Nat×Nat)->cg
 |[]=>V
 |(off,_)::l=>match fc off ovs with
  |some w=>zw (yz V w) ovs l
  |none=>zw V ovs l
noncomputable def sq:List AE->cg->cg
 |[],V=>V
 |.tr _::J,V=>sq J V
 |.sl t _::J,V=>sq J (yz V (ju V (.t t)))
 |.pt _ _ _::J,V=>sq J V
 |.ob O offs::J,V=>match V.H.get O with
  |some (.ob _ ovs)=>sq J (zw (fq V O) ovs offs)
  |_=>V
 |.st t offs::J,V=>match ju V (.t t) with
  |.st _ ovs=>sq J (zw V ovs offs)
  |_=>V
noncomputable def sr (V:cg) (O:Nat) (o:VO):cg:={V with H:=V.H.put (some o) O,us:=V.us.put (some ()) O}
noncomputable def Z6 {R:Type} (O:Nat):(offs:List (Nat×Nat))->cg->(cg->R)->JL offs R
 |[],V,k=>k V
 |(off,sz)::l,V,k=>fun es:List TV=>Z6 O l (sr V (HH O off) (wq (HH O off) sz es)) k
noncomputable def TZ:(J:List AE)->cg->(cg->Prop)->JT J Prop
 |[],V,k=>k V
 |.tr t::J,V,k=>fun v:TV=>TZ J (sk V t (.tr v)) k
 |.sl t sz::J,V,k=>fun es:List TV=>TZ J (sk (sr V t (wq t sz es)) t (.sl t)) k
 |.pt t O off::J,V,k=>TZ J (sk V t (.ptr O off)) k
 |.ob O offs::J,V,k=>fun v:TV=>Z6 (R:=JT J Prop) O offs V fun V'=>TZ J (sr V' O (.ob v (vz O offs))) k
 |.st t offs::J,V,k=>fun v:TV=>Z6 (R:=JT J Prop) t offs V fun V'=>TZ J (sk V' t (.st v (vz t offs))) k
noncomputable def Ai (us:Map Unit) (O:Nat):Bool:=match us.get O with
 |some _=>false
 |none=>true
noncomputable def YC (O:Nat):List (Nat×Nat)->Map Unit->Option (Map Unit)
 |[],us=>some us
 |(off,_)::l,us=>bif Ai us (HH O off) then YC O l (us.put (some ()) (HH O off)) else none
noncomputable def Nx:List AE->Map Unit->List Nat->Bool
 |[],_,_=>true
 |.tr _::J,us,obs=>Nx J us obs
 |.sl t _::J,us,obs=>Ai us t&&Nx J (us.put (some ()) t) obs
 |.pt _ O _::J,us,obs=>Bj O obs&&Nx J us obs
 |.ob O offs::J,us,obs=>match YC O offs us with
  |some us=>Ai us O&&Nx J (us.put (some ()) O) (O::obs)
  |none=>false
 |.st t offs::J,us,obs=>match YC t offs us with
  |some us=>Nx J us obs
  |none=>false
inductive PK where
 |tr
 |ob (offs:List (Nat×Nat))
 |sl (sz:Nat)
inductive RK where
 |tr
 |sl (sz:Nat)
 |st (offs:List (Nat×Nat))
structure Sig where
 ks:List PK
 rk:RK
def wg:List PK->Nat->List AE
 |[],_=>[]
 |.tr::ks,i=>.tr i::wg ks (i+1)
 |.ob offs::ks,i=>.ob i offs::.pt i i 0::wg ks (i+1)
 |.sl sz::ks,i=>.sl i sz::wg ks (i+1)
def Uf (np:Nat):RK->List AE
 |.tr=>[.tr np]
 |.sl sz=>[.sl np sz]
 |.st offs=>[.st np offs]
def iq (np:Nat) (rk:RK):List PK->Nat->List AE
 |[],_=>Uf np rk
 |.tr::ks,i=>iq np rk ks (i+1)
 |.ob offs::ks,i=>.ob i offs::.pt i i 0::iq np rk ks (i+1)
 |.sl sz::ks,i=>.sl i sz::iq np rk ks (i+1)
inductive VG where
 |ob (O d:Nat)
 |pt
 |sl (O:Nat)
 |res (d:Nat)
def iy (d:Nat):List PK->List VV->Option (List VG)
 |[],[]=>some [.res d]
 |.tr::ks,_::ws=>iy d ks ws
 |.ob _::ks,.ptr O 0::ws=>match iy d ks ws with
  |some l=>some (.ob O d::.pt::l)
  |none=>none
 |.sl _::ks,.sl O::ws=>match iy d ks ws with
  |some l=>some (.sl O::l)
  |none=>none
 |_,_=>none
def Bz (d off:Nat):Nat:=65536+64*d+off
abbrev Bt (d:Nat):Nat:=d+1048576
def D8 (d:Nat):List (Nat×Nat)->List (Nat×VV)
 |[]=>[]
 |(off,_)::l=>(off,.sl (Bz d off))::D8 d l
noncomputable def QB {R:Type} (d:Nat):(offs:List (Nat×Nat))->cg->(cg->R)->JL offs R
 |[],V,k=>k V
 |(off,sz)::l,V,k=>fun es:List TV=>QB d l (sr V (Bz d off) (wq (Bz d off) sz es)) k
def YN {R:Type} (r:R):(offs:List (Nat×Nat))->JL offs R
 |[]=>r
 |_::l=>fun _:List TV=>YN r l
def Rl:(J:List AE)->JT J Prop
 |[]=>False
 |.tr _::J=>fun _:TV=>Rl J
 |.sl _ _::J=>fun _:List TV=>Rl J
 |.pt _ _ _::J=>Rl J
 |.ob _ offs::J=>fun _:TV=>YN (R:=JT J Prop) (Rl J) offs
 |.st _ offs::J=>fun _:TV=>YN (R:=JT J Prop) (Rl J) offs
noncomputable def FU:(J:List AE)->List VG->cg->(cg->Prop)->JT J Prop
 |[],_,V,k=>k V
 |.tr _::J,ims,V,k=>fun v:TV=>match ims with
  |.res d::ims=>FU J ims (sk V d (.tr v)) k
  |_=>Rl J
 |.pt _ _ _::J,ims,V,k=>match ims with
  |.pt::ims=>FU J ims V k
  |_=>Rl J
 |.sl _ sz::J,ims,V,k=>fun es:List TV=>match ims with
  |.sl O::ims=>FU J ims (ey V O (.gr sz es)) k
  |.res d::ims=>FU J ims (sk (sr V d (wq d sz es)) d (.sl d)) k
  |_=>Rl J
 |.ob _ offs::J,ims,V,k=>fun v:TV=>match ims with
  |.ob O d::ims=>QB (R:=JT J Prop) d offs V fun V'=>FU J ims (ey V' O (.ob v (D8 d offs))) k
  |_=>YN (R:=JT J Prop) (Rl J) offs
 |.st _ offs::J,ims,V,k=>fun v:TV=>match ims with
  |.res d::ims=>QB (R:=JT J Prop) (Bt d) offs V fun V'=>FU J ims (sk V' d (.st v (D8 (Bt d) offs))) k
  |_=>YN (R:=JT J Prop) (Rl J) offs
noncomputable def Lb (d:Nat):List (Nat×Nat)->Map Unit->Option (Map Unit)
 |[],us=>some us
 |(off,_)::l,us=>bif Ai us (Bz d off) then Lb d l (us.put (some ()) (Bz d off)) else none
noncomputable def Px (nt:Nat):List AE->List VG->Map Unit->Bool
 |[],_,_=>true
 |.tr _::J,ims,us=>match ims with
  |.res d::ims=>Nat.blt d nt&&Px nt J ims us
  |_=>false
 |.pt _ _ _::J,ims,us=>match ims with
  |.pt::ims=>Px nt J ims us
  |_=>false
 |.sl _ sz::J,ims,us=>match ims with
  |.sl _::ims=>Nat.blt sz Qg&&Px nt J ims us
  |.res d::ims=>Nat.blt d nt&&(Ai us d&&Px nt J ims (us.put (some ()) d))
  |_=>false
 |.ob _ offs::J,ims,us=>match ims with
  |.ob _ d::ims=>match Lb d offs us with
   |some us=>Px nt J ims us
   |none=>false
  |_=>false
 |.st _ offs::J,ims,us=>match ims with
  |.res d::ims=>Nat.blt d nt&&(match Lb (Bt d) offs us with
   |some us=>Px nt J ims us
   |none=>false)
  |_=>false
structure Sh where
 sg:Nat->Option Sig
 vs:(f np:Nat)->(Jin Jout:List AE)->JT Jout Prop->JT Jin Prop
 inl:Nat->Option (cg->List VV->(VV->cg->Prop)->Prop)
 tc:Nat->List Nat
 gc:Nat->Nat
 pn:Nat->List (Nat×Nat)
def RV (V:cg):List ct->(List VV->Prop)->Prop
 |[],k=>k []
 |x::xs,k=>lM V none x fun w=>RV V xs fun ws=>k (w::ws)
noncomputable def D1:List VV->Nat->Map VE->Map VE
 |[],_,e=>e
 |w::ws,i,e=>D1 ws (i+1) (e.put (some ⟨none,w⟩) i)
noncomputable def Oh:(ks:List PK)->(i:Nat)->List VV->cg->JT (wg ks i) Prop->Prop
 |[],_,ws,_,I=>match ws with
  |[]=>I
  |_::_=>False
 |.tr::ks,i,ws,V,I=>match ws with
  |w::ws=>IQ w fun v=>Oh ks (i+1) ws V (I v)
  |[]=>False
 |.ob offs::ks,i,ws,V,I=>match ws with
  |.ptr O 0::ws=>(match V.H.get O with
   |some (.ob v ovs)=>match Aa ovs offs with
    |true=>vl (R:=JT (.pt i i 0::wg ks (i+1)) Prop) (fq V O) ovs offs (I v) fun I V'=>Oh ks (i+1) ws V' I
    |false=>False
   |_=>False)
  |_=>False
 |.sl sz::ks,i,ws,V,I=>match ws with
  |.sl O::ws=>tu V sz (.sl O) fun es V'=>Oh ks (i+1) ws V' (I es)
  |_=>False
noncomputable def qb:List PK->List VV->cg->cg
 |[],_,V=>V
 |.tr::ks,ws,V=>match ws with
  |_::ws=>qb ks ws V
  |[]=>V
 |.ob offs::ks,ws,V=>match ws with
  |.ptr O 0::ws=>(match V.H.get O with
   |some (.ob _ ovs)=>qb ks ws (zw (fq V O) ovs offs)
   |_=>V)
  |_=>V
 |.sl _::ks,ws,V=>match ws with
  |.sl O::ws=>qb ks ws (yz V (.sl O))
  |_=>V
noncomputable def Et (sh:Sh) (nt:Nat) (V:cg) (d:Option Nat) (f:Nat) (args:List ct) (k:cg->Prop):Prop:=match d with
 |none=>False
 |some d=>match sh.inl f with
  |some T=>RV V args fun ws=>T V ws fun w V'=>jj nt V' (some d) none w k
  |none=>match sh.sg f with
  |none=>False
  |some sg=>RV V args fun ws=>match iy d sg.ks ws with
   |none=>False
   |some ims=>match ((wg sg.ks 0).all Am&&(iq sg.ks.length sg.rk sg.ks 0).all Am)&&(Nx (wg sg.ks 0) .leaf []&&Px nt (iq sg.ks.length sg.rk sg.ks 0) ims V.us) with
    |false=>False
    |true=>Oh sg.ks 0 ws V (sh.vs f sg.ks.length (wg sg.ks 0) (iq sg.ks.length sg.rk sg.ks 0)
      (FU (iq sg.ks.length sg.rk sg.ks 0) ims {qb sg.ks ws V with env:=V.env.put none d} k))
section
variable (sh:Sh) (prog:Map bk) (nt:Nat)
def Yu (g:G) (P:Option TV) (k:Prop):Prop:=match g with
 |none=>∃e,P=some e/\k
 |some (c,bb)=>∃e,(c=.b bb->P=some e)/\k
def ldI (es:List TV) (i io j off:Nat) (sz:Option Nat):Option TV:=match Ac es i io with
 |some l=>gA l j off sz
 |none=>none
def PW (es:List TV) (i io:Nat):Option TV:=match Ac es i io with
 |some l=>some (.i .i64 l.length)
 |none=>none
def YT (es:List TV) (i io:Nat) (j:TV):Option Nat:=match Ac es i io with
 |some l=>dz j l.length
 |none=>none
def BX (off n io:Nat):Bool:=Nat.ble (off+n) io||Nat.blt io off
def uv (V:cg) (d:Option Nat) (g:G) (sz:Option Nat) (w:VV) (k:cg->Prop):Prop:=match w with
 |.ptr O off=>match V.H.get O with
  |some (.ob v ovs)=>match sz with
   |none=>match fc off ovs with
    |some w=>jj nt V d g w k
    |none=>ko nt V d g (b9 (bh v off)) k
   |some n=>match v8 off n ovs with
    |[]=>ko nt V d g (c8 v off n) k
    |p::r=>match g with
     |none=>∃u,c8 v off n=some u/\jj nt V d none (.st u (p::r)) k
     |some _=>False
  |_=>False
 |.pd O off=>match V.H.get O with
  |some (.ob v ovs)=>match ovs with
   |[]=>ko nt V d g (ny v off sz) k
   |_::_=>False
  |_=>False
 |.pt v off=>ko nt V d g (ny v off sz) k
 |.ea O i off=>match V.H.get O with
  |some (.gr _ es)=>ko nt V d g (gA es i off sz) k
  |some (.gn K _ io _ ver hole es)=>(match Nat.beq K O with
   |true=>(match sz with
    |none=>(match Nat.beq off io with
     |true=>(match hole with
      |none=>Yu g es[i]? (jj nt V d g (.ow O ver i) k)
      |some _=>False)
     |false=>ko nt V d g (gA es i off none) k)
    |some n=>(match BX off n io with
     |true=>ko nt V d g (gA es i off (some n)) k
     |false=>False))
   |false=>False)
  |_=>False
 |.e2 O v i j off=>Sk V O v fun _ io _ es=>ko nt V d g (ldI es i io j off sz) k
 |_=>False
def S3 (h:Option Nat) (i:Nat) (k:Prop):Prop:=match h with
 |none=>k
 |some j=>j=i/\k
def s9 (V:cg) (sz:Nat) (w x:VV) (k:cg->Prop):Prop:=match w with
 |.ptr O off=>match V.H.get O with
  |some (.ob v ovs)=>match KM x with
   |some (t,o)=>∃u,av v off sz t=some u/\k (ey V O (.ob u (Cr off o (v9 off sz ovs))))
   |none=>False
  |_=>False
 |.pd O off=>match V.H.get O with
  |some (.ob v ovs)=>match ovs with
   |[]=>match x with
    |.tr t=>∃u,av v off sz t=some u/\k (ey V O (.ob u []))
    |_=>False
   |_::_=>False
  |_=>False
 |.ea O i off=>match V.H.get O with
  |some (.gr z es)=>match x with
   |.tr t=>∃es',fl es i off sz t=some es'/\k (ey V O (.gr z es'))
   |_=>False
  |some (.gn K s io iz ver hole es)=>(match Nat.beq K O with
   |true=>(match x with
    |.tr t=>(match BX off sz io with
     |true=>∃es',fl es i off sz t=some es'/\k (ey V O (.gn K s io iz ver hole es'))
     |false=>False)
    |.sl N=>(match Nat.beq sz 1&&(Nat.beq off io&&!Nat.beq N O) with
     |true=>(match V.H.get N with
      |some (.gr z l)=>(match Nat.beq z iz with
       |true=>S3 hole i (∃es',fl es i io 1 (.l l)=some es'/\k (ey (fq V N) O (.gn K s io iz (ver+1) none es')))
       |false=>False)
      |_=>False)
     |false=>False)
    |_=>False)
   |false=>False)
  |_=>False
 |.e2 O v i j off=>Sk V O v fun s io iz es=>match x with
  |.tr t=>∃l,Ac es i io=some l/\∃l',fl l j off sz t=some l'/\∃es',fl es i io 1 (.l l')=some es'/\k (ey V O (.gn O s io iz v none es'))
  |_=>False
 |_=>False
def J0 (V:cg) (d:Option Nat) (g:G) (off:Nat) (sz:Option Nat) (w:VV) (k:cg->Prop):Prop:=match w with
 |.tr v=>ko nt V d g (YY v off sz) k
 |.st v ovs=>match sz with
  |none=>match fc off ovs with
   |some w=>jj nt V d g w k
   |none=>ko nt V d g (bh v off) k
  |some n=>match v8 off n ovs with
   |[]=>ko nt V d g (c8 v off n) k
   |p::r=>match g with
    |none=>∃u,c8 v off n=some u/\jj nt V d none (.st u (p::r)) k
    |some _=>False
 |_=>False
def Ij (V:cg) (d:Option Nat) (g:G) (off:Nat) (w:VV) (k:cg->Prop):Prop:=match w with
 |.ptr O o=>jj nt V d g (.ptr O (o+off)) k
 |.pd O o=>jj nt V d g (.pd O (o+off)) k
 |.pt v o=>jj nt V d g (.pt v (o+off)) k
 |.ea O i o=>jj nt V d g (.ea O i (o+off)) k
 |.e2 O v i j o=>jj nt V d g (.e2 O v i j (o+off)) k
 |_=>False
def MS (V:cg) (d:Option Nat) (g:G) (sz:Nat) (w:VV) (i:TV) (k:cg->Prop):Prop:=pos sz <| match w with
 |.tr v=>O4 g (fun e=>oW v i=some e/\dh sz e) fun e=>jj nt V d g (.pt e 0) k
 |.sl O=>match V.H.get O with
  |some (.gr z es)=>same z sz (Ja g (dz i es.length) fun n=>jj nt V d g (.ea O n 0) k)
  |some (.gn _ s _ _ _ _ es)=>same s sz (Ja g (dz i es.length) fun n=>jj nt V d g (.ea O n 0) k)
  |_=>False
 |.ow O v j=>Sk V O v fun _ io iz es=>same iz sz (Ja g (YT es j io i) fun n=>jj nt V d g (.e2 O v j n 0) k)
 |_=>False
def LF (V:cg) (d:Option Nat) (g:G) (len sz:Nat) (w:VV) (i:TV) (k:cg->Prop):Prop:=match w with
 |.ptr O o=>Ja g (dz i len) fun n=>jj nt V d g (.pd O (o+n*sz)) k
 |.pd O o=>Ja g (dz i len) fun n=>jj nt V d g (.pd O (o+n*sz)) k
 |.pt v o=>Ja g (dz i len) fun n=>jj nt V d g (.pt v (o+n*sz)) k
 |_=>False
def MP (V:cg) (d:Option Nat) (g:G) (str:Bool) (w:VV) (k:cg->Prop):Prop:=match str with
 |true=>match w with
  |.tr v=>ko nt V d g (zq v) k
  |_=>False
 |false=>match w with
  |.tr v=>ko nt V d g (e9 v) k
  |.gi=>ko nt V d g (some (.i .i64 0)) k
  |.sl O=>match V.H.get O with
   |some (.gr _ es)=>ko nt V d g (some (.i .i64 es.length)) k
   |some (.gn _ _ _ _ _ _ es)=>ko nt V d g (some (.i .i64 es.length)) k
   |_=>False
  |.ow O v j=>Sk V O v fun _ io _ es=>ko nt V d g (PW es j io) k
  |_=>False
def OG (V:cg) (sz:Nat) (w:VV) (k:List TV->Prop):Prop:=match w with
 |.tr v=>∃xs,gb v=some xs/\gX sz xs/\k xs
 |.gi=>k []
 |.sl P=>match V.H.get P with
  |some (.gr z es)=>same z sz (k es)
  |_=>False
 |_=>False
def Il (V:cg) (d:Option Nat) (g:G) (s io bytes:Nat) (w:VV) (xs:List TV) (k:cg->Prop):Prop:=match d with
 |none=>False
 |some dd=>match w with
  |.gi=>(match NG (sh.gc dd) s io (Ro (sh.gc dd))&&Nat.blt 0 (Ro (sh.gc dd)) with
   |true=>∃l,gw bytes [] xs=some l/\ry nt V d g .sl (.gn dd s io (Ro (sh.gc dd)) 0 none l) k
   |false=>False)
  |.sl O=>(match V.H.get O with
   |some (.gn _ s' io' iz _ none es)=>(match Nat.beq s' s&&Nat.beq io' io with
    |true=>∃l,gw bytes es xs=some l/\ry nt (fq V O) d g .sl (.gn dd s io iz 0 none l) k
    |false=>False)
   |_=>False)
  |_=>False
def Hp (V:cg) (d:Option Nat) (g:G) (sz bytes:Nat) (w x:VV) (k:cg->Prop):Prop:=match x with
 |.gl s io xs=>same s sz (Il sh nt V d g s io bytes w xs k)
 |x=>pos sz <| OG V sz x fun xs=>match w with
 |.gi=>∃l,gw bytes [] xs=some l/\ry nt V d g .sl (.gr sz l) k
 |.sl O=>match V.H.get O with
  |some (.gr z es)=>same z sz (∃l,gw bytes es xs=some l/\ry nt (fq V O) d g .sl (.gr sz l) k)
  |_=>False
 |.ow O v i=>Sk V O v fun s io iz es=>same iz sz (∃l0,Ac es i io=some l0/\∃l,gw bytes l0 xs=some l/\ry nt (ey V O (.gn O s io iz v (some i) es)) d g .sl (.gr sz l) k)
 |_=>False
def LC (V:cg) (d:Option Nat) (g:G) (sz:Nat) (w:VV) (lo hi mx:Option ct) (k:cg->Prop):Prop:=pos sz <| match w with
 |.sl O=>match V.H.get O with
  |some (.gr z es)=>match hi with
   |none=>match mx with
    |none=>same z sz (Gg V none lo fun l=>∃m,Rq l 0 es.length=some m/\ry nt (fq V O) d g .sl (.gr sz (es.drop m)) k)
    |some _=>False
   |some _=>False
  |_=>False
 |.tr v=>match mx with
  |none=>Gg V g lo fun l=>Gg V g hi fun h=>O4 g (fun r=>Tr v l h=some r/\(∀es,v=.l es->gX sz es)) fun r=>jj nt V d none (.tr r) k
  |some m=>match xh hi&&xh mx&&lo.isNone&&g.isNone with
   |true=>∃l,gb v=some l/\gX sz l/\jj nt V d none .gi k
   |false=>False
 |.gi=>match xh hi&&xh mx&&lo.isNone with
  |true=>jj nt V d g .gi k
  |false=>False
 |_=>False
def QA:List Nat->List (Nat×VV)->List (Nat×VV)
 |[],l=>l
 |c::cs,l=>QA cs (v9 c 1 l)
def XP (d:Option Nat):List Nat:=match d with
 |some d=>sh.tc d
 |none=>[]
def LW:List Nat->TV->List (Nat×VV)->(TV->List (Nat×VV)->Prop)->Prop
 |[],v,o,k=>k v o
 |c::cs,v,o,k=>match fc c o with
  |some .gi=>∃u,av v c 1 (.l [])=some u/\LW cs u (v9 c 1 o) k
  |_=>False
def tcD (d:Option Nat) (l:List (Nat×VV)):List (Nat×VV):=match d with
 |some d=>QA (sh.tc d) l
 |none=>l
def bz (p:Bool) (r:TV):Prop:=match p with
 |true=>True
 |false=>r.Ni=true
def FH (V:cg) (d:Option Nat) (g:G) (f:Nat) (args:List ct) (k:cg->Prop):Prop:=
 AB V g args fun p ts=>match g with
  |none=>VS prog f ts fun r=>bz p r/\jj nt V d none (.tr r) k
  |some (c,bb)=>∃r,gV c bb (fun r=>VS prog f ts fun r'=>r'=r/\bz p r) r/\jj nt V d none (.tr r) k
def Ur (V:cg) (d:Option Nat) (g:G) (w:VV) (k:cg->Prop):Prop:=match w with
 |.tr v=>(match g with|none=>jj nt V d none (.tr v) k|some _=>ko nt V d g (some v) k)
 |.bad=>False
 |w=>jj nt V d g w k
def Ii (V:cg) (d:Option Nat) (g:G) (w:VV) (k:cg->Prop):Prop:=match w with
 |.ptr ..=>jj nt V d g w k
 |.pd ..=>jj nt V d g w k
 |.pt ..=>jj nt V d g w k
 |.ea ..=>jj nt V d g w k
 |_=>False
def Us (V:cg) (d:Option Nat) (s io:Nat) (w:VV) (k:cg->Prop):Prop:=match w with
 |.gi=>(match Nat.beq s 1&&Nat.beq io 0 with
  |true=>jj nt V d none (.gl 1 0 [.l []]) k
  |false=>False)
 |.st t ovs=>(match ovs with
  |[(o,.gi)]=>(match Nat.beq o io&&Nat.blt io s with
   |true=>dh s t/\∃u,av t io 1 (.l [])=some u/\jj nt V d none (.gl s io [u]) k
   |false=>False)
  |_=>False)
 |_=>False
def isGl (d:Option Nat):Option Nat:=match d with
 |some d=>(match sh.gc d with
  |0=>none
  |c+1=>some (c+1))
 |none=>none
def MR (V:cg) (d:Option Nat) (g:G) (fz:Bool) (len:Nat) (zero:List AV) (parts:List (Nat×Nat×ct)) (k:cg->Prop):Prop:=match g with
 |none=>match len with
  |0=>(match parts with|[]=>(match zero with|[]=>(match fz with|false=>jj nt V d none .gi k|true=>False)|_::_=>False)|_::_=>False)
  |n+1=>pos (zero.length / len) (same ((zero.length / len)*len) zero.length (uy V none fz (zero.length / len) 0 parts fun ts V'=>same ts.length len (jj nt V' d none (.tr (.l ts)) k)))
 |some _=>False
def DZ (V:cg) (d:Option Nat) (g:G) (fz:Bool) (len:Nat) (zero:List AV) (parts:List (Nat×Nat×ct)) (k:cg->Prop):Prop:=match isGl sh d with
 |none=>MR nt V d g fz len zero parts k
 |some c=>match g with
  |none=>(match parts with
   |[(off,n,x)]=>(match Nat.beq len 1&&(Nat.beq off 0&&(Nat.beq n (NJ c)&&Nat.beq zero.length n)) with
    |true=>lM V none x fun w=>Us nt V d (NJ c) (Sl c) w k
    |false=>False)
   |_=>False)
  |some _=>False
def C_:List (Nat×Nat×TV)->TV->Option TV
 |[],v=>some v
 |(off,n,t)::r,v=>match av v off n t with
  |some u=>C_ r u
  |none=>none
def Pd (V:cg) (g:G):List (Nat×Nat×ct)->(List (Nat×Nat×TV)->Prop)->Prop
 |[],k=>k []
 |(off,n,x)::r,k=>ta V g x fun t=>Pd V g r fun l=>k ((off,n,t)::l)
def P7:ct->Bool
 |.c .aq=>true
 |_=>false
def Bl (V:cg) (d:Option Nat) (g:G) (op:lX) (k:cg->Prop):Prop:=match op with
 |.mv x=>lM V g x fun w=>Ur nt V d g w k
 |.pick c a b=>ta V g c fun c=>ta V g a fun a=>ta V g b fun b=>ko nt V d g (bf c a b) k
 |.alloc zero=>match gJ jz zero with
  |true=>ry nt V d g (fun O=>.ptr O 0) (.ob (.a (gE zero)) (tcD sh d (oU 0 zero))) k
  |false=>False
 |.box x=>lM V g x fun w=>match KM w with
  |some (v,o)=>v.jn=false/\LW (XP sh d) v o fun v o=>ry nt V d g (fun O=>.ptr O 0) (.ob v o) k
  |none=>False
 |.build zero parts=>match g with
  |none=>(match gJ jz zero with
   |true=>HX V none parts (.a (gE zero)) (oU 0 zero) fun v ovs=>jj nt V d none (ij v ovs) k
   |false=>False)
  |some q=>(match gJ jz zero with
   |true=>Pd V (some q) parts fun l=>ko nt V d (some q) (C_ l (.a (gE zero))) k
   |false=>False)
 |.sj es len zero parts=>match g with
  |none=>pos es (uy V none false es 0 parts fun ts V'=>same ts.length len (same zero.length (ts.length*es) (ry nt V' d none .sl (.gr es ts) k)))
  |some _=>False
 |.de len zero parts=>DZ sh nt V d g false len zero parts k
 |.load sz a=>lM V g a fun w=>uv nt V d g sz w k
 |.store sz a x=>match g with
  |none=>match d with
   |none=>lM V none a fun w=>lM V none x fun x=>s9 V sz w x k
   |some _=>False
  |some _=>False
 |.we x=>lM V g x fun w=>Ii nt V d g w k
 |.bin op x y=>ta V g x fun x=>ta V g y fun y=>ko nt V d g (b8 op x y) k
 |.eq t neg x y=>match t with
  |.slice=>(match g with
   |none=>(match P7 y with
    |true=>ta V none x fun x=>∃es:List TV,gb x=some es/\∀b:Bool,(es≠[]->b=neg)->jj nt V d none (.tr (.b b)) k
    |false=>False)
   |some _=>False)
  |t=>ta V g x fun x=>ta V g y fun y=>ko nt V d g (Y4 t neg x y) k
 |.un op x=>ta V g x fun x=>ko nt V d g (oe op x) k
 |.conv c x=>ta V g x fun x=>ko nt V d g (kj c x) k
 |.Cx es bytes zero n=>pos es <| match g with
  |none=>(match gJ jz zero&&Nat.beq zero.length es with
   |true=>ta V none n fun n=>∃m,PI bytes n=some m/\ry nt V d none .sl (.gr es (List.replicate m (L7 es zero))) k
   |false=>False)
  |some _=>False
 |.sn x lo hi=>ta V g x fun x=>Gg V g lo fun lo=>Gg V g hi fun hi=>ko nt V d g (zp x lo hi) k
 |.zb es x lo hi mx=>lM V g x fun w=>LC nt V d g es w lo hi mx k
 |.uu off x=>lM V g x fun w=>Ij nt V d g off w k
 |.NN off sz x=>lM V g x fun w=>J0 nt V d g off sz w k
 |.jg es x i=>lM V g x fun w=>ta V g i fun i=>MS nt V d g es w i k
 |.uo len es x i=>lM V g x fun w=>ta V g i fun i=>LF nt V d g len es w i k
 |.idx x i=>ta V g x fun x=>ta V g i fun i=>ko nt V d g (lJ x i) k
 |.ext i x=>ta V g x fun x=>ko nt V d g (jv i x) k
 |.app es bytes s x=>lM V g s fun w=>lM V g x fun x=>Hp sh nt V d g es bytes w x k
 |.len str x=>lM V g x fun w=>MP nt V d g str w k
 |.KC mx xs=>Pc V g xs fun xs=>ko nt V d g (JC mx xs) k
 |.call f args .borrow=>FH prog nt V d g f args k
 |.call f args .share=>match g with
  |none=>Et sh nt V d f args k
  |some _=>False
 |.kn f args .borrow=>ta V g f fun f=>match g with
  |none=>∃n,f=.f n/\FH prog nt V d none n args k
  |some (c,bb)=>∃n,(c=.b bb->f=.f n)/\FH prog nt V d (some (c,bb)) n args k
 |_=>False
def Sq (V:cg) (o:cj) (k:cg->Prop):Prop:=match o.gd with
 |none=>match o.fz with
  |true=>(match o.op with
   |.de len zero parts=>DZ sh nt V o.dst none true len zero parts k
   |_=>False)
  |false=>Bl sh prog nt V o.dst none o.op k
 |some (n,bb)=>match o.fz with
  |true=>False
  |false=>ta V none (.t n) fun c=>Bl sh prog nt V o.dst (some (c,bb)) o.op k
def Uq:List cj->cg->(cg->Prop)->Prop
 |[],V,k=>k V
 |o::l,V,k=>Sq sh prog nt V o fun V=>Uq l V k
structure Kx where
 rd:List Nat
 wr:List Nat
 src:List Nat
def Db:List (Nat×VV)->List Nat
 |[]=>[]
 |(_,.sl O)::r=>O::Db r
 |(_,.ow O _ _)::r=>O::Db r
 |_::r=>Db r
def jb:VV->List Nat
 |.sl O=>[O]
 |.st _ ovs=>Db ovs
 |.ow O _ _=>[O]
 |_=>[]
def s6:VV->List Nat
 |.ptr O _=>[O]
 |.pd O _=>[O]
 |.ea O _ _=>[O]
 |.e2 O _ _ _ _=>[O]
 |_=>[]
def Ug:VV->Bool
 |.tr _=>true
 |.gi=>true
 |.st _ ovs=>GS ovs
 |_=>false
noncomputable def C3 (V:cg):List ct->Bool
 |[]=>true
 |x::xs=>Ug (ju V x)&&C3 V xs
noncomputable def lQ (V:cg):List (Nat×Nat×ct)->List Nat
 |[]=>[]
 |(_,_,x)::r=>jb (ju V x)++lQ V r
noncomputable def Ie (V:cg) (o:cj):Option Kx:=match o.op with
 |.load _ a=>some ⟨s6 (ju V a),[],[]⟩
 |.store _ a _=>some ⟨s6 (ju V a),s6 (ju V a),[]⟩
 |.app _ _ s x=>some ⟨jb (ju V s)++jb (ju V x),jb (ju V s),jb (ju V s)⟩
 |.zb _ x _ _ _=>some ⟨[],[],jb (ju V x)⟩
 |.de _ _ parts=>match o.fz with
  |true=>some ⟨lQ V parts,lQ V parts,[]⟩
  |false=>some ⟨[],[],[]⟩
 |.call _ args .borrow=>match C3 V args with
  |true=>some ⟨[],[],[]⟩
  |false=>none
 |.kn _ args .borrow=>match C3 V args with
  |true=>some ⟨[],[],[]⟩
  |false=>none
 |.call _ _ .share=>none
 |.kn _ _ .share=>none
 |.Br ..=>none
 |.SF ..=>none
 |.SH ..=>none
 |.Bv ..=>none
 |.H8 ..=>none
 |.Gi ..=>none
 |_=>some ⟨[],[],[]⟩
def jo (T:Nat):List (Nat×Nat×List Nat)->Nat×List Nat
 |[]=>(T,[])
 |(T',x)::l=>bif Nat.beq T' T then x else jo T l
def RG:List Nat->List Nat->Bool
 |[],_=>true
 |n::l,m=>Bj n m&&RG l m
def Ht:List Nat->List Nat->Bool
 |[],_=>true
 |n::l,m=>!Bj n m&&Ht l m
def vo (info:List (Nat×Nat×List Nat)):List Nat->List Nat
 |[]=>[]
 |T::l=>(jo T info).1::vo info l
def xw (info:List (Nat×Nat×List Nat)) (ah:List Nat):List Nat->Bool
 |[]=>true
 |T::l=>RG (jo T info).2 ah&&xw info ah l
noncomputable def Gl {α:Type} (m:Map α):(Nat->Bool)->Bool:=
 Map.rec (motive:=fun _=>(Nat->Bool)->Bool) (fun _=>true)
  (fun v _ _ l r p=>(match v with|none=>true|some _=>p 0)&&(l (fun k=>p (Nat.succ (Nat.mul 2 k)))&&r (fun k=>p (Nat.succ (Nat.succ (Nat.mul 2 k)))))) m
def isD (d:Option Nat) (T:Nat):Bool:=match d with
 |some d=>Nat.beq d T
 |none=>false
noncomputable def xk (V:cg) (T:Nat):Bool:=match V.H.get T with
 |some _=>true
 |none=>false
def MD:Option VO->Option VO->Bool
 |some (.gn _ _ _ _ _ none _),some (.gn _ _ _ _ _ (some _) _)=>false
 |_,_=>true
def OP (x y:Option VO) (k:Prop):Prop:=match x with
 |some (.gn K _ _ _ v h _)=>(match y with
  |some (.gn K' _ _ _ v' h' _)=>(match Nat.beq K K'&&Nat.beq v v' with
   |true=>(match h with
    |none=>k
    |some j=>(match h' with
     |some j'=>j=j'/\k
     |none=>False))
   |false=>False)
  |some _=>False
  |none=>k)
 |some _=>(match y with
  |some (.gn ..)=>False
  |_=>k)
 |none=>k
noncomputable def N7 {α:Type} (m:Map α):(Nat->Prop->Prop)->Prop->Prop:=
 Map.rec (motive:=fun _=>(Nat->Prop->Prop)->Prop->Prop) (fun _ k=>k)
  (fun v _ _ l r f k=>(match v with|none=>fun k=>k|some _=>f 0) (l (fun i=>f (Nat.succ (Nat.mul 2 i))) (r (fun i=>f (Nat.succ (Nat.succ (Nat.mul 2 i)))) k))) m
noncomputable def Na (l:List cj) (V V':cg) (k:Prop):Prop:=match l with
 |[]=>k
 |_::_=>N7 V'.H (fun T=>OP (V.H.get T) (V'.H.get T)) k
noncomputable def GA (d:Option Nat) (i:Nat) (V V':cg) (f:Kx) (info:List (Nat×Nat×List Nat)):Option (List (Nat×Nat×List Nat)):=
 match Gl V'.H fun T=>xk V T||isD d T with
 |false=>none
 |true=>match d with
  |none=>some info
  |some d=>match xk V' d&&!xk V d with
   |false=>some info
   |true=>match Gl V.H fun T=>Bj T f.src||(xk V' T&&MD (V.H.get T) (V'.H.get T)) with
    |false=>none
    |true=>match f.src with
     |[]=>some ((d,d,[i])::info)
     |[O]=>some ((d,(jo O info).1,i::(jo O info).2)::info)
     |_=>none
def HY (feet:List (List Nat×List Nat)):List (Nat×Nat)->Bool
 |[]=>true
 |(i,j)::l=>(match feet[i]? with
  |some a=>match feet[j]? with
   |some b=>Ht a.2 b.1&&(Ht b.2 a.1&&Ht a.2 b.2)
   |none=>false
  |none=>false)&&HY feet l
def TY (d:Nat):List PK->RK->List Nat
 |[],rk=>(match rk with
  |.tr=>[]
  |.sl _=>[d]
  |.st offs=>offs.map (fun p=>Bz (Bt d) p.1))
 |k::ks,rk=>(match k with
  |.ob offs=>offs.map (fun p=>Bz d p.1)++TY d ks rk
  |_=>TY d ks rk)
noncomputable def mj:List (Nat×Nat×List Nat)->cg->cg
 |[],V=>V
 |(T,_)::l,V=>mj l (fq V T)
noncomputable def xy (V:cg):List (Nat×Nat×List Nat)->cg->cg
 |[],W=>W
 |(T,_)::l,W=>xy V l (match W.H.get T with
  |some _=>W
  |none=>match V.H.get T with
   |some o=>(match o.pl with
    |true=>ey W T o
    |false=>W)
   |none=>W)
def DW (i:Nat):List Nat->List (Nat×Nat×List Nat)->List (Nat×Nat×List Nat)
 |[],l=>l
 |T::r,l=>(T,T,[i])::DW i r l
def Sd (d f:Nat):List Nat:=match sh.inl f with
 |some _=>[]
 |none=>match sh.sg f with
  |some sg=>TY d sg.ks sg.rk
  |none=>[]
noncomputable def HG (V:cg) (o:cj):Option (List Nat):=match o.gd with
 |some _=>none
 |none=>match o.fz with
  |true=>none
  |false=>match o.op with
   |.call f args .share=>(match o.dst with
    |some d=>some (Sd sh d f)
    |none=>none)
   |.call _ args .borrow=>(match C3 V args with
    |true=>none
    |false=>some [])
   |_=>none
noncomputable def Jz (V:cg):List Nat->Bool
 |[]=>true
 |T::l=>(match V.H.get T with|some _=>false|none=>true)&&Jz V l
inductive p9 where
 |sl (N:Nat)
 |tr (c:Option TV)
def Ia (v:TV) (ovs:List (Nat×VV)):Nat->Nat->Option (List p9)
 |_,0=>some []
 |off,n+1=>match Ia v ovs (off+1) n with
  |none=>none
  |some l=>match fc off ovs with
   |some (.sl N)=>some (.sl N::l)
   |some _=>none
   |none=>some (.tr (bh v off)::l)
noncomputable def cellOf (V:cg) (o:cj):Option (Nat×Nat×List p9):=match o.gd with
 |some _=>none
 |none=>match o.fz with
  |true=>none
  |false=>match o.op with
   |.load sz (.t a)=>(match V.env.get a with
    |some ⟨none,.ptr O off⟩=>(match V.H.get O with
     |some (.ob v ovs)=>(match Ia v ovs off (gC sz) with
      |some (k::ks)=>some (O,off,k::ks)
      |_=>none)
     |_=>none)
    |_=>none)
   |_=>none
def TV.uniq:TV->Bool
 |.i _ _=>true
 |.b _=>true
 |.s _=>true
 |.BK _ _=>true
 |_=>false
noncomputable def NF (v:TV) (ovs:List (Nat×VV)):Nat->List p9->Prop->Prop
 |_,[],k=>k
 |off,key::l,k=>match key with
  |.sl N=>(match fc off ovs with
   |some (.sl N')=>(match Nat.beq N N' with
    |true=>NF v ovs (off+1) l k
    |false=>False)
   |_=>False)
  |.tr c=>(match fc off ovs with
   |none=>(∃t,TV.uniq t=true/\c=some t/\bh v off=some t)/\NF v ovs (off+1) l k
   |some _=>False)
noncomputable def Ue (V:cg) (O off:Nat) (key:List p9) (k:Prop):Prop:=match V.H.get O with
 |some (.ob v ovs)=>NF v ovs off key k
 |_=>False
def JX (i:Nat):List (Nat×Nat×Nat×List p9)->Option (Nat×Nat×List p9)
 |[]=>none
 |(c,p)::l=>match Nat.beq c i with
  |true=>some p
  |false=>JX i l
noncomputable def CB (V:cg) (cl:List (Nat×Nat×Nat×List p9)) (i:Nat):List (Nat×Nat)->Prop->Prop
 |[],k=>k
 |(a,b)::l,k=>match Nat.beq a i with
  |true=>False
  |false=>match Nat.beq b i with
   |false=>CB V cl i l k
   |true=>match JX a cl with
    |none=>False
    |some (O,off,key)=>Ue V O off key (CB V cl i l k)
def Le {α:Type}:List α->Bool
 |[]=>true
 |_::_=>false
noncomputable def MI (V V':cg) (feet:List (List Nat×List Nat)):Bool:=
 Gl V.H fun O=>((match V.H.get O with|some o=>o.pl|none=>false)&&xk V' O)||gJ (fun f=>!Bj O f.1&&!Bj O f.2) feet
noncomputable def SJ (V:cg) (o:cj) (i:Nat) (pairs:List (Nat×Nat)) (cl:List (Nat×Nat×Nat×List p9)):List (Nat×Nat×Nat×List p9):=match pairs with
 |[]=>cl
 |_::_=>match cellOf V o with
  |some p=>(i,p)::cl
  |none=>cl
def Ss (ahead:List (List Nat)) (pairs:List (Nat×Nat)):List cj->Nat->cg->List (Nat×Nat×List Nat)->List (List Nat×List Nat)->List (Nat×Nat×Nat×List p9)->(cg->Prop)->Prop
 |[],i,V,_,feet,_,k=>match Nat.beq ahead.length i&&HY feet pairs with
  |true=>k V
  |false=>False
 |o::l,i,V,info,feet,cl,k=>match HG sh V o with
  |some ns=>(match Jz V ns&&(Le pairs||!Le l) with
    |true=>CB V cl i pairs (Sq sh prog nt (mj info V) o fun V'=>(match (Gl V'.H fun T=>xk (mj info V) T||Bj T ns)&&(Le pairs||MI (mj info V) V' feet) with
     |true=>Na l (mj info V) V' (CB (xy V info V') cl i pairs (Ss ahead pairs l (i+1) (xy V info V') (DW i ns info) (feet++[([],[])]) cl k))
     |false=>False))
    |false=>False)
  |none=>Sq sh prog nt V o fun V'=>match Ie V o with
   |none=>False
   |some f=>match ahead[i]? with
    |none=>False
    |some ah=>match xw info ah (f.rd++f.wr) with
     |false=>False
     |true=>match GA o.dst i V V' f info with
      |none=>False
      |some info'=>Na l V V' (Ss ahead pairs l (i+1) V' info' (feet++[(vo info f.rd,vo info f.wr)]) (SJ V o i pairs cl) k)
def TV.Z7:TV->Bool
 |.l _=>true
 |_=>false
noncomputable def RY:List (Nat×Nat)->cg->(cg->Prop)->Prop
 |[],V,k=>k V
 |(O,off)::l,V,k=>match V.H.get O with
  |some (.ob v ovs)=>(match fc off ovs with
   |none=>∃t,b9 (bh v off)=some t/\t.Z7=true/\∀x:AV,∃v',av v off 1 (.BK x t)=some v'/\RY l (ey V O (.ob v' ovs)) k
   |some _=>False)
  |_=>False
def Up:List cj->Nat
 |⟨some d,_,_,_⟩::_=>d
 |_=>0
inductive cq where
 |skip
 |cr (ops:List cj)
 |d_ (ops:List cj) (ahead:List (List Nat)) (pairs:List (Nat×Nat))
 |seq (a b:cq)
 |cond (c:ct) (a b:cq)
 |block (id:Nat) (c:cq)
 |loop (J:List AE) (c:cq)
 |exit (id:Nat)
 |ret
 |join (J:List AE) (c:cq)
def cq.code:cq->ku
 |.skip=>.skip
 |.cr ops=>.cr ops
 |.d_ ops ahead pairs=>.d_ ops ahead pairs
 |.seq a b=>.seq a.code b.code
 |.cond c a b=>.cond c a.code b.code
 |.block id c=>.block id c.code
 |.loop _ c=>.loop c.code
 |.exit id=>.exit id
 |.ret=>.ret
 |.join _ c=>c.code
def ak (c:TV) (a b:Prop):Prop:=match c with
 |.b x=>(match x with|true=>a|false=>b)
 |_=>False
def Oi:cq->cg->(gS->cg->Prop)->Prop
 |.skip,V,k=>k .normal V
 |.cr ops,V,k=>Uq sh prog nt ops V (k .normal)
 |.d_ ops ahead pairs,V,k=>RY (sh.pn (Up ops)) V fun V=>Ss sh prog nt ahead pairs ops 0 V [] [] [] (k .normal)
 |.seq a b,V,k=>Oi a V fun x V=>match x with
  |.normal=>Oi b V k
  |x=>k x V
 |.cond c a b,V,k=>ta V none c fun c=>ak c (Oi a V k) (Oi b V k)
 |.block id c,V,k=>Oi c V fun x V=>match x with
  |.exit i=>bif Nat.beq i id then k .normal V else k (.exit i) V
  |x=>k x V
 |.loop J c,V,k=>∃I:Nat->JT J Prop,(∃n,E8 J V (I n))/\∀n,BY J V0 (I n) fun V=>Oi c V fun x V=>match x with
  |.normal=>∃m,m < n/\E8 J V (I m)
  |x=>k x V
 |.exit id,V,k=>k (.exit id) V
 |.ret,V,k=>k .ret V
 |.join J c,V,k=>∃I:JT J Prop,(Oi c V fun x V=>match x with
  |.normal=>E8 J V I
  |x=>k x V)/\BY J V0 I (k .normal)
end
noncomputable def Qa:List TV->Nat->cg->cg
 |[],_,V=>V
 |v::vs,i,V=>Qa vs (i+1) (sk V i (.tr v))
def Em (V:cg) (r:wz) (k:TV->Prop):Prop:=match r with
 |.tmp t=>lM V none (.t t) fun w=>XN V w k
 |.cell t sz=>lM V none (.t t) fun w=>match w with
  |.ptr O off=>(match V.H.get O with
   |some (.ob v ovs)=>match sz with
    |none=>(match fc off ovs with
     |some w=>D5 V w fun es=>k (.l es)
     |none=>∃u,bh v off=some u/\k u)
    |some n=>∃u,c8 v off n=some u/\Ga V (v8 off n ovs) u k
   |_=>False)
  |_=>False
def TJ (V:cg):List wz->(List TV->Prop)->Prop
 |[],k=>k []
 |r::rs,k=>Em V r fun v=>TJ V rs fun vs=>k (v::vs)
def bw:List TV->Prop
 |[]=>True
 |t::r=>t.jn=false/\bw r
def b7 (rs:List TV):Prop:=match rs with
 |[_]=>True
 |rs=>bw rs
def XM:List TV->TV
 |[v]=>v
 |vs=>.tp vs
def Y1 (sh:Sh) (prog:Map bk) (af:bk) (vc:cq) (ts:List TV) (Q:TV->Prop):Prop:=
 Oi sh prog af.nt vc (Qa ts 0 V0) fun x V=>(match x with|.exit _=>False|_=>True)/\TJ V af.res fun rs=>b7 rs/\Q (XM rs)
end Go.Ax.V

namespace Go.Ax.eo
open Go Go.Ax Go.Ax.V
abbrev LO:=List cj
abbrev oT (d t:Nat) (op:lX):cj:=⟨some d,op,some (t,true),false⟩
abbrev oF (d t:Nat) (op:lX):cj:=⟨some d,op,some (t,false),false⟩
abbrev oN (op:lX):cj:=⟨none,op,none,false⟩
abbrev zi:AV:=.int .i64 0
abbrev qM (d a:Nat):cj:=o d (.mv (.t a))
abbrev qMT (d g a:Nat):cj:=oT d g (.mv (.t a))
abbrev qMF (d g a:Nat):cj:=oF d g (.mv (.t a))
abbrev qZ (d a:Nat):cj:=o d (.mv (i64 a))
abbrev qL (d a:Nat):cj:=o d (.load none (.t a))
abbrev qLT (d g a:Nat):cj:=oT d g (.load none (.t a))
abbrev qLF (d g a:Nat):cj:=oF d g (.load none (.t a))
abbrev qG (d a b:Nat):cj:=o d (.load (some a) (.t b))
abbrev qGT (d g a b:Nat):cj:=oT d g (.load (some a) (.t b))
abbrev qGF (d g a b:Nat):cj:=oF d g (.load (some a) (.t b))
abbrev qF (d a b:Nat):cj:=o d (.uu a (.t b))
abbrev qFT (d g a b:Nat):cj:=oT d g (.uu a (.t b))
abbrev qFF (d g a b:Nat):cj:=oF d g (.uu a (.t b))
abbrev qI (d a b c:Nat):cj:=o d (.jg a (.t b) (.t c))
abbrev qIT (d g a b c:Nat):cj:=oT d g (.jg a (.t b) (.t c))
abbrev qN (d a:Nat):cj:=o d (.len false (.t a))
abbrev qNT (d g a:Nat):cj:=oT d g (.len false (.t a))
abbrev qNF (d g a:Nat):cj:=oF d g (.len false (.t a))
abbrev qU (d a:Nat):cj:=o d (.un .not (.t a))
abbrev qUT (d g a:Nat):cj:=oT d g (.un .not (.t a))
abbrev qUF (d g a:Nat):cj:=oF d g (.un .not (.t a))
abbrev qP (d a b:Nat):cj:=o d (.pick (.t a) (.c (.bool true)) (.t b))
abbrev qPT (d g a b:Nat):cj:=oT d g (.pick (.t a) (.c (.bool true)) (.t b))
abbrev qQ (d a b:Nat):cj:=o d (.pick (.t a) (.t b) (.c (.bool false)))
abbrev qQF (d g a b:Nat):cj:=oF d g (.pick (.t a) (.t b) (.c (.bool false)))
abbrev qE (d a b:Nat):cj:=o d (.ext a (.t b))
abbrev qX (d a:Nat):cj:=o d (.we (.t a))
abbrev qXT (d g a:Nat):cj:=oT d g (.we (.t a))
abbrev qB (d:Nat) (p:BinOp) (a b:Nat):cj:=o d (.bin p (.t a) (.t b))
abbrev qC (d:Nat) (p:BinOp) (a b:Nat):cj:=o d (.bin p (.t a) (i64 b))
abbrev qK (d f:Nat) (l:List Nat):cj:=o d (.call f (l.map .t) .borrow)
abbrev qBT (d g:Nat) (p:BinOp) (a b:Nat):cj:=oT d g (.bin p (.t a) (.t b))
abbrev qCT (d g:Nat) (p:BinOp) (a b:Nat):cj:=oT d g (.bin p (.t a) (i64 b))
abbrev qKT (d g f:Nat) (l:List Nat):cj:=oT d g (.call f (l.map .t) .borrow)
abbrev qBF (d g:Nat) (p:BinOp) (a b:Nat):cj:=oF d g (.bin p (.t a) (.t b))
abbrev qCF (d g:Nat) (p:BinOp) (a b:Nat):cj:=oF d g (.bin p (.t a) (i64 b))
abbrev qKF (d g f:Nat) (l:List Nat):cj:=oF d g (.call f (l.map .t) .borrow)
abbrev qY (d:Nat) (b:Bool):cj:=o d (.mv (.c (.bool b)))
abbrev rg:Nat->List Nat:=List.range
abbrev qs (l:LO) (c:cq):cq:=.seq (.cr l) c
abbrev jJ0:List AE:=[.ob 0 [(3,1),(6,1)],.ob 7 [],.ob 8 [(7,4),(12,4),(16,4),(17,20),(18,20),(19,3)],.ob 15 [],.ob 16 [(2,20)],.pt 0 0 0,.tr 1,.sl 5 20,.tr 6,.pt 7 7 0,.pt 8 8 0,.tr 12,.sl 13 1,.tr 14,.pt 15 15 0,.pt 16 16 0]
abbrev jJ1:List AE:=[.ob 1 [],.ob 2 [(0,6),(1,2)],.ob 27 [(3,1),(6,1)],.ob 5 [(0,1080038401),(1,2)],.ob 13 [],.ob 15 [],.pt 1 1 0,.pt 2 2 0,.pt 4 27 0,.pt 5 5 0,.tr 10,.tr 11,.tr 12,.pt 13 13 0,.tr 14,.pt 15 15 0,.tr 16]
abbrev jJ2:List AE:=[.ob 1 [],.ob 2 [(0,6),(1,2)],.ob 27 [(3,1),(6,1)],.ob 5 [(0,1080038401),(1,2)],.ob 7 [],.pt 1 1 0,.pt 2 2 0,.pt 4 27 0,.pt 5 5 0,.tr 6,.pt 7 7 0]
abbrev jJ3:List AE:=[.ob 1 [],.ob 2 [(0,6),(1,2)],.ob 27 [(3,1),(6,1)],.ob 5 [(0,1080038401),(1,2)],.pt 1 1 0,.pt 2 2 0,.pt 4 27 0,.pt 5 5 0,.tr 20]
abbrev jJ4:List AE:=[.ob 1 [],.ob 2 [(0,6),(1,2)],.ob 27 [(3,1),(6,1)],.ob 5 [(0,1080038401),(1,2)],.pt 1 1 0,.pt 2 2 0,.pt 4 27 0,.pt 5 5 0,.tr 9]
abbrev jJ5:List AE:=[.ob 1 [],.ob 2 [(0,6),(1,2)],.ob 27 [(3,1),(6,1)],.ob 5 [(0,1080038401),(1,2)],.pt 1 1 0,.pt 2 2 0,.pt 4 27 0,.pt 5 5 0]
abbrev jJ6:List AE:=[.ob 0 [(3,1),(6,1)],.ob 7 [],.ob 8 [(7,4),(12,4),(16,4),(17,20),(18,20),(19,3)],.pt 0 0 0,.tr 1,.sl 5 20,.tr 6,.pt 7 7 0,.pt 8 8 0]
abbrev jJ7:List AE:=[.ob 1 [],.ob 2 [(0,6),(1,2)],.ob 27 [(3,1),(6,1)],.ob 5 [(0,1080038401),(1,2)],.pt 1 1 0,.pt 2 2 0,.pt 4 27 0,.pt 5 5 0,.tr 10,.tr 11]
abbrev jJ8:List AE:=[.ob 0 [(3,1),(6,1)],.ob 3 [],.ob 4 [(3,4)],.ob 5 [(3,4)],.pt 0 0 0,.pt 3 3 0,.pt 4 4 0,.pt 5 5 0]
abbrev jJ13:List AE:=[.sl 0 1,.tr 1,.tr 10,.tr 11]
abbrev jJ23:List AE:=[.sl 0 1,.tr 1,.tr 9,.tr 10]
abbrev jJ32:List AE:=[.sl 0 1,.tr 1,.tr 2,.tr 7,.tr 8]
abbrev tB0:ByteArray:=⟨#[0,1,2,2,3,3,3,3,4,4,4,4,4,4,4,4,5,5,5,5,5,5,5,5,5,5,5,5,5,5,5,5,6,6,6,6,6,6,6,6,6,6,6,6,6,6,6,6,6,6,6,6,6,6,6,6,6,6,6,6,6,6,6,6,7,7,7,7,7,7,7,7,7,7,7,7,7,7,7,7,7,7,7,7,7,7,7,7,7,7,7,7,7,7,7,7,7,7,7,7,7,7,7,7,7,7,7,7,7,7,7,7,7,7,7,7,7,7,7,7,7,7,7,7,7,7,7,7,8,8,8,8,8,8,8,8,8,8,8,8,8,8,8,8,8,8,8,8,8,8,8,8,8,8,8,8,8,8,8,8,8,8,8,8,8,8,8,8,8,8,8,8,8,8,8,8,8,8,8,8,8,8,8,8,8,8,8,8,8,8,8,8,8,8,8,8,8,8,8,8,8,8,8,8,8,8,8,8,8,8,8,8,8,8,8,8,8,8,8,8,8,8,8,8,8,8,8,8,8,8,8,8,8,8,8,8,8,8,8,8,8,8,8,8,8,8,8,8,8,8,8,8,8,8,8,8]⟩
abbrev tB1:ByteArray:=⟨#[123,125,40,41,59,44,46,61,60,62,43,45,42,47,37]⟩
def Xq:cq:=qs [o 1 (.box (.t 0)),qY 2 false] (qs [qG 14 3 1,qK 15 49 [14],qM 13 15,qE 16 0 13,qE 17 1 13,o 3 (.alloc [.aq,.aq]),oN (.store 2 (.t 3) (.t 16)),qM 4 17] (.seq (qs [o 18 (.call 46 [] .borrow),qU 19 18,qM 20 19,qMF 21 20 4,qCF 22 20 .neq 21 0,qP 23 20 22] (.cond (.t 23) (qs [o 24 (.call 46 [] .borrow),qM 2 24] .ret) .skip)) (qs [qG 26 2 3,qK 27 44 [26],qK 28 43 [27],qM 25 28,qE 29 0 25,qE 30 1 25,o 5 (.alloc [.aq,.aq,.aq]),oN (.store 3 (.t 5) (.t 29)),qM 6 30] (.seq (qs [qM 31 6,qC 32 .neq 31 0] (.cond (.t 32) (qs [qY 2 true] .ret) .skip)) (.seq (qs [qZ 7 0] (.block 0 (.loop [.ob 5 [],.pt 5 5 0,.tr 7] (.seq (qs [qM 33 7,qF 34 1 5,qL 35 34,qN 36 35,qB 37 .lss 33 36] (.cond (.t 37) .skip (.exit 0))) (.seq (.block 1 (qs [qF 40 1 5,qL 41 40,qM 42 7,qI 43 3 41 42,qG 44 3 43,o 8 (.alloc [zi,.aq,.aq]),oN (.store 3 (.t 8) (.t 44))] (qs [qF 45 0 8,qL 46 45,o 47 (.Cx 1 1 [.bool false] (.t 46)),qM 9 47] (qs [qM 48 9,o 49 (.jg 1 (.t 48) (i64 0)),oN (.store 1 (.t 49) (.c (.bool true)))] (.seq (qs [qZ 10 0] (.block 2 (.loop [.ob 5 [],.ob 8 [],.pt 5 5 0,.tr 7,.pt 8 8 0,.sl 9 1,.tr 10] (.seq (qs [qM 50 10,qF 51 0 8,qL 52 51,qB 53 .lss 50 52] (.cond (.t 53) .skip (.exit 2))) (.seq (.block 3 (qs [qZ 11 0] (.block 4 (.loop [.ob 5 [],.ob 8 [],.pt 5 5 0,.tr 7,.pt 8 8 0,.sl 9 1,.tr 10,.tr 11] (.seq (qs [qM 56 11,qF 57 1 8,qL 58 57,qN 59 58,qB 60 .lss 56 59] (.cond (.t 60) .skip (.exit 4))) (.seq (.block 5 (qs [qM 63 9,qF 64 1 8,qL 65 64,qM 66 11,qI 67 19 65 66,qF 68 0 67,qL 69 68,qI 70 1 63 69,qL 71 70] (.cond (.t 71) (.cr [qM 72 9,qF 73 1 8,qL 74 73,qM 75 11,qI 76 19 74 75,qF 77 1 76,qL 78 77,qI 79 1 72 78,oN (.store 1 (.t 79) (.c (.bool true)))]) .skip))) (.cr [qM 61 11,qC 62 .add 61 1,qM 11 62]))))))) (.cr [qM 54 10,qC 55 .add 54 1,qM 10 55])))))) (qs [qZ 12 0] (.block 6 (.loop [.ob 5 [],.ob 8 [],.pt 5 5 0,.tr 7,.pt 8 8 0,.sl 9 1,.tr 12] (.seq (qs [qM 80 12,qF 81 0 8,qL 82 81,qB 83 .lss 80 82] (.cond (.t 83) .skip (.exit 6))) (.seq (.block 7 (qs [qM 86 9,qM 87 12,qI 88 1 86 87,qL 89 88,qU 90 89,qM 91 90,qMT 92 91 12,qCT 93 91 .neq 92 1,qQ 94 91 93,qM 95 94,qMF 96 95 12,qCF 97 95 .neq 96 1,qMF 98 95 97,qGT 99 98 3 8,qMT 100 98 12,qKT 101 98 50 [99,100],qNT 102 98 101,qCT 103 98 .eql 102 0,qQF 104 95 98 103,qP 105 95 104,qM 106 105,qMF 107 106 12,qCF 108 106 .eql 107 1,qMF 109 106 108,qGT 110 109 3 8,qMT 111 109 12,qKT 112 109 50 [110,111],qNT 113 109 112,qCT 114 109 .gtr 113 0,qQF 115 106 109 114,qP 116 106 115] (.cond (.t 116) (qs [qY 2 false] .ret) .skip))) (.cr [qM 84 12,qC 85 .add 84 1,qM 12 85]))))))))))) (.cr [qM 38 7,qC 39 .add 38 1,qM 7 39])))))) (qs [qY 2 true] .ret))))))
def a14:bk:=⟨1,117,[.tmp 2],Xq.code⟩
def Kz:cq:=qs [o 1 (.box (.t 0)),o 2 (.alloc [zi,zi,zi,.aq])] (qs [qF 5 0 1,qL 6 5,qF 7 1 1,qL 8 7,qF 9 2 1,qL 10 9,o 11 (.build [zi,zi,zi,.aq] [(0,1,(.t 6)),(1,1,(.t 8)),(2,1,(.t 10))]),o 3 (.alloc [zi,zi,zi,.aq]),oN (.store 4 (.t 3) (.t 11))] (.seq (qs [qZ 4 0] (.block 0 (.loop [.ob 1 [],.ob 2 [(3,4)],.ob 3 [(3,4)],.pt 1 1 0,.pt 2 2 0,.pt 3 3 0,.tr 4] (.seq (qs [qM 12 4,qF 13 3 1,qL 14 13,qN 15 14,qB 16 .lss 12 15] (.cond (.t 16) .skip (.exit 0))) (.seq (.block 1 (.d_ [qF 19 3 3,qL 20 19,qF 21 3 1,qL 22 21,qM 23 4,qI 24 4 22 23,qG 25 4 24,qK 26 36 [25],⟨some 27,.de 1 [zi,zi,zi,.aq] [(0,4,(.t 26))],none,true⟩,o 28 (.app 4 48 (.t 20) (.t 27)),qF 29 3 3,oN (.store 1 (.t 29) (.t 28))] [[],[0],[],[2],[],[2,3,4],[2,3,4,5],[2,3,4,5,6],[2,3,4,5,6,7],(rg 9),(rg 10),(rg 11)] [(1,8)])) (.cr [qM 17 4,qC 18 .add 17 1,qM 4 18])))))) (qs [qG 30 4 3,oN (.store 4 (.t 2) (.t 30))] .ret)))
def a36:bk:=⟨1,31,[.cell 2 (some 4)],Kz.code⟩
def Ow:cq:=qs [qZ 2 0] (.seq (qs [qM 3 0] (.block 0 (qs [qC 5 .eql 3 1,qM 4 5] (.cond (.t 4) (qs [qZ 2 2] .ret) (qs [qC 7 .eql 3 2,qM 6 7] (.cond (.t 6) (qs [qZ 2 1] .ret) (qs [qC 9 .eql 3 3,qM 8 9] (.cond (.t 8) (qs [qZ 2 6] .ret) (qs [qC 11 .eql 3 4,qM 10 11] (.cond (.t 10) (qs [qZ 2 5] .ret) (qs [qC 13 .eql 3 5,qM 12 13] (.cond (.t 12) (qs [qZ 2 4] .ret) (qs [qC 15 .eql 3 6,qM 14 15] (.cond (.t 14) (qs [qZ 2 3] .ret) .skip)))))))))))))) (qs [qZ 2 0] .ret))
def a41:bk:=⟨1,16,[.tmp 2],Ow.code⟩
def W3:cq:=qs [o 1 (.box (.t 0)),o 2 (.alloc [.aq,.aq,.aq]),qZ 3 0] (.seq (qs [qG 8 2 1,qK 9 60 [8],qU 10 9] (.cond (.t 10) (qs [o 11 (.build [.aq,.aq,.aq] []),oN (.store 3 (.t 2) (.t 11)),qZ 3 1] .ret) .skip)) (qs [qF 12 0 1,qL 13 12,qK 14 61 [13],o 15 (.build [.aq,.aq,.aq] [(0,1,(.t 14))]),o 4 (.alloc [.aq,.aq,.aq]),oN (.store 3 (.t 4) (.t 15))] (.seq (qs [qF 16 1 1,qL 17 16,qN 18 17,qZ 19 0] (.block 0 (.loop [.ob 2 [(0,6),(1,3),(2,1)],.ob 4 [(1,3),(2,1)],.pt 2 2 0,.pt 4 4 0,.tr 17,.tr 18,.tr 19] (qs [qB 20 .lss 19 18] (.seq (.cond (.t 20) .skip (.exit 0)) (.seq (.block 1 (qs [qI 21 2 17 19,qG 22 2 21,o 6 (.alloc [zi,.aq]),oN (.store 2 (.t 6) (.t 22))] (qs [o 23 (.build [zi,.aq,.aq] [(0,1,(i64 2))]),o 7 (.alloc [zi,.aq,.aq]),oN (.store 3 (.t 7) (.t 23))] (qs [qF 24 1 6,qL 25 24,o 26 (.call 62 [.t 7,.t 25,(i64 0),(i64 1)] .share)] (.seq (qs [qF 27 1 7,qL 28 27,qN 29 28,qC 30 .gtr 29 400] (.cond (.t 30) (qs [o 31 (.build [.aq,.aq,.aq] []),oN (.store 3 (.t 2) (.t 31)),qZ 3 10] .ret) .skip)) (qs [qF 32 2 7,qL 33 32,o 34 (.call 63 [.t 33] .share)] (.d_ [qF 35 1 4,qL 36 35,qG 37 3 7,⟨some 38,.de 1 [zi,.aq,.aq] [(0,3,(.t 37))],none,true⟩,o 39 (.app 3 56 (.t 36) (.t 38)),qF 40 2 4,qL 41 40,qF 42 0 6,qL 43 42,o 44 (.de 1 [zi] [(0,1,(.t 43))]),o 45 (.app 1 8 (.t 41) (.t 44)),qF 46 1 4,oN (.store 1 (.t 46) (.t 39)),qF 47 2 4,oN (.store 1 (.t 47) (.t 45))] [[],[0],[],[2],(rg 4),[],[5],[],[7],[7,8],(rg 10),(rg 7),(rg 12),(rg 13),(rg 14)] [(1,3),(3,6),(4,6),(3,8),(4,8)]))))))) (.cr [qC 48 .add 19 1,qM 19 48]))))))) (qs [qG 49 3 4,oN (.store 3 (.t 2) (.t 49)),qZ 3 0] .ret))))
def a43:bk:=⟨1,50,[.cell 2 (some 3),.tmp 3],W3.code⟩
def W2:cq:=qs [o 1 (.box (.t 0)),o 2 (.alloc [.aq,.aq])] (qs [o 3 (.alloc [.aq,.aq])] (.seq (qs [qZ 4 0] (.block 0 (.loop [.ob 1 [],.ob 2 [(0,6),(1,2)],.ob 3 [(0,6),(1,2)],.pt 1 1 0,.pt 2 2 0,.pt 3 3 0,.tr 4] (.seq (qs [qM 9 4,qF 10 0 1,qL 11 10,qN 12 11,qB 13 .lss 9 12] (.cond (.t 13) .skip (.exit 0))) (.seq (.block 1 (qs [qF 16 0 1,qL 17 16,qM 18 4,qI 19 6 17 18,qG 20 6 19,o 5 (.alloc [zi,zi,zi,zi,zi,.aq]),oN (.store 6 (.t 5) (.t 20))] (qs [qF 21 0 5,qL 22 21,qF 23 1 5,qL 24 23,qF 25 2 5,qL 26 25,qF 27 3 5,qL 28 27,qF 29 4 5,qL 30 29,o 31 (.build [zi,zi,zi,zi,zi,.aq] [(0,1,(.t 22)),(1,1,(.t 24)),(2,1,(.t 26)),(3,1,(.t 28)),(4,1,(.t 30))]),o 6 (.alloc [zi,zi,zi,zi,zi,.aq]),oN (.store 6 (.t 6) (.t 31))] (.seq (qs [qZ 7 0] (.block 2 (.loop [.ob 1 [],.ob 2 [(0,6),(1,2)],.ob 3 [(0,6),(1,2)],.ob 5 [],.ob 6 [(5,1)],.pt 1 1 0,.pt 2 2 0,.pt 3 3 0,.tr 4,.pt 5 5 0,.pt 6 6 0,.tr 7] (.seq (qs [qM 32 7,qF 33 5 5,qL 34 33,qN 35 34,qB 36 .lss 32 35] (.cond (.t 36) .skip (.exit 2))) (.seq (.block 3 (.d_ [qF 39 5 6,qL 40 39,o 41 (.de 0 [] []),qF 42 5 5,qL 43 42,qM 44 7,qI 45 1 43 44,qL 46 45,o 47 (.app 1 8 (.t 41) (.t 46)),⟨some 48,.de 1 [.aq] [(0,1,(.t 47))],none,true⟩,o 49 (.app 1 24 (.t 40) (.t 48)),qF 50 5 6,oN (.store 1 (.t 50) (.t 49))] [[],[0],[],[],[3],[],[3,4,5],[3,4,5,6],[2,3,4,5,6,7],[2,3,4,5,6,7,8],(rg 10),(rg 11),(rg 12)] [(1,8),(1,9)])) (.cr [qM 37 7,qC 38 .add 37 1,qM 7 38])))))) (.cr [qF 51 0 3,qL 52 51,qG 53 6 6,⟨some 54,.de 1 [zi,zi,zi,zi,zi,.aq] [(0,6,(.t 53))],none,true⟩,o 55 (.app 6 64 (.t 52) (.t 54)),qF 56 0 3,oN (.store 1 (.t 56) (.t 55))]))))) (.cr [qM 14 4,qC 15 .add 14 1,qM 4 15])))))) (.seq (qs [qZ 8 0] (.block 4 (.loop [.ob 1 [],.ob 2 [(0,6),(1,2)],.ob 3 [(0,6),(1,2)],.pt 1 1 0,.pt 2 2 0,.pt 3 3 0,.tr 8] (.seq (qs [qM 57 8,qF 58 1 1,qL 59 58,qN 60 59,qB 61 .lss 57 60] (.cond (.t 61) .skip (.exit 4))) (.seq (.block 5 (.d_ [qF 64 1 3,qL 65 64,qF 66 1 1,qL 67 66,qM 68 8,qI 69 2 67 68,qF 70 0 69,qL 71 70,qF 72 1 1,qL 73 72,qM 74 8,qI 75 2 73 74,qF 76 1 75,qL 77 76,qK 78 64 [77],o 79 (.build [zi,.aq] [(0,1,(.t 71)),(1,1,(.t 78))]),⟨some 80,.de 1 [zi,.aq] [(0,2,(.t 79))],none,true⟩,o 81 (.app 2 32 (.t 65) (.t 80)),qF 82 1 3,oN (.store 1 (.t 82) (.t 81))] [[],[0],[],[2],[],[2,3,4],[2,3,4,5],[2,3,4,5,6],[],[8],[],[8,9,10],[8,9,10,11],[8,9,10,11,12],[8,9,10,11,12,13],[2,3,4,5,6,7,8,9,10,11,12,13,14],[2,3,4,5,6,7,8,9,10,11,12,13,14,15],(rg 17),(rg 18),(rg 19)] [(1,16)])) (.cr [qM 62 8,qC 63 .add 62 1,qM 8 63])))))) (qs [qG 83 2 3,oN (.store 2 (.t 2) (.t 83))] .ret))))
def a44:bk:=⟨1,84,[.cell 2 (some 2)],W2.code⟩
def ZZ:cq:=qs [qY 0 false] (qs [o 4 (.build [zi,zi,zi,.aq] [(0,1,(i64 1)),(1,1,(i64 3))]),o 5 (.build [zi,zi,zi,zi,zi,zi,zi,.aq,zi,zi,zi,zi,.aq,zi,zi,zi,.aq,.aq,.aq,.aq] [(0,1,(i64 1)),(4,4,(.t 4))]),⟨some 6,.de 1 [zi,zi,zi,zi,zi,zi,zi,.aq,zi,zi,zi,zi,.aq,zi,zi,zi,.aq,.aq,.aq,.aq] [(0,20,(.t 5))],none,true⟩,o 7 (.build [zi,.aq] [(0,1,(i64 1)),(1,1,(.t 6))]),⟨some 8,.de 1 [zi,.aq] [(0,2,(.t 7))],none,true⟩,o 9 (.build [.aq,.aq] [(1,1,(.t 8))]),qK 10 43 [9],qM 3 10,qE 11 0 3,qE 12 1 3,o 1 (.alloc [.aq,.aq,.aq]),oN (.store 3 (.t 1) (.t 11)),qM 2 12] (qs [qM 13 2,qC 14 .eql 13 0,qM 15 14,qFT 16 15 1 1,qLT 17 15 16,qNT 18 15 17,qCT 19 15 .eql 18 1,qQ 20 15 19,qM 21 20,qFT 22 21 1 1,qLT 23 21 22,oT 24 21 (.jg 3 (.t 23) (i64 0)),qFT 25 21 0 24,qLT 26 21 25,qCT 27 21 .eql 26 2,qQ 28 21 27,qM 29 28,qFT 30 29 1 1,qLT 31 29 30,oT 32 29 (.jg 3 (.t 31) (i64 0)),qFT 33 29 1 32,qLT 34 29 33,qNT 35 29 34,qCT 36 29 .eql 35 1,qQ 37 29 36,qM 38 37,qFT 39 38 1 1,qLT 40 38 39,oT 41 38 (.jg 3 (.t 40) (i64 0)),qFT 42 38 1 41,qLT 43 38 42,oT 44 38 (.jg 19 (.t 43) (i64 0)),qFT 45 38 1 44,qLT 46 38 45,qCT 47 38 .eql 46 1,qQ 48 38 47,qM 49 48,qGT 50 49 3 1,qKT 51 49 53 [50],qQ 52 49 51,qM 53 52,oT 54 53 (.call 41 [(i64 3)] .borrow),qCT 55 53 .eql 54 6,qQ 56 53 55,qM 0 56] .ret))
def a46:bk:=⟨0,57,[.tmp 0],ZZ.code⟩
def v49:cq:=qs [o 1 (.box (.t 0)),o 2 (.alloc [.aq,.aq]),qZ 3 0] (.seq (qs [qG 21 3 1,qK 22 67 [21],qU 23 22] (.cond (.t 23) (qs [o 24 (.build [.aq,.aq] []),oN (.store 2 (.t 2) (.t 24)),qZ 3 5] .ret) .skip)) (qs [qG 25 3 1,o 26 (.build [.aq,.aq,.aq,.aq,zi,.aq,.aq,zi] [(0,3,(.t 25))]),o 27 (.box (.t 26)),qM 4 27] (qs [o 5 (.alloc [.aq,.aq])] (.seq (.join jJ5 (qs [qF 28 0 1,qL 29 28,qN 30 29,qC 31 .gtr 30 4] (.cond (.t 31) (.cr [qM 32 4,o 33 (.call 68 [.t 32,(i64 10)] .share)]) .skip))) (.seq (qs [qZ 6 0] (.block 0 (.loop [.ob 1 [],.ob 2 [(0,6),(1,2)],.ob 27 [(3,1),(6,1)],.ob 5 [(0,1080038401),(1,2)],.pt 1 1 0,.pt 2 2 0,.pt 4 27 0,.pt 5 5 0,.tr 6] (.seq (qs [qM 34 6,qF 35 0 1,qL 36 35,qN 37 36,qB 38 .lss 34 37,qM 39 38,qMT 40 39 4,qXT 41 39 40,qFT 42 39 7 41,qLT 43 39 42,qCT 44 39 .eql 43 0,qQ 45 39 44] (.cond (.t 45) .skip (.exit 0))) (.seq (.block 1 (qs [qF 48 0 1,qL 49 48,qM 50 6,qI 51 6 49 50,qG 52 6 51,o 7 (.alloc [.str ⟨#[]⟩,zi,zi,.str ⟨#[]⟩,.str ⟨#[]⟩,.aq]),oN (.store 6 (.t 7) (.t 52))] (.seq (.join jJ2 (.seq (.d_ [qM 53 4,qX 54 53,qF 55 3 54,qL 56 55,qF 57 0 7,qL 58 57,qK 59 69 [56,58],qC 60 .geq 59 0] [[],[0],[0,1],[0,1,2],[],[4],(rg 6),(rg 7)] []) (.cond (.t 60) (.cr [qM 61 4,o 62 (.call 68 [.t 61,(i64 7)] .share)]) .skip))) (.seq (.join jJ2 (qs [qF 63 2 7,qL 64 63,qC 65 .lss 64 1,qM 66 65,qFF 67 66 2 7,qLF 68 66 67,qCF 69 66 .gtr 68 16,qP 70 66 69,qM 71 70,qFF 72 71 5 7,qLF 73 71 72,qNF 74 71 73,qCF 75 71 .gtr 74 4,qP 76 71 75] (.cond (.t 76) (.cr [qM 77 4,o 78 (.call 68 [.t 77,(i64 10)] .share)]) .skip))) (.seq (.join jJ2 (qs [qF 79 5 7,qL 80 79,qK 81 70 [80]] (.cond (.t 81) (.cr [qM 82 4,o 83 (.call 68 [.t 82,(i64 7)] .share)]) .skip))) (.seq (.d_ [qM 84 4,qM 85 4,qX 86 85,qF 87 3 86,qL 88 87,qF 89 0 7,qL 90 89,o 91 (.de 1 [.str ⟨#[]⟩] [(0,1,(.t 90))]),o 92 (.app 1 16 (.t 88) (.t 91)),qX 93 84,qF 94 3 93,oN (.store 1 (.t 94) (.t 92))] [[],[],[1],[1,2],[1,2,3],[],[5],[5,6],[1,2,3,4,5,6,7],(rg 9),(rg 10),(rg 11)] []) (.cr [qF 95 0 5,qL 96 95,qF 97 1 7,qL 98 97,qF 99 2 7,qL 100 99,qF 101 5 7,qL 102 101,qN 103 102,o 104 (.build [zi,zi,zi,zi,zi,.aq] [(0,1,(.t 98)),(1,1,(.t 100)),(4,1,(.t 103))]),⟨some 105,.de 1 [zi,zi,zi,zi,zi,.aq] [(0,6,(.t 104))],none,true⟩,o 106 (.app 6 64 (.t 96) (.t 105)),qF 107 0 5,oN (.store 1 (.t 107) (.t 106))]))))))) (.cr [qM 46 6,qC 47 .add 46 1,qM 6 47])))))) (.seq (.join jJ5 (qs [qF 108 2 1,qL 109 108,qN 110 109,qC 111 .lss 110 1,qM 112 111,qFF 113 112 2 1,qLF 114 112 113,qNF 115 112 114,qCF 116 112 .gtr 115 4,qP 117 112 116] (.cond (.t 117) (.cr [qM 118 4,o 119 (.call 68 [.t 118,(i64 10)] .share)]) .skip))) (.seq (qs [qZ 8 0] (.block 2 (.loop [.ob 1 [],.ob 2 [(0,6),(1,2)],.ob 27 [(3,1),(6,1)],.ob 5 [(0,1080038401),(1,2)],.pt 1 1 0,.pt 2 2 0,.pt 4 27 0,.pt 5 5 0,.tr 8] (.seq (qs [qM 120 8,qF 121 2 1,qL 122 121,qN 123 122,qB 124 .lss 120 123,qM 125 124,qMT 126 125 4,qXT 127 125 126,qFT 128 125 7 127,qLT 129 125 128,qCT 130 125 .eql 129 0,qQ 131 125 130] (.cond (.t 131) .skip (.exit 2))) (.seq (.block 3 (.d_ [qM 134 4,qM 135 4,qX 136 135,qF 137 6 136,qL 138 137,qF 139 2 1,qL 140 139,qM 141 8,qI 142 3 140 141,qF 143 0 142,qL 144 143,o 145 (.de 1 [.str ⟨#[]⟩] [(0,1,(.t 144))]),o 146 (.app 1 16 (.t 138) (.t 145)),qX 147 134,qF 148 6 147,oN (.store 1 (.t 148) (.t 146))] [[],[],[1],[1,2],[1,2,3],[],[5],[],[5,6,7],[5,6,7,8],[5,6,7,8,9],[5,6,7,8,9,10],[1,2,3,4,5,6,7,8,9,10,11],(rg 13),(rg 14),(rg 15)] [])) (.cr [qM 132 8,qC 133 .add 132 1,qM 8 133])))))) (.seq (.join jJ5 (qs [qM 149 4,qX 150 149,qF 151 6 150,qL 152 151,qK 153 70 [152]] (.cond (.t 153) (.cr [qM 154 4,o 155 (.call 68 [.t 154,(i64 7)] .share)]) .skip))) (.seq (qs [qZ 9 0] (.block 4 (.loop jJ4 (.seq (qs [qM 156 9,qF 157 0 1,qL 158 157,qN 159 158,qB 160 .lss 156 159,qM 161 160,qMT 162 161 4,qXT 163 161 162,qFT 164 161 7 163,qLT 165 161 164,qCT 166 161 .eql 165 0,qQ 167 161 166] (.cond (.t 167) .skip (.exit 4))) (.seq (.block 5 (.seq (.join jJ4 (.d_ [qF 170 0 5,qL 171 170,qM 172 9,qM 173 4,qM 174 4,qX 175 174,qF 176 6 175,qL 177 176,qF 178 0 1,qL 179 178,qM 180 9,qI 181 6 179 180,qF 182 3 181,qL 183 182,o 184 (.call 71 [.t 173,.t 177,.t 183] .share),qI 185 6 171 172,qF 186 2 185,oN (.store 1 (.t 186) (.t 184))] [[],[0],[],[],[],[4],[4,5],[4,5,6],[],[8],[],[8,9,10],[8,9,10,11],[8,9,10,11,12],[3,4,5,6,7,8,9,10,11,12,13],(rg 15),(rg 16),(rg 17)] [(1,14)])) (.seq (.join jJ4 (.d_ [qF 187 0 5,qL 188 187,qM 189 9,qM 190 4,qM 191 4,qX 192 191,qF 193 6 192,qL 194 193,qF 195 0 1,qL 196 195,qM 197 9,qI 198 6 196 197,qF 199 4 198,qL 200 199,o 201 (.call 71 [.t 190,.t 194,.t 200] .share),qI 202 6 188 189,qF 203 3 202,oN (.store 1 (.t 203) (.t 201))] [[],[0],[],[],[],[4],[4,5],[4,5,6],[],[8],[],[8,9,10],[8,9,10,11],[8,9,10,11,12],[3,4,5,6,7,8,9,10,11,12,13],(rg 15),(rg 16),(rg 17)] [(1,14)])) (.seq (.d_ [qF 204 0 5,qL 205 204,qM 206 9,qI 207 6 205 206,qF 208 2 207,qL 209 208,qF 210 0 5,qL 211 210,qM 212 9,qI 213 6 211 212,qF 214 3 213,qL 215 214,qB 216 .eql 209 215] [[],[0],[],[0,1,2],(rg 4),(rg 5),[],[6],[],[6,7,8],[6,7,8,9],[6,7,8,9,10],(rg 12)] []) (.cond (.t 216) (.cr [qM 217 4,o 218 (.call 68 [.t 217,(i64 9)] .share)]) .skip))))) (.cr [qM 168 9,qC 169 .add 168 1,qM 9 169])))))) (.seq (qs [qZ 10 0] (.block 6 (.loop [.ob 1 [],.ob 2 [(0,6),(1,2)],.ob 27 [(3,1),(6,1)],.ob 5 [(0,1080038401),(1,2)],.pt 1 1 0,.pt 2 2 0,.pt 4 27 0,.pt 5 5 0,.tr 10] (.seq (qs [qM 219 10,qF 220 1 1,qL 221 220,qN 222 221,qB 223 .lss 219 222,qM 224 223,qMT 225 224 4,qXT 226 224 225,qFT 227 224 7 226,qLT 228 224 227,qCT 229 224 .eql 228 0,qQ 230 224 229] (.cond (.t 230) .skip (.exit 6))) (.seq (.block 7 (.seq (.join jJ7 (.d_ [qM 233 4,qM 234 4,qX 235 234,qF 236 3 235,qL 237 236,qF 238 1 1,qL 239 238,qM 240 10,qI 241 2 239 240,qF 242 0 241,qL 243 242,o 244 (.call 71 [.t 233,.t 237,.t 243] .share),qM 11 244] [[],[],[1],[1,2],[1,2,3],[],[5],[],[5,6,7],[5,6,7,8],[5,6,7,8,9],(rg 11),(rg 12)] [])) (.seq (.join jJ7 (qs [qM 245 4,qX 246 245,qF 247 7 246,qL 248 247,qC 249 .eql 248 0,qM 250 249,qFT 251 250 0 5,qLT 252 250 251,qMT 253 250 11,qIT 254 250 6 252 253,qFT 255 250 5 254,qLT 256 250 255,qNT 257 250 256,qCT 258 250 .gtr 257 0,qQ 259 250 258] (.cond (.t 259) (.cr [qM 260 4,o 261 (.call 68 [.t 260,(i64 7)] .share)]) .skip))) (.seq (qs [qM 262 4,qX 263 262,qF 264 7 263,qL 265 264,qC 266 .neq 265 0] (.cond (.t 266) (.exit 6) .skip)) (qs [qZ 12 0] (qs [o 13 (.alloc (List.replicate 32 (zi)))] (.seq (qs [qZ 14 0] (.block 8 (.loop [.ob 1 [],.ob 2 [(0,6),(1,2)],.ob 27 [(3,1),(6,1)],.ob 5 [(0,1080038401),(1,2)],.ob 13 [],.pt 1 1 0,.pt 2 2 0,.pt 4 27 0,.pt 5 5 0,.tr 10,.tr 11,.tr 12,.pt 13 13 0,.tr 14] (.seq (qs [qM 267 14,qF 268 1 1,qL 269 268,qM 270 10,qI 271 2 269 270,qF 272 1 271,qL 273 272,qN 274 273,qB 275 .lss 267 274,qM 276 275,qMT 277 276 4,qXT 278 276 277,qFT 279 276 7 278,qLT 280 276 279,qCT 281 276 .eql 280 0,qQ 282 276 281] (.cond (.t 282) .skip (.exit 8))) (.seq (.block 9 (qs [qF 285 1 1,qL 286 285,qM 287 10,qI 288 2 286 287,qF 289 1 288,qL 290 289,qM 291 14,qI 292 3 290 291,qG 293 3 292,o 15 (.alloc [zi,.str ⟨#[]⟩,zi]),oN (.store 3 (.t 15) (.t 293))] (.seq (.join jJ1 (.d_ [qM 294 4,qF 295 0 1,qL 296 295,qM 297 11,qI 298 6 296 297,qF 299 5 298,qL 300 299,qF 301 1 15,qL 302 301,o 303 (.call 71 [.t 294,.t 300,.t 302] .share),qM 16 303] [[],[],[1],[],[1,2,3],[1,2,3,4],[1,2,3,4,5],[],[7],(rg 9),(rg 10)] [])) (.seq (.join jJ1 (qs [qF 304 0 15,qL 305 304,qC 306 .gtr 305 7,qM 307 306,qFF 308 307 2 15,qLF 309 307 308,qCF 310 307 .gtr 309 7,qP 311 307 310] (.cond (.t 311) (.cr [qM 312 4,o 313 (.call 68 [.t 312,(i64 11)] .share)]) .skip))) (.seq (.join jJ1 (qs [qM 314 4,qX 315 314,qF 316 7 315,qL 317 316,qC 318 .eql 317 0,qM 319 318,qFT 320 319 0 15,qLT 321 319 320,qMT 322 319 16,oT 323 319 (.uo 8 4 (.t 13) (.t 321)),oT 324 319 (.uo 4 1 (.t 323) (.t 322)),qLT 325 319 324,qCT 326 319 .gtr 325 0,qQ 327 319 326] (.cond (.t 327) (.cr [qM 328 4,o 329 (.call 68 [.t 328,(i64 7)] .share)]) .skip))) (qs [qM 330 4,qX 331 330,qF 332 7 331,qL 333 332,qC 334 .eql 333 0] (.cond (.t 334) (.seq (.d_ [qF 335 0 15,qL 336 335,qM 337 16,qF 338 2 15,qL 339 338,qC 340 .add 339 1,o 341 (.uo 8 4 (.t 13) (.t 336)),o 342 (.uo 4 1 (.t 341) (.t 337)),oN (.store 1 (.t 342) (.t 340))] [[],[0],[],[],[3],[3,4],[0,1],(rg 7),(rg 8)] []) (.cr [qM 343 12,qF 344 0 15,qL 345 344,qF 346 2 15,qL 347 346,o 348 (.KC true [.t 343,.t 345,.t 347]),qM 12 348])) .skip))))))) (.cr [qM 283 14,qC 284 .add 283 1,qM 14 284])))))) (qs [qZ 17 0] (.block 10 (.loop [.ob 1 [],.ob 2 [(0,6),(1,2)],.ob 27 [(3,1),(6,1)],.ob 5 [(0,1080038401),(1,2)],.ob 13 [],.pt 1 1 0,.pt 2 2 0,.pt 4 27 0,.pt 5 5 0,.tr 10,.tr 11,.tr 12,.pt 13 13 0,.tr 17] (.seq (qs [qM 349 17,qM 350 12,qB 351 .leq 349 350] (.cond (.t 351) .skip (.exit 10))) (.seq (.block 11 (qs [o 18 (.mv (.c (.aq)))] (.seq (qs [qZ 19 0] (.block 12 (.loop [.ob 1 [],.ob 2 [(0,6),(1,2)],.ob 27 [(3,1),(6,1)],.ob 5 [(0,1080038401),(1,2)],.ob 13 [],.pt 1 1 0,.pt 2 2 0,.pt 4 27 0,.pt 5 5 0,.tr 10,.tr 11,.tr 12,.pt 13 13 0,.tr 17,.sl 18 1,.tr 19] (.seq (qs [qM 354 19,qF 355 0 5,qL 356 355,qM 357 11,qI 358 6 356 357,qF 359 4 358,qL 360 359,qB 361 .lss 354 360] (.cond (.t 361) .skip (.exit 12))) (.seq (.block 13 (.cr [qM 364 18,qM 365 17,qM 366 19,o 367 (.uo 8 4 (.t 13) (.t 365)),o 368 (.uo 4 1 (.t 367) (.t 366)),qL 369 368,qC 370 .sub 369 1,o 371 (.de 1 [zi] [(0,1,(.t 370))]),o 372 (.app 1 8 (.t 364) (.t 371)),qM 18 372])) (.cr [qM 362 19,qC 363 .add 362 1,qM 19 363])))))) (.d_ [qF 373 0 5,qL 374 373,qM 375 11,qF 376 0 5,qL 377 376,qM 378 11,qI 379 6 377 378,qF 380 5 379,qL 381 380,qM 382 18,⟨some 383,.de 1 [.aq] [(0,1,(.t 382))],none,true⟩,o 384 (.app 1 24 (.t 381) (.t 383)),qI 385 6 374 375,qF 386 5 385,oN (.store 1 (.t 386) (.t 384))] [[],[0],[],[],[3],[],[3,4,5],[3,4,5,6],[3,4,5,6,7],[],[9],[3,4,5,6,7,8,9,10],(rg 12),(rg 13),(rg 14)] [(1,10),(4,10),(8,10),(1,11)])))) (.cr [qM 352 17,qC 353 .add 352 1,qM 17 353]))))))))))))) (.cr [qM 231 10,qC 232 .add 231 1,qM 10 232])))))) (.seq (qs [qZ 20 0] (.block 14 (.loop jJ3 (.seq (qs [qM 387 20,qF 388 2 1,qL 389 388,qN 390 389,qB 391 .lss 387 390,qM 392 391,qMT 393 392 4,qXT 394 392 393,qFT 395 392 7 394,qLT 396 392 395,qCT 397 392 .eql 396 0,qQ 398 392 397] (.cond (.t 398) .skip (.exit 14))) (.seq (.block 15 (.seq (.join jJ3 (qs [qF 401 2 1,qL 402 401,qM 403 20,qI 404 3 402 403,qF 405 1 404,qL 406 405,qN 407 406,qC 408 .gtr 407 6] (.cond (.t 408) (.cr [qM 409 4,o 410 (.call 68 [.t 409,(i64 10)] .share)]) .skip))) (.seq (.join jJ3 (qs [qF 411 2 1,qL 412 411,qM 413 20,qI 414 3 412 413,qF 415 1 414,qL 416 415,qK 417 70 [416]] (.cond (.t 417) (.cr [qM 418 4,o 419 (.call 68 [.t 418,(i64 7)] .share)]) .skip))) (qs [qM 420 4,qM 421 4,qM 422 20,qF 423 2 1,qL 424 423,qM 425 20,qI 426 3 424 425,qF 427 1 426,qL 428 427,qX 429 420,qF 430 4 429,oN (.store 1 (.t 430) (.t 422)),qX 431 421,qF 432 5 431,oN (.store 1 (.t 432) (.t 428))] (.d_ [qF 433 1 5,qL 434 433,qM 435 4,qX 436 435,qF 437 5 436,qL 438 437,qN 439 438,qM 440 4,qF 441 2 1,qL 442 441,qM 443 20,qI 444 3 442 443,qF 445 2 444,qL 446 445,o 447 (.call 72 [.t 440,.t 446] .share),o 448 (.build [zi,.aq] [(0,1,(.t 439)),(1,1,(.t 447))]),⟨some 449,.de 1 [zi,.aq] [(0,2,(.t 448))],none,true⟩,o 450 (.app 2 32 (.t 434) (.t 449)),qF 451 1 5,oN (.store 1 (.t 451) (.t 450))] [[],[0],[],[2],[2,3],[2,3,4],[2,3,4,5],[],[],[8],[],[8,9,10],[8,9,10,11],[8,9,10,11,12],[7,8,9,10,11,12,13],[2,3,4,5,6,7,8,9,10,11,12,13,14],[2,3,4,5,6,7,8,9,10,11,12,13,14,15],(rg 17),(rg 18),(rg 19)] [(1,14),(5,14),(1,16)]))))) (.cr [qM 399 20,qC 400 .add 399 1,qM 20 400])))))) (.seq (qs [qM 452 4,qX 453 452,qF 454 7 453,qL 455 454,qC 456 .neq 455 0] (.cond (.t 456) (.seq (.d_ [o 457 (.build [.aq,.aq] []),qM 458 4,qX 459 458,qF 460 7 459,qL 461 460,oN (.store 2 (.t 2) (.t 457)),qM 3 461] [[],[],[1],[1,2],[1,2,3],[0],(rg 6)] [(4,5)]) .ret) .skip)) (qs [qG 462 2 5,oN (.store 2 (.t 2) (.t 462)),qZ 3 0] .ret)))))))))))))
def a49:bk:=⟨1,463,[.cell 2 (some 2),.tmp 3],v49.code⟩
def v50:cq:=qs [o 2 (.box (.t 0)),o 4 (.mv (.c (.aq)))] (qs [o 5 (.mv (.c (.aq)))] (.seq (qs [qF 8 1 2,qL 9 8,qN 10 9,qZ 11 0] (.block 0 (.loop [.tr 1,.sl 5 1,.tr 9,.tr 10,.tr 11] (qs [qB 12 .lss 11 10] (.seq (.cond (.t 12) .skip (.exit 0)) (.seq (.block 1 (qs [qM 13 11,qI 14 19 9 11,qG 15 19 14,o 7 (.alloc [zi,zi,zi,zi,zi,zi,zi,zi,zi,.aq,zi,zi,zi,zi,.aq,zi,zi,zi,.aq]),qM 6 13,oN (.store 19 (.t 7) (.t 15))] (qs [qF 16 0 7,qL 17 16,qM 18 1,qB 19 .eql 17 18] (.cond (.t 19) (.cr [qM 20 5,qM 21 6,o 22 (.de 1 [zi] [(0,1,(.t 21))]),o 23 (.app 1 8 (.t 20) (.t 22)),qM 5 23]) .skip)))) (.cr [qC 24 .add 11 1,qM 11 24]))))))) (qs [qM 25 5,qM 4 25] .ret)))
def a50:bk:=⟨2,26,[.tmp 4],v50.code⟩
def a53:bk:=⟨1,34,[.tmp 2],(.seq (.cr [o 1 (.box (.t 0)),qY 2 false]) (.seq (.cr [qG 6 3 1,qK 7 74 [6],o 3 (.alloc [.aq,.aq]),oN (.store 2 (.t 3) (.t 7))]) (.seq (.seq (.cr [qF 8 1 1,qL 9 8,qN 10 9,qF 11 2 1,qL 12 11,qN 13 12,qB 14 .neq 10 13,qM 15 14,qGF 16 15 2 3,qKF 17 15 60 [16],qUF 18 15 17,qP 19 15 18]) (.cond (.t 19) (.seq (.cr [qY 2 false]) .ret) .skip)) (.seq (.seq (.cr [qF 20 1 1,qL 21 20,qN 22 21,qZ 23 0]) (.block 0 (.loop (.seq (.cr [qB 24 .lss 23 22]) (.seq (.cond (.t 24) .skip (.exit 0)) (.seq (.block 1 (.seq (.cr [qM 25 23,qI 26 3 21 23,qG 27 3 26,o 5 (.alloc [zi,.aq,.aq]),qM 4 25,oN (.store 3 (.t 5) (.t 27))]) (.seq (.cr [qG 28 2 3,qM 29 4,qG 30 3 5,qK 31 75 [28,29,30],qU 32 31]) (.cond (.t 32) (.seq (.cr [qY 2 false]) .ret) .skip)))) (.cr [qC 33 .add 23 1,qM 23 33]))))))) (.seq (.cr [qY 2 true]) .ret)))))⟩
def VL:cq:=qs [o 2 (.mv (.c (.aq)))] (.seq (qs [qM 3 0,o 4 (.eq .slice false (.t 3) (.c (.aq)))] (.cond (.t 4) (qs [o 2 (.mv (.c (.aq)))] .ret) .skip)) (qs [o 5 (.de 0 [] []),qM 6 0,o 7 (.app 1 8 (.t 5) (.t 6)),qM 2 7] .ret))
def a56:bk:=⟨1,8,[.tmp 2],VL.code⟩
def Nb:cq:=qs [o 1 (.box (.t 0)),qY 2 false] (.seq (qs [qF 7 0 1,qL 8 7,qN 9 8,qC 10 .gtr 9 4,qM 11 10,qFF 12 11 1 1,qLF 13 11 12,qNF 14 11 13,oF 15 11 (.call 81 [.t 14,(i64 1),(i64 4)] .borrow),qUF 16 11 15,qP 17 11 16] (.cond (.t 17) (qs [qY 2 false] .ret) .skip)) (.seq (qs [qF 18 0 1,qL 19 18,qN 20 19,qZ 21 0] (.block 0 (.loop [.ob 1 [],.pt 1 1 0,.tr 19,.tr 20,.tr 21] (qs [qB 22 .lss 21 20] (.seq (.cond (.t 22) .skip (.exit 0)) (.seq (.block 1 (qs [qI 23 6 19 21,qG 24 6 23,o 4 (.alloc [zi,zi,zi,zi,zi,.aq]),oN (.store 6 (.t 4) (.t 24))] (qs [qG 25 6 4,qF 26 1 1,qL 27 26,qN 28 27,qK 29 82 [25,28],qU 30 29] (.cond (.t 30) (qs [qY 2 false] .ret) .skip)))) (.cr [qC 31 .add 21 1,qM 21 31]))))))) (.seq (qs [qF 32 1 1,qL 33 32,qN 34 33,qZ 35 0] (.block 2 (.loop [.ob 1 [],.pt 1 1 0,.tr 33,.tr 34,.tr 35] (qs [qB 36 .lss 35 34] (.seq (.cond (.t 36) .skip (.exit 2)) (.seq (.block 3 (qs [qM 37 35,qI 38 2 33 35,qG 39 2 38,o 6 (.alloc [zi,.aq]),qM 5 37,oN (.store 2 (.t 6) (.t 39))] (qs [qF 40 0 6,qL 41 40,o 42 (.call 81 [.t 41,(i64 0),(i64 6)] .borrow),qU 43 42,qM 44 43,qGF 45 44 2 1,qMF 46 44 5,qFF 47 44 0 6,qLF 48 44 47,oF 49 44 (.build [.aq,.aq,zi,zi] [(0,2,(.t 45)),(2,1,(.t 46)),(3,1,(.t 48))]),qFF 50 44 1 6,qLF 51 44 50,qKF 52 44 83 [49,51],qUF 53 44 52,qP 54 44 53] (.cond (.t 54) (qs [qY 2 false] .ret) .skip)))) (.cr [qC 55 .add 35 1,qM 35 55]))))))) (qs [qY 2 true] .ret))))
def a60:bk:=⟨1,56,[.tmp 2],Nb.code⟩
def W1:cq:=qs [o 2 (.mv (.c (.aq)))] (qs [o 3 (.mv (.c (.aq)))] (.seq (qs [qM 9 0,qN 10 9,qZ 11 0] (.block 0 (.loop [.sl 3 6,.tr 9,.tr 10,.tr 11] (qs [qB 12 .lss 11 10] (.seq (.cond (.t 12) .skip (.exit 0)) (.seq (.block 1 (qs [qI 13 6 9 11,qG 14 6 13,o 5 (.alloc [zi,zi,zi,zi,zi,.aq]),oN (.store 6 (.t 5) (.t 14))] (qs [qF 15 5 5,qL 16 15,qM 6 16] (qs [qF 17 5 5,oN (.store 1 (.t 17) (.c (.aq)))] (.seq (qs [qM 18 6,qN 19 18,qZ 20 0] (.block 2 (.loop [.ob 5 [(5,1)],.sl 3 6,.pt 5 5 0,.tr 9,.tr 10,.tr 11,.tr 18,.tr 19,.tr 20] (qs [qB 21 .lss 20 19] (.seq (.cond (.t 21) .skip (.exit 2)) (.seq (.block 3 (qs [qI 22 1 18 20,qL 23 22,qM 8 23] (.d_ [qF 24 5 5,qL 25 24,qM 26 8,qK 27 56 [26],⟨some 28,.de 1 [.aq] [(0,1,(.t 27))],none,true⟩,o 29 (.app 1 24 (.t 25) (.t 28)),qF 30 5 5,oN (.store 1 (.t 30) (.t 29))] [[],[0],[],[2],[2,3],(rg 5),(rg 6),(rg 7)] [(1,4)]))) (.cr [qC 31 .add 20 1,qM 20 31]))))))) (.cr [qM 32 3,qG 33 6 5,⟨some 34,.de 1 [zi,zi,zi,zi,zi,.aq] [(0,6,(.t 33))],none,true⟩,o 35 (.app 6 64 (.t 32) (.t 34)),qM 3 35])))))) (.cr [qC 36 .add 11 1,qM 11 36]))))))) (qs [qM 37 3,qM 2 37] .ret)))
def a61:bk:=⟨1,38,[.tmp 2],W1.code⟩
def SW:cq:=.seq (qs [qM 11 1,qN 12 11,qC 13 .eql 12 0] (.cond (.t 13) (qs [qM 14 0,qM 15 2,qM 16 3,o 17 (.build [zi,zi,zi,zi,zi,zi,zi,zi,zi,.aq,zi,zi,zi,zi,.aq,zi,zi,zi,.aq] [(0,1,(.t 15)),(1,1,(.t 16))]),o 18 (.call 84 [.t 14,.t 17] .share)] .ret) .skip)) (.seq (qs [qM 19 1,qM 20 1,qN 21 20,qC 22 .sub 21 1,o 23 (.zb 20 (.t 19) none (some (.t 22)) none),qN 24 23,qZ 25 0] (.block 0 (.loop [.ob 0 [(1,19),(2,1)],.pt 0 0 0,.tr 1,.tr 2,.tr 3,.tr 23,.tr 24,.tr 25] (qs [qB 26 .lss 25 24] (.seq (.cond (.t 26) .skip (.exit 0)) (.seq (.block 1 (qs [qI 27 20 23 25,qG 28 20 27,o 9 (.alloc [zi,zi,zi,zi,zi,zi,zi,.aq,zi,zi,zi,zi,.aq,zi,zi,zi,.aq,.aq,.aq,.aq]),oN (.store 20 (.t 9) (.t 28))] (qs [qM 29 0,o 30 (.call 85 [.t 29] .share),qM 10 30] (qs [qM 31 0,qG 32 20 9,qM 33 2,qM 34 10,o 35 (.call 86 [.t 31,.t 32,.t 33,.t 34] .share)] (.cr [qM 36 10,qM 2 36]))))) (.cr [qC 37 .add 25 1,qM 25 37]))))))) (.cr [qM 38 0,qM 39 1,qM 40 1,qN 41 40,qC 42 .sub 41 1,qI 43 20 39 42,qG 44 20 43,qM 45 2,qM 46 3,o 47 (.call 86 [.t 38,.t 44,.t 45,.t 46] .share)]))
def a62:bk:=⟨4,48,[],SW.code⟩
def SV:cq:=qs [qM 3 0,qN 4 3,qM 2 4] (.cr [qM 5 0,qM 6 2,qM 7 2,o 8 (.conv .u64 (.t 7)),qK 9 88 [8],o 10 (.call 87 [.t 5,(i64 0),.t 6,.t 9] .share)])
def a63:bk:=⟨1,11,[],SV.code⟩
def W0:cq:=qs [o 2 (.mv (.c (.aq)))] (qs [o 3 (.mv (.c (.aq)))] (.seq (qs [qZ 4 0] (.block 0 (.loop [.tr 0,.sl 3 20,.tr 4] (.seq (qs [qM 8 4,qM 9 0,qN 10 9,qB 11 .lss 8 10] (.cond (.t 11) .skip (.exit 0))) (.seq (.block 1 (qs [qM 14 0,qM 15 4,qI 16 20 14 15,qG 17 20 16,o 5 (.alloc [zi,zi,zi,zi,zi,zi,zi,.aq,zi,zi,zi,zi,.aq,zi,zi,zi,.aq,.aq,.aq,.aq]),oN (.store 20 (.t 5) (.t 17))] (.seq (.d_ [qF 18 0 5,qL 19 18,qF 20 1 5,qL 21 20,qF 22 2 5,qL 23 22,qF 24 3 5,qL 25 24,qF 26 4 5,qG 27 4 26,qK 28 36 [27],qF 29 8 5,qF 30 0 29,qL 31 30,qF 32 8 5,qF 33 1 32,qG 34 4 33,qK 35 36 [34],qF 36 8 5,qF 37 5 36,qG 38 4 37,qK 39 36 [38],o 40 (.build [zi,zi,zi,zi,.aq,zi,zi,zi,.aq] [(0,1,(.t 31)),(1,4,(.t 35)),(5,4,(.t 39))]),qF 41 17 5,qL 42 41,qK 43 64 [42],qF 44 18 5,qL 45 44,qK 46 64 [45],o 47 (.build [zi,zi,zi,zi,zi,zi,zi,.aq,zi,zi,zi,zi,.aq,zi,zi,zi,.aq,.aq,.aq,.aq] [(0,1,(.t 19)),(1,1,(.t 21)),(2,1,(.t 23)),(3,1,(.t 25)),(4,4,(.t 28)),(8,9,(.t 40)),(17,1,(.t 43)),(18,1,(.t 46))]),o 6 (.alloc [zi,zi,zi,zi,zi,zi,zi,.aq,zi,zi,zi,zi,.aq,zi,zi,zi,.aq,.aq,.aq,.aq]),oN (.store 20 (.t 6) (.t 47))] [[],[0],[],[2],[],[4],[],[6],[],[8],[8,9],[],[11],[11,12],[],[14],[14,15],[8,9,10,14,15,16],[],[18],[18,19],[8,9,10,14,15,16,17,18,19,20],[8,9,10,11,12,13,14,15,16,17,18,19,20,21],[],[23],[8,9,10,14,15,16,17,18,19,20,21,23,24],[],[26],[8,9,10,14,15,16,17,18,19,20,21,23,24,25,26,27],(rg 29),[],(rg 31)] []) (.seq (qs [qZ 7 0] (.block 2 (.loop [.ob 5 [],.ob 6 [(19,3)],.tr 0,.sl 3 20,.tr 4,.pt 5 5 0,.pt 6 6 0,.tr 7] (.seq (qs [qM 48 7,qF 49 19 5,qL 50 49,qN 51 50,qB 52 .lss 48 51] (.cond (.t 52) .skip (.exit 2))) (.seq (.block 3 (.d_ [qF 55 19 6,qL 56 55,qF 57 19 5,qL 58 57,qM 59 7,qI 60 3 58 59,qF 61 0 60,qL 62 61,qF 63 19 5,qL 64 63,qM 65 7,qI 66 3 64 65,qF 67 1 66,qL 68 67,qF 69 19 5,qL 70 69,qM 71 7,qI 72 3 70 71,qF 73 2 72,qL 74 73,qK 75 64 [74],o 76 (.build [zi,zi,.aq] [(0,1,(.t 62)),(1,1,(.t 68)),(2,1,(.t 75))]),⟨some 77,.de 1 [zi,zi,.aq] [(0,3,(.t 76))],none,true⟩,o 78 (.app 3 40 (.t 56) (.t 77)),qF 79 19 6,oN (.store 1 (.t 79) (.t 78))] [[],[0],[],[2],[],[2,3,4],[2,3,4,5],[2,3,4,5,6],[],[8],[],[8,9,10],[8,9,10,11],[8,9,10,11,12],[],[14],[],[14,15,16],[14,15,16,17],[14,15,16,17,18],[14,15,16,17,18,19],[2,3,4,5,6,7,8,9,10,11,12,13,14,15,16,17,18,19,20],[2,3,4,5,6,7,8,9,10,11,12,13,14,15,16,17,18,19,20,21],(rg 23),(rg 24),(rg 25)] [(1,22)])) (.cr [qM 53 7,qC 54 .add 53 1,qM 7 54])))))) (.cr [qM 80 3,qG 81 20 6,⟨some 82,.de 1 [zi,zi,zi,zi,zi,zi,zi,.aq,zi,zi,zi,zi,.aq,zi,zi,zi,.aq,.aq,.aq,.aq] [(0,20,(.t 81))],none,true⟩,o 83 (.app 20 256 (.t 80) (.t 82)),qM 3 83]))))) (.cr [qM 12 4,qC 13 .add 12 1,qM 4 13])))))) (qs [qM 84 3,qM 2 84] .ret)))
def a64:bk:=⟨1,85,[.tmp 2],W0.code⟩
def v67:cq:=qs [o 1 (.box (.t 0)),qY 2 false] (.seq (qs [qZ 3 0] (.block 0 (.loop [.ob 1 [],.pt 1 1 0,.tr 3] (.seq (qs [qM 12 3,qF 13 0 1,qL 14 13,qN 15 14,qB 16 .lss 12 15] (.cond (.t 16) .skip (.exit 0))) (.seq (.block 1 (qs [qF 19 0 1,qL 20 19,qM 21 3,qI 22 6 20 21,qG 23 6 22,o 4 (.alloc [.str ⟨#[]⟩,zi,zi,.str ⟨#[]⟩,.str ⟨#[]⟩,.aq]),oN (.store 6 (.t 4) (.t 23))] (.seq (qs [qF 24 0 4,qL 25 24,qK 26 92 [25],qU 27 26,qM 28 27,qFF 29 28 3 4,qLF 30 28 29,qKF 31 28 92 [30],qUF 32 28 31,qP 33 28 32,qM 34 33,qFF 35 34 4 4,qLF 36 34 35,qKF 37 34 92 [36],qUF 38 34 37,qP 39 34 38,qM 40 39,qFF 41 40 1 4,qLF 42 40 41,qCF 43 40 .lss 42 0,qP 44 40 43,qM 45 44,qFF 46 45 1 4,qLF 47 45 46,qCF 48 45 .gtr 47 2,qP 49 45 48,qM 50 49,qFF 51 50 2 4,qLF 52 50 51,qKF 53 50 93 [52],qUF 54 50 53,qP 55 50 54,qM 56 55,qFF 57 56 5 4,qLF 58 56 57,qNF 59 56 58,qCF 60 56 .eql 59 0,qP 61 56 60] (.cond (.t 61) (qs [qY 2 false] .ret) .skip)) (qs [qZ 5 0] (.block 2 (.loop [.ob 1 [],.ob 4 [],.pt 1 1 0,.tr 3,.pt 4 4 0,.tr 5] (.seq (qs [qM 62 5,qF 63 5 4,qL 64 63,qN 65 64,qB 66 .lss 62 65] (.cond (.t 66) .skip (.exit 2))) (.seq (.block 3 (qs [qF 69 5 4,qL 70 69,qM 71 5,qI 72 1 70 71,qL 73 72,qK 74 92 [73],qU 75 74] (.cond (.t 75) (qs [qY 2 false] .ret) .skip))) (.cr [qM 67 5,qC 68 .add 67 1,qM 5 68]))))))))) (.cr [qM 17 3,qC 18 .add 17 1,qM 3 18])))))) (.seq (qs [qZ 6 0] (.block 4 (.loop [.ob 1 [],.pt 1 1 0,.tr 6] (.seq (qs [qM 76 6,qF 77 1 1,qL 78 77,qN 79 78,qB 80 .lss 76 79] (.cond (.t 80) .skip (.exit 4))) (.seq (.block 5 (.seq (qs [qF 83 1 1,qL 84 83,qM 85 6,qI 86 2 84 85,qF 87 0 86,qL 88 87,qK 89 92 [88],qU 90 89] (.cond (.t 90) (qs [qY 2 false] .ret) .skip)) (qs [qZ 7 0] (.block 6 (.loop [.ob 1 [],.pt 1 1 0,.tr 6,.tr 7] (.seq (qs [qM 91 7,qF 92 1 1,qL 93 92,qM 94 6,qI 95 2 93 94,qF 96 1 95,qL 97 96,qN 98 97,qB 99 .lss 91 98] (.cond (.t 99) .skip (.exit 6))) (.seq (.block 7 (qs [qF 102 1 1,qL 103 102,qM 104 6,qI 105 2 103 104,qF 106 1 105,qL 107 106,qM 108 7,qI 109 3 107 108,qG 110 3 109,o 8 (.alloc [zi,.str ⟨#[]⟩,zi]),oN (.store 3 (.t 8) (.t 110))] (qs [qF 111 0 8,qL 112 111,qK 113 93 [112],qU 114 113,qM 115 114,qFF 116 115 2 8,qLF 117 115 116,qKF 118 115 93 [117],qUF 119 115 118,qP 120 115 119,qM 121 120,qFF 122 121 1 8,qLF 123 121 122,qKF 124 121 92 [123],qUF 125 121 124,qP 126 121 125] (.cond (.t 126) (qs [qY 2 false] .ret) .skip)))) (.cr [qM 100 7,qC 101 .add 100 1,qM 7 101])))))))) (.cr [qM 81 6,qC 82 .add 81 1,qM 6 82])))))) (.seq (qs [qZ 9 0] (.block 8 (.loop [.ob 1 [],.pt 1 1 0,.tr 9] (.seq (qs [qM 127 9,qF 128 2 1,qL 129 128,qN 130 129,qB 131 .lss 127 130] (.cond (.t 131) .skip (.exit 8))) (.seq (.block 9 (qs [qF 134 2 1,qL 135 134,qM 136 9,qI 137 3 135 136,qG 138 3 137,o 10 (.alloc [.str ⟨#[]⟩,.aq,.aq]),oN (.store 3 (.t 10) (.t 138))] (.seq (qs [qF 139 0 10,qL 140 139,qK 141 92 [140],qU 142 141,qM 143 142,qFF 144 143 2 10,qLF 145 143 144,qKF 146 143 94 [145],qUF 147 143 146,qP 148 143 147] (.cond (.t 148) (qs [qY 2 false] .ret) .skip)) (qs [qZ 11 0] (.block 10 (.loop [.ob 1 [],.ob 10 [],.pt 1 1 0,.tr 9,.pt 10 10 0,.tr 11] (.seq (qs [qM 149 11,qF 150 1 10,qL 151 150,qN 152 151,qB 153 .lss 149 152] (.cond (.t 153) .skip (.exit 10))) (.seq (.block 11 (qs [qF 156 1 10,qL 157 156,qM 158 11,qI 159 1 157 158,qL 160 159,qK 161 92 [160],qU 162 161] (.cond (.t 162) (qs [qY 2 false] .ret) .skip))) (.cr [qM 154 11,qC 155 .add 154 1,qM 11 155]))))))))) (.cr [qM 132 9,qC 133 .add 132 1,qM 9 133])))))) (qs [qY 2 true] .ret))))
def a67:bk:=⟨1,163,[.tmp 2],v67.code⟩
def WM:cq:=qs [qM 4 0,qX 5 4,qF 6 7 5,qL 7 6,qC 8 .eql 7 0] (.cond (.t 8) (.cr [qM 9 0,qM 10 1,qX 11 9,qF 12 7 11,oN (.store 1 (.t 12) (.t 10))]) .skip)
def a68:bk:=⟨2,13,[],WM.code⟩
def v69:cq:=qs [qZ 4 0] (.seq (qs [qZ 5 0] (.block 0 (.loop [.tr 0,.tr 1,.tr 5] (.seq (qs [qM 6 5,qM 7 0,qN 8 7,qB 9 .lss 6 8] (.cond (.t 9) .skip (.exit 0))) (.seq (.block 1 (qs [qM 12 0,qM 13 5,qI 14 1 12 13,qL 15 14,qM 16 1,qB 17 .eql 15 16] (.cond (.t 17) (qs [qM 18 5,qM 4 18] .ret) .skip))) (.cr [qM 10 5,qC 11 .add 10 1,qM 5 11])))))) (qs [o 4 (.mv (i64 (-1)))] .ret))
def a69:bk:=⟨2,19,[.tmp 4],v69.code⟩
def v70:cq:=qs [qY 2 false] (.seq (qs [qZ 3 0] (.block 0 (.loop [.tr 0,.tr 3] (.seq (qs [qM 4 3,qM 5 0,qN 6 5,qB 7 .lss 4 6] (.cond (.t 7) .skip (.exit 0))) (.seq (.block 1 (.seq (.d_ [qM 10 0,qM 11 3,o 12 (.zb 1 (.t 10) none (some (.t 11)) none),qM 13 0,qM 14 3,qI 15 1 13 14,qL 16 15,qK 17 69 [12,16],qC 18 .geq 17 0] [[],[],[0,1],[],[],[3,4],[3,4,5],(rg 7),(rg 8)] []) (.cond (.t 18) (qs [qY 2 true] .ret) .skip))) (.cr [qM 8 3,qC 9 .add 8 1,qM 3 9])))))) (qs [qY 2 false] .ret))
def a70:bk:=⟨1,19,[.tmp 2],v70.code⟩
def WL:cq:=qs [qZ 6 0] (qs [qM 8 1,qM 9 2,qK 10 69 [8,9],qM 7 10] (.seq (qs [qM 11 7,qC 12 .lss 11 0] (.cond (.t 12) (qs [qM 13 0,o 14 (.call 68 [.t 13,(i64 8)] .share)] (qs [qZ 6 0] .ret)) .skip)) (qs [qM 15 7,qM 6 15] .ret)))
def a71:bk:=⟨3,16,[.tmp 6],WL.code⟩
def v72:cq:=qs [o 4 (.mv (.c (.aq)))] (qs [o 5 (.mv (.c (.aq)))] (.seq (qs [qZ 6 0] (.block 0 (.loop [.ob 0 [(3,1),(6,1)],.pt 0 0 0,.tr 1,.sl 5 20,.tr 6] (.seq (qs [qM 17 6,qM 18 1,qN 19 18,qB 20 .lss 17 19,qM 21 20,qMT 22 21 0,qXT 23 21 22,qFT 24 21 7 23,qLT 25 21 24,qCT 26 21 .eql 25 0,qQ 27 21 26] (.cond (.t 27) .skip (.exit 0))) (.seq (.block 1 (qs [qM 30 1,qM 31 6,qI 32 19 30 31,qG 33 19 32,o 7 (.alloc [zi,.str ⟨#[]⟩,.str ⟨#[]⟩,zi,zi,.str ⟨#[]⟩,.aq,zi,zi,zi,.str ⟨#[]⟩,.aq,zi,zi,.str ⟨#[]⟩,.aq,.aq,.aq,.aq]),oN (.store 19 (.t 7) (.t 33))] (qs [qF 34 0 7,qL 35 34,o 36 (.build [zi,zi,zi,zi,zi,zi,zi,.aq,zi,zi,zi,zi,.aq,zi,zi,zi,.aq,.aq,.aq,.aq] [(0,1,(.t 35))]),o 8 (.alloc [zi,zi,zi,zi,zi,zi,zi,.aq,zi,zi,zi,zi,.aq,zi,zi,zi,.aq,.aq,.aq,.aq]),oN (.store 20 (.t 8) (.t 36))] (.seq (qs [qF 37 0 7,qL 38 37] (.block 2 (qs [qC 40 .eql 38 1,qM 39 40] (.cond (.t 39) (.seq (.join jJ6 (.d_ [qM 41 0,qM 42 0,qX 43 42,qF 44 5 43,qL 45 44,qF 46 1 7,qL 47 46,o 48 (.call 71 [.t 41,.t 45,.t 47] .share),qF 49 1 8,oN (.store 1 (.t 49) (.t 48))] [[],[],[1],[1,2],[1,2,3],[],[5],(rg 7),(rg 8),(rg 9)] [])) (.cr [qM 50 0,qF 51 3 7,qG 52 4 51,o 53 (.call 95 [.t 50,.t 52] .share),qF 54 4 8,oN (.store 4 (.t 54) (.t 53))])) (qs [qC 56 .eql 38 2,qM 55 56] (.cond (.t 55) (qs [qM 57 0,qF 58 7 7,qG 59 9 58,o 60 (.call 96 [.t 57,.t 59] .share),qF 61 8 8,oN (.store 9 (.t 61) (.t 60))] (qs [qM 62 0,qF 63 16 7,qL 64 63,o 65 (.call 72 [.t 62,.t 64] .share),qF 66 17 8,oN (.store 1 (.t 66) (.t 65))] (.cr [qM 67 0,qF 68 17 7,qL 69 68,o 70 (.call 72 [.t 67,.t 69] .share),qF 71 18 8,oN (.store 1 (.t 71) (.t 70))]))) (qs [qC 73 .eql 38 3,qM 72 73] (.cond (.t 72) (qs [qM 74 0,qF 75 7 7,qG 76 9 75,o 77 (.call 96 [.t 74,.t 76] .share),qF 78 8 8,oN (.store 9 (.t 78) (.t 77))] (.cr [qM 79 0,qF 80 16 7,qL 81 80,o 82 (.call 72 [.t 79,.t 81] .share),qF 83 17 8,oN (.store 1 (.t 83) (.t 82))])) (qs [qC 85 .eql 38 4,qM 84 85] (.cond (.t 84) (qs [qM 87 0,qF 88 1 7,qL 89 88,o 90 (.call 97 [.t 87,.t 89,(.c (.bool true))] .share),qM 86 90,qE 91 0 86,qE 92 1 86,qM 9 91,qM 10 92] (.seq (.join jJ6 (.cr [qM 93 9,qM 94 0,qM 95 10,qF 96 2 7,qL 97 96,o 98 (.call 71 [.t 94,.t 95,.t 97] .share),qF 99 2 8,oN (.store 1 (.t 99) (.t 93)),qF 100 3 8,oN (.store 1 (.t 100) (.t 98))])) (.cr [qM 101 0,qF 102 3 7,qG 103 4 102,o 104 (.call 95 [.t 101,.t 103] .share),qF 105 4 8,oN (.store 4 (.t 105) (.t 104))]))) (qs [qC 107 .eql 38 5,qM 106 107] (.cond (.t 106) (qs [qM 109 0,qF 110 1 7,qL 111 110,o 112 (.call 97 [.t 109,.t 111,(.c (.bool false))] .share),qM 108 112,qE 113 0 108,qE 114 1 108,qM 11 113,qM 12 114] (qs [qM 115 11,qF 116 2 8,oN (.store 1 (.t 116) (.t 115))] (qs [o 13 (.mv (.c (.aq)))] (qs [qZ 14 0] (.block 3 (.loop [.ob 0 [(3,1),(6,1)],.ob 7 [],.ob 8 [(7,4),(12,4),(16,4),(17,20),(18,20),(19,3)],.pt 0 0 0,.tr 1,.sl 5 20,.tr 6,.pt 7 7 0,.pt 8 8 0,.tr 12,.sl 13 1,.tr 14] (.seq (qs [qM 117 14,qF 118 18 7,qL 119 118,qN 120 119,qB 121 .lss 117 120,qM 122 121,qMT 123 122 0,qXT 124 122 123,qFT 125 122 7 124,qLT 126 122 125,qCT 127 122 .eql 126 0,qQ 128 122 127] (.cond (.t 128) .skip (.exit 3))) (.seq (.block 4 (qs [qF 131 18 7,qL 132 131,qM 133 14,qI 134 3 132 133,qG 135 3 134,o 15 (.alloc [.str ⟨#[]⟩,.str ⟨#[]⟩,.aq]),oN (.store 3 (.t 15) (.t 135))] (.seq (.join jJ0 (.cr [qM 136 0,qM 137 12,qF 138 0 15,qL 139 138,o 140 (.call 71 [.t 136,.t 137,.t 139] .share),o 141 (.build [zi,zi,.aq] [(0,1,(.t 140))]),o 16 (.alloc [zi,zi,.aq]),oN (.store 3 (.t 16) (.t 141))])) (.seq (.join jJ0 (qs [qM 142 13,qF 143 0 15,qL 144 143,qK 145 69 [142,144],qC 146 .geq 145 0] (.cond (.t 146) (.cr [qM 147 0,o 148 (.call 68 [.t 147,(i64 7)] .share)]) .skip))) (qs [qM 149 13,qF 150 0 15,qL 151 150,o 152 (.de 1 [.str ⟨#[]⟩] [(0,1,(.t 151))]),o 153 (.app 1 16 (.t 149) (.t 152)),qM 13 153] (.seq (.join jJ0 (.d_ [qM 154 0,qM 155 0,qX 156 155,qF 157 5 156,qL 158 157,qF 159 1 15,qL 160 159,o 161 (.call 71 [.t 154,.t 158,.t 160] .share),qF 162 1 16,oN (.store 1 (.t 162) (.t 161))] [[],[],[1],[1,2],[1,2,3],[],[5],(rg 7),(rg 8),(rg 9)] [])) (qs [qM 163 0,qF 164 2 15,qL 165 164,o 166 (.call 72 [.t 163,.t 165] .share),qF 167 2 16,oN (.store 1 (.t 167) (.t 166))] (.cr [qF 168 19 8,qL 169 168,qG 170 3 16,⟨some 171,.de 1 [zi,zi,.aq] [(0,3,(.t 170))],none,true⟩,o 172 (.app 3 40 (.t 169) (.t 171)),qF 173 19 8,oN (.store 1 (.t 173) (.t 172))])))))))) (.cr [qM 129 14,qC 130 .add 129 1,qM 14 130]))))))))) (qs [qC 175 .eql 38 6,qM 174 175] (.cond (.t 174) (.cr [qM 176 0,qF 177 7 7,qG 178 9 177,o 179 (.call 96 [.t 176,.t 178] .share),qF 180 8 8,oN (.store 9 (.t 180) (.t 179))]) (qs [qC 182 .eql 38 7,qM 181 182] (.cond (.t 181) (.d_ [qM 183 0,qM 184 0,qX 185 184,qF 186 5 185,qL 187 186,qF 188 1 7,qL 189 188,o 190 (.call 71 [.t 183,.t 187,.t 189] .share),qF 191 1 8,oN (.store 1 (.t 191) (.t 190))] [[],[],[1],[1,2],[1,2,3],[],[5],(rg 7),(rg 8),(rg 9)] []) .skip)))))))))))))))) (.cr [qM 192 5,qG 193 20 8,⟨some 194,.de 1 [zi,zi,zi,zi,zi,zi,zi,.aq,zi,zi,zi,zi,.aq,zi,zi,zi,.aq,.aq,.aq,.aq] [(0,20,(.t 193))],none,true⟩,o 195 (.app 20 256 (.t 192) (.t 194)),qM 5 195]))))) (.cr [qM 28 6,qC 29 .add 28 1,qM 6 29])))))) (qs [qM 196 5,qM 4 196] .ret)))
def a72:bk:=⟨2,197,[.tmp 4],v72.code⟩
def a74:bk:=⟨1,25,[.cell 2 (some 2)],(.seq (.cr [o 1 (.box (.t 0)),o 2 (.alloc [.aq,.aq])]) (.seq (.cr [qF 6 0 1,qL 7 6,o 8 (.build [.aq,.aq] [(0,1,(.t 7))]),o 3 (.alloc [.aq,.aq]),oN (.store 2 (.t 3) (.t 8))]) (.seq (.seq (.cr [qF 9 2 1,qL 10 9,qN 11 10,qZ 12 0]) (.block 0 (.loop (.seq (.cr [qB 13 .lss 12 11]) (.seq (.cond (.t 13) .skip (.exit 0)) (.seq (.block 1 (.seq (.cr [qI 14 1 10 12,qL 15 14,qM 5 15]) (.cr [qF 16 1 3,qL 17 16,qM 18 5,o 19 (.build [zi,.aq] [(0,1,(.t 18))]),⟨some 20,.de 1 [zi,.aq] [(0,2,(.t 19))],none,true⟩,o 21 (.app 2 32 (.t 17) (.t 20)),qF 22 1 3,oN (.store 1 (.t 22) (.t 21))]))) (.cr [qC 23 .add 12 1,qM 12 23]))))))) (.seq (.cr [qG 24 2 3,oN (.store 2 (.t 2) (.t 24))]) .ret))))⟩
def a75:bk:=⟨3,56,[.tmp 6],(.seq (.cr [o 3 (.box (.t 0)),o 5 (.box (.t 2)),qY 6 false]) (.seq (.seq (.cr [qF 10 0 5,qL 11 10,qC 12 .lss 11 2,qM 13 12,qFF 14 13 0 5,qLF 15 13 14,qCF 16 13 .gtr 15 802,qP 17 13 16,qM 18 17,qFF 19 18 1 5,qLF 20 18 19,qNF 21 18 20,qCF 22 18 .gtr 21 400,qP 23 18 22,qM 24 23,qGF 25 24 3 5,qKF 26 24 99 [25],qUF 27 24 26,qP 28 24 27]) (.cond (.t 28) (.seq (.cr [qY 6 false]) .ret) .skip)) (.seq (.seq (.cr [qF 29 1 5,qL 30 29,qN 31 30,qZ 32 0]) (.block 0 (.loop (.seq (.cr [qB 33 .lss 32 31]) (.seq (.cond (.t 33) .skip (.exit 0)) (.seq (.block 1 (.seq (.cr [qI 34 19 30 32,qG 35 19 34,o 8 (.alloc [zi,zi,zi,zi,zi,zi,zi,zi,zi,.aq,zi,zi,zi,zi,.aq,zi,zi,zi,.aq]),oN (.store 19 (.t 8) (.t 35))]) (.seq (.cr [qG 36 2 3,qM 37 1,qG 38 3 5,qG 39 19 8,qK 40 100 [36,37,38,39],qU 41 40]) (.cond (.t 41) (.seq (.cr [qY 6 false]) .ret) .skip)))) (.cr [qC 42 .add 32 1,qM 32 42]))))))) (.seq (.seq (.cr [qF 43 0 5,qL 44 43,qZ 45 0]) (.block 2 (.loop (.seq (.cr [qB 46 .lss 45 44]) (.seq (.cond (.t 46) .skip (.exit 2)) (.seq (.block 3 (.seq (.cr [qM 47 45,qM 9 47]) (.seq (.cr [qG 48 3 5,qM 49 9,qK 50 101 [48,49],qU 51 50]) (.cond (.t 51) (.seq (.cr [qY 6 false]) .ret) .skip)))) (.cr [qC 52 .add 45 1,qM 45 52]))))))) (.seq (.cr [qG 53 3 5,qK 54 102 [53],qU 55 54,qM 6 55]) .ret)))))⟩
def WZ:cq:=qs [qY 6 false] (qs [qM 7 0,qM 8 1,qB 9 .geq 7 8,qM 10 9,qMT 11 10 0,qMT 12 10 2,qBT 13 10 .leq 11 12,qQ 14 10 13,qM 6 14] .ret)
def a81:bk:=⟨3,15,[.tmp 6],WZ.code⟩
def v82:cq:=qs [o 2 (.box (.t 0)),qY 4 false] (qs [qF 6 0 2,qL 7 6,o 8 (.call 81 [.t 7,(i64 0),(i64 2)] .borrow),qM 9 8,qFT 10 9 1 2,qLT 11 9 10,oT 12 9 (.call 81 [.t 11,(i64 1),(i64 16)] .borrow),qQ 13 9 12,qM 14 13,qFT 15 14 4 2,qLT 16 14 15,oT 17 14 (.call 81 [.t 16,(i64 1),(i64 4)] .borrow),qQ 18 14 17,qM 5 18] (qs [qM 19 5,qM 20 19,qFT 21 20 2 2,qLT 22 20 21,qMT 23 20 1,qCT 24 20 .sub 23 1,oT 25 20 (.call 81 [.t 22,(i64 0),.t 24] .borrow),qQ 26 20 25,qM 27 26,qFT 28 27 3 2,qLT 29 27 28,qMT 30 27 1,qCT 31 27 .sub 30 1,oT 32 27 (.call 81 [.t 29,(i64 0),.t 31] .borrow),qQ 33 27 32,qM 34 33,qFT 35 34 2 2,qLT 36 34 35,qFT 37 34 3 2,qLT 38 34 37,qBT 39 34 .neq 36 38,qQ 40 34 39,qM 41 40,qGT 42 41 6 2,qKT 43 41 104 [42],qQ 44 41 43,qM 4 44] .ret))
def a82:bk:=⟨2,45,[.tmp 4],v82.code⟩
def WY:cq:=qs [o 2 (.box (.t 0)),qY 4 false] (.seq (qs [qM 7 1,qN 8 7,qZ 9 0] (.block 0 (.loop [.ob 2 [],.pt 2 2 0,.tr 7,.tr 8,.tr 9] (qs [qB 10 .lss 9 8] (.seq (.cond (.t 10) .skip (.exit 0)) (.seq (.block 1 (qs [qI 11 20 7 9,qG 12 20 11,o 6 (.alloc [zi,zi,zi,zi,zi,zi,zi,.aq,zi,zi,zi,zi,.aq,zi,zi,zi,.aq,.aq,.aq,.aq]),oN (.store 20 (.t 6) (.t 12))] (qs [qG 13 4 2,qG 14 20 6,qK 15 105 [13,14],qU 16 15] (.cond (.t 16) (qs [qY 4 false] .ret) .skip)))) (.cr [qC 17 .add 9 1,qM 9 17]))))))) (qs [qY 4 true] .ret))
def a83:bk:=⟨2,18,[.tmp 4],WY.code⟩
def WX:cq:=qs [o 3 (.box (.t 1))] (.d_ [qM 4 0,qM 5 0,qX 6 5,qF 7 1 6,qL 8 7,qG 9 19 3,⟨some 10,.de 1 [zi,zi,zi,zi,zi,zi,zi,zi,zi,.aq,zi,zi,zi,zi,.aq,zi,zi,zi,.aq] [(0,19,(.t 9))],none,true⟩,o 11 (.app 19 200 (.t 8) (.t 10)),qX 12 4,qF 13 1 12,oN (.store 1 (.t 13) (.t 11))] [[],[],[1],[1,2],[1,2,3],[],[5],[1,2,3,4,5,6],(rg 8),(rg 9),(rg 10)] [(4,6)])
def a84:bk:=⟨2,14,[],WX.code⟩
def WW:cq:=qs [qZ 2 0] (qs [qM 3 0,qX 4 3,qF 5 0 4,qL 6 5,qC 7 .add 6 1,qX 8 3,qF 9 0 8,oN (.store 1 (.t 9) (.t 7))] (qs [qM 10 0,qX 11 10,qF 12 0 11,qL 13 12,qC 14 .sub 13 1,qM 2 14] .ret))
def a85:bk:=⟨1,15,[.tmp 2],WW.code⟩
def WV:cq:=qs [o 5 (.box (.t 1))] (qs [qF 8 0 5,qL 9 8] (.block 0 (qs [qC 11 .eql 9 1,qM 10 11] (.cond (.t 10) (.d_ [qM 12 0,qM 13 2,qM 14 3,qF 15 1 5,qL 16 15,qF 17 4 5,qG 18 4 17,qK 19 106 [18],o 20 (.build [zi,zi,zi,zi,zi,zi,zi,zi,zi,.aq,zi,zi,zi,zi,.aq,zi,zi,zi,.aq] [(0,1,(.t 13)),(1,1,(.t 14)),(2,1,(i64 1)),(3,1,(.t 16)),(6,4,(.t 19))]),o 21 (.call 84 [.t 12,.t 20] .share)] [[],[],[],[],[3],[],[5],[5,6],[1,2,3,4,5,6,7],(rg 9)] []) (qs [qC 23 .eql 9 4,qM 22 23] (.cond (.t 22) (.d_ [qM 24 0,qM 25 2,qM 26 3,qF 27 2 5,qL 28 27,qF 29 3 5,qL 30 29,qF 31 4 5,qG 32 4 31,qK 33 106 [32],o 34 (.build [zi,zi,zi,zi,zi,zi,zi,zi,zi,.aq,zi,zi,zi,zi,.aq,zi,zi,zi,.aq] [(0,1,(.t 25)),(1,1,(.t 26)),(2,1,(i64 3)),(4,1,(.t 28)),(5,1,(.t 30)),(6,4,(.t 33))]),o 35 (.call 84 [.t 24,.t 34] .share)] [[],[],[],[],[3],[],[5],[],[7],[7,8],[1,2,3,4,5,6,7,8,9],(rg 11)] []) (qs [qC 37 .eql 9 6,qM 36 37] (.cond (.t 36) (.cr [qM 38 0,qM 39 2,qM 40 3,qF 41 8 5,qG 42 9 41,qK 43 107 [42],o 44 (.build [zi,zi,zi,zi,zi,zi,zi,zi,zi,.aq,zi,zi,zi,zi,.aq,zi,zi,zi,.aq] [(0,1,(.t 39)),(1,1,(.t 40)),(2,1,(i64 5)),(10,9,(.t 43))]),o 45 (.call 84 [.t 38,.t 44] .share)]) (qs [qC 47 .eql 9 7,qM 46 47] (.cond (.t 46) (.cr [qM 48 0,qM 49 2,qM 50 3,qF 51 1 5,qL 52 51,o 53 (.build [zi,zi,zi,zi,zi,zi,zi,zi,zi,.aq,zi,zi,zi,zi,.aq,zi,zi,zi,.aq] [(0,1,(.t 49)),(1,1,(.t 50)),(2,1,(i64 6)),(3,1,(.t 52))]),o 54 (.call 84 [.t 48,.t 53] .share)]) (qs [qC 56 .eql 9 2,qM 55 56] (.cond (.t 55) (.seq (.d_ [qM 57 0,qF 58 8 5,qG 59 9 58,qK 60 107 [59],qF 61 17 5,qL 62 61,qM 63 2,qM 64 3,o 65 (.call 108 [.t 57,.t 60,.t 62,.t 63,.t 64] .share)] [[],[],[1],[1,2],[],[4],[],[],(rg 8)] []) (.d_ [qM 66 0,qF 67 8 5,qG 68 9 67,qK 69 109 [68],qF 70 18 5,qL 71 70,qM 72 2,qM 73 3,o 74 (.call 108 [.t 66,.t 69,.t 71,.t 72,.t 73] .share)] [[],[],[1],[1,2],[],[4],[],[],(rg 8)] [])) (qs [qC 76 .eql 9 3,qM 75 76] (.cond (.t 75) (.cr [qM 77 0,qG 78 20 5,qM 79 2,qM 80 3,o 81 (.call 110 [.t 77,.t 78,.t 79,.t 80] .share)]) (qs [qC 83 .eql 9 5,qM 82 83] (.cond (.t 82) (.cr [qM 84 0,qG 85 20 5,qM 86 2,qM 87 3,o 88 (.call 111 [.t 84,.t 85,.t 86,.t 87] .share)]) .skip))))))))))))))))
def a86:bk:=⟨4,89,[],WV.code⟩
def WU:cq:=qs [qY 8 true] (qs [qY 9 true] (.block 0 (.loop [.sl 0 1,.tr 1,.tr 2,.tr 3,.tr 8,.tr 9] (.block 1 (qs [qM 19 2,qM 20 1,qB 21 .sub 19 20,qM 10 21] (.seq (qs [qM 22 10,qC 23 .leq 22 12] (.cond (.t 23) (qs [qM 24 0,qM 25 1,qM 26 2,o 27 (.call 112 [.t 24,.t 25,.t 26] .share)] .ret) .skip)) (.seq (qs [qM 28 3,qC 29 .eql 28 0] (.cond (.t 29) (qs [qM 30 0,qM 31 1,qM 32 2,o 33 (.call 113 [.t 30,.t 31,.t 32] .share)] .ret) .skip)) (.seq (qs [qM 34 8,qU 35 34] (.cond (.t 35) (qs [qM 36 0,qM 37 1,qM 38 2,o 39 (.call 114 [.t 36,.t 37,.t 38] .share)] (.cr [qM 40 3,qC 41 .sub 40 1,qM 3 41])) .skip)) (qs [qM 43 0,qM 44 1,qM 45 2,o 46 (.call 115 [.t 43,.t 44,.t 45] .share),qM 42 46,qE 47 0 42,qE 48 1 42,qM 11 47,qM 12 48] (.seq (qs [qM 49 12,qC 50 .eql 49 2] (.cond (.t 50) (qs [qM 51 0,qM 52 1,qM 53 2,o 54 (.call 116 [.t 51,.t 52,.t 53] .share)] (qs [qM 55 2,qC 56 .sub 55 1,qM 57 11,qM 58 1,qB 59 .sub 57 58,qB 60 .sub 56 59,qM 11 60] (.cr [qZ 12 1]))) .skip)) (.seq (qs [qM 61 8,qM 62 61,qMT 63 62 9,qQ 64 62 63,qM 65 64,qMT 66 65 12,qCT 67 65 .eql 66 1,qQ 68 65 67] (.cond (.t 68) (qs [qM 69 0,qM 70 1,qM 71 2,o 72 (.call 117 [.t 69,.t 70,.t 71] .share)] (.cond (.t 72) .ret .skip)) .skip)) (.seq (.seq (.d_ [qM 73 1,qC 74 .gtr 73 0,qM 75 74,qMT 76 75 0,qMT 77 75 1,qCT 78 75 .sub 77 1,qIT 79 75 1 76 78,qLT 80 75 79,qMT 81 75 0,qMT 82 75 11,qIT 83 75 1 81 82,qLT 84 75 83,qKT 85 75 118 [80,84],qUT 86 75 85,qQ 87 75 86] [[],[0],[0,1],[0,1,2],[0,1,2],[0,1,2,4],(rg 6),(rg 7),[0,1,2],[0,1,2],[0,1,2,8,9],[0,1,2,8,9,10],(rg 12),(rg 13),(rg 14)] []) (.cond (.t 87) (qs [qM 88 0,qM 89 1,qM 90 2,qM 91 11,o 92 (.call 119 [.t 88,.t 89,.t 90,.t 91] .share),qM 13 92] (qs [qM 93 13,qM 1 93] (.exit 1))) .skip)) (qs [qM 95 0,qM 96 1,qM 97 2,qM 98 11,o 99 (.call 120 [.t 95,.t 96,.t 97,.t 98] .share),qM 94 99,qE 100 0 94,qE 101 1 94,qM 14 100,qM 15 101] (qs [qM 102 15,qM 9 102] (qs [qM 103 14,qM 104 1,qB 105 .sub 103 104,qM 106 2,qM 107 14,qB 108 .sub 106 107,qM 16 105,qM 17 108] (qs [qM 109 10,qC 110 .quo 109 8,qM 18 110] (qs [qM 111 16,qM 112 17,qB 113 .lss 111 112] (.cond (.t 113) (qs [qM 114 16,qM 115 18,qB 116 .geq 114 115,qM 8 116] (qs [qM 117 0,qM 118 1,qM 119 14,qM 120 3,o 121 (.call 87 [.t 117,.t 118,.t 119,.t 120] .share)] (.cr [qM 122 14,qC 123 .add 122 1,qM 1 123]))) (qs [qM 124 17,qM 125 18,qB 126 .geq 124 125,qM 8 126] (qs [qM 127 0,qM 128 14,qC 129 .add 128 1,qM 130 2,qM 131 3,o 132 (.call 87 [.t 127,.t 129,.t 130,.t 131] .share)] (.cr [qM 133 14,qM 2 133])))))))))))))))))))))
def a87:bk:=⟨4,134,[],WU.code⟩
def WT:cq:=qs [qZ 2 0] (.seq (.cond (.c (.bool false)) (qs [qM 3 0,o 4 (.conv .u32 (.t 3)),qK 5 121 [4],qM 2 5] .ret) .skip) (qs [qM 6 0,qK 7 122 [6],qM 2 7] .ret))
def a88:bk:=⟨1,8,[.tmp 2],WT.code⟩
def VK:cq:=qs [qY 2 false] (qs [qM 7 0,qK 8 127 [7],qM 6 8,qE 9 0 6,qE 10 1 6,qE 11 2 6,qM 3 9,qM 4 10,qM 5 11] (qs [qM 12 5,qC 13 .eql 12 0,qM 14 13,qMT 15 14 3,qNT 16 14 15,qCT 17 14 .eql 16 1,qQ 18 14 17,qM 19 18,qMT 20 19 3,oT 21 19 (.jg 4 (.t 20) (i64 0)),qFT 22 19 0 21,qLT 23 19 22,qCT 24 19 .eql 23 1,qQ 25 19 24,qM 26 25,qMT 27 26 3,oT 28 26 (.jg 4 (.t 27) (i64 0)),qFT 29 26 1 28,qLT 30 26 29,qMT 31 26 0,qBT 32 26 .eql 30 31,qQ 33 26 32,qM 2 33] .ret))
def a92:bk:=⟨1,34,[.tmp 2],VK.code⟩
def WS:cq:=qs [qY 2 false] (qs [qM 3 0,qC 4 .geq 3 0,qM 5 4,qMT 6 5 0,qCT 7 5 .leq 6 2147483647,qQ 8 5 7,qM 2 8] .ret)
def a93:bk:=⟨1,9,[.tmp 2],WS.code⟩
def WQ:cq:=qs [qY 2 false] (.seq (qs [qZ 3 0] (.block 0 (.loop [.tr 0,.tr 3] (.seq (qs [qM 7 3,qM 8 0,qN 9 8,qB 10 .lss 7 9] (.cond (.t 10) .skip (.exit 0))) (.seq (.block 1 (qs [qM 13 0,qM 14 3,qI 15 19 13 14,qG 16 19 15,o 4 (.alloc [zi,.str ⟨#[]⟩,.str ⟨#[]⟩,zi,zi,.str ⟨#[]⟩,.aq,zi,zi,zi,.str ⟨#[]⟩,.aq,zi,zi,.str ⟨#[]⟩,.aq,.aq,.aq,.aq]),oN (.store 19 (.t 4) (.t 16))] (qs [qY 5 false] (.seq (qs [qF 17 0 4,qL 18 17] (.block 2 (qs [qC 20 .eql 18 1,qM 19 20] (.cond (.t 19) (.cr [qF 21 1 4,qL 22 21,qK 23 92 [22],qM 24 23,qFT 25 24 3 4,qGT 26 24 4 25,qKT 27 24 128 [26],qQ 28 24 27,qM 5 28]) (qs [qC 30 .eql 18 2,qM 29 30] (.cond (.t 29) (.cr [qF 31 7 4,qG 32 9 31,qK 33 129 [32],qM 34 33,qFT 35 34 16 4,qLT 36 34 35,qKT 37 34 94 [36],qQ 38 34 37,qM 39 38,qFT 40 39 17 4,qLT 41 39 40,qKT 42 39 94 [41],qQ 43 39 42,qM 5 43]) (qs [qC 45 .eql 18 3,qM 44 45] (.cond (.t 44) (.cr [qF 46 7 4,qG 47 9 46,qK 48 129 [47],qM 49 48,qFT 50 49 16 4,qLT 51 49 50,qKT 52 49 94 [51],qQ 53 49 52,qM 5 53]) (qs [qC 55 .eql 18 4,qM 54 55] (.cond (.t 54) (.cr [qF 56 1 4,qL 57 56,qK 58 92 [57],qM 59 58,qFT 60 59 2 4,qLT 61 59 60,qKT 62 59 92 [61],qQ 63 59 62,qM 64 63,qFT 65 64 3 4,qGT 66 64 4 65,qKT 67 64 128 [66],qQ 68 64 67,qM 5 68]) (qs [qC 70 .eql 18 5,qM 69 70] (.cond (.t 69) (qs [qF 71 1 4,qL 72 71,qK 73 92 [72],qM 74 73,qFT 75 74 18 4,qLT 76 74 75,qNT 77 74 76,qCT 78 74 .gtr 77 0,qQ 79 74 78,qM 5 79] (qs [qZ 6 0] (.block 3 (.loop [.ob 4 [],.tr 0,.tr 3,.pt 4 4 0,.tr 5,.tr 6] (.seq (qs [qM 80 6,qF 81 18 4,qL 82 81,qN 83 82,qB 84 .lss 80 83] (.cond (.t 84) .skip (.exit 3))) (.seq (.block 4 (.cr [qM 87 5,qM 88 87,qFT 89 88 18 4,qLT 90 88 89,qMT 91 88 6,qIT 92 88 3 90 91,qFT 93 88 0 92,qLT 94 88 93,qKT 95 88 92 [94],qQ 96 88 95,qM 97 96,qFT 98 97 18 4,qLT 99 97 98,qMT 100 97 6,qIT 101 97 3 99 100,qFT 102 97 1 101,qLT 103 97 102,qKT 104 97 92 [103],qQ 105 97 104,qM 106 105,qFT 107 106 18 4,qLT 108 106 107,qMT 109 106 6,qIT 110 106 3 108 109,qFT 111 106 2 110,qLT 112 106 111,qKT 113 106 94 [112],qQ 114 106 113,qM 5 114])) (.cr [qM 85 6,qC 86 .add 85 1,qM 6 86]))))))) (qs [qC 116 .eql 18 6,qM 115 116] (.cond (.t 115) (.cr [qF 117 7 4,qG 118 9 117,qK 119 129 [118],qM 5 119]) (qs [qC 121 .eql 18 7,qM 120 121] (.cond (.t 120) (.cr [qF 122 1 4,qL 123 122,qK 124 92 [123],qM 5 124]) .skip)))))))))))))))) (qs [qM 125 5,qU 126 125] (.cond (.t 126) (qs [qY 2 false] .ret) .skip)))))) (.cr [qM 11 3,qC 12 .add 11 1,qM 3 12])))))) (qs [qY 2 true] .ret))
def a94:bk:=⟨1,127,[.tmp 2],WQ.code⟩
def WO:cq:=qs [o 3 (.box (.t 1)),o 4 (.alloc [zi,zi,zi,.aq])] (qs [qF 7 0 3,qL 8 7,o 9 (.build [zi,zi,zi,.aq] [(0,1,(.t 8))]),o 5 (.alloc [zi,zi,zi,.aq]),oN (.store 4 (.t 5) (.t 9))] (.seq (.join jJ8 (qs [qF 10 0 3,qL 11 10,qC 12 .eql 11 1] (.cond (.t 12) (.cr [qF 13 1 3,qL 14 13,qF 15 1 5,oN (.store 1 (.t 15) (.t 14))]) .skip))) (.seq (.join jJ8 (qs [qF 16 0 3,qL 17 16,qC 18 .eql 17 2] (.cond (.t 18) (.d_ [qM 19 0,qM 20 0,qX 21 20,qF 22 5 21,qL 23 22,qF 24 2 3,qL 25 24,o 26 (.call 71 [.t 19,.t 23,.t 25] .share),qF 27 2 5,oN (.store 1 (.t 27) (.t 26))] [[],[],[1],[1,2],[1,2,3],[],[5],(rg 7),(rg 8),(rg 9)] []) .skip))) (.seq (qs [qZ 6 0] (.block 0 (.loop [.ob 0 [(3,1),(6,1)],.ob 3 [],.ob 4 [(3,4)],.ob 5 [(3,4)],.pt 0 0 0,.pt 3 3 0,.pt 4 4 0,.pt 5 5 0,.tr 6] (.seq (qs [qM 28 6,qF 29 3 3,qL 30 29,qN 31 30,qB 32 .lss 28 31] (.cond (.t 32) .skip (.exit 0))) (.seq (.block 1 (.d_ [qF 35 3 5,qL 36 35,qM 37 0,qF 38 3 3,qL 39 38,qM 40 6,qI 41 4 39 40,qG 42 4 41,o 43 (.call 95 [.t 37,.t 42] .share),⟨some 44,.de 1 [zi,zi,zi,.aq] [(0,4,(.t 43))],none,true⟩,o 45 (.app 4 48 (.t 36) (.t 44)),qF 46 3 5,oN (.store 1 (.t 46) (.t 45))] [[],[0],[],[],[3],[],[3,4,5],[3,4,5,6],[2,3,4,5,6,7],[2,3,4,5,6,7,8],(rg 10),(rg 11),(rg 12)] [(1,8),(1,9)])) (.cr [qM 33 6,qC 34 .add 33 1,qM 6 34])))))) (qs [qG 47 4 5,oN (.store 4 (.t 4) (.t 47))] .ret)))))
def a95:bk:=⟨2,48,[.cell 4 (some 4)],WO.code⟩
def WN:cq:=qs [o 3 (.box (.t 1)),o 4 (.alloc [zi,zi,zi,zi,.aq,zi,zi,zi,.aq])] (qs [qM 6 0,qF 7 1 3,qG 8 4 7,o 9 (.call 95 [.t 6,.t 8] .share),o 5 (.alloc [zi,zi,zi,.aq]),oN (.store 4 (.t 5) (.t 9))] (.seq (.d_ [qF 10 0 3,qL 11 10,qG 12 4 5,qM 13 0,qF 14 5 3,qG 15 4 14,o 16 (.call 95 [.t 13,.t 15] .share),o 17 (.build [zi,zi,zi,zi,.aq,zi,zi,zi,.aq] [(0,1,(.t 11)),(1,4,(.t 12)),(5,4,(.t 16))]),oN (.store 9 (.t 4) (.t 17))] [[],[0],[],[],[],[4],[3,4,5],(rg 7),(rg 8)] [(1,6),(2,6)]) .ret))
def a96:bk:=⟨2,18,[.cell 4 (some 9)],WN.code⟩
def v97:cq:=qs [qZ 6 0,o 7 (.mv (.c (.aq)))] (qs [qM 10 0,qX 11 10,qF 12 3 11,qL 13 12,qM 14 1,qK 15 69 [13,14],qM 8 15] (.seq (qs [qM 16 8,qC 17 .lss 16 0] (.cond (.t 17) (qs [qM 18 0,o 19 (.call 68 [.t 18,(i64 8)] .share)] (qs [qZ 6 0,o 7 (.mv (.c (.aq)))] .ret)) .skip)) (qs [qM 20 0,qX 21 20,qF 22 0 21,qF 23 0 22,qL 24 23,qM 25 8,qI 26 6 24 25,qF 27 4 26,qL 28 27,qM 9 28] (.seq (qs [qM 29 2] (.cond (.t 29) (.cr [qM 30 0,qX 31 30,qF 32 0 31,qF 33 0 32,qL 34 33,qM 35 8,qI 36 6 34 35,qF 37 3 36,qL 38 37,qM 9 38]) .skip)) (.seq (.seq (.d_ [qM 39 0,qX 40 39,qF 41 6 40,qL 42 41,qM 43 9,qK 44 69 [42,43],qM 45 0,qX 46 45,qF 47 4 46,qL 48 47,qB 49 .neq 44 48] [[],[0],[0,1],[0,1,2],[],(rg 5),[],[6],[6,7],[6,7,8],(rg 10)] []) (.cond (.t 49) (.cr [qM 50 0,o 51 (.call 68 [.t 50,(i64 9)] .share)]) .skip)) (.seq (.d_ [qM 52 8,qM 53 0,qX 54 53,qF 55 0 54,qF 56 0 55,qL 57 56,qM 58 8,qI 59 6 57 58,qF 60 5 59,qL 61 60,qM 6 52,qM 7 61] [[],[],[1],[1,2],[1,2,3],[1,2,3,4],[],[1,2,3,4,5,6],[1,2,3,4,5,6,7],[1,2,3,4,5,6,7,8],[0],(rg 11)] []) .ret))))))
def a97:bk:=⟨3,62,[.tmp 6,.tmp 7],v97.code⟩
def a99:bk:=⟨1,36,[.tmp 2],(.seq (.cr [o 1 (.box (.t 0)),qY 2 false]) (.seq (.seq (.cr [qF 5 2 1,qL 6 5,qN 7 6,qZ 8 0]) (.block 0 (.loop (.seq (.cr [qB 9 .lss 8 7]) (.seq (.cond (.t 9) .skip (.exit 0)) (.seq (.block 1 (.seq (.cr [qM 10 8,qI 11 1 6 8,qL 12 11,qM 3 10,qM 4 12]) (.seq (.cr [qM 13 4,qC 14 .lss 13 0,qM 15 14,qMF 16 15 4,qFF 17 15 0 1,qLF 18 15 17,qBF 19 15 .geq 16 18,qP 20 15 19,qM 21 20,qMF 22 21 3,qCF 23 21 .gtr 22 0,qMF 24 21 23,qFT 25 24 2 1,qLT 26 24 25,qMT 27 24 3,qCT 28 24 .sub 27 1,qIT 29 24 1 26 28,qLT 30 24 29,qMT 31 24 4,qBT 32 24 .geq 30 31,qQF 33 21 24 32,qP 34 21 33]) (.cond (.t 34) (.seq (.cr [qY 2 false]) .ret) .skip)))) (.cr [qC 35 .add 8 1,qM 8 35]))))))) (.seq (.cr [qY 2 true]) .ret)))⟩
def Zo:bk:=⟨4,67,[.tmp 8],(.seq (.cr [o 4 (.box (.t 0)),o 6 (.box (.t 2)),o 7 (.box (.t 3)),qY 8 false]) (.seq (.seq (.cr [qF 12 0 7,qL 13 12,qC 14 .lss 13 0,qM 15 14,qFF 16 15 0 7,qLF 17 15 16,qFF 18 15 0 6,qLF 19 15 18,qBF 20 15 .geq 17 19,qP 21 15 20,qM 22 21,qFF 23 22 1 7,qLF 24 22 23,qCF 25 22 .lss 24 0,qP 26 22 25,qM 27 26,qFF 28 27 1 7,qLF 29 27 28,qFF 30 27 0 6,qLF 31 27 30,qBF 32 27 .geq 29 31,qP 33 27 32]) (.cond (.t 33) (.seq (.cr [qY 8 false]) .ret) .skip)) (.seq (.cr [qG 35 19 7,qK 36 136 [35],qM 34 36,qE 37 0 34,qE 38 1 34,qM 9 37,qM 10 38]) (.seq (.seq (.cr [qM 39 10,qU 40 39]) (.cond (.t 40) (.seq (.cr [qY 8 false]) .ret) .skip)) (.seq (.cr [qF 41 1 4,qL 42 41,o 43 (.call 137 [.t 42] .share),qM 11 43]) (.seq (.cr [qM 44 11,qM 45 1,qM 46 9,qI 47 2 44 45,qF 48 1 47,oN (.store 1 (.t 48) (.t 46))]) (.seq (.seq (.cr [qF 49 2 7,qL 50 49,qC 51 .eql 50 0]) (.cond (.t 51) (.cr [qM 52 11,qM 53 1,qM 54 11,qM 55 1,qI 56 2 54 55,qF 57 0 56,qL 58 57,o 59 (.KC true [.t 58,(i64 1)]),qI 60 2 52 53,qF 61 0 60,oN (.store 1 (.t 61) (.t 59))]) .skip)) (.seq (.cr [qF 62 0 4,qL 63 62,qM 64 11,o 65 (.build [.aq,.aq] [(0,1,(.t 63)),(1,1,(.t 64))]),qK 66 60 [65],qM 8 66]) .ret))))))))⟩
def Zn:bk:=⟨2,63,[.tmp 4],(.seq (.cr [o 2 (.box (.t 0)),qY 4 false]) (.seq (.cr [o 5 (.mv (.c (.aq)))]) (.seq (.seq (.cr [qG 8 3 2,qM 9 1,qK 10 50 [8,9],qN 11 10,qZ 12 0]) (.block 0 (.loop (.seq (.cr [qB 13 .lss 12 11]) (.seq (.cond (.t 13) .skip (.exit 0)) (.seq (.block 1 (.seq (.cr [qI 14 1 10 12,qL 15 14,qM 7 15]) (.cr [qM 16 5,qF 17 1 2,qL 18 17,qM 19 7,qI 20 19 18 19,qG 21 19 20,⟨some 22,.de 1 [zi,zi,zi,zi,zi,zi,zi,zi,zi,.aq,zi,zi,zi,zi,.aq,zi,zi,zi,.aq] [(0,19,(.t 21))],none,true⟩,o 23 (.app 19 200 (.t 16) (.t 22)),qM 5 23]))) (.cr [qC 24 .add 12 1,qM 12 24]))))))) (.seq (.block 2 (.seq (.cr [qM 26 5,qN 27 26,qC 28 .eql 27 0,qM 25 28]) (.cond (.t 25) (.seq (.cr [qM 29 1,qC 30 .eql 29 1,qM 4 30]) .ret) (.seq (.cr [qM 32 1,qC 33 .eql 32 1,qM 31 33]) (.cond (.t 31) (.seq (.cr [qY 4 false]) .ret) (.seq (.cr [qM 35 5,o 36 (.jg 19 (.t 35) (i64 0)),qF 37 2 36,qL 38 37,qC 39 .eql 38 4,qM 34 39]) (.cond (.t 34) (.seq (.cr [qM 40 5,qK 41 138 [40],qM 4 41]) .ret) (.seq (.cr [qM 43 5,o 44 (.jg 19 (.t 43) (i64 0)),qF 45 2 44,qL 46 45,qC 47 .eql 46 2,qM 42 47]) (.cond (.t 42) (.seq (.d_ [qM 48 5,qN 49 48,qC 50 .eql 49 2,qM 51 50,qMT 52 51 5,oT 53 51 (.jg 19 (.t 52) (i64 0)),qGT 54 51 19 53,qMT 55 51 5,oT 56 51 (.jg 19 (.t 55) (i64 1)),qGT 57 51 19 56,qKT 58 51 139 [54,57],qQ 59 51 58,qM 4 59] [[],[0],[0,1],[0,1,2],(rg 4),(rg 5),(rg 6),(rg 4),[0,1,2,3,7],[0,1,2,3,7,8],(rg 10),(rg 11),(rg 12)] []) .ret) .skip))))))))) (.seq (.cr [qM 60 5,qN 61 60,qC 62 .eql 61 1,qM 4 62]) .ret)))))⟩
def Zm:bk:=⟨1,100,[.tmp 2],(.seq (.cr [o 1 (.box (.t 0)),qY 2 false]) (.seq (.cr [qF 14 0 1,qL 15 14,o 16 (.Cx 1 8 [zi] (.t 15)),qM 3 16]) (.seq (.seq (.cr [qF 17 1 1,qL 18 17,qN 19 18,qZ 20 0]) (.block 0 (.loop (.seq (.cr [qB 21 .lss 20 19]) (.seq (.cond (.t 21) .skip (.exit 0)) (.seq (.block 1 (.seq (.cr [qI 22 19 18 20,qG 23 19 22,o 5 (.alloc [zi,zi,zi,zi,zi,zi,zi,zi,zi,.aq,zi,zi,zi,zi,.aq,zi,zi,zi,.aq]),oN (.store 19 (.t 5) (.t 23))]) (.seq (.cr [qF 24 2 1,qL 25 24,qF 26 0 5,qL 27 26,qK 28 140 [25,27],qU 29 28]) (.cond (.t 29) (.cr [qM 30 3,qF 31 1 5,qL 32 31,qI 33 1 30 32,qL 34 33,qC 35 .add 34 1,qI 36 1 30 32,oN (.store 1 (.t 36) (.t 35))]) .skip)))) (.cr [qC 37 .add 20 1,qM 20 37]))))))) (.seq (.cr [o 6 (.mv (.c (.aq)))]) (.seq (.cr [qZ 7 0]) (.seq (.seq (.cr [qM 38 3,qN 39 38,qZ 40 0]) (.block 2 (.loop (.seq (.cr [qB 41 .lss 40 39]) (.seq (.cond (.t 41) .skip (.exit 2)) (.seq (.block 3 (.seq (.cr [qM 42 40,qI 43 1 38 40,qL 44 43,qM 8 42,qM 9 44]) (.seq (.cr [qM 45 9,qC 46 .eql 45 0]) (.cond (.t 46) (.cr [qM 47 6,qM 48 8,o 49 (.de 1 [zi] [(0,1,(.t 48))]),o 50 (.app 1 8 (.t 47) (.t 49)),qM 6 50]) .skip)))) (.cr [qC 51 .add 40 1,qM 40 51]))))))) (.seq (.block 4 (.loop (.seq (.seq (.cr [qM 52 6,qN 53 52,qC 54 .gtr 53 0]) (.cond (.t 54) .skip (.exit 4))) (.block 5 (.seq (.cr [qM 55 6,o 56 (.jg 1 (.t 55) (i64 0)),qL 57 56,qM 10 57]) (.seq (.cr [qM 58 6,o 59 (.zb 1 (.t 58) (some (i64 1)) none none),qM 6 59]) (.seq (.cr [qM 60 7,qC 61 .add 60 1,qM 7 61]) (.seq (.seq (.cr [qF 62 2 1,qL 63 62,qM 64 10,qK 65 140 [63,64]]) (.cond (.t 65) (.exit 5) .skip)) (.seq (.cr [qG 66 3 1,qM 67 10,qK 68 50 [66,67],qN 69 68,qZ 70 0]) (.block 6 (.loop (.seq (.cr [qB 71 .lss 70 69]) (.seq (.cond (.t 71) .skip (.exit 6)) (.seq (.block 7 (.seq (.cr [qI 72 1 68 70,qL 73 72,qM 12 73]) (.seq (.cr [qF 74 1 1,qL 75 74,qM 76 12,qI 77 19 75 76,qF 78 1 77,qL 79 78,qM 13 79]) (.seq (.cr [qM 80 3,qM 81 13,qI 82 1 80 81,qL 83 82,qC 84 .sub 83 1,qI 85 1 80 81,oN (.store 1 (.t 85) (.t 84))]) (.seq (.cr [qM 86 3,qM 87 13,qI 88 1 86 87,qL 89 88,qC 90 .eql 89 0]) (.cond (.t 90) (.cr [qM 91 6,qM 92 13,o 93 (.de 1 [zi] [(0,1,(.t 92))]),o 94 (.app 1 8 (.t 91) (.t 93)),qM 6 94]) .skip)))))) (.cr [qC 95 .add 70 1,qM 70 95]))))))))))))))) (.seq (.cr [qM 96 7,qF 97 0 1,qL 98 97,qB 99 .lss 96 98,qM 2 99]) .ret))))))))⟩
def XL:cq:=qs [o 1 (.box (.t 0)),qY 2 false] (qs [qZ 3 0] (.seq (qs [qF 8 5 1,qL 9 8,qN 10 9,qZ 11 0] (.block 0 (.loop [.ob 1 [],.pt 1 1 0,.tr 3,.tr 9,.tr 10,.tr 11] (qs [qB 12 .lss 11 10] (.seq (.cond (.t 12) .skip (.exit 0)) (.seq (.block 1 (qs [qM 13 11,qI 14 1 9 11,qL 15 14,qM 4 13,qM 5 15] (.seq (qs [qM 16 5,qN 17 16,qF 18 4 1,qL 19 18,qB 20 .neq 17 19] (.cond (.t 20) (qs [qY 2 false] .ret) .skip)) (qs [qM 21 5,qN 22 21,qZ 23 0] (.block 2 (.loop [.ob 1 [],.pt 1 1 0,.tr 3,.tr 4,.tr 9,.tr 10,.tr 11,.tr 21,.tr 22,.tr 23] (qs [qB 24 .lss 23 22] (.seq (.cond (.t 24) .skip (.exit 2)) (.seq (.block 3 (qs [qI 25 1 21 23,qL 26 25,qM 7 26] (.seq (qs [qM 27 7,qF 28 5 1,qL 29 28,qN 30 29,qC 31 .sub 30 1,o 32 (.call 81 [.t 27,(i64 (-1)),.t 31] .borrow),qU 33 32] (.cond (.t 33) (qs [qY 2 false] .ret) .skip)) (qs [qM 34 7,o 35 (.bin .neq (.t 34) (i64 (-1)))] (.cond (.t 35) (.cr [qM 36 3,qM 37 4,qM 38 7,o 39 (.KC true [.t 36,.t 37,.t 38]),qM 3 39]) .skip))))) (.cr [qC 40 .add 23 1,qM 23 40])))))))))) (.cr [qC 41 .add 11 1,qM 11 41]))))))) (qs [qF 42 5 1,qL 43 42,qN 44 43,qC 45 .eql 44 0,qM 46 45,qMF 47 46 3,qFF 48 46 5 1,qLF 49 46 48,qNF 50 46 49,qCF 51 46 .sub 50 1,qBF 52 46 .eql 47 51,qMF 53 46 52,qFT 54 53 5 1,qLT 55 53 54,qNT 56 53 55,qCT 57 53 .leq 56 8,qQF 58 46 53 57,qP 59 46 58,qM 2 59] .ret)))
def Vl:bk:=⟨1,60,[.tmp 2],XL.code⟩
def XK:cq:=qs [o 2 (.box (.t 0)),o 3 (.box (.t 1)),qY 4 false] (.seq (.d_ [qF 12 4 3,qG 13 4 12,qK 14 141 [13],qF 15 8 3,qG 16 9 15,qK 17 142 [16],qM 5 14,qM 6 17] [[],[0],[0,1],[],[3],(rg 5),(rg 6),(rg 7)] []) (.seq (.d_ [qF 18 17 3,qL 19 18,qN 20 19,qC 21 .eql 20 0,qF 22 19 3,qL 23 22,qN 24 23,qC 25 .eql 24 0,qM 7 21,qM 8 25] [[],[0],[0,1],[0,1,2],[],[4],[4,5],[4,5,6],(rg 4),(rg 9)] []) (.seq (.d_ [qF 26 18 3,qL 27 26,qN 28 27,qC 29 .eql 28 0,qF 30 1 3,qL 31 30,qC 32 .eql 31 0,qM 9 29,qM 10 32] [[],[0],[0,1],[0,1,2],[],[4],[4,5],(rg 4),(rg 8)] []) (qs [qF 33 2 3,qL 34 33,qC 35 .eql 34 0,qM 36 35,qFT 37 36 3 3,qLT 38 36 37,qCT 39 36 .eql 38 0,qQ 40 36 39,qM 11 40] (.seq (qs [qF 41 0 3,qL 42 41] (.block 0 (qs [qC 44 .eql 42 1,qM 43 44] (.cond (.t 43) (qs [qM 45 6,qM 46 45,qMT 47 46 7,qQ 48 46 47,qM 49 48,qMT 50 49 9,qQ 51 49 50,qM 52 51,qMT 53 52 8,qQ 54 52 53,qM 55 54,qMT 56 55 11,qQ 57 55 56,qM 58 57,qFT 59 58 1 3,qLT 60 58 59,qFT 61 58 3 2,qLT 62 58 61,qCT 63 58 .sub 62 1,oT 64 58 (.call 81 [.t 60,(i64 0),.t 63] .borrow),qQ 65 58 64,qM 66 65,qFT 67 66 4 3,qGT 68 66 4 67,qFT 69 66 3 2,qLT 70 66 69,qKT 71 66 143 [68,70],qQ 72 66 71,qM 4 72] .ret) (qs [qC 74 .eql 42 7,qM 73 74] (.cond (.t 73) (qs [qM 75 5,qM 76 75,qMT 77 76 6,qQ 78 76 77,qM 79 78,qMT 80 79 7,qQ 81 79 80,qM 82 81,qMT 83 82 9,qQ 84 82 83,qM 85 84,qMT 86 85 8,qQ 87 85 86,qM 88 87,qMT 89 88 11,qQ 90 88 89,qM 91 90,qFT 92 91 1 3,qLT 93 91 92,qFT 94 91 3 2,qLT 95 91 94,qCT 96 91 .sub 95 1,oT 97 91 (.call 81 [.t 93,(i64 0),.t 96] .borrow),qQ 98 91 97,qM 4 98] .ret) (qs [qC 100 .eql 42 6,qM 99 100] (.cond (.t 99) (qs [qM 101 5,qM 102 101,qMT 103 102 7,qQ 104 102 103,qM 105 104,qMT 106 105 9,qQ 107 105 106,qM 108 107,qMT 109 108 8,qQ 110 108 109,qM 111 110,qMT 112 111 11,qQ 113 111 112,qM 114 113,qMT 115 114 10,qQ 116 114 115,qM 117 116,qFT 118 117 8 3,qGT 119 117 9 118,qFT 120 117 3 2,qLT 121 117 120,qKT 122 117 144 [119,121],qQ 123 117 122,qM 4 123] .ret) (qs [qC 125 .eql 42 3,qM 124 125] (.cond (.t 124) (qs [qM 126 5,qM 127 126,qMT 128 127 9,qQ 129 127 128,qM 130 129,qMT 131 130 8,qQ 132 130 131,qM 133 132,qMT 134 133 11,qQ 135 133 134,qM 136 135,qMT 137 136 10,qQ 138 136 137,qM 139 138,qFT 140 139 8 3,qGT 141 139 9 140,qFT 142 139 3 2,qLT 143 139 142,qKT 144 139 144 [141,143],qQ 145 139 144,qM 146 145,qGT 147 146 4 2,qFT 148 146 17 3,qLT 149 146 148,qKT 150 146 83 [147,149],qQ 151 146 150,qM 4 151] .ret) (qs [qC 153 .eql 42 2,qM 152 153] (.cond (.t 152) (qs [qM 154 5,qM 155 154,qMT 156 155 8,qQ 157 155 156,qM 158 157,qMT 159 158 11,qQ 160 158 159,qM 161 160,qMT 162 161 10,qQ 163 161 162,qM 164 163,qFT 165 164 8 3,qGT 166 164 9 165,qFT 167 164 3 2,qLT 168 164 167,qKT 169 164 144 [166,168],qQ 170 164 169,qM 171 170,qGT 172 171 4 2,qFT 173 171 17 3,qLT 174 171 173,qKT 175 171 83 [172,174],qQ 176 171 175,qM 177 176,qGT 178 177 4 2,qFT 179 177 18 3,qLT 180 177 179,qKT 181 177 83 [178,180],qQ 182 177 181,qM 4 182] .ret) (qs [qC 184 .eql 42 4,qM 183 184] (.cond (.t 183) (qs [qM 185 6,qM 186 185,qMT 187 186 7,qQ 188 186 187,qM 189 188,qMT 190 189 9,qQ 191 189 190,qM 192 191,qMT 193 192 8,qQ 194 192 193,qM 195 194,qMT 196 195 10,qQ 197 195 196,qM 198 197,qGT 199 198 4 2,qFT 200 198 2 3,qLT 201 198 200,oT 202 198 (.call 145 [.t 199,.t 201,(.c (.func 146))] .borrow),qQ 203 198 202,qM 204 203,qGT 205 204 4 2,qFT 206 204 2 3,qLT 207 204 206,qFT 208 204 3 3,qLT 209 204 208,qKT 210 204 147 [205,207,209],qQ 211 204 210,qM 212 211,qFT 213 212 4 3,qGT 214 212 4 213,qFT 215 212 3 2,qLT 216 212 215,qKT 217 212 143 [214,216],qQ 218 212 217,qM 4 218] .ret) (qs [qC 220 .eql 42 5,qM 219 220] (.cond (.t 219) (qs [qM 221 5,qM 222 221,qMT 223 222 6,qQ 224 222 223,qM 225 224,qMT 226 225 7,qQ 227 225 226,qM 228 227,qMT 229 228 9,qQ 230 228 229,qM 231 230,qMT 232 231 10,qQ 233 231 232,qM 234 233,qFT 235 234 3 3,qLT 236 234 235,qCT 237 234 .eql 236 0,qQ 238 234 237,qM 239 238,qGT 240 239 4 2,qFT 241 239 2 3,qLT 242 239 241,oT 243 239 (.call 145 [.t 240,.t 242,(.c (.func 148))] .borrow),qQ 244 239 243,qM 245 244,qGT 246 245 4 2,qFT 247 245 2 3,qLT 248 245 247,qFT 249 245 19 3,qLT 250 245 249,qKT 251 245 149 [246,248,250],qQ 252 245 251,qM 4 252] .ret) .skip)))))))))))))))) (qs [qY 4 false] .ret))))))
def Vk:bk:=⟨2,253,[.tmp 4],XK.code⟩
def Ox:cq:=qs [o 1 (.box (.t 0)),o 2 (.alloc [zi,zi,zi,.aq])] (qs [qF 6 3 1,qL 7 6,qM 3 7] (qs [qF 8 3 1,oN (.store 1 (.t 8) (.c (.aq)))] (.seq (qs [qM 9 3,qN 10 9,qZ 11 0] (.block 0 (.loop [.ob 1 [(3,4)],.ob 2 [(3,4)],.pt 1 1 0,.pt 2 2 0,.tr 9,.tr 10,.tr 11] (qs [qB 12 .lss 11 10] (.seq (.cond (.t 12) .skip (.exit 0)) (.seq (.block 1 (qs [qI 13 4 9 11,qG 14 4 13,o 5 (.alloc [zi,zi,zi,.aq]),oN (.store 4 (.t 5) (.t 14))] (.d_ [qF 15 3 1,qL 16 15,qG 17 4 5,qK 18 106 [17],⟨some 19,.de 1 [zi,zi,zi,.aq] [(0,4,(.t 18))],none,true⟩,o 20 (.app 4 48 (.t 16) (.t 19)),qF 21 3 1,oN (.store 1 (.t 21) (.t 20))] [[],[0],[],[2],[2,3],(rg 5),(rg 6),(rg 7)] [(1,4)]))) (.cr [qC 22 .add 11 1,qM 11 22]))))))) (qs [qG 23 4 1,oN (.store 4 (.t 2) (.t 23))] .ret))))
def Vj:bk:=⟨1,24,[.cell 2 (some 4)],Ox.code⟩
def XJ:cq:=qs [o 1 (.box (.t 0)),o 2 (.alloc [zi,zi,zi,zi,.aq,zi,zi,zi,.aq])] (.seq (.d_ [qF 3 0 1,qL 4 3,qF 5 1 1,qG 6 4 5,qK 7 106 [6],qF 8 5 1,qG 9 4 8,qK 10 106 [9],o 11 (.build [zi,zi,zi,zi,.aq,zi,zi,zi,.aq] [(0,1,(.t 4)),(1,4,(.t 7)),(5,4,(.t 10))]),oN (.store 9 (.t 2) (.t 11))] [[],[0],[],[2],[2,3],[],[5],[2,3,4,5,6],(rg 8),(rg 9)] []) .ret)
def Vi:bk:=⟨1,12,[.cell 2 (some 9)],XJ.code⟩
def XI:cq:=qs [o 6 (.box (.t 1))] (qs [qM 11 0,o 12 (.call 85 [.t 11] .share),qM 10 12] (qs [qM 13 0,qM 14 3,qM 15 10,qG 16 9 6,o 17 (.build [zi,zi,zi,zi,zi,zi,zi,zi,zi,.aq,zi,zi,zi,zi,.aq,zi,zi,zi,.aq] [(0,1,(.t 14)),(1,1,(.t 15)),(2,1,(i64 2)),(10,9,(.t 16))]),o 18 (.call 84 [.t 13,.t 17] .share)] (.cr [qM 19 0,qM 20 2,qM 21 10,qM 22 4,o 23 (.call 62 [.t 19,.t 20,.t 21,.t 22] .share)])))
def Vh:bk:=⟨5,24,[],XI.code⟩
def XH:cq:=qs [o 1 (.box (.t 0)),o 2 (.alloc [zi,zi,zi,zi,.aq,zi,zi,zi,.aq])] (qs [qG 4 9 1,qK 5 107 [4],o 3 (.alloc [zi,zi,zi,zi,.aq,zi,zi,zi,.aq]),oN (.store 9 (.t 3) (.t 5))] (qs [qF 6 0 1,qL 7 6,qK 8 41 [7],qF 9 0 3,oN (.store 1 (.t 9) (.t 8))] (qs [qG 10 9 3,oN (.store 9 (.t 2) (.t 10))] .ret)))
def Vg:bk:=⟨1,11,[.cell 2 (some 9)],XH.code⟩
def XG:cq:=qs [o 5 (.box (.t 1))] (qs [qM 9 0,qM 10 0,qX 11 10,qF 12 2 11,qL 13 12,qM 14 2,o 15 (.de 1 [zi] [(0,1,(.t 14))]),o 16 (.app 1 8 (.t 13) (.t 15)),qX 17 9,qF 18 2 17,oN (.store 1 (.t 18) (.t 16))] (qs [qM 19 0,o 20 (.call 85 [.t 19] .share),qM 8 20] (qs [qM 21 0,qM 22 2,qM 23 8,qF 24 8 5,qG 25 9 24,qK 26 107 [25],o 27 (.build [zi,zi,zi,zi,zi,zi,zi,zi,zi,.aq,zi,zi,zi,zi,.aq,zi,zi,zi,.aq] [(0,1,(.t 22)),(1,1,(.t 23)),(2,1,(i64 2)),(10,9,(.t 26))]),o 28 (.call 84 [.t 21,.t 27] .share)] (qs [qM 29 0,qM 30 2,qM 31 3,qF 32 8 5,qG 33 9 32,qK 34 109 [33],o 35 (.build [zi,zi,zi,zi,zi,zi,zi,zi,zi,.aq,zi,zi,zi,zi,.aq,zi,zi,zi,.aq] [(0,1,(.t 30)),(1,1,(.t 31)),(2,1,(i64 2)),(10,9,(.t 34))]),o 36 (.call 84 [.t 29,.t 35] .share)] (.cr [qM 37 0,qF 38 17 5,qL 39 38,qM 40 8,qM 41 2,o 42 (.call 62 [.t 37,.t 39,.t 40,.t 41] .share)])))))
def Vf:bk:=⟨4,43,[],XG.code⟩
def XF:cq:=qs [o 5 (.box (.t 1))] (qs [qF 11 19 5,qL 12 11,qN 13 12,qZ 14 0] (.block 0 (.loop [.ob 0 [(1,19),(2,1)],.ob 5 [],.pt 0 0 0,.tr 2,.tr 3,.pt 5 5 0,.tr 12,.tr 13,.tr 14] (qs [qB 15 .lss 14 13] (.seq (.cond (.t 15) .skip (.exit 0)) (.seq (.block 1 (qs [qI 16 3 12 14,qG 17 3 16,o 9 (.alloc [zi,zi,.aq]),oN (.store 3 (.t 9) (.t 17))] (qs [qM 18 0,o 19 (.call 85 [.t 18] .share),qM 10 19] (qs [qM 20 0,qM 21 2,qM 22 10,qF 23 2 5,qL 24 23,qF 25 0 9,qL 26 25,qF 27 1 9,qL 28 27,o 29 (.build [zi,zi,zi,zi,zi,zi,zi,zi,zi,.aq,zi,zi,zi,zi,.aq,zi,zi,zi,.aq] [(0,1,(.t 21)),(1,1,(.t 22)),(2,1,(i64 4)),(4,1,(.t 24)),(5,1,(.t 26)),(3,1,(.t 28))]),o 30 (.call 84 [.t 20,.t 29] .share)] (.cr [qM 31 0,qF 32 2 9,qL 33 32,qM 34 10,qM 35 3,o 36 (.call 62 [.t 31,.t 33,.t 34,.t 35] .share)]))))) (.cr [qC 37 .add 14 1,qM 14 37])))))))
def Ve:bk:=⟨4,38,[],XF.code⟩
def XE:cq:=qs [qM 8 1,qC 9 .add 8 1,qM 6 9] (.block 0 (.loop [.sl 0 1,.tr 1,.tr 2,.tr 6] (.seq (qs [qM 10 6,qM 11 2,qB 12 .lss 10 11] (.cond (.t 12) .skip (.exit 0))) (.seq (.block 1 (qs [qM 15 6,qM 7 15] (.block 2 (.loop [.sl 0 1,.tr 1,.tr 2,.tr 6,.tr 7] (.seq (.seq (.d_ [qM 16 7,qM 17 1,qB 18 .gtr 16 17,qM 19 18,qMT 20 19 0,qMT 21 19 7,qIT 22 19 1 20 21,qLT 23 19 22,qMT 24 19 0,qMT 25 19 7,qCT 26 19 .sub 25 1,qIT 27 19 1 24 26,qLT 28 19 27,qKT 29 19 118 [23,28],qQ 30 19 29] [[],[],[0,1],[0,1,2],(rg 4),(rg 4),(rg 6),(rg 7),(rg 4),(rg 4),[0,1,2,3,9],[0,1,2,3,8,9,10],[0,1,2,3,8,9,10,11],(rg 13),(rg 14)] []) (.cond (.t 30) .skip (.exit 2))) (.seq (.block 3 (.d_ [qM 33 0,qM 34 7,qM 35 0,qM 36 7,qC 37 .sub 36 1,qM 38 0,qM 39 7,qC 40 .sub 39 1,qI 41 1 38 40,qL 42 41,qM 43 0,qM 44 7,qI 45 1 43 44,qL 46 45,qI 47 1 33 34,oN (.store 1 (.t 47) (.t 42)),qI 48 1 35 37,oN (.store 1 (.t 48) (.t 46))] [[],[],[],[],[3],[],[],[6],[5,6,7],[5,6,7,8],[],[],[10,11],[10,11,12],[0,1,5,6,7,8,9,10,11,12,13],[0,1,5,6,7,8,9,10,11,12,13,14],(rg 16),(rg 17)] [])) (.cr [qM 31 7,qC 32 .sub 31 1,qM 7 32]))))))) (.cr [qM 13 6,qC 14 .add 13 1,qM 6 14])))))
def Vd:bk:=⟨3,49,[],XE.code⟩
def XD:cq:=qs [qM 11 1,qM 6 11] (qs [qZ 7 0] (qs [qM 12 2,qM 13 1,qB 14 .sub 12 13,qM 8 14] (.seq (qs [qM 15 8,qC 16 .sub 15 1,qC 17 .quo 16 2,qM 9 17] (.block 0 (.loop [.sl 0 1,.tr 6,.tr 7,.tr 8,.tr 9] (.seq (qs [qM 18 9,qC 19 .geq 18 0] (.cond (.t 19) .skip (.exit 0))) (.seq (.block 1 (.cr [qM 22 0,qM 23 9,qM 24 8,qM 25 6,o 26 (.call 150 [.t 22,.t 23,.t 24,.t 25] .share)])) (.cr [qM 20 9,qC 21 .sub 20 1,qM 9 21])))))) (qs [qM 27 8,qC 28 .sub 27 1,qM 10 28] (.block 2 (.loop [.sl 0 1,.tr 6,.tr 7,.tr 10] (.seq (qs [qM 29 10,qC 30 .geq 29 0] (.cond (.t 30) .skip (.exit 2))) (.seq (.block 3 (.seq (.d_ [qM 33 0,qM 34 6,qM 35 0,qM 36 6,qM 37 10,qB 38 .add 36 37,qM 39 0,qM 40 6,qM 41 10,qB 42 .add 40 41,qI 43 1 39 42,qL 44 43,qM 45 0,qM 46 6,qI 47 1 45 46,qL 48 47,qI 49 1 33 34,oN (.store 1 (.t 49) (.t 44)),qI 50 1 35 38,oN (.store 1 (.t 50) (.t 48))] [[],[],[],[],[],[3,4],[],[],[],[7,8],[6,7,8,9],[6,7,8,9,10],[],[],[12,13],[12,13,14],[0,1,6,7,8,9,10,11,12,13,14,15],[0,1,6,7,8,9,10,11,12,13,14,15,16],(rg 18),(rg 19)] []) (.cr [qM 51 0,qM 52 7,qM 53 10,qM 54 6,o 55 (.call 150 [.t 51,.t 52,.t 53,.t 54] .share)]))) (.cr [qM 31 10,qC 32 .sub 31 1,qM 10 32])))))))))
def Vb:bk:=⟨3,56,[],XD.code⟩
def XC:cq:=qs [qM 11 2,qM 12 1,qB 13 .sub 11 12,qM 6 13] (qs [qM 14 6,qC 15 .geq 14 8] (.cond (.t 15) (qs [qM 16 6,o 17 (.conv .u64 (.t 16)),o 7 (.alloc [.int .u64 0]),oN (.store 1 (.t 7) (.t 17))] (qs [qM 18 6,qK 19 151 [18],qM 8 19] (qs [qM 20 1,qM 21 6,qC 22 .quo 21 4,qC 23 .mul 22 2,qB 24 .add 20 23,qC 25 .sub 24 1,qM 9 25] (.block 0 (.loop [.ob 7 [],.sl 0 1,.tr 1,.tr 6,.pt 7 7 0,.tr 8,.tr 9] (.seq (qs [qM 26 9,qM 27 1,qM 28 6,qC 29 .quo 28 4,qC 30 .mul 29 2,qB 31 .add 27 30,qC 32 .add 31 1,qB 33 .leq 26 32] (.cond (.t 33) .skip (.exit 0))) (.seq (.block 1 (qs [o 36 (.call 152 [.t 7] .share),qM 37 8,o 38 (.bin .sub (.t 37) (.c (.int .u64 1))),qB 39 .and 36 38,o 40 (.conv .i64 (.t 39)),qM 10 40] (.seq (qs [qM 41 10,qM 42 6,qB 43 .geq 41 42] (.cond (.t 43) (.cr [qM 44 10,qM 45 6,qB 46 .sub 44 45,qM 10 46]) .skip)) (.d_ [qM 47 0,qM 48 9,qM 49 0,qM 50 1,qM 51 10,qB 52 .add 50 51,qM 53 0,qM 54 1,qM 55 10,qB 56 .add 54 55,qI 57 1 53 56,qL 58 57,qM 59 0,qM 60 9,qI 61 1 59 60,qL 62 61,qI 63 1 47 48,oN (.store 1 (.t 63) (.t 58)),qI 64 1 49 52,oN (.store 1 (.t 64) (.t 62))] [[],[],[],[],[],[3,4],[],[],[],[7,8],[6,7,8,9],[6,7,8,9,10],[],[],[12,13],[12,13,14],[0,1,6,7,8,9,10,11,12,13,14,15],[0,1,6,7,8,9,10,11,12,13,14,15,16],(rg 18),(rg 19)] [])))) (.cr [qM 34 9,qC 35 .add 34 1,qM 9 35])))))))) .skip))
def Va:bk:=⟨3,65,[],XC.code⟩
def XB:cq:=qs [qZ 6 0,qZ 7 0] (qs [qM 13 2,qM 14 1,qB 15 .sub 13 14,qM 8 15] (qs [o 9 (.alloc [zi])] (qs [qM 16 1,qM 17 8,qC 18 .quo 17 4,qC 19 .mul 18 1,qB 20 .add 16 19,qM 10 20] (qs [qM 21 1,qM 22 8,qC 23 .quo 22 4,qC 24 .mul 23 2,qB 25 .add 21 24,qM 11 25] (qs [qM 26 1,qM 27 8,qC 28 .quo 27 4,qC 29 .mul 28 3,qB 30 .add 26 29,qM 12 30] (.seq (qs [qM 31 8,qC 32 .geq 31 8] (.cond (.t 32) (.seq (qs [qM 33 8,qC 34 .geq 33 50] (.cond (.t 34) (qs [qM 35 0,qM 36 10,o 37 (.call 153 [.t 35,.t 36,.t 9] .share),qM 10 37] (qs [qM 38 0,qM 39 11,o 40 (.call 153 [.t 38,.t 39,.t 9] .share),qM 11 40] (.cr [qM 41 0,qM 42 12,o 43 (.call 153 [.t 41,.t 42,.t 9] .share),qM 12 43]))) .skip)) (.cr [qM 44 0,qM 45 10,qM 46 11,qM 47 12,o 48 (.call 154 [.t 44,.t 45,.t 46,.t 47,.t 9] .share),qM 11 48])) .skip)) (qs [qL 49 9] (.block 0 (qs [qC 52 .eql 49 0,qM 51 52] (.cond (.t 51) (qs [qM 53 11,qM 6 53,qZ 7 1] .ret) (qs [qC 55 .eql 49 12,qM 54 55] (.cond (.t 54) (qs [qM 56 11,qM 6 56,qZ 7 2] .ret) (qs [qM 50 11,qM 6 50,qZ 7 0] .ret)))))))))))))
def U_:bk:=⟨3,57,[.tmp 6,.tmp 7],XB.code⟩
def XA:cq:=qs [qM 8 1,qM 6 8] (qs [qM 9 2,qC 10 .sub 9 1,qM 7 10] (.block 0 (.loop [.sl 0 1,.tr 6,.tr 7] (.seq (qs [qM 11 6,qM 12 7,qB 13 .lss 11 12] (.cond (.t 13) .skip (.exit 0))) (.block 1 (.seq (.d_ [qM 14 0,qM 15 6,qM 16 0,qM 17 7,qM 18 0,qM 19 7,qI 20 1 18 19,qL 21 20,qM 22 0,qM 23 6,qI 24 1 22 23,qL 25 24,qI 26 1 14 15,oN (.store 1 (.t 26) (.t 21)),qI 27 1 16 17,oN (.store 1 (.t 27) (.t 25))] [[],[],[],[],[],[],[4,5],[4,5,6],[],[],[8,9],[8,9,10],[0,1,4,5,6,7,8,9,10,11],[0,1,4,5,6,7,8,9,10,11,12],(rg 14),(rg 15)] []) (qs [qM 28 6,qC 29 .add 28 1,qM 6 29] (.cr [qM 30 7,qC 31 .sub 30 1,qM 7 31]))))))))
def U9:bk:=⟨3,32,[],XA.code⟩
def Xz:cq:=qs [qY 6 false] (qs [qM 11 1,qC 12 .add 11 1,qM 7 12] (.seq (qs [qZ 8 0] (.block 0 (.loop jJ32 (.seq (qs [qM 13 8,qC 14 .lss 13 5] (.cond (.t 14) .skip (.exit 0))) (.seq (.block 1 (.seq (.block 2 (.loop jJ32 (.seq (.seq (.d_ [qM 17 7,qM 18 2,qB 19 .lss 17 18,qM 20 19,qMT 21 20 0,qMT 22 20 7,qIT 23 20 1 21 22,qLT 24 20 23,qMT 25 20 0,qMT 26 20 7,qCT 27 20 .sub 26 1,qIT 28 20 1 25 27,qLT 29 20 28,qKT 30 20 118 [24,29],qUT 31 20 30,qQ 32 20 31] [[],[],[0,1],[0,1,2],(rg 4),(rg 4),(rg 6),(rg 7),(rg 4),(rg 4),[0,1,2,3,9],[0,1,2,3,8,9,10],[0,1,2,3,8,9,10,11],(rg 13),(rg 14),(rg 15)] []) (.cond (.t 32) .skip (.exit 2))) (.block 3 (.cr [qM 33 7,qC 34 .add 33 1,qM 7 34]))))) (.seq (qs [qM 35 7,qM 36 2,qB 37 .eql 35 36] (.cond (.t 37) (qs [qY 6 true] .ret) .skip)) (.seq (qs [qM 38 2,qM 39 1,qB 40 .sub 38 39,qC 41 .lss 40 50] (.cond (.t 41) (qs [qY 6 false] .ret) .skip)) (.seq (.d_ [qM 42 0,qM 43 7,qM 44 0,qM 45 7,qC 46 .sub 45 1,qM 47 0,qM 48 7,qC 49 .sub 48 1,qI 50 1 47 49,qL 51 50,qM 52 0,qM 53 7,qI 54 1 52 53,qL 55 54,qI 56 1 42 43,oN (.store 1 (.t 56) (.t 51)),qI 57 1 44 46,oN (.store 1 (.t 57) (.t 55))] [[],[],[],[],[3],[],[],[6],[5,6,7],[5,6,7,8],[],[],[10,11],[10,11,12],[0,1,5,6,7,8,9,10,11,12,13],[0,1,5,6,7,8,9,10,11,12,13,14],(rg 16),(rg 17)] []) (.seq (qs [qM 58 7,qM 59 1,qB 60 .sub 58 59,qC 61 .geq 60 2] (.cond (.t 61) (qs [qM 62 7,qC 63 .sub 62 1,qM 9 63] (.block 4 (.loop [.sl 0 1,.tr 1,.tr 2,.tr 7,.tr 8,.tr 9] (.seq (qs [qM 64 9,qC 65 .geq 64 1] (.cond (.t 65) .skip (.exit 4))) (.seq (.block 5 (.seq (.seq (.d_ [qM 68 0,qM 69 9,qI 70 1 68 69,qL 71 70,qM 72 0,qM 73 9,qC 74 .sub 73 1,qI 75 1 72 74,qL 76 75,qK 77 118 [71,76],qU 78 77] [[],[],[0,1],[0,1,2],[],[],[5],[4,5,6],[4,5,6,7],(rg 9),(rg 10)] []) (.cond (.t 78) (.exit 4) .skip)) (.d_ [qM 79 0,qM 80 9,qM 81 0,qM 82 9,qC 83 .sub 82 1,qM 84 0,qM 85 9,qC 86 .sub 85 1,qI 87 1 84 86,qL 88 87,qM 89 0,qM 90 9,qI 91 1 89 90,qL 92 91,qI 93 1 79 80,oN (.store 1 (.t 93) (.t 88)),qI 94 1 81 83,oN (.store 1 (.t 94) (.t 92))] [[],[],[],[],[3],[],[],[6],[5,6,7],[5,6,7,8],[],[],[10,11],[10,11,12],[0,1,5,6,7,8,9,10,11,12,13],[0,1,5,6,7,8,9,10,11,12,13,14],(rg 16),(rg 17)] []))) (.cr [qM 66 9,qC 67 .sub 66 1,qM 9 67])))))) .skip)) (qs [qM 95 2,qM 96 7,qB 97 .sub 95 96,qC 98 .geq 97 2] (.cond (.t 98) (qs [qM 99 7,qC 100 .add 99 1,qM 10 100] (.block 6 (.loop [.sl 0 1,.tr 1,.tr 2,.tr 7,.tr 8,.tr 10] (.seq (qs [qM 101 10,qM 102 2,qB 103 .lss 101 102] (.cond (.t 103) .skip (.exit 6))) (.seq (.block 7 (.seq (.seq (.d_ [qM 106 0,qM 107 10,qI 108 1 106 107,qL 109 108,qM 110 0,qM 111 10,qC 112 .sub 111 1,qI 113 1 110 112,qL 114 113,qK 115 118 [109,114],qU 116 115] [[],[],[0,1],[0,1,2],[],[],[5],[4,5,6],[4,5,6,7],(rg 9),(rg 10)] []) (.cond (.t 116) (.exit 6) .skip)) (.d_ [qM 117 0,qM 118 10,qM 119 0,qM 120 10,qC 121 .sub 120 1,qM 122 0,qM 123 10,qC 124 .sub 123 1,qI 125 1 122 124,qL 126 125,qM 127 0,qM 128 10,qI 129 1 127 128,qL 130 129,qI 131 1 117 118,oN (.store 1 (.t 131) (.t 126)),qI 132 1 119 121,oN (.store 1 (.t 132) (.t 130))] [[],[],[],[],[3],[],[],[6],[5,6,7],[5,6,7,8],[],[],[10,11],[10,11,12],[0,1,5,6,7,8,9,10,11,12,13],[0,1,5,6,7,8,9,10,11,12,13,14],(rg 16),(rg 17)] []))) (.cr [qM 104 10,qC 105 .add 104 1,qM 10 105])))))) .skip)))))))) (.cr [qM 15 8,qC 16 .add 15 1,qM 8 16])))))) (qs [qY 6 false] .ret)))
def U8:bk:=⟨3,133,[.tmp 6],Xz.code⟩
def Xy:cq:=qs [qY 4 false] (qs [qM 5 0,qK 6 155 [5],qM 7 6,qMT 8 7 1,qKT 9 7 155 [8],qUT 10 7 9,qQ 11 7 10,qM 12 11,qMF 13 12 0,qMF 14 12 1,qBF 15 12 .lss 13 14,qP 16 12 15,qM 4 16] .ret)
def U7:bk:=⟨2,17,[.tmp 4],Xy.code⟩
def Xx:cq:=qs [qZ 8 0] (.seq (.d_ [qM 11 0,qM 12 1,qM 13 0,qM 14 3,qM 15 0,qM 16 3,qI 17 1 15 16,qL 18 17,qM 19 0,qM 20 1,qI 21 1 19 20,qL 22 21,qI 23 1 11 12,oN (.store 1 (.t 23) (.t 18)),qI 24 1 13 14,oN (.store 1 (.t 24) (.t 22))] [[],[],[],[],[],[],[4,5],[4,5,6],[],[],[8,9],[8,9,10],[0,1,4,5,6,7,8,9,10,11],[0,1,4,5,6,7,8,9,10,11,12],(rg 14),(rg 15)] []) (qs [qM 25 1,qC 26 .add 25 1,qM 27 2,qC 28 .sub 27 1,qM 9 26,qM 10 28] (.seq (.block 0 (.loop jJ23 (.block 1 (.seq (.block 2 (.loop jJ23 (.seq (.seq (.d_ [qM 29 9,qM 30 10,qB 31 .leq 29 30,qM 32 31,qMT 33 32 0,qMT 34 32 1,qIT 35 32 1 33 34,qLT 36 32 35,qMT 37 32 0,qMT 38 32 9,qIT 39 32 1 37 38,qLT 40 32 39,qKT 41 32 118 [36,40],qUT 42 32 41,qQ 43 32 42] [[],[],[0,1],[0,1,2],(rg 4),(rg 4),(rg 6),(rg 7),(rg 4),(rg 4),[0,1,2,3,8,9],[0,1,2,3,8,9,10],(rg 12),(rg 13),(rg 14)] []) (.cond (.t 43) .skip (.exit 2))) (.block 3 (.cr [qM 44 9,qC 45 .add 44 1,qM 9 45]))))) (.seq (.block 4 (.loop jJ23 (.seq (.seq (.d_ [qM 46 9,qM 47 10,qB 48 .leq 46 47,qM 49 48,qMT 50 49 0,qMT 51 49 1,qIT 52 49 1 50 51,qLT 53 49 52,qMT 54 49 0,qMT 55 49 10,qIT 56 49 1 54 55,qLT 57 49 56,qKT 58 49 118 [53,57],qQ 59 49 58] [[],[],[0,1],[0,1,2],(rg 4),(rg 4),(rg 6),(rg 7),(rg 4),(rg 4),[0,1,2,3,8,9],[0,1,2,3,8,9,10],(rg 12),(rg 13)] []) (.cond (.t 59) .skip (.exit 4))) (.block 5 (.cr [qM 60 10,qC 61 .sub 60 1,qM 10 61]))))) (.seq (qs [qM 62 9,qM 63 10,qB 64 .gtr 62 63] (.cond (.t 64) (.exit 0) .skip)) (.seq (.d_ [qM 65 0,qM 66 9,qM 67 0,qM 68 10,qM 69 0,qM 70 10,qI 71 1 69 70,qL 72 71,qM 73 0,qM 74 9,qI 75 1 73 74,qL 76 75,qI 77 1 65 66,oN (.store 1 (.t 77) (.t 72)),qI 78 1 67 68,oN (.store 1 (.t 78) (.t 76))] [[],[],[],[],[],[],[4,5],[4,5,6],[],[],[8,9],[8,9,10],[0,1,4,5,6,7,8,9,10,11],[0,1,4,5,6,7,8,9,10,11,12],(rg 14),(rg 15)] []) (qs [qM 79 9,qC 80 .add 79 1,qM 9 80] (.cr [qM 81 10,qC 82 .sub 81 1,qM 10 82]))))))))) (qs [qM 83 9,qM 8 83] .ret))))
def U6:bk:=⟨4,84,[.tmp 8],Xx.code⟩
def Xw:cq:=qs [qZ 8 0,qY 9 false] (.seq (.d_ [qM 12 0,qM 13 1,qM 14 0,qM 15 3,qM 16 0,qM 17 3,qI 18 1 16 17,qL 19 18,qM 20 0,qM 21 1,qI 22 1 20 21,qL 23 22,qI 24 1 12 13,oN (.store 1 (.t 24) (.t 19)),qI 25 1 14 15,oN (.store 1 (.t 25) (.t 23))] [[],[],[],[],[],[],[4,5],[4,5,6],[],[],[8,9],[8,9,10],[0,1,4,5,6,7,8,9,10,11],[0,1,4,5,6,7,8,9,10,11,12],(rg 14),(rg 15)] []) (qs [qM 26 1,qC 27 .add 26 1,qM 28 2,qC 29 .sub 28 1,qM 10 27,qM 11 29] (.seq (.block 0 (.loop jJ13 (.seq (.seq (.d_ [qM 30 10,qM 31 11,qB 32 .leq 30 31,qM 33 32,qMT 34 33 0,qMT 35 33 10,qIT 36 33 1 34 35,qLT 37 33 36,qMT 38 33 0,qMT 39 33 1,qIT 40 33 1 38 39,qLT 41 33 40,qKT 42 33 118 [37,41],qQ 43 33 42] [[],[],[0,1],[0,1,2],(rg 4),(rg 4),(rg 6),(rg 7),(rg 4),(rg 4),[0,1,2,3,8,9],[0,1,2,3,8,9,10],(rg 12),(rg 13)] []) (.cond (.t 43) .skip (.exit 0))) (.block 1 (.cr [qM 44 10,qC 45 .add 44 1,qM 10 45]))))) (.seq (.block 2 (.loop jJ13 (.seq (.seq (.d_ [qM 46 10,qM 47 11,qB 48 .leq 46 47,qM 49 48,qMT 50 49 0,qMT 51 49 11,qIT 52 49 1 50 51,qLT 53 49 52,qMT 54 49 0,qMT 55 49 1,qIT 56 49 1 54 55,qLT 57 49 56,qKT 58 49 118 [53,57],qUT 59 49 58,qQ 60 49 59] [[],[],[0,1],[0,1,2],(rg 4),(rg 4),(rg 6),(rg 7),(rg 4),(rg 4),[0,1,2,3,8,9],[0,1,2,3,8,9,10],(rg 12),(rg 13),(rg 14)] []) (.cond (.t 60) .skip (.exit 2))) (.block 3 (.cr [qM 61 11,qC 62 .sub 61 1,qM 11 62]))))) (.seq (qs [qM 63 10,qM 64 11,qB 65 .gtr 63 64] (.cond (.t 65) (.seq (.d_ [qM 66 0,qM 67 11,qM 68 0,qM 69 1,qM 70 0,qM 71 1,qI 72 1 70 71,qL 73 72,qM 74 0,qM 75 11,qI 76 1 74 75,qL 77 76,qI 78 1 66 67,oN (.store 1 (.t 78) (.t 73)),qI 79 1 68 69,oN (.store 1 (.t 79) (.t 77))] [[],[],[],[],[],[],[4,5],[4,5,6],[],[],[8,9],[8,9,10],[0,1,4,5,6,7,8,9,10,11],[0,1,4,5,6,7,8,9,10,11,12],(rg 14),(rg 15)] []) (qs [qM 80 11,qM 8 80,qY 9 true] .ret)) .skip)) (.seq (.d_ [qM 81 0,qM 82 10,qM 83 0,qM 84 11,qM 85 0,qM 86 11,qI 87 1 85 86,qL 88 87,qM 89 0,qM 90 10,qI 91 1 89 90,qL 92 91,qI 93 1 81 82,oN (.store 1 (.t 93) (.t 88)),qI 94 1 83 84,oN (.store 1 (.t 94) (.t 92))] [[],[],[],[],[],[],[4,5],[4,5,6],[],[],[8,9],[8,9,10],[0,1,4,5,6,7,8,9,10,11],[0,1,4,5,6,7,8,9,10,11,12],(rg 14),(rg 15)] []) (qs [qM 95 10,qC 96 .add 95 1,qM 10 96] (qs [qM 97 11,qC 98 .sub 97 1,qM 11 98] (.seq (.block 4 (.loop jJ13 (.block 5 (.seq (.block 6 (.loop jJ13 (.seq (.seq (.d_ [qM 99 10,qM 100 11,qB 101 .leq 99 100,qM 102 101,qMT 103 102 0,qMT 104 102 10,qIT 105 102 1 103 104,qLT 106 102 105,qMT 107 102 0,qMT 108 102 1,qIT 109 102 1 107 108,qLT 110 102 109,qKT 111 102 118 [106,110],qQ 112 102 111] [[],[],[0,1],[0,1,2],(rg 4),(rg 4),(rg 6),(rg 7),(rg 4),(rg 4),[0,1,2,3,8,9],[0,1,2,3,8,9,10],(rg 12),(rg 13)] []) (.cond (.t 112) .skip (.exit 6))) (.block 7 (.cr [qM 113 10,qC 114 .add 113 1,qM 10 114]))))) (.seq (.block 8 (.loop jJ13 (.seq (.seq (.d_ [qM 115 10,qM 116 11,qB 117 .leq 115 116,qM 118 117,qMT 119 118 0,qMT 120 118 11,qIT 121 118 1 119 120,qLT 122 118 121,qMT 123 118 0,qMT 124 118 1,qIT 125 118 1 123 124,qLT 126 118 125,qKT 127 118 118 [122,126],qUT 128 118 127,qQ 129 118 128] [[],[],[0,1],[0,1,2],(rg 4),(rg 4),(rg 6),(rg 7),(rg 4),(rg 4),[0,1,2,3,8,9],[0,1,2,3,8,9,10],(rg 12),(rg 13),(rg 14)] []) (.cond (.t 129) .skip (.exit 8))) (.block 9 (.cr [qM 130 11,qC 131 .sub 130 1,qM 11 131]))))) (.seq (qs [qM 132 10,qM 133 11,qB 134 .gtr 132 133] (.cond (.t 134) (.exit 4) .skip)) (.seq (.d_ [qM 135 0,qM 136 10,qM 137 0,qM 138 11,qM 139 0,qM 140 11,qI 141 1 139 140,qL 142 141,qM 143 0,qM 144 10,qI 145 1 143 144,qL 146 145,qI 147 1 135 136,oN (.store 1 (.t 147) (.t 142)),qI 148 1 137 138,oN (.store 1 (.t 148) (.t 146))] [[],[],[],[],[],[],[4,5],[4,5,6],[],[],[8,9],[8,9,10],[0,1,4,5,6,7,8,9,10,11],[0,1,4,5,6,7,8,9,10,11,12],(rg 14),(rg 15)] []) (qs [qM 149 10,qC 150 .add 149 1,qM 10 150] (.cr [qM 151 11,qC 152 .sub 151 1,qM 11 152]))))))))) (.seq (.d_ [qM 153 0,qM 154 11,qM 155 0,qM 156 1,qM 157 0,qM 158 1,qI 159 1 157 158,qL 160 159,qM 161 0,qM 162 11,qI 163 1 161 162,qL 164 163,qI 165 1 153 154,oN (.store 1 (.t 165) (.t 160)),qI 166 1 155 156,oN (.store 1 (.t 166) (.t 164))] [[],[],[],[],[],[],[4,5],[4,5,6],[],[],[8,9],[8,9,10],[0,1,4,5,6,7,8,9,10,11],[0,1,4,5,6,7,8,9,10,11,12],(rg 14),(rg 15)] []) (qs [qM 167 11,qM 8 167,qY 9 false] .ret)))))))))))
def U5:bk:=⟨4,168,[.tmp 8,.tmp 9],Xw.code⟩
def Zl:bk:=⟨1,19,[.tmp 2],(.seq (.cr [qZ 2 0]) (.seq (.seq (.cr [qM 3 0,o 4 (.bin .geq (.t 3) (.c (.int .u32 65536)))]) (.cond (.t 4) (.seq (.cr [qM 5 0,o 6 (.bin .shr (.t 5) (.c (.int .u64 16))),qM 0 6]) (.cr [qZ 2 16])) .skip)) (.seq (.seq (.cr [qM 7 0,o 8 (.bin .geq (.t 7) (.c (.int .u32 256)))]) (.cond (.t 8) (.seq (.cr [qM 9 0,o 10 (.bin .shr (.t 9) (.c (.int .u64 8))),qM 0 10]) (.cr [qM 11 2,qC 12 .add 11 8,qM 2 12])) .skip)) (.seq (.cr [qM 13 2,qM 14 0,o 15 (.conv .u8 (.t 14)),o 16 (.idx (.c (.str tB0)) (.t 15)),o 17 (.conv .i64 (.t 16)),qB 18 .add 13 17,qM 2 18]) .ret))))⟩
def Xv:cq:=qs [qZ 2 0] (.seq (qs [qM 3 0,o 4 (.bin .geq (.t 3) (.c (.int .u64 4294967296)))] (.cond (.t 4) (qs [qM 5 0,o 6 (.bin .shr (.t 5) (.c (.int .u64 32))),qM 0 6] (.cr [qZ 2 32])) .skip)) (.seq (qs [qM 7 0,o 8 (.bin .geq (.t 7) (.c (.int .u64 65536)))] (.cond (.t 8) (qs [qM 9 0,o 10 (.bin .shr (.t 9) (.c (.int .u64 16))),qM 0 10] (.cr [qM 11 2,qC 12 .add 11 16,qM 2 12])) .skip)) (.seq (qs [qM 13 0,o 14 (.bin .geq (.t 13) (.c (.int .u64 256)))] (.cond (.t 14) (qs [qM 15 0,o 16 (.bin .shr (.t 15) (.c (.int .u64 8))),qM 0 16] (.cr [qM 17 2,qC 18 .add 17 8,qM 2 18])) .skip)) (qs [qM 19 2,qM 20 0,o 21 (.conv .u8 (.t 20)),o 22 (.idx (.c (.str tB0)) (.t 21)),o 23 (.conv .i64 (.t 22)),qB 24 .add 19 23,qM 2 24] .ret))))
def U4:bk:=⟨1,25,[.tmp 2],Xv.code⟩
def Xu:cq:=qs [o 2 (.mv (.c (.aq))),qZ 3 0,qZ 4 0] (qs [o 5 (.mv (.c (.aq)))] (.seq (qs [qZ 6 0] (.block 0 (.loop [.tr 0,.sl 5 4,.tr 6] (.seq (qs [qM 12 6,qM 13 0,o 14 (.len true (.t 13)),qB 15 .lss 12 14] (.cond (.t 15) .skip (.exit 0))) (.block 1 (qs [qM 16 0,qM 17 6,o 18 (.idx (.t 16) (.t 17)),qM 7 18] (.seq (qs [qM 19 7,o 20 (.bin .eql (.t 19) (.c (.int .u8 32))),qM 21 20,qMF 22 21 7,oF 23 21 (.bin .eql (.t 22) (.c (.int .u8 10))),qP 24 21 23] (.cond (.t 24) (qs [qM 25 6,qC 26 .add 25 1,qM 6 26] (.exit 1)) .skip)) (qs [qM 27 6,qM 8 27] (.seq (.block 2 (.loop [.tr 0,.sl 5 4,.tr 6,.tr 7,.tr 8] (.seq (qs [qM 28 8,qM 29 0,o 30 (.len true (.t 29)),qB 31 .lss 28 30,qM 32 31,qMT 33 32 7,qKT 34 32 156 [33],qMT 35 32 34,qMF 36 35 7,qKF 37 35 157 [36],qPT 38 32 35 37,qQ 39 32 38,qM 40 39,qMT 41 40 0,qMT 42 40 8,oT 43 40 (.idx (.t 41) (.t 42)),qKT 44 40 156 [43],qMT 45 40 44,qMF 46 45 0,qMF 47 45 8,oF 48 45 (.idx (.t 46) (.t 47)),qKF 49 45 157 [48],qPT 50 40 45 49,qQ 51 40 50] (.cond (.t 51) .skip (.exit 2))) (.block 3 (.cr [qM 52 8,qC 53 .add 52 1,qM 8 53]))))) (qs [qM 54 6,o 55 (.build [zi,.str ⟨#[]⟩,zi,zi] [(3,1,(.t 54))]),o 9 (.alloc [zi,.str ⟨#[]⟩,zi,zi]),oN (.store 4 (.t 9) (.t 55))] (.seq (.block 4 (qs [qM 72 7,qK 73 156 [72],qM 71 73] (.cond (.t 71) (.seq (.d_ [qM 74 0,qM 75 6,qM 76 8,o 77 (.sn (.t 74) (some (.t 75)) (some (.t 76))),qF 78 0 9,oN (.store 1 (.t 78) (i64 1)),qF 79 1 9,oN (.store 1 (.t 79) (.t 77))] [[],[],[],[0,1,2],[],[4],(rg 6),(rg 7)] []) (.seq (qs [qF 80 1 9,qL 81 80,qK 82 158 [81]] (.cond (.t 82) (.cr [qF 83 0 9,oN (.store 1 (.t 83) (i64 4))]) .skip)) (qs [qF 84 1 9,qL 85 84,o 86 (.len true (.t 85)),qC 87 .gtr 86 12] (.cond (.t 87) (qs [qM 88 6,o 2 (.mv (.c (.aq))),qM 3 88,qZ 4 3] .ret) .skip)))) (qs [qM 90 7,qK 91 157 [90],qM 89 91] (.cond (.t 89) (.seq (.d_ [qM 92 0,qM 93 6,qM 94 8,o 95 (.sn (.t 92) (some (.t 93)) (some (.t 94))),qF 96 0 9,oN (.store 1 (.t 96) (i64 2)),qF 97 1 9,oN (.store 1 (.t 97) (.t 95))] [[],[],[],[0,1,2],[],[4],(rg 6),(rg 7)] []) (.seq (qs [qF 98 1 9,qL 99 98,o 100 (.len true (.t 99)),qC 101 .gtr 100 10,qM 102 101,qFF 103 102 1 9,qLF 104 102 103,oF 105 102 (.len true (.t 104)),qCF 106 102 .gtr 105 1,qMF 107 102 106,qMT 108 107 7,oT 109 107 (.bin .eql (.t 108) (.c (.int .u8 48))),qQF 110 102 107 109,qP 111 102 110] (.cond (.t 111) (qs [qM 112 6,o 2 (.mv (.c (.aq))),qM 3 112,qZ 4 3] .ret) .skip)) (.seq (qs [qZ 10 0] (.block 5 (.loop [.ob 9 [],.tr 0,.sl 5 4,.tr 6,.tr 8,.pt 9 9 0,.tr 10] (.seq (qs [qM 113 10,qF 114 1 9,qL 115 114,o 116 (.len true (.t 115)),qB 117 .lss 113 116] (.cond (.t 117) .skip (.exit 5))) (.seq (.block 6 (.seq (qs [qF 120 1 9,qL 121 120,qM 122 10,o 123 (.idx (.t 121) (.t 122)),qK 124 157 [123],qU 125 124] (.cond (.t 125) (qs [qM 126 6,o 2 (.mv (.c (.aq))),qM 3 126,qZ 4 3] .ret) .skip)) (.d_ [qF 127 2 9,qL 128 127,o 129 (.bin .mul (i64 10) (.t 128)),qF 130 1 9,qL 131 130,qM 132 10,o 133 (.idx (.t 131) (.t 132)),o 134 (.bin .sub (.t 133) (.c (.int .u8 48))),o 135 (.conv .i64 (.t 134)),qB 136 .add 129 135,qF 137 2 9,oN (.store 1 (.t 137) (.t 136))] [[],[0],[0,1],[],[3],[],[3,4,5],[3,4,5,6],[3,4,5,6,7],(rg 9),(rg 10),(rg 11)] []))) (.cr [qM 118 10,qC 119 .add 118 1,qM 10 119])))))) (qs [qF 138 2 9,qL 139 138,qC 140 .gtr 139 2147483647] (.cond (.t 140) (qs [qM 141 6,o 2 (.mv (.c (.aq))),qM 3 141,qZ 4 3] .ret) .skip))))) (qs [qM 56 0,qM 57 6,qK 58 159 [56,57],qM 11 58] (.seq (qs [qM 59 11,qC 60 .eql 59 0] (.cond (.t 60) (qs [qM 61 6,o 2 (.mv (.c (.aq))),qM 3 61,qZ 4 2] .ret) .skip)) (qs [qM 62 6,qM 63 11,qB 64 .add 62 63,qM 8 64] (.d_ [qM 65 0,qM 66 6,qM 67 8,o 68 (.sn (.t 65) (some (.t 66)) (some (.t 67))),qF 69 0 9,oN (.store 1 (.t 69) (i64 3)),qF 70 1 9,oN (.store 1 (.t 70) (.t 68))] [[],[],[],[0,1,2],[],[4],(rg 6),(rg 7)] []))))))))) (qs [qM 142 5,qG 143 4 9,o 144 (.de 1 [zi,.str ⟨#[]⟩,zi,zi] [(0,4,(.t 143))]),o 145 (.app 4 40 (.t 142) (.t 144)),qM 5 145] (.cr [qM 146 8,qM 6 146]))))))))))))) (.seq (qs [qM 147 5,qN 148 147,qC 149 .gtr 148 2000] (.cond (.t 149) (qs [qM 150 0,o 151 (.len true (.t 150)),o 2 (.mv (.c (.aq))),qM 3 151,qZ 4 4] .ret) .skip)) (qs [qM 152 5,qM 2 152,qZ 3 0,qZ 4 0] .ret))))
def U3:bk:=⟨1,153,[.tmp 2,.tmp 3,.tmp 4],Xu.code⟩
def Xt:cq:=qs [o 1 (.box (.t 0)),qY 2 false] (.seq (.block 0 (qs [qF 4 0 1,qL 5 4,qC 6 .eql 5 1,qM 3 6] (.cond (.t 3) (qs [qF 7 1 1,qL 8 7,qK 9 93 [8],qM 10 9,qFT 11 10 3 1,qLT 12 10 11,qNT 13 10 12,qCT 14 10 .eql 13 0,qQ 15 10 14,qM 2 15] .ret) (qs [qF 17 0 1,qL 18 17,qC 19 .eql 18 2,qM 16 19] (.cond (.t 16) (qs [qF 20 2 1,qL 21 20,qK 22 92 [21],qM 23 22,qFT 24 23 3 1,qLT 25 23 24,qNT 26 23 25,qCT 27 23 .eql 26 0,qQ 28 23 27,qM 2 28] .ret) (qs [qF 30 0 1,qL 31 30,qC 32 .eql 31 3,qM 29 32] (.cond (.t 29) (qs [qF 33 3 1,qL 34 33,qN 35 34,qC 36 .eql 35 1,qM 37 36,qFT 38 37 3 1,qLT 39 37 38,oT 40 37 (.jg 4 (.t 39) (i64 0)),qGT 41 37 4 40,qKT 42 37 128 [41],qQ 43 37 42,qM 2 43] .ret) (qs [qF 45 0 1,qL 46 45,qK 47 160 [46],qM 44 47] (.cond (.t 44) (qs [qF 48 3 1,qL 49 48,qN 50 49,qC 51 .eql 50 2,qM 52 51,qFT 53 52 3 1,qLT 54 52 53,oT 55 52 (.jg 4 (.t 54) (i64 0)),qGT 56 52 4 55,qKT 57 52 128 [56],qQ 58 52 57,qM 59 58,qFT 60 59 3 1,qLT 61 59 60,oT 62 59 (.jg 4 (.t 61) (i64 1)),qGT 63 59 4 62,qKT 64 59 128 [63],qQ 65 59 64,qM 2 65] .ret) .skip))))))))) (qs [qY 2 false] .ret))
def U2:bk:=⟨1,66,[.tmp 2],Xt.code⟩
def Xr:cq:=qs [o 1 (.box (.t 0)),qY 2 false] (qs [qF 3 0 1,qL 4 3,qC 5 .geq 4 1,qM 6 5,qFT 7 6 0 1,qLT 8 6 7,qCT 9 6 .leq 8 6,qQ 10 6 9,qM 11 10,qFT 12 11 1 1,qGT 13 11 4 12,qKT 14 11 128 [13],qQ 15 11 14,qM 16 15,qFT 17 16 5 1,qGT 18 16 4 17,qKT 19 16 128 [18],qQ 20 16 19,qM 2 20] .ret)
def U1:bk:=⟨1,21,[.tmp 2],Xr.code⟩
def Zk:bk:=⟨1,32,[.tmp 2,.tmp 3],(.seq (.cr [o 1 (.box (.t 0)),o 2 (.mv (.c (.aq))),qY 3 false]) (.seq (.seq (.cr [qF 7 2 1,qL 8 7,qC 9 .eql 8 0]) (.cond (.t 9) (.seq (.cr [qF 10 4 1,qL 11 10,qF 12 5 1,qL 13 12,qF 14 6 1,qG 15 4 14,qF 16 10 1,qG 17 9 16,o 18 (.build [zi,zi,zi,zi,zi,zi,zi,.aq,zi,zi,zi,zi,.aq,zi,zi,zi,.aq,.aq,.aq,.aq] [(0,1,(i64 7)),(2,1,(.t 11)),(3,1,(.t 13)),(4,4,(.t 15)),(8,9,(.t 17))]),o 4 (.alloc [zi,zi,zi,zi,zi,zi,zi,.aq,zi,zi,zi,zi,.aq,zi,zi,zi,.aq,.aq,.aq,.aq]),oN (.store 20 (.t 4) (.t 18))]) (.seq (.d_ [qG 19 20 4,⟨some 20,.de 1 [zi,zi,zi,zi,zi,zi,zi,.aq,zi,zi,zi,zi,.aq,zi,zi,zi,.aq,.aq,.aq,.aq] [(0,20,(.t 19))],none,true⟩,qF 21 3 1,qL 22 21,qC 23 .eql 22 0,qM 2 20,qM 3 23] [[],[0],[],[2],[2,3],[0,1],(rg 6)] [(1,3)]) .ret)) .skip)) (.seq (.cr [qG 25 19 1,qK 26 163 [25],qM 24 26,qE 27 0 24,qE 28 1 24,o 5 (.alloc [zi,zi,zi,zi,zi,zi,zi,.aq,zi,zi,zi,zi,.aq,zi,zi,zi,.aq,.aq,.aq,.aq]),oN (.store 20 (.t 5) (.t 27)),qM 6 28]) (.seq (.cr [qG 29 20 5,⟨some 30,.de 1 [zi,zi,zi,zi,zi,zi,zi,.aq,zi,zi,zi,zi,.aq,zi,zi,zi,.aq,.aq,.aq,.aq] [(0,20,(.t 29))],none,true⟩,qM 31 6,qM 2 30,qM 3 31]) .ret))))⟩
def Zj:bk:=⟨1,8,[.tmp 2],(.seq (.cr [o 2 (.mv (.c (.aq)))]) (.seq (.seq (.cr [qM 3 0,o 4 (.eq .slice false (.t 3) (.c (.aq)))]) (.cond (.t 4) (.seq (.cr [o 2 (.mv (.c (.aq)))]) .ret) .skip)) (.seq (.cr [o 5 (.de 0 [] []),qM 6 0,o 7 (.app 2 32 (.t 5) (.t 6)),qM 2 7]) .ret)))⟩
def Zi:bk:=⟨1,34,[.tmp 2],(.seq (.cr [qY 2 false]) (.seq (.cr [o 3 (.alloc [.bool false,.bool false,.bool false,.bool false])]) (.seq (.seq (.cr [qM 6 0,qN 7 6,qZ 8 0]) (.block 0 (.loop (.seq (.cr [qB 9 .lss 8 7]) (.seq (.cond (.t 9) .skip (.exit 0)) (.seq (.block 1 (.seq (.cr [qI 10 19 6 8,qG 11 19 10,o 5 (.alloc [zi,zi,zi,zi,zi,zi,zi,zi,zi,.aq,zi,zi,zi,zi,.aq,zi,zi,zi,.aq]),oN (.store 19 (.t 5) (.t 11))]) (.seq (.seq (.d_ [qF 12 2 5,qL 13 12,qC 14 .neq 13 4,qM 15 14,qFF 16 15 4 5,qLF 17 15 16,qMF 18 15 0,oF 19 15 (.jg 19 (.t 18) (i64 0)),qFF 20 15 4 19,qLF 21 15 20,qBF 22 15 .neq 17 21,qP 23 15 22,qM 24 23,qFF 25 24 5 5,qLF 26 24 25,oF 27 24 (.uo 4 1 (.t 3) (.t 26)),qLF 28 24 27,qP 29 24 28] [[],[0],[0,1],[0,1,2],(rg 4),(rg 5),(rg 4),[0,1,2,3,6],[0,1,2,3,6,7],[0,1,2,3,6,7,8],(rg 10),(rg 11),(rg 12),(rg 13),(rg 14),(rg 15),(rg 16),(rg 17)] []) (.cond (.t 29) (.seq (.cr [qY 2 false]) .ret) .skip)) (.cr [qF 30 5 5,qL 31 30,o 32 (.uo 4 1 (.t 3) (.t 31)),oN (.store 1 (.t 32) (.c (.bool true)))])))) (.cr [qC 33 .add 8 1,qM 8 33]))))))) (.seq (.cr [qY 2 true]) .ret))))⟩
def Zh:bk:=⟨2,41,[.tmp 4],(.seq (.cr [o 2 (.box (.t 0)),o 3 (.box (.t 1)),qY 4 false]) (.seq (.cr [qF 6 10 2,qG 7 9 6,qK 8 109 [7],o 5 (.alloc [zi,zi,zi,zi,.aq,zi,zi,zi,.aq]),oN (.store 9 (.t 5) (.t 8))]) (.seq (.cr [qF 9 2 2,qL 10 9,qC 11 .eql 10 2,qM 12 11,qFT 13 12 2 3,qLT 14 12 13,qCT 15 12 .eql 14 2,qQ 16 12 15,qM 17 16,qFT 18 17 0 5,qLT 19 17 18,qFT 20 17 10 3,qFT 21 17 0 20,qLT 22 17 21,qBT 23 17 .eql 19 22,qQ 24 17 23,qM 25 24,qFT 26 25 1 5,qGT 27 25 4 26,qFT 28 25 10 3,qFT 29 25 1 28,qGT 30 25 4 29,qKT 31 25 164 [27,30],qQ 32 25 31,qM 33 32,qFT 34 33 5 5,qGT 35 33 4 34,qFT 36 33 10 3,qFT 37 33 5 36,qGT 38 33 4 37,qKT 39 33 164 [35,38],qQ 40 33 39,qM 4 40]) .ret)))⟩
def Zg:bk:=⟨2,9,[.tmp 4],(.seq (.cr [qY 4 false]) (.seq (.cr [qM 5 0,qM 6 1,qK 7 165 [5,6],qC 8 .geq 7 0,qM 4 8]) .ret))⟩
def Xp:cq:=qs [o 1 (.box (.t 0)),qY 2 false] (qs [qF 3 0 1,qL 4 3,qC 5 .eql 4 0,qM 6 5,qFT 7 6 1 1,qLT 8 6 7,qCT 9 6 .eql 8 0,qQ 10 6 9,qM 11 10,qFT 12 11 2 1,qLT 13 11 12,qCT 14 11 .eql 13 0,qQ 15 11 14,qM 16 15,qFT 17 16 3 1,qLT 18 16 17,qNT 19 16 18,qCT 20 16 .eql 19 0,qQ 21 16 20,qM 2 21] .ret)
def U0:bk:=⟨1,22,[.tmp 2],Xp.code⟩
def Xo:cq:=qs [o 1 (.box (.t 0)),qY 2 false] (qs [qF 3 0 1,qL 4 3,qC 5 .eql 4 0,qM 6 5,qFT 7 6 1 1,qGT 8 6 4 7,qKT 9 6 141 [8],qQ 10 6 9,qM 11 10,qFT 12 11 5 1,qGT 13 11 4 12,qKT 14 11 141 [13],qQ 15 11 14,qM 2 15] .ret)
def UZ:bk:=⟨1,16,[.tmp 2],Xo.code⟩
def Xn:cq:=qs [o 2 (.box (.t 0)),qY 4 false] (.seq (.seq (.d_ [qF 7 3 2,qL 8 7,qN 9 8,qF 10 0 2,qL 11 10,qK 12 166 [11],qB 13 .neq 9 12] [[],[0],[0,1],[],[3],[3,4],(rg 6)] []) (.cond (.t 13) (qs [qY 4 false] .ret) .skip)) (.seq (qs [qF 14 0 2,qL 15 14,qC 16 .neq 15 1,qM 17 16,qFT 18 17 1 2,qLT 19 17 18,qCT 20 17 .neq 19 0,qQ 21 17 20,qM 22 21,qFF 23 22 0 2,qLF 24 22 23,qCF 25 22 .neq 24 2,qMF 26 22 25,qFT 27 26 2 2,qLT 28 26 27,qCT 29 26 .neq 28 0,qQF 30 22 26 29,qP 31 22 30,qM 32 31,qFF 33 32 0 2,qLF 34 32 33,qCF 35 32 .eql 34 2,qMF 36 32 35,qFT 37 36 2 2,qLT 38 36 37,qMT 39 36 1,qCT 40 36 .sub 39 1,oT 41 36 (.call 81 [.t 38,(i64 0),.t 40] .borrow),qUT 42 36 41,qQF 43 32 36 42,qP 44 32 43] (.cond (.t 44) (qs [qY 4 false] .ret) .skip)) (.seq (qs [qF 45 3 2,qL 46 45,qN 47 46,qZ 48 0] (.block 0 (.loop [.ob 2 [],.tr 1,.pt 2 2 0,.tr 46,.tr 47,.tr 48] (qs [qB 49 .lss 48 47] (.seq (.cond (.t 49) .skip (.exit 0)) (.seq (.block 1 (qs [qI 50 4 46 48,qG 51 4 50,o 6 (.alloc [zi,zi,zi,.aq]),oN (.store 4 (.t 6) (.t 51))] (qs [qG 52 4 6,qM 53 1,qK 54 143 [52,53],qU 55 54] (.cond (.t 55) (qs [qY 4 false] .ret) .skip)))) (.cr [qC 56 .add 48 1,qM 48 56]))))))) (qs [qF 57 1 2,qL 58 57,o 59 (.call 81 [.t 58,(i64 0),(i64 2147483647)] .borrow),qM 4 59] .ret))))
def UY:bk:=⟨2,60,[.tmp 4],Xn.code⟩
def Xm:cq:=qs [o 2 (.box (.t 0)),qY 4 false] (qs [qF 5 0 2,qL 6 5,o 7 (.call 81 [.t 6,(i64 1),(i64 6)] .borrow),qM 8 7,qFT 9 8 1 2,qGT 10 8 4 9,qMT 11 8 1,qKT 12 8 143 [10,11],qQ 13 8 12,qM 14 13,qFT 15 14 5 2,qGT 16 14 4 15,qMT 17 14 1,qKT 18 14 143 [16,17],qQ 19 14 18,qM 4 19] .ret)
def UX:bk:=⟨2,20,[.tmp 4],Xm.code⟩
def Xl:cq:=qs [o 3 (.box (.t 0)),qY 6 false] (.seq (.d_ [qM 7 1,qF 8 0 3,qF 9 0 8,qL 10 9,qN 11 10,qC 12 .sub 11 1,o 13 (.call 81 [.t 7,(i64 0),.t 12] .borrow),qM 14 13,qMT 15 14 2,qFT 16 14 0 3,qFT 17 14 0 16,qLT 18 14 17,qMT 19 14 1,qIT 20 14 6 18 19,qGT 21 14 6 20,oT 22 14 (.kn (.t 15) [.t 21] .borrow),qFT 23 14 2 3,qLT 24 14 23,qBT 25 14 .eql 22 24,qQ 26 14 25,qM 6 26] [[],[],[1],[1,2],[1,2,3],[1,2,3,4],(rg 6),(rg 7),(rg 8),(rg 8),[0,1,2,3,4,5,6,7,9],[0,1,2,3,4,5,6,7,9,10],(rg 8),[0,1,2,3,4,5,6,7,9,10,11,12],[0,1,2,3,4,5,6,7,9,10,11,12,13],(rg 15),(rg 8),[0,1,2,3,4,5,6,7,16],(rg 18),(rg 19),(rg 20)] []) .ret)
def UW:bk:=⟨3,27,[.tmp 6],Xl.code⟩
def Xk:cq:=qs [o 1 (.box (.t 0)),qZ 2 0] (qs [qF 3 2 1,qL 4 3,qM 2 4] .ret)
def UU:bk:=⟨1,5,[.tmp 2],Xk.code⟩
def Xj:cq:=qs [o 3 (.box (.t 0)),qY 6 false] (qs [qM 7 2,qF 8 0 3,qF 9 0 8,qL 10 9,qM 11 1,qI 12 6 10 11,qF 13 4 12,qL 14 13,qC 15 .sub 14 1,o 16 (.call 81 [.t 7,(i64 0),.t 15] .borrow),qM 6 16] .ret)
def UT:bk:=⟨3,17,[.tmp 6],Xj.code⟩
def Xi:cq:=qs [o 1 (.box (.t 0)),qZ 2 0] (qs [qF 3 3 1,qL 4 3,qM 2 4] .ret)
def US:bk:=⟨1,5,[.tmp 2],Xi.code⟩
def Xh:cq:=qs [o 3 (.box (.t 0)),qY 6 false] (qs [o 7 (.alloc [.bool false,.bool false,.bool false,.bool false])] (.seq (qs [qM 10 2,qN 11 10,qZ 12 0] (.block 0 (.loop [.ob 3 [],.ob 7 [],.tr 1,.tr 2,.pt 3 3 0,.pt 7 7 0,.tr 10,.tr 11,.tr 12] (qs [qB 13 .lss 12 11] (.seq (.cond (.t 13) .skip (.exit 0)) (.seq (.block 1 (qs [qI 14 3 10 12,qG 15 3 14,o 9 (.alloc [zi,zi,.aq]),oN (.store 3 (.t 9) (.t 15))] (.seq (qs [qG 16 4 3,qM 17 1,qF 18 0 9,qL 19 18,qK 20 147 [16,17,19],qU 21 20,qM 22 21,qFF 23 22 0 9,qLF 24 22 23,oF 25 22 (.uo 4 1 (.t 7) (.t 24)),qLF 26 22 25,qP 27 22 26,qM 28 27,qFF 29 28 1 9,qLF 30 28 29,qFF 31 28 3 3,qLF 32 28 31,qCF 33 28 .sub 32 1,oF 34 28 (.call 81 [.t 30,(i64 0),.t 33] .borrow),qUF 35 28 34,qP 36 28 35,qM 37 36,qGF 38 37 4 3,qFF 39 37 2 9,qLF 40 37 39,qKF 41 37 83 [38,40],qUF 42 37 41,qP 43 37 42] (.cond (.t 43) (qs [qY 6 false] .ret) .skip)) (.cr [qF 44 0 9,qL 45 44,o 46 (.uo 4 1 (.t 7) (.t 45)),oN (.store 1 (.t 46) (.c (.bool true)))])))) (.cr [qC 47 .add 12 1,qM 12 47]))))))) (qs [qM 48 2,qN 49 48,qC 50 .gtr 49 0,qM 6 50] .ret)))
def UR:bk:=⟨3,51,[.tmp 6],Xh.code⟩
def Xg:cq:=qs [qM 10 1,qM 8 10] (.block 0 (.loop [.sl 0 1,.tr 2,.tr 3,.tr 8] (.block 1 (qs [qM 11 8,o 12 (.bin .mul (i64 2) (.t 11)),qC 13 .add 12 1,qM 9 13] (.seq (qs [qM 14 9,qM 15 2,qB 16 .geq 14 15] (.cond (.t 16) (.exit 0) .skip)) (.seq (.seq (.d_ [qM 17 9,qC 18 .add 17 1,qM 19 2,qB 20 .lss 18 19,qM 21 20,qMT 22 21 0,qMT 23 21 3,qMT 24 21 9,qBT 25 21 .add 23 24,qIT 26 21 1 22 25,qLT 27 21 26,qMT 28 21 0,qMT 29 21 3,qMT 30 21 9,qBT 31 21 .add 29 30,qCT 32 21 .add 31 1,qIT 33 21 1 28 32,qLT 34 21 33,qKT 35 21 118 [27,34],qQ 36 21 35] [[],[0],[],[0,1,2],(rg 4),(rg 5),(rg 5),(rg 5),[0,1,2,3,4,6,7],(rg 9),(rg 10),(rg 5),(rg 5),(rg 5),[0,1,2,3,4,12,13],[0,1,2,3,4,12,13,14],[0,1,2,3,4,11,12,13,14,15],[0,1,2,3,4,11,12,13,14,15,16],(rg 18),(rg 19)] []) (.cond (.t 36) (.cr [qM 37 9,qC 38 .add 37 1,qM 9 38]) .skip)) (.seq (.seq (.d_ [qM 39 0,qM 40 3,qM 41 8,qB 42 .add 40 41,qI 43 1 39 42,qL 44 43,qM 45 0,qM 46 3,qM 47 9,qB 48 .add 46 47,qI 49 1 45 48,qL 50 49,qK 51 118 [44,50],qU 52 51] [[],[],[],[1,2],(rg 4),(rg 5),[],[],[],[7,8],[6,7,8,9],[6,7,8,9,10],(rg 12),(rg 13)] []) (.cond (.t 52) .ret .skip)) (.seq (.d_ [qM 53 0,qM 54 3,qM 55 8,qB 56 .add 54 55,qM 57 0,qM 58 3,qM 59 9,qB 60 .add 58 59,qM 61 0,qM 62 3,qM 63 9,qB 64 .add 62 63,qI 65 1 61 64,qL 66 65,qM 67 0,qM 68 3,qM 69 8,qB 70 .add 68 69,qI 71 1 67 70,qL 72 71,qI 73 1 53 56,oN (.store 1 (.t 73) (.t 66)),qI 74 1 57 60,oN (.store 1 (.t 74) (.t 72))] [[],[],[],[1,2],[],[],[],[5,6],[],[],[],[9,10],[8,9,10,11],[8,9,10,11,12],[],[],[],[15,16],[14,15,16,17],[14,15,16,17,18],[0,1,2,3,8,9,10,11,12,13,14,15,16,17,18,19],[0,1,2,3,8,9,10,11,12,13,14,15,16,17,18,19,20],(rg 22),(rg 23)] []) (.cr [qM 75 9,qM 8 75])))))))))
def UQ:bk:=⟨4,76,[],Xg.code⟩
def Xf:cq:=qs [o 2 (.mv (.c (.int .u64 0)))] (qs [qM 3 0,o 4 (.conv .u64 (.t 3)),qK 5 88 [4],o 6 (.bin .shl (.c (.int .u64 1)) (.t 5)),qM 2 6] .ret)
def UP:bk:=⟨1,7,[.tmp 2],Xf.code⟩
def Xe:cq:=qs [o 2 (.mv (.c (.int .u64 0)))] (.seq (.d_ [qM 3 0,qX 4 3,qL 5 4,qM 6 0,qX 7 6,qL 8 7,o 9 (.bin .shl (.t 8) (.c (.int .u64 13))),qB 10 .xor 5 9,qX 11 3,oN (.store 1 (.t 11) (.t 10))] [[],[0],[0,1],[],[3],[3,4],[3,4,5],(rg 7),(rg 8),(rg 9)] []) (.seq (.d_ [qM 12 0,qX 13 12,qL 14 13,qM 15 0,qX 16 15,qL 17 16,o 18 (.bin .shr (.t 17) (.c (.int .u64 7))),qB 19 .xor 14 18,qX 20 12,oN (.store 1 (.t 20) (.t 19))] [[],[0],[0,1],[],[3],[3,4],[3,4,5],(rg 7),(rg 8),(rg 9)] []) (.seq (.d_ [qM 21 0,qX 22 21,qL 23 22,qM 24 0,qX 25 24,qL 26 25,o 27 (.bin .shl (.t 26) (.c (.int .u64 17))),qB 28 .xor 23 27,qX 29 21,oN (.store 1 (.t 29) (.t 28))] [[],[0],[0,1],[],[3],[3,4],[3,4,5],(rg 7),(rg 8),(rg 9)] []) (qs [qM 30 0,qX 31 30,qL 32 31,qM 2 32] .ret))))
def UO:bk:=⟨1,33,[.tmp 2],Xe.code⟩
def Xd:cq:=qs [qZ 6 0] (qs [qM 7 0,qM 8 1,qC 9 .sub 8 1,qM 10 1,qM 11 1,qC 12 .add 11 1,qM 13 2,o 14 (.call 154 [.t 7,.t 9,.t 10,.t 12,.t 13] .share),qM 6 14] .ret)
def UN:bk:=⟨3,15,[.tmp 6],Xd.code⟩
def Xc:cq:=qs [qZ 10 0] (qs [qM 12 0,qM 13 1,qM 14 2,qM 15 4,o 16 (.call 167 [.t 12,.t 13,.t 14,.t 15] .share),qM 11 16,qE 17 0 11,qE 18 1 11,qM 1 17,qM 2 18] (qs [qM 20 0,qM 21 2,qM 22 3,qM 23 4,o 24 (.call 167 [.t 20,.t 21,.t 22,.t 23] .share),qM 19 24,qE 25 0 19,qE 26 1 19,qM 2 25,qM 3 26] (qs [qM 28 0,qM 29 1,qM 30 2,qM 31 4,o 32 (.call 167 [.t 28,.t 29,.t 30,.t 31] .share),qM 27 32,qE 33 0 27,qE 34 1 27,qM 1 33,qM 2 34] (qs [qM 35 2,qM 10 35] .ret))))
def UM:bk:=⟨5,36,[.tmp 10],Xc.code⟩
def Xb:cq:=qs [qY 2 false] (qs [qM 3 0,qM 4 0,qB 5 .neq 3 4,qM 2 5] .ret)
def UL:bk:=⟨1,6,[.tmp 2],Xb.code⟩
def Xa:cq:=qs [qY 2 false] (qs [qM 3 0,o 4 (.bin .geq (.t 3) (.c (.int .u8 97))),qM 5 4,qMT 6 5 0,oT 7 5 (.bin .leq (.t 6) (.c (.int .u8 122))),qQ 8 5 7,qM 2 8] .ret)
def UK:bk:=⟨1,9,[.tmp 2],Xa.code⟩
def W_:cq:=qs [qY 2 false] (qs [qM 3 0,o 4 (.bin .geq (.t 3) (.c (.int .u8 48))),qM 5 4,qMT 6 5 0,oT 7 5 (.bin .leq (.t 6) (.c (.int .u8 57))),qQ 8 5 7,qM 2 8] .ret)
def UJ:bk:=⟨1,9,[.tmp 2],W_.code⟩
def W9:cq:=qs [qY 2 false] (qs [o 5 (.call 168 [] .borrow),qM 3 5] (.seq (qs [qZ 4 0] (.block 0 (.loop [.tr 0,.tr 3,.tr 4] (.seq (qs [qM 6 4,qM 7 3,qN 8 7,qB 9 .lss 6 8] (.cond (.t 9) .skip (.exit 0))) (.seq (.block 1 (qs [qM 12 3,qM 13 4,qI 14 1 12 13,qL 15 14,qM 16 0,qB 17 .eql 15 16] (.cond (.t 17) (qs [qY 2 true] .ret) .skip))) (.cr [qM 10 4,qC 11 .add 10 1,qM 4 11])))))) (qs [qY 2 false] .ret)))
def UI:bk:=⟨1,18,[.tmp 2],W9.code⟩
def W8:cq:=qs [qZ 4 0] (qs [o 9 (.de 4 [.str ⟨#[]⟩,.str ⟨#[]⟩,.str ⟨#[]⟩,.str ⟨#[]⟩] [(0,1,(.c (.str ⟨#[61,61]⟩))),(1,1,(.c (.str ⟨#[33,61]⟩))),(2,1,(.c (.str ⟨#[60,61]⟩))),(3,1,(.c (.str ⟨#[62,61]⟩)))]),qM 5 9] (.seq (qs [qZ 6 0] (.block 0 (.loop [.tr 0,.tr 1,.tr 5,.tr 6] (.seq (qs [qM 10 6,qC 11 .lss 10 4] (.cond (.t 11) .skip (.exit 0))) (.seq (.block 1 (.seq (.d_ [qM 14 1,qC 15 .add 14 2,qM 16 0,o 17 (.len true (.t 16)),qB 18 .leq 15 17,qM 19 18,qMT 20 19 0,qMT 21 19 1,qMT 22 19 1,qCT 23 19 .add 22 2,oT 24 19 (.sn (.t 20) (some (.t 21)) (some (.t 23))),qMT 25 19 5,qMT 26 19 6,qIT 27 19 1 25 26,qLT 28 19 27,qBT 29 19 .eql 24 28,qQ 30 19 29] [[],[0],[],[2],(rg 4),(rg 5),(rg 6),(rg 6),(rg 6),[0,1,2,3,4,5,8],(rg 10),(rg 6),(rg 6),[0,1,2,3,4,5,11,12],[0,1,2,3,4,5,11,12,13],(rg 15),(rg 16)] []) (.cond (.t 30) (qs [qZ 4 2] .ret) .skip))) (.cr [qM 12 6,qC 13 .add 12 1,qM 6 13])))))) (qs [o 7 (.mv (.c (.str tB1)))] (.seq (qs [qZ 8 0] (.block 2 (.loop [.tr 0,.tr 1,.tr 7,.tr 8] (.seq (qs [qM 31 8,qM 32 7,o 33 (.len true (.t 32)),qB 34 .lss 31 33] (.cond (.t 34) .skip (.exit 2))) (.seq (.block 3 (.seq (.d_ [qM 37 7,qM 38 8,o 39 (.idx (.t 37) (.t 38)),qM 40 0,qM 41 1,o 42 (.idx (.t 40) (.t 41)),qB 43 .eql 39 42] [[],[],[0,1],[],[],[3,4],(rg 6)] []) (.cond (.t 43) (qs [qZ 4 1] .ret) .skip))) (.cr [qM 35 8,qC 36 .add 35 1,qM 8 36])))))) (qs [qZ 4 0] .ret)))))
def UH:bk:=⟨2,44,[.tmp 4],W8.code⟩
def W7:cq:=qs [qY 2 false] (qs [qM 3 0,qC 4 .geq 3 4,qM 5 4,qMT 6 5 0,qCT 7 5 .leq 6 8,qQ 8 5 7,qM 2 8] .ret)
def UG:bk:=⟨1,9,[.tmp 2],W7.code⟩
def Zf:bk:=⟨1,45,[.cell 2 (some 20),.tmp 3],(.seq (.cr [o 1 (.box (.t 0)),o 2 (.alloc [zi,zi,zi,zi,zi,zi,zi,.aq,zi,zi,zi,zi,.aq,zi,zi,zi,.aq,.aq,.aq,.aq]),qY 3 false]) (.seq (.cr [qF 5 3 1,qL 6 5,qF 7 4 1,qL 8 7,qF 9 5 1,qL 10 9,qF 11 6 1,qG 12 4 11,qF 13 10 1,qG 14 9 13,o 15 (.build [zi,zi,zi,zi,zi,zi,zi,.aq,zi,zi,zi,zi,.aq,zi,zi,zi,.aq,.aq,.aq,.aq] [(1,1,(.t 6)),(2,1,(.t 8)),(3,1,(.t 10)),(4,4,(.t 12)),(8,9,(.t 14))]),o 4 (.alloc [zi,zi,zi,zi,zi,zi,zi,.aq,zi,zi,zi,zi,.aq,zi,zi,zi,.aq,.aq,.aq,.aq]),oN (.store 20 (.t 4) (.t 15))]) (.seq (.seq (.cr [qF 16 2 1,qL 17 16]) (.block 0 (.seq (.cr [qC 20 .eql 17 1,qM 19 20]) (.cond (.t 19) (.cr [qF 21 0 4,oN (.store 1 (.t 21) (i64 1))]) (.seq (.seq (.cr [qC 23 .eql 17 2,qM 22 23]) (.cond (.t 22) .skip (.cr [qC 24 .eql 17 5,qM 22 24]))) (.cond (.t 22) (.cr [qF 25 0 4,oN (.store 1 (.t 25) (i64 6))]) (.seq (.cr [qC 27 .eql 17 3,qM 26 27]) (.cond (.t 26) (.cr [qF 28 0 4,oN (.store 1 (.t 28) (i64 4))]) (.seq (.cr [qC 30 .eql 17 6,qM 29 30]) (.cond (.t 29) (.cr [qF 31 0 4,oN (.store 1 (.t 31) (i64 7))]) (.seq (.cr [qC 33 .eql 17 4,qM 32 33]) (.cond (.t 32) (.seq (.cr [qF 34 0 4,oN (.store 1 (.t 34) (i64 5))]) (.seq (.cr [qF 35 5 1,qL 36 35,qF 37 3 1,qL 38 37,o 39 (.build [zi,zi,.aq] [(0,1,(.t 36)),(1,1,(.t 38))]),⟨some 40,.de 1 [zi,zi,.aq] [(0,3,(.t 39))],none,true⟩,qF 41 19 4,oN (.store 1 (.t 41) (.t 40))]) (.cr [qF 42 1 4,oN (.store 1 (.t 42) (i64 0)),qF 43 3 4,oN (.store 1 (.t 43) (i64 0))]))) (.seq (.cr [qG 18 20 4,oN (.store 20 (.t 2) (.t 18)),qY 3 false]) .ret))))))))))))) (.seq (.cr [qG 44 20 4,oN (.store 20 (.t 2) (.t 44)),qY 3 true]) .ret))))⟩
def Ze:bk:=⟨2,31,[.tmp 4],(.seq (.cr [o 2 (.box (.t 0)),o 3 (.box (.t 1)),qY 4 false]) (.seq (.cr [qF 5 0 2,qL 6 5,qF 7 0 3,qL 8 7,qB 9 .eql 6 8,qM 10 9,qFT 11 10 1 2,qLT 12 10 11,qFT 13 10 1 3,qLT 14 10 13,qBT 15 10 .eql 12 14,qQ 16 10 15,qM 17 16,qFT 18 17 2 2,qLT 19 17 18,qFT 20 17 2 3,qLT 21 17 20,qBT 22 17 .eql 19 21,qQ 23 17 22,qM 24 23,qFT 25 24 3 2,qLT 26 24 25,qFT 27 24 3 3,qLT 28 24 27,oT 29 24 (.call 169 [.t 26,.t 28,(.c (.func 164))] .borrow),qQ 30 24 29,qM 4 30]) .ret))⟩
def Zd:bk:=⟨2,19,[.tmp 4],(.seq (.cr [qZ 4 0]) (.seq (.seq (.cr [qM 6 0,qN 7 6,qZ 8 0]) (.block 0 (.loop (.seq (.cr [qB 9 .lss 8 7]) (.seq (.cond (.t 9) .skip (.exit 0)) (.seq (.block 1 (.seq (.cr [qM 10 8,qM 5 10]) (.seq (.cr [qM 11 1,qM 12 0,qM 13 5,qI 14 1 12 13,qL 15 14,qB 16 .eql 11 15]) (.cond (.t 16) (.seq (.cr [qM 17 5,qM 4 17]) .ret) .skip)))) (.cr [qC 18 .add 8 1,qM 8 18]))))))) (.seq (.cr [o 4 (.mv (i64 (-1)))]) .ret)))⟩
def W6:cq:=qs [qZ 2 0] (.seq (.block 0 (qs [qM 4 0,qC 5 .eql 4 1,qM 6 5,qMF 7 6 0,qCF 8 6 .eql 7 2,qP 9 6 8,qM 3 9] (.cond (.t 3) (qs [qZ 2 0] .ret) (qs [qM 11 0,qC 12 .eql 11 3,qM 10 12] (.cond (.t 10) (qs [qZ 2 1] .ret) (qs [qM 14 0,o 15 (.call 81 [.t 14,(i64 4),(i64 8)] .borrow),qM 13 15] (.cond (.t 13) (qs [qZ 2 2] .ret) .skip))))))) (qs [o 2 (.mv (i64 (-1)))] .ret))
def UF:bk:=⟨1,16,[.tmp 2],W6.code⟩
def W5:cq:=qs [qZ 8 0,qZ 9 0] (.seq (.seq (.d_ [qM 10 0,qM 11 2,qI 12 1 10 11,qL 13 12,qM 14 0,qM 15 1,qI 16 1 14 15,qL 17 16,qK 18 118 [13,17]] [[],[],[0,1],[0,1,2],[],[],[4,5],[4,5,6],(rg 8)] []) (.cond (.t 18) (qs [qM 19 3,qX 20 19,qL 21 20,qC 22 .add 21 1,qX 23 19,oN (.store 1 (.t 23) (.t 22))] (qs [qM 24 2,qM 25 1,qM 8 24,qM 9 25] .ret)) .skip)) (qs [qM 26 1,qM 27 2,qM 8 26,qM 9 27] .ret))
def UE:bk:=⟨4,28,[.tmp 8,.tmp 9],W5.code⟩
def W4:cq:=qs [o 0 (.mv (.c (.aq)))] (qs [o 1 (.de 16 (List.replicate 16 (.str ⟨#[]⟩)) [(0,1,(.c (.str ⟨#[99,104,97,110]⟩))),(1,1,(.c (.str ⟨#[98,108,111,99,107]⟩))),(2,1,(.c (.str ⟨#[100,114,111,112]⟩))),(3,1,(.c (.str ⟨#[108,111,115,115,121]⟩))),(4,1,(.c (.str ⟨#[102,114,111,109]⟩))),(5,1,(.c (.str ⟨#[116,111]⟩))),(6,1,(.c (.str ⟨#[114,117,108,101]⟩))),(7,1,(.c (.str ⟨#[112,114,111,99]⟩))),(8,1,(.c (.str ⟨#[118,97,114]⟩))),(9,1,(.c (.str ⟨#[105,102]⟩))),(10,1,(.c (.str ⟨#[101,108,115,101]⟩))),(11,1,(.c (.str ⟨#[119,104,105,108,101]⟩))),(12,1,(.c (.str ⟨#[115,101,110,100]⟩))),(13,1,(.c (.str ⟨#[114,101,99,118]⟩))),(14,1,(.c (.str ⟨#[97,115,115,101,114,116]⟩))),(15,1,(.c (.str ⟨#[105,110,112,117,116]⟩)))]),qM 0 1] .ret)
def UD:bk:=⟨0,2,[.tmp 0],W4.code⟩
def Zc:bk:=⟨3,32,[.tmp 6],(.seq (.cr [qY 6 false]) (.seq (.seq (.cr [qM 10 0,qN 11 10,qM 12 1,qN 13 12,qB 14 .neq 11 13]) (.cond (.t 14) (.seq (.cr [qY 6 false]) .ret) .skip)) (.seq (.seq (.cr [qM 15 0,qN 16 15,qZ 17 0]) (.block 0 (.loop (.seq (.cr [qB 18 .lss 17 16]) (.seq (.cond (.t 18) .skip (.exit 0)) (.seq (.block 1 (.seq (.cr [qM 19 17,qI 20 4 15 17,qG 21 4 20,o 8 (.alloc [zi,zi,zi,.aq]),qM 7 19,oN (.store 4 (.t 8) (.t 21))]) (.seq (.cr [qM 22 1,qM 23 7,qI 24 4 22 23,qG 25 4 24,o 9 (.alloc [zi,zi,zi,.aq]),oN (.store 4 (.t 9) (.t 25))]) (.seq (.cr [qM 26 2,qG 27 4 8,qG 28 4 9,o 29 (.kn (.t 26) [.t 27,.t 28] .borrow),qU 30 29]) (.cond (.t 30) (.seq (.cr [qY 6 false]) .ret) .skip))))) (.cr [qC 31 .add 17 1,qM 17 31]))))))) (.seq (.cr [qY 6 true]) .ret))))⟩
def prog:Map bk:=.node none (.node none (.node none (.node none (.node none (.node none (.node (some a63) (.node (some U3) (.leaf) (.leaf)) (.leaf)) (.node (some a95) (.node (some UH) (.leaf) (.leaf)) (.leaf))) (.node none (.node none (.node (some UY) (.leaf) (.leaf)) (.leaf)) (.node (some Ve) (.leaf) (.leaf)))) (.node none (.node none (.node (some a71) (.leaf) (.leaf)) (.node none (.node (some UE) (.leaf) (.leaf)) (.leaf))) (.node none (.node (some a87) (.node (some UP) (.leaf) (.leaf)) (.leaf)) (.node (some U6) (.leaf) (.leaf))))) (.node none (.node none (.node none (.node (some a67) (.leaf) (.leaf)) (.node (some a99) (.node (some Zf) (.leaf) (.leaf)) (.leaf))) (.node none (.node (some a83) (.node (some UT) (.leaf) (.leaf)) (.leaf)) (.node (some U_) (.leaf) (.leaf)))) (.node none (.node (some a43) (.node (some a75) (.node (some Zh) (.leaf) (.leaf)) (.leaf)) (.node (some Vi) (.leaf) (.leaf))) (.node none (.node none (.node (some UL) (.leaf) (.leaf)) (.leaf)) (.leaf))))) (.node none (.node none (.node none (.node none (.node none (.node (some U1) (.leaf) (.leaf)) (.leaf)) (.node (some a97) (.leaf) (.leaf))) (.node (some a49) (.node (some a81) (.node (some UW) (.leaf) (.leaf)) (.leaf)) (.node (some Vb) (.leaf) (.leaf)))) (.node none (.node (some a41) (.node none (.node (some Zj) (.leaf) (.leaf)) (.leaf)) (.node (some Vk) (.node (some Zc) (.leaf) (.leaf)) (.leaf))) (.node none (.node none (.node (some UN) (.leaf) (.leaf)) (.leaf)) (.node (some Zl) (.leaf) (.leaf))))) (.node none (.node none (.node none (.node (some a69) (.leaf) (.leaf)) (.node (some Zn) (.node (some Zd) (.leaf) (.leaf)) (.leaf))) (.node (some a53) (.node (some a85) (.node (some UR) (.leaf) (.leaf)) (.leaf)) (.node (some U8) (.leaf) (.leaf)))) (.node none (.node none (.node none (.node (some U0) (.leaf) (.leaf)) (.leaf)) (.node (some Vg) (.leaf) (.leaf))) (.node (some a61) (.node (some a93) (.node (some UJ) (.leaf) (.leaf)) (.leaf)) (.leaf)))))) (.node none (.node none (.node none (.node none (.node none (.node (some a64) (.node (some U2) (.leaf) (.leaf)) (.leaf)) (.node (some a96) (.node (some UG) (.leaf) (.leaf)) (.leaf))) (.node none (.node none (.node (some UX) (.leaf) (.leaf)) (.leaf)) (.node (some Vd) (.leaf) (.leaf)))) (.node none (.node none (.node (some a72) (.node (some Zk) (.leaf) (.leaf)) (.leaf)) (.node (some Vl) (.node (some UD) (.leaf) (.leaf)) (.leaf))) (.node (some a56) (.node (some a88) (.node (some UO) (.leaf) (.leaf)) (.leaf)) (.node (some U5) (.leaf) (.leaf))))) (.node none (.node none (.node (some a36) (.node (some a68) (.leaf) (.leaf)) (.node (some Zo) (.node (some Ze) (.leaf) (.leaf)) (.leaf))) (.node none (.node (some a84) (.node (some US) (.leaf) (.leaf)) (.leaf)) (.node (some U9) (.leaf) (.leaf)))) (.node none (.node (some a44) (.node none (.node (some Zg) (.leaf) (.leaf)) (.leaf)) (.node (some Vh) (.leaf) (.leaf))) (.node (some a60) (.node (some a92) (.node (some UK) (.leaf) (.leaf)) (.leaf)) (.leaf))))) (.node none (.node none (.node none (.leaf) (.node (some a50) (.node (some a82) (.node (some UU) (.leaf) (.leaf)) (.leaf)) (.node (some Va) (.leaf) (.leaf)))) (.node none (.node none (.node (some a74) (.node (some Zi) (.leaf) (.leaf)) (.leaf)) (.node (some Vj) (.leaf) (.leaf))) (.node none (.node none (.node (some UM) (.leaf) (.leaf)) (.leaf)) (.node (some U4) (.leaf) (.leaf))))) (.node (some a14) (.node none (.node none (.node (some a70) (.leaf) (.leaf)) (.node (some Zm) (.node (some UF) (.leaf) (.leaf)) (.leaf))) (.node none (.node (some a86) (.node (some UQ) (.leaf) (.leaf)) (.leaf)) (.node (some U7) (.leaf) (.leaf)))) (.node none (.node (some a46) (.node none (.node (some UZ) (.leaf) (.leaf)) (.leaf)) (.node (some Vf) (.leaf) (.leaf))) (.node (some a62) (.node (some a94) (.node (some UI) (.leaf) (.leaf)) (.leaf)) (.leaf))))))
end Go.Ax.eo

namespace Go.Ax.V
theorem Hl:∀(cs:List TV) (n:Nat),Dq cs n=if n<=cs.length then some (cs.take n) else none
 |cs,0=>by simp [Dq]
 |[],n+1=>by simp [Dq]
 |x::xs,n+1=>by
  simp only [Dq,Hl xs n,List.length_cons,Nat.add_le_add_iff_right,List.take_succ_cons]
  by_cases h:n<=xs.length
  ·rw [if_pos h,if_pos h]
  ·rw [if_neg h,if_neg h]
theorem MV:∀(cs:List TV) (off n:Nat),NX cs off n=if off+n<=cs.length then some ((cs.drop off).take n) else none
 |cs,0,n=>by simp [NX,Hl]
 |[],o+1,n=>by simp [NX]
 |x::xs,o+1,n=>by
  simp only [NX,MV xs o n,List.length_cons,List.drop_succ_cons]
  by_cases h:o+n<=xs.length
  ·rw [if_pos h,if_pos (by omega)]
  ·rw [if_neg h,if_neg (by omega)]
theorem GO:∀(cells cs:List TV),z8 cells cs=if cs.length<=cells.length then some (cs++cells.drop cs.length) else none
 |cells,[]=>by cases cells<;>simp [z8]
 |[],y::ys=>by simp [z8]
 |x::xs,y::ys=>by
  simp only [z8,GO xs ys,List.length_cons,Nat.add_le_add_iff_right,List.drop_succ_cons,List.cons_append]
  by_cases h:ys.length<=xs.length
  ·rw [if_pos h,if_pos h]
  ·rw [if_neg h,if_neg h]
theorem Jp:∀(cells:List TV) (off:Nat) (cs:List TV),Cn cells off cs=if off+cs.length<=cells.length then some (cells.take off++cs++cells.drop (off+cs.length)) else none
 |cells,0,cs=>by cases cells<;>simp [Cn,GO]
 |[],o+1,cs=>by simp [Cn]
 |x::xs,o+1,cs=>by
  simp only [Cn,Jp xs o cs,List.length_cons]
  by_cases h:o+cs.length<=xs.length
  ·rw [if_pos h,if_pos (by omega)]
   simp [show o+1+cs.length=o+cs.length+1 by omega]
  ·rw [if_neg h,if_neg (by omega)]
theorem R2 {cells cs:List TV} {off:Nat} (h:off+cs.length<=cells.length) (j:Nat) :
  (cells.take off++cs++cells.drop (off+cs.length))[j]?=if off<=j/\j < off+cs.length then cs[j - off]? else cells[j]?:=by
 have h1:(cells.take off).length=off:=by rw [List.length_take];omega
 rw [List.append_assoc]
 by_cases ha:j < off
 ·rw [List.getElem?_append_left (by omega),if_neg (by omega),List.getElem?_take,if_pos ha]
 ·rw [List.getElem?_append_right (by omega),h1]
  by_cases hb:j < off+cs.length
  ·rw [List.getElem?_append_left (by omega),if_pos (by omega)]
  ·rw [List.getElem?_append_right (by omega),if_neg (by omega),List.getElem?_drop]
   congr 1;omega
theorem MJ {a:AV} (h:a.flat=true):a.one=true/\a.cells?=some [a]/\a.qg=true:=by
 cases a<;>first|exact⟨rfl,rfl,rfl⟩|cases h
theorem ES {a:AV} (h:TH a=true):a.flat=true:=by
 cases a<;>first|rfl|cases h
theorem N3 {t:TV} {a:AV} (h:Can t a) (h1:t.one=true):a.flat=true:=by
 cases h<;>first|rfl|exact ES (by assumption)|cases h1
theorem lV {v:TV} {cells:List AV}:CX v cells↔∃ts,gk v=some ts/\p_ ts cells:=by
 constructor
 ·intro h
  cases h with
  |one _ x h1 h=>
   refine⟨[v],(by cases v<;>first|rfl|cases h1),rfl,fun j t y ht hy=>?_⟩
   cases j with
   |zero=>simp at ht hy;subst ht;subst hy;exact h
   |succ j=>simp at ht
  |a ts _ hl h=>exact⟨ts,rfl,hl,h⟩
 ·rintro⟨ts,h1,hl,h⟩
  cases v with
  |a cs=>cases h1;exact .a _ _ hl h
  |tp vs=>cases h1
  |_=>
   cases h1
   match cells,hl with
   |[x],_=>exact .one _ _ rfl (h 0 _ _ rfl rfl)
def Og (ts:List TV) (cs:List AV):Prop:=p_ ts cs/\∀x∈cs,AV.flat x=true
theorem Dy {t:TV} {a:AV} {ts:List TV} (h:Can t a) (hc:gk t=some ts):∃as,a.cells?=some as/\Og ts as:=by
 have single:∀{t:TV} {a:AV},Can t a->t.one=true->Og [t] [a]:=fun h h1=>⟨⟨rfl,fun j u y hu hy=>by
  cases j with
  |zero=>simp at hu hy;subst hu;subst hy;exact h
  |succ j=>simp at hu⟩,fun x hx=>by simp at hx;subst hx;exact N3 h h1⟩
 cases h with
 |a ts as hl hf h=>cases hc;exact⟨as,rfl,⟨hl,h⟩,hf⟩
 |tp ts as hl hf h=>cases hc
 |i k n=>cases hc;exact⟨_,rfl,single (.i k n) rfl⟩
 |b x=>cases hc;exact⟨_,rfl,single (.b x) rfl⟩
 |s x=>cases hc;exact⟨_,rfl,single (.s x) rfl⟩
 |f n=>cases hc;exact⟨_,rfl,single (.f n) rfl⟩
 |np=>cases hc;exact⟨_,rfl,single .np rfl⟩
 |nil=>cases hc;exact⟨_,rfl,single .nil rfl⟩
 |jq es cs n sz c hn hc' hz hf h=>cases hc;exact⟨_,rfl,single (.jq es cs n sz c hn hc' hz hf h) rfl⟩
 |BK x u hf h=>cases hc;exact⟨_,(MJ (ES hf)).2.1,single (.BK a u hf h) rfl⟩
theorem u9 {v r:TV} {off:Nat} (h:bh v off=some r):∃ts,gk v=some ts/\ts[off]?=some r:=by
 cases v with
 |a cs=>exact⟨cs,rfl,h⟩
 |tp vs=>cases h
 |_=>cases off with
  |zero=>cases h;exact⟨_,rfl,rfl⟩
  |succ n=>cases h
theorem Gz {v r:TV} {off n:Nat} (h:c8 v off n=some r):∃ts,v=.a ts/\gk v=some ts/\off+n<=ts.length/\r=.a ((ts.drop off).take n):=by
 cases v with
 |a cs=>
  simp only [c8,MV] at h
  by_cases hl:off+n<=cs.length
  ·rw [if_pos hl] at h;cases h;exact⟨cs,rfl,rfl,hl,rfl⟩
  ·rw [if_neg hl] at h;cases h
 |_=>cases h
theorem gy {v u x:TV} {off n:Nat} (h:av v off n x=some u):∃ts xs us,gk v=some ts/\gk x=some xs/\xs.length=n/\gk u=some us/\us.length=ts.length/\off+n<=ts.length/\
  ∀j,us[j]?=if off<=j/\j < off+n then xs[j - off]? else ts[j]?:=by
 unfold av at h
 split at h
 ·cases h
 rename_i xs hx
 simp only [cond_eq_ite,Nat.beq_eq] at h
 split at h
 rotate_left
 ·cases h
 rename_i hn
 have one:∀{w:TV},gk v=some [w]->(if (Nat.beq off 0&&x.one)=true then some x else none)=some u->
   ∃ts xs us,gk v=some ts/\gk x=some xs/\xs.length=n/\gk u=some us/\us.length=ts.length/\off+n<=ts.length/\∀j,us[j]?=if off<=j/\j < off+n then xs[j - off]? else ts[j]?:=by
  intro w hv h
  simp only [Bool.and_eq_true,Nat.beq_eq] at h
  split at h
  rotate_left
  ·cases h
  rename_i hc
  obtain⟨h0,h1⟩:=hc
  have hu:=Option.some.inj h
  subst hu
  have hx1:xs=[x]:=by
   cases x<;>first|(simp only [gk,Option.some.injEq] at hx;exact hx.symm)|(simp [TV.one] at h1)
  subst hx1
  simp at hn
  subst hn
  subst h0
  refine⟨[w],[x],[x],hv,hx,rfl,hx,rfl,by simp,fun j=>?_⟩
  cases j with
  |zero=>simp
  |succ j=>simp
 cases v with
 |a cs=>
  simp only [Jp] at h
  by_cases hl:off+xs.length<=cs.length
  ·rw [if_pos hl] at h
   cases h
   refine⟨cs,xs,_,rfl,hx,hn,rfl,?_,by omega,fun j=>?_⟩
   ·simp only [List.length_append,List.length_take,List.length_drop];omega
   ·rw [R2 hl,hn]
  ·rw [if_neg hl] at h;cases h
 |tp vs=>cases h
 |_=>exact one rfl h
theorem Hv {ts:List TV} {cs:List AV} (h:p_ ts cs) (off n:Nat):p_ ((ts.drop off).take n) ((cs.drop off).take n):=by
 refine⟨by simp [h.1],fun j t x ht hx=>?_⟩
 simp only [List.getElem?_take] at ht hx
 split at ht
 ·rename_i hj
  rw [if_pos hj] at hx
  simp only [List.getElem?_drop] at ht hx
  exact h.2 _ _ _ ht hx
 ·cases ht
theorem qj {cs:List AV} (h:∀x∈cs,AV.flat x=true) (off n:Nat):∀x∈(cs.drop off).take n,AV.flat x=true:=
 fun x hx=>h x (List.mem_of_mem_drop (List.mem_of_mem_take hx))
theorem Cz {v r:TV} {ts:List TV} {cs:List AV} {off:Nat} {sz:Option Nat} (hv:gk v=some ts) (hc:Og ts cs) (h:ny v off sz=some r) :
  ∃l a,cut cs off (gC sz)=some l/\Lf sz l=some a/\Can r a:=by
 cases sz with
 |none=>
  obtain⟨ts',h1,h2⟩:=u9 h
  rw [hv] at h1;cases h1
  have hlt:off < ts.length:=by
   cases hh:ts[off]? with
   |none=>rw [hh] at h2;cases h2
   |some _=>exact(List.getElem?_eq_some_iff.1 hh).1
  have hlt':off < cs.length:=by rw [←hc.1.1];exact hlt
  have hx:cs[off]?=some cs[off]:=List.getElem?_eq_getElem hlt'
  refine⟨[cs[off]],cs[off],?_,rfl,hc.1.2 _ _ _ h2 hx⟩
  rw [js,gC,if_pos (by omega)]
  rw [List.drop_eq_getElem_cons hlt']
  rfl
 |some n=>
  obtain⟨ts',h0,h1,hl,rfl⟩:=Gz h
  rw [hv] at h1;cases h1
  have hl':off+n<=cs.length:=by rw [←hc.1.1];exact hl
  refine⟨(cs.drop off).take n,.agg _,?_,rfl,?_⟩
  ·rw [js,gC,if_pos hl']
  ·exact .a _ _ (Hv hc.1 _ _).1 (qj hc.2 _ _) (Hv hc.1 _ _).2
theorem tj {t:TV} {x a:AV} (h:CH t=some x) (hc:Can t a):a=x:=by
 cases hc<;>first|(cases h;rfl)|cases h
theorem Dp {r:AV} {t:TV} (h:JW r=some t):Can t r:=by
 cases r<;>first|(cases h;constructor)|cases h
theorem QH {op:BinOp} {x y r:TV} {a b:AV} (h:b8 op x y=some r) (ha:Can x a) (hb:Can y b):∃c,Ko op a b=some c/\Can r c:=by
 unfold b8 at h
 split at h
 ·rename_i x' hx
  split at h
  ·rename_i y' hy
   split at h
   ·rename_i c hc
    rw [tj hx ha,tj hy hb]
    exact⟨c,hc,Dp h⟩
   ·cases h
  ·cases h
 ·cases h
theorem RD {op:UnOp} {x r:TV} {a:AV} (h:oe op x=some r) (ha:Can x a):∃c,Th op a=some c/\Can r c:=by
 unfold oe at h
 split at h
 ·rename_i x' hx
  split at h
  ·rename_i c hc
   rw [tj hx ha]
   exact⟨c,hc,Dp h⟩
  ·cases h
 ·cases h
theorem yp:∀{ts:List TV} {xs as:List AV},Aj ts=some xs->p_ ts as->as=xs
 |[],xs,as,h,hc=>by cases h;exact List.length_eq_zero_iff.1 hc.1.symm
 |t::ts,xs,as,h,hc=>by
  simp only [Aj] at h
  split at h
  ·cases h
  rename_i x hx
  split at h
  ·cases h
  rename_i l hl
  cases h
  cases as with
  |nil=>cases hc.1
  |cons a as=>
   rw [tj hx (hc.2 0 t a rfl rfl),yp hl ⟨Nat.succ.inj hc.1,fun j u y hu hy=>hc.2 (j+1) u y hu hy⟩]
end Go.Ax.V

namespace Go.Ax.V
theorem ei (j i:Nat) (w:VV) (r:List (Nat×VV)):fc j ((i,w)::r)=if i=j then some w else fc j r:=by
 simp only [fc,cond_eq_ite,Nat.beq_eq]
theorem Ff (off:Nat) (r:List (Nat×VV)) (j:Nat):∀l,fc j (Cr off l r)=match (if off<=j then fc (j - off) l else none) with|some w=>some w|none=>fc j r
 |[]=>by simp only [Cr,fc];split<;>simp_all
 |(i,w)::l=>by
  simp only [Cr,ei,Ff off r j l]
  by_cases h:off<=j
  ·simp only [if_pos h]
   by_cases e:i=j - off
   ·rw [if_pos (by omega),if_pos e]
   ·rw [if_neg (by omega),if_neg e]
  ·simp only [if_neg h]
   rw [if_neg (by omega)]
theorem nv (off n j:Nat):∀l,fc j (v9 off n l)=if off<=j/\j < off+n then none else fc j l
 |[]=>by simp [v9,fc]
 |(i,w)::l=>by
  simp only [v9,cond_eq_ite,Bool.and_eq_true,Nat.ble_eq,Nat.blt_eq]
  by_cases h:off<=i/\i < off+n
  ·rw [if_pos h,nv off n j l,ei]
   by_cases e:i=j
   ·subst e;rw [if_pos h,if_pos h]
   ·rw [if_neg e]
  ·rw [if_neg h,ei,ei,nv off n j l]
   by_cases e:i=j
   ·subst e;rw [if_pos rfl,if_neg h,if_pos rfl]
   ·rw [if_neg e,if_neg e]
theorem Cq (off n j:Nat):∀l,fc j (v8 off n l)=if j < n then fc (j+off) l else none
 |[]=>by simp [v8,fc]
 |(i,w)::l=>by
  simp only [v8,cond_eq_ite,Bool.and_eq_true,Nat.ble_eq,Nat.blt_eq]
  by_cases h:off<=i/\i < off+n
  ·rw [if_pos h,ei,Cq off n j l,ei]
   by_cases e:i - off=j
   ·rw [if_pos e,if_pos (by omega),if_pos (by omega)]
   ·rw [if_neg e]
    by_cases hj:j < n
    ·rw [if_pos hj,if_pos hj,if_neg (by omega)]
    ·rw [if_neg hj,if_neg hj]
  ·rw [if_neg h,Cq off n j l,ei]
   by_cases hj:j < n
   ·rw [if_pos hj,if_pos hj,if_neg (by omega)]
   ·rw [if_neg hj,if_neg hj]
inductive TN where
 |s (O:Nat)
 |i (O ver j:Nat)
instance:Coe Nat TN:=⟨TN.s⟩
def TN.base:TN->Nat
 |.s O=>O
 |.i O _ _=>O
abbrev ee:=TN->Option AV
def gM:AV->Option Nat
 |.ptr id _ _=>some id
 |.ref id _ _ _ _ _ _=>some id
 |_=>none
def HC (A:ee) (w:VV) (x:AV):Prop:=match w with
 |.gi=>x=.aq\/x=.jq [] 0 (some 0)
 |.sl O=>A O=some x
 |.ow O v i=>A (.i O v i)=some x
 |_=>False
def Rj (A:ee) (o:Option VV) (t:TV) (x:AV):Prop:=match o with
 |none=>Can t x/\x.flat=true
 |some w=>HC A w x
structure en (A:ee) (v:TV) (ovs:List (Nat×VV)) (cs:List AV) (ts:List TV):Prop where
 cells:gk v=some ts
 len:ts.length=cs.length
 keys:∀j w,fc j ovs=some w->j < ts.length
 at_:∀(j:Nat) (t:TV) (x:AV),ts[j]?=some t->cs[j]?=some x->Rj A (fc j ovs) t x
inductive VR (A:ee):VV->AV->Prop where
 |bad {a}:VR A .bad a
 |tr {v a} (h:Can v a):VR A (.tr v) a
 |gi:VR A .gi .aq
 |zf:VR A .gi (.jq [] 0 (some 0))
 |ptr {O off:Nat} {id} (h:A O=some (.ptr id 0 0)):VR A (.ptr O off) (.ptr id 0 off)
 |pd {O off:Nat} {id} (h:A O=some (.ptr id 0 0)):VR A (.pd O off) (.ptr id 0 off)
 |sl {O:Nat} {a} (h:A O=some a):VR A (.sl O) a
 |ea {O i off:Nat} {id g b sz len cap ex} (h:A O=some (.ref id g b sz len cap ex)):VR A (.ea O i off) (.ptr id g (b+i*sz+off))
 |pt {v cs b off n} (hl:b+n<=cs.length) (hf:∀x∈cs,AV.flat x=true) (h:CX v ((cs.drop b).take n)):VR A (.pt v off) (.oV cs (b+off))
 |st {v ovs cs ts} (hv:v=.a ts) (h:en A v ovs cs ts):VR A (.st v ovs) (.agg cs)
 |ow {O v i a} (h:A (.i O v i)=some a):VR A (.ow O v i) a
 |e2 {O v i k off id g b sz len cap ex} (h:A (.i O v i)=some (.ref id g b sz len cap ex)):VR A (.e2 O v i k off) (.ptr id g (b+k*sz+off))
 |gl {s io es cs} (hs:0 < s) (hio:io < s) (hl:cs.length=es.length*s) (hf:∀x∈cs,AV.flat x=true)
   (h:∀(j:Nat) (e:TV),es[j]?=some e->∃ts,gk e=some ts/\ts.length=s/\(∀(o:Nat) t x,o≠io->ts[o]?=some t->cs[j*s+o]?=some x->Can t x)/\
    ts[io]?=some (.l [])/\∀x,cs[j*s+io]?=some x->x=.aq\/x=.jq [] 0 (some 0)):VR A (.gl s io es) (.jq cs es.length (some es.length))
structure M5 (sz:Nat) (es:List TV) (cs:List AV):Prop where
 len:cs.length=es.length*sz
 flat:∀x∈cs,AV.flat x=true
 el:∀(j:Nat) (e:TV),es[j]?=some e->CX e ((cs.drop (j*sz)).take sz)
def Eg (H:cw) (sz:Nat) (es:List TV) (a:AV):Prop:=0 < sz/\((es=[]/\(a=.aq\/a=.jq [] 0 (some 0)))\/
 ∃id g b cells,a=.ref id g b sz es.length es.length false/\H.get id=some (.row g cells)/\b<=cells.length/\M5 sz es (cells.drop b))
structure Ok (A:ee) (H:cw) (K s io iz ver:Nat) (hole:Option Nat) (es:List TV) (cs:List AV):Prop where
 len:cs.length=es.length*s
 el:∀(j:Nat) (e:TV),es[j]?=some e->∃ts,gk e=some ts/\ts.length=s/\(∀(o:Nat) t x,o≠io->ts[o]?=some t->cs[j*s+o]?=some x->Can t x/\x.flat=true)/\
  ∃x,cs[j*s+io]?=some x/\A (.i K ver j)=some x/\(hole≠some j->∃l,ts[io]?=some (.l l)/\Eg H iz l x)
def OR (A:ee) (H:cw) (o:VO) (a:AV):Prop:=match o with
 |.ob v ovs=>∃id cs ts,a=.ptr id 0 0/\H.get id=some (.row 0 cs)/\en A v ovs cs ts
 |.gr sz es=>Eg H sz es a
 |.gn K s io iz ver hole es=>0 < s/\io < s/\0 < iz/\((es=[]/\(a=.aq\/a=.jq [] 0 (some 0)))\/
   ∃id g b cells,a=.ref id g b s es.length es.length false/\H.get id=some (.row g cells)/\b<=cells.length/\Ok A H K s io iz ver hole es (cells.drop b))
def jJ (A:ee) (o:VO) (a:AV) (id:Nat):Prop:=gM a=some id\/match o with
 |.gn K _ _ _ ver hole _=>∃j x,hole≠some j/\A (.i K ver j)=some x/\gM x=some id
 |_=>False
theorem jh {A:ee} {o:VO} {a:AV} {id:Nat} (h:o.pl=true):jJ A o a id↔gM a=some id:=by
 cases o<;>first|(cases h;done)|simp [jJ]
def q_ (A:ee) (O:Nat) (a:AV) (o:VO):Prop:=match o with
 |.gn K _ _ _ ver hole es=>K=O/\(∀v j,ver < v->A (.i K v j)=none)/\(∀j x,A (.i K ver j)=some x->j < es.length)/\
   (∀j j' x x' id,hole≠some j->hole≠some j'->A (.i K ver j)=some x->A (.i K ver j')=some x'->gM x=some id->gM x'=some id->j=j')/\
   (∀j x id,hole≠some j->A (.i K ver j)=some x->gM x=some id->gM a≠some id)
 |_=>True
theorem EG {A:ee} {O:Nat} {o:VO} {a:AV} (h:o.pl=true):q_ A O a o:=by
 cases o<;>first|(cases h;done)|trivial
structure R (A:ee) (V:cg) (st:St):Prop where
 env:∀t e,V.env.get t=some e->∃a,st.env.get t=some a/\((∀c bb,e.gd=some (c,bb)->c=.b bb)->VR A e.v a)
 heap:∀(O:Nat) o,V.H.get O=some o->∃a,A O=some a/\OR A st.H o a
 inj:∀(O O':Nat) o o' a a' id,V.H.get O=some o->V.H.get O'=some o'->A O=some a->A O'=some a'->jJ A o a id->jJ A o' a' id->O=O'
 used:∀n:TN,V.us.get n.base=none->A n=none
 one:∀n a,A n=some a->a.one=true
 fresh:∀id o,st.H.get id=some o->id < st.nx
 lZ:∀(O:Nat) o a,V.H.get O=some o->A O=some a->q_ A O a o
def gR (V:cg) (A:ee) (id:Nat):Prop:=∃(O:Nat) (o:VO) (a:AV),V.H.get O=some o/\A O=some a/\jJ A o a id
structure Fr (V:cg) (A:ee) (H:cw) (nx:Nat) (V':cg) (A':ee) (H':cw) (nx':Nat):Prop where
 le:nx<=nx'
 same:∀id,id < nx->¬gR V A id->H'.get id=H.get id
 own:∀id,gR V' A' id->gR V A id\/nx<=id
theorem Fr.refl (V:cg) (A:ee) (H:cw) (nx:Nat):Fr V A H nx V A H nx:=⟨Nat.le_refl _,fun _ _ _=>rfl,fun _ h=>.inl h⟩
theorem Fr.trans {V A H nx V1 A1 H1 CY V2 A2 H2 nx2} (h:Fr V A H nx V1 A1 H1 CY) (h':Fr V1 A1 H1 CY V2 A2 H2 nx2):Fr V A H nx V2 A2 H2 nx2 where
 le:=Nat.le_trans h.le h'.le
 same id hid hn:=by
  rw [h'.same id (Nat.lt_of_lt_of_le hid h.le) (fun ho=>(h.own id ho).elim hn (fun hle=>by omega)),h.same id hid hn]
 own id ho:=(h'.own id ho).elim (fun h1=>h.own id h1) (fun hle=>.inr (Nat.le_trans h.le hle))
theorem Fr.VM {V V':cg} {A:ee} {H:cw} {nx:Nat} (h:∀O o,V'.H.get O=some o->V.H.get O=some o):Fr V A H nx V' A H nx:=
 ⟨Nat.le_refl _,fun _ _ _=>rfl,fun _ ⟨O,o,a,h1,h2,h3⟩=>.inl ⟨O,o,a,h O o h1,h2,h3⟩⟩
def act:G->Prop
 |none=>True
 |some (c,bb)=>c=.b bb
theorem HC.mono {A A':ee} (h:∀O a,A O=some a->A' O=some a) {w:VV} {x:AV} (hs:HC A w x):HC A' w x:=by
 cases w<;>first|exact hs|exact h _ _ hs
theorem en.mono {A A':ee} (h:∀O a,A O=some a->A' O=some a) {v:TV} {ovs:List (Nat×VV)} {cs:List AV} {ts:List TV} (hc:en A v ovs cs ts):en A' v ovs cs ts:=
 ⟨hc.cells,hc.len,hc.keys,fun j t x ht hx=>by
  have:=hc.at_ j t x ht hx
  unfold Rj at this ⊢
  split at this
  ·exact this
  ·exact HC.mono h this⟩
theorem VR.mono {A A':ee} (h:∀O a,A O=some a->A' O=some a) {w:VV} {x:AV} (hv:VR A w x):VR A' w x:=by
 cases hv with
 |bad=>exact .bad
 |tr h=>exact .tr h
 |gi=>exact .gi
 |zf=>exact .zf
 |ptr h1=>exact .ptr (h _ _ h1)
 |pd h1=>exact .pd (h _ _ h1)
 |sl h1=>exact .sl (h _ _ h1)
 |ea h1=>exact .ea (h _ _ h1)
 |pt hl hf h1=>exact .pt hl hf h1
 |st hv h1=>exact .st hv (h1.mono h)
 |ow h1=>exact .ow (h _ _ h1)
 |e2 h1=>exact .e2 (h _ _ h1)
 |gl h1 h2 h3 h4 h5=>exact .gl h1 h2 h3 h4 h5
theorem Eg.mono {H H':cw} {sz:Nat} {es:List TV} {a:AV} (hH:∀id,gM a=some id->H'.get id=H.get id) (ho:Eg H sz es a):Eg H' sz es a:=by
 obtain⟨hz,h1⟩:=ho
 refine⟨hz,h1.imp id ?_⟩
 rintro⟨id,g,b,cells,rfl,h2,h3,h4⟩
 exact⟨id,g,b,cells,rfl,by rw [hH id rfl];exact h2,h3,h4⟩
theorem Eg.there {H:cw} {sz:Nat} {es:List TV} {a:AV} (ho:Eg H sz es a) {id:Nat} (hi:gM a=some id):∃ob,H.get id=some ob:=by
 obtain⟨hz,h1⟩:=ho
 rcases h1 with ⟨_,rfl|rfl⟩|⟨id',g,b,cells,rfl,h2,_⟩
 ·cases hi
 ·cases hi
 ·cases hi;exact⟨_,h2⟩
theorem OR.mono {A A':ee} {H H':cw} (h:∀O a,A O=some a->A' O=some a) {o:VO} {a:AV} (hH:∀id,jJ A o a id->H'.get id=H.get id) (ho:OR A H o a):OR A' H' o a:=by
 cases o with
 |ob v ovs=>
  obtain⟨id,cs,ts,rfl,h2,h3⟩:=ho
  exact⟨id,cs,ts,rfl,by rw [hH id (.inl rfl)];exact h2,h3.mono h⟩
 |gr sz es=>exact Eg.mono (fun id hi=>hH id (.inl hi)) ho
 |gn K s io iz ver hole es=>
  obtain⟨h1,h2,h3,h4⟩:=ho
  refine⟨h1,h2,h3,h4.imp id ?_⟩
  rintro⟨id,g,b,cells,rfl,h5,h6,h7⟩
  refine⟨id,g,b,cells,rfl,by rw [hH id (.inl rfl)];exact h5,h6,h7.len,fun j e he=>?_⟩
  obtain⟨ts,g1,g2,g3,x,g4,g5,g6⟩:=h7.el j e he
  refine⟨ts,g1,g2,g3,x,g4,h _ _ g5,fun hn=>?_⟩
  obtain⟨l,g7,g8⟩:=g6 hn
  exact⟨l,g7,g8.mono fun id' hi=>hH id' (.inr ⟨j,x,hn,g5,hi⟩)⟩
theorem Sj {A A':ee} (h:∀O a,A O=some a->A' O=some a) {o:VO} {a:AV} {id:Nat} (hi:jJ A o a id):jJ A' o a id:=by
 rcases hi with hi|hi
 ·exact .inl hi
 ·cases o with
  |gn K s io iz ver hole es=>obtain⟨j,x,h2,h3,h4⟩:=hi;exact .inr ⟨j,x,h2,h _ _ h3,h4⟩
  |_=>cases hi
theorem OR.there {A:ee} {H:cw} {O:Nat} {o:VO} {a:AV} (ho:OR A H o a) (hv:q_ A O a o) {id:Nat} (hi:jJ A o a id):∃ob,H.get id=some ob:=by
 cases o with
 |ob v ovs=>obtain⟨id',cs,ts,rfl,h2,h3⟩:=ho;rw [jh rfl] at hi;cases hi;exact⟨_,h2⟩
 |gr sz es=>exact Eg.there ho ((jh rfl).1 hi)
 |gn K s io iz ver hole es=>
  obtain⟨_,_,_,ho⟩:=ho
  obtain⟨_,_,hfin,_⟩:=hv
  rcases ho with ⟨rfl,h0⟩|⟨id',g,b,cells,rfl,h5,h6,h7⟩
  ·rcases hi with hi|⟨j,x,_,h1,_⟩
   ·rcases h0 with rfl|rfl<;>cases hi
   ·have:=hfin j x h1;simp at this
  ·rcases hi with hi|⟨j,x,h2,h3,h4⟩
   ·cases hi;exact⟨_,h5⟩
   ·obtain⟨ts,g1,g2,g3,x',g4,g5,g6⟩:=h7.el j _ (List.getElem?_eq_getElem (hfin j x h3))
    rw [h3] at g5;cases g5
    obtain⟨l,_,g8⟩:=g6 h2
    exact g8.there h4
theorem R.oR {A:ee} {V:cg} {st:St} (h:R A V st) {id:Nat} (ho:gR V A id):id < st.nx:=by
 obtain⟨O,o,a,h1,h2,h3⟩:=ho
 obtain⟨a',h4,h5⟩:=h.heap O o h1
 rw [h2] at h4;cases h4
 obtain⟨ob,h6⟩:=h5.there (h.lZ O o a h1 h2) h3
 exact h.fresh _ _ h6
structure wh (V V':cg):Prop where
 us:∀O,V'.us.get O=none->V.us.get O=none
 gn:∀K s io iz ver hole es,V'.H.get K=some (.gn K s io iz ver hole es)->V.us.get K=none\/∃s io iz v0 hole es,V.H.get K=some (.gn K s io iz v0 hole es)/\v0<=ver
theorem wh.refl (V:cg):wh V V:=⟨fun _ h=>h,fun K s io iz ver hole es h=>.inr ⟨s,io,iz,ver,hole,es,h,Nat.le_refl _⟩⟩
theorem wh.trans {V V1 V2:cg} (h:wh V V1) (h':wh V1 V2):wh V V2:=by
 refine⟨fun O hO=>h.us O (h'.us O hO),fun K s io iz ver hole es hK=>?_⟩
 rcases h'.gn K _ _ _ _ _ _ hK with h1|⟨s1,io1,iz1,v1,hole1,es1,h1,h2⟩
 ·exact .inl (h.us K h1)
 ·rcases h.gn K _ _ _ _ _ _ h1 with h3|⟨s2,io2,iz2,v2,hole2,es2,h3,h4⟩
  ·exact .inl h3
  ·exact .inr ⟨s2,io2,iz2,v2,hole2,es2,h3,Nat.le_trans h4 h2⟩
theorem wh.VM {V V':cg} (hu:V'.us=V.us) (hH:∀O o,V'.H.get O=some o->V.H.get O=some o):wh V V':=
 ⟨fun O h=>by rw [←hu];exact h,fun K s io iz ver hole es h=>.inr ⟨s,io,iz,ver,hole,es,hH _ _ h,Nat.le_refl _⟩⟩
theorem wh.set {V:cg} {O:Nat} {o:VO} (h:o.pl=true):wh V (ey V O o):=by
 refine⟨fun _ h=>h,fun K s io iz ver hole es hK=>?_⟩
 simp only [ey,Map.bt] at hK
 split at hK
 ·cases hK;cases h
 ·exact .inr ⟨s,io,iz,ver,hole,es,hK,Nat.le_refl _⟩
theorem wh.name {V:cg} {O:Nat} {o:VO} (h:V.us.get O=none):wh V {V with H:=V.H.put (some o) O,us:=V.us.put (some ()) O}:=by
 refine⟨fun O' hO=>?_,fun K s io iz ver hole es hK=>?_⟩
 ·simp only [Map.bt] at hO
  split at hO
  ·cases hO
  ·exact hO
 ·simp only [Map.bt] at hK
  split at hK
  ·rename_i e;subst e;exact .inl h
  ·exact .inr ⟨s,io,iz,ver,hole,es,hK,Nat.le_refl _⟩
structure Ext (V:cg) (A:ee) (V':cg) (A':ee):Prop where
 mono:∀n x,A n=some x->A' n=some x
 new:∀n x,A' n=some x->A n=some x\/V.us.get n.base=none\/∃K v j s io iz ver hole es,n=.i K v j/\V.H.get K=some (.gn K s io iz ver hole es)/\ver < v
 ev:wh V V'
theorem Ext.refl (V:cg) (A:ee):Ext V A V A:=⟨fun _ _ h=>h,fun _ _ h=>.inl h,wh.refl V⟩
theorem Ext.Lc {V V':cg} (A:ee) (h:wh V V'):Ext V A V' A:=⟨fun _ _ h=>h,fun _ _ h=>.inl h,h⟩
theorem Ext.trans {V V1 V2:cg} {A A1 A2:ee} (h:Ext V A V1 A1) (h':Ext V1 A1 V2 A2):Ext V A V2 A2:=by
 refine⟨fun n x hx=>h'.mono n x (h.mono n x hx),fun n x hx=>?_,h.ev.trans h'.ev⟩
 rcases h'.new n x hx with h1|h1|⟨K,v,j,s,io,iz,ver,hole,es,rfl,h2,h3⟩
 ·exact h.new n x h1
 ·exact .inr (.inl (h.ev.us _ h1))
 ·rcases h.ev.gn K _ _ _ _ _ _ h2 with h4|⟨s1,io1,iz1,v1,hole1,es1,h4,h5⟩
  ·exact .inr (.inl h4)
  ·exact .inr (.inr ⟨K,v,j,s1,io1,iz1,v1,hole1,es1,rfl,h4,by omega⟩)
theorem pg:Can (.l []) (.jq [] 0 (some 0)):=.jq [] [] 0 1 _ rfl rfl (by omega) (fun x hx=>by cases hx) (fun j e h=>by simp at h)
theorem vb {v:AV} (h:jz v=true):Can (F0 v) v/\v.flat=true:=by
 cases v<;>first|(cases h;done)|exact⟨by constructor,rfl⟩
theorem tn:∀l,(gE l).length=l.length
 |[]=>rfl
 |x::xs=>by simp [gE,tn xs]
theorem AA:∀(l:List AV) (j:Nat),(gE l)[j]?=l[j]?.map F0
 |[],j=>by simp [gE]
 |x::xs,0=>rfl
 |x::xs,j+1=>by simp [gE,AA xs j]
theorem Dg:∀(l:List AV) (i j:Nat),fc j (oU i l)=if i<=j then (match l[j - i]? with|some .aq=>some .gi|_=>none) else none
 |[],i,j=>by simp [oU,fc]
 |x::xs,i,j=>by
  have ih:=Dg xs (i+1) j
  have rest:(if i+1<=j then (match xs[j - (i+1)]? with|some .aq=>some VV.gi|_=>none) else none)=if i<=j then (if i=j then none else (match (x::xs)[j - i]? with|some .aq=>some .gi|_=>none)) else none:=by
   by_cases h:i+1<=j
   ·rw [if_pos h,if_pos (by omega),if_neg (by omega),show j - i=(j - (i+1))+1 by omega,List.getElem?_cons_succ]
   ·rw [if_neg h]
    by_cases h2:i<=j
    ·rw [if_pos h2,if_pos (by omega)]
    ·rw [if_neg h2]
  by_cases hx:x=.aq
  ·subst hx
   simp only [oU,ei,ih,rest]
   by_cases h:i<=j
   ·rw [if_pos h,if_pos h]
    by_cases e:i=j
    ·subst e;simp
    ·rw [if_neg e,if_neg e]
   ·rw [if_neg h,if_neg h,if_neg (by omega)]
  ·have:oU i (x::xs)=oU (i+1) xs:=by cases x<;>first|rfl|exact absurd rfl hx
   rw [this,ih,rest]
   by_cases h:i<=j
   ·rw [if_pos h,if_pos h]
    by_cases e:i=j
    ·subst e
     rw [if_pos rfl]
     simp only [Nat.sub_self,List.getElem?_cons_zero]
     cases x<;>first|rfl|exact absurd rfl hx
    ·rw [if_neg e]
   ·rw [if_neg h,if_neg h]
theorem Au (A:ee) {cs:List AV} (h:gJ jz cs=true):en A (.a (gE cs)) (oU 0 cs) cs (gE cs):=by
 refine⟨rfl,tn cs,fun j w hj=>?_,fun j t x ht hx=>?_⟩
 ·rw [Dg,if_pos (Nat.zero_le _)] at hj
  rw [tn]
  cases hc:cs[j]? with
  |none=>simp [hc] at hj
  |some y=>exact(List.getElem?_eq_some_iff.1 hc).1
 ·rw [AA,hx] at ht
  cases ht
  rw [Dg,if_pos (Nat.zero_le _),Nat.sub_zero,hx]
  have:=vb (cx.1 h x (List.mem_of_getElem? hx))
  cases x<;>first|exact this|exact .inl rfl
theorem Iv (A:ee) {cs:List AV} (h:gJ jz cs=true) {ovs:List (Nat×VV)} (ho:∀j w,fc j ovs=some w->fc j (oU 0 cs)=some w):en A (.a (gE cs)) ovs cs (gE cs):=by
 have h0:=Au A h
 refine⟨rfl,tn cs,fun j w hj=>h0.keys j w (ho j w hj),fun j t x ht hx=>?_⟩
 cases hj:fc j ovs with
 |some w=>
  have:=h0.at_ j t x ht hx
  rw [ho j w hj] at this
  exact this
 |none=>
  rw [AA,hx] at ht
  cases ht
  exact vb (cx.1 h x (List.mem_of_getElem? hx))
theorem J_ {j:Nat} {w:VV}:∀(cs:List Nat) (l:List (Nat×VV)),fc j (QA cs l)=some w->fc j l=some w
 |[],l,h=>h
 |c::cs,l,h=>by
  have:=J_ cs _ h
  rw [nv] at this
  split at this
  ·cases this
  ·exact this
theorem Tl {sh:Sh} {d:Option Nat} {l:List (Nat×VV)} {j:Nat} {w:VV} (h:fc j (tcD sh d l)=some w):fc j l=some w:=by
 cases d with
 |none=>exact h
 |some d=>exact J_ _ _ h
theorem Kb (A:ee) (v:AV):VR A (Iu v) v:=by
 unfold Iu
 split
 ·exact .gi
 ·rename_i cs
  rw [cond_eq_ite]
  split
  ·rename_i h;exact .st rfl (Au A h)
  ·exact .bad
 ·exact .bad
 ·rw [cond_eq_ite]
  split
  ·rename_i h;exact .tr (vb h).1
  ·exact .bad
section
variable {A:ee} {V:cg} {st:St} {g:G}
theorem Ig {e:Env} {n:Nat} {a:AV} (h:e.get n=some a):ev e (.t n)=a:=by simp only [ev,h]
theorem gj (h:R A V st) (ha:act g) {x:ct} {k:VV->Prop} (hk:lM V g x k):∃w,VR A w (ev st.env x)/\k w:=by
 cases x with
 |c v=>exact⟨_,Kb A v,hk⟩
 |t n=>
  simp only [lM] at hk
  split at hk
  ·cases hk
  rename_i e he
  obtain⟨a,h1,h2⟩:=h.env n e he
  split at hk
  ·rename_i hg
   exact⟨e.v,by rw [Ig h1];exact h2 (fun c bb hc=>by rw [hg] at hc;cases hc),hk⟩
  ·rename_i q hq
   split at hk
   ·cases hk
   rename_i p
   obtain⟨rfl,hk⟩:=hk
   exact⟨e.v,by rw [Ig h1];exact h2 (fun c bb hc=>by rw [hq] at hc;cases hc;exact ha),hk⟩
theorem Fk:∀(ovs:List (Nat×VV)) (ts:List TV) (u:TV),v_ ovs (.a ts)=some u->
  ∃us,u=.a us/\us.length=ts.length/\∀j,us[j]?=(match fc j ovs with|some _=>(if j < ts.length then some (.l []) else none)|none=>ts[j]?)/\∀w,fc j ovs=some w->w=.gi
 |[],ts,u,h=>by cases h;exact⟨ts,rfl,rfl,fun j=>⟨rfl,fun w hw=>by cases hw⟩⟩
 |(off,w)::r,ts,u,h=>by
  unfold v_ at h
  split at h
  rotate_left
  ·cases h
  split at h
  rotate_left
  ·cases h
  rename_i u' hu'
  obtain⟨us,rfl,hl,ha⟩:=Fk r ts u' hu'
  obtain⟨ts',xs,us',h1,h2,h3,h4,h5,h6,h7⟩:=gy h
  cases h1;cases h2
  have hu:u=.a us':=by
   cases u<;>first|(cases h4;rfl)|skip
   all_goals
    unfold av at h
    simp only [gk,cond_eq_ite] at h
    split at h
    ·split at h<;>cases h
    ·cases h
  refine⟨us',hu,by rw [h5,hl],fun j=>?_⟩
  rw [h7 j,ei]
  by_cases e:off=j
  ·subst e
   rw [if_pos (by omega),if_pos rfl,Nat.sub_self]
   refine⟨?_,fun w' hw'=>by cases hw';rfl⟩
   simp only
   rw [if_pos (by rw [←hl];omega)];rfl
  ·rw [if_neg (by omega),if_neg e]
   exact ha j
theorem PE {v u:TV} {ovs:List (Nat×VV)} {cs:List AV} {ts:List TV} (h:en A v ovs cs ts) (hv:v=.a ts) (hu:v_ ovs v=some u):Can u (.agg cs):=by
 subst hv
 obtain⟨us,rfl,hl,ha⟩:=Fk ovs ts u hu
 have at_:∀(j:Nat) (t:TV) (x:AV),us[j]?=some t->cs[j]?=some x->Can t x/\x.flat=true:=by
  intro j t x ht hx
  have hlt:j < ts.length:=by rw [h.len];exact(List.getElem?_eq_some_iff.1 hx).1
  have hc:=h.at_ j _ x (List.getElem?_eq_getElem hlt) hx
  obtain⟨h1,h2⟩:=ha j
  rw [h1] at ht
  cases ho:fc j ovs with
  |none=>
   rw [ho] at ht hc
   simp only at ht
   rw [List.getElem?_eq_getElem hlt] at ht
   cases ht
   exact hc
  |some w=>
   rw [ho] at ht hc
   simp only at ht
   rw [if_pos hlt] at ht
   cases ht
   obtain rfl:=h2 w ho
   rcases hc with rfl|rfl
   ·exact⟨.nil,rfl⟩
   ·exact⟨pg,rfl⟩
 refine .a _ _ (by rw [hl,h.len]) (fun x hx=>?_) (fun j t x ht hx=>(at_ j t x ht hx).1)
 obtain⟨j,hj⟩:=List.getElem?_of_mem hx
 have hlt:j < us.length:=by rw [hl,h.len];exact(List.getElem?_eq_some_iff.1 hj).1
 exact(at_ j _ x (List.getElem?_eq_getElem hlt) hj).2
theorem Ma {w:VV} {a:AV} (hv:VR A w a) {k:TV->Prop} (hk:IQ w k):∃v,Can v a/\k v:=by
 cases hv<;>first|(cases hk;done)|skip
 ·rename_i v hc;exact⟨v,hc,hk⟩
 ·exact⟨_,.nil,hk⟩
 ·exact⟨_,pg,hk⟩
 ·rename_i hv h
  obtain⟨u,h1,h2⟩:=hk
  exact⟨u,PE h hv h1,h2⟩
theorem gm (h:R A V st) (ha:act g) {x:ct} {k:TV->Prop} (hk:ta V g x k):∃v,Can v (ev st.env x)/\k v:=by
 obtain⟨w,h1,h2⟩:=gj h ha hk
 exact Ma h1 h2
theorem Pq (h:R A V st) (ha:act g) {x:Option ct} {k:Option TV->Prop} (hk:Gg V g x k):∃v,k v/\(match x with|none=>v=none|some x=>∃u,v=some u/\Can u (ev st.env x)):=by
 cases x with
 |none=>exact⟨none,hk,rfl⟩
 |some x=>obtain⟨v,h1,h2⟩:=gm h ha hk;exact⟨some v,h2,v,rfl,h1⟩
theorem Jd (h:R A V st) (ha:act g):∀{xs:List ct} {k:List TV->Prop},Pc V g xs k->∃vs,p_ vs (xs.map (ev st.env))/\k vs
 |[],k,hk=>⟨[],⟨rfl,fun j t x ht=>by simp at ht⟩,hk⟩
 |x::xs,k,hk=>by
  obtain⟨v,h1,h2⟩:=gm h ha hk
  obtain⟨vs,h3,h4⟩:=Jd h ha h2
  refine⟨v::vs,⟨by simp [h3.1],fun j t y ht hy=>?_⟩,h4⟩
  cases j with
  |zero=>simp at ht hy;subst ht;subst hy;exact h1
  |succ j=>simp at ht hy;exact h3.2 j t y ht (by simpa using hy)
end
theorem qt {A:ee} (hone:∀O a,A O=some a->a.one=true) {w:VV} {a:AV} (hv:VR A w a) {t:TV} {o:List (Nat×VV)} (hs:KM w=some (t,o)) {ts:List TV} (hc:gk t=some ts) :
  ∃as,a.cells?=some as/\en A t o as ts:=by
 have single:∀{w:VV} {x:AV},HC A w x->x.cells?=some [x]->en A (.l []) [(0,w)] [x] [.l []]:=fun {w x} h1 h2=>
  ⟨rfl,rfl,(fun j u hj=>by
   rw [ei] at hj
   split at hj
   ·subst_vars;simp
   ·cases hj),(fun j u y hu hy=>by
   cases j with
   |zero=>simp at hu hy;subst hu;subst hy;rw [ei,if_pos rfl];exact h1
   |succ j=>simp at hu)⟩
 cases hv<;>first|(cases hs;done)|skip
 ·rename_i v h
  cases hs
  obtain⟨as,h1,h2⟩:=Dy h hc
  exact⟨as,h1,hc,h2.1.1,fun j w hj=>by simp [fc] at hj,fun j u x hu hx=>⟨h2.1.2 j u x hu hx,h2.2 x (List.mem_of_getElem? hx)⟩⟩
 ·cases hs;cases hc;exact⟨_,rfl,single (.inl rfl) rfl⟩
 ·cases hs;cases hc;exact⟨_,rfl,single (.inr rfl) rfl⟩
 ·rename_i O h
  cases hs;cases hc
  have hc:a.cells?=some [a]:=by have:=hone _ _ h;cases a<;>first|rfl|cases this
  exact⟨_,hc,single (w:=.sl O) h hc⟩
 ·rename_i v ovs cs ts' hv' h
  cases hs
  have:=h.cells.symm.trans hc;cases this
  exact⟨_,rfl,h⟩
 ·rename_i O v i h
  cases hs;cases hc
  have hc:a.cells?=some [a]:=by have:=hone _ _ h;cases a<;>first|rfl|cases this
  exact⟨_,hc,single (w:=.ow O v i) h hc⟩
theorem qm {A:ee} {v u t:TV} {ovs o:List (Nat×VV)} {cs as:List AV} {vs ts:List TV} {off n:Nat} (hv:en A v ovs cs vs) (ht:en A t o as ts) (hp:av v off n t=some u) :
  as.length=n/\∃cs' us,jm cs off as=some cs'/\en A u (Cr off o (v9 off n ovs)) cs' us/\(∀l,v=.a l->∃l',u=.a l'):=by
 obtain⟨ts',xs,us,h1,h2,h3,h4,h5,h6,h7⟩:=gy hp
 have e1:=hv.cells.symm.trans h1;cases e1
 have e2:=ht.cells.symm.trans h2;cases e2
 have hn:as.length=n:=by rw [←ht.len];exact h3
 have hov:jm cs off as=some (cs.take off++as++cs.drop (off+as.length)):=by rw [v7,if_pos (by rw [hn,←hv.len];exact h6)]
 obtain⟨hl',hat⟩:=oc hov
 refine⟨hn,_,us,hov,⟨h4,by rw [h5,hl',hv.len],fun j w hj=>?_,fun j t' x ht' hx=>?_⟩,fun l e=>?_⟩
 ·rw [Ff] at hj
  rw [h5]
  by_cases ho:off<=j
  ·simp only [if_pos ho] at hj
   cases hq:fc (j - off) o with
   |some w'=>have:=ht.keys _ _ hq;omega
   |none=>
    rw [hq,nv] at hj
    simp only at hj
    split at hj
    ·cases hj
    ·exact hv.keys _ _ hj
  ·simp only [if_neg ho,nv] at hj
   split at hj
   ·cases hj
   ·exact hv.keys _ _ hj
 ·rw [h7] at ht'
  rw [hat,hn] at hx
  rw [Ff]
  by_cases hc:off<=j/\j < off+n
  ·rw [if_pos hc] at ht' hx
   simp only [if_pos hc.1]
   have:=ht.at_ _ _ _ ht' hx
   cases hq:fc (j - off) o with
   |some w'=>rw [hq] at this;exact this
   |none=>
    rw [hq] at this
    simp only [nv,if_pos hc]
    exact this
  ·rw [if_neg hc] at ht' hx
   have:=hv.at_ _ _ _ ht' hx
   by_cases ho:off<=j
   ·simp only [if_pos ho]
    cases hq:fc (j - off) o with
    |some w'=>have:=ht.keys _ _ hq;omega
    |none=>simp only [nv,if_neg hc];exact this
   ·simp only [if_neg ho,nv,if_neg hc]
    exact this
 ·subst e
  unfold av at hp
  simp only [h2,h3,cond_eq_ite,Nat.beq_eq,if_pos rfl] at hp
  split at hp
  ·split at hp
   ·exact⟨_,(Option.some.inj hp).symm⟩
   ·cases hp
  ·rename_i hh;exact absurd (by first|rfl|trivial) hh
end Go.Ax.V

namespace Go.Ax.V
theorem EV {g:G} (ha:act g) {P k:TV->Prop} (h:O4 g P k):∃v,P v/\k v:=by
 cases g with
 |none=>exact h
 |some p=>
  obtain⟨c,bb⟩:=p
  obtain⟨v,h1,h2⟩:=h
  have hc:c=.b bb:=ha
  subst hc
  refine⟨v,?_,h2⟩
  unfold gV at h1
  cases bb<;>exact h1
theorem xb {g:G} (ha:act g) {P:Option Nat} {k:Nat->Prop} (h:Ja g P k):∃n,P=some n/\k n:=by
 cases g with
 |none=>exact h
 |some p=>
  obtain⟨c,bb⟩:=p
  obtain⟨n,h1,h2⟩:=h
  exact⟨n,h1 ha,h2⟩
def Next (nt:Nat) (A:ee) (V:cg) (st:St) (d:Option Nat) (v:AV) (H':cw) (nx':Nat) (k:cg->Prop):Prop:=
 ∃e',C9 nt st.env d v=some e'/\∃V' A',R A' V' ⟨e',H',nx'⟩/\Fr V A st.H st.nx V' A' H' nx'/\Ext V A V' A'/\k V'
theorem R.put {A:ee} {V:cg} {st:St} (h:R A V st) {d:Nat} {e:VE} {v:AV} (hv:(∀c bb,e.gd=some (c,bb)->c=.b bb)->VR A e.v v) :
  R A {V with env:=V.env.put (some e) d} ⟨st.env.put (some v) d,st.H,st.nx⟩ where
 env t e' he:=by
  simp only [Map.bt] at he ⊢
  split at he
  ·rename_i ht;subst ht;cases he;exact⟨v,by rw [if_pos rfl],hv⟩
  ·rename_i ht;rw [if_neg ht];exact h.env t e' he
 heap:=h.heap
 inj:=h.inj
 used:=h.used
 one:=h.one
 fresh:=h.fresh
 lZ:=h.lZ
theorem xe {nt:Nat} {A:ee} {V:cg} {st:St} {A1:ee} {V1:cg} {H':cw} {nx':Nat} {d:Option Nat} {g:G} {w:VV} {v:AV} {k:cg->Prop}
  (hR:R A1 V1 ⟨st.env,H',nx'⟩) (hF:Fr V A st.H st.nx V1 A1 H' nx') (hx:Ext V A V1 A1) (hv:act g->VR A1 w v) (h:jj nt V1 d g w k):Next nt A V st d v H' nx' k:=by
 cases d with
 |none=>exact⟨st.env,rfl,V1,A1,hR,hF,hx,h⟩
 |some d=>
  simp only [jj,cond_eq_ite] at h
  split at h
  ·rename_i hd
   refine⟨st.env.put (some v) d,by simp only [C9,cond_eq_ite,if_pos hd],_,A1,hR.put (e:=⟨g,w⟩) (fun hh=>hv ?_),⟨hF.le,hF.same,hF.own⟩,⟨hx.mono,hx.new,hx.ev.us,hx.ev.gn⟩,h⟩
   cases g with
   |none=>trivial
   |some p=>exact hh _ _ rfl
  ·cases h
theorem cm {nt:Nat} {A:ee} {V:cg} {st:St} (hR:R A V st) {d:Option Nat} {g:G} {w:VV} {v:AV} {k:cg->Prop} (hv:act g->VR A w v) (h:jj nt V d g w k):Next nt A V st d v st.H st.nx k:=
 xe (A1:=A) (V1:=V) hR (Fr.refl _ _ _ _) (Ext.refl _ _) hv h
theorem di {nt:Nat} {A:ee} {V:cg} {st:St} (hR:R A V st) {d:Option Nat} {g:G} (ha:act g) {P:Option TV} {k:cg->Prop} (h:ko nt V d g P k) :
  ∃r,P=some r/\∀v,Can r v->Next nt A V st d v st.H st.nx k:=by
 obtain⟨r,h1,h2⟩:=EV ha h
 exact⟨r,h1,fun v hv=>cm hR (fun _=>.tr hv) h2⟩
theorem R.sub {A:ee} {V V':cg} {st:St} (h:R A V st) (he:V'.env=V.env) (hu:V'.us=V.us) (hH:∀O o,V'.H.get O=some o->V.H.get O=some o):R A V' st where
 env t e hh:=h.env t e (by rw [←he];exact hh)
 heap O o hh:=h.heap O o (hH O o hh)
 inj O O' o o' a a' id h1 h2:=h.inj O O' o o' a a' id (hH _ _ h1) (hH _ _ h2)
 used O hh:=h.used O (by rw [←hu];exact hh)
 one:=h.one
 fresh:=h.fresh
 lZ O o a ho ha:=h.lZ O o a (hH _ _ ho) ha
theorem kg {V:cg} {O O':Nat} {o:VO} (h:(fq V O).H.get O'=some o):O'≠O/\V.H.get O'=some o:=by
 simp only [fq,Map.bt] at h
 split at h
 ·cases h
 ·rename_i hne;exact⟨hne,h⟩
theorem R.fq {A:ee} {V:cg} {st:St} (h:R A V st) (O:Nat):R A (fq V O) st:=
 h.sub rfl rfl (fun O' o hh=>(kg hh).2)
def xm (A:ee) (d:Nat) (a:AV) (inn:Nat->Option AV):ee
 |.s O=>if O=d then some a else A (.s O)
 |.i K v j=>if K=d then (if v=0 then inn j else none) else A (.i K v j)
theorem yu {A:ee} {d:Nat} {a:AV} {inn:Nat->Option AV}:xm A d a inn (.s d)=some a:=if_pos rfl
theorem lK {A:ee} {d:Nat} {a:AV} {inn:Nat->Option AV} {n:TN} (h:n.base≠d):xm A d a inn n=A n:=by
 cases n<;>exact if_neg h
theorem Qk {A:ee} {d:Nat} {a:AV} {inn:Nat->Option AV} {j:Nat}:xm A d a inn (.i d 0 j)=inn j:=by
 simp only [xm,if_pos]
theorem ML {A:ee} {d:Nat} {a:AV} {inn:Nat->Option AV} {v j:Nat} (hv:0 < v):xm A d a inn (.i d v j)=none:=by
 simp only [xm,if_pos,if_neg (show ¬v=0 by omega)]
theorem Ds {A:ee} {d:Nat} {a:AV} {inn:Nat->Option AV} (h:∀n:TN,n.base=d->A n=none):∀O x,A O=some x->xm A d a inn O=some x:=fun O x hx=>by
 rw [lK (fun he=>by rw [h O he] at hx;cases hx)];exact hx
theorem Ak {A:ee} {d:Nat} {a:AV} {inn:Nat->Option AV} {O:Nat} {o:VO} {x:AV} {id:Nat} (hne:O≠d) (hv:q_ A O x o):jJ (xm A d a inn) o x id↔jJ A o x id:=by
 cases o with
 |gn K s io iz ver hole es=>
  obtain⟨rfl,_⟩:=hv
  have e:∀j,xm A d a inn (.i K ver j)=A (.i K ver j):=fun j=>lK hne
  simp only [jJ,e]
 |_=>exact Iff.rfl
theorem Qj {A:ee} {d:Nat} {a:AV} {inn:Nat->Option AV} {O:Nat} {o:VO} {x:AV} (hne:O≠d) (hv:q_ A O x o):q_ (xm A d a inn) O x o:=by
 cases o with
 |gn K s io iz ver hole es=>
  obtain⟨rfl,h1,h0,h2,h3⟩:=hv
  have e:∀v j,xm A d a inn (.i K v j)=A (.i K v j):=fun v j=>lK hne
  refine⟨rfl,fun v j hv=>by rw [e];exact h1 v j hv,fun j x=>by rw [e];exact h0 j x,fun j j' x x' id=>?_,fun j x id=>?_⟩
  ·rw [e,e];exact h2 j j' x x' id
  ·rw [e];exact h3 j x id
 |_=>trivial
theorem S6 {A:ee} {V:cg} {e:Env} {H':cw} {nx':Nat} {d:Nat} {o:VO} {a:AV} {inn:Nat->Option AV} (henv:∀t q,V.env.get t=some q->∃x,e.get t=some x/\((∀c bb,q.gd=some (c,bb)->c=.b bb)->VR A q.v x))
  (hheap:∀(O:Nat) o,V.H.get O=some o->∃x,A O=some x/\OR A H' o x)
  (hinj:∀(O O':Nat) o o' a a' id,V.H.get O=some o->V.H.get O'=some o'->A O=some a->A O'=some a'->jJ A o a id->jJ A o' a' id->O=O')
  (hused:∀n:TN,V.us.get n.base=none->A n=none) (hone:∀n a,A n=some a->a.one=true) (hfresh:∀id ob,H'.get id=some ob->id < nx') (hvers:∀(O:Nat) o a,V.H.get O=some o->A O=some a->q_ A O a o)
  (hus:V.us.get d=none) (h1:a.one=true) (hi1:∀j x,inn j=some x->x.one=true) (hO:OR (xm A d a inn) H' o a) (hver:q_ (xm A d a inn) d a o)
  (hid:∀id,jJ (xm A d a inn) o a id->¬gR V A id):R (xm A d a inn) {V with H:=V.H.put (some o) d,us:=V.us.put (some ()) d} ⟨e,H',nx'⟩:=by
 have hnone:∀n:TN,n.base=d->A n=none:=fun n hn=>hused n (by rw [hn];exact hus)
 have hA':=Ds (a:=a) (inn:=inn) hnone
 have hnd:∀(O:Nat) o',V.H.get O=some o'->O≠d:=fun O o' ho he=>by
  obtain⟨x,hx,_⟩:=hheap O o' ho
  rw [hnone (.s O) he] at hx;cases hx
 refine⟨fun t q he=>?_,fun O o' ho=>?_,fun O O' o1 o2 a1 a2 id ho1 ho2 ha1 ha2 hi1 hi2=>?_,fun n hu=>?_,fun n x hx=>?_,hfresh,fun O o' x ho hx=>?_⟩
 ·obtain⟨x,hx,hv⟩:=henv t q he
  exact⟨x,hx,fun hh=>(hv hh).mono hA'⟩
 ·simp only [Map.bt] at ho
  split at ho
  ·rename_i hd;subst hd;cases ho;exact⟨a,yu,hO⟩
  ·obtain⟨x,hx,hor⟩:=hheap O o' ho
   exact⟨x,hA' _ _ hx,hor.mono hA' (fun _ _=>rfl)⟩
 ·simp only [Map.bt] at ho1 ho2
  by_cases e1:O=d
  ·by_cases e2:O'=d
   ·rw [e1,e2]
   ·subst e1
    rw [if_neg e2] at ho2
    rw [if_pos rfl] at ho1;cases ho1
    have ha2':A O'=some a2:=by rwa [lK (n:=.s O') e2] at ha2
    rw [yu] at ha1;cases ha1
    rw [Ak e2 (hvers O' _ _ ho2 ha2')] at hi2
    exact absurd ⟨O',_,a2,ho2,ha2',hi2⟩ (hid id hi1)
  ·rw [if_neg e1] at ho1
   have ha1':A O=some a1:=by rwa [lK (n:=.s O) e1] at ha1
   rw [Ak e1 (hvers O _ _ ho1 ha1')] at hi1
   by_cases e2:O'=d
   ·subst e2
    rw [if_pos rfl] at ho2;cases ho2
    rw [yu] at ha2;cases ha2
    exact absurd ⟨O,_,a1,ho1,ha1',hi1⟩ (hid id hi2)
   ·rw [if_neg e2] at ho2
    have ha2':A O'=some a2:=by rwa [lK (n:=.s O') e2] at ha2
    rw [Ak e2 (hvers O' _ _ ho2 ha2')] at hi2
    exact hinj O O' _ _ a1 a2 id ho1 ho2 ha1' ha2' hi1 hi2
 ·simp only [Map.bt] at hu
  split at hu
  ·cases hu
  ·rename_i hne
   rw [lK hne];exact hused n hu
 ·by_cases e:n.base=d
  ·cases n with
   |s O=>have e':O=d:=e;subst e';rw [yu] at hx;cases hx;exact h1
   |i K v j=>
    have e':K=d:=e;subst e'
    simp only [xm,if_pos] at hx
    split at hx
    ·exact hi1 j x hx
    ·cases hx
  ·rw [lK e] at hx;exact hone n x hx
 ·simp only [Map.bt] at ho
  by_cases e:O=d
  ·subst e
   rw [if_pos rfl] at ho;cases ho
   rw [yu] at hx;cases hx
   exact hver
  ·rw [if_neg e] at ho
   have hx':A O=some x:=by rwa [lK (n:=.s O) e] at hx
   exact Qj e (hvers O o' x ho hx')
theorem GV {nt:Nat} {A:ee} {V0 V:cg} {st:St} {d:Option Nat} {g:G} {wf:Nat->VV} {o:VO} {k:cg->Prop} {a v:AV} {H':cw} {nx':Nat} {inn:Nat->Option AV}
  (hR:R A V st) (hown0:∀id,gR V A id->gR V0 A id) (h:ry nt V d g wf o k) (hle:st.nx<=nx') (hfresh:∀id ob,H'.get id=some ob->id < nx')
  (hkeep:∀id,gR V A id->H'.get id=st.H.get id) (hsame:∀id,id < st.nx->¬gR V0 A id->H'.get id=st.H.get id) (hi1:∀j x,inn j=some x->x.one=true)
  (hO:∀(A':ee) (dd:Nat),d=some dd->(∀O x,A O=some x->A' O=some x)->(∀j,A' (.i dd 0 j)=inn j)->(∀v j,0 < v->A' (.i dd v j)=none)->OR A' H' o a/\q_ A' dd a o/\∀id,jJ A' o a id->¬gR V A id/\(gR V0 A id\/st.nx<=id)) (h1:a.one=true)
  (hw:∀(A':ee) (O:Nat),A' O=some a->VR A' (wf O) v) (hev:wh V0 V):Next nt A V0 st d v H' nx' k:=by
 unfold ry at h
 split at h
 ·cases h
 split at h
 ·cases h
 rename_i d
 split at h
 ·cases h
 rename_i hus
 have hnone:∀n:TN,n.base=d->A n=none:=fun n hn=>hR.used n (by rw [hn];exact hus)
 have hA':=Ds (a:=a) (inn:=inn) hnone
 obtain⟨hO1,hO2,hO3⟩:=hO (xm A d a inn) d rfl hA' (fun j=>Qk) (fun v j hv=>ML hv)
 have hheap':∀(O:Nat) o,V.H.get O=some o->∃x,A O=some x/\OR A H' o x:=fun O o' ho=>by
  obtain⟨x,hx,hor⟩:=hR.heap O o' ho
  exact⟨x,hx,hor.mono (fun _ _ h=>h) (fun id hi=>hkeep id ⟨O,o',x,ho,hx,hi⟩)⟩
 refine xe (A1:=xm A d a inn) (V1:={V with H:=V.H.put (some o) d,us:=V.us.put (some ()) d}) (S6 hR.env hheap' hR.inj hR.used hR.one hfresh hR.lZ hus h1 hi1 hO1 hO2 (fun id hi=>(hO3 id hi).1)) ?_ ⟨hA',fun n x hx=>?_,hev.trans (wh.name hus)⟩ (fun _=>hw _ d yu) h
 ·refine⟨hle,hsame,fun id ⟨O,o',x,ho,hx,hi⟩=>?_⟩
  simp only [Map.bt] at ho
  by_cases e:O=d
  ·subst e
   rw [if_pos rfl] at ho;cases ho
   rw [yu] at hx;cases hx
   exact(hO3 id hi).2
  ·rw [if_neg e] at ho
   have hx':A O=some x:=by rwa [lK (n:=.s O) e] at hx
   rw [Ak e (hR.lZ O _ _ ho hx')] at hi
   exact .inl (hown0 id ⟨O,o',x,ho,hx',hi⟩)
 ·by_cases e:n.base=d
  ·exact .inr (.inl (by rw [e];exact hev.us _ hus))
  ·exact .inl (by rwa [lK e] at hx)
theorem BP {nt:Nat} {A:ee} {V0 V:cg} {st:St} {d:Option Nat} {g:G} {wf:Nat->VV} {o:VO} {k:cg->Prop} {a v:AV} {H':cw} {nx':Nat}
  (hR:R A V st) (hown0:∀id,gR V A id->gR V0 A id) (h:ry nt V d g wf o k) (hle:st.nx<=nx') (hfresh:∀id ob,H'.get id=some ob->id < nx')
  (hkeep:∀id,gR V A id->H'.get id=st.H.get id) (hsame:∀id,id < st.nx->¬gR V0 A id->H'.get id=st.H.get id)
  (hO:∀A':ee,(∀O x,A O=some x->A' O=some x)->OR A' H' o a) (h1:a.one=true) (hid:∀id,gM a=some id->¬gR V A id/\(gR V0 A id\/st.nx<=id))
  (hw:∀(A':ee) (O:Nat),A' O=some a->VR A' (wf O) v) (hpl:o.pl=true) (hev:wh V0 V):Next nt A V0 st d v H' nx' k:=
 GV (inn:=fun _=>none) hR hown0 h hle hfresh hkeep hsame (fun j x h=>by cases h) (fun A' dd _ h2 _ _=>⟨hO A' h2,EG hpl,fun id hi=>hid id ((jh hpl).1 hi)⟩) h1 hw hev
theorem GU {nt:Nat} {A:ee} {V0 V:cg} {st:St} {d:Option Nat} {g:G} {wf:Nat->VV} {o:VO} {k:cg->Prop} {a v:AV} {H':cw} {nx':Nat}
  (hR:R A V st) (hsub:∀O o,V.H.get O=some o->V0.H.get O=some o) (h:ry nt V d g wf o k) (hle:st.nx<=nx') (hfresh:∀id ob,H'.get id=some ob->id < nx')
  (hkeep:∀id,gR V A id->H'.get id=st.H.get id) (hsame:∀id,id < st.nx->¬gR V0 A id->H'.get id=st.H.get id)
  (hO:∀A':ee,(∀O x,A O=some x->A' O=some x)->OR A' H' o a) (h1:a.one=true) (hid:∀id,gM a=some id->¬gR V A id/\(gR V0 A id\/st.nx<=id))
  (hw:∀(A':ee) (O:Nat),A' O=some a->VR A' (wf O) v) (hpl:o.pl=true:=by rfl) (hu:V.us=V0.us:=by rfl):Next nt A V0 st d v H' nx' k:=
 BP hR (fun id ⟨O,o,a,h1,h2,h3⟩=>⟨O,o,a,hsub _ _ h1,h2,h3⟩) h hle hfresh hkeep hsame hO h1 hid hw hpl (wh.VM hu hsub)
theorem uq {nt:Nat} {A:ee} {V:cg} {st:St} {d:Option Nat} {g:G} {wf:Nat->VV} {o:VO} {k:cg->Prop} {a v:AV} {ob:n9}
  (hR:R A V st) (h:ry nt V d g wf o k) (hO:∀A':ee,(∀O x,A O=some x->A' O=some x)->OR A' (st.H.put (some ob) st.nx) o a) (h1:a.one=true) (hid:gM a=some st.nx)
  (hw:∀(A':ee) (O:Nat),A' O=some a->VR A' (wf O) v) (hpl:o.pl=true:=by rfl):Next nt A V st d v (st.H.put (some ob) st.nx) (st.nx+1) k:=by
 have hno:∀id,gR V A id->id≠st.nx:=fun id ho he=>by have:=hR.oR ho;omega
 refine GU (V0:=V) hR (fun _ _ h=>h) h (Nat.le_succ _) (fun id o' hh=>?_) (fun id ho=>by rw [Map.bt,if_neg (hno id ho)])
  (fun id hlt _=>by rw [Map.bt,if_neg (by omega)]) hO h1 (fun id hi=>?_) hw hpl
 ·rw [Map.bt] at hh
  split at hh
  ·omega
  ·have:=hR.fresh _ _ hh;omega
 ·rw [hid] at hi;cases hi
  exact⟨fun ho=>hno _ ho rfl,.inr (Nat.le_refl _)⟩
theorem EO {A:ee} {V:cg} {st:St} (hR:R A V st) {O:Nat} {o0 o:VO} {a:AV} {id:Nat} {ob:n9} (hV:V.H.get O=some o0) (hA:A O=some a) (hi:jJ A o0 a id)
  (hO:OR A (st.H.put (some ob) id) o a) (hids:∀id,jJ A o a id->jJ A o0 a id) (hver:q_ A O a o0->q_ A O a o):R A (ey V O o) ⟨st.env,st.H.put (some ob) id,st.nx⟩/\Fr V A st.H st.nx (ey V O o) A (st.H.put (some ob) id) st.nx:=by
 have hown:gR V A id:=⟨O,o0,a,hV,hA,hi⟩
 have get':∀(O':Nat) o' x id',(ey V O o).H.get O'=some o'->A O'=some x->jJ A o' x id'->∃o'',V.H.get O'=some o''/\jJ A o'' x id':=fun O' o' x id' hh hx hi'=>by
  simp only [ey,Map.bt] at hh
  split at hh
  ·rename_i e;subst e;cases hh;rw [hA] at hx;cases hx;exact⟨_,hV,hids _ hi'⟩
  ·exact⟨_,hh,hi'⟩
 refine⟨⟨hR.env,fun O' o' ho=>?_,fun O1 O2 o1 o2 a1 a2 id' ho1 ho2 h1 h2 i1 i2=>?_,hR.used,hR.one,fun id' o' hh=>?_,fun O' o' x ho hx=>?_⟩,⟨Nat.le_refl _,fun id' _ hn=>?_,fun id' ⟨O',o',x,h1,h2,h3⟩=>?_⟩⟩
 ·simp only [ey,Map.bt] at ho
  by_cases e:O'=O
  ·subst e
   rw [if_pos rfl] at ho;cases ho
   exact⟨a,hA,hO⟩
  ·rw [if_neg e] at ho
   obtain⟨x,hx,hor⟩:=hR.heap O' o' ho
   refine⟨x,hx,hor.mono (fun _ _ h=>h) (fun id' hi'=>?_)⟩
   rw [Map.bt,if_neg]
   rintro rfl
   exact e (hR.inj O' O _ _ x a _ ho hV hx hA hi' hi)
 ·obtain⟨p1,h3,h4⟩:=get' _ _ _ _ ho1 h1 i1
  obtain⟨p2,h5,h6⟩:=get' _ _ _ _ ho2 h2 i2
  exact hR.inj O1 O2 _ _ a1 a2 id' h3 h5 h1 h2 h4 h6
 ·have hh':(st.H.put (some ob) id).get id'=some o':=hh
  rw [Map.bt] at hh'
  split at hh'
  ·rename_i e;subst e;exact hR.oR hown
  ·exact hR.fresh _ _ hh'
 ·simp only [ey,Map.bt] at ho
  split at ho
  ·rename_i e;subst e;cases ho;rw [hA] at hx;cases hx;exact hver (hR.lZ _ _ _ hV hA)
  ·exact hR.lZ _ _ _ ho hx
 ·rw [Map.bt,if_neg]
  rintro rfl
  exact hn hown
 ·obtain⟨o'',h4,h5⟩:=get' _ _ _ _ h1 h2 h3
  exact .inl ⟨O',o'',x,h4,h2,h5⟩
theorem Ad {a:AV} (h:a.flat=true) (d:Nat) (H:cw):dw (d+1) H a=some a:=by
 cases a<;>first|rfl|cases h
theorem GY {cs:List AV} (h:∀x∈cs,AV.flat x=true) (d:Nat) (H:cw):lN (dw (d+1) H) cs=some cs:=by
 induction cs with
 |nil=>rfl
 |cons x cs ih=>rw [ic,Ad (h x List.mem_cons_self),ih (fun y hy=>h y (List.mem_cons_of_mem _ hy))]
theorem GM {a:AV} (h:a.qg=true):a.flat=true\/∃cs,a=.agg cs/\∀x∈cs,AV.flat x=true:=by
 cases a<;>first|exact .inr ⟨_,rfl,cx.1 h⟩|exact .inl h
theorem Jh {a:AV} (h:a.plain=true):a.qg=true\/∃cs,a=.qd cs/\∀x∈cs,AV.qg x=true:=by
 cases a<;>first|exact .inr ⟨_,rfl,cx.1 h⟩|exact .inl h
theorem FA {a:AV} (h:a.qg=true) (d:Nat) (H:cw):dw (d+2) H a=some a:=by
 rcases GM h with h|⟨cs,rfl,h'⟩
 ·exact Ad h (d+1) H
 ·rw [oo,GY h']
theorem JE {cs:List AV} (h:∀x∈cs,AV.qg x=true) (d:Nat) (H:cw):lN (dw (d+2) H) cs=some cs:=by
 induction cs with
 |nil=>rfl
 |cons x cs ih=>rw [ic,FA (h x List.mem_cons_self),ih (fun y hy=>h y (List.mem_cons_of_mem _ hy))]
theorem xj {a:AV} (h:a.plain=true) (d:Nat) (H:cw):dw (d+3) H a=some a:=by
 rcases Jh h with h|⟨cs,rfl,h'⟩
 ·exact FA h (d+1) H
 ·rw [s_,JE h']
theorem qn {t:TV} {a:AV} (h:Can t a):a.plain=true:=by
 cases h with
 |a ts as hl hf h=>exact cx.2 hf
 |tp ts as hl hf h=>exact cx.2 hf
 |BK x u hf h=>revert hf;cases a<;>intro hf<;>first|rfl|cases hf
 |_=>rfl
theorem LM {sz:Nat} {es:List TV} {cs:List AV} (hz:0 < sz) (h:M5 sz es cs) (c:Option Nat):Can (.l es) (.jq cs es.length c):=
 .jq es cs es.length sz c rfl h.len hz h.flat h.el
theorem HM {H:cw} {sz:Nat} {es:List TV} {a:AV} (h:Eg H sz es a) (d:Nat):∃a',dw (d+2) H a=some a'/\Can (.l es) a'/\a'.flat=true/\(a.plain=true->a'=a)/\a.one=true:=by
 obtain⟨hz,h⟩:=h
 rcases h with ⟨rfl,rfl|rfl⟩|⟨id,g,b,cells,rfl,hH,hb,he⟩
 ·exact⟨_,rfl,.nil,rfl,fun _=>rfl,rfl⟩
 ·exact⟨_,rfl,pg,rfl,fun _=>rfl,rfl⟩
 ·have hl:cells.length=b+es.length*sz:=by have:=he.len;rw [List.length_drop] at this;omega
  refine⟨.jq (cells.drop b) es.length none,?_,LM hz he _,rfl,(fun hp=>by cases hp),rfl⟩
  rw [qe,hH]
  simp only [cond_eq_ite,Nat.beq_eq,if_pos]
  have:cut cells b (Nat.mul es.length sz)=some (cells.drop b):=by
   rw [js,if_pos (by show b+es.length*sz<=_;omega),List.take_of_length_le]
   rw [List.length_drop];show _<=es.length*sz;omega
  rw [this]
  simp only [GY he.flat]
theorem Ly {a:AV} (h:a.flat=true):a.plain=true:=by
 cases a<;>first|rfl|cases h
theorem H9 {f:AV->Option AV}:∀{cs:List AV} (P:Nat->AV->AV->Prop),(∀j x,cs[j]?=some x->∃y,f x=some y/\P j x y)->∃l,lN f cs=some l/\l.length=cs.length/\∀j x y,cs[j]?=some x->l[j]?=some y->P j x y
 |[],P,h=>⟨[],rfl,rfl,fun j x y hx=>by simp at hx⟩
 |x::cs,P,h=>by
  obtain⟨y,h1,h2⟩:=h 0 x rfl
  obtain⟨l,h3,h4,h5⟩:=H9 (f:=f) (cs:=cs) (fun j=>P (j+1)) (fun j x hx=>h (j+1) x hx)
  refine⟨y::l,by rw [ic,h1,h3],by simp [h4],fun j x' y' hx hy=>?_⟩
  cases j with
  |zero=>simp at hx hy;subst hx;subst hy;exact h2
  |succ j=>exact h5 j x' y' (by simpa using hx) (by simpa using hy)
theorem Qf {A:ee} {H:cw} {K s io iz ver:Nat} {es:List TV} {a:AV} (h:OR A H (.gn K s io iz ver none es) a) (d:Nat):∃a',dw (d+3) H a=some a'/\Can (.l es) a'/\a'.flat=true/\(a.plain=true->a'=a):=by
 obtain⟨hs,hio,hiz,h⟩:=h
 rcases h with ⟨rfl,rfl|rfl⟩|⟨id,g,b,cells,rfl,hH,hb,he⟩
 ·exact⟨_,rfl,.nil,rfl,fun _=>rfl⟩
 ·exact⟨_,rfl,pg,rfl,fun _=>rfl⟩
 ·have hl:cells.length=b+es.length*s:=by have:=he.len;rw [List.length_drop] at this;omega
  have cell:∀(q:Nat) x,(cells.drop b)[q]?=some x->∃(j o:Nat) (e:TV) (ts:List TV) (t:TV),q=j*s+o/\o < s/\es[j]?=some e/\gk e=some ts/\ts.length=s/\ts[o]?=some t/\∃y,dw (d+2) H x=some y/\Can t y/\y.flat=true:=by
   intro q x hq
   have hlt:q < es.length*s:=by have:=(List.getElem?_eq_some_iff.1 hq).1;rw [he.len] at this;exact this
   have hj:q / s < es.length:=(Nat.div_lt_iff_lt_mul hs).2 hlt
   have hqe:q=q / s*s+q % s:=by rw [Nat.mul_comm];exact(Nat.div_add_mod q s).symm
   obtain⟨ts,g1,g2,g3,x',g4,g5,g6⟩:=he.el (q / s) _ (List.getElem?_eq_getElem hj)
   have ho:q % s < ts.length:=by rw [g2];exact Nat.mod_lt _ hs
   refine⟨q / s,q % s,_,ts,_,hqe,Nat.mod_lt _ hs,List.getElem?_eq_getElem hj,g1,g2,List.getElem?_eq_getElem ho,?_⟩
   by_cases hoo:q % s=io
   ·obtain⟨l,g7,g8⟩:=g6 (by simp)
    rw [hqe,hoo,g4] at hq;cases hq
    obtain⟨y,p1,p2,p3,_⟩:=HM g8 d
    refine⟨y,p1,?_,p3⟩
    have e:ts[q % s]=.l l:=by
     have:=List.getElem?_eq_getElem ho
     have h2:ts[q % s]?=some (.l l):=by rw [hoo];exact g7
     rw [this] at h2;exact Option.some.inj h2
    rw [e];exact p2
   ·obtain⟨p1,p2⟩:=g3 (q % s) _ x hoo (List.getElem?_eq_getElem ho) (by rw [←hqe];exact hq)
    exact⟨x,Ad p2 (d+1) H,p1,p2⟩
  obtain⟨cs',g1,g2,g3⟩:=H9 (f:=dw (d+2) H) (cs:=cells.drop b) (fun q x y=>∃(j o:Nat) (e:TV) (ts:List TV) (t:TV),q=j*s+o/\o < s/\es[j]?=some e/\gk e=some ts/\ts.length=s/\ts[o]?=some t/\Can t y/\y.flat=true) (fun q x hq=>by
   obtain⟨j,o,e,ts,t,h1,h2,h3,h4,h5,h6,y,h7,h8,h9⟩:=cell q x hq
   exact⟨y,h7,j,o,e,ts,t,h1,h2,h3,h4,h5,h6,h8,h9⟩)
  have hlc:cs'.length=es.length*s:=by rw [g2,he.len]
  have at_:∀(q:Nat) y,cs'[q]?=some y->∃(j o:Nat) (e:TV) (ts:List TV) (t:TV),q=j*s+o/\o < s/\es[j]?=some e/\gk e=some ts/\ts.length=s/\ts[o]?=some t/\Can t y/\y.flat=true:=fun q y hy=>by
   have hlt:q < (cells.drop b).length:=by rw [←g2];exact(List.getElem?_eq_some_iff.1 hy).1
   exact g3 q _ y (List.getElem?_eq_getElem hlt) hy
  refine⟨.jq cs' es.length none,?_,.jq _ _ _ s _ rfl hlc hs (fun x hx=>?_) (fun j e hj=>?_),rfl,fun hp=>by cases hp⟩
  ·rw [qe,hH]
   simp only [cond_eq_ite,Nat.beq_eq,if_pos]
   have:cut cells b (Nat.mul es.length s)=some (cells.drop b):=by
    rw [js,if_pos (by show b+es.length*s<=_;omega),List.take_of_length_le]
    rw [List.length_drop];show _<=es.length*s;omega
   rw [this]
   simp only [g1]
  ·obtain⟨q,hq⟩:=List.getElem?_of_mem hx
   obtain⟨_,_,_,_,_,_,_,_,_,_,_,_,hf⟩:=at_ q x hq
   exact hf
  ·obtain⟨ts,h1,h2,_⟩:=he.el j e hj
   have hjl:=(List.getElem?_eq_some_iff.1 hj).1
   have hle:j*s+s<=es.length*s:=by rw [←Nat.succ_mul];exact Nat.mul_le_mul_right s hjl
   refine lV.2 ⟨ts,h1,by rw [List.length_take,List.length_drop,hlc,h2];omega,fun o t y ht hy=>?_⟩
   have ho:o < s:=by rw [←h2];exact(List.getElem?_eq_some_iff.1 ht).1
   rw [List.getElem?_take,List.getElem?_drop,if_pos ho] at hy
   obtain⟨j',o',e',ts',t',p1,p2,p3,p4,p5,p6,p7,_⟩:=at_ _ y hy
   have hjj:j=j':=by
    have e1:(j*s+o) / s=j:=by rw [Nat.mul_comm,Nat.mul_add_div hs,Nat.div_eq_of_lt ho,Nat.add_zero]
    have e2:(j'*s+o') / s=j':=by rw [Nat.mul_comm,Nat.mul_add_div hs,Nat.div_eq_of_lt p2,Nat.add_zero]
    rw [←e1,p1,e2]
   subst hjj
   have hoo:o=o':=by omega
   subst hoo
   rw [hj] at p3;cases p3
   rw [h1] at p4;cases p4
   rw [ht] at p6;cases p6
   exact p7
theorem JI {es:List TV} {i io:Nat} {l:List TV} (h:Ac es i io=some l):∃e,es[i]?=some e/\bh e io=some (.l l):=by
 unfold Ac at h
 split at h
 ·rename_i e he
  split at h
  ·rename_i l' hl;cases h;exact⟨e,he,hl⟩
  ·cases h
 ·cases h
theorem QE {e t:TV} {io:Nat} {ts:List TV} (hc:gk e=some ts) (h:bh e io=some t):ts[io]?=some t:=by
 cases e<;>first|(cases hc;done)|skip
 all_goals first
  |(cases hc;exact h)
  |(cases hc;cases io with
    |zero=>exact h
    |succ n=>cases h)
theorem iw {V:cg} {O v:Nat} {k:Nat->Nat->Nat->List TV->Prop} (h:Sk V O v k):∃s io iz es,V.H.get O=some (.gn O s io iz v none es)/\k s io iz es:=by
 unfold Sk at h
 split at h
 ·rename_i K s io iz ver es ho
  split at h
  ·rename_i hb
   rw [Bool.and_eq_true,Nat.beq_eq,Nat.beq_eq] at hb
   obtain⟨rfl,rfl⟩:=hb
   exact⟨s,io,iz,es,ho,h⟩
  ·cases h
 ·cases h
theorem Dn {A:ee} {H:cw} {K s io iz ver:Nat} {hole:Option Nat} {es:List TV} {a:AV} {i:Nat} {l:List TV} (h:OR A H (.gn K s io iz ver hole es) a) (hi:Ac es i io=some l) (hn:hole≠some i) {x:AV} (hx:A (.i K ver i)=some x):Eg H iz l x:=by
 obtain⟨hs,hio,hiz,h⟩:=h
 obtain⟨e,he,hc⟩:=JI hi
 rcases h with ⟨rfl,_⟩|⟨id,g,b,cells,rfl,hH,hb,hg⟩
 ·simp at he
 ·obtain⟨ts,g1,g2,g3,x',g4,g5,g6⟩:=hg.el i e he
  rw [hx] at g5;cases g5
  obtain⟨l',p1,p2⟩:=g6 hn
  rw [QE g1 hc] at p1
  cases p1
  exact p2
theorem Cb {A:ee} {V:cg} {st:St} (h:R A V st) {w:VV} {x:AV} {k:List TV->Prop} (hv:HC A w x) (hk:D5 V w k) (d:Nat) :
  ∃es a',dw (d+3) st.H x=some a'/\Can (.l es) a'/\a'.flat=true/\(x.plain=true->a'=x)/\k es:=by
 cases w<;>first|(cases hk;done)|skip
 ·refine⟨[],x,?_,?_,?_,fun _=>rfl,hk⟩<;>rcases hv with rfl|rfl<;>first|rfl|exact .nil|exact pg
 ·rename_i O
  simp only [D5] at hk
  split at hk
  ·rename_i sz es ho
   obtain⟨a,h1,h2⟩:=h.heap O _ ho
   have hv':A O=some x:=hv
   rw [hv'] at h1;cases h1
   obtain⟨a',h3,h4,h5,h6,_⟩:=HM h2 (d+1)
   exact⟨es,a',h3,h4,h5,h6,hk⟩
  ·rename_i es ho
   obtain⟨a,h1,h2⟩:=h.heap O _ ho
   have hv':A O=some x:=hv
   rw [hv'] at h1;cases h1
   obtain⟨a',h3,h4,h5,h6⟩:=Qf h2 d
   exact⟨es,a',h3,h4,h5,h6,hk⟩
  ·cases hk
 ·rename_i O v i
  obtain⟨s,io,iz,es,ho,l,hl,hk⟩:=iw hk
  obtain⟨a,h1,h2⟩:=h.heap O _ ho
  obtain⟨a',h3,h4,h5,h6,_⟩:=HM (Dn h2 hl (by simp) hv) (d+1)
  exact⟨l,a',h3,h4,h5,h6,hk⟩
theorem Cc {V:cg} {w:VV} {k:List TV->Prop} (hk:D5 V w k):∃es,k es:=by
 unfold D5 at hk
 split at hk
 ·split at hk
  ·exact⟨_,hk⟩
  ·exact⟨_,hk⟩
  ·cases hk
 ·obtain⟨_,_,_,_,_,l,_,hk⟩:=iw hk;exact⟨l,hk⟩
 ·exact⟨_,hk⟩
 ·cases hk
theorem Pj {l:List TV} {off n:Nat} {x u:TV} (h:av (.a l) off n x=some u):∃l',u=.a l':=by
 unfold av at h
 split at h
 ·cases h
 ·rw [cond_eq_ite] at h
  split at h
  ·simp only at h
   split at h
   ·cases h;exact⟨_,rfl⟩
   ·cases h
  ·cases h
theorem IS {A:ee} {V:cg} {st:St} (h:R A V st) (d:Nat):∀(ovs:List (Nat×VV)) (P:Nat->Prop) (v:TV) (ts:List TV) (cs:List AV) (k:TV->Prop),gk v=some ts->ts.length=cs.length->
  (∀j t x,P j->ts[j]?=some t->cs[j]?=some x->match fc j ovs with|none=>True|some w=>HC A w x)->Ga V ovs v k->
  ∃u us,gk u=some us/\us.length=ts.length/\k u/\(∀l,v=.a l->∃l',u=.a l')/\
   ∀j u' x,P j->us[j]?=some u'->cs[j]?=some x->match fc j ovs with|none=>ts[j]?=some u'|some w=>∃a',dw (d+3) st.H x=some a'/\Can u' a'/\a'.flat=true/\(x.plain=true->a'=x)
 |[],P,v,ts,cs,k,hc,hl,ho,hk=>⟨v,ts,hc,rfl,hk,fun l e=>⟨l,e⟩,fun j u' x _ hu hx=>hu⟩
 |(off,w)::r,P,v,ts,cs,k,hc,hl,ho,hk=>by
  obtain⟨u,us,h1,h2,h3,h4,h5⟩:=IS h d r (fun j=>P j/\j≠off) v ts cs _ hc hl (fun j t x hp ht hx=>by
   have:=ho j t x hp.1 ht hx
   rwa [ei,if_neg (Ne.symm hp.2)] at this) hk
  by_cases hoff:P off/\off < ts.length
  ·obtain⟨hP,hlt⟩:=hoff
   have hx:cs[off]?=some (cs[off]'(by omega)):=List.getElem?_eq_getElem _
   have ht:ts[off]?=some ts[off]:=List.getElem?_eq_getElem _
   have hsl:=ho off _ _ hP ht hx
   rw [ei,if_pos rfl] at hsl
   obtain⟨es,a',g1,g2,g3,g4,u',g5,g6⟩:=Cb h hsl h3 d
   obtain⟨us0,xs,us',p1,p2,p3,p4,p5,p6,p7⟩:=gy g5
   rw [h1] at p1;cases p1
   cases p2
   refine⟨u',us',p4,by omega,g6,fun l e=>?_,fun j q x hp hq hx'=>?_⟩
   ·obtain⟨l',rfl⟩:=h4 l e
    exact Pj g5
   ·rw [p7] at hq
    rw [ei]
    by_cases e:off=j
    ·subst e
     rw [if_pos (by omega)] at hq
     simp at hq
     rw [if_pos rfl]
     subst hq
     rw [hx'] at hx;cases hx
     exact⟨a',g1,g2,g3,g4⟩
    ·rw [if_neg (by omega)] at hq
     rw [if_neg e]
     exact h5 j q x ⟨hp,Ne.symm e⟩ hq hx'
  ·obtain⟨es,u',g5,g6⟩:=Cc h3
   obtain⟨us0,xs,us',p1,p2,p3,p4,p5,p6,p7⟩:=gy g5
   rw [h1] at p1;cases p1
   refine⟨u',us',p4,by omega,g6,fun l e=>?_,fun j q x hp hq hx'=>?_⟩
   ·obtain⟨l',rfl⟩:=h4 l e
    exact Pj g5
   ·rw [p7] at hq
    rw [ei]
    by_cases e:off=j
    ·subst e
     exact absurd ⟨hp,by have:=(List.getElem?_eq_some_iff.1 hx').1;omega⟩ hoff
    ·rw [if_neg (by omega)] at hq
     rw [if_neg e]
     exact h5 j q x ⟨hp,Ne.symm e⟩ hq hx'
theorem Dx {A:ee} {V:cg} {st:St} (h:R A V st) {v:TV} {ovs:List (Nat×VV)} {cs:List AV} {ts:List TV} {k:TV->Prop} (hc:en A v ovs cs ts) (hk:Ga V ovs v k) (d:Nat) :
  ∃u us cs',lN (dw (d+3) st.H) cs=some cs'/\gk u=some us/\Og us cs'/\k u/\(∀l,v=.a l->∃l',u=.a l')/\((∀x∈cs,AV.flat x=true)->cs'=cs):=by
 obtain⟨u,us,h1,h2,h3,h4,h5⟩:=IS h d ovs (fun _=>True) v ts cs k hc.cells hc.len (fun j t x _ ht hx=>by
  have:=hc.at_ j t x ht hx
  unfold Rj at this
  cases ho:fc j ovs with
  |none=>trivial
  |some w=>rw [ho] at this;exact this) hk
 obtain⟨cs',g1,g2,g3⟩:=H9 (f:=dw (d+3) st.H) (cs:=cs) (fun j x y=>∀u',us[j]?=some u'->Can u' y/\y.flat=true/\(x.flat=true->y=x)) (fun j x hx=>by
  have hlt:j < us.length:=by rw [h2,hc.len];exact(List.getElem?_eq_some_iff.1 hx).1
  have hu:us[j]?=some us[j]:=List.getElem?_eq_getElem _
  have hp:=h5 j _ x trivial hu hx
  cases ho:fc j ovs with
  |none=>
   rw [ho] at hp
   have hq:=hc.at_ j _ x hp hx
   rw [ho] at hq
   exact⟨x,Ad hq.2 (d+2) st.H,fun u' hu'=>by rw [hu] at hu';cases hu';exact⟨hq.1,hq.2,fun _=>rfl⟩⟩
  |some w=>
   rw [ho] at hp
   obtain⟨a',p1,p2,p3,p4⟩:=hp
   exact⟨a',p1,fun u' hu'=>by rw [hu] at hu';cases hu';exact⟨p2,p3,fun hf=>p4 (Ly hf)⟩⟩)
 have hlen:us.length=cs'.length:=by rw [g2,h2,hc.len]
 have both:∀j y,cs'[j]?=some y->∃x u',cs[j]?=some x/\us[j]?=some u':=fun j y hy=>by
  have hlt:=(List.getElem?_eq_some_iff.1 hy).1
  exact⟨cs[j]'(by omega),us[j]'(by omega),List.getElem?_eq_getElem _,List.getElem?_eq_getElem _⟩
 refine⟨u,us,cs',g1,h1,⟨⟨hlen,fun j t y ht hy=>?_⟩,fun y hy=>?_⟩,h3,h4,fun hf=>?_⟩
 ·obtain⟨x,u',hx,hu⟩:=both j y hy
  exact(g3 j x y hx hy t ht).1
 ·obtain⟨j,hj⟩:=List.getElem?_of_mem hy
  obtain⟨x,u',hx,hu⟩:=both j y hj
  exact(g3 j x y hx hj u' hu).2.1
 ·apply List.ext_getElem?
  intro j
  cases hy:cs'[j]? with
  |none=>
   rw [List.getElem?_eq_none_iff] at hy
   exact(List.getElem?_eq_none_iff.2 (by omega)).symm
  |some y=>
   obtain⟨x,u',hx,hu⟩:=both j y hy
   rw [hx,(g3 j x y hx hy u' hu).2.2 (hf x (List.mem_of_getElem? hx))]
theorem Ei {A:ee} {V:cg} {st:St} (h:R A V st) {w:VV} {a:AV} {k:TV->Prop} (hv:VR A w a) (hk:XN V w k) (d:Nat) :
  ∃t a',dw (d+4) st.H a=some a'/\Can t a'/\(a.plain=true->a'=a)/\k t:=by
 cases hv<;>first|(cases hk;done)|skip
 ·rename_i v hc;exact⟨v,a,xj (qn hc) (d+1) _,hc,fun _=>rfl,hk⟩
 ·exact⟨_,_,rfl,.nil,fun _=>rfl,hk⟩
 ·exact⟨_,_,rfl,pg,fun _=>rfl,hk⟩
 ·rename_i O hO
  obtain⟨es,a',h1,h2,h3,h4,h5⟩:=Cb h (w:=.sl O) (x:=a) hO hk (d+1)
  exact⟨_,a',h1,h2,h4,h5⟩
 ·rename_i v ovs cs ts hv hc
  obtain⟨u,us,cs',h1,h2,h3,h4,h5,h6⟩:=Dx h hc hk d
  obtain⟨l',rfl⟩:=h5 _ hv
  cases h2
  refine⟨_,.agg cs',by rw [oo,h1],.a _ _ h3.1.1 h3.2 h3.1.2,fun hp=>?_,h4⟩
  rw [h6 (cx.1 hp)]
 ·rename_i O v i hO
  obtain⟨es,a',h1,h2,h3,h4,h5⟩:=Cb h (w:=.ow O v i) (x:=a) hO hk (d+1)
  exact⟨_,a',h1,h2,h4,h5⟩
theorem JA:∀{ovs:List (Nat×VV)},GS ovs=true->∀j w,fc j ovs=some w->w=.gi
 |[],h,j,w,hj=>by simp [fc] at hj
 |(i,x)::r,h,j,w,hj=>by
  cases x<;>first|(cases h;done)|skip
  rw [ei] at hj
  split at hj
  ·cases hj;rfl
  ·exact JA (ovs:=r) h j w hj
theorem Aq {A:ee} {v:TV} {ovs:List (Nat×VV)} {cs:List AV} {ts:List TV} (hc:en A v ovs cs ts) (h:GS ovs=true):(AV.agg cs).plain=true:=by
 refine cx.2 (fun x hx=>?_)
 obtain⟨j,hj⟩:=List.getElem?_of_mem hx
 have hlt:j < ts.length:=by rw [hc.len];exact(List.getElem?_eq_some_iff.1 hj).1
 have:=hc.at_ j _ x (List.getElem?_eq_getElem hlt) hj
 cases ho:fc j ovs with
 |none=>rw [ho] at this;exact this.2
 |some w=>
  rw [ho] at this
  have hw:=JA h j w ho
  subst hw
  rcases this with rfl|rfl<;>rfl
theorem Hy {A:ee} {V:cg} {st:St} {g:G} (h:R A V st) (ha:act g):∀(xs:List ct) (k:Bool->List TV->Prop),AB V g xs k->
  ∃p ts as',k p ts/\lN (dw deep st.H) (xs.map (ev st.env))=some as'/\p_ ts as'/\(gJ AV.plain (xs.map (ev st.env))=true->as'=xs.map (ev st.env))/\(p=true->gJ AV.plain (xs.map (ev st.env))=true)
 |[],k,hk=>⟨true,[],[],hk,rfl,⟨rfl,fun j t x ht=>by simp at ht⟩,fun _=>rfl,fun _=>rfl⟩
 |x::xs,k,hk=>by
  obtain⟨w,hw,hk⟩:=gj h ha hk
  have fin:∀(t:TV) (a':AV) (kk:Bool->List TV->Prop) (q:Bool),dw deep st.H (ev st.env x)=some a'->Can t a'->((ev st.env x).plain=true->a'=ev st.env x)->(q=true->(ev st.env x).plain=true)->
    AB V g xs kk->(∀p vs,kk p vs->k (q&&p) (t::vs))->
    ∃p ts as',k p ts/\lN (dw deep st.H) ((x::xs).map (ev st.env))=some as'/\p_ ts as'/\(gJ AV.plain ((x::xs).map (ev st.env))=true->as'=(x::xs).map (ev st.env))/\(p=true->gJ AV.plain ((x::xs).map (ev st.env))=true):=by
   intro t a' kk q h1 h2 h3 hq h4 h5
   obtain⟨p,ts,as',g1,g2,g3,g4,g5⟩:=Hy h ha xs kk h4
   refine⟨q&&p,t::ts,a'::as',h5 _ _ g1,?_,⟨by simp [g3.1],fun j u y hu hy=>?_⟩,fun hp=>?_,fun hp=>?_⟩
   ·rw [List.map_cons,ic,h1,g2]
   ·cases j with
    |zero=>simp at hu hy;subst hu;subst hy;exact h2
    |succ j=>exact g3.2 j u y (by simpa using hu) (by simpa using hy)
   ·rw [List.map_cons] at hp ⊢
    have hp':=cx.1 hp
    rw [h3 (hp' _ List.mem_cons_self),g4 (cx.2 fun y hy=>hp' y (List.mem_cons_of_mem _ hy))]
   ·rw [Bool.and_eq_true] at hp
    rw [List.map_cons,cx]
    intro y hy
    rcases List.mem_cons.1 hy with rfl|hy
    ·exact hq hp.1
    ·exact cx.1 (g5 hp.2) y hy
  generalize ev st.env x=a at hw fin
  have tree:∀{t:TV},Can t a->AB V g xs (fun p vs=>k p (t::vs))->_:=fun {t} hc hk=>
   fin t a _ true (xj (qn hc) 27 _) hc (fun _=>rfl) (fun _=>qn hc) hk (fun p vs hh=>by rw [Bool.true_and];exact hh)
  cases hw with
  |tr hc=>exact tree hc hk
  |gi=>exact tree .nil hk
  |zf=>exact tree pg hk
  |sl hO=>
   obtain⟨t,a',h1,h2,h3,h4⟩:=Ei h (.sl hO) hk 26
   exact fin t a' _ false h1 h2 h3 (fun hh=>by cases hh) h4 (fun p vs hh=>hh)
  |@st v ovs cs ts hv hc=>
   obtain⟨t,a',h1,h2,h3,h4⟩:=Ei h (.st hv hc) hk 26
   exact fin t a' _ (GS ovs) h1 h2 h3 (fun hh=>Aq hc hh) h4 (fun p vs hh=>hh)
  |ow hO=>
   obtain⟨t,a',h1,h2,h3,h4⟩:=Ei h (.ow hO) hk 26
   exact fin t a' _ false h1 h2 h3 (fun hh=>by cases hh) h4 (fun p vs hh=>hh)
  |_=>cases hk
end Go.Ax.V
