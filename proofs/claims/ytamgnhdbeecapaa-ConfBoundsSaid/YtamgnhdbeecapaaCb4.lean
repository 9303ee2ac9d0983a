/- Part 4 of the proof: Ax24, Ax25, Ax26, Ax27, V0, V1, V2, V3, V4, V5, V6, V7, V8, V9, V10, V12, VS, V11. -/
import Derived.Test.YtamgnhdbeecapaaCb3
import Derived.LoopN

set_option linter.unusedSimpArgs false
set_option linter.unusedVariables false
namespace Go.Ax
section
variable {cf:FnF} {nt n0:Nat} {H:Heap} {nx:Nat}
theorem effStep_up (hup:FnUp cf) {ao:AOper} {st st1:St} {r:Rec} (hd:effStep cf nt n0 ao st=some (st1,r)):st.nx≤st1.nx:=by
 have hcall:∀{f:Nat} {args:List AV} {m:Mode} {v:AV} {H':Heap} {nx':Nat} {rds:List Rd} {tch:Tch},effCall cf n0 f args m st.H st.nx=some (v,H',nx',rds,tch)→st.nx≤nx':=by
  intro f args m v H' nx' rds tch h
  cases m with
  |share=>
   simp only [effCall] at h
   split at h
   ·rename_i hc;cases h;exact hup _ _ _ _ _ _ _ hc
   ·cases h
  |borrow=>
   simp only [effCall,cond_eq_ite] at h
   split at h <;> split at h <;> first | (cases h;exact Nat.le_refl _) | cases h
 unfold effStep at hd
 rw [cond_eq_ite] at hd
 split at hd
 ·split at hd
  ·cases hd
  ·rename_i v H nx rds tch hE
   split at hd
   ·cases hd
   ·cases hd
    unfold effFz at hE
    rw [cond_eq_ite] at hE
    split at hE
    ·split at hE
     ·split at hE
      ·cases hE
      ·split at hE
       ·cases hE;exact Nat.le_refl _
       ·cases hE
     ·cases hE
    ·unfold effOp at hE
     split at hE
     ·split at hE
      ·split at hE
       ·rename_i hrun;cases hE;exact runPlan_up hrun
       ·cases hE
      ·cases hE
     ·exact hcall hE
     ·split at hE
      ·exact hcall hE
      ·cases hE
 ·split at hd
  ·cases hd
  ·cases hd;exact Nat.le_refl _
theorem runDOps_up (hup:FnUp cf):∀{al:List AOper} {st st':St} {rs:List Rec},runDOps cf nt n0 al st=some (st',rs)→st.nx≤st'.nx
 |[],st,st',rs,h=>by cases h;exact Nat.le_refl _
 |ao :: al,st,st',rs,h=>by
  simp only [runDOps] at h
  split at h
  ·cases h
  ·rename_i st1 r h1
   split at h
   ·cases h
   ·rename_i h2
    cases h
    exact Nat.le_trans (effStep_up hup h1) (runDOps_up hup h2)
end
def CodeUp (ex:CodeF):Prop:=∀nt ac st x st',ex nt ac st=some (x,st')→st.nx≤st'.nx
theorem codeStep_up {ex:CodeF} {cf:FnF} (h1:CodeUp ex) (h2:FnUp cf):CodeUp (codeStep ex cf):=by
 intro nt ac st x st' h
 unfold codeStep at h
 split at h
 ·cases h;exact Nat.le_refl _
 ·split at h
  ·rename_i hr;cases h;exact runOps_up h2 hr
  ·cases h
 ·split at h
  ·rename_i hr
   cases h
   unfold runDreg at hr
   split at hr
   ·cases hr
   ·rename_i hrun
    rw [cond_eq_ite] at hr
    split at hr
    ·cases hr;exact runDOps_up h2 hrun
    ·cases hr
  ·cases h
 ·split at h
  ·rename_i hr;exact Nat.le_trans (h1 _ _ _ _ _ hr) (h1 _ _ _ _ _ h)
  ·exact h1 _ _ _ _ _ h
 ·split at h
  ·exact h1 _ _ _ _ _ h
  ·exact h1 _ _ _ _ _ h
  ·cases h
 ·split at h
  ·rename_i hr
   rw [cond_eq_ite] at h
   split at h
   ·cases h;exact h1 _ _ _ _ _ hr
   ·cases h;exact h1 _ _ _ _ _ hr
  ·exact h1 _ _ _ _ _ h
 ·split at h
  ·rename_i hr;exact Nat.le_trans (h1 _ _ _ _ _ hr) (h1 _ _ _ _ _ h)
  ·exact h1 _ _ _ _ _ h
 ·cases h;exact Nat.le_refl _
 ·cases h;exact Nat.le_refl _
theorem resA_up {l:List ARes} {st:St} {v:AV} {H':Heap} {nx':Nat} (h:resA l st=some (v,H',nx')):H'=st.H∧nx'=st.nx:=by
 unfold resA at h
 split at h
 ·cases h;exact ⟨rfl,rfl⟩
 ·cases h;exact ⟨rfl,rfl⟩
 ·cases h
theorem fnStep_up {prog:Map AFunc} {ex:CodeF} (h1:CodeUp ex):FnUp (fnStep prog ex):=by
 intro f args H nx v H' nx' h
 unfold fnStep at h
 split at h
 ·cases h
 ·rw [cond_eq_ite] at h
  split at h
  ·split at h
   ·rename_i hr;obtain ⟨_,rfl⟩:=resA_up h;exact h1 _ _ _ _ _ hr
   ·rename_i hr;obtain ⟨_,rfl⟩:=resA_up h;exact h1 _ _ _ _ _ hr
   ·cases h
  ·cases h
theorem interp_up (prog:Map AFunc):∀k,CodeUp (interp prog k).code∧FnUp (interp prog k).fn
 |0=>⟨fun _ _ _ _ _ h=>(by cases h),fun _ _ _ _ _ _ _ h=>(by cases h)⟩
 |k + 1=>by
  obtain ⟨h1,h2⟩:=interp_up prog k
  exact ⟨codeStep_up h1 h2,fnStep_up h1⟩
def mCode (P:Program):Code→ACode→Bool
 |.skip,.skip=>true
 |.region _ ops draw,.reg al=>!draw&&mOpers P ops ops.toList al
 |.region _ ops draw,.dreg al ahead pairs=>draw&&mDreg P ops al ahead pairs
 |.seq a b,.seq a' b'=>mCode P a a'&&mCode P b b'
 |.cond c a b,.cond c' a' b'=>mOpd c c'&&mCode P a a'&&mCode P b b'
 |.block id c,.block id' c'=>Nat.beq id id'&&mCode P c c'
 |.loop c,.loop c'=>mCode P c c'
 |.exit id,.exit id'=>Nat.beq id id'
 |.ret,.ret=>true
 |_,_=>false
def AExit.conc:AExit→Exit
 |.normal=>.normal
 |.exit id=>.exit id
 |.ret=>.ret
def Holds (P:Program) (X:Code→(Exit→Act→World→Prop)→Act→World→Prop) (nt:Nat) (st:St) (x:AExit) (st':St) (c:Code):Prop:=
 ∀(top:Nat) (φ:Phi) (K:Nat→Prop) (w:World) (a:Act) (Q:Exit→Act→World→Prop),st'.nx≤top→Sim top φ K st.H.get st.nx w→EnvR φ K w st.env a→a.tmps.size=nt→a.defers=[]→(∀a' w',Post top φ K st w nt st' a' w'→Q x.conc a' w')→X c Q a w
def CodeOk (P:Program) (ex:CodeF):Prop:=∀nt ac st x st',ex nt ac st=some (x,st')→∀c,mCode P c ac=true→Holds P (fun c Q a w=>c.wp P Q a w) nt st x st' c
def LoopOk (P:Program) (ex:CodeF) (n:Nat):Prop:=∀nt ac st x st',ex nt (.loop ac) st=some (x,st')→∀c,mCode P c ac=true→Holds P (fun c Q a w=>Code.rounds P c Q n a w) nt st x st' c
theorem loop_ok {P:Program} {ex:CodeF} {cf:FnF} {n:Nat} (h1:CodeOk P ex) (hu:CodeUp ex) (hl:LoopOk P ex n):LoopOk P (codeStep ex cf) (n + 1):=by
 intro nt ac st x st' h c hm top φ K w a Q ht s he hs hd hQ
 simp only [codeStep] at h
 rw [rounds_succ]
 split at h
 ·rename_i st1 hr
  have hle:=hu _ _ _ _ _ h
  refine h1 nt ac st .normal st1 hr c hm top φ K w a _ (Nat.le_trans hle ht) s he hs hd (fun a1 w1 hp=>?_)
  obtain ⟨φ1,K1,g,q1,q2,q3⟩:=hp
  exact hl nt ac st1 x st' h c hm top φ1 K1 w1 a1 Q ht g.sim q1 q2 q3 (fun a' w' hp'=>hQ a' w' (hp'.trans g))
 ·rename_i hne
  refine h1 nt ac st x st' h c hm top φ K w a _ ht s he hs hd (fun a1 w1 hp=>?_)
  cases x with
  |normal=>exact (hne _ h).elim
  |exit id=>exact hQ a1 w1 hp
  |ret=>exact hQ a1 w1 hp
theorem code_ok {P:Program} {ex:CodeF} {cf:FnF} {n:Nat} (hmx:P.follows .mixedOrders=true) (h1:CodeOk P ex) (hu:CodeUp ex) (hl:LoopOk P ex n) (hcf:FnOk P cf) (hup:FnUp cf):CodeOk P (codeStep ex cf):=by
 intro nt ac st x st' h c hm top φ K w a Q ht s he hs hd hQ
 cases ac with
 |skip=>
  cases c <;> first | cases hm | skip
  cases h
  exact wp_skip (hQ a w ⟨φ,K,Goes.refl s,he,hs,hd⟩)
 |reg al=>
  cases c <;> first | cases hm | skip
  rename_i id ops draw
  simp only [mCode,Bool.and_eq_true,Bool.not_eq_true'] at hm
  obtain ⟨rfl,hm⟩:=hm
  simp only [codeStep] at h
  split at h
  ·rename_i st1 hr
   cases h
   exact wp_region_list (regs hcf hup ops.toList al st st' a w φ K hm hr ht s he hs hd hQ)
  ·cases h
 |dreg al ahead pairs=>
  cases c <;> first | cases hm | skip
  rename_i id ops draw
  simp only [mCode,Bool.and_eq_true] at hm
  obtain ⟨rfl,hm⟩:=hm
  simp only [codeStep] at h
  split at h
  ·rename_i st1 hr
   cases h
   exact dreg_ok hcf hup hmx hm hr ht s he hs hd hQ
  ·cases h
 |seq a1 b1=>
  cases c <;> first | cases hm | skip
  rename_i ca cb
  simp only [mCode,Bool.and_eq_true] at hm
  simp only [codeStep] at h
  refine wp_seq ?_
  split at h
  ·rename_i st1 hr
   have hle:=hu _ _ _ _ _ h
   refine h1 nt a1 st .normal st1 hr ca hm.1 top φ K w a _ (Nat.le_trans hle ht) s he hs hd (fun a1 w1 hp=>?_)
   obtain ⟨φ1,K1,g,q1,q2,q3⟩:=hp
   exact h1 nt b1 st1 x st' h cb hm.2 top φ1 K1 w1 a1 Q ht g.sim q1 q2 q3 (fun a' w' hp'=>hQ a' w' (hp'.trans g))
  ·rename_i hne
   refine h1 nt a1 st x st' h ca hm.1 top φ K w a _ ht s he hs hd (fun a1 w1 hp=>?_)
   cases x with
   |normal=>exact (hne _ h).elim
   |exit id=>exact hQ a1 w1 hp
   |ret=>exact hQ a1 w1 hp
 |cond c0 a1 b1=>
  cases c <;> first | cases hm | skip
  rename_i cc ca cb
  simp only [mCode,Bool.and_eq_true] at hm
  simp only [codeStep] at h
  have hr:=he.opd _ _ hm.1.1
  split at h
  ·rename_i hc
   rw [hc] at hr
   exact wp_cond_true (rel_bool hr) (h1 nt a1 st x st' h ca hm.1.2 top φ K w a Q ht s he hs hd hQ)
  ·rename_i hc
   rw [hc] at hr
   exact wp_cond_false (rel_bool hr) (h1 nt b1 st x st' h cb hm.2 top φ K w a Q ht s he hs hd hQ)
  ·cases h
 |block id c0=>
  cases c <;> first | cases hm | skip
  rename_i id' cc
  simp only [mCode,Bool.and_eq_true,Nat.beq_eq] at hm
  obtain ⟨rfl,hm⟩:=hm
  simp only [codeStep] at h
  refine wp_block ?_
  split at h
  ·rename_i i st1 hr
   rw [cond_eq_ite] at h
   split at h
   ·rename_i hi
    rw [Nat.beq_eq] at hi
    cases h
    refine h1 nt c0 st (.exit i) st' hr cc hm top φ K w a _ ht s he hs hd (fun a1 w1 hp=>?_)
    simp only [AExit.conc,Exit.inBlock,if_pos hi]
    exact hQ a1 w1 hp
   ·rename_i hi
    rw [Nat.beq_eq] at hi
    cases h
    refine h1 nt c0 st (.exit i) st' hr cc hm top φ K w a _ ht s he hs hd (fun a1 w1 hp=>?_)
    simp only [AExit.conc,Exit.inBlock,if_neg hi]
    exact hQ a1 w1 hp
  ·rename_i hne
   refine h1 nt c0 st x st' h cc hm top φ K w a _ ht s he hs hd (fun a1 w1 hp=>?_)
   cases x with
   |normal=>exact hQ a1 w1 hp
   |exit id=>exact (hne _ _ h).elim
   |ret=>exact hQ a1 w1 hp
 |loop c0=>
  cases c <;> first | cases hm | skip
  rename_i cc
  exact wp_loop_rounds (n + 1) (loop_ok (cf:=cf) h1 hu hl nt c0 st x st' h cc hm top φ K w a Q ht s he hs hd hQ)
 |exit id=>
  cases c <;> first | cases hm | skip
  simp only [mCode,Nat.beq_eq] at hm
  subst hm
  cases h
  exact wp_exit (hQ a w ⟨φ,K,Goes.refl s,he,hs,hd⟩)
 |ret=>
  cases c <;> first | cases hm | skip
  cases h
  exact wp_ret (hQ a w ⟨φ,K,Goes.refl s,he,hs,hd⟩)
def mRes (P:Program):List ResultVar→List ARes→Bool
 |[],[]=>true
 |.tmp t :: l,.tmp t' :: l'=>Nat.beq t t'&&mRes P l l'
 |.cell a t :: l,.cell a' sz :: l'=>Nat.beq a a'&&tVar P t sz&&mRes P l l'
 |_,_=>false
def mFunc (P:Program) (fn:Func) (c:Code) (af:AFunc):Bool:=Nat.beq fn.ntmps af.nt&&Nat.ble af.params af.nt&&mCode P c af.body&&mRes P fn.results.toList af.res
def Matched (P:Program) (f:Nat) (af:AFunc):Prop:=(∃fn c,P.funcs[f]?=some fn∧fn.body=some c∧mFunc P fn c af=true)∧∀args w,(callFunc f args).run P w=.ok (.enter f args) w
theorem initE_ev:∀(vs:List AV) (i:Nat) (e:Env) (t:Nat),ev (initE vs i e) (.t t)=if i≤t∧t < i + vs.length then vs.getD (t - i) undefA else ev e (.t t)
 |[],i,e,t=>by simp [initE];intro h1 h2;omega
 |v :: vs,i,e,t=>by
  rw [initE,initE_ev vs (i + 1) _ t,ev_put]
  by_cases h1:t=i
  ·subst h1
   rw [if_neg (by omega),if_pos rfl,if_pos (by simp)]
   simp
  ·rw [if_neg h1]
   by_cases h2:i + 1≤t∧t < i + 1 + vs.length
   ·rw [if_pos h2,if_pos (by simp;omega),show t - i=(t - (i + 1)) + 1 by omega]
    simp
   ·rw [if_neg h2,if_neg (by simp;omega)]
section
variable {top:Nat} {P:Program} {φ:Phi} {K:Nat→Prop} {w:World} {st:St} {a:Act}
def resRun (tmps:Array Value):ResultVar→Sem Value
 |.tmp t=>pure (tmps.getD t undef)
 |.cell b t=>do loadVar t (←asAddr (tmps.getD b undef))
theorem results_eq (fn:Func) (tmps:Array Value):results fn tmps=(do let vs ←fn.results.mapM (resRun tmps);pure (if h:vs.size=1 then vs[0] else .tuple vs)):=by
 rfl
theorem resOne_ok (s:Sim top φ K st.H.get st.nx w) (he:EnvR φ K w st.env a):∀(l:List ResultVar) (l':List ARes) (vs:List AV),mRes P l l'=true→mapO (resOne st.env st.H) l'=some vs→
  ∃Vs:List Value,(l.mapM (resRun a.tmps)).run P w=.ok Vs w∧Vs.length=vs.length∧∀(j:Nat) (v:AV) (V:Value),vs[j]?=some v→Vs[j]?=some V→RelV φ K w v V:=by
 intro l
 induction l with
 |nil=>
  intro l' vs hm hv
  cases l' with
  |nil=>cases hv;exact ⟨[],rfl,rfl,fun j v V h=>by simp at h⟩
  |cons _ _=>cases hm
 |cons r l ih=>
  intro l' vs hm hv
  cases l' with
  |nil=>cases r <;> cases hm
  |cons r' l'=>
   rw [mapO_cons] at hv
   cases h1:resOne st.env st.H r' with
   |none=>rw [h1] at hv;cases hv
   |some v=>
    rw [h1] at hv
    simp only at hv
    cases h2:mapO (resOne st.env st.H) l' with
    |none=>rw [h2] at hv;cases hv
    |some vs'=>
     rw [h2] at hv
     cases hv
     have fin:∀V:Value,RelV φ K w v V→mRes P l l'=true→(resRun a.tmps r).run P w=.ok V w→
       ∃Vs:List Value,((r :: l).mapM (resRun a.tmps)).run P w=.ok Vs w∧Vs.length=(v :: vs').length∧∀(j:Nat) (v':AV) (V':Value),(v :: vs')[j]?=some v'→Vs[j]?=some V'→RelV φ K w v' V':=by
      intro V hV hml hrun
      obtain ⟨Vs,q1,q2,q3⟩:=ih l' vs' hml h2
      refine ⟨V :: Vs,?_,by simp [q2],fun j v' V' hj hJ=>?_⟩
      ·rw [List.mapM_cons,Sem.run_bind]
       rw [hrun]
       simp [q1]
      ·cases j with
       |zero=>simp at hj hJ;subst hj;subst hJ;exact hV
       |succ j=>exact q3 j v' V' (by simpa using hj) (by simpa using hJ)
     cases r with
     |tmp t=>
      cases r' with
      |cell _ _=>cases hm
      |tmp t'=>
       simp only [mRes,Bool.and_eq_true,Nat.beq_eq] at hm
       obtain ⟨rfl,hm⟩:=hm
       cases h1
       exact fin _ (he t) hm rfl
     |cell b t=>
      cases r' with
      |tmp _=>cases hm
      |cell b' sz=>
       simp only [mRes,Bool.and_eq_true,Nat.beq_eq] at hm
       obtain ⟨⟨rfl,htv⟩,hm⟩:=hm
       simp only [resOne] at h1
       split at h1
       ·rename_i id g off hev
        split at h1
        ·rename_i cs hcs
         rw [fetch_F] at hcs
         have hb:=he b
         rw [hev] at hb
         obtain ⟨blk,base,hp1,hV⟩:=rel_ptr hb
         obtain ⟨b1,base1,c,e,p1,p2,p3,p4,p5⟩:=fetch_cells s hcs
         rw [hp1] at p1
         cases p1
         have hlen:=listAt_length c (base + off) (loadA sz)
         have hget:∀(j:Nat) (x:AV),cs[j]?=some x→x.one=true∧∃u,(listAt c (base + off) (loadA sz))[j]?=some u∧RelV φ K w x u:=by
          intro j x hx
          obtain ⟨r1,u,r2,r3⟩:=p5 j x hx
          have hj:j < loadA sz:=by
           rcases Nat.lt_or_ge j cs.length with hj | hj
           ·omega
           ·rw [List.getElem?_eq_none hj] at hx;cases hx
          exact ⟨r1,u,by rw [listAt_get c _ _ j hj (by omega)];exact r2,r3⟩
         refine fin _ (rel_mkv s htv h1 _ (by rw [p4,hlen]) hget) hm ?_
         simp only [resRun,hV,asAddr,Sem.run_bind,Sem.run_pure,Result.andThen_ok]
         refine run_loadVar htv blk (base + off) _ hlen (fun j hj=>?_)
         rw [cell_at p2,listAt_get c _ _ j (by omega) (by omega)]
        ·cases h1
       ·cases h1
theorem results_ok (s:Sim top φ K st.H.get st.nx w) (he:EnvR φ K w st.env a) {fn:Func} {l':List ARes} (hm:mRes P fn.results.toList l'=true) {v:AV} {H':Heap} {nx':Nat} (hv:resA l' st=some (v,H',nx')) :
  ∃V,(results fn a.tmps).run P w=.ok V w∧RelV φ K w v V:=by
 unfold resA at hv
 have key:∀vs,mapO (resOne st.env st.H) l'=some vs→∃Vs:List Value,Vs.length=vs.length∧(∀(j:Nat) (v:AV) (V:Value),vs[j]?=some v→Vs[j]?=some V→RelV φ K w v V)∧(results fn a.tmps).run P w=.ok (if h:Vs.toArray.size=1 then Vs.toArray[0] else .tuple Vs.toArray) w:=by
  intro vs hvs
  obtain ⟨Vs,q1,q2,q3⟩:=resOne_ok s he fn.results.toList l' vs hm hvs
  refine ⟨Vs,q2,q3,?_⟩
  have e:fn.results=fn.results.toList.toArray:=by simp
  rw [results_eq,e,List.mapM_toArray]
  simp [q1]
 split at hv
 ·rename_i v1 hvs
  cases hv
  obtain ⟨Vs,q1,q2,q3⟩:=key _ hvs
  cases Vs with
  |nil=>simp at q1
  |cons V Vs=>
   have hVs:Vs=[]:=List.eq_nil_of_length_eq_zero (by simpa using q1)
   subst hVs
   exact ⟨V,by rw [q3];rfl,q2 0 v V rfl rfl⟩
 ·rename_i vs hne hvs
  cases hv
  obtain ⟨Vs,q1,q2,q3⟩:=key _ hvs
  refine ⟨.tuple Vs.toArray,?_,.tup vs Vs.toArray (by simp [q1]) (fun j a V ha hV=>q2 j a V ha (by simpa using hV))⟩
  rw [q3,dif_neg]
  intro h1
  cases vs with
  |nil=>simp at q1;simp [q1] at h1
  |cons v1 vs1=>
   cases vs1 with
   |nil=>exact hne v1 rfl
   |cons _ _=>simp at q1 h1;omega
 ·cases hv
end
theorem fn_ok {P:Program} {prog:Map AFunc} (hprog:∀f af,prog.get f=some af→Matched P f af) {ex:CodeF} (h1:CodeOk P ex):FnOk P (fnStep prog ex):=by
 intro f args H nx v H' nx' h
 unfold fnStep at h
 split at h
 ·cases h
 ·rename_i af haf
  obtain ⟨⟨fn,c,hf,hb,hm⟩,hcall⟩:=hprog f af haf
  simp only [mFunc,Bool.and_eq_true,Nat.beq_eq,Nat.ble_eq] at hm
  obtain ⟨⟨⟨hnt,hpn⟩,hmc⟩,hmr⟩:=hm
  refine ⟨hcall,?_⟩
  rw [cond_eq_ite] at h
  split at h
  ·rename_i hlen
   rw [Nat.beq_eq] at hlen
   intro top φ K w cargs ht s ha
   have hsz:(cargs++Array.replicate (fn.ntmps - cargs.size) undef).size=af.nt:=by
    have:=ha.1
    simp
    omega
   have henv:EnvR φ K w (initE args 0 .leaf) {tmps:=cargs++Array.replicate (fn.ntmps - cargs.size) undef,defers:=[]}:=by
    intro t
    rw [initE_ev]
    simp only [Nat.zero_le,true_and,Nat.zero_add,Nat.sub_zero]
    by_cases hlt:t < args.length
    ·rw [if_pos hlt]
     have hc:t < cargs.size:=by have:=ha.1;omega
     have h2:=ha.2 t _ _ (List.getElem?_eq_getElem hlt) (Array.getElem?_eq_getElem hc)
     have e1:args.getD t undefA=args[t]:=by simp [hlt]
     have e2:(cargs++Array.replicate (fn.ntmps - cargs.size) undef).getD t undef=cargs[t]:=by
      rw [Array.getD_eq_getD_getElem?,Array.getElem?_append_left hc,Array.getElem?_eq_getElem hc];rfl
     rw [e1,e2]
     exact h2
    ·rw [if_neg hlt]
     have e2:(cargs++Array.replicate (fn.ntmps - cargs.size) undef).getD t undef=undef:=by
      rw [Array.getD_eq_getD_getElem?,Array.getElem?_append_right (by have:=ha.1;omega),Array.getElem?_replicate]
      split <;> rfl
     rw [e2]
     exact undef_rel
   have fin:∀(x:AExit) (st:St),ex af.nt af.body ⟨initE args 0 .leaf,H,nx⟩=some (x,st)→(x=.normal∨x=.ret)→resA af.res st=some (v,H',nx')→Calls P f cargs w (Ret (Ends top φ K H.get nx w v H'.get nx')):=by
    intro x st hr hx hres
    obtain ⟨rfl,rfl⟩:=resA_up hres
    refine calls_of_wp hf hb ?_
    refine h1 af.nt af.body _ x st hr c hmc top φ K w _ _ ht s henv hsz rfl (fun a' w' hp=>?_)
    obtain ⟨φ',K',g,henv',hs',hd'⟩:=hp
    obtain ⟨V,hV1,hV2⟩:=results_ok (P:=P) (fn:=fn) g.sim henv' hmr hres
    have hb:a'.defers=[]∧∃V,(results fn a'.tmps).run P w'=.ok V w'∧Ret (Ends top φ K H.get nx w v st.H.get st.nx) (.returned V) w':=⟨hd',V,hV1,φ',K',g,hV2⟩
    rcases hx with rfl | rfl
    ·exact hb
    ·exact hb
   split at h
   ·rename_i st hr;exact fin .normal st hr (.inl rfl) h
   ·rename_i st hr;exact fin .ret st hr (.inr rfl) h
   ·cases h
  ·cases h
theorem interp_ok {P:Program} (hmx:P.follows .mixedOrders=true) {prog:Map AFunc} (hprog:∀f af,prog.get f=some af→Matched P f af):∀k,CodeOk P (interp prog k).code∧LoopOk P (interp prog k).code k∧FnOk P (interp prog k).fn
 |0=>⟨fun _ _ _ _ _ h=>(by cases h),fun _ _ _ _ _ h=>(by cases h),fun _ _ _ _ _ _ _ h=>(by cases h)⟩
 |k + 1=>by
  obtain ⟨h1,h2,h3⟩:=interp_ok hmx hprog k
  obtain ⟨u1,u2⟩:=interp_up prog k
  exact ⟨code_ok hmx h1 u1 h2 h3 u2,loop_ok h1 u1 h2,fn_ok hprog h1⟩
end Go.Ax

set_option linter.unusedSimpArgs false
set_option linter.unusedVariables false
namespace Go.Ax
theorem grown_of_ext {W W':World} (e:Ext (fun _=>False) W W'):RowKit.Grown W W':=by
 refine ⟨⟨e.os,e.output,fun i hi=>?_⟩,e.fz,e.size⟩
 rw [e.same i hi (fun h=>h)]
 cases h:W.heap[i]? with
 |none=>rfl
 |some ob=>
  cases ob with
  |cells c t fr=>exact ⟨rfl,rfl,rfl,fun _ _=>rfl⟩
  |map es clk=>exact .inr ⟨rfl,rfl⟩
  |_=>rfl
def isTrue:Option (AV×Heap×Nat)→Bool
 |some (.bool b,_,_)=>b
 |_=>false
theorem isTrue_some {r:Option (AV×Heap×Nat)} (h:isTrue r=true):∃H nx,r=some (.bool true,H,nx):=by
 unfold isTrue at h
 split at h
 ·subst h;exact ⟨_,_,rfl⟩
 ·cases h
theorem calls_true {P:Program} {cf:FnF} (hcf:FnOk P cf) {f:Nat} {args:List AV} (h:isTrue (cf f args .leaf 0)=true) {cargs:Array Value} {W:World} (ha:ArgsR noPhi (fun b=>b < W.heap.size) W args cargs) :
  Calls P f cargs W fun e W'=>e=.returned (.bool true)∧RowKit.Grown W W':=by
 obtain ⟨H,nx,hr⟩:=isTrue_some h
 refine Calls.mono ((hcf f args .leaf 0 _ H nx hr).2 nx noPhi (fun b=>b < W.heap.size) W cargs (Nat.le_refl _) (sim_none _ (fun b hb=>hb)) ha) (fun e W' he=>?_)
 cases e with
 |returned V=>
  obtain ⟨φ',K',g,hv⟩:=he
  rw [rel_bool hv]
  exact ⟨rfl,grown_of_ext (g.ext.mono (fun b hb=>(no_mut hb).elim))⟩
 |panicked _=>exact he.elim
 |outgrown=>exact he.elim
def mF (P:Program) (fn:Func) (af:AFunc):Bool:=match fn.body with | some c=>mFunc P fn c af | none=>false
theorem matched_of {P:Program} {f:Nat} {fn:Func} {af:AFunc} (hf:P.funcs[f]?=some fn) (hm:mF P fn af=true) (hcall:∀args w,(callFunc f args).run P w=.ok (.enter f args) w):Matched P f af:=by
 unfold mF at hm
 split at hm
 ·rename_i c hc;exact ⟨⟨fn,c,hf,hc,hm⟩,hcall⟩
 ·cases hm
def AllM (M:Nat→AFunc→Prop):Map AFunc→(Nat→Nat)→Prop
 |.leaf,_=>True
 |.node v l r,p=>(match v with | some af=>M (p 0) af | none=>True)∧AllM M l (fun k=>p (2*k + 1))∧AllM M r (fun k=>p (2*k + 2))
theorem allM_get {M:Nat→AFunc→Prop}:∀(m:Map AFunc) (p:Nat→Nat),AllM M m p→∀i af,m.get i=some af→M (p i) af
 |.leaf,p,_,i,af,h=>by cases h
 |.node v l r,p,h,i,af,hg=>by
  obtain ⟨h1,h2,h3⟩:=h
  rw [Map.get_node] at hg
  by_cases h0:i=0
  ·subst h0
   simp at hg
   subst hg
   exact h1
  ·rw [if_neg h0] at hg
   split at hg
   ·have:=allM_get l _ h2 _ af hg
    rwa [show 2*(i / 2) + 1=i by omega] at this
   ·have:=allM_get r _ h3 _ af hg
    rwa [show 2*(i / 2 - 1) + 2=i by omega] at this
end Go.Ax

set_option linter.unusedSimpArgs false
set_option linter.unusedVariables false
namespace Go.Ax
open Classical
def Ev {α:Type} (X:Nat→Option α) (r:α):Prop:=∃k0,∀k,k0≤k→X k=some r
theorem Ev.const {α:Type} {x:Option α} {r:α} (h:x=some r):Ev (fun _=>x) r:=⟨0,fun _ _=>h⟩
theorem Ev.bind {α β:Type} {X:Nat→Option α} {Y:Nat→α→Option β} {a:α} {b:β} (h1:Ev X a) (h2:Ev (fun k=>Y k a) b):Ev (fun k=>match X k with | some x=>Y k x | none=>none) b:=by
 obtain ⟨k1,h1⟩:=h1
 obtain ⟨k2,h2⟩:=h2
 exact ⟨max k1 k2,fun k hk=>by simp only [h1 k (by omega)];exact h2 k (by omega)⟩
theorem Ev.map {α β:Type} {X:Nat→Option α} (f:Option α→Option β) {a:α} {b:β} (h1:Ev X a) (h2:f (some a)=some b):Ev (fun k=>f (X k)) b:=by
 obtain ⟨k1,h1⟩:=h1
 exact ⟨k1,fun k hk=>by show f (X k)=some b;rw [h1 k hk];exact h2⟩
theorem Ev.uniq {α:Type} {X:Nat→Option α} {a b:α} (h1:Ev X a) (h2:Ev X b):a=b:=by
 obtain ⟨k1,h1⟩:=h1
 obtain ⟨k2,h2⟩:=h2
 have e1:=h1 (max k1 k2) (by omega)
 have e2:=h2 (max k1 k2) (by omega)
 rw [e1] at e2
 exact Option.some.inj e2
theorem Ev.congr {α:Type} {X Y:Nat→Option α} {a:α} (h:Ev X a) (e:∀k,Y k=X k):Ev Y a:=by
 obtain ⟨k1,h1⟩:=h
 exact ⟨k1,fun k hk=>by rw [e];exact h1 k hk⟩
def FnEv (cfk:Nat→FnF) (cf:FnF):Prop:=∀f args H nx r,cf f args H nx=some r→Ev (fun k=>cfk k f args H nx) r
def CodeEv (exk:Nat→CodeF) (ex:CodeF):Prop:=∀nt c st r,ex nt c st=some r→Ev (fun k=>exk k nt c st) r
section
variable {cfk:Nat→FnF} {cf:FnF} {nt n0:Nat}
theorem doCall_ev (h:FnEv cfk cf) {f:Nat} {args:List AV} {m:Mode} {H:Heap} {nx:Nat} {r:AV×Heap×Nat} (hd:doCall cf f args m H nx=some r):Ev (fun k=>doCall (cfk k) f args m H nx) r:=by
 cases m with
 |share=>exact h _ _ _ _ _ hd
 |borrow=>
  simp only [doCall,cond_eq_ite] at hd ⊢
  split at hd
  ·rename_i hp
   simp only [if_pos hp]
   cases hc:cf f args .leaf 0 with
   |none=>rw [hc] at hd;cases hd
   |some q=>
    rw [hc] at hd
    (obtain ⟨k1,e1⟩:=h _ _ _ _ _ hc;exact ⟨k1,fun k hk=>by simp only [e1 k hk];exact hd⟩)
  ·rename_i hp
   simp only [if_neg hp]
   split at hd
   ·cases hd
   ·rename_i as has
    cases hc:cf f as .leaf 0 with
    |none=>rw [hc] at hd;cases hd
    |some q=>
     rw [hc] at hd
     (obtain ⟨k1,e1⟩:=h _ _ _ _ _ hc;exact ⟨k1,fun k hk=>by simp only [e1 k hk];exact hd⟩)
theorem doFz_ev (h:FnEv cfk cf) {o:AOper} {ρ:Opd→AV} {H:Heap} {nx:Nat} {r:AV×Heap×Nat} (hd:doFz cf o ρ H nx=some r):Ev (fun k=>doFz (cfk k) o ρ H nx) r:=by
 simp only [doFz,cond_eq_ite] at hd ⊢
 by_cases hz:o.fz=true
 ·simp only [if_pos hz] at hd ⊢
  exact Ev.const hd
 ·simp only [if_neg hz] at hd ⊢
  simp only [doOp] at hd ⊢
  cases hk:kind o.op with
  |plan p=>rw [hk] at hd;exact Ev.const hd
  |call f args m=>rw [hk] at hd;exact doCall_ev h hd
  |callv f args m=>
   rw [hk] at hd
   simp only at hd ⊢
   cases hf:ρ f <;> rw [hf] at hd <;> first | cases hd | exact doCall_ev h hd
theorem runOp_ev (h:FnEv cfk cf) {o:AOper} {st st':St} (hd:runOp cf nt o st=some st'):Ev (fun k=>runOp (cfk k) nt o st) st':=by
 simp only [runOp,cond_eq_ite] at hd ⊢
 by_cases hw:wanted st.env o.gd=true
 ·simp only [if_pos hw] at hd ⊢
  cases hf:doFz cf o (ev st.env) st.H st.nx with
  |none=>rw [hf] at hd;cases hd
  |some q=>
   rw [hf] at hd
   (obtain ⟨k1,e1⟩:=doFz_ev h hf;exact ⟨k1,fun k hk=>by simp only [e1 k hk];exact hd⟩)
 ·simp only [if_neg hw] at hd ⊢
  exact Ev.const hd
theorem runOps_ev (h:FnEv cfk cf):∀{l:List AOper} {st st':St},runOps cf nt l st=some st'→Ev (fun k=>runOps (cfk k) nt l st) st':=by
 intro l
 induction l with
 |nil=>intro st st' hd;exact Ev.const hd
 |cons o l ih=>
  intro st st' hd
  rw [runOps_cons] at hd
  split at hd
  ·rename_i st1 h1
   exact (Ev.bind (Y:=fun k st=>runOps (cfk k) nt l st) (runOp_ev h h1) (ih hd)).congr (fun k=>by rw [runOps_cons];cases runOp (cfk k) nt o st <;> rfl)
  ·cases hd
theorem effCall_ev (h:FnEv cfk cf) {f:Nat} {args:List AV} {m:Mode} {H:Heap} {nx:Nat} {r:Eff} (hd:effCall cf n0 f args m H nx=some r):Ev (fun k=>effCall (cfk k) n0 f args m H nx) r:=by
 cases m with
 |share=>
  simp only [effCall] at hd ⊢
  cases hc:cf f args (H.upto fun i=>Nat.blt i n0) nx with
  |none=>rw [hc] at hd;cases hd
  |some q=>
   rw [hc] at hd
   (obtain ⟨k1,e1⟩:=h _ _ _ _ _ hc;exact ⟨k1,fun k hk=>by simp only [e1 k hk];exact hd⟩)
 |borrow=>
  simp only [effCall,cond_eq_ite] at hd ⊢
  by_cases hp:allB AV.plain args=true
  ·simp only [if_pos hp] at hd ⊢
   cases hc:doCall cf f args .borrow H nx with
   |none=>rw [hc] at hd;cases hd
   |some q=>
    rw [hc] at hd
    (obtain ⟨k1,e1⟩:=doCall_ev h hc;exact ⟨k1,fun k hk=>by simp only [e1 k hk];exact hd⟩)
  ·simp only [if_neg hp] at hd ⊢
   cases hc:doCall cf f args .borrow (H.upto fun i=>Nat.blt i n0) nx with
   |none=>rw [hc] at hd;cases hd
   |some q=>
    rw [hc] at hd
    (obtain ⟨k1,e1⟩:=doCall_ev h hc;exact ⟨k1,fun k hk=>by simp only [e1 k hk];exact hd⟩)
theorem effFz_ev (h:FnEv cfk cf) {o:AOper} {ρ:Opd→AV} {H:Heap} {nx:Nat} {r:Eff} (hd:effFz cf n0 o ρ H nx=some r):Ev (fun k=>effFz (cfk k) n0 o ρ H nx) r:=by
 simp only [effFz,cond_eq_ite] at hd ⊢
 by_cases hz:o.fz=true
 ·simp only [if_pos hz] at hd ⊢
  exact Ev.const hd
 ·simp only [if_neg hz] at hd ⊢
  simp only [effOp] at hd ⊢
  cases hk:kind o.op with
  |plan p=>rw [hk] at hd;exact Ev.const hd
  |call f args m=>rw [hk] at hd;exact effCall_ev h hd
  |callv f args m=>
   rw [hk] at hd
   simp only at hd ⊢
   cases hf:ρ f <;> rw [hf] at hd <;> first | cases hd | exact effCall_ev h hd
theorem effStep_ev (h:FnEv cfk cf) {o:AOper} {st:St} {r:St×Rec} (hd:effStep cf nt n0 o st=some r):Ev (fun k=>effStep (cfk k) nt n0 o st) r:=by
 simp only [effStep,cond_eq_ite] at hd ⊢
 by_cases hw:wanted st.env o.gd=true
 ·simp only [if_pos hw] at hd ⊢
  cases hf:effFz cf n0 o (ev st.env) st.H st.nx with
  |none=>rw [hf] at hd;cases hd
  |some q=>
   rw [hf] at hd
   (obtain ⟨k1,e1⟩:=effFz_ev h hf;exact ⟨k1,fun k hk=>by simp only [e1 k hk];exact hd⟩)
 ·simp only [if_neg hw] at hd ⊢
  exact Ev.const hd
theorem runDOps_ev (h:FnEv cfk cf):∀{l:List AOper} {st:St} {r:St×List Rec},runDOps cf nt n0 l st=some r→Ev (fun k=>runDOps (cfk k) nt n0 l st) r:=by
 intro l
 induction l with
 |nil=>intro st r hd;exact Ev.const hd
 |cons o l ih=>
  intro st r hd
  simp only [runDOps] at hd ⊢
  split at hd
  ·cases hd
  ·rename_i st1 r1 h1
   split at hd
   ·cases hd
   ·rename_i st2 l2 h2
    obtain ⟨k1,e1⟩:=effStep_ev (cfk:=cfk) h h1
    obtain ⟨k2,e2⟩:=ih h2
    exact ⟨max k1 k2,fun k hk=>by simp only [e1 k (by omega),e2 k (by omega)];exact hd⟩
theorem runDreg_ev (h:FnEv cfk cf) {ops:List AOper} {ahead:List (List Nat)} {pairs:List (Nat×Nat)} {st st':St} (hd:runDreg cf nt ops ahead pairs st=some st'):Ev (fun k=>runDreg (cfk k) nt ops ahead pairs st) st':=by
 simp only [runDreg] at hd ⊢
 cases hr:runDOps cf nt st.nx ops st with
 |none=>rw [hr] at hd;cases hd
 |some q=>
  rw [hr] at hd
  (obtain ⟨k1,e1⟩:=runDOps_ev h hr;exact ⟨k1,fun k hk=>by simp only [e1 k hk];exact hd⟩)
theorem codeStep_ev {exk:Nat→CodeF} {ex:CodeF} (h:FnEv cfk cf) (hc:CodeEv exk ex):CodeEv (fun k=>codeStep (exk k) (cfk k)) (codeStep ex cf):=by
 intro nt c st r hd
 cases c with
 |skip=>exact Ev.const hd
 |exit id=>exact Ev.const hd
 |ret=>exact Ev.const hd
 |reg ops=>
  simp only [codeStep] at hd ⊢
  cases hr:runOps cf nt ops st with
  |none=>rw [hr] at hd;cases hd
  |some q=>rw [hr] at hd;(obtain ⟨k1,e1⟩:=runOps_ev h hr;exact ⟨k1,fun k hk=>by simp only [e1 k hk];exact hd⟩)
 |dreg ops ahead pairs=>
  simp only [codeStep] at hd ⊢
  cases hr:runDreg cf nt ops ahead pairs st with
  |none=>rw [hr] at hd;cases hd
  |some q=>rw [hr] at hd;(obtain ⟨k1,e1⟩:=runDreg_ev h hr;exact ⟨k1,fun k hk=>by simp only [e1 k hk];exact hd⟩)
 |seq a b=>
  simp only [codeStep] at hd ⊢
  split at hd
  ·rename_i st1 h1
   obtain ⟨k1,e1⟩:=hc _ _ _ _ h1
   obtain ⟨k2,e2⟩:=hc _ _ _ _ hd
   exact ⟨max k1 k2,fun k hk=>by simp only [e1 k (by omega)];exact e2 k (by omega)⟩
  ·rename_i hne
   obtain ⟨k1,e1⟩:=hc _ _ _ _ hd
   refine ⟨k1,fun k hk=>?_⟩
   simp only [e1 k hk]
   split
   ·rename_i st1 heq;cases heq;exact absurd hd (hne st1)
   ·rfl
 |cond c a b=>
  simp only [codeStep] at hd ⊢
  split at hd
  ·exact hc _ _ _ _ hd
  ·exact hc _ _ _ _ hd
  ·cases hd
 |block id c=>
  simp only [codeStep] at hd ⊢
  split at hd
  ·rename_i i st1 h1
   obtain ⟨k1,e1⟩:=hc _ _ _ _ h1
   exact ⟨k1,fun k hk=>by simp only [e1 k hk];exact hd⟩
  ·rename_i hne
   obtain ⟨k1,e1⟩:=hc _ _ _ _ hd
   refine ⟨k1,fun k hk=>?_⟩
   simp only [e1 k hk]
   split
   ·rename_i i st1 heq;cases heq;exact absurd hd (hne i st1)
   ·rfl
 |loop c=>
  simp only [codeStep] at hd ⊢
  split at hd
  ·rename_i st1 h1
   obtain ⟨k1,e1⟩:=hc _ _ _ _ h1
   obtain ⟨k2,e2⟩:=hc _ _ _ _ hd
   exact ⟨max k1 k2,fun k hk=>by simp only [e1 k (by omega)];exact e2 k (by omega)⟩
  ·rename_i hne
   obtain ⟨k1,e1⟩:=hc _ _ _ _ hd
   refine ⟨k1,fun k hk=>?_⟩
   simp only [e1 k hk]
   split
   ·rename_i st1 heq;cases heq;exact absurd hd (hne st1)
   ·rfl
theorem fnStep_ev {prog:Map AFunc} {exk:Nat→CodeF} {ex:CodeF} (hc:CodeEv exk ex):FnEv (fun k=>fnStep prog (exk k)) (fnStep prog ex):=by
 intro f args H nx r hd
 simp only [fnStep] at hd ⊢
 split at hd
 ·cases hd
 ·rename_i af haf
  simp only [cond_eq_ite] at hd ⊢
  split at hd
  ·rename_i hl
   simp only [if_pos hl]
   cases hr:ex af.nt af.body ⟨initE args 0 .leaf,H,nx⟩ with
   |none=>rw [hr] at hd;cases hd
   |some q=>
    rw [hr] at hd
    (obtain ⟨k1,e1⟩:=hc _ _ _ _ hr;exact ⟨k1,fun k hk=>by simp only [e1 k hk];exact hd⟩)
  ·cases hd
end
noncomputable def runFn (prog:Map AFunc):FnF:=fun f args H nx=>if h:∃r,Ev (fun k=>(interp prog k).fn f args H nx) r then some (Classical.choose h) else none
noncomputable def runCode (prog:Map AFunc):CodeF:=fun nt c st=>if h:∃r,Ev (fun k=>(interp prog k).code nt c st) r then some (Classical.choose h) else none
theorem runFn_ev (prog:Map AFunc):FnEv (fun k=>(interp prog k).fn) (runFn prog):=by
 intro f args H nx r h
 unfold runFn at h
 split at h
 ·rename_i hh;cases h;exact Classical.choose_spec hh
 ·cases h
theorem runCode_ev (prog:Map AFunc):CodeEv (fun k=>(interp prog k).code) (runCode prog):=by
 intro nt c st r h
 unfold runCode at h
 split at h
 ·rename_i hh;cases h;exact Classical.choose_spec hh
 ·cases h
theorem runFn_of {prog:Map AFunc} {f:Nat} {args:List AV} {H:Heap} {nx:Nat} {r:AV×Heap×Nat} (h:Ev (fun k=>(interp prog k).fn f args H nx) r):runFn prog f args H nx=some r:=by
 have hh:∃r,Ev (fun k=>(interp prog k).fn f args H nx) r:=⟨r,h⟩
 unfold runFn
 rw [dif_pos hh]
 exact congrArg some (Ev.uniq (Classical.choose_spec hh) h)
theorem runCode_of {prog:Map AFunc} {nt:Nat} {c:ACode} {st:St} {r:AExit×St} (h:Ev (fun k=>(interp prog k).code nt c st) r):runCode prog nt c st=some r:=by
 have hh:∃r,Ev (fun k=>(interp prog k).code nt c st) r:=⟨r,h⟩
 unfold runCode
 rw [dif_pos hh]
 exact congrArg some (Ev.uniq (Classical.choose_spec hh) h)
theorem ev_succ {α:Type} {X:Nat→Option α} {r:α} (h:Ev (fun k=>X (k + 1)) r):Ev X r:=by
 obtain ⟨k0,h⟩:=h
 exact ⟨k0 + 1,fun k hk=>by have h1:X (k - 1 + 1)=some r:=h (k - 1) (by omega);rwa [show k - 1 + 1=k by omega] at h1⟩
theorem run_code {prog:Map AFunc} {nt:Nat} {c:ACode} {st:St} {r:AExit×St} (h:codeStep (runCode prog) (runFn prog) nt c st=some r):runCode prog nt c st=some r:=
 runCode_of (ev_succ (X:=fun k=>(interp prog k).code nt c st) (codeStep_ev (runFn_ev prog) (runCode_ev prog) nt c st r h))
theorem run_fn {prog:Map AFunc} {f:Nat} {args:List AV} {H:Heap} {nx:Nat} {r:AV×Heap×Nat} (h:fnStep prog (runCode prog) f args H nx=some r):runFn prog f args H nx=some r:=
 runFn_of (ev_succ (X:=fun k=>(interp prog k).fn f args H nx) (fnStep_ev (runCode_ev prog) f args H nx r h))
theorem runFn_ok {P:Program} {prog:Map AFunc} (h:∀k,FnOk P (interp prog k).fn):FnOk P (runFn prog):=by
 intro f args H nx v H' nx' hr
 obtain ⟨k0,hk⟩:=runFn_ev prog f args H nx _ hr
 exact h k0 f args H nx v H' nx' (hk k0 (Nat.le_refl _))
end Go.Ax

set_option linter.unusedSimpArgs false
set_option linter.unusedVariables false
namespace Go.Ax
noncomputable def evC (cf:FnF) (lf:CodeF) (nt:Nat) (c:ACode):St→Option (AExit×St):=
 ACode.rec (motive:=fun _=>St→Option (AExit×St))
  (fun st=>some (.normal,st))
  (fun ops st=>match runOps cf nt ops st with | some st=>some (.normal,st) | none=>none)
  (fun ops ahead pairs st=>match runDreg cf nt ops ahead pairs st with | some st=>some (.normal,st) | none=>none)
  (fun _ _ ea eb st=>match ea st with | some (.normal,st)=>eb st | r=>r)
  (fun c _ _ ea eb st=>match ev st.env c with | .bool true=>ea st | .bool false=>eb st | _=>none)
  (fun id _ ec st=>match ec st with | some (.exit i,st)=>bif Nat.beq i id then some (.normal,st) else some (.exit i,st) | r=>r)
  (fun c _ st=>lf nt (.loop c) st)
  (fun id st=>some (.exit id,st))
  (fun st=>some (.ret,st)) c
section
variable {prog:Map AFunc} {cf:FnF} {lf:CodeF} {nt:Nat}
theorem evC_run (prog:Map AFunc) (nt:Nat):∀(c:ACode) (st:St) (r:AExit×St),evC (runFn prog) (runCode prog) nt c st=some r→runCode prog nt c st=some r:=by
 intro c
 induction c with
 |skip=>intro st r h;exact run_code h
 |reg ops=>intro st r h;exact run_code h
 |dreg ops ahead pairs=>intro st r h;exact run_code h
 |exit id=>intro st r h;exact run_code h
 |ret=>intro st r h;exact run_code h
 |loop c ih=>intro st r h;exact h
 |seq a b iha ihb=>
  intro st r h
  refine run_code ?_
  change (match evC (runFn prog) (runCode prog) nt a st with | some (.normal,st)=>evC (runFn prog) (runCode prog) nt b st | r=>r)=some r at h
  simp only [codeStep]
  split at h
  ·rename_i st1 h1
   rw [iha _ _ h1]
   exact ihb _ _ h
  ·rename_i hne
   rw [iha _ _ h]
   split
   ·rename_i st1 heq;cases heq;exact absurd h (hne st1)
   ·rfl
 |cond c a b iha ihb=>
  intro st r h
  refine run_code ?_
  change (match ev st.env c with | .bool true=>evC (runFn prog) (runCode prog) nt a st | .bool false=>evC (runFn prog) (runCode prog) nt b st | _=>none)=some r at h
  simp only [codeStep]
  split at h
  ·rename_i hc;rw [hc];exact iha _ _ h
  ·rename_i hc;rw [hc];exact ihb _ _ h
  ·cases h
 |block id c ih=>
  intro st r h
  refine run_code ?_
  change (match evC (runFn prog) (runCode prog) nt c st with | some (.exit i,st)=>bif Nat.beq i id then some (.normal,st) else some (.exit i,st) | r=>r)=some r at h
  simp only [codeStep]
  split at h
  ·rename_i i st1 h1
   rw [ih _ _ h1]
   exact h
  ·rename_i hne
   rw [ih _ _ h]
   split
   ·rename_i i st1 heq;cases heq;exact absurd h (hne i st1)
   ·rfl
def WC (cf:FnF) (lf:CodeF) (nt:Nat) (c:ACode) (st:St) (Q:AExit→St→Prop):Prop:=∃x st',evC cf lf nt c st=some (x,st')∧Q x st'
def WR (cf:FnF) (nt:Nat) (ops:List AOper) (st:St) (Q:St→Prop):Prop:=∃st',runOps cf nt ops st=some st'∧Q st'
theorem wc_skip {st:St} {Q:AExit→St→Prop} (h:Q .normal st):WC cf lf nt .skip st Q:=⟨_,_,rfl,h⟩
theorem wc_exit {id:Nat} {st:St} {Q:AExit→St→Prop} (h:Q (.exit id) st):WC cf lf nt (.exit id) st Q:=⟨_,_,rfl,h⟩
theorem wc_ret {st:St} {Q:AExit→St→Prop} (h:Q .ret st):WC cf lf nt .ret st Q:=⟨_,_,rfl,h⟩
theorem wc_reg {ops:List AOper} {st:St} {Q:AExit→St→Prop} (h:WR cf nt ops st (Q .normal)):WC cf lf nt (.reg ops) st Q:=by
 obtain ⟨st',h1,h2⟩:=h
 refine ⟨.normal,st',?_,h2⟩
 show (match runOps cf nt ops st with | some st=>some (AExit.normal,st) | none=>none)=_
 rw [h1]
theorem wc_dreg {ops:List AOper} {ahead:List (List Nat)} {pairs:List (Nat×Nat)} {st st':St} {Q:AExit→St→Prop} (h1:runDreg cf nt ops ahead pairs st=some st') (h2:Q .normal st'):WC cf lf nt (.dreg ops ahead pairs) st Q:=by
 refine ⟨.normal,st',?_,h2⟩
 show (match runDreg cf nt ops ahead pairs st with | some st=>some (AExit.normal,st) | none=>none)=_
 rw [h1]
def thenQ (cf:FnF) (lf:CodeF) (nt:Nat) (b:ACode) (Q:AExit→St→Prop):AExit→St→Prop
 |.normal,st=>WC cf lf nt b st Q
 |x,st=>Q x st
theorem wc_seq {a b:ACode} {st:St} {Q:AExit→St→Prop} (h:WC cf lf nt a st (thenQ cf lf nt b Q)):WC cf lf nt (.seq a b) st Q:=by
 obtain ⟨x,st1,h1,h2⟩:=h
 have e:evC cf lf nt (.seq a b) st=(match evC cf lf nt a st with | some (.normal,st)=>evC cf lf nt b st | r=>r):=rfl
 cases x with
 |normal=>
  obtain ⟨x',st',h3,h4⟩:=h2
  exact ⟨x',st',by rw [e,h1];exact h3,h4⟩
 |exit id=>exact ⟨_,st1,by rw [e,h1],h2⟩
 |ret=>exact ⟨_,st1,by rw [e,h1],h2⟩
theorem wc_cond_true {c:Opd} {a b:ACode} {st:St} {Q:AExit→St→Prop} (hc:ev st.env c=.bool true) (h:WC cf lf nt a st Q):WC cf lf nt (.cond c a b) st Q:=by
 obtain ⟨x,st1,h1,h2⟩:=h
 refine ⟨x,st1,?_,h2⟩
 show (match ev st.env c with | .bool true=>evC cf lf nt a st | .bool false=>evC cf lf nt b st | _=>none)=_
 rw [hc]
 exact h1
theorem wc_cond_false {c:Opd} {a b:ACode} {st:St} {Q:AExit→St→Prop} (hc:ev st.env c=.bool false) (h:WC cf lf nt b st Q):WC cf lf nt (.cond c a b) st Q:=by
 obtain ⟨x,st1,h1,h2⟩:=h
 refine ⟨x,st1,?_,h2⟩
 show (match ev st.env c with | .bool true=>evC cf lf nt a st | .bool false=>evC cf lf nt b st | _=>none)=_
 rw [hc]
 exact h1
theorem wc_cond {c:Opd} {a b:ACode} {st:St} {Q:AExit→St→Prop} {t:Bool} (hc:ev st.env c=.bool t) (h1:t=true→WC cf lf nt a st Q) (h2:t=false→WC cf lf nt b st Q):WC cf lf nt (.cond c a b) st Q:=by
 cases t with
 |true=>exact wc_cond_true hc (h1 rfl)
 |false=>exact wc_cond_false hc (h2 rfl)
def blockQ (id:Nat) (Q:AExit→St→Prop):AExit→St→Prop
 |.exit i,st=>if i=id then Q .normal st else Q (.exit i) st
 |x,st=>Q x st
theorem wc_block {id:Nat} {c:ACode} {st:St} {Q:AExit→St→Prop} (h:WC cf lf nt c st (blockQ id Q)):WC cf lf nt (.block id c) st Q:=by
 obtain ⟨x,st1,h1,h2⟩:=h
 have e:evC cf lf nt (.block id c) st=(match evC cf lf nt c st with | some (.exit i,st)=>bif Nat.beq i id then some (.normal,st) else some (.exit i,st) | r=>r):=rfl
 cases x with
 |normal=>exact ⟨_,st1,by rw [e,h1],h2⟩
 |ret=>exact ⟨_,st1,by rw [e,h1],h2⟩
 |exit i=>
  simp only [blockQ] at h2
  by_cases hi:i=id
  ·rw [if_pos hi] at h2
   exact ⟨.normal,st1,by rw [e,h1];simp [hi],h2⟩
  ·rw [if_neg hi] at h2
   have:Nat.beq i id=false:=by
    cases hb:Nat.beq i id with
    |false=>rfl
    |true=>rw [Nat.beq_eq] at hb;exact absurd hb hi
   exact ⟨.exit i,st1,by rw [e,h1];simp [this],h2⟩
theorem wc_mono {c:ACode} {st:St} {Q Q':AExit→St→Prop} (h:WC cf lf nt c st Q) (hq:∀x st',Q x st'→Q' x st'):WC cf lf nt c st Q':=
 let ⟨x,st',h1,h2⟩:=h;⟨x,st',h1,hq _ _ h2⟩
theorem runOps_append (l m:List AOper):∀(st:St),runOps cf nt (l++m) st=match runOps cf nt l st with | some st=>runOps cf nt m st | none=>none:=by
 induction l with
 |nil=>intro st;rfl
 |cons o l ih=>
  intro st
  rw [List.cons_append,runOps_cons,runOps_cons]
  cases runOp cf nt o st with
  |none=>rfl
  |some st1=>exact ih st1
end
theorem wc_loop {prog:Map AFunc} {nt:Nat} {c:ACode} {Q:AExit→St→Prop} {α:Type} (I:α→St→Prop) (μ:α→Nat)
  (round:∀a st,I a st→WC (runFn prog) (runCode prog) nt c st (fun x st'=>match x with | .normal=>∃a',μ a' < μ a∧I a' st' | x=>Q x st')) :
  ∀a st,I a st→WC (runFn prog) (runCode prog) nt (.loop c) st Q:=by
 have key:∀n a st,μ a=n→I a st→∃x st',runCode prog nt (.loop c) st=some (x,st')∧Q x st':=by
  intro n
  induction n using Nat.strongRecOn with
  |_ n ih=>
   intro a st hn hI
   obtain ⟨x,st1,h1,h2⟩:=round a st hI
   have h1':=evC_run prog nt _ _ _ h1
   cases x with
   |normal=>
    obtain ⟨a',hlt,hI'⟩:=h2
    obtain ⟨x',st',h3,h4⟩:=ih (μ a') (by omega) a' st1 rfl hI'
    exact ⟨x',st',run_code (by simp only [codeStep,h1'];exact h3),h4⟩
   |exit id=>exact ⟨_,st1,run_code (by simp only [codeStep,h1']),h2⟩
   |ret=>exact ⟨_,st1,run_code (by simp only [codeStep,h1']),h2⟩
 intro a st hI
 obtain ⟨x,st',h1,h2⟩:=key _ a st rfl hI
 exact ⟨x,st',h1,h2⟩
theorem fn_of_body {prog:Map AFunc} {f:Nat} {af:AFunc} (hf:prog.get f=some af) {args:List AV} (ha:args.length=af.params) {H:Heap} {nx:Nat} {r:AV×Heap×Nat→Prop}
  (h:WC (runFn prog) (runCode prog) af.nt af.body ⟨initE args 0 .leaf,H,nx⟩ (fun x st=>(x=.normal∨x=.ret)∧∃v,resA af.res st=some v∧r v)):∃v,runFn prog f args H nx=some v∧r v:=by
 obtain ⟨x,st,h1,hx,v,h2,h3⟩:=h
 refine ⟨v,run_fn ?_,h3⟩
 have h1':=evC_run prog _ _ _ _ h1
 simp only [fnStep,hf,cond_eq_ite,Nat.beq_eq,if_pos ha,h1']
 rcases hx with rfl | rfl <;> exact h2
end Go.Ax

set_option linter.unusedVariables false
namespace Go.Ax.V
inductive TV where
 |i (k:IntKind) (n:Int)
 |b (b:Bool)
 |s (s:ByteArray)
 |f (n:Nat)
 |np
 |l (es:List TV)
 |a (cs:List TV)
 |tp (vs:List TV)
 deriving Inhabited
abbrev noT:TV:=.tp []
def TV.isTp:TV→Bool
 |.tp _=>true
 |_=>false
def TV.one:TV→Bool
 |.a _=>false
 |.tp _=>false
 |_=>true
noncomputable def TV.scal1:TV→Bool
 |.a cs=>allB (fun c=>match c with | .l _=>false | .a _=>false | .tp _=>false | _=>true) cs
 |.l _=>false
 |.tp _=>false
 |_=>true
noncomputable def TV.scal:TV→Bool
 |.tp vs=>allB TV.scal1 vs
 |v=>v.scal1
mutual
inductive Can:TV→AV→Prop where
 |i (k:IntKind) (n:Int):Can (.i k n) (.int k n)
 |b (x:Bool):Can (.b x) (.bool x)
 |s (x:ByteArray):Can (.s x) (.str x)
 |f (n:Nat):Can (.f n) (.func n)
 |np:Can .np .nilp
 |nil:Can (.l []) .nils
 |imm (es:List TV) (cs:List AV) (n sz:Nat) (c:Option Nat) (hn:es.length=n) (hc:cs.length=n*sz) (hz:0 < sz) (hf:∀x∈cs,AV.flat x=true)
   (h:∀(j:Nat) (e:TV),es[j]?=some e→CanC e ((cs.drop (j*sz)).take sz)):Can (.l es) (.imm cs n c)
 |a (ts:List TV) (as:List AV) (hl:ts.length=as.length) (hf:∀x∈as,AV.flat x=true) (h:∀(j:Nat) (t:TV) (x:AV),ts[j]?=some t→as[j]?=some x→Can t x):Can (.a ts) (.agg as)
 |tp (ts:List TV) (as:List AV) (hl:ts.length=as.length) (hf:∀x∈as,AV.plain1 x=true) (h:∀(j:Nat) (t:TV) (x:AV),ts[j]?=some t→as[j]?=some x→Can t x):Can (.tp ts) (.tup as)
inductive CanC:TV→List AV→Prop where
 |one (e:TV) (x:AV) (h1:e.one=true) (h:Can e x):CanC e [x]
 |a (ts:List TV) (as:List AV) (hl:ts.length=as.length) (h:∀(j:Nat) (t:TV) (x:AV),ts[j]?=some t→as[j]?=some x→Can t x):CanC (.a ts) as
end
def cellsT:TV→Option (List TV)
 |.a cs=>some cs
 |.tp _=>none
 |v=>some [v]
def cellT (v:TV) (off:Nat):Option TV:=match v with
 |.a cs=>cs[off]?
 |.tp _=>none
 |v=>match off with
  |0=>some v
  |_ + 1=>none
def firstT:List TV→Nat→Option (List TV)
 |_,0=>some []
 |[],_ + 1=>none
 |x :: xs,n + 1=>match firstT xs n with
  |some l=>some (x :: l)
  |none=>none
def cutT:List TV→Nat→Nat→Option (List TV)
 |cs,0,n=>firstT cs n
 |[],_ + 1,_=>none
 |_ :: xs,o + 1,n=>cutT xs o n
def overFT:List TV→List TV→Option (List TV)
 |cells,[]=>some cells
 |[],_ :: _=>none
 |_ :: xs,y :: ys=>match overFT xs ys with
  |some l=>some (y :: l)
  |none=>none
def overT:List TV→Nat→List TV→Option (List TV)
 |cells,0,cs=>overFT cells cs
 |[],_ + 1,_=>none
 |x :: xs,o + 1,cs=>match overT xs o cs with
  |some l=>some (x :: l)
  |none=>none
def subT (v:TV) (off n:Nat):Option TV:=match v with
 |.a cs=>match cutT cs off n with
  |some l=>some (.a l)
  |none=>none
 |_=>none
def putT (v:TV) (off n:Nat) (x:TV):Option TV:=match cellsT x with
 |none=>none
 |some xs=>bif Nat.beq xs.length n then match v with
   |.a cs=>match overT cs off xs with
    |some l=>some (.a l)
    |none=>none
   |.tp _=>none
   |_=>bif Nat.beq off 0&&x.one then some x else none
  else none
def ldT (v:TV) (off:Nat):Option Nat→Option TV
 |none=>cellT v off
 |some n=>subT v off n
def fldT (v:TV) (off:Nat) (sz:Option Nat):Option TV:=match v with
 |.a _=>ldT v off sz
 |_=>none
def listT:TV→Option (List TV)
 |.l es=>some es
 |_=>none
def lenT:TV→Option TV
 |.l es=>some (.i .i64 es.length)
 |_=>none
def slenT:TV→Option TV
 |.s x=>some (.i .i64 x.size)
 |_=>none
def ixN (i:TV) (n:Nat):Option Nat:=match i with
 |.i _ m=>ixA m n
 |_=>none
def idxT (v i:TV):Option TV:=match v with
 |.l es=>match ixN i es.length with
  |some k=>es[k]?
  |none=>none
 |_=>none
def extT (i:Nat):TV→Option TV
 |.tp vs=>vs[i]?
 |_=>none
def bdT (x:Option TV) (other y:Nat):Option Nat:=match x with
 |none=>some other
 |some (.i _ i)=>bdA i y
 |some _=>none
def bdsT (lo hi:Option TV) (n:Nat):Option (Nat×Nat):=match bdT hi n n with
 |none=>none
 |some h=>match bdT lo 0 h with
  |none=>none
  |some l=>some (l,h)
def slT (v:TV) (lo hi:Option TV):Option TV:=match v with
 |.l es=>match bdsT lo hi es.length with
  |some (l,h)=>some (.l ((es.drop l).take (h - l)))
  |none=>none
 |_=>none
def slstrT (v:TV) (lo hi:Option TV):Option TV:=match v with
 |.s x=>match bdsT lo hi x.size with
  |some (l,h)=>some (.s (x.extract l h))
  |none=>none
 |_=>none
def idxST (v i:TV):Option TV:=match v with
 |.s x=>match i with
  |.i _ (.ofNat i)=>match x[i]? with
   |some b=>some (.i .u8 b.toNat)
   |none=>none
  |_=>none
 |_=>none
def appT (bytes:Nat) (es xs:List TV):Option (List TV):=
 bif Nat.ble ((es.length + xs.length)*bytes) most&&Nat.ble (es.length + xs.length) most then some (es++xs) else none
def pickT (c a b:TV):Option TV:=match c with
 |.b x=>match x with
  |true=>some a
  |false=>some b
 |_=>none
def flatA:TV→Option AV
 |.i k n=>some (.int k n)
 |.b x=>some (.bool x)
 |.s x=>some (.str x)
 |.f n=>some (.func n)
 |.np=>some .nilp
 |_=>none
def flatV:AV→Option TV
 |.int k n=>some (.i k n)
 |.bool x=>some (.b x)
 |.str x=>some (.s x)
 |.func n=>some (.f n)
 |.nilp=>some .np
 |_=>none
def binT (op:BinOp) (x y:TV):Option TV:=match flatA x with
 |some x=>match flatA y with
  |some y=>match binA op x y with
   |some r=>flatV r
   |none=>none
  |none=>none
 |none=>none
def unT (op:UnOp) (x:TV):Option TV:=match flatA x with
 |some x=>match unA op x with
  |some r=>flatV r
  |none=>none
 |none=>none
def convT (k:IntKind):TV→Option TV
 |.i _ n=>some (.i k (wrapA k n))
 |_=>none
def flatAs:List TV→Option (List AV)
 |[]=>some []
 |x :: xs=>match flatA x with
  |none=>none
  |some a=>match flatAs xs with
   |none=>none
   |some l=>some (a :: l)
def mnxT (mx:Bool) (xs:List TV):Option TV:=match flatAs xs with
 |some (v :: vs)=>match mnA mx v vs with
  |some r=>flatV r
  |none=>none
 |_=>none
noncomputable def eqT (t:EqT) (neg:Bool) (x y:TV):Option TV:=match t with
 |.one l=>match flatA x with
  |some x=>match flatA y with
   |some y=>match eqS l x y with
    |some b=>some (.b (match neg with | true=>!b | false=>b))
    |none=>none
   |none=>none
  |none=>none
 |.agg ls=>match x with
  |.a xs=>match y with
   |.a ys=>match flatAs xs with
    |some xs=>match flatAs ys with
     |some ys=>match eqL ls xs ys with
      |some b=>some (.b (match neg with | true=>!b | false=>b))
      |none=>none
     |none=>none
    |none=>none
   |_=>none
  |_=>none
 |.slice=>none
def natT (bytes:Nat):TV→Option Nat
 |.i k m=>match bdA m most with
  |some m=>bif eqK k .i64&&Nat.ble (Nat.mul m bytes) most then some m else none
  |none=>none
 |_=>none
def setE (es:List TV) (k off n:Nat) (x:TV):Option (List TV):=match es[k]? with
 |none=>none
 |some e=>match putT e off n x with
  |some e'=>some (es.set k e')
  |none=>none
def ldE (es:List TV) (k off:Nat) (sz:Option Nat):Option TV:=match es[k]? with
 |none=>none
 |some e=>ldT e off sz
inductive VV where
 |bad
 |tr (v:TV)
 |nil0
 |ptr (O off:Nat)
 |pd (O off:Nat)
 |sl (O:Nat)
 |ea (O i off:Nat)
 |pt (v:TV) (off:Nat)
 |st (v:TV) (ovs:List (Nat×VV))
 deriving Inhabited
inductive VO where
 |ob (v:TV) (ovs:List (Nat×VV))
 |gr (sz:Nat) (es:List TV)
structure VE where
 gd:Option (TV×Bool)
 v:VV
structure VSt where
 env:Map VE
 H:Map VO
 us:Map Unit
def baseOf:AV→TV
 |.int k n=>.i k n
 |.bool x=>.b x
 |.str x=>.s x
 |.func n=>.f n
 |.nils=>.l []
 |_=>.np
def basesOf:List AV→List TV
 |[]=>[]
 |x :: xs=>baseOf x :: basesOf xs
def nilsAt:Nat→List AV→List (Nat×VV)
 |_,[]=>[]
 |i,x :: xs=>match x with
  |.nils=>(i,.nil0) :: nilsAt (i + 1) xs
  |_=>nilsAt (i + 1) xs
def constOk:AV→Bool
 |.int ..=>true
 |.bool _=>true
 |.str _=>true
 |.func _=>true
 |.nils=>true
 |.nilp=>true
 |_=>false
noncomputable def constV (v:AV):VV:=match v with
 |.nils=>.nil0
 |.agg cs=>bif allB constOk cs then .st (.a (basesOf cs)) (nilsAt 0 cs) else .bad
 |.tup _=>.bad
 |v=>bif constOk v then .tr (baseOf v) else .bad
def zeroT (sz:Nat) (zero:List AV):TV:=match sz with
 |1=>match zero with
  |[x]=>baseOf x
  |_=>.a (basesOf zero)
 |_=>.a (basesOf zero)
def ovAt (off:Nat):List (Nat×VV)→Option VV
 |[]=>none
 |(i,x) :: r=>bif Nat.beq i off then some x else ovAt off r
def ovSub (off n:Nat):List (Nat×VV)→List (Nat×VV)
 |[]=>[]
 |(i,x) :: r=>bif Nat.ble off i&&Nat.blt i (off + n) then (i - off,x) :: ovSub off n r else ovSub off n r
def ovCut (off n:Nat):List (Nat×VV)→List (Nat×VV)
 |[]=>[]
 |(i,x) :: r=>bif Nat.ble off i&&Nat.blt i (off + n) then ovCut off n r else (i,x) :: ovCut off n r
def ovAdd (off:Nat):List (Nat×VV)→List (Nat×VV)→List (Nat×VV)
 |[],r=>r
 |(i,x) :: l,r=>(i + off,x) :: ovAdd off l r
def mkSt (v:TV):List (Nat×VV)→VV
 |[]=>.tr v
 |p :: r=>.st v (p :: r)
def stOf:VV→Option (TV×List (Nat×VV))
 |.tr v=>some (v,[])
 |.nil0=>some (.l [],[(0,.nil0)])
 |.sl O=>some (.l [],[(0,.sl O)])
 |.st v o=>some (v,o)
 |_=>none
abbrev G:=Option (TV×Bool)
def rdK (V:VSt) (g:G) (x:Opd) (k:VV→Prop):Prop:=match x with
 |.c v=>k (constV v)
 |.t n=>match V.env.get n with
  |none=>False
  |some e=>match e.gd with
   |none=>k e.v
   |some q=>match g with
    |none=>False
    |some p=>p=q∧k e.v
def nilsT:List (Nat×VV)→TV→Option TV
 |[],v=>some v
 |(off,w) :: r,v=>match w with
  |.nil0=>(match nilsT r v with
   |some u=>putT u off 1 (.l [])
   |none=>none)
  |_=>none
def treeK (w:VV) (k:TV→Prop):Prop:=match w with
 |.tr v=>k v
 |.nil0=>k (.l [])
 |.st v ovs=>∃u,nilsT ovs v=some u∧k u
 |_=>False
def rdT (V:VSt) (g:G) (x:Opd) (k:TV→Prop):Prop:=rdK V g x fun w=>treeK w k
def slOf (V:VSt) (w:VV) (k:List TV→Prop):Prop:=match w with
 |.sl O=>match V.H.get O with
  |some (.gr _ es)=>k es
  |_=>False
 |.nil0=>k []
 |_=>False
def toTs (V:VSt):List (Nat×VV)→TV→(TV→Prop)→Prop
 |[],v,k=>k v
 |(off,w) :: r,v,k=>toTs V r v fun u=>slOf V w fun es=>∃u',putT u off 1 (.l es)=some u'∧k u'
def toT (V:VSt) (w:VV) (k:TV→Prop):Prop:=match w with
 |.tr v=>k v
 |.nil0=>k (.l [])
 |.sl O=>slOf V (.sl O) fun es=>k (.l es)
 |.st v ovs=>toTs V ovs v k
 |_=>False
def ordT (V:VSt) (g:G) (x:Option Opd) (k:Option TV→Prop):Prop:=match x with
 |none=>k none
 |some x=>rdT V g x fun v=>k (some v)
def rdTs (V:VSt) (g:G):List Opd→(List TV→Prop)→Prop
 |[],k=>k []
 |x :: xs,k=>rdT V g x fun v=>rdTs V g xs fun vs=>k (v :: vs)
def gV (c:TV) (bb:Bool) (P:TV→Prop) (v:TV):Prop:=match c with
 |.b x=>match x == bb with
  |true=>P v
  |false=>v=noT
 |_=>v=noT
def resT (g:G) (P:TV→Prop) (k:TV→Prop):Prop:=match g with
 |none=>∃v,P v∧k v
 |some (c,bb)=>∃v,gV c bb P v∧k v
def putV (nt:Nat) (V:VSt) (d:Option Nat) (g:G) (w:VV) (k:VSt→Prop):Prop:=match d with
 |none=>k V
 |some d=>bif Nat.blt d nt then k {V with env:=V.env.put (some ⟨g,w⟩) d} else False
def resV (nt:Nat) (V:VSt) (d:Option Nat) (g:G) (P:Option TV) (k:VSt→Prop):Prop:=resT g (fun v=>P=some v) fun v=>putV nt V d none (.tr v) k
def newV (nt:Nat) (V:VSt) (d:Option Nat) (g:G) (w:Nat→VV) (o:VO) (k:VSt→Prop):Prop:=match g with
 |some _=>False
 |none=>match d with
  |none=>False
  |some d=>match V.us.get d with
   |some _=>False
   |none=>putV nt {V with H:=V.H.put (some o) d,us:=V.us.put (some ()) d} (some d) none (w d) k
def partsK (V:VSt) (g:G):List (Nat×Nat×Opd)→TV→List (Nat×VV)→(TV→List (Nat×VV)→Prop)→Prop
 |[],v,ovs,k=>k v ovs
 |(off,n,x) :: r,v,ovs,k=>rdK V g x fun w=>match stOf w with
  |some (t,o)=>∃u,putT v off n t=some u∧partsK V g r u (ovAdd off o (ovCut off n ovs)) k
  |none=>False
noncomputable def dropVV (V:VSt):VV→VSt
 |.sl O=>{V with H:=V.H.put none O}
 |_=>V
noncomputable def dropOvs (V:VSt):List (Nat×VV)→VSt
 |[]=>V
 |(_,w) :: r=>dropOvs (dropVV V w) r
def szOk (n:Nat) (v:TV):Prop:=match cellsT v with
 |some l=>l.length=n
 |none=>False
def elemsK (V:VSt) (g:G) (fz:Bool) (sz:Nat):Nat→List (Nat×Nat×Opd)→(List TV→VSt→Prop)→Prop
 |_,[],k=>k [] V
 |j,(off,n,x) :: r,k=>(Nat.beq off (j*sz)&&Nat.beq n sz)=true∧rdK V g x fun w=>match w with
  |.tr t=>szOk n t∧elemsK V g fz sz (j + 1) r fun ts V'=>k (t :: ts) V'
  |.nil0=>n=1∧elemsK V g fz sz (j + 1) r fun ts V'=>k (.l [] :: ts) V'
  |.sl O=>fz=true∧n=1∧slOf V (.sl O) fun es=>elemsK (dropVV V (.sl O)) g fz sz (j + 1) r fun ts V'=>k (.l es :: ts) V'
  |.st t o=>fz=true∧toTs V o t fun t=>szOk n t∧elemsK (dropOvs V o) g fz sz (j + 1) r fun ts V'=>k (t :: ts) V'
  |_=>False
def CanL (ts:List TV) (as:List AV):Prop:=ts.length=as.length∧∀(j:Nat) (t:TV) (x:AV),ts[j]?=some t→as[j]?=some x→Can t x
def VS (prog:Map AFunc) (f:Nat) (ts:List TV) (Q:TV→Prop):Prop:=
 ∀as,CanL ts as→∃v H nx,runFn prog f as .leaf 0=some (v,H,nx)∧∃a,toImm deep H v=some a∧∃r,Can r a∧Q r
theorem VS.mono {prog:Map AFunc} {f:Nat} {ts:List TV} {Q Q':TV→Prop} (h:VS prog f ts Q) (hq:∀r,Q r→Q' r):VS prog f ts Q':=
 fun as ha=>let ⟨v,H,nx,h1,a,h2,r,h3,h4⟩:=h as ha;⟨v,H,nx,h1,a,h2,r,h3,hq r h4⟩
def nilsB:List (Nat×VV)→Bool
 |[]=>true
 |(_,.nil0) :: r=>nilsB r
 |_ :: _=>false
def argsK (V:VSt) (g:G):List Opd→(Bool→List TV→Prop)→Prop
 |[],k=>k true []
 |x :: xs,k=>rdK V g x fun w=>match w with
  |.tr v=>argsK V g xs fun p vs=>k p (v :: vs)
  |.nil0=>argsK V g xs fun p vs=>k p (.l [] :: vs)
  |.st v ovs=>toTs V ovs v fun v=>argsK V g xs fun p vs=>k (nilsB ovs&&p) (v :: vs)
  |w=>toT V w fun v=>argsK V g xs fun _ vs=>k false (v :: vs)
def szHd (n:Nat):List TV→Prop
 |[]=>True
 |e :: _=>szOk n e
noncomputable def setVO (V:VSt) (O:Nat) (o:VO):VSt:={V with H:=V.H.put (some o) O}
noncomputable def dropO (V:VSt) (O:Nat):VSt:={V with H:=V.H.put none O}
def pos (n:Nat) (p:Prop):Prop:=bif Nat.blt 0 n then p else False
def same (a b:Nat) (p:Prop):Prop:=bif Nat.beq a b then p else False
def resN (g:G) (P:Option Nat) (k:Nat→Prop):Prop:=match g with
 |none=>∃n,P=some n∧k n
 |some (c,bb)=>∃n,(c=.b bb→P=some n)∧k n
def isConst0:Option Opd→Bool
 |some (.c (.int _ (.ofNat 0)))=>true
 |_=>false
noncomputable def vvOf (V:VSt) (x:Opd):VV:=match x with
 |.c v=>constV v
 |.t n=>match V.env.get n with
  |some e=>e.v
  |none=>.bad
def memB (n:Nat):List Nat→Bool
 |[]=>false
 |m :: l=>Nat.beq n m||memB n l
inductive Ent where
 |tr (t:Nat)
 |sl (t sz:Nat)
 |pt (t O off:Nat)
 |ob (O:Nat) (offs:List (Nat×Nat))
def JL:List (Nat×Nat)→Type→Type
 |[],R=>R
 |_ :: l,R=>List TV→JL l R
def JT:List Ent→Type→Type
 |[],R=>R
 |.tr _ :: J,R=>TV→JT J R
 |.sl _ _ :: J,R=>List TV→JT J R
 |.pt _ _ _ :: J,R=>JT J R
 |.ob _ offs :: J,R=>TV→JL offs (JT J R)
def tokC (O off:Nat):Nat:=1024 + 32*O + off
noncomputable def addE (V:VSt) (t:Nat) (w:VV):VSt:={V with env:=V.env.put (some ⟨none,w⟩) t}
def takeS (V:VSt) (sz:Nat) (w:VV) (k:List TV→VSt→Prop):Prop:=match w with
 |.sl O=>match V.H.get O with
  |some (.gr z es)=>same z sz (k es (dropO V O))
  |_=>False
 |.nil0=>k [] V
 |_=>False
def takeL {R:Type} (V:VSt) (ovs:List (Nat×VV)):(offs:List (Nat×Nat))→JL offs R→(R→VSt→Prop)→Prop
 |[],I,k=>k I V
 |(off,sz) :: offs,I,k=>match ovAt off ovs with
  |some w=>takeS V sz w fun es V'=>takeL V' ovs offs (I es) k
  |none=>False
def hasKey (i:Nat):List (Nat×Nat)→Bool
 |[]=>false
 |(j,_) :: l=>Nat.beq i j||hasKey i l
def keysIn:List (Nat×VV)→List (Nat×Nat)→Bool
 |[],_=>true
 |(i,_) :: r,l=>hasKey i l&&keysIn r l
def prJ:(J:List Ent)→VSt→JT J Prop→Prop
 |[],_,I=>I
 |.tr t :: J,V,I=>rdT V none (.t t) fun v=>prJ J V (I v)
 |.sl t sz :: J,V,I=>rdK V none (.t t) fun w=>takeS V sz w fun es V'=>prJ J V' (I es)
 |.pt t O off :: J,V,I=>rdK V none (.t t) fun w=>match w with
  |.ptr O' off'=>same O' O (same off' off (prJ J V I))
  |_=>False
 |.ob O offs :: J,V,I=>match V.H.get O with
  |some (.ob v ovs)=>match keysIn ovs offs with
   |true=>takeL (R:=JT J Prop) (dropO V O) ovs offs (I v) fun I V'=>prJ J V' I
   |false=>False
  |_=>False
def entPos:Ent→Bool
 |.sl _ sz=>Nat.blt 0 sz
 |.ob _ offs=>offs.all fun p=>Nat.blt 0 p.2
 |_=>true
def nameK (V:VSt) (O:Nat) (o:VO) (k:VSt→Prop):Prop:=match V.us.get O with
 |some _=>False
 |none=>k {V with H:=V.H.put (some o) O,us:=V.us.put (some ()) O}
def ovsOf (O:Nat):List (Nat×Nat)→List (Nat×VV)
 |[]=>[]
 |(off,_) :: l=>(off,.sl (tokC O off)) :: ovsOf O l
def allL {R:Type} (O:Nat):(offs:List (Nat×Nat))→VSt→JL offs R→(R→VSt→Prop)→Prop
 |[],V,I,k=>k I V
 |(off,sz) :: offs,V,I,k=>∀es:List TV,nameK V (tokC O off) (.gr sz es) fun V'=>allL O offs V' (I es) k
def allJ:(J:List Ent)→VSt→JT J Prop→(VSt→Prop)→Prop
 |[],V,I,k=>I→k V
 |.tr t :: J,V,I,k=>∀v:TV,allJ J (addE V t (.tr v)) (I v) k
 |.sl t sz :: J,V,I,k=>∀es:List TV,nameK V t (.gr sz es) fun V'=>allJ J (addE V' t (.sl t)) (I es) k
 |.pt t O off :: J,V,I,k=>match V.H.get O with
  |some (.ob _ _)=>allJ J (addE V t (.ptr O off)) I k
  |_=>False
 |.ob O offs :: J,V,I,k=>∀v:TV,allL (R:=JT J Prop) O offs V (I v) fun I V'=>nameK V' O (.ob v (ovsOf O offs)) fun V''=>allJ J V'' I k
def V0:VSt:=⟨.leaf,.leaf,.leaf⟩
noncomputable def restL (V:VSt) (ovs:List (Nat×VV)):List (Nat×Nat)→VSt
 |[]=>V
 |(off,_) :: l=>match ovAt off ovs with
  |some w=>restL (dropVV V w) ovs l
  |none=>restL V ovs l
noncomputable def restJ:List Ent→VSt→VSt
 |[],V=>V
 |.tr _ :: J,V=>restJ J V
 |.sl t _ :: J,V=>restJ J (dropVV V (vvOf V (.t t)))
 |.pt _ _ _ :: J,V=>restJ J V
 |.ob O offs :: J,V=>match V.H.get O with
  |some (.ob _ ovs)=>restJ J (restL (dropO V O) ovs offs)
  |_=>V
noncomputable def nameV (V:VSt) (O:Nat) (o:VO):VSt:={V with H:=V.H.put (some o) O,us:=V.us.put (some ()) O}
noncomputable def mkL {R:Type} (O:Nat):(offs:List (Nat×Nat))→VSt→(VSt→R)→JL offs R
 |[],V,k=>k V
 |(off,sz) :: l,V,k=>fun es:List TV=>mkL O l (nameV V (tokC O off) (.gr sz es)) k
noncomputable def mkJ:(J:List Ent)→VSt→(VSt→Prop)→JT J Prop
 |[],V,k=>k V
 |.tr t :: J,V,k=>fun v:TV=>mkJ J (addE V t (.tr v)) k
 |.sl t sz :: J,V,k=>fun es:List TV=>mkJ J (addE (nameV V t (.gr sz es)) t (.sl t)) k
 |.pt t O off :: J,V,k=>mkJ J (addE V t (.ptr O off)) k
 |.ob O offs :: J,V,k=>fun v:TV=>mkL (R:=JT J Prop) O offs V fun V'=>mkJ J (nameV V' O (.ob v (ovsOf O offs))) k
noncomputable def freeB (us:Map Unit) (O:Nat):Bool:=match us.get O with
 |some _=>false
 |none=>true
noncomputable def okL (O:Nat):List (Nat×Nat)→Map Unit→Option (Map Unit)
 |[],us=>some us
 |(off,_) :: l,us=>bif freeB us (tokC O off) then okL O l (us.put (some ()) (tokC O off)) else none
noncomputable def okN:List Ent→Map Unit→List Nat→Bool
 |[],_,_=>true
 |.tr _ :: J,us,obs=>okN J us obs
 |.sl t _ :: J,us,obs=>freeB us t&&okN J (us.put (some ()) t) obs
 |.pt _ O _ :: J,us,obs=>memB O obs&&okN J us obs
 |.ob O offs :: J,us,obs=>match okL O offs us with
  |some us=>freeB us O&&okN J (us.put (some ()) O) (O :: obs)
  |none=>false
inductive PK where
 |tr
 |ob (offs:List (Nat×Nat))
 |sl (sz:Nat)
inductive RK where
 |tr
 |sl (sz:Nat)
structure Sig where
 ks:List PK
 rk:RK
def jin:List PK→Nat→List Ent
 |[],_=>[]
 |.tr :: ks,i=>.tr i :: jin ks (i + 1)
 |.ob offs :: ks,i=>.ob i offs :: .pt i i 0 :: jin ks (i + 1)
 |.sl sz :: ks,i=>.sl i sz :: jin ks (i + 1)
def jres (np:Nat):RK→List Ent
 |.tr=>[.tr np]
 |.sl sz=>[.sl np sz]
def jout (np:Nat) (rk:RK):List PK→Nat→List Ent
 |[],_=>jres np rk
 |.tr :: ks,i=>jout np rk ks (i + 1)
 |.ob offs :: ks,i=>.ob i offs :: .pt i i 0 :: jout np rk ks (i + 1)
 |.sl sz :: ks,i=>.sl i sz :: jout np rk ks (i + 1)
inductive Imp where
 |ob (O d:Nat)
 |pt
 |sl (O:Nat)
 |res (d:Nat)
def impsOf (d:Nat):List PK→List VV→Option (List Imp)
 |[],[]=>some [.res d]
 |.tr :: ks,_ :: ws=>impsOf d ks ws
 |.ob _ :: ks,.ptr O 0 :: ws=>match impsOf d ks ws with
  |some l=>some (.ob O d :: .pt :: l)
  |none=>none
 |.sl _ :: ks,.sl O :: ws=>match impsOf d ks ws with
  |some l=>some (.sl O :: l)
  |none=>none
 |_,_=>none
def tokS (d off:Nat):Nat:=65536 + 64*d + off
def ovsS (d:Nat):List (Nat×Nat)→List (Nat×VV)
 |[]=>[]
 |(off,_) :: l=>(off,.sl (tokS d off)) :: ovsS d l
noncomputable def conL {R:Type} (d:Nat):(offs:List (Nat×Nat))→VSt→(VSt→R)→JL offs R
 |[],V,k=>k V
 |(off,sz) :: l,V,k=>fun es:List TV=>conL d l (nameV V (tokS d off) (.gr sz es)) k
def noL {R:Type} (r:R):(offs:List (Nat×Nat))→JL offs R
 |[]=>r
 |_ :: l=>fun _:List TV=>noL r l
def noJ:(J:List Ent)→JT J Prop
 |[]=>False
 |.tr _ :: J=>fun _:TV=>noJ J
 |.sl _ _ :: J=>fun _:List TV=>noJ J
 |.pt _ _ _ :: J=>noJ J
 |.ob _ offs :: J=>fun _:TV=>noL (R:=JT J Prop) (noJ J) offs
noncomputable def conJ:(J:List Ent)→List Imp→VSt→(VSt→Prop)→JT J Prop
 |[],_,V,k=>k V
 |.tr _ :: J,ims,V,k=>fun v:TV=>match ims with
  |.res d :: ims=>conJ J ims (addE V d (.tr v)) k
  |_=>noJ J
 |.pt _ _ _ :: J,ims,V,k=>match ims with
  |.pt :: ims=>conJ J ims V k
  |_=>noJ J
 |.sl _ sz :: J,ims,V,k=>fun es:List TV=>match ims with
  |.sl O :: ims=>conJ J ims (setVO V O (.gr sz es)) k
  |.res d :: ims=>conJ J ims (addE (nameV V d (.gr sz es)) d (.sl d)) k
  |_=>noJ J
 |.ob _ offs :: J,ims,V,k=>fun v:TV=>match ims with
  |.ob O d :: ims=>conL (R:=JT J Prop) d offs V fun V'=>conJ J ims (setVO V' O (.ob v (ovsS d offs))) k
  |_=>noL (R:=JT J Prop) (noJ J) offs
noncomputable def okLS (d:Nat):List (Nat×Nat)→Map Unit→Option (Map Unit)
 |[],us=>some us
 |(off,_) :: l,us=>bif freeB us (tokS d off) then okLS d l (us.put (some ()) (tokS d off)) else none
noncomputable def okI (nt:Nat):List Ent→List Imp→Map Unit→Bool
 |[],_,_=>true
 |.tr _ :: J,ims,us=>match ims with
  |.res d :: ims=>Nat.blt d nt&&okI nt J ims us
  |_=>false
 |.pt _ _ _ :: J,ims,us=>match ims with
  |.pt :: ims=>okI nt J ims us
  |_=>false
 |.sl _ _ :: J,ims,us=>match ims with
  |.sl _ :: ims=>okI nt J ims us
  |.res d :: ims=>Nat.blt d nt&&(freeB us d&&okI nt J ims (us.put (some ()) d))
  |_=>false
 |.ob _ offs :: J,ims,us=>match ims with
  |.ob _ d :: ims=>match okLS d offs us with
   |some us=>okI nt J ims us
   |none=>false
  |_=>false
structure Sh where
 sg:Nat→Option Sig
 vs:(f np:Nat)→(Jin Jout:List Ent)→JT Jout Prop→JT Jin Prop
def rdKs (V:VSt):List Opd→(List VV→Prop)→Prop
 |[],k=>k []
 |x :: xs,k=>rdK V none x fun w=>rdKs V xs fun ws=>k (w :: ws)
noncomputable def prA:(ks:List PK)→(i:Nat)→List VV→VSt→JT (jin ks i) Prop→Prop
 |[],_,ws,_,I=>match ws with
  |[]=>I
  |_ :: _=>False
 |.tr :: ks,i,ws,V,I=>match ws with
  |w :: ws=>treeK w fun v=>prA ks (i + 1) ws V (I v)
  |[]=>False
 |.ob offs :: ks,i,ws,V,I=>match ws with
  |.ptr O 0 :: ws=>(match V.H.get O with
   |some (.ob v ovs)=>match keysIn ovs offs with
    |true=>takeL (R:=JT (.pt i i 0 :: jin ks (i + 1)) Prop) (dropO V O) ovs offs (I v) fun I V'=>prA ks (i + 1) ws V' I
    |false=>False
   |_=>False)
  |_=>False
 |.sl sz :: ks,i,ws,V,I=>match ws with
  |.sl O :: ws=>takeS V sz (.sl O) fun es V'=>prA ks (i + 1) ws V' (I es)
  |_=>False
noncomputable def restA:List PK→List VV→VSt→VSt
 |[],_,V=>V
 |.tr :: ks,ws,V=>match ws with
  |_ :: ws=>restA ks ws V
  |[]=>V
 |.ob offs :: ks,ws,V=>match ws with
  |.ptr O 0 :: ws=>(match V.H.get O with
   |some (.ob _ ovs)=>restA ks ws (restL (dropO V O) ovs offs)
   |_=>V)
  |_=>V
 |.sl _ :: ks,ws,V=>match ws with
  |.sl O :: ws=>restA ks ws (dropVV V (.sl O))
  |_=>V
noncomputable def evShare (sh:Sh) (nt:Nat) (V:VSt) (d:Option Nat) (f:Nat) (args:List Opd) (k:VSt→Prop):Prop:=match d with
 |none=>False
 |some d=>match sh.sg f with
  |none=>False
  |some sg=>rdKs V args fun ws=>match impsOf d sg.ks ws with
   |none=>False
   |some ims=>match ((jin sg.ks 0).all entPos&&(jout sg.ks.length sg.rk sg.ks 0).all entPos)&&(okN (jin sg.ks 0) .leaf []&&okI nt (jout sg.ks.length sg.rk sg.ks 0) ims V.us) with
    |false=>False
    |true=>prA sg.ks 0 ws V (sh.vs f sg.ks.length (jin sg.ks 0) (jout sg.ks.length sg.rk sg.ks 0)
      (conJ (jout sg.ks.length sg.rk sg.ks 0) ims {restA sg.ks ws V with env:=V.env.put none d} k))
section
variable (sh:Sh) (prog:Map AFunc) (nt:Nat)
def evLoad (V:VSt) (d:Option Nat) (g:G) (sz:Option Nat) (w:VV) (k:VSt→Prop):Prop:=match w with
 |.ptr O off=>match V.H.get O with
  |some (.ob v ovs)=>match sz with
   |none=>match ovAt off ovs with
    |some w=>putV nt V d g w k
    |none=>resV nt V d g (cellT v off) k
   |some n=>match ovSub off n ovs with
    |[]=>resV nt V d g (subT v off n) k
    |p :: r=>match g with
     |none=>∃u,subT v off n=some u∧putV nt V d none (.st u (p :: r)) k
     |some _=>False
  |_=>False
 |.pd O off=>match V.H.get O with
  |some (.ob v ovs)=>match ovs with
   |[]=>resV nt V d g (ldT v off sz) k
   |_ :: _=>False
  |_=>False
 |.pt v off=>resV nt V d g (ldT v off sz) k
 |.ea O i off=>match V.H.get O with
  |some (.gr _ es)=>resV nt V d g (ldE es i off sz) k
  |_=>False
 |_=>False
def evStore (V:VSt) (sz:Nat) (w x:VV) (k:VSt→Prop):Prop:=match w with
 |.ptr O off=>match V.H.get O with
  |some (.ob v ovs)=>match stOf x with
   |some (t,o)=>∃u,putT v off sz t=some u∧k (setVO V O (.ob u (ovAdd off o (ovCut off sz ovs))))
   |none=>False
  |_=>False
 |.pd O off=>match V.H.get O with
  |some (.ob v ovs)=>match ovs with
   |[]=>match x with
    |.tr t=>∃u,putT v off sz t=some u∧k (setVO V O (.ob u []))
    |_=>False
   |_ :: _=>False
  |_=>False
 |.ea O i off=>match V.H.get O with
  |some (.gr z es)=>match x with
   |.tr t=>∃es',setE es i off sz t=some es'∧k (setVO V O (.gr z es'))
   |_=>False
  |_=>False
 |_=>False
def evFld (V:VSt) (d:Option Nat) (g:G) (off:Nat) (sz:Option Nat) (w:VV) (k:VSt→Prop):Prop:=match w with
 |.tr v=>resV nt V d g (fldT v off sz) k
 |.st v ovs=>match sz with
  |none=>match ovAt off ovs with
   |some w=>putV nt V d g w k
   |none=>resV nt V d g (cellT v off) k
  |some n=>match ovSub off n ovs with
   |[]=>resV nt V d g (subT v off n) k
   |p :: r=>match g with
    |none=>∃u,subT v off n=some u∧putV nt V d none (.st u (p :: r)) k
    |some _=>False
 |_=>False
def evFaddr (V:VSt) (d:Option Nat) (g:G) (off:Nat) (w:VV) (k:VSt→Prop):Prop:=match w with
 |.ptr O o=>putV nt V d g (.ptr O (o + off)) k
 |.pd O o=>putV nt V d g (.pd O (o + off)) k
 |.pt v o=>putV nt V d g (.pt v (o + off)) k
 |.ea O i o=>putV nt V d g (.ea O i (o + off)) k
 |_=>False
def evIaddr (V:VSt) (d:Option Nat) (g:G) (sz:Nat) (w:VV) (i:TV) (k:VSt→Prop):Prop:=pos sz <| match w with
 |.tr v=>resT g (fun e=>idxT v i=some e∧szOk sz e) fun e=>putV nt V d g (.pt e 0) k
 |.sl O=>match V.H.get O with
  |some (.gr z es)=>same z sz (resN g (ixN i es.length) fun n=>putV nt V d g (.ea O n 0) k)
  |_=>False
 |_=>False
def evIarr (V:VSt) (d:Option Nat) (g:G) (len sz:Nat) (w:VV) (i:TV) (k:VSt→Prop):Prop:=match w with
 |.ptr O o=>resN g (ixN i len) fun n=>putV nt V d g (.pd O (o + n*sz)) k
 |.pd O o=>resN g (ixN i len) fun n=>putV nt V d g (.pd O (o + n*sz)) k
 |.pt v o=>resN g (ixN i len) fun n=>putV nt V d g (.pt v (o + n*sz)) k
 |_=>False
def evLen (V:VSt) (d:Option Nat) (g:G) (str:Bool) (w:VV) (k:VSt→Prop):Prop:=match str with
 |true=>match w with
  |.tr v=>resV nt V d g (slenT v) k
  |_=>False
 |false=>match w with
  |.tr v=>resV nt V d g (lenT v) k
  |.nil0=>resV nt V d g (some (.i .i64 0)) k
  |.sl O=>match V.H.get O with
   |some (.gr _ es)=>resV nt V d g (some (.i .i64 es.length)) k
   |_=>False
  |_=>False
def srcK (V:VSt) (sz:Nat) (w:VV) (k:List TV→Prop):Prop:=match w with
 |.tr v=>∃xs,listT v=some xs∧szHd sz xs∧k xs
 |.nil0=>k []
 |.sl P=>match V.H.get P with
  |some (.gr z es)=>same z sz (k es)
  |_=>False
 |_=>False
def evApp (V:VSt) (d:Option Nat) (g:G) (sz bytes:Nat) (w x:VV) (k:VSt→Prop):Prop:=pos sz <| srcK V sz x fun xs=>match w with
 |.nil0=>∃l,appT bytes [] xs=some l∧newV nt V d g .sl (.gr sz l) k
 |.sl O=>match V.H.get O with
  |some (.gr z es)=>same z sz (∃l,appT bytes es xs=some l∧newV nt (dropO V O) d g .sl (.gr sz l) k)
  |_=>False
 |_=>False
def evSlsl (V:VSt) (d:Option Nat) (g:G) (sz:Nat) (w:VV) (lo hi mx:Option Opd) (k:VSt→Prop):Prop:=pos sz <| match w with
 |.sl O=>match V.H.get O with
  |some (.gr z es)=>match hi with
   |none=>match mx with
    |none=>same z sz (ordT V none lo fun l=>∃m,bdT l 0 es.length=some m∧newV nt (dropO V O) d g .sl (.gr sz (es.drop m)) k)
    |some _=>False
   |some _=>False
  |_=>False
 |.tr v=>match mx with
  |none=>ordT V g lo fun l=>ordT V g hi fun h=>resT g (fun r=>slT v l h=some r∧(∀es,v=.l es→szHd sz es)) fun r=>putV nt V d none (.tr r) k
  |some m=>match isConst0 hi&&isConst0 mx&&lo.isNone&&g.isNone with
   |true=>∃l,listT v=some l∧szHd sz l∧putV nt V d none .nil0 k
   |false=>False
 |.nil0=>match isConst0 hi&&isConst0 mx&&lo.isNone with
  |true=>putV nt V d g .nil0 k
  |false=>False
 |_=>False
def scOk (p:Bool) (r:TV):Prop:=match p with
 |true=>True
 |false=>r.scal=true
def evCall (V:VSt) (d:Option Nat) (g:G) (f:Nat) (args:List Opd) (k:VSt→Prop):Prop:=
 argsK V g args fun p ts=>match g with
  |none=>VS prog f ts fun r=>scOk p r∧putV nt V d none (.tr r) k
  |some (c,bb)=>∃r,gV c bb (fun r=>VS prog f ts fun r'=>r'=r∧scOk p r) r∧putV nt V d none (.tr r) k
def evMv (V:VSt) (d:Option Nat) (g:G) (w:VV) (k:VSt→Prop):Prop:=match w with
 |.tr v=>(match g with | none=>putV nt V d none (.tr v) k | some _=>resV nt V d g (some v) k)
 |.bad=>False
 |w=>putV nt V d g w k
def evNilck (V:VSt) (d:Option Nat) (g:G) (w:VV) (k:VSt→Prop):Prop:=match w with
 |.ptr ..=>putV nt V d g w k
 |.pd ..=>putV nt V d g w k
 |.pt ..=>putV nt V d g w k
 |.ea ..=>putV nt V d g w k
 |_=>False
def evIsl (V:VSt) (d:Option Nat) (g:G) (fz:Bool) (len:Nat) (zero:List AV) (parts:List (Nat×Nat×Opd)) (k:VSt→Prop):Prop:=match g with
 |none=>match len with
  |0=>(match parts with | []=>(match zero with | []=>(match fz with | false=>putV nt V d none .nil0 k | true=>False) | _ :: _=>False) | _ :: _=>False)
  |n + 1=>pos (zero.length / len) (same ((zero.length / len)*len) zero.length (elemsK V none fz (zero.length / len) 0 parts fun ts V'=>same ts.length len (putV nt V' d none (.tr (.l ts)) k)))
 |some _=>False
def partsO:List (Nat×Nat×TV)→TV→Option TV
 |[],v=>some v
 |(off,n,t) :: r,v=>match putT v off n t with
  |some u=>partsO r u
  |none=>none
def rdPs (V:VSt) (g:G):List (Nat×Nat×Opd)→(List (Nat×Nat×TV)→Prop)→Prop
 |[],k=>k []
 |(off,n,x) :: r,k=>rdT V g x fun t=>rdPs V g r fun l=>k ((off,n,t) :: l)
def isNils:Opd→Bool
 |.c .nils=>true
 |_=>false
def evU (V:VSt) (d:Option Nat) (g:G) (op:AOp) (k:VSt→Prop):Prop:=match op with
 |.mv x=>rdK V g x fun w=>evMv nt V d g w k
 |.pick c a b=>rdT V g c fun c=>rdT V g a fun a=>rdT V g b fun b=>resV nt V d g (pickT c a b) k
 |.alloc zero=>match allB constOk zero with
  |true=>newV nt V d g (fun O=>.ptr O 0) (.ob (.a (basesOf zero)) (nilsAt 0 zero)) k
  |false=>False
 |.box x=>rdK V g x fun w=>match stOf w with
  |some (v,o)=>v.isTp=false∧newV nt V d g (fun O=>.ptr O 0) (.ob v o) k
  |none=>False
 |.build zero parts=>match g with
  |none=>(match allB constOk zero with
   |true=>partsK V none parts (.a (basesOf zero)) (nilsAt 0 zero) fun v ovs=>putV nt V d none (mkSt v ovs) k
   |false=>False)
  |some q=>(match allB constOk zero with
   |true=>rdPs V (some q) parts fun l=>resV nt V d (some q) (partsO l (.a (basesOf zero))) k
   |false=>False)
 |.bslice es len zero parts=>match g with
  |none=>pos es (elemsK V none false es 0 parts fun ts V'=>same ts.length len (same zero.length (ts.length*es) (newV nt V' d none .sl (.gr es ts) k)))
  |some _=>False
 |.islice len zero parts=>evIsl nt V d g false len zero parts k
 |.load sz a=>rdK V g a fun w=>evLoad nt V d g sz w k
 |.store sz a x=>match g with
  |none=>match d with
   |none=>rdK V none a fun w=>rdK V none x fun x=>evStore V sz w x k
   |some _=>False
  |some _=>False
 |.nilck x=>rdK V g x fun w=>evNilck nt V d g w k
 |.bin op x y=>rdT V g x fun x=>rdT V g y fun y=>resV nt V d g (binT op x y) k
 |.eq t neg x y=>match t with
  |.slice=>(match g with
   |none=>(match isNils y with
    |true=>rdT V none x fun x=>∃es:List TV,listT x=some es∧∀b:Bool,(es≠[]→b=neg)→putV nt V d none (.tr (.b b)) k
    |false=>False)
   |some _=>False)
  |t=>rdT V g x fun x=>rdT V g y fun y=>resV nt V d g (eqT t neg x y) k
 |.un op x=>rdT V g x fun x=>resV nt V d g (unT op x) k
 |.conv c x=>rdT V g x fun x=>resV nt V d g (convT c x) k
 |.mksl es bytes zero n=>pos es <| match g with
  |none=>(match allB constOk zero&&Nat.beq zero.length es with
   |true=>rdT V none n fun n=>∃m,natT bytes n=some m∧newV nt V d none .sl (.gr es (List.replicate m (zeroT es zero))) k
   |false=>False)
  |some _=>False
 |.slstr x lo hi=>rdT V g x fun x=>ordT V g lo fun lo=>ordT V g hi fun hi=>resV nt V d g (slstrT x lo hi) k
 |.slsl es x lo hi mx=>rdK V g x fun w=>evSlsl nt V d g es w lo hi mx k
 |.faddr off x=>rdK V g x fun w=>evFaddr nt V d g off w k
 |.fld off sz x=>rdK V g x fun w=>evFld nt V d g off sz w k
 |.iaddr es x i=>rdK V g x fun w=>rdT V g i fun i=>evIaddr nt V d g es w i k
 |.iarr len es x i=>rdK V g x fun w=>rdT V g i fun i=>evIarr nt V d g len es w i k
 |.idx x i=>rdT V g x fun x=>rdT V g i fun i=>resV nt V d g (idxST x i) k
 |.ext i x=>rdT V g x fun x=>resV nt V d g (extT i x) k
 |.app es bytes s x=>rdK V g s fun w=>rdK V g x fun x=>evApp nt V d g es bytes w x k
 |.len str x=>rdK V g x fun w=>evLen nt V d g str w k
 |.mnx mx xs=>rdTs V g xs fun xs=>resV nt V d g (mnxT mx xs) k
 |.call f args .borrow=>evCall prog nt V d g f args k
 |.call f args .share=>match g with
  |none=>evShare sh nt V d f args k
  |some _=>False
 |.callv f args .borrow=>rdT V g f fun f=>match g with
  |none=>∃n,f=.f n∧evCall prog nt V d none n args k
  |some (c,bb)=>∃n,(c=.b bb→f=.f n)∧evCall prog nt V d (some (c,bb)) n args k
 |_=>False
def evO (V:VSt) (o:AOper) (k:VSt→Prop):Prop:=match o.gd with
 |none=>match o.fz with
  |true=>(match o.op with
   |.islice len zero parts=>evIsl nt V o.dst none true len zero parts k
   |_=>False)
  |false=>evU sh prog nt V o.dst none o.op k
 |some (n,bb)=>match o.fz with
  |true=>False
  |false=>rdT V none (.t n) fun c=>evU sh prog nt V o.dst (some (c,bb)) o.op k
def evOs:List AOper→VSt→(VSt→Prop)→Prop
 |[],V,k=>k V
 |o :: l,V,k=>evO sh prog nt V o fun V=>evOs l V k
structure Foot where
 rd:List Nat
 wr:List Nat
 src:List Nat
def ovToks:List (Nat×VV)→List Nat
 |[]=>[]
 |(_,.sl O) :: r=>O :: ovToks r
 |_ :: r=>ovToks r
def vvToks:VV→List Nat
 |.sl O=>[O]
 |.st _ ovs=>ovToks ovs
 |_=>[]
def ptrToks:VV→List Nat
 |.ptr O _=>[O]
 |.pd O _=>[O]
 |.ea O _ _=>[O]
 |_=>[]
def isTree:VV→Bool
 |.tr _=>true
 |.nil0=>true
 |.st _ ovs=>nilsB ovs
 |_=>false
noncomputable def treesB (V:VSt):List Opd→Bool
 |[]=>true
 |x :: xs=>isTree (vvOf V x)&&treesB V xs
noncomputable def partToks (V:VSt):List (Nat×Nat×Opd)→List Nat
 |[]=>[]
 |(_,_,x) :: r=>vvToks (vvOf V x)++partToks V r
noncomputable def foot (V:VSt) (o:AOper):Option Foot:=match o.op with
 |.load _ a=>some ⟨ptrToks (vvOf V a),[],[]⟩
 |.store _ a _=>some ⟨ptrToks (vvOf V a),ptrToks (vvOf V a),[]⟩
 |.app _ _ s x=>some ⟨vvToks (vvOf V s)++vvToks (vvOf V x),vvToks (vvOf V s),vvToks (vvOf V s)⟩
 |.slsl _ x _ _ _=>some ⟨[],[],vvToks (vvOf V x)⟩
 |.islice _ _ parts=>match o.fz with
  |true=>some ⟨partToks V parts,partToks V parts,[]⟩
  |false=>some ⟨[],[],[]⟩
 |.call _ args .borrow=>match treesB V args with
  |true=>some ⟨[],[],[]⟩
  |false=>none
 |.callv _ args .borrow=>match treesB V args with
  |true=>some ⟨[],[],[]⟩
  |false=>none
 |.call _ _ .share=>none
 |.callv _ _ .share=>none
 |.slarr ..=>none
 |.cpy ..=>none
 |.clr ..=>none
 |.mlook ..=>none
 |.mset ..=>none
 |.mlen ..=>none
 |_=>some ⟨[],[],[]⟩
def infoOf (T:Nat):List (Nat×Nat×List Nat)→Nat×List Nat
 |[]=>(T,[])
 |(T',x) :: l=>bif Nat.beq T' T then x else infoOf T l
def subB:List Nat→List Nat→Bool
 |[],_=>true
 |n :: l,m=>memB n m&&subB l m
def disjB:List Nat→List Nat→Bool
 |[],_=>true
 |n :: l,m=>!memB n m&&disjB l m
def rootsOf (info:List (Nat×Nat×List Nat)):List Nat→List Nat
 |[]=>[]
 |T :: l=>(infoOf T info).1 :: rootsOf info l
def chainsOk (info:List (Nat×Nat×List Nat)) (ah:List Nat):List Nat→Bool
 |[]=>true
 |T :: l=>subB (infoOf T info).2 ah&&chainsOk info ah l
noncomputable def allK {α:Type} (m:Map α):(Nat→Bool)→Bool:=
 Map.rec (motive:=fun _=>(Nat→Bool)→Bool) (fun _=>true)
  (fun v _ _ l r p=>(match v with | none=>true | some _=>p 0)&&(l (fun k=>p (Nat.succ (Nat.mul 2 k)))&&r (fun k=>p (Nat.succ (Nat.succ (Nat.mul 2 k)))))) m
def isD (d:Option Nat) (T:Nat):Bool:=match d with
 |some d=>Nat.beq d T
 |none=>false
noncomputable def hasO (V:VSt) (T:Nat):Bool:=match V.H.get T with
 |some _=>true
 |none=>false
noncomputable def stepI (d:Option Nat) (i:Nat) (V V':VSt) (f:Foot) (info:List (Nat×Nat×List Nat)):Option (List (Nat×Nat×List Nat)):=
 match allK V'.H fun T=>hasO V T||isD d T with
 |false=>none
 |true=>match d with
  |none=>some info
  |some d=>match hasO V' d&&!hasO V d with
   |false=>some info
   |true=>match allK V.H fun T=>memB T f.src||hasO V' T with
    |false=>none
    |true=>match f.src with
     |[]=>some ((d,d,[i]) :: info)
     |[O]=>some ((d,(infoOf O info).1,i :: (infoOf O info).2) :: info)
     |_=>none
def pairsB (feet:List (List Nat×List Nat)):List (Nat×Nat)→Bool
 |[]=>true
 |(i,j) :: l=>(match feet[i]? with
  |some a=>match feet[j]? with
   |some b=>disjB a.2 b.1&&(disjB b.2 a.1&&disjB a.2 b.2)
   |none=>false
  |none=>false)&&pairsB feet l
def newN (d:Nat):List PK→RK→List Nat
 |[],rk=>(match rk with
  |.tr=>[]
  |.sl _=>[d])
 |k :: ks,rk=>(match k with
  |.ob offs=>offs.map (fun p=>tokS d p.1)++newN d ks rk
  |_=>newN d ks rk)
noncomputable def dropI:List (Nat×Nat×List Nat)→VSt→VSt
 |[],V=>V
 |(T,_) :: l,V=>dropI l (dropO V T)
noncomputable def backI (V:VSt):List (Nat×Nat×List Nat)→VSt→VSt
 |[],W=>W
 |(T,_) :: l,W=>backI V l (match W.H.get T with
  |some _=>W
  |none=>match V.H.get T with
   |some o=>setVO W T o
   |none=>W)
def infoN (i:Nat):List Nat→List (Nat×Nat×List Nat)→List (Nat×Nat×List Nat)
 |[],l=>l
 |T :: r,l=>(T,T,[i]) :: infoN i r l
def namesOf (d f:Nat):List Nat:=match sh.sg f with
 |some sg=>newN d sg.ks sg.rk
 |none=>[]
noncomputable def wideOf (V:VSt) (o:AOper):Option (List Nat):=match o.gd with
 |some _=>none
 |none=>match o.fz with
  |true=>none
  |false=>match o.op with
   |.call f args .share=>(match o.dst with
    |some d=>some (namesOf sh d f)
    |none=>none)
   |.call _ args .borrow=>(match treesB V args with
    |true=>none
    |false=>some [])
   |_=>none
noncomputable def noneB (V:VSt):List Nat→Bool
 |[]=>true
 |T :: l=>(match V.H.get T with | some _=>false | none=>true)&&noneB V l
def evD (ahead:List (List Nat)) (pairs:List (Nat×Nat)):List AOper→Nat→VSt→List (Nat×Nat×List Nat)→List (List Nat×List Nat)→(VSt→Prop)→Prop
 |[],i,V,_,feet,k=>match Nat.beq ahead.length i&&pairsB feet pairs with
  |true=>k V
  |false=>False
 |o :: l,i,V,info,feet,k=>match wideOf sh V o with
  |some ns=>(match pairs with
   |[]=>(match noneB V ns with
    |true=>evO sh prog nt (dropI info V) o fun V'=>(match allK V'.H fun T=>hasO (dropI info V) T||memB T ns with
     |true=>evD ahead pairs l (i + 1) (backI V info V') (infoN i ns info) (feet++[([],[])]) k
     |false=>False)
    |false=>False)
   |_ :: _=>False)
  |none=>evO sh prog nt V o fun V'=>match foot V o with
   |none=>False
   |some f=>match ahead[i]? with
    |none=>False
    |some ah=>match chainsOk info ah (f.rd++f.wr) with
     |false=>False
     |true=>match stepI o.dst i V V' f info with
      |none=>False
      |some info'=>evD ahead pairs l (i + 1) V' info' (feet++[(rootsOf info f.rd,rootsOf info f.wr)]) k
inductive VCode where
 |skip
 |reg (ops:List AOper)
 |dreg (ops:List AOper) (ahead:List (List Nat)) (pairs:List (Nat×Nat))
 |seq (a b:VCode)
 |cond (c:Opd) (a b:VCode)
 |block (id:Nat) (c:VCode)
 |loop (J:List Ent) (c:VCode)
 |exit (id:Nat)
 |ret
 |join (J:List Ent) (c:VCode)
def VCode.code:VCode→ACode
 |.skip=>.skip
 |.reg ops=>.reg ops
 |.dreg ops ahead pairs=>.dreg ops ahead pairs
 |.seq a b=>.seq a.code b.code
 |.cond c a b=>.cond c a.code b.code
 |.block id c=>.block id c.code
 |.loop _ c=>.loop c.code
 |.exit id=>.exit id
 |.ret=>.ret
 |.join _ c=>c.code
def condK (c:TV) (a b:Prop):Prop:=match c with
 |.b x=>(match x with | true=>a | false=>b)
 |_=>False
def evK:VCode→VSt→(AExit→VSt→Prop)→Prop
 |.skip,V,k=>k .normal V
 |.reg ops,V,k=>evOs sh prog nt ops V (k .normal)
 |.dreg ops ahead pairs,V,k=>evD sh prog nt ahead pairs ops 0 V [] [] (k .normal)
 |.seq a b,V,k=>evK a V fun x V=>match x with
  |.normal=>evK b V k
  |x=>k x V
 |.cond c a b,V,k=>rdT V none c fun c=>condK c (evK a V k) (evK b V k)
 |.block id c,V,k=>evK c V fun x V=>match x with
  |.exit i=>bif Nat.beq i id then k .normal V else k (.exit i) V
  |x=>k x V
 |.loop J c,V,k=>∃I:Nat→JT J Prop,(∃n,prJ J V (I n))∧∀n,allJ J V0 (I n) fun V=>evK c V fun x V=>match x with
  |.normal=>∃m,m < n∧prJ J V (I m)
  |x=>k x V
 |.exit id,V,k=>k (.exit id) V
 |.ret,V,k=>k .ret V
 |.join J c,V,k=>∃I:JT J Prop,(evK c V fun x V=>match x with
  |.normal=>prJ J V I
  |x=>k x V)∧allJ J V0 I (k .normal)
end
noncomputable def initV:List TV→Nat→VSt→VSt
 |[],_,V=>V
 |v :: vs,i,V=>initV vs (i + 1) (addE V i (.tr v))
def resOneK (V:VSt) (r:ARes) (k:TV→Prop):Prop:=match r with
 |.tmp t=>rdK V none (.t t) fun w=>toT V w k
 |.cell t sz=>rdK V none (.t t) fun w=>match w with
  |.ptr O off=>(match V.H.get O with
   |some (.ob v ovs)=>match sz with
    |none=>(match ovAt off ovs with
     |some w=>slOf V w fun es=>k (.l es)
     |none=>∃u,cellT v off=some u∧k u)
    |some n=>∃u,subT v off n=some u∧toTs V (ovSub off n ovs) u k
   |_=>False)
  |_=>False
def resK (V:VSt):List ARes→(List TV→Prop)→Prop
 |[],k=>k []
 |r :: rs,k=>resOneK V r fun v=>resK V rs fun vs=>k (v :: vs)
def noTps:List TV→Prop
 |[]=>True
 |t :: r=>t.isTp=false∧noTps r
def tupOk (rs:List TV):Prop:=match rs with
 |[_]=>True
 |rs=>noTps rs
def tupT:List TV→TV
 |[v]=>v
 |vs=>.tp vs
def evFn (sh:Sh) (prog:Map AFunc) (af:AFunc) (vc:VCode) (ts:List TV) (Q:TV→Prop):Prop:=
 evK sh prog af.nt vc (initV ts 0 V0) fun x V=>(match x with | .exit _=>False | _=>True)∧resK V af.res fun rs=>tupOk rs∧Q (tupT rs)
end Go.Ax.V

set_option linter.unusedSimpArgs false
set_option linter.unusedVariables false
namespace Go.Ax.V
theorem firstT_eq:∀(cs:List TV) (n:Nat),firstT cs n=if n≤cs.length then some (cs.take n) else none
 |cs,0=>by simp [firstT]
 |[],n + 1=>by simp [firstT]
 |x :: xs,n + 1=>by
  simp only [firstT,firstT_eq xs n,List.length_cons,Nat.add_le_add_iff_right,List.take_succ_cons]
  by_cases h:n≤xs.length
  ·rw [if_pos h,if_pos h]
  ·rw [if_neg h,if_neg h]
theorem cutT_eq:∀(cs:List TV) (off n:Nat),cutT cs off n=if off + n≤cs.length then some ((cs.drop off).take n) else none
 |cs,0,n=>by simp [cutT,firstT_eq]
 |[],o + 1,n=>by simp [cutT]
 |x :: xs,o + 1,n=>by
  simp only [cutT,cutT_eq xs o n,List.length_cons,List.drop_succ_cons]
  by_cases h:o + n≤xs.length
  ·rw [if_pos h,if_pos (by omega)]
  ·rw [if_neg h,if_neg (by omega)]
theorem overFT_eq:∀(cells cs:List TV),overFT cells cs=if cs.length≤cells.length then some (cs++cells.drop cs.length) else none
 |cells,[]=>by cases cells <;> simp [overFT]
 |[],y :: ys=>by simp [overFT]
 |x :: xs,y :: ys=>by
  simp only [overFT,overFT_eq xs ys,List.length_cons,Nat.add_le_add_iff_right,List.drop_succ_cons,List.cons_append]
  by_cases h:ys.length≤xs.length
  ·rw [if_pos h,if_pos h]
  ·rw [if_neg h,if_neg h]
theorem overT_eq:∀(cells:List TV) (off:Nat) (cs:List TV),overT cells off cs=if off + cs.length≤cells.length then some (cells.take off++cs++cells.drop (off + cs.length)) else none
 |cells,0,cs=>by cases cells <;> simp [overT,overFT_eq]
 |[],o + 1,cs=>by simp [overT]
 |x :: xs,o + 1,cs=>by
  simp only [overT,overT_eq xs o cs,List.length_cons]
  by_cases h:o + cs.length≤xs.length
  ·rw [if_pos h,if_pos (by omega)]
   simp [show o + 1 + cs.length=o + cs.length + 1 by omega]
  ·rw [if_neg h,if_neg (by omega)]
theorem over_pt {cells cs:List TV} {off:Nat} (h:off + cs.length≤cells.length) (j:Nat) :
  (cells.take off++cs++cells.drop (off + cs.length))[j]?=if off≤j∧j < off + cs.length then cs[j - off]? else cells[j]?:=by
 have h1:(cells.take off).length=off:=by rw [List.length_take];omega
 rw [List.append_assoc]
 by_cases ha:j < off
 ·rw [List.getElem?_append_left (by omega),if_neg (by omega),List.getElem?_take,if_pos ha]
 ·rw [List.getElem?_append_right (by omega),h1]
  by_cases hb:j < off + cs.length
  ·rw [List.getElem?_append_left (by omega),if_pos (by omega)]
  ·rw [List.getElem?_append_right (by omega),if_neg (by omega),List.getElem?_drop]
   congr 1;omega
theorem can_flat1 {t:TV} {a:AV} (h:Can t a) (h1:t.one=true):a.flat=true:=by
 cases h <;> first | rfl | cases h1
theorem canC_iff {v:TV} {cells:List AV}:CanC v cells↔∃ts,cellsT v=some ts∧CanL ts cells:=by
 constructor
 ·intro h
  cases h with
  |one _ x h1 h=>
   refine ⟨[v],(by cases v <;> first | rfl | cases h1),rfl,fun j t y ht hy=>?_⟩
   cases j with
   |zero=>simp at ht hy;subst ht;subst hy;exact h
   |succ j=>simp at ht
  |a ts _ hl h=>exact ⟨ts,rfl,hl,h⟩
 ·rintro ⟨ts,h1,hl,h⟩
  cases v with
  |a cs=>cases h1;exact .a _ _ hl h
  |tp vs=>cases h1
  |_=>
   cases h1
   match cells,hl with
   |[x],_=>exact .one _ _ rfl (h 0 _ _ rfl rfl)
def CanF (ts:List TV) (cs:List AV):Prop:=CanL ts cs∧∀x∈cs,AV.flat x=true
theorem can_cells {t:TV} {a:AV} {ts:List TV} (h:Can t a) (hc:cellsT t=some ts):∃as,a.cells?=some as∧CanF ts as:=by
 have single:∀{t:TV} {a:AV},Can t a→t.one=true→CanF [t] [a]:=fun h h1=>⟨⟨rfl,fun j u y hu hy=>by
  cases j with
  |zero=>simp at hu hy;subst hu;subst hy;exact h
  |succ j=>simp at hu⟩,fun x hx=>by simp at hx;subst hx;exact can_flat1 h h1⟩
 cases h with
 |a ts as hl hf h=>cases hc;exact ⟨as,rfl,⟨hl,h⟩,hf⟩
 |tp ts as hl hf h=>cases hc
 |i k n=>cases hc;exact ⟨_,rfl,single (.i k n) rfl⟩
 |b x=>cases hc;exact ⟨_,rfl,single (.b x) rfl⟩
 |s x=>cases hc;exact ⟨_,rfl,single (.s x) rfl⟩
 |f n=>cases hc;exact ⟨_,rfl,single (.f n) rfl⟩
 |np=>cases hc;exact ⟨_,rfl,single .np rfl⟩
 |nil=>cases hc;exact ⟨_,rfl,single .nil rfl⟩
 |imm es cs n sz c hn hc' hz hf h=>cases hc;exact ⟨_,rfl,single (.imm es cs n sz c hn hc' hz hf h) rfl⟩
theorem cellT_some {v r:TV} {off:Nat} (h:cellT v off=some r):∃ts,cellsT v=some ts∧ts[off]?=some r:=by
 cases v with
 |a cs=>exact ⟨cs,rfl,h⟩
 |tp vs=>cases h
 |_=>cases off with
  |zero=>cases h;exact ⟨_,rfl,rfl⟩
  |succ n=>cases h
theorem subT_some {v r:TV} {off n:Nat} (h:subT v off n=some r):∃ts,v=.a ts∧cellsT v=some ts∧off + n≤ts.length∧r=.a ((ts.drop off).take n):=by
 cases v with
 |a cs=>
  simp only [subT,cutT_eq] at h
  by_cases hl:off + n≤cs.length
  ·rw [if_pos hl] at h;cases h;exact ⟨cs,rfl,rfl,hl,rfl⟩
  ·rw [if_neg hl] at h;cases h
 |_=>cases h
theorem putT_some {v u x:TV} {off n:Nat} (h:putT v off n x=some u):∃ts xs us,cellsT v=some ts∧cellsT x=some xs∧xs.length=n∧cellsT u=some us∧us.length=ts.length∧off + n≤ts.length∧
  ∀j,us[j]?=if off≤j∧j < off + n then xs[j - off]? else ts[j]?:=by
 unfold putT at h
 split at h
 ·cases h
 rename_i xs hx
 simp only [cond_eq_ite,Nat.beq_eq] at h
 split at h
 rotate_left
 ·cases h
 rename_i hn
 have one:∀{w:TV},cellsT v=some [w]→(if (Nat.beq off 0&&x.one)=true then some x else none)=some u→
   ∃ts xs us,cellsT v=some ts∧cellsT x=some xs∧xs.length=n∧cellsT u=some us∧us.length=ts.length∧off + n≤ts.length∧∀j,us[j]?=if off≤j∧j < off + n then xs[j - off]? else ts[j]?:=by
  intro w hv h
  simp only [Bool.and_eq_true,Nat.beq_eq] at h
  split at h
  rotate_left
  ·cases h
  rename_i hc
  obtain ⟨h0,h1⟩:=hc
  have hu:=Option.some.inj h
  subst hu
  have hx1:xs=[x]:=by
   cases x <;> first | (simp only [cellsT,Option.some.injEq] at hx;exact hx.symm) | (simp [TV.one] at h1)
  subst hx1
  simp at hn
  subst hn
  subst h0
  refine ⟨[w],[x],[x],hv,hx,rfl,hx,rfl,by simp,fun j=>?_⟩
  cases j with
  |zero=>simp
  |succ j=>simp
 cases v with
 |a cs=>
  simp only [overT_eq] at h
  by_cases hl:off + xs.length≤cs.length
  ·rw [if_pos hl] at h
   cases h
   refine ⟨cs,xs,_,rfl,hx,hn,rfl,?_,by omega,fun j=>?_⟩
   ·simp only [List.length_append,List.length_take,List.length_drop];omega
   ·rw [over_pt hl,hn]
  ·rw [if_neg hl] at h;cases h
 |tp vs=>cases h
 |_=>exact one rfl h
theorem canL_take {ts:List TV} {cs:List AV} (h:CanL ts cs) (off n:Nat):CanL ((ts.drop off).take n) ((cs.drop off).take n):=by
 refine ⟨by simp [h.1],fun j t x ht hx=>?_⟩
 simp only [List.getElem?_take] at ht hx
 split at ht
 ·rename_i hj
  rw [if_pos hj] at hx
  simp only [List.getElem?_drop] at ht hx
  exact h.2 _ _ _ ht hx
 ·cases ht
theorem flat_take {cs:List AV} (h:∀x∈cs,AV.flat x=true) (off n:Nat):∀x∈(cs.drop off).take n,AV.flat x=true:=
 fun x hx=>h x (List.mem_of_mem_drop (List.mem_of_mem_take hx))
theorem ldT_can {v r:TV} {ts:List TV} {cs:List AV} {off:Nat} {sz:Option Nat} (hv:cellsT v=some ts) (hc:CanF ts cs) (h:ldT v off sz=some r) :
  ∃l a,cut cs off (loadA sz)=some l∧mkv sz l=some a∧Can r a:=by
 cases sz with
 |none=>
  obtain ⟨ts',h1,h2⟩:=cellT_some h
  rw [hv] at h1;cases h1
  have hlt:off < ts.length:=by
   cases hh:ts[off]? with
   |none=>rw [hh] at h2;cases h2
   |some _=>exact (List.getElem?_eq_some_iff.1 hh).1
  have hlt':off < cs.length:=by rw [←hc.1.1];exact hlt
  have hx:cs[off]?=some cs[off]:=List.getElem?_eq_getElem hlt'
  refine ⟨[cs[off]],cs[off],?_,rfl,hc.1.2 _ _ _ h2 hx⟩
  rw [cut_eq,loadA,if_pos (by omega)]
  rw [List.drop_eq_getElem_cons hlt']
  rfl
 |some n=>
  obtain ⟨ts',h0,h1,hl,rfl⟩:=subT_some h
  rw [hv] at h1;cases h1
  have hl':off + n≤cs.length:=by rw [←hc.1.1];exact hl
  refine ⟨(cs.drop off).take n,.agg _,?_,rfl,?_⟩
  ·rw [cut_eq,loadA,if_pos hl']
  ·exact .a _ _ (canL_take hc.1 _ _).1 (flat_take hc.2 _ _) (canL_take hc.1 _ _).2
theorem flatA_can {t:TV} {x a:AV} (h:flatA t=some x) (hc:Can t a):a=x:=by
 cases hc <;> first | (cases h;rfl) | cases h
theorem flatV_can {r:AV} {t:TV} (h:flatV r=some t):Can t r:=by
 cases r <;> first | (cases h;constructor) | cases h
theorem binT_can {op:BinOp} {x y r:TV} {a b:AV} (h:binT op x y=some r) (ha:Can x a) (hb:Can y b):∃c,binA op a b=some c∧Can r c:=by
 unfold binT at h
 split at h
 ·rename_i x' hx
  split at h
  ·rename_i y' hy
   split at h
   ·rename_i c hc
    rw [flatA_can hx ha,flatA_can hy hb]
    exact ⟨c,hc,flatV_can h⟩
   ·cases h
  ·cases h
 ·cases h
theorem unT_can {op:UnOp} {x r:TV} {a:AV} (h:unT op x=some r) (ha:Can x a):∃c,unA op a=some c∧Can r c:=by
 unfold unT at h
 split at h
 ·rename_i x' hx
  split at h
  ·rename_i c hc
   rw [flatA_can hx ha]
   exact ⟨c,hc,flatV_can h⟩
  ·cases h
 ·cases h
theorem flatAs_can:∀{ts:List TV} {xs as:List AV},flatAs ts=some xs→CanL ts as→as=xs
 |[],xs,as,h,hc=>by cases h;exact List.length_eq_zero_iff.1 hc.1.symm
 |t :: ts,xs,as,h,hc=>by
  simp only [flatAs] at h
  split at h
  ·cases h
  rename_i x hx
  split at h
  ·cases h
  rename_i l hl
  cases h
  cases as with
  |nil=>cases hc.1
  |cons a as=>
   rw [flatA_can hx (hc.2 0 t a rfl rfl),flatAs_can hl ⟨Nat.succ.inj hc.1,fun j u y hu hy=>hc.2 (j + 1) u y hu hy⟩]
end Go.Ax.V

set_option linter.unusedSimpArgs false
set_option linter.unusedVariables false
namespace Go.Ax.V
theorem ovAt_cons (j i:Nat) (w:VV) (r:List (Nat×VV)):ovAt j ((i,w) :: r)=if i=j then some w else ovAt j r:=by
 simp only [ovAt,cond_eq_ite,Nat.beq_eq]
theorem ovAt_add (off:Nat) (r:List (Nat×VV)) (j:Nat):∀l,ovAt j (ovAdd off l r)=match (if off≤j then ovAt (j - off) l else none) with | some w=>some w | none=>ovAt j r
 |[]=>by simp only [ovAdd,ovAt];split <;> simp_all
 |(i,w) :: l=>by
  simp only [ovAdd,ovAt_cons,ovAt_add off r j l]
  by_cases h:off≤j
  ·simp only [if_pos h]
   by_cases e:i=j - off
   ·rw [if_pos (by omega),if_pos e]
   ·rw [if_neg (by omega),if_neg e]
  ·simp only [if_neg h]
   rw [if_neg (by omega)]
theorem ovAt_cut (off n j:Nat):∀l,ovAt j (ovCut off n l)=if off≤j∧j < off + n then none else ovAt j l
 |[]=>by simp [ovCut,ovAt]
 |(i,w) :: l=>by
  simp only [ovCut,cond_eq_ite,Bool.and_eq_true,Nat.ble_eq,Nat.blt_eq]
  by_cases h:off≤i∧i < off + n
  ·rw [if_pos h,ovAt_cut off n j l,ovAt_cons]
   by_cases e:i=j
   ·subst e;rw [if_pos h,if_pos h]
   ·rw [if_neg e]
  ·rw [if_neg h,ovAt_cons,ovAt_cons,ovAt_cut off n j l]
   by_cases e:i=j
   ·subst e;rw [if_pos rfl,if_neg h,if_pos rfl]
   ·rw [if_neg e,if_neg e]
theorem ovAt_sub (off n j:Nat):∀l,ovAt j (ovSub off n l)=if j < n then ovAt (j + off) l else none
 |[]=>by simp [ovSub,ovAt]
 |(i,w) :: l=>by
  simp only [ovSub,cond_eq_ite,Bool.and_eq_true,Nat.ble_eq,Nat.blt_eq]
  by_cases h:off≤i∧i < off + n
  ·rw [if_pos h,ovAt_cons,ovAt_sub off n j l,ovAt_cons]
   by_cases e:i - off=j
   ·rw [if_pos e,if_pos (by omega),if_pos (by omega)]
   ·rw [if_neg e]
    by_cases hj:j < n
    ·rw [if_pos hj,if_pos hj,if_neg (by omega)]
    ·rw [if_neg hj,if_neg hj]
  ·rw [if_neg h,ovAt_sub off n j l,ovAt_cons]
   by_cases hj:j < n
   ·rw [if_pos hj,if_pos hj,if_neg (by omega)]
   ·rw [if_neg hj,if_neg hj]
abbrev Tok:=Nat→Option AV
def idOf:AV→Option Nat
 |.ptr id _ _=>some id
 |.ref id _ _ _ _ _ _=>some id
 |_=>none
def SlV (A:Tok) (w:VV) (x:AV):Prop:=match w with
 |.nil0=>x=.nils∨x=.imm [] 0 (some 0)
 |.sl O=>A O=some x
 |_=>False
def CellR (A:Tok) (o:Option VV) (t:TV) (x:AV):Prop:=match o with
 |none=>Can t x∧x.flat=true
 |some w=>SlV A w x
structure CellsR (A:Tok) (v:TV) (ovs:List (Nat×VV)) (cs:List AV) (ts:List TV):Prop where
 cells:cellsT v=some ts
 len:ts.length=cs.length
 keys:∀j w,ovAt j ovs=some w→j < ts.length
 at_:∀(j:Nat) (t:TV) (x:AV),ts[j]?=some t→cs[j]?=some x→CellR A (ovAt j ovs) t x
inductive VR (A:Tok):VV→AV→Prop where
 |bad {a}:VR A .bad a
 |tr {v a} (h:Can v a):VR A (.tr v) a
 |nil0:VR A .nil0 .nils
 |nil1:VR A .nil0 (.imm [] 0 (some 0))
 |ptr {O off id} (h:A O=some (.ptr id 0 0)):VR A (.ptr O off) (.ptr id 0 off)
 |pd {O off id} (h:A O=some (.ptr id 0 0)):VR A (.pd O off) (.ptr id 0 off)
 |sl {O a} (h:A O=some a):VR A (.sl O) a
 |ea {O i off id g b sz len cap ex} (h:A O=some (.ref id g b sz len cap ex)):VR A (.ea O i off) (.ptr id g (b + i*sz + off))
 |pt {v cs b off n} (hl:b + n≤cs.length) (hf:∀x∈cs,AV.flat x=true) (h:CanC v ((cs.drop b).take n)):VR A (.pt v off) (.iptr cs (b + off))
 |st {v ovs cs ts} (hv:v=.a ts) (h:CellsR A v ovs cs ts):VR A (.st v ovs) (.agg cs)
structure ElR (sz:Nat) (es:List TV) (cs:List AV):Prop where
 len:cs.length=es.length*sz
 flat:∀x∈cs,AV.flat x=true
 el:∀(j:Nat) (e:TV),es[j]?=some e→CanC e ((cs.drop (j*sz)).take sz)
def SlR (H:Heap) (sz:Nat) (es:List TV) (a:AV):Prop:=0 < sz∧((es=[]∧(a=.nils∨a=.imm [] 0 (some 0)))∨
 ∃id g b cells,a=.ref id g b sz es.length es.length false∧H.get id=some (.row g cells)∧b≤cells.length∧ElR sz es (cells.drop b))
def OR (A:Tok) (H:Heap) (o:VO) (a:AV):Prop:=match o with
 |.ob v ovs=>∃id cs ts,a=.ptr id 0 0∧H.get id=some (.row 0 cs)∧CellsR A v ovs cs ts
 |.gr sz es=>SlR H sz es a
structure R (A:Tok) (V:VSt) (st:St):Prop where
 env:∀t e,V.env.get t=some e→∃a,st.env.get t=some a∧((∀c bb,e.gd=some (c,bb)→c=.b bb)→VR A e.v a)
 heap:∀O o,V.H.get O=some o→∃a,A O=some a∧OR A st.H o a
 inj:∀O O' o o' a a' id,V.H.get O=some o→V.H.get O'=some o'→A O=some a→A O'=some a'→idOf a=some id→idOf a'=some id→O=O'
 used:∀O,V.us.get O=none→A O=none
 one:∀O a,A O=some a→a.one=true
 fresh:∀id o,st.H.get id=some o→id < st.nx
def Own (V:VSt) (A:Tok) (id:Nat):Prop:=∃O o a,V.H.get O=some o∧A O=some a∧idOf a=some id
structure Fr (V:VSt) (A:Tok) (H:Heap) (nx:Nat) (V':VSt) (A':Tok) (H':Heap) (nx':Nat):Prop where
 le:nx≤nx'
 same:∀id,id < nx→¬Own V A id→H'.get id=H.get id
 own:∀id,Own V' A' id→Own V A id∨nx≤id
theorem Fr.refl (V:VSt) (A:Tok) (H:Heap) (nx:Nat):Fr V A H nx V A H nx:=⟨Nat.le_refl _,fun _ _ _=>rfl,fun _ h=>.inl h⟩
theorem Fr.trans {V A H nx V1 A1 H1 nx1 V2 A2 H2 nx2} (h:Fr V A H nx V1 A1 H1 nx1) (h':Fr V1 A1 H1 nx1 V2 A2 H2 nx2):Fr V A H nx V2 A2 H2 nx2 where
 le:=Nat.le_trans h.le h'.le
 same id hid hn:=by
  rw [h'.same id (Nat.lt_of_lt_of_le hid h.le) (fun ho=>(h.own id ho).elim hn (fun hle=>by omega)),h.same id hid hn]
 own id ho:=(h'.own id ho).elim (fun h1=>h.own id h1) (fun hle=>.inr (Nat.le_trans h.le hle))
theorem Fr.ofH {V V':VSt} {A:Tok} {H:Heap} {nx:Nat} (h:∀O o,V'.H.get O=some o→∃o',V.H.get O=some o'):Fr V A H nx V' A H nx:=
 ⟨Nat.le_refl _,fun _ _ _=>rfl,fun _ ⟨O,o,a,h1,h2,h3⟩=>let ⟨o',h'⟩:=h O o h1;.inl ⟨O,o',a,h',h2,h3⟩⟩
def act:G→Prop
 |none=>True
 |some (c,bb)=>c=.b bb
theorem SlV.mono {A A':Tok} (h:∀O a,A O=some a→A' O=some a) {w:VV} {x:AV} (hs:SlV A w x):SlV A' w x:=by
 cases w <;> first | exact hs | exact h _ _ hs
theorem CellsR.mono {A A':Tok} (h:∀O a,A O=some a→A' O=some a) {v:TV} {ovs:List (Nat×VV)} {cs:List AV} {ts:List TV} (hc:CellsR A v ovs cs ts):CellsR A' v ovs cs ts:=
 ⟨hc.cells,hc.len,hc.keys,fun j t x ht hx=>by
  have:=hc.at_ j t x ht hx
  unfold CellR at this ⊢
  split at this
  ·exact this
  ·exact SlV.mono h this⟩
theorem VR.mono {A A':Tok} (h:∀O a,A O=some a→A' O=some a) {w:VV} {x:AV} (hv:VR A w x):VR A' w x:=by
 cases hv with
 |bad=>exact .bad
 |tr h=>exact .tr h
 |nil0=>exact .nil0
 |nil1=>exact .nil1
 |ptr h1=>exact .ptr (h _ _ h1)
 |pd h1=>exact .pd (h _ _ h1)
 |sl h1=>exact .sl (h _ _ h1)
 |ea h1=>exact .ea (h _ _ h1)
 |pt hl hf h1=>exact .pt hl hf h1
 |st hv h1=>exact .st hv (h1.mono h)
theorem OR.mono {A A':Tok} {H H':Heap} (h:∀O a,A O=some a→A' O=some a) {o:VO} {a:AV} (hH:∀id,idOf a=some id→H'.get id=H.get id) (ho:OR A H o a):OR A' H' o a:=by
 cases o with
 |ob v ovs=>
  obtain ⟨id,cs,ts,rfl,h2,h3⟩:=ho
  exact ⟨id,cs,ts,rfl,by rw [hH id rfl];exact h2,h3.mono h⟩
 |gr sz es=>
  obtain ⟨hz,h1⟩:=ho
  refine ⟨hz,h1.imp id ?_⟩
  rintro ⟨id,g,b,cells,rfl,h2,h3,h4⟩
  exact ⟨id,g,b,cells,rfl,by rw [hH id rfl];exact h2,h3,h4⟩
theorem OR.there {A:Tok} {H:Heap} {o:VO} {a:AV} (ho:OR A H o a) {id:Nat} (hi:idOf a=some id):∃ob,H.get id=some ob:=by
 cases o with
 |ob v ovs=>obtain ⟨id',cs,ts,rfl,h2,h3⟩:=ho;cases hi;exact ⟨_,h2⟩
 |gr sz es=>
  obtain ⟨hz,h1⟩:=ho
  rcases h1 with ⟨_,rfl | rfl⟩ | ⟨id',g,b,cells,rfl,h2,_⟩
  ·cases hi
  ·cases hi
  ·cases hi;exact ⟨_,h2⟩
theorem R.own_lt {A:Tok} {V:VSt} {st:St} (h:R A V st) {id:Nat} (ho:Own V A id):id < st.nx:=by
 obtain ⟨O,o,a,h1,h2,h3⟩:=ho
 obtain ⟨a',h4,h5⟩:=h.heap O o h1
 rw [h2] at h4;cases h4
 obtain ⟨ob,h6⟩:=h5.there h3
 exact h.fresh _ _ h6
theorem can_nil1:Can (.l []) (.imm [] 0 (some 0)):=.imm [] [] 0 1 _ rfl rfl (by omega) (fun x hx=>by cases hx) (fun j e h=>by simp at h)
theorem base_can {v:AV} (h:constOk v=true):Can (baseOf v) v∧v.flat=true:=by
 cases v <;> first | (cases h;done) | exact ⟨by constructor,rfl⟩
theorem bases_len:∀l,(basesOf l).length=l.length
 |[]=>rfl
 |x :: xs=>by simp [basesOf,bases_len xs]
theorem bases_at:∀(l:List AV) (j:Nat),(basesOf l)[j]?=l[j]?.map baseOf
 |[],j=>by simp [basesOf]
 |x :: xs,0=>rfl
 |x :: xs,j + 1=>by simp [basesOf,bases_at xs j]
theorem nilsAt_at:∀(l:List AV) (i j:Nat),ovAt j (nilsAt i l)=if i≤j then (match l[j - i]? with | some .nils=>some .nil0 | _=>none) else none
 |[],i,j=>by simp [nilsAt,ovAt]
 |x :: xs,i,j=>by
  have ih:=nilsAt_at xs (i + 1) j
  have rest:(if i + 1≤j then (match xs[j - (i + 1)]? with | some .nils=>some VV.nil0 | _=>none) else none)=if i≤j then (if i=j then none else (match (x :: xs)[j - i]? with | some .nils=>some .nil0 | _=>none)) else none:=by
   by_cases h:i + 1≤j
   ·rw [if_pos h,if_pos (by omega),if_neg (by omega),show j - i=(j - (i + 1)) + 1 by omega,List.getElem?_cons_succ]
   ·rw [if_neg h]
    by_cases h2:i≤j
    ·rw [if_pos h2,if_pos (by omega)]
    ·rw [if_neg h2]
  by_cases hx:x=.nils
  ·subst hx
   simp only [nilsAt,ovAt_cons,ih,rest]
   by_cases h:i≤j
   ·rw [if_pos h,if_pos h]
    by_cases e:i=j
    ·subst e;simp
    ·rw [if_neg e,if_neg e]
   ·rw [if_neg h,if_neg h,if_neg (by omega)]
  ·have:nilsAt i (x :: xs)=nilsAt (i + 1) xs:=by cases x <;> first | rfl | exact absurd rfl hx
   rw [this,ih,rest]
   by_cases h:i≤j
   ·rw [if_pos h,if_pos h]
    by_cases e:i=j
    ·subst e
     rw [if_pos rfl]
     simp only [Nat.sub_self,List.getElem?_cons_zero]
     cases x <;> first | rfl | exact absurd rfl hx
    ·rw [if_neg e]
   ·rw [if_neg h,if_neg h]
theorem cells_const (A:Tok) {cs:List AV} (h:allB constOk cs=true):CellsR A (.a (basesOf cs)) (nilsAt 0 cs) cs (basesOf cs):=by
 refine ⟨rfl,bases_len cs,fun j w hj=>?_,fun j t x ht hx=>?_⟩
 ·rw [nilsAt_at,if_pos (Nat.zero_le _)] at hj
  rw [bases_len]
  cases hc:cs[j]? with
  |none=>simp [hc] at hj
  |some y=>exact (List.getElem?_eq_some_iff.1 hc).1
 ·rw [bases_at,hx] at ht
  cases ht
  rw [nilsAt_at,if_pos (Nat.zero_le _),Nat.sub_zero,hx]
  have:=base_can (allB_true.1 h x (List.mem_of_getElem? hx))
  cases x <;> first | exact this | exact .inl rfl
theorem const_vr (A:Tok) (v:AV):VR A (constV v) v:=by
 unfold constV
 split
 ·exact .nil0
 ·rename_i cs
  rw [cond_eq_ite]
  split
  ·rename_i h;exact .st rfl (cells_const A h)
  ·exact .bad
 ·exact .bad
 ·rw [cond_eq_ite]
  split
  ·rename_i h;exact .tr (base_can h).1
  ·exact .bad
section
variable {A:Tok} {V:VSt} {st:St} {g:G}
theorem ev_get {e:Env} {n:Nat} {a:AV} (h:e.get n=some a):ev e (.t n)=a:=by simp only [ev,h]
theorem rdK_sim (h:R A V st) (ha:act g) {x:Opd} {k:VV→Prop} (hk:rdK V g x k):∃w,VR A w (ev st.env x)∧k w:=by
 cases x with
 |c v=>exact ⟨_,const_vr A v,hk⟩
 |t n=>
  simp only [rdK] at hk
  split at hk
  ·cases hk
  rename_i e he
  obtain ⟨a,h1,h2⟩:=h.env n e he
  split at hk
  ·rename_i hg
   exact ⟨e.v,by rw [ev_get h1];exact h2 (fun c bb hc=>by rw [hg] at hc;cases hc),hk⟩
  ·rename_i q hq
   split at hk
   ·cases hk
   rename_i p
   obtain ⟨rfl,hk⟩:=hk
   exact ⟨e.v,by rw [ev_get h1];exact h2 (fun c bb hc=>by rw [hq] at hc;cases hc;exact ha),hk⟩
theorem nils_cells:∀(ovs:List (Nat×VV)) (ts:List TV) (u:TV),nilsT ovs (.a ts)=some u→
  ∃us,u=.a us∧us.length=ts.length∧∀j,us[j]?=(match ovAt j ovs with | some _=>(if j < ts.length then some (.l []) else none) | none=>ts[j]?)∧∀w,ovAt j ovs=some w→w=.nil0
 |[],ts,u,h=>by cases h;exact ⟨ts,rfl,rfl,fun j=>⟨rfl,fun w hw=>by cases hw⟩⟩
 |(off,w) :: r,ts,u,h=>by
  unfold nilsT at h
  split at h
  rotate_left
  ·cases h
  split at h
  rotate_left
  ·cases h
  rename_i u' hu'
  obtain ⟨us,rfl,hl,ha⟩:=nils_cells r ts u' hu'
  obtain ⟨ts',xs,us',h1,h2,h3,h4,h5,h6,h7⟩:=putT_some h
  cases h1;cases h2
  have hu:u=.a us':=by
   cases u <;> first | (cases h4;rfl) | skip
   all_goals
    unfold putT at h
    simp only [cellsT,cond_eq_ite] at h
    split at h
    ·split at h <;> cases h
    ·cases h
  refine ⟨us',hu,by rw [h5,hl],fun j=>?_⟩
  rw [h7 j,ovAt_cons]
  by_cases e:off=j
  ·subst e
   rw [if_pos (by omega),if_pos rfl,Nat.sub_self]
   refine ⟨?_,fun w' hw'=>by cases hw';rfl⟩
   simp only
   rw [if_pos (by rw [←hl];omega)];rfl
  ·rw [if_neg (by omega),if_neg e]
   exact ha j
theorem nils_can {v u:TV} {ovs:List (Nat×VV)} {cs:List AV} {ts:List TV} (h:CellsR A v ovs cs ts) (hv:v=.a ts) (hu:nilsT ovs v=some u):Can u (.agg cs):=by
 subst hv
 obtain ⟨us,rfl,hl,ha⟩:=nils_cells ovs ts u hu
 have at_:∀(j:Nat) (t:TV) (x:AV),us[j]?=some t→cs[j]?=some x→Can t x∧x.flat=true:=by
  intro j t x ht hx
  have hlt:j < ts.length:=by rw [h.len];exact (List.getElem?_eq_some_iff.1 hx).1
  have hc:=h.at_ j _ x (List.getElem?_eq_getElem hlt) hx
  obtain ⟨h1,h2⟩:=ha j
  rw [h1] at ht
  cases ho:ovAt j ovs with
  |none=>
   rw [ho] at ht hc
   simp only at ht
   rw [List.getElem?_eq_getElem hlt] at ht
   cases ht
   exact hc
  |some w=>
   rw [ho] at ht hc
   simp only at ht
   rw [if_pos hlt] at ht
   cases ht
   obtain rfl:=h2 w ho
   rcases hc with rfl | rfl
   ·exact ⟨.nil,rfl⟩
   ·exact ⟨can_nil1,rfl⟩
 refine .a _ _ (by rw [hl,h.len]) (fun x hx=>?_) (fun j t x ht hx=>(at_ j t x ht hx).1)
 obtain ⟨j,hj⟩:=List.getElem?_of_mem hx
 have hlt:j < us.length:=by rw [hl,h.len];exact (List.getElem?_eq_some_iff.1 hj).1
 exact (at_ j _ x (List.getElem?_eq_getElem hlt) hj).2
theorem vr_tree {w:VV} {a:AV} (hv:VR A w a) {k:TV→Prop} (hk:treeK w k):∃v,Can v a∧k v:=by
 cases hv <;> first | (cases hk;done) | skip
 ·rename_i v hc;exact ⟨v,hc,hk⟩
 ·exact ⟨_,.nil,hk⟩
 ·exact ⟨_,can_nil1,hk⟩
 ·rename_i hv h
  obtain ⟨u,h1,h2⟩:=hk
  exact ⟨u,nils_can h hv h1,h2⟩
theorem rdT_sim (h:R A V st) (ha:act g) {x:Opd} {k:TV→Prop} (hk:rdT V g x k):∃v,Can v (ev st.env x)∧k v:=by
 obtain ⟨w,h1,h2⟩:=rdK_sim h ha hk
 exact vr_tree h1 h2
theorem ordT_sim (h:R A V st) (ha:act g) {x:Option Opd} {k:Option TV→Prop} (hk:ordT V g x k):∃v,k v∧(match x with | none=>v=none | some x=>∃u,v=some u∧Can u (ev st.env x)):=by
 cases x with
 |none=>exact ⟨none,hk,rfl⟩
 |some x=>obtain ⟨v,h1,h2⟩:=rdT_sim h ha hk;exact ⟨some v,h2,v,rfl,h1⟩
theorem rdTs_sim (h:R A V st) (ha:act g):∀{xs:List Opd} {k:List TV→Prop},rdTs V g xs k→∃vs,CanL vs (xs.map (ev st.env))∧k vs
 |[],k,hk=>⟨[],⟨rfl,fun j t x ht=>by simp at ht⟩,hk⟩
 |x :: xs,k,hk=>by
  obtain ⟨v,h1,h2⟩:=rdT_sim h ha hk
  obtain ⟨vs,h3,h4⟩:=rdTs_sim h ha h2
  refine ⟨v :: vs,⟨by simp [h3.1],fun j t y ht hy=>?_⟩,h4⟩
  cases j with
  |zero=>simp at ht hy;subst ht;subst hy;exact h1
  |succ j=>simp at ht hy;exact h3.2 j t y ht (by simpa using hy)
end
theorem vr_cells {A:Tok} (hone:∀O a,A O=some a→a.one=true) {w:VV} {a:AV} (hv:VR A w a) {t:TV} {o:List (Nat×VV)} (hs:stOf w=some (t,o)) {ts:List TV} (hc:cellsT t=some ts) :
  ∃as,a.cells?=some as∧CellsR A t o as ts:=by
 have single:∀{w:VV} {x:AV},SlV A w x→x.cells?=some [x]→CellsR A (.l []) [(0,w)] [x] [.l []]:=fun {w x} h1 h2=>
  ⟨rfl,rfl,(fun j u hj=>by
   rw [ovAt_cons] at hj
   split at hj
   ·subst_vars;simp
   ·cases hj),(fun j u y hu hy=>by
   cases j with
   |zero=>simp at hu hy;subst hu;subst hy;rw [ovAt_cons,if_pos rfl];exact h1
   |succ j=>simp at hu)⟩
 cases hv <;> first | (cases hs;done) | skip
 ·rename_i v h
  cases hs
  obtain ⟨as,h1,h2⟩:=can_cells h hc
  exact ⟨as,h1,hc,h2.1.1,fun j w hj=>by simp [ovAt] at hj,fun j u x hu hx=>⟨h2.1.2 j u x hu hx,h2.2 x (List.mem_of_getElem? hx)⟩⟩
 ·cases hs;cases hc;exact ⟨_,rfl,single (.inl rfl) rfl⟩
 ·cases hs;cases hc;exact ⟨_,rfl,single (.inr rfl) rfl⟩
 ·rename_i O h
  cases hs;cases hc
  have hc:a.cells?=some [a]:=by have:=hone _ _ h;cases a <;> first | rfl | cases this
  exact ⟨_,hc,single (w:=.sl O) h hc⟩
 ·rename_i v ovs cs ts' hv' h
  cases hs
  have:=h.cells.symm.trans hc;cases this
  exact ⟨_,rfl,h⟩
theorem cells_put {A:Tok} {v u t:TV} {ovs o:List (Nat×VV)} {cs as:List AV} {vs ts:List TV} {off n:Nat} (hv:CellsR A v ovs cs vs) (ht:CellsR A t o as ts) (hp:putT v off n t=some u) :
  as.length=n∧∃cs' us,over cs off as=some cs'∧CellsR A u (ovAdd off o (ovCut off n ovs)) cs' us∧(∀l,v=.a l→∃l',u=.a l'):=by
 obtain ⟨ts',xs,us,h1,h2,h3,h4,h5,h6,h7⟩:=putT_some hp
 have e1:=hv.cells.symm.trans h1;cases e1
 have e2:=ht.cells.symm.trans h2;cases e2
 have hn:as.length=n:=by rw [←ht.len];exact h3
 have hov:over cs off as=some (cs.take off++as++cs.drop (off + as.length)):=by rw [over_eq,if_pos (by rw [hn,←hv.len];exact h6)]
 obtain ⟨hl',hat⟩:=over_at hov
 refine ⟨hn,_,us,hov,⟨h4,by rw [h5,hl',hv.len],fun j w hj=>?_,fun j t' x ht' hx=>?_⟩,fun l e=>?_⟩
 ·rw [ovAt_add] at hj
  rw [h5]
  by_cases ho:off≤j
  ·simp only [if_pos ho] at hj
   cases hq:ovAt (j - off) o with
   |some w'=>have:=ht.keys _ _ hq;omega
   |none=>
    rw [hq,ovAt_cut] at hj
    simp only at hj
    split at hj
    ·cases hj
    ·exact hv.keys _ _ hj
  ·simp only [if_neg ho,ovAt_cut] at hj
   split at hj
   ·cases hj
   ·exact hv.keys _ _ hj
 ·rw [h7] at ht'
  rw [hat,hn] at hx
  rw [ovAt_add]
  by_cases hc:off≤j∧j < off + n
  ·rw [if_pos hc] at ht' hx
   simp only [if_pos hc.1]
   have:=ht.at_ _ _ _ ht' hx
   cases hq:ovAt (j - off) o with
   |some w'=>rw [hq] at this;exact this
   |none=>
    rw [hq] at this
    simp only [ovAt_cut,if_pos hc]
    exact this
  ·rw [if_neg hc] at ht' hx
   have:=hv.at_ _ _ _ ht' hx
   by_cases ho:off≤j
   ·simp only [if_pos ho]
    cases hq:ovAt (j - off) o with
    |some w'=>have:=ht.keys _ _ hq;omega
    |none=>simp only [ovAt_cut,if_neg hc];exact this
   ·simp only [if_neg ho,ovAt_cut,if_neg hc]
    exact this
 ·subst e
  unfold putT at hp
  simp only [h2,h3,cond_eq_ite,Nat.beq_eq,if_pos rfl] at hp
  split at hp
  ·split at hp
   ·exact ⟨_,(Option.some.inj hp).symm⟩
   ·cases hp
  ·rename_i hh;exact absurd (by first | rfl | trivial) hh
end Go.Ax.V

set_option linter.unusedSimpArgs false
set_option linter.unusedVariables false
namespace Go.Ax.V
theorem resT_act {g:G} (ha:act g) {P k:TV→Prop} (h:resT g P k):∃v,P v∧k v:=by
 cases g with
 |none=>exact h
 |some p=>
  obtain ⟨c,bb⟩:=p
  obtain ⟨v,h1,h2⟩:=h
  have hc:c=.b bb:=ha
  subst hc
  refine ⟨v,?_,h2⟩
  unfold gV at h1
  cases bb <;> exact h1
theorem resN_act {g:G} (ha:act g) {P:Option Nat} {k:Nat→Prop} (h:resN g P k):∃n,P=some n∧k n:=by
 cases g with
 |none=>exact h
 |some p=>
  obtain ⟨c,bb⟩:=p
  obtain ⟨n,h1,h2⟩:=h
  exact ⟨n,h1 ha,h2⟩
def Next (nt:Nat) (A:Tok) (V:VSt) (st:St) (d:Option Nat) (v:AV) (H':Heap) (nx':Nat) (k:VSt→Prop):Prop:=
 ∃e',putD nt st.env d v=some e'∧∃V' A',R A' V' ⟨e',H',nx'⟩∧Fr V A st.H st.nx V' A' H' nx'∧(∀O x,A O=some x→A' O=some x)∧k V'
theorem R.put {A:Tok} {V:VSt} {st:St} (h:R A V st) {d:Nat} {e:VE} {v:AV} (hv:(∀c bb,e.gd=some (c,bb)→c=.b bb)→VR A e.v v) :
  R A {V with env:=V.env.put (some e) d} ⟨st.env.put (some v) d,st.H,st.nx⟩ where
 env t e' he:=by
  simp only [Map.get_put] at he ⊢
  split at he
  ·rename_i ht;subst ht;cases he;exact ⟨v,by rw [if_pos rfl],hv⟩
  ·rename_i ht;rw [if_neg ht];exact h.env t e' he
 heap:=h.heap
 inj:=h.inj
 used:=h.used
 one:=h.one
 fresh:=h.fresh
theorem putV_next {nt:Nat} {A:Tok} {V:VSt} {st:St} {A1:Tok} {V1:VSt} {H':Heap} {nx':Nat} {d:Option Nat} {g:G} {w:VV} {v:AV} {k:VSt→Prop}
  (hR:R A1 V1 ⟨st.env,H',nx'⟩) (hF:Fr V A st.H st.nx V1 A1 H' nx') (hx:∀O x,A O=some x→A1 O=some x) (hv:act g→VR A1 w v) (h:putV nt V1 d g w k):Next nt A V st d v H' nx' k:=by
 cases d with
 |none=>exact ⟨st.env,rfl,V1,A1,hR,hF,hx,h⟩
 |some d=>
  simp only [putV,cond_eq_ite] at h
  split at h
  ·rename_i hd
   refine ⟨st.env.put (some v) d,by simp only [putD,cond_eq_ite,if_pos hd],_,A1,hR.put (e:=⟨g,w⟩) (fun hh=>hv ?_),⟨hF.le,hF.same,hF.own⟩,hx,h⟩
   cases g with
   |none=>trivial
   |some p=>exact hh _ _ rfl
  ·cases h
theorem putV_tree {nt:Nat} {A:Tok} {V:VSt} {st:St} (hR:R A V st) {d:Option Nat} {g:G} {w:VV} {v:AV} {k:VSt→Prop} (hv:act g→VR A w v) (h:putV nt V d g w k):Next nt A V st d v st.H st.nx k:=
 putV_next (A1:=A) (V1:=V) hR (Fr.refl _ _ _ _) (fun _ _ h=>h) hv h
theorem resV_next {nt:Nat} {A:Tok} {V:VSt} {st:St} (hR:R A V st) {d:Option Nat} {g:G} (ha:act g) {P:Option TV} {k:VSt→Prop} (h:resV nt V d g P k) :
  ∃r,P=some r∧∀v,Can r v→Next nt A V st d v st.H st.nx k:=by
 obtain ⟨r,h1,h2⟩:=resT_act ha h
 exact ⟨r,h1,fun v hv=>putV_tree hR (fun _=>.tr hv) h2⟩
theorem R.sub {A:Tok} {V V':VSt} {st:St} (h:R A V st) (he:V'.env=V.env) (hu:V'.us=V.us) (hH:∀O o,V'.H.get O=some o→V.H.get O=some o):R A V' st where
 env t e hh:=h.env t e (by rw [←he];exact hh)
 heap O o hh:=h.heap O o (hH O o hh)
 inj O O' o o' a a' id h1 h2:=h.inj O O' o o' a a' id (hH _ _ h1) (hH _ _ h2)
 used O hh:=h.used O (by rw [←hu];exact hh)
 one:=h.one
 fresh:=h.fresh
theorem dropO_get {V:VSt} {O O':Nat} {o:VO} (h:(dropO V O).H.get O'=some o):O'≠O∧V.H.get O'=some o:=by
 simp only [dropO,Map.get_put] at h
 split at h
 ·cases h
 ·rename_i hne;exact ⟨hne,h⟩
theorem R.dropO {A:Tok} {V:VSt} {st:St} (h:R A V st) (O:Nat):R A (dropO V O) st:=
 h.sub rfl rfl (fun O' o hh=>(dropO_get hh).2)
theorem newV_next {nt:Nat} {A:Tok} {V0 V:VSt} {st:St} {d:Option Nat} {g:G} {wf:Nat→VV} {o:VO} {k:VSt→Prop} {a v:AV} {H':Heap} {nx':Nat}
  (hR:R A V st) (hsub:∀O o,V.H.get O=some o→V0.H.get O=some o) (h:newV nt V d g wf o k) (hle:st.nx≤nx') (hfresh:∀id ob,H'.get id=some ob→id < nx')
  (hkeep:∀id,Own V A id→H'.get id=st.H.get id) (hsame:∀id,id < st.nx→¬Own V0 A id→H'.get id=st.H.get id)
  (hO:∀A':Tok,(∀O x,A O=some x→A' O=some x)→OR A' H' o a) (h1:a.one=true) (hid:∀id,idOf a=some id→¬Own V A id∧(Own V0 A id∨st.nx≤id))
  (hw:∀(A':Tok) O,A' O=some a→VR A' (wf O) v):Next nt A V0 st d v H' nx' k:=by
 unfold newV at h
 split at h
 ·cases h
 split at h
 ·cases h
 rename_i d
 split at h
 ·cases h
 rename_i hus
 have hnone:=hR.used d hus
 let A':Tok:=fun O=>if O=d then some a else A O
 have hA':∀O x,A O=some x→A' O=some x:=fun O x hx=>by
  show (if O=d then _ else _)=_
  rw [if_neg (by rintro rfl;rw [hnone] at hx;cases hx)];exact hx
 have hAd:A' d=some a:=if_pos rfl
 have hVd:V.H.get d=none:=by
  cases hh:V.H.get d with
  |none=>rfl
  |some o'=>obtain ⟨x,hx,_⟩:=hR.heap d o' hh;rw [hnone] at hx;cases hx
 have own':∀O o',V.H.get O=some o'→∀x id,A O=some x→idOf x=some id→Own V A id:=fun O o' h1 x id h2 h3=>⟨O,o',x,h1,h2,h3⟩
 refine putV_next (A1:=A') (V1:={V with H:=V.H.put (some o) d,us:=V.us.put (some ()) d}) ?_ ?_ hA' (fun _=>hw A' d hAd) h
 ·refine ⟨fun t e he=>?_,fun O o' ho=>?_,fun O O' o1 o2 a1 a2 id ho1 ho2 ha1 ha2 hi1 hi2=>?_,fun O hu=>?_,fun O x hx=>?_,hfresh⟩
  ·obtain ⟨x,hx,hv⟩:=hR.env t e he
   exact ⟨x,hx,fun hh=>(hv hh).mono hA'⟩
  ·simp only [Map.get_put] at ho
   split at ho
   ·rename_i hd;subst hd;cases ho;exact ⟨a,hAd,hO A' hA'⟩
   ·obtain ⟨x,hx,hor⟩:=hR.heap O o' ho
    exact ⟨x,hA' _ _ hx,hor.mono hA' (fun id hi=>hkeep id (own' O o' ho x id hx hi))⟩
  ·simp only [Map.get_put] at ho1 ho2
   by_cases e1:O=d
   ·by_cases e2:O'=d
    ·rw [e1,e2]
    ·subst e1
     rw [if_neg e2] at ho2
     have ha2':A O'=some a2:=by have:(if O'=O then some a else A O')=some a2:=ha2;rwa [if_neg e2] at this
     rw [hAd] at ha1;cases ha1
     exact absurd (own' O' _ ho2 a2 id ha2' hi2) (hid id hi1).1
   ·rw [if_neg e1] at ho1
    have ha1':A O=some a1:=by have:(if O=d then some a else A O)=some a1:=ha1;rwa [if_neg e1] at this
    by_cases e2:O'=d
    ·subst e2
     rw [hAd] at ha2;cases ha2
     exact absurd (own' O _ ho1 a1 id ha1' hi1) (hid id hi2).1
    ·rw [if_neg e2] at ho2
     have ha2':A O'=some a2:=by have:(if O'=d then some a else A O')=some a2:=ha2;rwa [if_neg e2] at this
     exact hR.inj O O' _ _ a1 a2 id ho1 ho2 ha1' ha2' hi1 hi2
  ·simp only [Map.get_put] at hu
   split at hu
   ·cases hu
   ·rename_i hne
    show (if O=d then _ else _)=_
    rw [if_neg hne];exact hR.used O hu
  ·by_cases e:O=d
   ·subst e;rw [hAd] at hx;cases hx;exact h1
   ·have:A O=some x:=by have:(if O=d then some a else A O)=some x:=hx;rwa [if_neg e] at this
    exact hR.one O x this
 ·refine ⟨hle,hsame,fun id ⟨O,o',x,ho,hx,hi⟩=>?_⟩
  simp only [Map.get_put] at ho
  by_cases e:O=d
  ·subst e
   rw [hAd] at hx;cases hx
   exact (hid id hi).2
  ·rw [if_neg e] at ho
   have:A O=some x:=by have:(if O=d then some a else A O)=some x:=hx;rwa [if_neg e] at this
   exact .inl ⟨O,o',x,hsub _ _ ho,this,hi⟩
theorem fresh_next {nt:Nat} {A:Tok} {V:VSt} {st:St} {d:Option Nat} {g:G} {wf:Nat→VV} {o:VO} {k:VSt→Prop} {a v:AV} {ob:AObj}
  (hR:R A V st) (h:newV nt V d g wf o k) (hO:∀A':Tok,(∀O x,A O=some x→A' O=some x)→OR A' (st.H.put (some ob) st.nx) o a) (h1:a.one=true) (hid:idOf a=some st.nx)
  (hw:∀(A':Tok) O,A' O=some a→VR A' (wf O) v):Next nt A V st d v (st.H.put (some ob) st.nx) (st.nx + 1) k:=by
 have hno:∀id,Own V A id→id≠st.nx:=fun id ho he=>by have:=hR.own_lt ho;omega
 refine newV_next (V0:=V) hR (fun _ _ h=>h) h (Nat.le_succ _) (fun id o' hh=>?_) (fun id ho=>by rw [Map.get_put,if_neg (hno id ho)])
  (fun id hlt _=>by rw [Map.get_put,if_neg (by omega)]) hO h1 (fun id hi=>?_) hw
 ·rw [Map.get_put] at hh
  split at hh
  ·omega
  ·have:=hR.fresh _ _ hh;omega
 ·rw [hid] at hi;cases hi
  exact ⟨fun ho=>hno _ ho rfl,.inr (Nat.le_refl _)⟩
theorem set_next {A:Tok} {V:VSt} {st:St} (hR:R A V st) {O:Nat} {o0 o:VO} {a:AV} {id:Nat} {ob:AObj} (hV:V.H.get O=some o0) (hA:A O=some a) (hi:idOf a=some id)
  (hO:OR A (st.H.put (some ob) id) o a):R A (setVO V O o) ⟨st.env,st.H.put (some ob) id,st.nx⟩∧Fr V A st.H st.nx (setVO V O o) A (st.H.put (some ob) id) st.nx:=by
 have hown:Own V A id:=⟨O,o0,a,hV,hA,hi⟩
 have get':∀O' o',(setVO V O o).H.get O'=some o'→∃o'',V.H.get O'=some o'':=fun O' o' hh=>by
  simp only [setVO,Map.get_put] at hh
  split at hh
  ·rename_i e;subst e;exact ⟨_,hV⟩
  ·exact ⟨_,hh⟩
 refine ⟨⟨hR.env,fun O' o' ho=>?_,fun O1 O2 o1 o2 a1 a2 id' ho1 ho2=>?_,hR.used,hR.one,fun id' o' hh=>?_⟩,⟨Nat.le_refl _,fun id' _ hn=>?_,fun id' ⟨O',o',x,h1,h2,h3⟩=>?_⟩⟩
 ·simp only [setVO,Map.get_put] at ho
  by_cases e:O'=O
  ·subst e
   rw [if_pos rfl] at ho;cases ho
   exact ⟨a,hA,hO⟩
  ·rw [if_neg e] at ho
   obtain ⟨x,hx,hor⟩:=hR.heap O' o' ho
   refine ⟨x,hx,hor.mono (fun _ _ h=>h) (fun id' hi'=>?_)⟩
   rw [Map.get_put,if_neg]
   rintro rfl
   exact e (hR.inj O' O _ _ x a _ ho hV hx hA hi' hi)
 ·obtain ⟨p1,h1⟩:=get' _ _ ho1
  obtain ⟨p2,h2⟩:=get' _ _ ho2
  exact hR.inj O1 O2 _ _ a1 a2 id' h1 h2
 ·have hh':(st.H.put (some ob) id).get id'=some o':=hh
  rw [Map.get_put] at hh'
  split at hh'
  ·rename_i e;subst e;exact hR.own_lt hown
  ·exact hR.fresh _ _ hh'
 ·rw [Map.get_put,if_neg]
  rintro rfl
  exact hn hown
 ·obtain ⟨o'',h4⟩:=get' _ _ h1
  exact .inl ⟨O',o'',x,h4,h2,h3⟩
theorem imm_flat {a:AV} (h:a.flat=true) (d:Nat) (H:Heap):toImm (d + 1) H a=some a:=by
 cases a <;> first | rfl | cases h
theorem mapO_flat {cs:List AV} (h:∀x∈cs,AV.flat x=true) (d:Nat) (H:Heap):mapO (toImm (d + 1) H) cs=some cs:=by
 induction cs with
 |nil=>rfl
 |cons x cs ih=>rw [mapO_cons,imm_flat (h x List.mem_cons_self),ih (fun y hy=>h y (List.mem_cons_of_mem _ hy))]
theorem plain1_or {a:AV} (h:a.plain1=true):a.flat=true∨∃cs,a=.agg cs∧∀x∈cs,AV.flat x=true:=by
 cases a <;> first | exact .inr ⟨_,rfl,allB_true.1 h⟩ | exact .inl h
theorem plain_or {a:AV} (h:a.plain=true):a.plain1=true∨∃cs,a=.tup cs∧∀x∈cs,AV.plain1 x=true:=by
 cases a <;> first | exact .inr ⟨_,rfl,allB_true.1 h⟩ | exact .inl h
theorem imm_plain1 {a:AV} (h:a.plain1=true) (d:Nat) (H:Heap):toImm (d + 2) H a=some a:=by
 rcases plain1_or h with h | ⟨cs,rfl,h'⟩
 ·exact imm_flat h (d + 1) H
 ·rw [toImm_agg,mapO_flat h']
theorem mapO_plain1 {cs:List AV} (h:∀x∈cs,AV.plain1 x=true) (d:Nat) (H:Heap):mapO (toImm (d + 2) H) cs=some cs:=by
 induction cs with
 |nil=>rfl
 |cons x cs ih=>rw [mapO_cons,imm_plain1 (h x List.mem_cons_self),ih (fun y hy=>h y (List.mem_cons_of_mem _ hy))]
theorem imm_plain {a:AV} (h:a.plain=true) (d:Nat) (H:Heap):toImm (d + 3) H a=some a:=by
 rcases plain_or h with h | ⟨cs,rfl,h'⟩
 ·exact imm_plain1 h (d + 1) H
 ·rw [toImm_tup,mapO_plain1 h']
theorem can_plain {t:TV} {a:AV} (h:Can t a):a.plain=true:=by
 cases h with
 |a ts as hl hf h=>exact allB_true.2 hf
 |tp ts as hl hf h=>exact allB_true.2 hf
 |_=>rfl
theorem el_imm {sz:Nat} {es:List TV} {cs:List AV} (hz:0 < sz) (h:ElR sz es cs) (c:Option Nat):Can (.l es) (.imm cs es.length c):=
 .imm es cs es.length sz c rfl h.len hz h.flat h.el
theorem sl_imm {H:Heap} {sz:Nat} {es:List TV} {a:AV} (h:SlR H sz es a) (d:Nat):∃a',toImm (d + 2) H a=some a'∧Can (.l es) a'∧a'.flat=true∧(a.plain=true→a'=a)∧a.one=true:=by
 obtain ⟨hz,h⟩:=h
 rcases h with ⟨rfl,rfl | rfl⟩ | ⟨id,g,b,cells,rfl,hH,hb,he⟩
 ·exact ⟨_,rfl,.nil,rfl,fun _=>rfl,rfl⟩
 ·exact ⟨_,rfl,can_nil1,rfl,fun _=>rfl,rfl⟩
 ·have hl:cells.length=b + es.length*sz:=by have:=he.len;rw [List.length_drop] at this;omega
  refine ⟨.imm (cells.drop b) es.length none,?_,el_imm hz he _,rfl,(fun hp=>by cases hp),rfl⟩
  rw [toImm_ref,hH]
  simp only [cond_eq_ite,Nat.beq_eq,if_pos]
  have:cut cells b (Nat.mul es.length sz)=some (cells.drop b):=by
   rw [cut_eq,if_pos (by show b + es.length*sz≤_;omega),List.take_of_length_le]
   rw [List.length_drop];show _≤es.length*sz;omega
  rw [this]
  simp only [mapO_flat he.flat]
theorem slOf_sim {A:Tok} {V:VSt} {st:St} (h:R A V st) {w:VV} {x:AV} {k:List TV→Prop} (hv:SlV A w x) (hk:slOf V w k) (d:Nat) :
  ∃es a',toImm (d + 2) st.H x=some a'∧Can (.l es) a'∧a'.flat=true∧(x.plain=true→a'=x)∧k es:=by
 cases w <;> first | (cases hk;done) | skip
 ·refine ⟨[],x,?_,?_,?_,fun _=>rfl,hk⟩ <;> rcases hv with rfl | rfl <;> first | rfl | exact .nil | exact can_nil1
 ·rename_i O
  simp only [slOf] at hk
  split at hk
  ·rename_i sz es ho
   obtain ⟨a,h1,h2⟩:=h.heap O _ ho
   have hv':A O=some x:=hv
   rw [hv'] at h1;cases h1
   obtain ⟨a',h3,h4,h5,h6,_⟩:=sl_imm h2 d
   exact ⟨es,a',h3,h4,h5,h6,hk⟩
  ·cases hk
theorem slOf_ex {V:VSt} {w:VV} {k:List TV→Prop} (hk:slOf V w k):∃es,k es:=by
 unfold slOf at hk
 split at hk
 ·split at hk
  ·exact ⟨_,hk⟩
  ·cases hk
 ·exact ⟨_,hk⟩
 ·cases hk
theorem putT_a {l:List TV} {off n:Nat} {x u:TV} (h:putT (.a l) off n x=some u):∃l',u=.a l':=by
 unfold putT at h
 split at h
 ·cases h
 ·rw [cond_eq_ite] at h
  split at h
  ·simp only at h
   split at h
   ·cases h;exact ⟨_,rfl⟩
   ·cases h
  ·cases h
theorem toTs_sim {A:Tok} {V:VSt} {st:St} (h:R A V st) (d:Nat):∀(ovs:List (Nat×VV)) (P:Nat→Prop) (v:TV) (ts:List TV) (cs:List AV) (k:TV→Prop),cellsT v=some ts→ts.length=cs.length→
  (∀j t x,P j→ts[j]?=some t→cs[j]?=some x→match ovAt j ovs with | none=>True | some w=>SlV A w x)→toTs V ovs v k→
  ∃u us,cellsT u=some us∧us.length=ts.length∧k u∧(∀l,v=.a l→∃l',u=.a l')∧
   ∀j u' x,P j→us[j]?=some u'→cs[j]?=some x→match ovAt j ovs with | none=>ts[j]?=some u' | some w=>∃a',toImm (d + 2) st.H x=some a'∧Can u' a'∧a'.flat=true∧(x.plain=true→a'=x)
 |[],P,v,ts,cs,k,hc,hl,ho,hk=>⟨v,ts,hc,rfl,hk,fun l e=>⟨l,e⟩,fun j u' x _ hu hx=>hu⟩
 |(off,w) :: r,P,v,ts,cs,k,hc,hl,ho,hk=>by
  obtain ⟨u,us,h1,h2,h3,h4,h5⟩:=toTs_sim h d r (fun j=>P j∧j≠off) v ts cs _ hc hl (fun j t x hp ht hx=>by
   have:=ho j t x hp.1 ht hx
   rwa [ovAt_cons,if_neg (Ne.symm hp.2)] at this) hk
  by_cases hoff:P off∧off < ts.length
  ·obtain ⟨hP,hlt⟩:=hoff
   have hx:cs[off]?=some (cs[off]'(by omega)):=List.getElem?_eq_getElem _
   have ht:ts[off]?=some ts[off]:=List.getElem?_eq_getElem _
   have hsl:=ho off _ _ hP ht hx
   rw [ovAt_cons,if_pos rfl] at hsl
   obtain ⟨es,a',g1,g2,g3,g4,u',g5,g6⟩:=slOf_sim h hsl h3 d
   obtain ⟨us0,xs,us',p1,p2,p3,p4,p5,p6,p7⟩:=putT_some g5
   rw [h1] at p1;cases p1
   cases p2
   refine ⟨u',us',p4,by omega,g6,fun l e=>?_,fun j q x hp hq hx'=>?_⟩
   ·obtain ⟨l',rfl⟩:=h4 l e
    exact putT_a g5
   ·rw [p7] at hq
    rw [ovAt_cons]
    by_cases e:off=j
    ·subst e
     rw [if_pos (by omega)] at hq
     simp at hq
     rw [if_pos rfl]
     subst hq
     rw [hx'] at hx;cases hx
     exact ⟨a',g1,g2,g3,g4⟩
    ·rw [if_neg (by omega)] at hq
     rw [if_neg e]
     exact h5 j q x ⟨hp,Ne.symm e⟩ hq hx'
  ·obtain ⟨es,u',g5,g6⟩:=slOf_ex h3
   obtain ⟨us0,xs,us',p1,p2,p3,p4,p5,p6,p7⟩:=putT_some g5
   rw [h1] at p1;cases p1
   refine ⟨u',us',p4,by omega,g6,fun l e=>?_,fun j q x hp hq hx'=>?_⟩
   ·obtain ⟨l',rfl⟩:=h4 l e
    exact putT_a g5
   ·rw [p7] at hq
    rw [ovAt_cons]
    by_cases e:off=j
    ·subst e
     exact absurd ⟨hp,by have:=(List.getElem?_eq_some_iff.1 hx').1;omega⟩ hoff
    ·rw [if_neg (by omega)] at hq
     rw [if_neg e]
     exact h5 j q x ⟨hp,Ne.symm e⟩ hq hx'
theorem flat_plain {a:AV} (h:a.flat=true):a.plain=true:=by
 cases a <;> first | rfl | cases h
theorem mapO_of {f:AV→Option AV}:∀{cs:List AV} (P:Nat→AV→AV→Prop),(∀j x,cs[j]?=some x→∃y,f x=some y∧P j x y)→∃l,mapO f cs=some l∧l.length=cs.length∧∀j x y,cs[j]?=some x→l[j]?=some y→P j x y
 |[],P,h=>⟨[],rfl,rfl,fun j x y hx=>by simp at hx⟩
 |x :: cs,P,h=>by
  obtain ⟨y,h1,h2⟩:=h 0 x rfl
  obtain ⟨l,h3,h4,h5⟩:=mapO_of (f:=f) (cs:=cs) (fun j=>P (j + 1)) (fun j x hx=>h (j + 1) x hx)
  refine ⟨y :: l,by rw [mapO_cons,h1,h3],by simp [h4],fun j x' y' hx hy=>?_⟩
  cases j with
  |zero=>simp at hx hy;subst hx;subst hy;exact h2
  |succ j=>exact h5 j x' y' (by simpa using hx) (by simpa using hy)
theorem cells_imm {A:Tok} {V:VSt} {st:St} (h:R A V st) {v:TV} {ovs:List (Nat×VV)} {cs:List AV} {ts:List TV} {k:TV→Prop} (hc:CellsR A v ovs cs ts) (hk:toTs V ovs v k) (d:Nat) :
  ∃u us cs',mapO (toImm (d + 2) st.H) cs=some cs'∧cellsT u=some us∧CanF us cs'∧k u∧(∀l,v=.a l→∃l',u=.a l')∧((∀x∈cs,AV.flat x=true)→cs'=cs):=by
 obtain ⟨u,us,h1,h2,h3,h4,h5⟩:=toTs_sim h d ovs (fun _=>True) v ts cs k hc.cells hc.len (fun j t x _ ht hx=>by
  have:=hc.at_ j t x ht hx
  unfold CellR at this
  cases ho:ovAt j ovs with
  |none=>trivial
  |some w=>rw [ho] at this;exact this) hk
 obtain ⟨cs',g1,g2,g3⟩:=mapO_of (f:=toImm (d + 2) st.H) (cs:=cs) (fun j x y=>∀u',us[j]?=some u'→Can u' y∧y.flat=true∧(x.flat=true→y=x)) (fun j x hx=>by
  have hlt:j < us.length:=by rw [h2,hc.len];exact (List.getElem?_eq_some_iff.1 hx).1
  have hu:us[j]?=some us[j]:=List.getElem?_eq_getElem _
  have hp:=h5 j _ x trivial hu hx
  cases ho:ovAt j ovs with
  |none=>
   rw [ho] at hp
   have hq:=hc.at_ j _ x hp hx
   rw [ho] at hq
   exact ⟨x,imm_flat hq.2 (d + 1) st.H,fun u' hu'=>by rw [hu] at hu';cases hu';exact ⟨hq.1,hq.2,fun _=>rfl⟩⟩
  |some w=>
   rw [ho] at hp
   obtain ⟨a',p1,p2,p3,p4⟩:=hp
   exact ⟨a',p1,fun u' hu'=>by rw [hu] at hu';cases hu';exact ⟨p2,p3,fun hf=>p4 (flat_plain hf)⟩⟩)
 have hlen:us.length=cs'.length:=by rw [g2,h2,hc.len]
 have both:∀j y,cs'[j]?=some y→∃x u',cs[j]?=some x∧us[j]?=some u':=fun j y hy=>by
  have hlt:=(List.getElem?_eq_some_iff.1 hy).1
  exact ⟨cs[j]'(by omega),us[j]'(by omega),List.getElem?_eq_getElem _,List.getElem?_eq_getElem _⟩
 refine ⟨u,us,cs',g1,h1,⟨⟨hlen,fun j t y ht hy=>?_⟩,fun y hy=>?_⟩,h3,h4,fun hf=>?_⟩
 ·obtain ⟨x,u',hx,hu⟩:=both j y hy
  exact (g3 j x y hx hy t ht).1
 ·obtain ⟨j,hj⟩:=List.getElem?_of_mem hy
  obtain ⟨x,u',hx,hu⟩:=both j y hj
  exact (g3 j x y hx hj u' hu).2.1
 ·apply List.ext_getElem?
  intro j
  cases hy:cs'[j]? with
  |none=>
   rw [List.getElem?_eq_none_iff] at hy
   exact (List.getElem?_eq_none_iff.2 (by omega)).symm
  |some y=>
   obtain ⟨x,u',hx,hu⟩:=both j y hy
   rw [hx,(g3 j x y hx hy u' hu).2.2 (hf x (List.mem_of_getElem? hx))]
theorem toT_sim {A:Tok} {V:VSt} {st:St} (h:R A V st) {w:VV} {a:AV} {k:TV→Prop} (hv:VR A w a) (hk:toT V w k) (d:Nat) :
  ∃t a',toImm (d + 3) st.H a=some a'∧Can t a'∧(a.plain=true→a'=a)∧k t:=by
 cases hv <;> first | (cases hk;done) | skip
 ·rename_i v hc;exact ⟨v,a,imm_plain (can_plain hc) d _,hc,fun _=>rfl,hk⟩
 ·exact ⟨_,_,rfl,.nil,fun _=>rfl,hk⟩
 ·exact ⟨_,_,rfl,can_nil1,fun _=>rfl,hk⟩
 ·rename_i O hO
  obtain ⟨es,a',h1,h2,h3,h4,h5⟩:=slOf_sim h (w:=.sl O) (x:=a) hO hk (d + 1)
  exact ⟨_,a',h1,h2,h4,h5⟩
 ·rename_i v ovs cs ts hv hc
  obtain ⟨u,us,cs',h1,h2,h3,h4,h5,h6⟩:=cells_imm h hc hk d
  obtain ⟨l',rfl⟩:=h5 _ hv
  cases h2
  refine ⟨_,.agg cs',by rw [toImm_agg,h1],.a _ _ h3.1.1 h3.2 h3.1.2,fun hp=>?_,h4⟩
  rw [h6 (allB_true.1 hp)]
theorem nilsB_at:∀{ovs:List (Nat×VV)},nilsB ovs=true→∀j w,ovAt j ovs=some w→w=.nil0
 |[],h,j,w,hj=>by simp [ovAt] at hj
 |(i,x) :: r,h,j,w,hj=>by
  cases x <;> first | (cases h;done) | skip
  rw [ovAt_cons] at hj
  split at hj
  ·cases hj;rfl
  ·exact nilsB_at (ovs:=r) h j w hj
theorem cells_plain {A:Tok} {v:TV} {ovs:List (Nat×VV)} {cs:List AV} {ts:List TV} (hc:CellsR A v ovs cs ts) (h:nilsB ovs=true):(AV.agg cs).plain=true:=by
 refine allB_true.2 (fun x hx=>?_)
 obtain ⟨j,hj⟩:=List.getElem?_of_mem hx
 have hlt:j < ts.length:=by rw [hc.len];exact (List.getElem?_eq_some_iff.1 hj).1
 have:=hc.at_ j _ x (List.getElem?_eq_getElem hlt) hj
 cases ho:ovAt j ovs with
 |none=>rw [ho] at this;exact this.2
 |some w=>
  rw [ho] at this
  have hw:=nilsB_at h j w ho
  subst hw
  rcases this with rfl | rfl <;> rfl
theorem argsK_sim {A:Tok} {V:VSt} {st:St} {g:G} (h:R A V st) (ha:act g):∀(xs:List Opd) (k:Bool→List TV→Prop),argsK V g xs k→
  ∃p ts as',k p ts∧mapO (toImm deep st.H) (xs.map (ev st.env))=some as'∧CanL ts as'∧(allB AV.plain (xs.map (ev st.env))=true→as'=xs.map (ev st.env))∧(p=true→allB AV.plain (xs.map (ev st.env))=true)
 |[],k,hk=>⟨true,[],[],hk,rfl,⟨rfl,fun j t x ht=>by simp at ht⟩,fun _=>rfl,fun _=>rfl⟩
 |x :: xs,k,hk=>by
  obtain ⟨w,hw,hk⟩:=rdK_sim h ha hk
  have fin:∀(t:TV) (a':AV) (kk:Bool→List TV→Prop) (q:Bool),toImm deep st.H (ev st.env x)=some a'→Can t a'→((ev st.env x).plain=true→a'=ev st.env x)→(q=true→(ev st.env x).plain=true)→
    argsK V g xs kk→(∀p vs,kk p vs→k (q&&p) (t :: vs))→
    ∃p ts as',k p ts∧mapO (toImm deep st.H) ((x :: xs).map (ev st.env))=some as'∧CanL ts as'∧(allB AV.plain ((x :: xs).map (ev st.env))=true→as'=(x :: xs).map (ev st.env))∧(p=true→allB AV.plain ((x :: xs).map (ev st.env))=true):=by
   intro t a' kk q h1 h2 h3 hq h4 h5
   obtain ⟨p,ts,as',g1,g2,g3,g4,g5⟩:=argsK_sim h ha xs kk h4
   refine ⟨q&&p,t :: ts,a' :: as',h5 _ _ g1,?_,⟨by simp [g3.1],fun j u y hu hy=>?_⟩,fun hp=>?_,fun hp=>?_⟩
   ·rw [List.map_cons,mapO_cons,h1,g2]
   ·cases j with
    |zero=>simp at hu hy;subst hu;subst hy;exact h2
    |succ j=>exact g3.2 j u y (by simpa using hu) (by simpa using hy)
   ·rw [List.map_cons] at hp ⊢
    have hp':=allB_true.1 hp
    rw [h3 (hp' _ List.mem_cons_self),g4 (allB_true.2 fun y hy=>hp' y (List.mem_cons_of_mem _ hy))]
   ·rw [Bool.and_eq_true] at hp
    rw [List.map_cons,allB_true]
    intro y hy
    rcases List.mem_cons.1 hy with rfl | hy
    ·exact hq hp.1
    ·exact allB_true.1 (g5 hp.2) y hy
  generalize ev st.env x=a at hw fin
  have tree:∀{t:TV},Can t a→argsK V g xs (fun p vs=>k p (t :: vs))→_:=fun {t} hc hk=>
   fin t a _ true (imm_plain (can_plain hc) 27 _) hc (fun _=>rfl) (fun _=>can_plain hc) hk (fun p vs hh=>by rw [Bool.true_and];exact hh)
  cases hw with
  |tr hc=>exact tree hc hk
  |nil0=>exact tree .nil hk
  |nil1=>exact tree can_nil1 hk
  |sl hO=>
   obtain ⟨t,a',h1,h2,h3,h4⟩:=toT_sim h (.sl hO) hk 27
   exact fin t a' _ false h1 h2 h3 (fun hh=>by cases hh) h4 (fun p vs hh=>hh)
  |@st v ovs cs ts hv hc=>
   obtain ⟨t,a',h1,h2,h3,h4⟩:=toT_sim h (.st hv hc) hk 27
   exact fin t a' _ (nilsB ovs) h1 h2 h3 (fun hh=>cells_plain hc hh) h4 (fun p vs hh=>hh)
  |_=>cases hk
end Go.Ax.V

set_option linter.unusedSimpArgs false
set_option linter.unusedVariables false
namespace Go.Ax.V
section
variable {prog:Map AFunc} {cf:FnF} {nt:Nat} {A:Tok} {V:VSt} {st:St} {d:Option Nat} {g:G} {k:VSt→Prop}
def Sim (cf:FnF) (nt:Nat) (A:Tok) (V:VSt) (st:St) (d:Option Nat) (op:AOp) (k:VSt→Prop):Prop:=
 ∃v H' nx',doOp cf op (ev st.env) st.H st.nx=some (v,H',nx')∧Next nt A V st d v H' nx' k
theorem sim_val {op:AOp} {p:(Opd→AV)→Option Plan} {v:AV} (hk:kind op=.plan p) (hp:p (ev st.env)=some (.val v)) (h:Next nt A V st d v st.H st.nx k):Sim cf nt A V st d op k:=
 ⟨v,st.H,st.nx,by simp only [doOp,hk,hp,runPlan],h⟩
theorem sim_new {op:AOp} {p:(Opd→AV)→Option Plan} {f:Nat→AV} {ob:AObj} (hk:kind op=.plan p) (hp:p (ev st.env)=some (.new f ob)) (h:Next nt A V st d (f st.nx) (st.H.put (some ob) st.nx) (st.nx + 1) k):Sim cf nt A V st d op k:=
 ⟨_,_,_,by simp only [doOp,hk,hp,runPlan],h⟩
theorem o_mv (hR:R A V st) (ha:act g) {x:Opd} (h:rdK V g x fun w=>evMv nt V d g w k):Sim cf nt A V st d (.mv x) k:=by
 obtain ⟨w,hw,hk⟩:=rdK_sim hR ha h
 refine sim_val rfl rfl ?_
 generalize ev st.env x=a at hw
 cases hw with
 |bad=>cases hk
 |tr hc=>
  cases g with
  |none=>exact putV_tree hR (fun _=>.tr hc) hk
  |some p=>
   obtain ⟨r,h1,h2⟩:=resV_next hR ha hk
   cases h1
   exact h2 _ hc
 |nil0=>exact putV_tree hR (fun _=>.nil0) hk
 |nil1=>exact putV_tree hR (fun _=>.nil1) hk
 |ptr h=>exact putV_tree hR (fun _=>.ptr h) hk
 |pd h=>exact putV_tree hR (fun _=>.pd h) hk
 |sl h=>exact putV_tree hR (fun _=>.sl h) hk
 |ea h=>exact putV_tree hR (fun _=>.ea h) hk
 |pt hl hf h=>exact putV_tree hR (fun _=>.pt hl hf h) hk
 |st hv h=>exact putV_tree hR (fun _=>.st hv h) hk
theorem pickT_some {c a b r:TV} {x y z:AV} (h:pickT c a b=some r) (hc:Can c x) (ha:Can a y) (hb:Can b z):∃t,x=.bool t∧Can r (match t with | true=>y | false=>z):=by
 unfold pickT at h
 split at h
 ·rename_i t
  cases hc
  exact ⟨t,rfl,by cases t <;> (cases h;assumption)⟩
 ·cases h
theorem o_pick (hR:R A V st) (ha:act g) {c a b:Opd} (h:rdT V g c fun c=>rdT V g a fun a=>rdT V g b fun b=>resV nt V d g (pickT c a b) k):Sim cf nt A V st d (.pick c a b) k:=by
 obtain ⟨c',h1,h⟩:=rdT_sim hR ha h
 obtain ⟨a',h2,h⟩:=rdT_sim hR ha h
 obtain ⟨b',h3,h⟩:=rdT_sim hR ha h
 obtain ⟨r,h4,h5⟩:=resV_next hR ha h
 obtain ⟨t,e,h6⟩:=pickT_some h4 h1 h2 h3
 cases t with
 |true=>exact sim_val rfl (by simp only [pPick,e]) (h5 _ h6)
 |false=>exact sim_val rfl (by simp only [pPick,e]) (h5 _ h6)
theorem o_alloc (hR:R A V st) {zero:List AV} (h:match allB constOk zero with
   |true=>newV nt V d g (fun O=>.ptr O 0) (.ob (.a (basesOf zero)) (nilsAt 0 zero)) k
   |false=>False):Sim cf nt A V st d (.alloc zero) k:=by
 split at h
 ·rename_i hc
  exact sim_new rfl rfl (fresh_next hR h (fun A' hA=>⟨_,_,_,rfl,by rw [Map.get_put,if_pos rfl],cells_const A' hc⟩) rfl rfl (fun A' O hO=>.ptr hO))
 ·cases h
theorem isTp_cells {v:TV} (h:v.isTp=false):∃ts,cellsT v=some ts:=by
 cases v <;> first | exact ⟨_,rfl⟩ | cases h
theorem o_box (hR:R A V st) (ha:act g) {x:Opd} (h:rdK V g x fun w=>match stOf w with
  |some (v,o)=>v.isTp=false∧newV nt V d g (fun O=>.ptr O 0) (.ob v o) k
  |none=>False):Sim cf nt A V st d (.box x) k:=by
 obtain ⟨w,hw,hk⟩:=rdK_sim hR ha h
 split at hk
 ·rename_i v o hs
  obtain ⟨ht,hk⟩:=hk
  obtain ⟨ts,hts⟩:=isTp_cells ht
  obtain ⟨as,h1,h2⟩:=vr_cells hR.one hw hs hts
  exact sim_new (f:=fun id=>.ptr id 0 0) (ob:=.row 0 as) rfl (by simp only [pBox,h1]) (fresh_next hR hk (fun A' hA=>⟨_,_,_,rfl,by rw [Map.get_put,if_pos rfl],h2.mono hA⟩) rfl rfl (fun A' O hO=>.ptr hO))
 ·cases hk
theorem fill_cons' (ρ:Opd→AV) (p:Nat×Nat×Opd) (r:List (Nat×Nat×Opd)) (cells:List AV):fill ρ (p :: r) cells=match (ρ p.2.2).cells? with
  |none=>none
  |some cs=>bif Nat.beq cs.length p.2.1 then match over cells p.1 cs with
    |some cells=>fill ρ r cells
    |none=>none
   else none:=rfl
theorem partsK_sim (hR:R A V st) (ha:act g):∀(parts:List (Nat×Nat×Opd)) (v:TV) (ovs:List (Nat×VV)) (cs:List AV) (ts:List TV) (k:TV→List (Nat×VV)→Prop),CellsR A v ovs cs ts→v=.a ts→partsK V g parts v ovs k→
  ∃v' ovs' cs' ts',fill (ev st.env) parts cs=some cs'∧CellsR A v' ovs' cs' ts'∧v'=.a ts'∧k v' ovs'
 |[],v,ovs,cs,ts,k,hc,hv,hk=>⟨v,ovs,cs,ts,rfl,hc,hv,hk⟩
 |(off,n,x) :: r,v,ovs,cs,ts,k,hc,hv,hk=>by
  obtain ⟨w,hw,hk⟩:=rdK_sim hR ha hk
  split at hk
  ·rename_i t o hs
   obtain ⟨u,hp,hk⟩:=hk
   obtain ⟨_,xs,_,_,hxs,_⟩:=putT_some hp
   obtain ⟨as,h1,h2⟩:=vr_cells hR.one hw hs hxs
   obtain ⟨hn,cs',us,h3,h4,h5⟩:=cells_put hc h2 hp
   obtain ⟨l',rfl⟩:=h5 _ hv
   have:=h4.cells
   cases this
   obtain ⟨v',ovs',cs'',ts',g1,g2,g3,g4⟩:=partsK_sim hR ha r _ _ cs' _ k h4 rfl hk
   refine ⟨v',ovs',cs'',ts',?_,g2,g3,g4⟩
   rw [fill_cons']
   simp only [h1,cond_eq_ite,Nat.beq_eq,if_pos hn,h3,g1]
  ·cases hk
theorem vr_mk {v:TV} {ovs:List (Nat×VV)} {cs:List AV} {ts:List TV} (h:CellsR A v ovs cs ts) (hv:v=.a ts):VR A (mkSt v ovs) (.agg cs):=by
 cases ovs with
 |nil=>
  subst hv
  refine .tr (.a _ _ h.len (fun x hx=>?_) (fun j t x ht hx=>(h.at_ j t x ht hx).1))
  obtain ⟨j,hj⟩:=List.getElem?_of_mem hx
  have hlt:j < ts.length:=by rw [h.len];exact (List.getElem?_eq_some_iff.1 hj).1
  exact (h.at_ j _ x (List.getElem?_eq_getElem hlt) hj).2
 |cons p r=>exact .st hv h
theorem o_build (hR:R A V st) {zero:List AV} {parts:List (Nat×Nat×Opd)} (h:match allB constOk zero with
   |true=>partsK V none parts (.a (basesOf zero)) (nilsAt 0 zero) fun v ovs=>putV nt V d none (mkSt v ovs) k
   |false=>False):Sim cf nt A V st d (.build zero parts) k:=by
 split at h
 ·rename_i hc
  obtain ⟨v',ovs',cs',ts',h1,h2,h3,h4⟩:=partsK_sim (g:=none) hR trivial parts _ _ zero _ _ (cells_const A hc) rfl h
  exact sim_val rfl (by simp only [pBuild,h1]) (putV_tree hR (fun _=>vr_mk h2 h3) h4)
 ·cases h
theorem cells_flat {v:TV} {cs:List AV} {ts:List TV} (h:CellsR A v [] cs ts):∀x∈cs,AV.flat x=true:=fun x hx=>by
 obtain ⟨j,hj⟩:=List.getElem?_of_mem hx
 have hlt:j < ts.length:=by rw [h.len];exact (List.getElem?_eq_some_iff.1 hj).1
 exact (h.at_ j _ x (List.getElem?_eq_getElem hlt) hj).2
theorem cells_bases {cs:List AV} (h:allB constOk cs=true):CellsR A (.a (basesOf cs)) [] cs (basesOf cs):=by
 refine ⟨rfl,bases_len cs,fun j w hw=>(by cases hw),fun j t x ht hx=>?_⟩
 have hm:x∈cs:=List.mem_of_getElem? hx
 rw [bases_at,hx] at ht
 cases ht
 exact base_can (allB_true.1 h x hm)
theorem rdPs_sim (hR:R A V st) (ha:act g):∀(parts:List (Nat×Nat×Opd)) (k:List (Nat×Nat×TV)→Prop),rdPs V g parts k→
  ∃l,k l∧∀(v v':TV) (cs:List AV) (ts:List TV),CellsR A v [] cs ts→v=.a ts→partsO l v=some v'→∃cs' ts',fill (ev st.env) parts cs=some cs'∧CellsR A v' [] cs' ts'∧v'=.a ts'
 |[],k,hk=>⟨[],hk,fun v v' cs ts hc hv hp=>by cases hp;exact ⟨cs,ts,rfl,hc,hv⟩⟩
 |(off,n,x) :: r,k,hk=>by
  obtain ⟨t,ht,hk⟩:=rdT_sim hR ha hk
  obtain ⟨l,hl,hf⟩:=rdPs_sim hR ha r _ hk
  refine ⟨_,hl,fun v v' cs ts hc hv hp=>?_⟩
  simp only [partsO] at hp
  split at hp
  ·rename_i u hu
   obtain ⟨_,xs,_,_,hxs,_⟩:=putT_some hu
   obtain ⟨as,h1,h2⟩:=vr_cells hR.one (.tr ht) (w:=.tr t) rfl hxs
   obtain ⟨hn,cs',us,h3,h4,h5⟩:=cells_put hc h2 hu
   obtain ⟨l',rfl⟩:=h5 _ hv
   have:=h4.cells
   cases this
   obtain ⟨cs'',ts',g1,g2,g3⟩:=hf _ v' cs' _ h4 rfl hp
   refine ⟨cs'',ts',?_,g2,g3⟩
   rw [fill_cons']
   simp only [h1,cond_eq_ite,Nat.beq_eq,if_pos hn,h3,g1]
  ·cases hp
theorem o_buildg (hR:R A V st) (ha:act g) {zero:List AV} {parts:List (Nat×Nat×Opd)} (h:match allB constOk zero with
   |true=>rdPs V g parts fun l=>resV nt V d g (partsO l (.a (basesOf zero))) k
   |false=>False):Sim cf nt A V st d (.build zero parts) k:=by
 split at h
 ·rename_i hc
  obtain ⟨l,hl,hf⟩:=rdPs_sim hR ha parts _ h
  obtain ⟨v,h1,h2⟩:=resV_next hR ha hl
  obtain ⟨cs',ts',g1,g2,rfl⟩:=hf _ v zero _ (cells_bases hc) rfl h1
  refine sim_val rfl (by simp only [pBuild,g1]) (h2 _ (.a _ _ g2.len (cells_flat g2) (fun j t x ht hx=>(g2.at_ j t x ht hx).1)))
 ·cases h
theorem look_eq (H:Heap) (nx:Nat) {id g off n:Nat} {cells cs:List AV} (hH:H.get id=some (.row g cells)) (hc:cut cells off n=some cs) (kk:List AV→Option AObj→Option Out) (v:AV) (hk:kk cs none=some ⟨fun _=>v,none,none⟩) :
  runPlan (.look (some ⟨id,g,off,n⟩) none kk) H nx=some (v,H,nx):=by
 simp only [runPlan,runLook,fetch,hH,cond_eq_ite,Nat.beq_eq,if_pos,hc,fetchO,hk,setO]
theorem sim_look {op:AOp} {p:(Opd→AV)→Option Plan} (hk:kind op=.plan p) {id gg off n:Nat} {cells cs:List AV} {kk:List AV→Option AObj→Option Out} {v:AV} (hp:p (ev st.env)=some (.look (some ⟨id,gg,off,n⟩) none kk))
  (hH:st.H.get id=some (.row gg cells)) (hc:cut cells off n=some cs) (hkk:kk cs none=some ⟨fun _=>v,none,none⟩) (h:Next nt A V st d v st.H st.nx k):Sim cf nt A V st d op k:=
 ⟨v,st.H,st.nx,by simp only [doOp,hk,hp];exact look_eq _ _ hH hc _ _ hkk,h⟩
theorem load_ptr {sz:Option Nat} {a:Opd} {id gg off:Nat} {cells l:List AV} {v:AV} (he:ev st.env a=.ptr id gg off) (hH:st.H.get id=some (.row gg cells)) (hc:cut cells off (loadA sz)=some l) (hm:mkv sz l=some v)
  (h:Next nt A V st d v st.H st.nx k):Sim cf nt A V st d (.load sz a) k:=
 sim_look (cs:=l) (v:=v) (kk:=fun cs _=>match mkv sz cs with | some v=>some ⟨fun _=>v,none,none⟩ | none=>none) rfl (by simp only [pLoad,he];rfl) hH hc (by simp only [hm]) h
theorem cell_cut {cs:List AV} {off:Nat} {x:AV} (h:cs[off]?=some x):cut cs off 1=some [x]:=by
 obtain ⟨hlt,hx⟩:=List.getElem?_eq_some_iff.1 h
 rw [cut_eq,if_pos (by omega),List.drop_eq_getElem_cons hlt,hx]
 rfl
theorem cells_ld {v:TV} {ovs:List (Nat×VV)} {cs:List AV} {ts:List TV} (hc:CellsR A v ovs cs ts) {off:Nat} {r:TV} (h:cellT v off=some r) (ho:ovAt off ovs=none):∃x,cut cs off 1=some [x]∧Can r x∧x.flat=true:=by
 obtain ⟨ts',h1,h2⟩:=cellT_some h
 have:=hc.cells.symm.trans h1;cases this
 have hlt:off < cs.length:=by rw [←hc.len];exact (List.getElem?_eq_some_iff.1 h2).1
 have hx:cs[off]?=some cs[off]:=List.getElem?_eq_getElem hlt
 have:=hc.at_ _ _ _ h2 hx
 rw [ho] at this
 exact ⟨_,cell_cut hx,this⟩
theorem cells_sub {v:TV} {ovs:List (Nat×VV)} {cs:List AV} {ts:List TV} (hc:CellsR A v ovs cs ts) {off n:Nat} {r:TV} (h:subT v off n=some r) :
  ∃l ls,cut cs off n=some l∧r=.a ls∧CellsR A r (ovSub off n ovs) l ls:=by
 obtain ⟨ts',h0,h1,hl,rfl⟩:=subT_some h
 have:=hc.cells.symm.trans h1;cases this
 refine ⟨(cs.drop off).take n,_,by rw [cut_eq,if_pos (by rw [←hc.len];exact hl)],rfl,⟨rfl,?_,fun j w hj=>?_,fun j t x ht hx=>?_⟩⟩
 ·have:=hc.len;simp [this]
 ·rw [ovAt_sub] at hj
  split at hj
  ·rename_i hj'
   have:=hc.keys _ _ hj
   simp only [List.length_take,List.length_drop];omega
  ·cases hj
 ·simp only [List.getElem?_take,List.getElem?_drop] at ht hx
  split at ht
  ·rename_i hj
   rw [if_pos hj] at hx
   rw [ovAt_sub,if_pos hj,Nat.add_comm]
   exact hc.at_ _ _ _ ht hx
  ·cases ht
theorem sub_tree {r:TV} {l:List AV} {ls:List TV} (h:CellsR A r [] l ls) (hr:r=.a ls):Can r (.agg l):=by
 have:=vr_mk h hr
 cases this
 assumption
theorem o_load (hR:R A V st) (ha:act g) {sz:Option Nat} {a:Opd} (h:rdK V g a fun w=>evLoad nt V d g sz w k):Sim cf nt A V st d (.load sz a) k:=by
 obtain ⟨w,hw,hk⟩:=rdK_sim hR ha h
 generalize he:ev st.env a=x at hw
 cases hw <;> first | (cases hk;done) | skip
 ·rename_i O off id hO
  simp only [evLoad] at hk
  split at hk
  ·rename_i v ovs hv
   obtain ⟨y,hy,id',cs,ts,rfl,hH,hc⟩:=hR.heap O _ hv
   rw [hO] at hy;cases hy
   split at hk
   ·split at hk
    ·rename_i w hw
     have hlt:=hc.keys _ _ hw
     have hx:cs[off]?=some (cs[off]'(by rw [←hc.len];exact hlt)):=List.getElem?_eq_getElem _
     have hs:=hc.at_ off _ _ (List.getElem?_eq_getElem hlt) hx
     rw [hw] at hs
     refine load_ptr he hH (cell_cut hx) rfl (putV_tree hR (fun _=>?_) hk)
     cases w <;> first | (exact absurd hs (by intro hh;exact hh)) | skip
     ·rcases hs with e | e
      ·rw [e];exact .nil0
      ·rw [e];exact .nil1
     ·exact .sl hs
    ·rename_i ho
     obtain ⟨r,h1,h2⟩:=resV_next hR ha hk
     obtain ⟨x,h3,h4,_⟩:=cells_ld hc h1 ho
     exact load_ptr he hH h3 rfl (h2 _ h4)
   ·rename_i n
    split at hk
    ·rename_i ho
     obtain ⟨r,h1,h2⟩:=resV_next hR ha hk
     obtain ⟨l,ls,h3,h4,h5⟩:=cells_sub hc h1
     rw [ho] at h5
     exact load_ptr he hH h3 rfl (h2 _ (sub_tree h5 h4))
    ·rename_i p r ho
     split at hk
     ·obtain ⟨u,h1,h2⟩:=hk
      obtain ⟨l,ls,h3,h4,h5⟩:=cells_sub hc h1
      rw [ho] at h5
      exact load_ptr he hH h3 rfl (putV_tree hR (fun _=>.st h4 h5) h2)
     ·cases hk
  ·cases hk
 ·rename_i O off id hO
  simp only [evLoad] at hk
  split at hk
  ·rename_i v ovs hv
   split at hk
   rotate_left
   ·cases hk
   obtain ⟨y,hy,id',cs,ts,rfl,hH,hc⟩:=hR.heap O _ hv
   rw [hO] at hy;cases hy
   obtain ⟨r,h1,h2⟩:=resV_next hR ha hk
   have hf:CanF ts cs:=by
    refine ⟨⟨hc.len,fun j t x ht hx=>(hc.at_ j t x ht hx).1⟩,fun x hx=>?_⟩
    obtain ⟨j,hj⟩:=List.getElem?_of_mem hx
    have hlt:j < ts.length:=by rw [hc.len];exact (List.getElem?_eq_some_iff.1 hj).1
    exact (hc.at_ j _ x (List.getElem?_eq_getElem hlt) hj).2
   obtain ⟨l,x,h3,h4,h5⟩:=ldT_can hc.cells hf h1
   exact load_ptr he hH h3 h4 (h2 _ h5)
  ·cases hk
 ·rename_i O i off id gg b z len cap ex hO
  simp only [evLoad] at hk
  split at hk
  ·rename_i z' es hv
   obtain ⟨y,hy,hs⟩:=hR.heap O _ hv
   rw [hO] at hy;cases hy
   obtain ⟨r,h1,h2⟩:=resV_next hR ha hk
   obtain ⟨hz,hs⟩:=hs
   rcases hs with ⟨_,e | e⟩ | ⟨id',g',b',cells,e,hH,hb,hE⟩
   ·cases e
   ·cases e
   ·cases e
    unfold ldE at h1
    split at h1
    ·cases h1
    rename_i e1 he1
    have hlt:i < es.length:=(List.getElem?_eq_some_iff.1 he1).1
    obtain ⟨ts,ht1,ht2⟩:=canC_iff.1 (hE.el i e1 he1)
    obtain ⟨l,x,h3,h4,h5⟩:=ldT_can ht1 ⟨ht2,flat_take hE.flat _ _⟩ h1
    have hl:=hE.len
    rw [List.length_drop] at hl
    obtain ⟨h6,h7⟩:=cut_some h3
    have h8:off + loadA sz≤z:=by simp only [List.length_take] at h6;omega
    have h9:i*z + z≤es.length*z:=by
     have:(i + 1)*z≤es.length*z:=Nat.mul_le_mul_right z hlt
     rwa [Nat.add_mul,Nat.one_mul] at this
    refine load_ptr he hH (l:=l) ?_ h4 (h2 _ h5)
    rw [cut_eq,if_pos (by omega),h7]
    congr 1
    simp only [List.drop_drop,List.drop_take,List.take_take]
    congr 1
    omega
  ·cases hk
 ·rename_i v cs b off n hl hf hcc
  obtain ⟨r,h1,h2⟩:=resV_next hR ha hk
  obtain ⟨ts,ht1,ht2⟩:=canC_iff.1 hcc
  obtain ⟨l,x,h3,h4,h5⟩:=ldT_can ht1 ⟨ht2,flat_take hf _ _⟩ h1
  obtain ⟨h6,h7⟩:=cut_some h3
  have h8:off + loadA sz≤n:=by simp only [List.length_take] at h6;omega
  have hcut:cut cs (b + off) (loadA sz)=some l:=by
   rw [cut_eq,if_pos (by omega),h7]
   congr 1
   simp only [List.drop_drop,List.drop_take,List.take_take]
   congr 1
   omega
  exact sim_val (v:=x) rfl (by simp only [pLoad,he,hcut,h4,pureO]) (h2 _ h5)
end
end Go.Ax.V

set_option linter.unusedSimpArgs false
set_option linter.unusedVariables false
namespace Go.Ax.V
section
variable {prog:Map AFunc} {cf:FnF} {nt:Nat} {A:Tok} {V:VSt} {st:St} {d:Option Nat} {g:G} {k:VSt→Prop}
theorem seg_get {α:Type} (l:List α) (a n j:Nat):((l.drop a).take n)[j]?=if j < n then l[a + j]? else none:=by
 rw [List.getElem?_take,List.getElem?_drop]
theorem mul_lt_seg {i j z:Nat} (h:i < j):i*z + z≤j*z:=by
 have:(i + 1)*z≤j*z:=Nat.mul_le_mul_right z h
 rwa [Nat.add_mul,Nat.one_mul] at this
theorem el_set {z:Nat} {es:List TV} {row row' ce':List AV} {i:Nat} {e e':TV} (hE:ElR z es row) (hi:es[i]?=some e) (hc:CanC e' ce') (hl:ce'.length=z) (hf:∀x∈ce',AV.flat x=true)
  (hl':row'.length=row.length) (hr:∀j,row'[j]?=if i*z≤j∧j < i*z + z then ce'[j - i*z]? else row[j]?):ElR z (es.set i e') row':=by
 have hlt:i < es.length:=(List.getElem?_eq_some_iff.1 hi).1
 refine ⟨by rw [hl',hE.len,List.length_set],fun x hx=>?_,fun j e1 hj=>?_⟩
 ·obtain ⟨q,hq⟩:=List.getElem?_of_mem hx
  rw [hr] at hq
  split at hq
  ·exact hf x (List.mem_of_getElem? hq)
  ·exact hE.flat x (List.mem_of_getElem? hq)
 ·rw [List.getElem?_set] at hj
  by_cases e:i=j
  ·subst e
   rw [if_pos rfl,if_pos hlt] at hj
   cases hj
   have:(row'.drop (i*z)).take z=ce':=by
    apply List.ext_getElem?
    intro q
    rw [seg_get]
    by_cases hq:q < z
    ·rw [if_pos hq,hr,if_pos ⟨by omega,by omega⟩];congr 1;omega
    ·rw [if_neg hq];exact (List.getElem?_eq_none_iff.2 (by omega)).symm
   rw [this];exact hc
  ·rw [if_neg e] at hj
   have:(row'.drop (j*z)).take z=(row.drop (j*z)).take z:=by
    apply List.ext_getElem?
    intro q
    rw [seg_get,seg_get]
    by_cases hq:q < z
    ·rw [if_pos hq,if_pos hq,hr,if_neg]
     rintro ⟨h1,h2⟩
     rcases Nat.lt_or_gt_of_ne e with h | h
     ·have:=mul_lt_seg (z:=z) h;omega
     ·have:=mul_lt_seg (z:=z) h;omega
    ·rw [if_neg hq,if_neg hq]
   rw [this];exact hE.el j e1 hj
theorem store_run {cf:FnF} {sz:Nat} {a x:Opd} {id gg off:Nat} {cells cells' as:List AV} (he:ev st.env a=.ptr id gg off) (hx:(ev st.env x).cells?=some as) (hn:as.length=sz)
  (hH:st.H.get id=some (.row gg cells)) (ho:over cells off as=some cells'):doOp cf (.store sz a x) (ev st.env) st.H st.nx=some (undefA,st.H.put (some (.row gg cells')) id,st.nx):=by
 have hp:kind (.store sz a x)=.plan fun ρ=>pStore ρ sz a x:=rfl
 simp only [doOp,hp,pStore,he,hx,cond_eq_ite,Nat.beq_eq,if_pos hn,runPlan,runLook,fetch,fetchO,hH,rowK,if_pos,ho,setO]
theorem o_store (hR:R A V st) {sz:Nat} {a x:Opd} (h:rdK V none a fun w=>rdK V none x fun x=>evStore V sz w x k):Sim cf nt A V st none (.store sz a x) k:=by
 obtain ⟨w,hw,h⟩:=rdK_sim (g:=none) hR trivial h
 obtain ⟨y,hy,hk⟩:=rdK_sim (g:=none) hR trivial h
 generalize he:ev st.env a=p at hw
 have done:∀(o:VO) {O:Nat} {o0:VO} {id gg off:Nat} {pa:AV} {cells cells' as:List AV},V.H.get O=some o0→A O=some pa→idOf pa=some id→ev st.env a=.ptr id gg off→(ev st.env x).cells?=some as→as.length=sz→
   st.H.get id=some (.row gg cells)→over cells off as=some cells'→OR A (st.H.put (some (.row gg cells')) id) o pa→k (setVO V O o)→Sim cf nt A V st none (.store sz a x) k:=by
  intro o O o0 id gg off pa cells cells' as h1 h2 h3 h4 h5 h6 h7 h8 h9 h10
  obtain ⟨g1,g2⟩:=set_next hR h1 h2 h3 h9
  exact ⟨_,_,_,store_run h4 h5 h6 h7 h8,st.env,rfl,_,A,g1,g2,(fun _ _ h=>h),h10⟩
 cases hw <;> first | (cases hk;done) | skip
 ·rename_i O off id hO
  simp only [evStore] at hk
  split at hk
  ·rename_i v ovs hv
   split at hk
   ·rename_i t o hs
    obtain ⟨u,hp,hk⟩:=hk
    obtain ⟨z,hz,id',cs,ts,rfl,hH,hc⟩:=hR.heap O _ hv
    rw [hO] at hz;cases hz
    obtain ⟨_,xs,_,_,hxs,_⟩:=putT_some hp
    obtain ⟨as,h1,h2⟩:=vr_cells hR.one hy hs hxs
    obtain ⟨hn,cs',us,h3,h4,h5⟩:=cells_put hc h2 hp
    exact done (.ob u (ovAdd off o (ovCut off sz ovs))) hv hO rfl he h1 hn hH h3 ⟨_,cs',us,rfl,by rw [Map.get_put,if_pos rfl],h4⟩ hk
   ·cases hk
  ·cases hk
 ·rename_i O off id hO
  simp only [evStore] at hk
  split at hk
  ·rename_i v ovs hv
   split at hk
   rotate_left
   ·cases hk
   split at hk
   ·rename_i t
    obtain ⟨u,hp,hk⟩:=hk
    obtain ⟨z,hz,id',cs,ts,rfl,hH,hc⟩:=hR.heap O _ hv
    rw [hO] at hz;cases hz
    obtain ⟨_,xs,_,_,hxs,_⟩:=putT_some hp
    obtain ⟨as,h1,h2⟩:=vr_cells hR.one hy rfl hxs
    obtain ⟨hn,cs',us,h3,h4,h5⟩:=cells_put hc h2 hp
    exact done (.ob u []) hv hO rfl he h1 hn hH h3 ⟨_,cs',us,rfl,by rw [Map.get_put,if_pos rfl],h4⟩ hk
   ·cases hk
  ·cases hk
 ·rename_i O i off id gg b z len cap ex hO
  simp only [evStore] at hk
  split at hk
  ·rename_i z' es hv
   split at hk
   ·rename_i t
    obtain ⟨es',hp,hk⟩:=hk
    obtain ⟨y',hy',hs⟩:=hR.heap O _ hv
    rw [hO] at hy';cases hy'
    obtain ⟨hz,hs⟩:=hs
    rcases hs with ⟨_,e | e⟩ | ⟨id',g',b',cells,e,hH,hb,hE⟩
    ·cases e
    ·cases e
    ·cases e
     unfold setE at hp
     split at hp
     ·cases hp
     rename_i e1 he1
     split at hp
     ·rename_i e1' hp'
      cases hp
      have hlt:i < es.length:=(List.getElem?_eq_some_iff.1 he1).1
      obtain ⟨ts,ht1,ht2⟩:=canC_iff.1 (hE.el i e1 he1)
      obtain ⟨_,xs,_,_,hxs,_⟩:=putT_some hp'
      obtain ⟨as,h1,h2⟩:=vr_cells hR.one hy rfl hxs
      have hce:CellsR A e1 [] (((cells.drop b).drop (i*z)).take z) ts:=⟨ht1,ht2.1,fun j w hj=>by simp [ovAt] at hj,fun j t x ht hx=>⟨ht2.2 j t x ht hx,flat_take hE.flat _ _ x (List.mem_of_getElem? hx)⟩⟩
      obtain ⟨hn,ce',us,h3,h4,h5⟩:=cells_put hce h2 hp'
      obtain ⟨hov,hat⟩:=over_at h3
      obtain ⟨hb1,_⟩:=over_some h3
      have hl:=hE.len
      rw [List.length_drop] at hl
      have h9:=mul_lt_seg (z:=z) hlt
      have hz':(((cells.drop b).drop (i*z)).take z).length=z:=by simp only [List.length_take,List.length_drop];omega
      rw [hz'] at hb1 hov
      have hov2:over cells (b + i*z + off) as=some (cells.take (b + i*z + off)++as++cells.drop (b + i*z + off + as.length)):=by rw [over_eq,if_pos (by omega)]
      obtain ⟨hl2,hat2⟩:=over_at hov2
      refine done (.gr z (es.set i e1')) hv hO rfl he h1 hn hH hov2 ⟨hz,.inr ⟨id,gg,b,_,by simp only [List.length_set],by rw [Map.get_put,if_pos rfl],by omega,?_⟩⟩ hk
      refine el_set (ce':=ce') hE he1 (canC_iff.2 ⟨us,h4.cells,h4.len,fun j t x ht hx=>((h4.at_ j t x ht hx):Can t x∧_).1⟩) hov (fun x hx=>?_) (by simp only [List.length_drop];omega) (fun j=>?_)
      ·obtain ⟨q,hq⟩:=List.getElem?_of_mem hx
       have hlq:q < us.length:=by rw [h4.len];exact (List.getElem?_eq_some_iff.1 hq).1
       exact ((h4.at_ q _ x (List.getElem?_eq_getElem hlq) hq):Can _ x∧_).2
      ·rw [List.getElem?_drop,hat2,List.getElem?_drop]
       by_cases hj:i*z≤j∧j < i*z + z
       ·rw [if_pos hj,hat,seg_get,List.getElem?_drop]
        by_cases hq:off≤j - i*z∧j - i*z < off + as.length
        ·rw [if_pos hq,if_pos (by omega)];congr 1;omega
        ·rw [if_neg hq,if_neg (by omega),if_pos (by omega)];congr 1;omega
       ·rw [if_neg hj,if_neg (by omega)]
     ·cases hp
   ·cases hk
  ·cases hk
end
end Go.Ax.V

set_option linter.unusedSimpArgs false
set_option linter.unusedVariables false
namespace Go.Ax.V
section
variable {prog:Map AFunc} {cf:FnF} {nt:Nat} {A:Tok} {V:VSt} {st:St} {d:Option Nat} {g:G} {k:VSt→Prop}
theorem ids_flat {a:AV} (h:a.flat=true) (d:Nat) (H:Heap):idsOf (d + 1) H a=[]:=by
 cases a <;> first | rfl | cases h
theorem ids_flats {cs:List AV} (h:∀x∈cs,AV.flat x=true) (d:Nat) (H:Heap):cs.flatMap (idsOf (d + 1) H)=[]:=by
 rw [List.flatMap_eq_nil_iff];exact fun x hx=>ids_flat (h x hx) d H
theorem ids_plain1 {a:AV} (h:a.plain1=true) (d:Nat) (H:Heap):idsOf (d + 2) H a=[]:=by
 rcases plain1_or h with h | ⟨cs,rfl,h'⟩
 ·exact ids_flat h (d + 1) H
 ·rw [idsOf_agg,ids_flats h']
theorem ids_plain {a:AV} (h:a.plain=true) (d:Nat) (H:Heap):idsOf (d + 3) H a=[]:=by
 rcases plain_or h with h | ⟨cs,rfl,h'⟩
 ·exact ids_plain1 h (d + 1) H
 ·rw [idsOf_tup,List.flatMap_eq_nil_iff];exact fun x hx=>ids_plain1 (h' x hx) d H
theorem ids_sl {H:Heap} {sz:Nat} {es:List TV} {a:AV} (h:SlR H sz es a) (d:Nat):∀id∈idsOf (d + 2) H a,idOf a=some id:=by
 obtain ⟨hz,h⟩:=h
 rcases h with ⟨rfl,rfl | rfl⟩ | ⟨id,g,b,cells,rfl,hH,hb,he⟩
 ·intro id hi;cases hi
 ·intro id hi;cases hi
 ·intro id' hi
  have hl:cells.length=b + es.length*sz:=by have:=he.len;rw [List.length_drop] at this;omega
  have hc:cut cells b (Nat.mul es.length sz)=some (cells.drop b):=by
   rw [cut_eq,if_pos (by show b + es.length*sz≤_;omega),List.take_of_length_le]
   rw [List.length_drop];show _≤es.length*sz;omega
  rw [idsOf_ref,hH] at hi
  simp only [hc,ids_flats he.flat] at hi
  simp at hi
  subst hi;rfl
structure Sub (V V':VSt):Prop where
 env:V'.env=V.env
 us:V'.us=V.us
 H:∀O o,V'.H.get O=some o→V.H.get O=some o
theorem Sub.refl (V:VSt):Sub V V:=⟨rfl,rfl,fun _ _ h=>h⟩
theorem Sub.trans {V V1 V2:VSt} (h:Sub V V1) (h':Sub V1 V2):Sub V V2:=⟨h'.env.trans h.env,h'.us.trans h.us,fun O o hh=>h.H O o (h'.H O o hh)⟩
theorem Sub.own {V V':VSt} (h:Sub V V') {A:Tok} {id:Nat} (ho:Own V' A id):Own V A id:=let ⟨O,o,a,h1,h2,h3⟩:=ho;⟨O,o,a,h.H _ _ h1,h2,h3⟩
theorem Sub.r {V V':VSt} (h:Sub V V') {A:Tok} {st:St} (hR:R A V st):R A V' st:=hR.sub h.env h.us h.H
theorem sub_dropO (V:VSt) (O:Nat):Sub V (dropO V O):=⟨rfl,rfl,fun _ _ h=>(dropO_get h).2⟩
theorem sub_dropVV (V:VSt) (w:VV):Sub V (dropVV V w):=by
 cases w <;> first | exact sub_dropO V _ | exact Sub.refl V
theorem sub_dropOvs:∀(l:List (Nat×VV)) (V:VSt),Sub V (dropOvs V l)
 |[],V=>Sub.refl V
 |(_,w) :: r,V=>(sub_dropVV V w).trans (sub_dropOvs r _)
theorem gone_dropO {V:VSt} {A:Tok} {st:St} (hR:R A V st) {O:Nat} {o:VO} {a:AV} {id:Nat} (hV:V.H.get O=some o) (hA:A O=some a) (hi:idOf a=some id):¬Own (dropO V O) A id:=by
 rintro ⟨O',o',a',h1,h2,h3⟩
 obtain ⟨hne,h1'⟩:=dropO_get h1
 exact hne (hR.inj O' O _ _ a' a id h1' hV h2 hA h3 hi)
theorem ovAt_mem {j:Nat} {w:VV}:∀{l:List (Nat×VV)},ovAt j l=some w→(j,w)∈l
 |[],h=>by cases h
 |(i,w') :: r,h=>by
  rw [ovAt_cons] at h
  split at h
  ·rename_i e;subst e;cases h;exact List.mem_cons_self
  ·exact List.mem_cons_of_mem _ (ovAt_mem h)
theorem gone_ovs:∀{l:List (Nat×VV)} {V:VSt} {O:Nat} {j:Nat},(j,VV.sl O)∈l→(dropOvs V l).H.get O=none
 |(i,w) :: r,V,O,j,h=>by
  have keep:∀{V:VSt},V.H.get O=none→(dropOvs V r).H.get O=none:=fun {V} hn=>by
   cases hh:(dropOvs V r).H.get O with
   |none=>rfl
   |some o=>have:=(sub_dropOvs r V).H O o hh;rw [hn] at this;cases this
  rcases List.mem_cons.1 h with h | h
  ·cases h
   exact keep (by show (V.H.put none O).get O=none;rw [Map.get_put,if_pos rfl])
  ·exact gone_ovs (l:=r) (V:=dropVV V w) h
theorem gone_own {V V':VSt} {A:Tok} {st:St} (hR:R A V st) (hs:Sub V V') {O:Nat} {o:VO} {a:AV} {id:Nat} (hV:V.H.get O=some o) (hA:A O=some a) (hi:idOf a=some id) (hg:V'.H.get O=none):¬Own V' A id:=by
 rintro ⟨O',o',a',h1,h2,h3⟩
 have:=hR.inj O' O _ _ a' a id (hs.H _ _ h1) hV h2 hA h3 hi
 subst this
 rw [hg] at h1;cases h1
noncomputable def rhoF (fz:Bool) (st:St) (x:Opd):AV:=match fz with
 |true=>immρ st.H (ev st.env) x
 |false=>ev st.env x
theorem imm_rho {st:St} {x:Opd} {a':AV} (h:toImm deep st.H (ev st.env x)=some a'):immρ st.H (ev st.env) x=a':=by simp only [immρ,h]
theorem szOk_cells {n:Nat} {t:TV} (h:szOk n t):∃l,cellsT t=some l∧l.length=n:=by
 unfold szOk at h
 split at h
 ·rename_i l hl;exact ⟨l,hl,h⟩
 ·cases h
theorem toTs_there {V:VSt}:∀{l:List (Nat×VV)} {v:TV} {k:TV→Prop},toTs V l v k→∀j O,(j,VV.sl O)∈l→∃z es,V.H.get O=some (.gr z es)
 |[],v,k,h,j,O,hm=>by cases hm
 |(off,w) :: r,v,k,h,j,O,hm=>by
  have ex:∀{l:List (Nat×VV)} {v:TV} {k:TV→Prop},toTs V l v k→∃u,k u:=by
   intro l
   induction l with
   |nil=>intro v k h;exact ⟨v,h⟩
   |cons p l ih=>
    intro v k h
    obtain ⟨off,w⟩:=p
    obtain ⟨u,hu⟩:=ih h
    obtain ⟨es,u',_,hk⟩:=slOf_ex hu
    exact ⟨u',hk⟩
  rcases List.mem_cons.1 hm with hm | hm
  ·cases hm
   obtain ⟨u,hu⟩:∃u,slOf V (.sl O) (fun es=>∃u',putT u off 1 (.l es)=some u'∧k u'):=ex (l:=r) h
   unfold slOf at hu
   split at hu
   ·rename_i heq
    cases heq
    split at hu
    ·rename_i z es ho;exact ⟨z,es,ho⟩
    ·cases hu
   ·rename_i heq;cases heq
   ·rename_i hne _;exact (hne O rfl).elim
  ·exact toTs_there (l:=r) h j O hm
structure ElK (A:Tok) (st:St) (fz:Bool) (sz:Nat) (V:VSt) (j:Nat) (parts:List (Nat×Nat×Opd)) (ts:List TV) (V':VSt):Prop where
 sub:Sub V V'
 len:ts.length=parts.length
 fill:∀cells:List AV,(j + parts.length)*sz≤cells.length→∃cells',fill (rhoF fz st) parts cells=some cells'∧cells'.length=cells.length∧(∀q,q < j*sz→cells'[q]?=cells[q]?)∧
  (∀q,(j + parts.length)*sz≤q→cells'[q]?=cells[q]?)∧(∀q x,j*sz≤q→q < (j + parts.length)*sz→cells'[q]?=some x→x.flat=true)∧∀i t,ts[i]?=some t→CanC t ((cells'.drop ((j + i)*sz)).take sz)
 imm:fz=true→∃l,mapO (toImm deep st.H) (parts.map fun p=>ev st.env p.2.2)=some l
 ids:fz=true→∀id∈(parts.map fun p=>ev st.env p.2.2).flatMap (idsOf deep st.H),Own V A id∧¬Own V' A id
theorem elK_cons {fz:Bool} {sz j off n:Nat} {x:Opd} {r:List (Nat×Nat×Opd)} {V V1 V':VSt} {t:TV} {ts:List TV} {a':AV} {l:List TV} {as:List AV} (hoff:off=j*sz) (hn:n=sz)
  (hrho:rhoF fz st x=a') (hc:cellsT t=some l) (hl:l.length=n) (has:a'.cells?=some as) (hca:CanF l as) (hs:Sub V V1) (him:fz=true→toImm deep st.H (ev st.env x)=some a')
  (hid:fz=true→∀id∈idsOf deep st.H (ev st.env x),Own V A id∧¬Own V1 A id) (h:ElK A st fz sz V1 (j + 1) r ts V'):ElK A st fz sz V j ((off,n,x) :: r) (t :: ts) V':=by
 subst hoff;subst hn
 refine ⟨hs.trans h.sub,by simp [h.len],fun cells hcl=>?_,fun hf=>?_,fun hf id hid'=>?_⟩
 ·rw [List.length_cons] at hcl
  have hal:as.length=n:=by rw [←hca.1.1];exact hl
  have hj1:(j + 1)*n=j*n + n:=by rw [Nat.add_mul,Nat.one_mul]
  have hj2:(j + 1 + r.length)*n=(j + (r.length + 1))*n:=by congr 1;omega
  have hle:(j + 1)*n≤(j + (r.length + 1))*n:=Nat.mul_le_mul_right n (by omega)
  have hov:over cells (j*n) as=some (cells.take (j*n)++as++cells.drop (j*n + as.length)):=by rw [over_eq,if_pos (by omega)]
  obtain ⟨ho1,ho2⟩:=over_at hov
  obtain ⟨cells',g1,g2,g3,g4,gf,g5⟩:=h.fill _ (by rw [ho1];omega)
  refine ⟨cells',?_,by rw [g2,ho1],fun q hq=>?_,fun q hq=>?_,fun q y hq1 hq2 hy=>?_,fun i u hu=>?_⟩
  ·rw [fill_cons']
   simp only [hrho,has,cond_eq_ite,Nat.beq_eq,if_pos hal,hov,g1]
  ·rw [g3 q (by omega),ho2,if_neg (by omega)]
  ·rw [List.length_cons] at hq
   rw [g4 q (by omega),ho2,if_neg (by omega)]
  ·rw [List.length_cons] at hq2
   by_cases hq:q < (j + 1)*n
   ·rw [g3 q hq,ho2,if_pos (by omega)] at hy
    exact hca.2 y (List.mem_of_getElem? hy)
   ·exact gf q y (by omega) (by omega) hy
  ·cases i with
   |zero=>
    simp at hu;subst hu
    have:(cells'.drop (j*n)).take n=as:=by
     apply List.ext_getElem?
     intro q
     rw [seg_get]
     by_cases hq:q < n
     ·rw [if_pos hq,g3 _ (by omega),ho2,if_pos (by omega)];congr 1;omega
     ·rw [if_neg hq];exact (List.getElem?_eq_none_iff.2 (by omega)).symm
    rw [Nat.add_zero,this]
    exact canC_iff.2 ⟨l,hc,hca.1⟩
   |succ i=>
    have:=g5 i u (by simpa using hu)
    rwa [show j + 1 + i=j + (i + 1) by omega] at this
 ·obtain ⟨l',hl'⟩:=h.imm hf
  exact ⟨a' :: l',by rw [List.map_cons,mapO_cons];simp only [him hf,hl']⟩
 ·rw [List.map_cons,List.flatMap_cons,List.mem_append] at hid'
  rcases hid' with hi | hi
  ·obtain ⟨h1,h2⟩:=hid hf id hi
   exact ⟨h1,fun ho=>h2 (h.sub.own ho)⟩
  ·obtain ⟨h1,h2⟩:=h.ids hf id hi
   exact ⟨hs.own h1,h2⟩
theorem elemsK_sim {fz:Bool} {sz:Nat}:∀(parts:List (Nat×Nat×Opd)) (j:Nat) (V:VSt) (k:List TV→VSt→Prop),R A V st→elemsK V none fz sz j parts k→∃ts V',k ts V'∧ElK A st fz sz V j parts ts V'
 |[],j,V,k,hR,hk=>⟨[],V,hk,⟨Sub.refl V,rfl,fun cells _=>⟨cells,rfl,rfl,fun _ _=>rfl,fun _ _=>rfl,fun q x h1 h2=>by simp at h2;omega,fun i t hi=>by simp at hi⟩,fun _=>⟨[],rfl⟩,fun _ id hi=>by simp at hi⟩⟩
 |(off,n,x) :: r,j,V,k,hR,hk=>by
  obtain ⟨h1,hk⟩:=hk
  rw [Bool.and_eq_true,Nat.beq_eq,Nat.beq_eq] at h1
  obtain ⟨hoff,hn⟩:=h1
  obtain ⟨w,hw,hq⟩:=rdK_sim (g:=none) hR trivial hk
  clear hk
  have tree:∀{t:TV} {k':List TV→VSt→Prop},Can t (ev st.env x)→szOk n t→elemsK V none fz sz (j + 1) r k'→(∀ts V',k' ts V'→k (t :: ts) V')→∃ts V',k ts V'∧ElK A st fz sz V j ((off,n,x) :: r) ts V':=by
   intro t k' hc hs hk hkk
   obtain ⟨l,hl1,hl2⟩:=szOk_cells hs
   obtain ⟨as,h1,h2⟩:=can_cells hc hl1
   obtain ⟨ts,V',g1,g2⟩:=elemsK_sim r (j + 1) V k' hR hk
   have him:toImm deep st.H (ev st.env x)=some (ev st.env x):=imm_plain (can_plain hc) 27 _
   refine ⟨t :: ts,V',hkk _ _ g1,elK_cons hoff hn ?_ hl1 hl2 h1 h2 (Sub.refl V) (fun _=>him) (fun _ id hi=>?_) g2⟩
   ·cases fz with
    |true=>exact imm_rho him
    |false=>rfl
   ·have hh:idsOf deep st.H (ev st.env x)=[]:=ids_plain (can_plain hc) 27 _
    rw [hh] at hi
    cases hi
  generalize he:ev st.env x=a at hw
  cases hw with
  |tr hc=>exact tree (he▸hc) hq.1 hq.2 (fun _ _ h=>h)
  |nil0=>exact tree (he▸Can.nil) (by rw [hq.1];rfl) hq.2 (fun _ _ h=>h)
  |nil1=>exact tree (he▸can_nil1) (by rw [hq.1];rfl) hq.2 (fun _ _ h=>h)
  |@sl O _ hO=>
   obtain ⟨rfl,rfl,hk⟩:=hq
   simp only [slOf] at hk
   split at hk
   ·rename_i z es ho
    obtain ⟨y,hy,hs⟩:=hR.heap O _ ho
    rw [hO] at hy;cases hy
    obtain ⟨a',g1,g2,g3,g4,g5⟩:=sl_imm hs 28
    have hsub:Sub V (dropVV V (.sl O)):=sub_dropVV V _
    obtain ⟨ts,V',g6,g7⟩:=elemsK_sim r (j + 1) _ _ (hsub.r hR) hk
    obtain ⟨as,p1,p2⟩:=can_cells (t:=.l es) g2 rfl
    refine ⟨_,V',g6,elK_cons hoff hn (imm_rho (by rw [he];exact g1)) rfl rfl p1 p2 hsub (fun _=>by rw [he];exact g1) (fun _ id hi=>?_) g7⟩
    rw [he] at hi
    have hid:=ids_sl hs 28 id hi
    exact ⟨⟨O,_,a,ho,hO,hid⟩,gone_dropO hR ho hO hid⟩
   ·cases hk
  |@st t o cs tl hv hc=>
   obtain ⟨rfl,hk⟩:=hq
   have hthere:=toTs_there hk
   obtain ⟨u,us,cs',h1,h2,h3,⟨hs,hk⟩,h5,h6⟩:=cells_imm hR hc hk 27
   obtain ⟨l',rfl⟩:=h5 _ hv
   cases h2
   have hsub:Sub V (dropOvs V o):=sub_dropOvs o V
   obtain ⟨ts,V',g6,g7⟩:=elemsK_sim r (j + 1) _ _ (hsub.r hR) hk
   have him:toImm deep st.H (ev st.env x)=some (.agg cs'):=by rw [he];show toImm (29 + 1) _ _=_;rw [toImm_agg,h1]
   refine ⟨_,V',g6,elK_cons hoff hn (imm_rho him) rfl hs rfl h3 hsub (fun _=>him) (fun _ id hi=>?_) g7⟩
   rw [he] at hi
   have hi':id∈cs.flatMap (idsOf 29 st.H):=hi
   obtain ⟨y,hy,hi'⟩:=List.mem_flatMap.1 hi'
   obtain ⟨q,hq⟩:=List.getElem?_of_mem hy
   have hlt:q < tl.length:=by rw [hc.len];exact (List.getElem?_eq_some_iff.1 hq).1
   have hat:=hc.at_ q _ y (List.getElem?_eq_getElem hlt) hq
   cases ho:ovAt q o with
   |none=>
    rw [ho] at hat
    have hh:idsOf 29 st.H y=[]:=ids_flat hat.2 28 _
    rw [hh] at hi';cases hi'
   |some w=>
    rw [ho] at hat
    cases w <;> first | (exact absurd hat (by intro hh;exact hh)) | skip
    ·rcases hat with e | e <;> (rw [e] at hi';cases hi')
    ·rename_i O
     have hO:A O=some y:=hat
     obtain ⟨z,es,hO'⟩:=hthere q O (ovAt_mem ho)
     obtain ⟨y',hy',hs'⟩:=hR.heap O _ hO'
     rw [hO] at hy';cases hy'
     have hidy:=ids_sl hs' 27 id hi'
     exact ⟨⟨O,_,y,hO',hO,hidy⟩,gone_own hR hsub hO' hO hidy (gone_ovs (ovAt_mem ho))⟩
  |_=>cases hq
end
end Go.Ax.V

set_option linter.unusedSimpArgs false
set_option linter.unusedVariables false
namespace Go.Ax.V
section
variable {prog:Map AFunc} {cf:FnF} {nt:Nat} {A:Tok} {V:VSt} {st:St} {d:Option Nat} {g:G} {k:VSt→Prop}
theorem pos_ok {n:Nat} {p:Prop} (h:pos n p):0 < n∧p:=by
 unfold pos at h
 rw [cond_eq_ite] at h
 split at h
 ·rename_i hh;exact ⟨by simpa using hh,h⟩
 ·cases h
theorem same_ok {a b:Nat} {p:Prop} (h:same a b p):a=b∧p:=by
 unfold same at h
 rw [cond_eq_ite] at h
 split at h
 ·rename_i hh;exact ⟨by simpa using hh,h⟩
 ·cases h
theorem drop_get:∀(l:List Nat) (H:Heap) (id:Nat),(drop H l).get id=if id∈l then none else H.get id
 |[],H,id=>by simp [drop]
 |i :: l,H,id=>by
  rw [drop,drop_get l,Map.get_put]
  by_cases h:id∈l
  ·rw [if_pos h,if_pos (List.mem_cons_of_mem _ h)]
  ·rw [if_neg h]
   by_cases e:id=i
   ·rw [if_pos e,if_pos (by rw [e];exact List.mem_cons_self)]
   ·rw [if_neg e,if_neg (by intro hh;rcases List.mem_cons.1 hh with hh | hh;exact e hh;exact h hh)]
theorem lit_cells {fz:Bool} {sz:Nat} {parts:List (Nat×Nat×Opd)} {ts:List TV} {V':VSt} (h:ElK A st fz sz V 0 parts ts V') {zero:List AV} (hl:ts.length*sz=zero.length) :
  ∃cs,fill (rhoF fz st) parts zero=some cs∧ElR sz ts cs:=by
 have hlen:=h.len
 obtain ⟨cs,g1,g2,g3,g4,gf,g5⟩:=h.fill zero (by rw [Nat.zero_add,←h.len,hl];exact Nat.le_refl _)
 refine ⟨cs,g1,by rw [g2,hl],fun x hx=>?_,fun j e hj=>by have:=g5 j e hj;rwa [Nat.zero_add] at this⟩
 obtain ⟨q,hq⟩:=List.getElem?_of_mem hx
 have:=(List.getElem?_eq_some_iff.1 hq).1
 exact gf q x (by omega) (by rw [Nat.zero_add,←h.len,hl,←g2];exact this) hq
theorem o_bslice (hR:R A V st) {es len:Nat} {zero:List AV} {parts:List (Nat×Nat×Opd)} (h:pos es (elemsK V none false es 0 parts fun ts V'=>same ts.length len (same zero.length (ts.length*es) (newV nt V' d none .sl (.gr es ts) k)))):Sim cf nt A V st d (.bslice es len zero parts) k:=by
 obtain ⟨hz,h⟩:=pos_ok h
 obtain ⟨ts,V',hk,hE⟩:=elemsK_sim parts 0 V _ hR h
 obtain ⟨hl,hk⟩:=same_ok hk
 obtain ⟨hl2,hk⟩:=same_ok hk
 obtain ⟨cs,h1,h2⟩:=lit_cells hE (zero:=zero) hl2.symm
 have hfr:=fresh_next (A:=A) (V:=V') (st:=st) (a:=.ref st.nx 0 0 es ts.length ts.length false) (v:=.ref st.nx 0 0 es ts.length ts.length false) (ob:=.row 0 cs) (hE.sub.r hR) hk
  (fun A' hA=>⟨hz,.inr ⟨_,_,_,cs,rfl,by rw [Map.get_put,if_pos rfl],Nat.zero_le _,by simpa using h2⟩⟩) rfl rfl (fun A' O hO=>.sl hO)
 obtain ⟨e',p1,V2,A2,p2,p3,p4⟩:=hfr
 refine sim_new (f:=fun id=>.ref id 0 0 es len len false) (ob:=.row 0 cs) rfl (by
  have this:fill (ev st.env) parts zero=some cs:=h1
  simp only [pBslice,this]) ⟨e',by rw [←hl];exact p1,V2,A2,p2,⟨p3.le,fun id hid hn=>p3.same id hid (fun ho=>hn (hE.sub.own ho)),fun id ho=>(p3.own id ho).imp hE.sub.own (fun x=>x)⟩,p4⟩
theorem allB_of {l:List AV} {f:AV→Bool} (h:∀x∈l,f x=true):allB f l=true:=allB_true.2 h
theorem o_islice (hR:R A V st) {fz:Bool} {len:Nat} {zero:List AV} {parts:List (Nat×Nat×Opd)} {gd:Option (Nat×Bool)} (h:evIsl nt V d none fz len zero parts k) :
  ∃v H' nx',doFz cf ⟨d,.islice len zero parts,gd,fz⟩ (ev st.env) st.H st.nx=some (v,H',nx')∧Next nt A V st d v H' nx' k:=by
 unfold evIsl at h
 simp only at h
 split at h
 ·split at h <;> first | (cases h;done) | skip
  split at h <;> first | (cases h;done) | skip
  split at h <;> first | (cases h;done) | skip
  exact ⟨.imm [] 0 (some 0),st.H,st.nx,rfl,putV_tree hR (fun _=>.nil1) h⟩
 ·rename_i n
  obtain ⟨hz,h⟩:=pos_ok h
  obtain ⟨hm,h⟩:=same_ok h
  obtain ⟨ts,V',hk,hE⟩:=elemsK_sim parts 0 V _ hR h
  obtain ⟨hl,hk⟩:=same_ok hk
  obtain ⟨cs,h1,h2⟩:=lit_cells hE (zero:=zero) (by rw [hl,Nat.mul_comm];exact hm)
  have hcan:Can (.l ts) (.imm cs (n + 1) (some (n + 1))):=by have:=el_imm hz h2 (some (n + 1));rwa [hl] at this
  cases fz with
  |false=>
   refine ⟨.imm cs (n + 1) (some (n + 1)),st.H,st.nx,?_,putV_next (hE.sub.r hR) (Fr.ofH fun O o hh=>⟨o,hE.sub.H O o hh⟩) (fun _ _ h=>h) (fun _=>.tr hcan) hk⟩
   have h1':fill (ev st.env) parts zero=some cs:=h1
   simp only [doFz,doOp,kind,pIslice,h1',allB_of h2.flat,cond_true,cond_false,runPlan]
  |true=>
   obtain ⟨l,hl'⟩:=hE.imm rfl
   have hids:=hE.ids rfl
   have h1':fill (immρ st.H (ev st.env)) parts zero=some cs:=h1
   have hget:=drop_get ((parts.map fun p=>ev st.env p.2.2).flatMap (idsOf deep st.H)) st.H
   refine ⟨.imm cs (n + 1) (some (n + 1)),drop st.H ((parts.map fun p=>ev st.env p.2.2).flatMap (idsOf deep st.H)),st.nx,?_,putV_next (A1:=A) (V1:=V') ⟨(hE.sub.r hR).env,fun O o ho=>?_,(hE.sub.r hR).inj,(hE.sub.r hR).used,hR.one,fun id o ho=>?_⟩ ⟨Nat.le_refl _,fun id _ hn=>?_,fun id ho=>.inl (hE.sub.own ho)⟩ (fun _ _ h=>h) (fun _=>.tr hcan) hk⟩
   ·simp only [doFz,hl',pIslice,h1',allB_of h2.flat,cond_true]
   ·obtain ⟨a,ha,hor⟩:=(hE.sub.r hR).heap O o ho
    refine ⟨a,ha,hor.mono (fun _ _ h=>h) (fun id hi=>?_)⟩
    show (drop st.H _).get id=st.H.get id
    rw [hget,if_neg]
    exact fun hm=>(hids id hm).2 ⟨O,o,a,ho,ha,hi⟩
   ·have ho':(drop st.H _).get id=some o:=ho
    rw [hget] at ho'
    split at ho'
    ·cases ho'
    ·exact hR.fresh id o ho'
   ·rw [hget,if_neg]
    exact fun hm=>hn (hids id hm).1
theorem o_nilck (hR:R A V st) (ha:act g) {x:Opd} (h:rdK V g x fun w=>evNilck nt V d g w k):Sim cf nt A V st d (.nilck x) k:=by
 obtain ⟨w,hw,hk⟩:=rdK_sim hR ha h
 generalize he:ev st.env x=p at hw
 cases hw with
 |ptr h=>exact sim_val rfl (by simp only [pNilck,he]) (putV_tree hR (fun _=>.ptr h) hk)
 |pd h=>exact sim_val rfl (by simp only [pNilck,he]) (putV_tree hR (fun _=>.pd h) hk)
 |ea h=>exact sim_val rfl (by simp only [pNilck,he]) (putV_tree hR (fun _=>.ea h) hk)
 |pt hl hf h=>exact sim_val rfl (by simp only [pNilck,he]) (putV_tree hR (fun _=>.pt hl hf h) hk)
 |_=>cases hk
theorem vr_ea {O i off off' id gg b sz len cap:Nat} {ex:Bool} (h:A O=some (.ref id gg b sz len cap ex)):VR A (.ea O i (off + off')) (.ptr id gg (Nat.add (b + i*sz + off) off')):=by
 have:=VR.ea (A:=A) (i:=i) (off:=off + off') h
 rwa [←Nat.add_assoc] at this
theorem vr_pt {v:TV} {cs:List AV} {b off off' n:Nat} (hl:b + n≤cs.length) (hf:∀x∈cs,AV.flat x=true) (h:CanC v ((cs.drop b).take n)):VR A (.pt v (off + off')) (.iptr cs (Nat.add (b + off) off')):=by
 have:=VR.pt (A:=A) (off:=off + off') hl hf h
 rwa [←Nat.add_assoc] at this
theorem o_faddr (hR:R A V st) (ha:act g) {off:Nat} {x:Opd} (h:rdK V g x fun w=>evFaddr nt V d g off w k):Sim cf nt A V st d (.faddr off x) k:=by
 obtain ⟨w,hw,hk⟩:=rdK_sim hR ha h
 generalize he:ev st.env x=p at hw
 cases hw with
 |ptr h=>exact sim_val rfl (by simp only [pFaddr,he];rfl) (putV_tree hR (fun _=>.ptr h) hk)
 |pd h=>exact sim_val rfl (by simp only [pFaddr,he];rfl) (putV_tree hR (fun _=>.pd h) hk)
 |ea h=>exact sim_val rfl (by simp only [pFaddr,he]) (putV_tree hR (fun _=>vr_ea h) hk)
 |pt hl hf h=>exact sim_val rfl (by simp only [pFaddr,he]) (putV_tree hR (fun _=>vr_pt hl hf h) hk)
 |_=>cases hk
theorem o_fld (hR:R A V st) (ha:act g) {off:Nat} {sz:Option Nat} {x:Opd} (h:rdK V g x fun w=>evFld nt V d g off sz w k):Sim cf nt A V st d (.fld off sz x) k:=by
 obtain ⟨w,hw,hk⟩:=rdK_sim hR ha h
 generalize he:ev st.env x=p at hw
 have fin:∀{cs l:List AV} {v:AV},ev st.env x=.agg cs→cut cs off (loadA sz)=some l→mkv sz l=some v→Next nt A V st d v st.H st.nx k→Sim cf nt A V st d (.fld off sz x) k:=
  fun h1 h2 h3 h4=>sim_val rfl (by simp only [pFld,h1,h2,h3,pureO]) h4
 cases hw with
 |@tr v _ hc=>
  obtain ⟨r,h1,h2⟩:=resV_next hR ha hk
  unfold fldT at h1
  split at h1
  ·rename_i cs
   cases hc with
   |a ts as hl hf hh=>
    obtain ⟨l,y,h3,h4,h5⟩:=ldT_can (cs:=as) rfl ⟨⟨hl,hh⟩,hf⟩ h1
    exact fin he h3 h4 (h2 _ h5)
  ·cases h1
 |@st v ovs cs ts hv hc=>
  simp only [evFld] at hk
  split at hk
  ·split at hk
   ·rename_i w hw
    have hlt:=hc.keys _ _ hw
    have hx:cs[off]?=some (cs[off]'(by rw [←hc.len];exact hlt)):=List.getElem?_eq_getElem _
    have hs:=hc.at_ off _ _ (List.getElem?_eq_getElem hlt) hx
    rw [hw] at hs
    refine fin he (cell_cut hx) rfl (putV_tree hR (fun _=>?_) hk)
    cases w <;> first | (exact absurd hs (by intro hh;exact hh)) | skip
    ·rcases hs with e | e
     ·rw [e];exact .nil0
     ·rw [e];exact .nil1
    ·exact .sl hs
   ·rename_i ho
    obtain ⟨r,h1,h2⟩:=resV_next hR ha hk
    obtain ⟨y,h3,h4,_⟩:=cells_ld hc h1 ho
    exact fin he h3 rfl (h2 _ h4)
  ·rename_i n
   split at hk
   ·rename_i ho
    obtain ⟨r,h1,h2⟩:=resV_next hR ha hk
    obtain ⟨l,ls,h3,h4,h5⟩:=cells_sub hc h1
    rw [ho] at h5
    exact fin he h3 rfl (h2 _ (sub_tree h5 h4))
   ·rename_i p r ho
    split at hk
    ·obtain ⟨u,h1,h2⟩:=hk
     obtain ⟨l,ls,h3,h4,h5⟩:=cells_sub hc h1
     rw [ho] at h5
     exact fin he h3 rfl (putV_tree hR (fun _=>.st h4 h5) h2)
    ·cases hk
 |_=>cases hk
theorem ixN_some {i:TV} {n m:Nat} {a:AV} (h:ixN i n=some m) (hc:Can i a):∃k z,a=.int k z∧ixA z n=some m∧m < n:=by
 unfold ixN at h
 split at h
 ·rename_i k z;cases hc;exact ⟨k,z,rfl,h,(ixA_some h).2⟩
 ·cases h
theorem o_iaddr (hR:R A V st) (ha:act g) {es:Nat} {x i:Opd} (h:rdK V g x fun w=>rdT V g i fun i=>evIaddr nt V d g es w i k):Sim cf nt A V st d (.iaddr es x i) k:=by
 obtain ⟨w,hw,hk⟩:=rdK_sim hR ha h
 obtain ⟨iv,hi,hk⟩:=rdT_sim hR ha hk
 obtain ⟨hz,hk⟩:=pos_ok hk
 generalize he:ev st.env x=p at hw
 cases hw with
 |@tr v _ hc=>
  obtain ⟨e,⟨h1,h2⟩,h3⟩:=resT_act ha hk
  unfold idxT at h1
  split at h1
  ·rename_i es'
   split at h1
   ·rename_i m hm
    obtain ⟨ki,zi,g1,g2,g3⟩:=ixN_some hm hi
    cases hc with
    |nil=>simp at g3
    |imm _ cs n sz c hn hcl hsz hf hh=>
     subst hn
     have hE:=hh m e h1
     obtain ⟨l,hl1,hl2⟩:=szOk_cells h2
     obtain ⟨ts,ht1,ht2⟩:=canC_iff.1 hE
     rw [hl1] at ht1;cases ht1
     have hmn:=mul_lt_seg (z:=sz) g3
     have hseg:((cs.drop (m*sz)).take sz).length=sz:=by simp only [List.length_take,List.length_drop];omega
     have hsz':sz=es:=by rw [←hl2,ht2.1,hseg]
     subst hsz'
     refine sim_val (v:=.iptr cs (m*sz)) rfl ?_ (putV_tree hR (fun _=>?_) h3)
     ·simp only [pIaddr,g1,he,g2]
      cases cs with
      |nil=>simp at hcl;omega
      |cons _ _=>rfl
     ·exact VR.pt (b:=m*sz) (off:=0) (n:=sz) (by omega) hf hE
   ·cases h1
  ·cases h1
 |@sl O _ hO=>
  dsimp only at hk
  split at hk
  ·rename_i z es' ho
   obtain ⟨rfl,hk2⟩:=same_ok hk
   obtain ⟨m,h1,h2⟩:=resN_act ha hk2
   obtain ⟨ki,zi,g1,g2,g3⟩:=ixN_some h1 hi
   obtain ⟨y,hy,hs⟩:=hR.heap O _ ho
   rw [hO] at hy;cases hy
   obtain ⟨_,hs⟩:=hs
   rcases hs with ⟨e,_⟩ | ⟨id,gg,b,cells,e,hH,hb,hE⟩
   ·subst e;simp at g3
   ·subst e
    exact sim_val (v:=.ptr id gg (b + m*z)) rfl (by simp only [pIaddr,g1,he,g2,cond_eq_ite,Nat.beq_eq,if_pos];rfl) (putV_tree hR (fun _=>VR.ea (off:=0) hO) h2)
  ·cases hk
 |_=>cases hk
theorem o_iarr (hR:R A V st) (ha:act g) {len es:Nat} {x i:Opd} (h:rdK V g x fun w=>rdT V g i fun i=>evIarr nt V d g len es w i k):Sim cf nt A V st d (.iarr len es x i) k:=by
 obtain ⟨w,hw,hk⟩:=rdK_sim hR ha h
 obtain ⟨iv,hi,hk⟩:=rdT_sim hR ha hk
 generalize he:ev st.env x=p at hw
 have fin:∀{m:Nat} {v:AV},ixN iv len=some m→(∀ki zi,ev st.env i=.int ki zi→ixA zi len=some m→pIarr (ev st.env) len es x i=some (.val v))→Next nt A V st d v st.H st.nx k→Sim cf nt A V st d (.iarr len es x i) k:=by
  intro m v h1 h2 h3
  obtain ⟨ki,zi,g1,g2,g3⟩:=ixN_some h1 hi
  exact sim_val rfl (h2 ki zi g1 g2) h3
 cases hw with
 |@ptr O off id hO=>
  obtain ⟨m,h1,h2⟩:=resN_act ha hk
  exact fin h1 (fun ki zi g1 g2=>by simp only [pIarr,g1,g2,he];rfl) (putV_tree hR (fun _=>VR.pd hO) h2)
 |@pd O off id hO=>
  obtain ⟨m,h1,h2⟩:=resN_act ha hk
  exact fin h1 (fun ki zi g1 g2=>by simp only [pIarr,g1,g2,he];rfl) (putV_tree hR (fun _=>VR.pd hO) h2)
 |@pt v cs b off n hl hf hcc=>
  obtain ⟨m,h1,h2⟩:=resN_act ha hk
  exact fin h1 (fun ki zi g1 g2=>by simp only [pIarr,g1,g2,he];rfl) (putV_tree hR (fun _=>vr_pt hl hf hcc) h2)
 |_=>cases hk
end
end Go.Ax.V

set_option linter.unusedSimpArgs false
set_option linter.unusedVariables false
namespace Go.Ax.V
section
variable {prog:Map AFunc} {cf:FnF} {nt:Nat} {A:Tok} {V:VSt} {st:St} {d:Option Nat} {g:G} {k:VSt→Prop}
theorem szHd_eq {sz z:Nat} {es:List TV} {cs:List AV} {n:Nat} (h:szHd sz es) (hn:es.length=n) (hc:cs.length=n*z) (hh:∀(j:Nat) (e:TV),es[j]?=some e→CanC e ((cs.drop (j*z)).take z)):es=[]∨sz=z:=by
 cases es with
 |nil=>exact .inl rfl
 |cons e r=>
  right
  obtain ⟨l,hl1,hl2⟩:=szOk_cells h
  obtain ⟨ts,ht1,ht2⟩:=canC_iff.1 (hh 0 e rfl)
  rw [hl1] at ht1;cases ht1
  rw [←hl2,ht2.1]
  have:z≤cs.length:=by rw [hc,←hn,List.length_cons,Nat.add_mul,Nat.one_mul];omega
  simp only [List.length_take,List.length_drop];omega
structure SrcR (H:Heap) (sz:Nat) (xs:List TV) (a:AV) (src:Src) (l:List AV):Prop where
 eq:srcOf sz a=some (xs.length,src)
 get:fetch H src.q=some l
 el:ElR sz xs (src.cs l)
theorem el_nil (sz:Nat):ElR sz [] []:=⟨by simp,fun x hx=>by simp at hx,fun j e h=>by simp at h⟩
theorem sl_src {H:Heap} {sz:Nat} {es:List TV} {a:AV} (h:SlR H sz es a):∃src l,SrcR H sz es a src l:=by
 obtain ⟨hz,h⟩:=h
 rcases h with ⟨rfl,rfl | rfl⟩ | ⟨id,g,b,cells,rfl,hH,hb,he⟩
 ·exact ⟨.list [],[],rfl,rfl,el_nil sz⟩
 ·exact ⟨.list [],[],by simp [srcOf],rfl,el_nil sz⟩
 ·have hl:=he.len
  rw [List.length_drop] at hl
  refine ⟨.rng ⟨id,g,b,es.length*sz⟩,cells.drop b,by simp [srcOf],?_,he⟩
  simp only [Src.q,fetch,hH,cond_eq_ite,Nat.beq_eq,if_pos]
  rw [cut_eq,if_pos (by omega),List.take_of_length_le (by rw [List.length_drop];omega)]
theorem srcK_sim (hR:R A V st) {sz:Nat} (hz:0 < sz) {w:VV} {a:AV} (hw:VR A w a) {k:List TV→Prop} (hk:srcK V sz w k):∃xs src l,SrcR st.H sz xs a src l∧k xs:=by
 cases hw with
 |@tr v _ hc=>
  obtain ⟨xs,h1,h2,h3⟩:=hk
  cases v <;> first | (cases h1;done) | skip
  cases h1
  cases hc with
  |nil=>exact ⟨[],.list [],[],⟨rfl,rfl,el_nil sz⟩,h3⟩
  |imm _ cs n z c hn hcl hsz hf hh=>
   refine ⟨xs,.list cs,[],?_,h3⟩
   rcases szHd_eq h2 hn hcl hh with rfl | rfl
   ·simp at hn;subst hn
    have:cs=[]:=List.length_eq_zero_iff.1 (by omega)
    subst this
    exact ⟨by simp [srcOf],rfl,el_nil sz⟩
   ·exact ⟨by simp [srcOf,hn,hcl],rfl,⟨by show cs.length=_;rw [hcl,hn],hf,hh⟩⟩
 |nil0=>exact ⟨[],.list [],[],⟨rfl,rfl,el_nil sz⟩,hk⟩
 |nil1=>exact ⟨[],.list [],[],⟨by simp [srcOf],rfl,el_nil sz⟩,hk⟩
 |@sl O _ hO=>
  simp only [srcK] at hk
  split at hk
  ·rename_i z es ho
   obtain ⟨rfl,hk2⟩:=same_ok hk
   obtain ⟨y,hy,hs⟩:=hR.heap O _ ho
   rw [hO] at hy;cases hy
   obtain ⟨src,l,h⟩:=sl_src hs
   exact ⟨es,src,l,h,hk2⟩
  ·cases hk
 |_=>cases hk
theorem el_append {sz:Nat} {es xs:List TV} {cs ds:List AV} (h:ElR sz es cs) (h':ElR sz xs ds):ElR sz (es++xs) (cs++ds):=by
 refine ⟨by rw [List.length_append,List.length_append,h.len,h'.len,Nat.add_mul],fun x hx=>(List.mem_append.1 hx).elim (h.flat x) (h'.flat x),fun j e hj=>?_⟩
 by_cases hlt:j < es.length
 ·rw [List.getElem?_append_left hlt] at hj
  have:=mul_lt_seg (z:=sz) hlt
  have:((cs++ds).drop (j*sz)).take sz=(cs.drop (j*sz)).take sz:=by
   rw [List.drop_append_of_le_length (by rw [h.len];omega),List.take_append_of_le_length (by rw [List.length_drop,h.len];omega)]
  rw [this];exact h.el j e hj
 ·rw [List.getElem?_append_right (by omega)] at hj
  have e1:j*sz=cs.length + (j - es.length)*sz:=by rw [h.len,←Nat.add_mul];congr 1;omega
  have:((cs++ds).drop (j*sz))=ds.drop ((j - es.length)*sz):=by rw [e1,List.drop_append];simp
  rw [this];exact h'.el _ e hj
theorem appT_some {bytes:Nat} {es xs l:List TV} (h:appT bytes es xs=some l):l=es++xs∧(es.length + xs.length)*bytes≤most∧es.length + xs.length≤most:=by
 unfold appT at h
 rw [cond_eq_ite] at h
 split at h
 ·rename_i hh
  rw [Bool.and_eq_true,Nat.ble_eq,Nat.ble_eq] at hh
  cases h;exact ⟨rfl,hh.1,hh.2⟩
 ·cases h
theorem app_core (hR:R A V st) {V1:VSt} (hs:Sub V V1) {sz bytes:Nat} {es xs l:List TV} {s x:AV} {src:Src} {lc:List AV} (hsl:SlR st.H sz es s) (hone:s.one=true) (hown:∀id,idOf s=some id→¬Own V1 A id∧Own V A id)
  (hx:SrcR st.H sz xs x src lc) (happ:appT bytes es xs=some l) {so xo:Opd} (e1:ev st.env so=s) (e2:ev st.env xo=x) (hk:newV nt V1 d g .sl (.gr sz l) k):Sim cf nt A V st d (.app sz bytes so xo) k:=by
 obtain ⟨rfl,hb1,hb2⟩:=appT_some happ
 have hR1:=hs.r hR
 have hz:=hsl.1
 have hkind:kind (.app sz bytes so xo)=.plan fun ρ=>appA sz bytes (ρ so) (ρ xo):=rfl
 by_cases hm:xs=[]
 ·subst hm
  refine sim_val (v:=s) hkind ?_ (newV_next (a:=s) (nx':=st.nx) hR1 hs.H hk (Nat.le_refl _) hR.fresh (fun _ _=>rfl) (fun _ _ _=>rfl) (fun A' _=>by rw [List.append_nil];exact hsl) hone (fun id hi=>⟨(hown id hi).1,.inl (hown id hi).2⟩) (fun A' O hO=>.sl hO))
  have hsl':isSl s=true:=by
   rcases hsl.2 with ⟨_,rfl | rfl⟩ | ⟨id,g,b,cells,rfl,_⟩ <;> rfl
  simp only [appA,e1,e2,hx.eq,List.length_nil,cond_eq_ite,Nat.beq_eq,if_pos,hsl']
 ·have hm0:xs.length≠0:=fun h=>hm (List.length_eq_zero_iff.1 h)
  obtain ⟨hz,hsl⟩:=hsl
  have fresh:∀(n:Nat),n=(es++xs).length→∀cells,ElR sz (es++xs) cells→Next nt A V st d (.ref st.nx 0 0 sz n n false) (st.H.put (some (.row 0 cells)) st.nx) (st.nx + 1) k:=by
   intro n hn cells hE
   subst hn
   obtain ⟨e',p1,V2,A2,p2,p3,p4⟩:=fresh_next (A:=A) (V:=V1) (st:=st) (a:=.ref st.nx 0 0 sz (es++xs).length (es++xs).length false) (v:=.ref st.nx 0 0 sz (es++xs).length (es++xs).length false) (ob:=.row 0 cells) hR1 hk
    (fun A' hA=>⟨hz,.inr ⟨_,_,_,cells,rfl,by rw [Map.get_put,if_pos rfl],Nat.zero_le _,hE⟩⟩) rfl rfl (fun A' O hO=>.sl hO)
   exact ⟨e',p1,V2,A2,p2,⟨p3.le,fun id hid hn=>p3.same id hid (fun ho=>hn (hs.own ho)),fun id ho=>(p3.own id ho).imp hs.own (fun x=>x)⟩,p4⟩
  rcases hsl with ⟨rfl,rfl | rfl⟩ | ⟨id,gg,b,cells,rfl,hH,hb,hE⟩
  ·refine ⟨_,_,_,?_,fresh xs.length (by simp) (src.cs lc) (by simpa using hx.el)⟩
   simp only [List.length_nil,Nat.zero_add] at hb1 hb2
   simp only [doOp,hkind,appA,e1,e2,hx.eq,cond_eq_ite,Nat.beq_eq,if_neg hm0,Bool.and_eq_true,Nat.ble_eq]
   rw [if_pos ⟨hb1,hb2⟩]
   simp only [runPlan,runLook,hx.get,fetchO,setO]
  ·refine ⟨_,_,_,?_,fresh (0 + xs.length) (by simp) (src.cs lc) (by simpa using hx.el)⟩
   simp only [List.length_nil] at hb1 hb2
   simp only [doOp,hkind,appA,e1,e2,hx.eq,cond_eq_ite,Nat.beq_eq,if_neg hm0,Bool.and_eq_true,Nat.ble_eq,Nat.blt_eq]
   rw [if_pos ⟨⟨⟨by show 0 < 0 + xs.length;omega,by simp⟩,hb1⟩,hb2⟩]
   simp only [runPlan,runLook,hx.get,fetchO,setO,List.nil_append]
   rfl
  ·have hl:=hE.len
   rw [List.length_drop] at hl
   obtain ⟨hn1,hn2⟩:=hown id rfl
   have hE2:=el_append hE hx.el
   refine ⟨.ref id (gg + 1) 0 sz (es.length + xs.length) (es.length + xs.length) false,st.H.put (some (.row (gg + 1) (cells.drop b++src.cs lc))) id,st.nx,?_,
    newV_next (a:=.ref id (gg + 1) 0 sz (es.length + xs.length) (es.length + xs.length) false) hR1 hs.H hk (Nat.le_refl _) (fun i o hh=>?_) (fun i ho=>?_) (fun i _ hn=>?_) (fun A' _=>⟨hz,.inr ⟨id,gg + 1,0,_,by rw [List.length_append],by rw [Map.get_put,if_pos rfl],Nat.zero_le _,hE2⟩⟩) rfl (fun i hi=>?_) (fun A' O hO=>.sl hO)⟩
   ·simp only [doOp,hkind,appA,e1,e2,hx.eq,cond_eq_ite,Nat.beq_eq,if_neg hm0,Bool.and_eq_true,Nat.ble_eq,if_pos]
    rw [if_pos ⟨⟨trivial,hb1⟩,hb2⟩]
    simp only [appRef,cond_eq_ite,Nat.ble_eq]
    rw [if_neg (by show ¬(es.length + xs.length≤es.length);omega),if_neg (by decide)]
    simp only [runPlan,runLook,hx.get,fetchO,hH,rowK,cond_eq_ite,Nat.beq_eq,if_pos]
    rw [if_pos (by show b + es.length*sz=cells.length;omega)]
    simp only [setO]
    rfl
   ·rw [Map.get_put] at hh
    split at hh
    ·rename_i e;subst e;exact hR.own_lt hn2
    ·exact hR.fresh i o hh
   ·rw [Map.get_put,if_neg]
    rintro rfl;exact hn1 ho
   ·rw [Map.get_put,if_neg]
    rintro rfl;exact hn hn2
   ·cases hi;exact ⟨hn1,.inl hn2⟩
theorem o_app (hR:R A V st) (ha:act g) {es bytes:Nat} {s x:Opd} (h:rdK V g s fun w=>rdK V g x fun x=>evApp nt V d g es bytes w x k):Sim cf nt A V st d (.app es bytes s x) k:=by
 obtain ⟨w,hw,h⟩:=rdK_sim hR ha h
 obtain ⟨y,hy,hk⟩:=rdK_sim hR ha h
 obtain ⟨hz,hk⟩:=pos_ok hk
 obtain ⟨xs,src,l,hx,hk⟩:=srcK_sim hR hz hy hk
 generalize e1:ev st.env s=a at hw
 cases hw with
 |nil0=>
  obtain ⟨l',h1,h2⟩:=hk
  exact app_core hR (Sub.refl V) ⟨hz,.inl ⟨rfl,.inl rfl⟩⟩ rfl (fun id hi=>by cases hi) hx h1 e1 rfl h2
 |nil1=>
  obtain ⟨l',h1,h2⟩:=hk
  exact app_core hR (Sub.refl V) ⟨hz,.inl ⟨rfl,.inr rfl⟩⟩ rfl (fun id hi=>by cases hi) hx h1 e1 rfl h2
 |@sl O _ hO=>
  dsimp only at hk
  split at hk
  ·rename_i z es' ho
   obtain ⟨rfl,l',h1,h2⟩:=same_ok hk
   obtain ⟨y',hy',hs⟩:=hR.heap O _ ho
   rw [hO] at hy';cases hy'
   exact app_core hR (sub_dropO V O) hs (hR.one O _ hO) (fun id hi=>⟨gone_dropO hR ho hO hi,⟨O,_,_,ho,hO,hi⟩⟩) hx h1 e1 rfl h2
  ·cases hk
 |_=>cases hk
theorem o_len (hR:R A V st) (ha:act g) {str:Bool} {x:Opd} (h:rdK V g x fun w=>evLen nt V d g str w k):Sim cf nt A V st d (.len str x) k:=by
 obtain ⟨w,hw,hk⟩:=rdK_sim hR ha h
 generalize he:ev st.env x=p at hw
 cases str with
 |true=>
  cases hw with
  |@tr v _ hc=>
   obtain ⟨r,h1,h2⟩:=resV_next hR ha hk
   cases v <;> first | (cases h1;done) | skip
   cases h1;cases hc
   exact sim_val rfl (by simp only [pLen,he]) (h2 _ (.i _ _))
  |_=>cases hk
 |false=>
  cases hw with
  |@tr v _ hc=>
   obtain ⟨r,h1,h2⟩:=resV_next hR ha hk
   cases v <;> first | (cases h1;done) | skip
   cases h1
   cases hc with
   |nil=>exact sim_val rfl (by simp only [pLen,he];rfl) (h2 _ (.i _ _))
   |imm _ cs n z c hn=>subst hn;exact sim_val rfl (by simp only [pLen,he]) (h2 _ (.i _ _))
  |nil0=>obtain ⟨r,h1,h2⟩:=resV_next hR ha hk;cases h1;exact sim_val rfl (by simp only [pLen,he]) (h2 _ (.i _ _))
  |nil1=>obtain ⟨r,h1,h2⟩:=resV_next hR ha hk;cases h1;exact sim_val (v:=.int .i64 ((0:Nat):Int)) rfl (by simp only [pLen,he]) (h2 _ (.i _ _))
  |@sl O _ hO=>
   simp only [evLen] at hk
   split at hk
   ·rename_i z es ho
    obtain ⟨y,hy,hs⟩:=hR.heap O _ ho
    rw [hO] at hy;cases hy
    obtain ⟨r,h1,h2⟩:=resV_next hR ha hk
    cases h1
    rcases hs.2 with ⟨rfl,rfl | rfl⟩ | ⟨id,gg,b,cells,rfl,_⟩
    ·exact sim_val (v:=.int .i64 0) rfl (by simp only [pLen,he]) (h2 _ (.i _ _))
    ·exact sim_val (v:=.int .i64 ((0:Nat):Int)) rfl (by simp only [pLen,he]) (h2 _ (.i _ _))
    ·exact sim_val rfl (by simp only [pLen,he]) (h2 _ (.i _ _))
   ·cases hk
  |_=>cases hk
end
end Go.Ax.V

set_option linter.unusedSimpArgs false
set_option linter.unusedVariables false
namespace Go.Ax.V
section
variable {prog:Map AFunc} {cf:FnF} {nt:Nat} {A:Tok} {V:VSt} {st:St} {d:Option Nat} {g:G} {k:VSt→Prop}
def BdR (e:Env) (x:Option Opd) (v:Option TV):Prop:=match x with | none=>v=none | some x=>∃u,v=some u∧Can u (ev e x)
theorem bnd_can {e:Env} {x:Option Opd} {v:Option TV} (h:BdR e x v) {other y r:Nat} (hb:bdT v other y=some r):bnd (ev e) x other y=some r:=by
 cases x with
 |none=>cases h;exact hb
 |some x=>
  obtain ⟨u,rfl,hc⟩:=h
  cases u <;> first | (cases hb;done) | skip
  generalize he:ev e x=p at hc
  cases hc
  simp only [bnd,he];exact hb
theorem bds_can {e:Env} {lo hi:Option Opd} {l h:Option TV} (hl:BdR e lo l) (hh:BdR e hi h) {n a b:Nat} (hb:bdsT l h n=some (a,b)):bnds (ev e) lo hi none n n=some (a,b,n)∧a≤b∧b≤n:=by
 unfold bdsT at hb
 split at hb
 ·cases hb
 rename_i b' h1
 split at hb
 ·cases hb
 rename_i a' h2
 cases hb
 have le:∀{x:Option TV} {o y r:Nat},bdT x o y=some r→o≤y→r≤y:=fun {x o y r} hb ho=>by
  unfold bdT at hb
  split at hb
  ·cases hb;exact ho
  ·exact (bdA_some hb).2
  ·cases hb
 refine ⟨?_,le h2 (Nat.zero_le _),le h1 (Nat.le_refl _)⟩
 have e0:bnd (ev e) none n n=some n:=rfl
 simp only [bnds,e0,bnd_can hh h1,bnd_can hl h2]
theorem ordT_bd (h:R A V st) (ha:act g) {x:Option Opd} {k:Option TV→Prop} (hk:ordT V g x k):∃v,k v∧BdR st.env x v:=by
 obtain ⟨v,h1,h2⟩:=ordT_sim h ha hk
 exact ⟨v,h1,by cases x <;> exact h2⟩
theorem el_sub {sz:Nat} {es:List TV} {cs:List AV} (h:ElR sz es cs) {a b:Nat} (hab:a≤b) (hb:b≤es.length):ElR sz ((es.drop a).take (b - a)) ((cs.drop (a*sz)).take ((b - a)*sz)):=by
 have h1:a*sz + (b - a)*sz=b*sz:=by rw [←Nat.add_mul];congr 1;omega
 have h2:b*sz≤es.length*sz:=Nat.mul_le_mul_right sz hb
 have hl:=h.len
 refine ⟨by simp only [List.length_take,List.length_drop];rw [Nat.min_eq_left (by omega),Nat.min_eq_left (by omega)],flat_take h.flat _ _,fun j e hj=>?_⟩
 rw [seg_get] at hj
 split at hj
 ·rename_i hlt
  have h3:=mul_lt_seg (z:=sz) hlt
  have:((((cs.drop (a*sz)).take ((b - a)*sz)).drop (j*sz)).take sz)=(cs.drop ((a + j)*sz)).take sz:=by
   rw [List.drop_take,List.take_take,List.drop_drop,Nat.min_eq_left (by omega),Nat.add_mul]
  rw [this];exact h.el _ e hj
 ·cases hj
theorem const0 {x:Option Opd} (h:isConst0 x=true):∃k,x=some (.c (.int k (.ofNat 0))):=by
 unfold isConst0 at h
 split at h
 ·exact ⟨_,rfl⟩
 ·cases h
def capA (mx:Option Opd) (c:Option Nat) (m a:Nat):Option Nat:=match mx with
 |some _=>some (m - a)
 |none=>match c with
  |some c=>some (c - a)
  |none=>none
theorem slA_imm {es n a b m:Nat} {ρ:Opd→AV} {cs cs':List AV} {lo hi mx:Option Opd} {c:Option Nat} (q1:n*es=cs.length) (hb:bnds ρ lo hi mx n n=some (a,b,m)) (q2:cut cs (a*es) ((b - a)*es)=some cs') :
  slA es ρ (.imm cs n c) lo hi mx=some (.imm cs' (b - a) (capA mx c m a)):=by
 have h1:Nat.beq (Nat.mul n es) cs.length=true:=by simpa using q1
 have h2:cut cs (Nat.mul a es) (Nat.mul (Nat.sub b a) es)=some cs':=q2
 simp only [slA,h1,hb,h2,cond_true]
 cases mx <;> cases c <;> rfl
theorem o_slsl (hR:R A V st) (ha:act g) {es:Nat} {x:Opd} {lo hi mx:Option Opd} (h:rdK V g x fun w=>evSlsl nt V d g es w lo hi mx k):Sim cf nt A V st d (.slsl es x lo hi mx) k:=by
 obtain ⟨w,hw,hk⟩:=rdK_sim hR ha h
 have hz:=(pos_ok hk).1
 replace hk:=(pos_ok hk).2
 clear h
 have hkind:kind (.slsl es x lo hi mx)=.plan fun ρ=>pureO (slA es ρ (ρ x) lo hi mx):=rfl
 generalize he:ev st.env x=p at hw
 have fin:∀{v:AV},slA es (ev st.env) p lo hi mx=some v→Next nt A V st d v st.H st.nx k→Sim cf nt A V st d (.slsl es x lo hi mx) k:=
  fun h1 h2=>sim_val hkind (by rw [he,h1];rfl) h2
 cases hw with
 |@sl O _ hO=>
  dsimp only at hk
  split at hk
  rotate_left
  ·cases hk
  rename_i z xs ho
  split at hk
  rotate_left
  ·cases hk
  split at hk
  rotate_left
  ·cases hk
  obtain ⟨rfl,hk2⟩:=same_ok hk
  obtain ⟨l,⟨m,h1,h2⟩,hl⟩:=ordT_bd (g:=none) hR trivial hk2
  obtain ⟨y,hy,hs⟩:=hR.heap O _ ho
  rw [hO] at hy;cases hy
  have hm:m≤xs.length:=by
   unfold bdT at h1
   split at h1
   ·cases h1;exact Nat.zero_le _
   ·exact (bdA_some h1).2
   ·cases h1
  have hb:bnds (ev st.env) lo none none xs.length xs.length=some (m,xs.length,xs.length):=by
   have e0:∀n,bnd (ev st.env) none n xs.length=some n:=fun _=>rfl
   simp only [bnds,e0,bnd_can hl h1]
  have nxt:∀{a:AV},a.one=true→SlR st.H z (xs.drop m) a→(∀id,idOf a=some id→idOf p=some id)→Next nt A V st d a st.H st.nx k:=fun {a} h3 h4 h5=>
   newV_next (a:=a) (nx':=st.nx) (hR.dropO O) (sub_dropO V O).H h2 (Nat.le_refl _) hR.fresh (fun _ _=>rfl) (fun _ _ _=>rfl) (fun A' _=>h4) h3
    (fun id hi=>⟨gone_dropO hR ho hO (h5 id hi),.inl ⟨O,_,_,ho,hO,h5 id hi⟩⟩) (fun A' O hO=>.sl hO)
  rcases hs.2 with ⟨rfl,rfl | rfl⟩ | ⟨id,gg,b,cells,rfl,hH,hbl,hE⟩
  ·simp at hm;subst hm
   exact fin (by simp only [slA];simp only [List.length_nil] at hb;rw [hb]) (nxt rfl ⟨hz,.inl ⟨by simp,.inl rfl⟩⟩ (fun id hi=>hi))
  ·simp at hm;subst hm
   refine fin (v:=.imm [] 0 (some 0)) ?_ (nxt rfl ⟨hz,.inl ⟨by simp,.inr rfl⟩⟩ (fun id hi=>hi))
   simp only [List.length_nil] at hb
   simp only [slA,cond_eq_ite,Nat.beq_eq]
   rw [if_pos (by simp),hb]
   simp [cut_eq]
  ·have hl':=hE.len
   rw [List.length_drop] at hl'
   refine fin (v:=.ref id gg (b + m*z) z (xs.length - m) (xs.length - m) false) ?_ (nxt rfl ⟨hz,.inr ⟨id,gg,b + m*z,cells,by simp,hH,?_,?_⟩⟩ (fun id hi=>hi))
   ·simp only [slA,cond_eq_ite,Nat.beq_eq,if_pos,hb]
    rfl
   ·have:=Nat.mul_le_mul_right z hm;omega
   ·have hE':=el_sub hE hm (Nat.le_refl _)
    have e1:(xs.drop m).take (xs.length - m)=xs.drop m:=List.take_of_length_le (by simp)
    have e2:((cells.drop b).drop (m*z)).take ((xs.length - m)*z)=cells.drop (b + m*z):=by
     rw [List.drop_drop,List.take_of_length_le]
     rw [List.length_drop,Nat.sub_mul];omega
    rwa [e1,e2] at hE'
 |@tr v _ hc=>
  dsimp only at hk
  split at hk
  ·obtain ⟨l,hk1,hl⟩:=ordT_bd hR ha hk
   obtain ⟨h,hk2,hh⟩:=ordT_bd hR ha hk1
   obtain ⟨r,⟨h1,h2⟩,h3⟩:=resT_act ha hk2
   clear hk hk1 hk2
   unfold slT at h1
   split at h1
   ·rename_i xs
    split at h1
    ·rename_i a b hab
     cases h1
     obtain ⟨hb,hab1,hab2⟩:=bds_can hl hh hab
     cases hc with
     |nil=>
      refine fin (v:=.nils) (by simp only [slA];simp only [List.length_nil] at hb;rw [hb]) (putV_tree hR (fun _=>.tr ?_) h3)
      simp;exact .nil
     |imm _ cs n z c hn hcl hsz hf hcc=>
      subst hn
      have hE:ElR z xs cs:=⟨hcl,hf,hcc⟩
      have hcut:∀z',(z'=z∨xs=[])→xs.length*z'=cs.length∧cut cs (a*z') ((b - a)*z')=some ((cs.drop (a*z)).take ((b - a)*z)):=by
       intro z' hz'
       rcases hz' with rfl | rfl
       ·refine ⟨hcl.symm,?_⟩
        have:=Nat.mul_le_mul_right z' hab2
        have h1:a*z' + (b - a)*z'=b*z':=by rw [←Nat.add_mul];congr 1;omega
        rw [cut_eq,if_pos (by omega)]
       ·simp only [List.length_nil,Nat.zero_mul] at hcl hab2 ⊢
        have:cs=[]:=List.length_eq_zero_iff.1 hcl
        subst this
        have:b=0:=by omega
        subst this
        have:a=0:=by omega
        subst this
        simp [cut_eq]
      obtain ⟨q1,q2⟩:=hcut es (by rcases szHd_eq (h2 xs rfl) rfl hcl hcc with h | h;exact .inr h;exact .inl h)
      have hE':=el_sub hE hab1 hab2
      have hcan:∀c',Can (.l ((xs.drop a).take (b - a))) (.imm ((cs.drop (a*z)).take ((b - a)*z)) (b - a) c'):=fun c'=>by
       have:=el_imm hsz hE' c'
       rwa [show ((xs.drop a).take (b - a)).length=b - a by simp;omega] at this
      exact fin (slA_imm q1 hb q2) (putV_tree hR (fun _=>.tr (hcan _)) h3)
    ·cases h1
   ·cases h1
  ·split at hk
   ·rename_i hcond
    simp only [Bool.and_eq_true] at hcond
    obtain ⟨⟨⟨hc1,hc2⟩,hc3⟩,hc4⟩:=hcond
    obtain ⟨k1,rfl⟩:=const0 hc1
    obtain ⟨k2,hm2⟩:=const0 hc2
    cases hm2
    obtain rfl:lo=none:=(by cases lo <;> first | rfl | cases hc3)
    obtain ⟨l,h1,hsz,h2⟩:=hk
    cases v <;> first | (cases h1;done) | skip
    cases h1
    cases hc with
    |nil=>exact fin (v:=.nils) rfl (putV_tree hR (fun _=>.nil0) h2)
    |imm _ cs n z c hn hcl hz' hf hcc=>
     refine fin (v:=.imm [] 0 (some 0)) ?_ (putV_tree hR (fun _=>.nil1) h2)
     have q1:n*es=cs.length:=by
      rcases szHd_eq hsz hn hcl hcc with h | h
      ·subst h;simp at hn;subst hn;simp at hcl;simp [hcl]
      ·rw [h,hcl]
     have hb:bnds (ev st.env) none (some (.c (.int k1 (.ofNat 0)))) (some (.c (.int k2 (.ofNat 0)))) n n=some (0,0,0):=by
      rfl
     exact slA_imm q1 hb (by simp [cut_eq])
   ·cases hk
 |nil0=>
  dsimp only at hk
  split at hk
  ·rename_i hcond
   simp only [Bool.and_eq_true] at hcond
   obtain ⟨⟨hc1,hc2⟩,hc3⟩:=hcond
   obtain ⟨k1,rfl⟩:=const0 hc1
   obtain ⟨k2,rfl⟩:=const0 hc2
   obtain rfl:lo=none:=(by cases lo <;> first | rfl | cases hc3)
   exact fin (v:=.nils) rfl (putV_tree hR (fun _=>.nil0) hk)
  ·cases hk
 |nil1=>
  dsimp only at hk
  split at hk
  ·rename_i hcond
   simp only [Bool.and_eq_true] at hcond
   obtain ⟨⟨hc1,hc2⟩,hc3⟩:=hcond
   obtain ⟨k1,rfl⟩:=const0 hc1
   obtain ⟨k2,rfl⟩:=const0 hc2
   obtain rfl:lo=none:=(by cases lo <;> first | rfl | cases hc3)
   refine fin (v:=.imm [] 0 (some 0)) ?_ (putV_tree hR (fun _=>.nil1) hk)
   have hb:bnds (ev st.env) none (some (.c (.int k1 (.ofNat 0)))) (some (.c (.int k2 (.ofNat 0)))) 0 0=some (0,0,0):=by
    rfl
   exact slA_imm (by simp) hb (by simp [cut_eq])
  ·cases hk
 |_=>cases hk
end
end Go.Ax.V

set_option linter.unusedSimpArgs false
set_option linter.unusedVariables false
namespace Go.Ax.V
section
variable {prog:Map AFunc} {cf:FnF} {nt:Nat} {A:Tok} {V:VSt} {st:St} {d:Option Nat} {g:G} {k:VSt→Prop}
theorem rows_len (zero:List AV):∀m,(rows m zero).length=m*zero.length
 |0=>by simp [rows]
 |m + 1=>by
  have:=rows_len zero m
  unfold rows at this ⊢
  rw [List.replicate_succ,List.flatten_cons,List.length_append,this,Nat.add_mul,Nat.one_mul,Nat.add_comm]
theorem rows_seg (zero:List AV):∀m j,j < m→((rows m zero).drop (j*zero.length)).take zero.length=zero
 |0,j,h=>by omega
 |m + 1,0,h=>by
  unfold rows
  rw [List.replicate_succ,List.flatten_cons,Nat.zero_mul,List.drop_zero,List.take_left]
 |m + 1,j + 1,h=>by
  have:=rows_seg zero m j (by omega)
  unfold rows at this ⊢
  rw [List.replicate_succ,List.flatten_cons,Nat.add_mul,Nat.one_mul,Nat.add_comm,List.drop_append,List.drop_of_length_le (by omega),List.nil_append]
  rwa [show zero.length + j*zero.length - zero.length=j*zero.length by omega]
theorem bases_can {cs:List AV} (h:allB constOk cs=true):CanL (basesOf cs) cs∧∀x∈cs,AV.flat x=true:=by
 refine ⟨⟨bases_len cs,fun j t x ht hx=>?_⟩,fun x hx=>(base_can (allB_true.1 h x hx)).2⟩
 rw [bases_at,hx] at ht
 cases ht
 exact (base_can (allB_true.1 h x (List.mem_of_getElem? hx))).1
theorem zero_can {zero:List AV} (h:allB constOk zero=true):CanC (zeroT zero.length zero) zero:=by
 have hb:=(bases_can h).1
 have ag:CanC (.a (basesOf zero)) zero:=.a _ _ hb.1 hb.2
 unfold zeroT
 split
 ·rename_i hl
  match zero,hl,h with
  |[x],_,h=>
   have hx:=allB_true.1 h x List.mem_cons_self
   refine .one _ _ ?_ (base_can hx).1
   cases x <;> first | rfl | cases hx
 ·exact ag
theorem o_mksl (hR:R A V st) {es bytes:Nat} {zero:List AV} {n:Opd} (h:pos es <| match allB constOk zero&&Nat.beq zero.length es with
   |true=>rdT V none n fun n=>∃m,natT bytes n=some m∧newV nt V d none .sl (.gr es (List.replicate m (zeroT es zero))) k
   |false=>False):Sim cf nt A V st d (.mksl es bytes zero n) k:=by
 have hz:=(pos_ok h).1
 replace h:=(pos_ok h).2
 split at h
 ·rename_i hc
  rw [Bool.and_eq_true,Nat.beq_eq] at hc
  obtain ⟨hc,rfl⟩:=hc
  obtain ⟨v,hv,m,h1,h2⟩:=rdT_sim (g:=none) hR trivial h
  unfold natT at h1
  split at h1
  ·rename_i ki z
   generalize he:ev st.env n=p at hv
   cases hv
   split at h1
   ·rename_i m' hm
    rw [cond_eq_ite] at h1
    split at h1
    ·rename_i hcond
     cases h1
     refine sim_new (f:=fun id=>.ref id 0 0 zero.length m m false) (ob:=.row 0 (rows m zero)) rfl ?_ (fresh_next hR h2 (fun A' hA=>⟨hz,.inr ⟨st.nx,0,0,rows m zero,by simp,by rw [Map.get_put,if_pos rfl],Nat.zero_le _,?_⟩⟩) rfl rfl (fun A' O hO=>.sl hO))
     ·simp only [pMksl,he,hm,hcond,cond_true]
     ·rw [List.drop_zero]
      refine ⟨by rw [rows_len,List.length_replicate],fun x hx=>?_,fun j e hj=>?_⟩
      ·unfold rows at hx
       obtain ⟨l,hl,hx⟩:=List.mem_flatten.1 hx
       rw [List.mem_replicate] at hl
       rw [hl.2] at hx
       exact (bases_can hc).2 x hx
      ·have hlt:j < m:=by have:=(List.getElem?_eq_some_iff.1 hj).1;simpa using this
       rw [List.getElem?_replicate,if_pos hlt] at hj
       cases hj
       rw [rows_seg zero m j hlt]
       exact zero_can hc
    ·cases h1
   ·cases h1
  ·cases h1
 ·cases h
theorem o_bin (hR:R A V st) (ha:act g) {op:BinOp} {x y:Opd} (h:rdT V g x fun x=>rdT V g y fun y=>resV nt V d g (binT op x y) k):Sim cf nt A V st d (.bin op x y) k:=by
 obtain ⟨u,h1,h⟩:=rdT_sim hR ha h
 obtain ⟨w,h2,h⟩:=rdT_sim hR ha h
 obtain ⟨r,h3,h4⟩:=resV_next hR ha h
 obtain ⟨c,h5,h6⟩:=binT_can h3 h1 h2
 have hk:kind (.bin op x y)=.plan fun ρ=>pureO (binA op (ρ x) (ρ y)):=rfl
 exact sim_val hk (by simp only [h5,pureO]) (h4 _ h6)
theorem o_un (hR:R A V st) (ha:act g) {op:UnOp} {x:Opd} (h:rdT V g x fun x=>resV nt V d g (unT op x) k):Sim cf nt A V st d (.un op x) k:=by
 obtain ⟨u,h1,h⟩:=rdT_sim hR ha h
 obtain ⟨r,h3,h4⟩:=resV_next hR ha h
 obtain ⟨c,h5,h6⟩:=unT_can h3 h1
 have hk:kind (.un op x)=.plan fun ρ=>pureO (unA op (ρ x)):=rfl
 exact sim_val hk (by simp only [h5,pureO]) (h4 _ h6)
theorem o_conv (hR:R A V st) (ha:act g) {c:IntKind} {x:Opd} (h:rdT V g x fun x=>resV nt V d g (convT c x) k):Sim cf nt A V st d (.conv c x) k:=by
 obtain ⟨u,h1,h⟩:=rdT_sim hR ha h
 obtain ⟨r,h3,h4⟩:=resV_next hR ha h
 unfold convT at h3
 split at h3
 ·cases h3
  generalize he:ev st.env x=p at h1
  cases h1
  exact sim_val rfl (by simp only [pConv,he]) (h4 _ (.i _ _))
 ·cases h3
theorem eqT_can {t:EqT} {neg:Bool} {x y r:TV} {a b:AV} (h:eqT t neg x y=some r) (ha:Can x a) (hb:Can y b):∃c,eqV t a b=some c∧r=.b (bif neg then !c else c):=by
 cases t with
 |one l=>
  simp only [eqT] at h
  cases hx:flatA x with
  |none=>rw [hx] at h;cases h
  |some x'=>
   rw [hx] at h
   cases hy:flatA y with
   |none=>rw [hy] at h;cases h
   |some y'=>
    rw [hy] at h
    simp only at h
    cases hc:eqS l x' y' with
    |none=>rw [hc] at h;cases h
    |some c=>
     rw [hc] at h
     cases h
     exact ⟨c,by rw [flatA_can hx ha,flatA_can hy hb];exact hc,by cases neg <;> rfl⟩
 |agg ls=>
  cases ha <;> first | (cases h;done) | skip
  rename_i xs as hl hf hh
  cases hb <;> first | (cases h;done) | skip
  rename_i ys bs hl' hf' hh'
  simp only [eqT] at h
  cases hx:flatAs xs with
  |none=>rw [hx] at h;cases h
  |some x'=>
   rw [hx] at h
   cases hy:flatAs ys with
   |none=>rw [hy] at h;cases h
   |some y'=>
    rw [hy] at h
    simp only at h
    cases hc:eqL ls x' y' with
    |none=>rw [hc] at h;cases h
    |some c=>
     rw [hc] at h
     cases h
     refine ⟨c,?_,by cases neg <;> rfl⟩
     rw [flatAs_can hx ⟨hl,hh⟩,flatAs_can hy ⟨hl',hh'⟩]
     exact hc
 |slice=>cases h
theorem o_eq (hR:R A V st) (ha:act g) {t:EqT} {neg:Bool} {x y:Opd} (h:rdT V g x fun x=>rdT V g y fun y=>resV nt V d g (eqT t neg x y) k):Sim cf nt A V st d (.eq t neg x y) k:=by
 obtain ⟨u,h1,h⟩:=rdT_sim hR ha h
 obtain ⟨w,h2,h⟩:=rdT_sim hR ha h
 obtain ⟨r,h3,h4⟩:=resV_next hR ha h
 have hk:kind (.eq t neg x y)=.plan fun ρ=>pEq ρ t neg x y:=rfl
 obtain ⟨c,h5,rfl⟩:=eqT_can h3 h1 h2
 exact sim_val hk (by simp only [pEq,h5];cases neg <;> rfl) (h4 _ (.b _))
theorem o_eqs (hR:R A V st) {neg:Bool} {x y:Opd} (hy:isNils y=true) (h:rdT V none x fun x=>∃es:List TV,listT x=some es∧∀b:Bool,(es≠[]→b=neg)→putV nt V d none (.tr (.b b)) k):Sim cf nt A V st d (.eq .slice neg x y) k:=by
 obtain ⟨u,h1,es,h2,h3⟩:=rdT_sim (g:=none) hR trivial h
 have hk:kind (.eq .slice neg x y)=.plan fun ρ=>pEq ρ .slice neg x y:=rfl
 have hyv:ev st.env y=.nils:=by
  cases y with
  |c v=>cases v <;> first | rfl | cases hy
  |t n=>cases hy
 have hc:∃c,eqV .slice (ev st.env x) .nils=some c∧(es≠[]→c=false):=by
  generalize ev st.env x=a at h1
  cases h1 <;> first | (cases h2;done) | skip
  ·cases h2;exact ⟨true,rfl,fun h=>absurd rfl h⟩
  ·exact ⟨false,rfl,fun _=>rfl⟩
 obtain ⟨c,h4,h5⟩:=hc
 refine sim_val hk (v:=.bool (bif neg then !c else c)) (by simp only [pEq,hyv,h4];cases neg <;> rfl) (putV_tree hR (fun _=>.tr (.b _)) (h3 _ (fun hne=>?_)))
 rw [h5 hne];cases neg <;> rfl
theorem o_mnx (hR:R A V st) (ha:act g) {mx:Bool} {xs:List Opd} (h:rdTs V g xs fun xs=>resV nt V d g (mnxT mx xs) k):Sim cf nt A V st d (.mnx mx xs) k:=by
 obtain ⟨vs,h1,h⟩:=rdTs_sim hR ha h
 obtain ⟨r,h3,h4⟩:=resV_next hR ha h
 unfold mnxT at h3
 split at h3
 ·rename_i v l hl
  split at h3
  ·rename_i r' hr
   have e:=flatAs_can hl h1
   have hk:kind (.mnx mx xs)=.plan fun ρ=>pMnx ρ mx xs:=rfl
   exact sim_val hk (by simp only [pMnx,e,hr,pureO]) (h4 _ (flatV_can h3))
  ·cases h3
 ·cases h3
theorem o_idx (hR:R A V st) (ha:act g) {x i:Opd} (h:rdT V g x fun x=>rdT V g i fun i=>resV nt V d g (idxST x i) k):Sim cf nt A V st d (.idx x i) k:=by
 obtain ⟨u,h1,h⟩:=rdT_sim hR ha h
 obtain ⟨w,h2,h⟩:=rdT_sim hR ha h
 obtain ⟨r,h3,h4⟩:=resV_next hR ha h
 unfold idxST at h3
 split at h3
 ·split at h3
  ·split at h3
   ·rename_i b hb
    cases h3
    generalize e1:ev st.env x=p at h1
    generalize e2:ev st.env i=q at h2
    cases h1;cases h2
    exact sim_val rfl (by simp only [pIdx,e1,e2,hb]) (h4 _ (.i _ _))
   ·cases h3
  ·cases h3
 ·cases h3
theorem o_slstr (hR:R A V st) (ha:act g) {x:Opd} {lo hi:Option Opd} (h:rdT V g x fun x=>ordT V g lo fun lo=>ordT V g hi fun hi=>resV nt V d g (slstrT x lo hi) k):Sim cf nt A V st d (.slstr x lo hi) k:=by
 obtain ⟨u,h1,h⟩:=rdT_sim hR ha h
 obtain ⟨l,h,hl⟩:=ordT_bd hR ha h
 obtain ⟨hv,h,hh⟩:=ordT_bd hR ha h
 obtain ⟨r,h3,h4⟩:=resV_next hR ha h
 unfold slstrT at h3
 split at h3
 ·split at h3
  ·rename_i a b hab
   cases h3
   obtain ⟨hb,_,_⟩:=bds_can hl hh hab
   generalize e1:ev st.env x=p at h1
   cases h1
   exact sim_val rfl (by simp only [pSlstr,e1,hb]) (h4 _ (.s _))
  ·cases h3
 ·cases h3
theorem o_ext (hR:R A V st) (ha:act g) {i:Nat} {x:Opd} (h:rdT V g x fun x=>resV nt V d g (extT i x) k):Sim cf nt A V st d (.ext i x) k:=by
 obtain ⟨u,h1,h⟩:=rdT_sim hR ha h
 obtain ⟨r,h3,h4⟩:=resV_next hR ha h
 unfold extT at h3
 split at h3
 ·rename_i vs
  generalize e1:ev st.env x=p at h1
  cases h1 with
  |tp _ as hl hf hh=>
   have hlt:i < as.length:=by rw [←hl];exact (List.getElem?_eq_some_iff.1 h3).1
   have hx:as[i]?=some as[i]:=List.getElem?_eq_getElem hlt
   exact sim_val rfl (by simp only [pExt,e1,hx,pureO]) (h4 _ (hh i r _ h3 hx))
 ·cases h3
def sc (t:TV):Bool:=match t with | .l _=>false | .a _=>false | .tp _=>false | _=>true
theorem imm_back {d:Nat} {H:Heap} {v a:AV} (h:toImm (d + 1) H v=some a) (hi:∀cs n c,a≠.imm cs n c) (ha:∀cs,a≠.agg cs) (ht:∀cs,a≠.tup cs):v=a:=by
 cases v with
 |ref id g off es len cap ex=>
  rw [toImm_ref] at h
  split at h
  ·rw [cond_eq_ite] at h
   split at h
   ·split at h
    ·split at h
     ·cases h;exact absurd rfl (hi _ _ _)
     ·cases h
    ·cases h
   ·cases h
  ·cases h
 |agg cs=>
  rw [toImm_agg] at h
  split at h
  ·cases h;exact absurd rfl (ha _)
  ·cases h
 |tup cs=>
  rw [toImm_tup] at h
  split at h
  ·cases h;exact absurd rfl (ht _)
  ·cases h
 |ptr=>cases h
 |mapr=>cases h
 |_=>exact Option.some.inj h
theorem sc_own {t:TV} {a v:AV} (h:Can t a) (hs:sc t=true) {d:Nat} {H:Heap} (him:toImm (d + 1) H v=some a):own (d + 1) H v=true:=by
 cases h <;> first | (cases hs;done) | skip
 all_goals
  have:=imm_back him (fun _ _ _ h=>by cases h) (fun _ h=>by cases h) (fun _ h=>by cases h)
  subst this
  rfl
theorem allB_own {ts:List TV} {as vs:List AV} {d:Nat} {H:Heap} (f:TV→Bool) (ho:∀t a v,Can t a→f t=true→toImm d H v=some a→own d H v=true) (hc:CanL ts as) (hs:∀t∈ts,f t=true) (hm:mapO (toImm d H) vs=some as):allB (own d H) vs=true:=by
 rw [allB_true]
 intro v hv
 obtain ⟨j,hj⟩:=List.getElem?_of_mem hv
 obtain ⟨hl,hat⟩:=mapO_some hm
 obtain ⟨a,ha,him⟩:=hat j v hj
 have hlt:j < ts.length:=by rw [hc.1];exact (List.getElem?_eq_some_iff.1 ha).1
 exact ho _ a v (hc.2 j _ a (List.getElem?_eq_getElem hlt) ha) (hs _ (List.getElem_mem hlt)) him
theorem scal1_own {t:TV} {a v:AV} (h:Can t a) (hs:t.scal1=true) {d:Nat} {H:Heap} (him:toImm (d + 2) H v=some a):own (d + 2) H v=true:=by
 cases h with
 |a ts as hl hf hh=>
  have hs':=allB_true.1 hs
  cases v with
  |agg cs=>
   rw [toImm_agg] at him
   split at him
   ·rename_i cs' hm
    cases him
    rw [own_agg]
    exact allB_own sc (fun t a v h1 h2 h3=>sc_own h1 h2 h3) ⟨hl,hh⟩ (fun t ht=>hs' t ht) hm
   ·cases him
  |ref id g off es len cap ex=>
   rw [toImm_ref] at him
   split at him
   ·rw [cond_eq_ite] at him
    split at him
    ·split at him
     ·split at him <;> cases him
     ·cases him
    ·cases him
   ·cases him
  |tup cs=>rw [toImm_tup] at him;split at him <;> cases him
  |_=>cases him
 |tp ts as hl hf hh=>cases hs
 |nil=>cases hs
 |imm=>cases hs
 |i k n=>exact sc_own (.i k n) rfl him
 |b x=>exact sc_own (.b x) rfl him
 |s x=>exact sc_own (.s x) rfl him
 |f n=>exact sc_own (.f n) rfl him
 |np=>exact sc_own .np rfl him
theorem scal_own {t:TV} {a v:AV} (h:Can t a) (hs:t.scal=true) {d:Nat} {H:Heap} (him:toImm (d + 3) H v=some a):own (d + 3) H v=true:=by
 cases h with
 |tp ts as hl hf hh=>
  have hs':=allB_true.1 hs
  cases v with
  |tup cs=>
   rw [toImm_tup] at him
   split at him
   ·rename_i cs' hm
    cases him
    rw [own_tup]
    exact allB_own TV.scal1 (fun t a v h1 h2 h3=>scal1_own h1 h2 h3) ⟨hl,hh⟩ (fun t ht=>hs' t ht) hm
   ·cases him
  |ref id g off es len cap ex=>
   rw [toImm_ref] at him
   split at him
   ·rw [cond_eq_ite] at him
    split at him
    ·split at him
     ·split at him <;> cases him
     ·cases him
    ·cases him
   ·cases him
  |agg cs=>rw [toImm_agg] at him;split at him <;> cases him
  |_=>cases him
 |a ts as hl hf hh=>exact scal1_own (.a ts as hl hf hh) hs him
 |nil=>cases hs
 |imm=>cases hs
 |i k n=>exact sc_own (.i k n) rfl him
 |b x=>exact sc_own (.b x) rfl him
 |s x=>exact sc_own (.s x) rfl him
 |f n=>exact sc_own (.f n) rfl him
 |np=>exact sc_own .np rfl him
theorem doCall_vs {ts:List TV} {Q:TV→Prop} {f:Nat} {vs as':List AV} {H:Heap} {nx:Nat} {p:Bool} (h:VS prog f ts fun r=>scOk p r∧Q r) (h1:mapO (toImm deep H) vs=some as') (h2:CanL ts as')
  (h3:allB AV.plain vs=true→as'=vs) (h4:p=true→allB AV.plain vs=true):∃v r,doCall (runFn prog) f vs .borrow H nx=some (v,H,nx)∧Can r v∧Q r:=by
 obtain ⟨v,H',nx',g1,a,g2,r,g3,g4,g5⟩:=h as' h2
 by_cases hp:allB AV.plain vs=true
 ·have e:=h3 hp
  subst e
  refine ⟨a,r,?_,g3,g5⟩
  have hend:endOwn (some (v,H',nx')) false=some a:=by
   simp only [endOwn,cond_eq_ite]
   rw [if_neg (by decide)]
   by_cases hv:v.plain=true
   ·rw [if_pos hv]
    have:toImm deep H' v=some v:=imm_plain hv 27 _
    rw [this] at g2;exact g2
   ·rw [if_neg hv];exact g2
  simp only [doCall,hp,cond_true,g1,hend]
 ·have hpf:p=false:=by cases p with | true=>exact absurd (h4 rfl) hp | false=>rfl
  subst hpf
  refine ⟨a,r,?_,g3,g5⟩
  have ho:own deep H' v=true:=scal_own (d:=27) g3 g4 g2
  have hpb:allB AV.plain vs=false:=by simpa using hp
  simp only [doCall,hpb,cond_false,h1,g1,endOwn,cond_true,ho,g2]
theorem o_call (hR:R A V st) (ha:act g) {f:Nat} {args:List Opd} (h:evCall prog nt V d g f args k):∃v,doCall (runFn prog) f (args.map (ev st.env)) .borrow st.H st.nx=some (v,st.H,st.nx)∧Next nt A V st d v st.H st.nx k:=by
 obtain ⟨p,ts,as',hk,h1,h2,h3,h4⟩:=argsK_sim hR ha args _ h
 cases g with
 |none=>
  obtain ⟨v,r,g1,g2,g3⟩:=doCall_vs (nx:=st.nx) hk h1 h2 h3 h4
  exact ⟨v,g1,putV_tree hR (fun _=>.tr g2) g3⟩
 |some q=>
  obtain ⟨c,bb⟩:=q
  obtain ⟨r,hg,hput⟩:=hk
  have hc:c=.b bb:=ha
  subst hc
  have hg':VS prog f ts fun r'=>r'=r∧scOk p r:=by
   unfold gV at hg
   cases bb <;> exact hg
  have hg'':VS prog f ts fun r'=>scOk p r'∧r'=r:=hg'.mono (fun r' ⟨e,hs⟩=>by subst e;exact ⟨hs,rfl⟩)
  obtain ⟨v,r',g1,g2,g3⟩:=doCall_vs (nx:=st.nx) hg'' h1 h2 h3 h4
  subst g3
  exact ⟨v,g1,putV_tree hR (fun _=>.tr g2) hput⟩
end
end Go.Ax.V

set_option linter.unusedSimpArgs false
set_option linter.unusedVariables false
namespace Go.Ax.V
section
variable {prog:Map AFunc} {nt:Nat}
section
variable {A:Tok} {V:VSt} {st:St}
theorem rdT_t (hR:R A V st) {n:Nat} {k:TV→Prop} (h:rdT V none (.t n) k):∃c a,st.env.get n=some a∧Can c a∧k c:=by
 obtain ⟨c,h1,h2⟩:=rdT_sim (g:=none) hR trivial h
 simp only [rdT,rdK] at h
 split at h
 ·cases h
 ·rename_i e he
  obtain ⟨a,ha,_⟩:=hR.env n e he
  rw [ev_get ha] at h1
  exact ⟨c,a,ha,h1,h2⟩
end
theorem r_addE {A:Tok} {V:VSt} {st:St} (h:R A V st) {t:Nat} {w:VV} {a:AV} (ha:st.env.get t=some a) (hw:VR A w a):R A (addE V t w) st where
 env t' e he:=by
  simp only [addE,Map.get_put] at he
  split at he
  ·rename_i ht;subst ht;cases he;exact ⟨a,ha,fun _=>hw⟩
  ·exact h.env t' e he
 heap:=h.heap
 inj:=h.inj
 used:=h.used
 one:=h.one
 fresh:=h.fresh
theorem name_sim {A0:Tok} {Vc:VSt} {st:St} (hR:R A0 Vc st) {O:Nat} {o:VO} {k:VSt→Prop} {a:AV} (h:nameK Vc O o k) (hO:∀A':Tok,(∀O x,A0 O=some x→A' O=some x)→OR A' st.H o a) (h1:a.one=true)
  (hid:∀id,idOf a=some id→¬Own Vc A0 id):∃Vc' A',k Vc'∧R A' Vc' st∧(∀O' x,A0 O'=some x→A' O'=some x)∧A' O=some a∧Vc'.env=Vc.env∧(∀id,Own Vc' A' id→Own Vc A0 id∨idOf a=some id)∧Vc'.H.get O=some o∧
   (∀O' x,A' O'=some x→A0 O'=some x∨O'=O):=by
 unfold nameK at h
 split at h
 ·cases h
 rename_i hus
 have hnone:=hR.used O hus
 let A':Tok:=fun O'=>if O'=O then some a else A0 O'
 have hA':∀O' x,A0 O'=some x→A' O'=some x:=fun O' x hx=>by
  show (if O'=O then _ else _)=_
  rw [if_neg (by rintro rfl;rw [hnone] at hx;cases hx)];exact hx
 have hAO:A' O=some a:=if_pos rfl
 have hback:∀O' x,A' O'=some x→O'≠O→A0 O'=some x:=fun O' x hx hne=>by
  have:(if O'=O then some a else A0 O')=some x:=hx
  rwa [if_neg hne] at this
 refine ⟨_,A',h,⟨fun t e he=>?_,fun O' o' ho=>?_,fun O1 O2 o1 o2 a1 a2 id ho1 ho2 ha1 ha2 hi1 hi2=>?_,fun O' hu=>?_,fun O' x hx=>?_,hR.fresh⟩,hA',hAO,rfl,fun id ⟨O',o',x,ho,hx,hi⟩=>?_,by simp only [Map.get_put,if_pos],fun O' x hx=>?_⟩
 ·obtain ⟨x,hx,hv⟩:=hR.env t e he
  exact ⟨x,hx,fun hh=>(hv hh).mono hA'⟩
 ·simp only [Map.get_put] at ho
  split at ho
  ·rename_i e;subst e;cases ho;exact ⟨a,hAO,hO A' hA'⟩
  ·obtain ⟨x,hx,hor⟩:=hR.heap O' o' ho
   exact ⟨x,hA' _ _ hx,hor.mono hA' (fun _ _=>rfl)⟩
 ·simp only [Map.get_put] at ho1 ho2
  by_cases e1:O1=O
  ·by_cases e2:O2=O
   ·rw [e1,e2]
   ·subst e1
    rw [if_neg e2] at ho2
    rw [hAO] at ha1;cases ha1
    exact absurd ⟨O2,_,a2,ho2,hback _ _ ha2 e2,hi2⟩ (hid id hi1)
  ·rw [if_neg e1] at ho1
   by_cases e2:O2=O
   ·subst e2
    rw [hAO] at ha2;cases ha2
    exact absurd ⟨O1,_,a1,ho1,hback _ _ ha1 e1,hi1⟩ (hid id hi2)
   ·rw [if_neg e2] at ho2
    exact hR.inj O1 O2 _ _ a1 a2 id ho1 ho2 (hback _ _ ha1 e1) (hback _ _ ha2 e2) hi1 hi2
 ·simp only [Map.get_put] at hu
  split at hu
  ·cases hu
  ·rename_i hne
   show (if O'=O then _ else _)=_
   rw [if_neg hne];exact hR.used O' hu
 ·by_cases e:O'=O
  ·subst e;rw [hAO] at hx;cases hx;exact h1
  ·exact hR.one O' x (hback _ _ hx e)
 ·simp only [Map.get_put] at ho
  by_cases e:O'=O
  ·subst e;rw [hAO] at hx;cases hx;exact .inr hi
  ·rw [if_neg e] at ho;exact .inl ⟨O',o',x,ho,hback _ _ hx e,hi⟩
 ·by_cases e:O'=O
  ·exact .inr e
  ·exact .inl (hback _ _ hx e)
structure Two (V:VSt) (A:Tok) (Vc:VSt) (A0:Tok) (st:St):Prop where
 old:R A V st
 new:R A0 Vc st
 apart:∀id,Own V A id→¬Own Vc A0 id
def Agree (A0 A:Tok):Prop:=∀O id,A0 O=some (.ptr id 0 0)→A O=some (.ptr id 0 0)
theorem takeS_sim {V:VSt} {A:Tok} {Vc:VSt} {A0:Tok} {st:St} (h:Two V A Vc A0 st) {sz:Nat} {w:VV} {x:AV} (hw:SlV A w x) {k:List TV→VSt→Prop} (hk:takeS V sz w k) :
  ∃es V',k es V'∧V'=dropVV V w∧Sub V V'∧(0 < sz→SlR st.H sz es x)∧x.one=true∧(∀id,idOf x=some id→Own V A id∧¬Own V' A id)∧(∀id,x≠.ptr id 0 0):=by
 cases w <;> first | (cases hk;done) | skip
 ·refine ⟨[],V,hk,rfl,Sub.refl V,fun hz=>⟨hz,.inl ⟨rfl,hw⟩⟩,?_,?_,?_⟩ <;> rcases hw with rfl | rfl <;> first | rfl | (intro id hi;cases hi)
 ·rename_i O
  simp only [takeS] at hk
  split at hk
  ·rename_i z es ho
   obtain ⟨rfl,hk2⟩:=same_ok hk
   have hA:A O=some x:=hw
   obtain ⟨y,hy,hs⟩:=h.old.heap O _ ho
   rw [hA] at hy;cases hy
   refine ⟨es,_,hk2,rfl,sub_dropO V O,fun _=>hs,h.old.one O x hA,fun id hi=>⟨⟨O,_,x,ho,hA,hi⟩,gone_dropO h.old ho hA hi⟩,fun id e=>?_⟩
   rcases hs.2 with ⟨_,e' | e'⟩ | ⟨_,_,_,_,e',_⟩ <;> (rw [e] at e';cases e')
  ·cases hk
theorem Two.sub {V V':VSt} {A:Tok} {Vc:VSt} {A0:Tok} {st:St} (h:Two V A Vc A0 st) (hs:Sub V V'):Two V' A Vc A0 st:=
 ⟨hs.r h.old,h.new,fun id ho=>h.apart id (hs.own ho)⟩
theorem keysIn_at {l:List (Nat×Nat)}:∀{ovs:List (Nat×VV)},keysIn ovs l=true→∀j w,ovAt j ovs=some w→hasKey j l=true
 |[],h,j,w,ho=>by simp [ovAt] at ho
 |(i,w') :: r,h,j,w,ho=>by
  simp only [keysIn,Bool.and_eq_true] at h
  rw [ovAt_cons] at ho
  split at ho
  ·rename_i e;subst e;exact h.1
  ·exact keysIn_at h.2 j w ho
theorem ovsOf_at {O j:Nat}:∀{l:List (Nat×Nat)},ovAt j (ovsOf O l)=if hasKey j l=true then some (.sl (tokC O j)) else none
 |[]=>by simp [ovsOf,ovAt,hasKey]
 |(i,z) :: l=>by
  simp only [ovsOf,ovAt_cons,ovsOf_at (l:=l),hasKey,Bool.or_eq_true,Nat.beq_eq]
  by_cases e:i=j
  ·subst e;simp
  ·rw [if_neg e]
   by_cases hk:hasKey j l=true
   ·rw [if_pos hk,if_pos (.inr hk)]
   ·rw [if_neg hk,if_neg]
    rintro (h | h)
    ·exact e h.symm
    ·exact hk h
theorem takeL_sim {Rt:Type} {O:Nat} {st:St} {ovs:List (Nat×VV)} {cs:List AV} {A:Tok} (hsl:∀j w,ovAt j ovs=some w→∃x,cs[j]?=some x∧SlV A w x):∀(offs:List (Nat×Nat)) (V Vc:VSt) (A0:Tok) (I:JL offs Rt) (k kc:Rt→VSt→Prop),
  (∀p∈offs,0 < p.2)→Two V A Vc A0 st→takeL V ovs offs I k→allL O offs Vc I kc→∃i V' Vc' A',k i V'∧kc i Vc'∧V'=restL V ovs offs∧Two V' A Vc' A' st∧Agree A' A0∧Sub V V'∧(∀O' x,A0 O'=some x→A' O'=some x)∧Vc'.env=Vc.env∧
   (∀id,Own Vc' A' id→Own Vc A0 id∨Own V A id)∧(∀j,hasKey j offs=true→∃x,cs[j]?=some x∧A' (tokC O j)=some x)
 |[],V,Vc,A0,I,k,kc,hz,h,hk,hkc=>⟨I,V,Vc,A0,hk,hkc,rfl,h,fun _ _ h=>h,Sub.refl V,fun _ _ h=>h,rfl,fun id h=>.inl h,fun j hj=>by cases hj⟩
 |(off,sz) :: offs,V,Vc,A0,I,k,kc,hz,h,hk,hkc=>by
  simp only [takeL] at hk
  split at hk
  ·rename_i w hw
   obtain ⟨x,hx,hs⟩:=hsl off w hw
   obtain ⟨es,V1,hk1,hV1,hs1,hsl1,hone,hid,hnp⟩:=takeS_sim h hs hk
   have hkc1:=hkc es
   obtain ⟨Vc1,A1,hkc2,hR1,hA1,hAo,henv,hown,_,hback⟩:=name_sim h.new hkc1 (fun A' _=>hsl1 (hz (off,sz) List.mem_cons_self)) hone (fun id hi=>h.apart id (hid id hi).1)
   have h1:Two V1 A Vc1 A1 st:=⟨hs1.r h.old,hR1,fun id ho hc=>(hown id hc).elim (fun hc=>h.apart id (hs1.own ho) hc) (fun hi=>(hid id hi).2 ho)⟩
   have hag:Agree A1 A0:=fun O' id hO'=>by
    rcases hback O' _ hO' with hh | rfl
    ·exact hh
    ·rw [hAo] at hO';cases hO';exact absurd rfl (hnp id)
   obtain ⟨i,V',Vc',A',g1,g2,g0,g3,g3a,g4,g5,g6,g7,g8⟩:=takeL_sim hsl offs V1 Vc1 A1 (I es) k kc (fun p hp=>hz p (List.mem_cons_of_mem _ hp)) h1 hk1 hkc2
   refine ⟨i,V',Vc',A',g1,g2,by rw [g0,hV1];simp only [restL,hw],g3,fun O' id hO'=>hag O' id (g3a O' id hO'),hs1.trans g4,fun O' y hy=>g5 _ _ (hA1 _ _ hy),g6.trans henv,fun id ho=>?_,fun j hj=>?_⟩
   ·rcases g7 id ho with ho | ho
    ·rcases hown id ho with ho | hi
     ·exact .inl ho
     ·exact .inr (hid id hi).1
    ·exact .inr (hs1.own ho)
   ·simp only [hasKey,Bool.or_eq_true,Nat.beq_eq] at hj
    rcases hj with rfl | hj
    ·exact ⟨x,hx,g5 _ _ hAo⟩
    ·exact g8 j hj
  ·cases hk
theorem prJ_sim {st:St} {A:Tok}:∀(J:List Ent) (V Vc:VSt) (A0:Tok) (I:JT J Prop) (k:VSt→Prop),J.all entPos=true→Two V A Vc A0 st→Agree A0 A→prJ J V I→allJ J Vc I k→
  ∃Vc' A',k Vc'∧R A' Vc' st∧(∀id,Own Vc' A' id→Own Vc A0 id∨Own V A id)∧Two (restJ J V) A Vc' A' st∧Sub V (restJ J V)
 |[],V,Vc,A0,I,k,hp,h,hag,hk,hkc=>⟨Vc,A0,hkc hk,h.new,fun id h=>.inl h,h,Sub.refl V⟩
 |.tr t :: J,V,Vc,A0,I,k,hp,h,hag,hk,hkc=>by
  rw [List.all_cons,Bool.and_eq_true] at hp
  obtain ⟨v,a,ha,hc,hk⟩:=rdT_t h.old hk
  obtain ⟨Vc',A',g1,g2,g3,g4⟩:=prJ_sim J V _ A0 (I v) k hp.2 ⟨h.old,r_addE h.new ha (.tr hc),h.apart⟩ hag hk (hkc v)
  exact ⟨Vc',A',g1,g2,g3,g4⟩
 |.sl t sz :: J,V,Vc,A0,I,k,hp,h,hag,hk,hkc=>by
  rw [List.all_cons,Bool.and_eq_true] at hp
  have hz:0 < sz:=by have:=hp.1;simpa [entPos] using this
  have hk':rdK V none (.t t) fun w=>takeS V sz w fun es V'=>prJ J V' (I es):=hk
  simp only [rdK] at hk'
  split at hk'
  ·cases hk'
  rename_i e he
  obtain ⟨a,ha,hv⟩:=h.old.env t e he
  split at hk'
  rotate_left
  ·cases hk'
  rename_i hg
  have hv':=hv (fun c bb hh=>by rw [hg] at hh;cases hh)
  have hsl:SlV A e.v a:=by
   have hne:=hk'
   unfold takeS at hne
   generalize e.v=w at hv' hne
   cases hv' <;> first | (cases hne;done) | skip
   ·exact .inl rfl
   ·exact .inr rfl
   ·assumption
  obtain ⟨es,V1,hk1,hV1,hs1,hsl1,hone,hid,hnp⟩:=takeS_sim h hsl hk'
  have hkc1:=hkc es
  obtain ⟨Vc1,A1,hkc2,hR1,hA1,hAo,henv,hown,_,hback⟩:=name_sim h.new hkc1 (fun A' _=>hsl1 hz) hone (fun id hi=>h.apart id (hid id hi).1)
  have h1:Two V1 A (addE Vc1 t (.sl t)) A1 st:=⟨hs1.r h.old,r_addE hR1 ha (.sl hAo),fun id ho hc=>(hown id hc).elim (fun hc=>h.apart id (hs1.own ho) hc) (fun hi=>(hid id hi).2 ho)⟩
  have hag1:Agree A1 A:=fun O' id hO'=>by
   rcases hback O' _ hO' with hh | rfl
   ·exact hag O' id hh
   ·rw [hAo] at hO';cases hO';exact absurd rfl (hnp id)
  obtain ⟨Vc',A',g1,g2,g3,g4,g5⟩:=prJ_sim J V1 _ A1 (I es) k hp.2 h1 hag1 hk1 hkc2
  have hvv:vvOf V (.t t)=e.v:=by simp only [vvOf,he]
  have hrest:restJ (.sl t sz :: J) V=restJ J V1:=by simp only [restJ];rw [hvv,hV1]
  refine ⟨Vc',A',g1,g2,fun id ho=>?_,by rw [hrest];exact g4,by rw [hrest];exact hs1.trans g5⟩
  rcases g3 id ho with ho | ho
  ·rcases hown id ho with ho | hi
   ·exact .inl ho
   ·exact .inr (hid id hi).1
  ·exact .inr (hs1.own ho)
 |.pt t O off :: J,V,Vc,A0,I,k,hp,h,hag,hk,hkc=>by
  rw [List.all_cons,Bool.and_eq_true] at hp
  simp only [allJ] at hkc
  split at hkc
  rotate_left
  ·cases hkc
  rename_i v ovs hO
  obtain ⟨y,hy,id,cs,ts,rfl,hH,hc⟩:=h.new.heap O _ hO
  have hagr:=hag O id hy
  have hk':rdK V none (.t t) fun w=>match w with
   |.ptr O' off'=>same O' O (same off' off (prJ J V I))
   |_=>False:=hk
  simp only [rdK] at hk'
  split at hk'
  ·cases hk'
  rename_i e he
  obtain ⟨a,ha,hv⟩:=h.old.env t e he
  split at hk'
  rotate_left
  ·cases hk'
  rename_i hg
  have hv':=hv (fun c bb hh=>by rw [hg] at hh;cases hh)
  generalize e.v=w at hv' hk'
  cases hv' <;> first | (cases hk';done) | skip
  rename_i O' off' id' hO'
  obtain ⟨rfl,hk'⟩:=same_ok hk'
  obtain ⟨rfl,hk'⟩:=same_ok hk'
  rw [hagr] at hO';cases hO'
  obtain ⟨Vc',A',g1,g2,g3,g4⟩:=prJ_sim J V _ A0 I k hp.2 ⟨h.old,r_addE h.new ha (.ptr hy),h.apart⟩ hag hk' hkc
  exact ⟨Vc',A',g1,g2,g3,g4⟩
 |.ob O offs :: J,V,Vc,A0,I,k,hp,h,hag,hk,hkc=>by
  rw [List.all_cons,Bool.and_eq_true] at hp
  have hz:∀p∈offs,0 < p.2:=fun p hm=>by have:=List.all_eq_true.1 hp.1 p hm;simpa using this
  simp only [prJ] at hk
  split at hk
  rotate_left
  ·cases hk
  rename_i v ovs hO
  split at hk
  rotate_left
  ·cases hk
  rename_i hkeys
  obtain ⟨y,hy,id,cs,ts,rfl,hH,hc⟩:=h.old.heap O _ hO
  have hsl:∀j w,ovAt j ovs=some w→∃x,cs[j]?=some x∧SlV A w x:=fun j w hj=>by
   have hlt:=hc.keys j w hj
   have hx:cs[j]?=some (cs[j]'(by rw [←hc.len];exact hlt)):=List.getElem?_eq_getElem _
   have:=hc.at_ j _ _ (List.getElem?_eq_getElem hlt) hx
   rw [hj] at this
   exact ⟨_,hx,this⟩
  have hgone:=gone_dropO h.old hO hy (id:=id) rfl
  have hownO:Own V A id:=⟨O,_,_,hO,hy,rfl⟩
  have h1:Two (dropO V O) A Vc A0 st:=h.sub (sub_dropO V O)
  obtain ⟨i,V',Vc',A',g1,g2,g0,g3,g3a,g4,g5,g6,g7,g8⟩:=takeL_sim hsl offs (dropO V O) Vc A0 (I v) (fun I V'=>prJ J V' I) _ hz h1 hk (hkc v)
  have hor:∀A3:Tok,(∀O x,A' O=some x→A3 O=some x)→OR A3 st.H (.ob v (ovsOf O offs)) (.ptr id 0 0):=by
   intro A3 hA3
   refine ⟨id,cs,ts,rfl,hH,⟨hc.cells,hc.len,fun j w hj=>?_,fun j t x ht hx=>?_⟩⟩
   ·rw [ovsOf_at] at hj
    split at hj
    ·rename_i hh
     obtain ⟨x,hx,_⟩:=g8 j hh
     rw [hc.len];exact (List.getElem?_eq_some_iff.1 hx).1
    ·cases hj
   ·rw [ovsOf_at]
    by_cases hh:hasKey j offs=true
    ·rw [if_pos hh]
     obtain ⟨x',hx',hA'⟩:=g8 j hh
     rw [hx] at hx';cases hx'
     exact hA3 _ _ hA'
    ·rw [if_neg hh]
     have:=hc.at_ j t x ht hx
     cases ho:ovAt j ovs with
     |none=>rw [ho] at this;exact this
     |some w=>exact absurd (keysIn_at hkeys j w ho) hh
  obtain ⟨Vc2,A2,p1,p2,p3,p4,p5,p6,p7,p8⟩:=name_sim g3.new (a:=.ptr id 0 0) g2 hor rfl (fun id' hi=>by
   cases hi
   intro ho
   rcases g7 _ ho with ho | ho
   ·exact h.apart _ hownO ho
   ·exact hgone ho)
  have h2:Two V' A Vc2 A2 st:=⟨g3.old,p2,fun id' ho hc'=>by
   rcases p6 id' hc' with hc' | hi
   ·exact g3.apart id' ho hc'
   ·cases hi;exact hgone (g4.own ho)⟩
  have hag2:Agree A2 A:=fun O' id' hO'=>by
   rcases p8 O' _ hO' with hh | rfl
   ·exact hag O' id' (g3a O' id' hh)
   ·rw [p4] at hO';cases hO';exact hy
  obtain ⟨Vc3,A3,q1,q2,q3,q4,q5⟩:=prJ_sim J V' Vc2 A2 i k hp.2 h2 hag2 g1 p1
  have hrest:restJ (.ob O offs :: J) V=restJ J V':=by simp only [restJ,hO];rw [g0]
  refine ⟨Vc3,A3,q1,q2,fun id' ho=>?_,by rw [hrest];exact q4,by rw [hrest];exact ((sub_dropO V O).trans g4).trans q5⟩
  rcases q3 id' ho with ho | ho
  ·rcases p6 id' ho with ho | hi
   ·rcases g7 id' ho with ho | ho
    ·exact .inl ho
    ·exact .inr ((sub_dropO V O).own ho)
   ·cases hi;exact .inr hownO
  ·exact .inr ((sub_dropO V O).own (g4.own ho))
theorem R.zero {A:Tok} {V:VSt} {st:St} (h:R A V st):R (fun _=>none) V0 st:=
 ⟨fun t e he=>(by cases he),fun O o ho=>(by cases ho),fun O O' o o' a a' id ho=>(by cases ho),fun _ _=>rfl,fun O a ha=>(by cases ha),h.fresh⟩
theorem meet_sim {A:Tok} {V:VSt} {st:St} (h:R A V st) {J:List Ent} {I:JT J Prop} {k:VSt→Prop} (hp:J.all entPos=true) (hk:prJ J V I) (hkc:allJ J V0 I k):∃Vc A',k Vc∧R A' Vc st∧Fr V A st.H st.nx Vc A' st.H st.nx:=by
 have no0:∀id,¬Own V0 (fun _=>none) id:=fun id ⟨O,o,a,ho,_⟩=>by cases ho
 obtain ⟨Vc,A',g1,g2,g3,_⟩:=prJ_sim J V V0 (fun _=>none) I k hp ⟨h,h.zero,fun id _ hc=>no0 id hc⟩ (fun O id hO=>by cases hO) hk hkc
 exact ⟨Vc,A',g1,g2,⟨Nat.le_refl _,fun _ _ _=>rfl,fun id ho=>(g3 id ho).elim (fun h=>absurd h (no0 id)) .inl⟩⟩
end
end Go.Ax.V

set_option linter.unusedSimpArgs false
set_option linter.unusedVariables false
namespace Go.Ax.V
def CallOk (prog:Map AFunc) (f np:Nat) (Jout:List Ent) (Q:JT Jout Prop) (Vc:VSt):Prop:=
 ∀(A:Tok) (as:List AV) (H:Heap) (nx:Nat),as.length=np→R A Vc ⟨initE as 0 .leaf,H,nx⟩→
  ∃v H' nx' A' V',runFn prog f as H nx=some (v,H',nx')∧R A' V' ⟨(initE as 0 .leaf).put (some v) np,H',nx'⟩∧prJ Jout V' Q∧Fr Vc A H nx V' A' H' nx'
noncomputable def VSh (prog:Map AFunc) (f np:Nat) (Jin Jout:List Ent) (Q:JT Jout Prop):JT Jin Prop:=mkJ Jin V0 (CallOk prog f np Jout Q)
theorem memB_iff' {n:Nat}:∀{l:List Nat},memB n l=true↔n∈l
 |[]=>by simp [memB]
 |m :: l=>by simp [memB,memB_iff' (l:=l)]
theorem free_none {us:Map Unit} {O:Nat} (h:freeB us O=true):us.get O=none:=by
 unfold freeB at h
 split at h
 ·cases h
 ·assumption
theorem nameK_of {V:VSt} {O:Nat} {o:VO} {k:VSt→Prop} (hf:freeB V.us O=true) (h:k (nameV V O o)):nameK V O o k:=by
 have hn:=free_none hf
 unfold nameK
 rw [hn]
 exact h
def Keep (V V':VSt):Prop:=∀T,V.us.get T=some ()→V'.us.get T=some ()∧V'.H.get T=V.H.get T
theorem keep_name {V:VSt} {O:Nat} {o:VO} (hf:freeB V.us O=true):Keep V (nameV V O o):=by
 intro T hT
 have hne:T≠O:=by rintro rfl;rw [free_none hf] at hT;cases hT
 exact ⟨by simp only [nameV,Map.get_put,if_neg hne];exact hT,by simp only [nameV,Map.get_put,if_neg hne]⟩
theorem Keep.trans {V V1 V2:VSt} (h:Keep V V1) (h':Keep V1 V2):Keep V V2:=fun T hT=>let ⟨a,b⟩:=h T hT;let ⟨c,d⟩:=h' T a;⟨c,d.trans b⟩
theorem allL_mk {Rt:Type} {O:Nat}:∀(offs:List (Nat×Nat)) (V:VSt) (us:Map Unit) (k:VSt→Rt) (kk:Rt→VSt→Prop),okL O offs V.us=some us→(∀V',V'.us=us→Keep V V'→kk (k V') V')→allL O offs V (mkL O offs V k) kk
 |[],V,us,k,kk,h,hk=>by cases h;exact hk V rfl (fun T hT=>⟨hT,rfl⟩)
 |(off,sz) :: offs,V,us,k,kk,h,hk=>by
  simp only [okL,cond_eq_ite] at h
  split at h
  ·rename_i hf
   intro es
   refine nameK_of hf ?_
   exact allL_mk offs _ us k kk h (fun V' h1 h2=>hk V' h1 ((keep_name hf).trans h2))
  ·cases h
theorem allJ_mk:∀(J:List Ent) (V:VSt) (obs:List Nat) (k:VSt→Prop),okN J V.us obs=true→(∀O∈obs,V.us.get O=some ()∧∃v ov,V.H.get O=some (.ob v ov))→allJ J V (mkJ J V k) k
 |[],V,obs,k,h,ho=>fun hk=>hk
 |.tr t :: J,V,obs,k,h,ho=>fun v=>allJ_mk J (addE V t (.tr v)) obs k h ho
 |.sl t sz :: J,V,obs,k,h,ho=>by
  simp only [okN,Bool.and_eq_true] at h
  intro es
  refine nameK_of h.1 ?_
  refine allJ_mk J _ obs k h.2 (fun O hO=>?_)
  obtain ⟨h1,v,ov,h2⟩:=ho O hO
  obtain ⟨h3,h4⟩:=keep_name (o:=.gr sz es) h.1 O h1
  exact ⟨h3,v,ov,by rw [←h2];exact h4⟩
 |.pt t O off :: J,V,obs,k,h,ho=>by
  simp only [okN,Bool.and_eq_true] at h
  obtain ⟨h1,v,ov,h2⟩:=ho O (memB_iff'.1 h.1)
  simp only [allJ,h2]
  exact allJ_mk J (addE V t (.ptr O off)) obs k h.2 ho
 |.ob O offs :: J,V,obs,k,h,ho=>by
  simp only [okN] at h
  split at h
  ·rename_i us hus
   rw [Bool.and_eq_true] at h
   intro v
   refine allL_mk offs V us _ _ hus (fun V' hu hkp=>?_)
   have hf:freeB V'.us O=true:=by rw [hu];exact h.1
   refine nameK_of hf ?_
   refine allJ_mk J _ (O :: obs) k (by show okN J (V'.us.put (some ()) O) (O :: obs)=true;rw [hu];exact h.2) (fun O' hO'=>?_)
   rcases List.mem_cons.1 hO' with rfl | hO'
   ·exact ⟨by simp only [nameV,Map.get_put,if_pos],v,ovsOf O' offs,by simp only [nameV,Map.get_put,if_pos]⟩
   ·obtain ⟨h1,v',ov,h2⟩:=ho O' hO'
    obtain ⟨h3,h4⟩:=(hkp.trans (keep_name (o:=.ob v (ovsOf O offs)) hf)) O' h1
    exact ⟨h3,v',ov,by rw [←h2];exact h4⟩
  ·cases h
section
variable {prog:Map AFunc} {nt:Nat}
theorem own_again {A:Tok} {V:VSt} {st:St} (hR:R A V st) {O:Nat} {o:VO} {a:AV} (hA:A O=some a) (hO:OR A st.H o a) (hid:∀id,idOf a=some id→¬Own V A id) :
  R A (setVO V O o) st∧∀id,Own (setVO V O o) A id→Own V A id∨idOf a=some id:=by
 refine ⟨⟨hR.env,fun O' o' ho=>?_,fun O1 O2 o1 o2 a1 a2 id ho1 ho2 ha1 ha2 hi1 hi2=>?_,hR.used,hR.one,hR.fresh⟩,fun id ⟨O',o',x,ho,hx,hi⟩=>?_⟩
 ·simp only [setVO,Map.get_put] at ho
  split at ho
  ·rename_i e;subst e;cases ho;exact ⟨a,hA,hO⟩
  ·exact hR.heap O' o' ho
 ·simp only [setVO,Map.get_put] at ho1 ho2
  by_cases e1:O1=O
  ·by_cases e2:O2=O
   ·rw [e1,e2]
   ·subst e1
    rw [if_neg e2] at ho2
    rw [hA] at ha1;cases ha1
    exact absurd ⟨O2,_,a2,ho2,ha2,hi2⟩ (hid id hi1)
  ·rw [if_neg e1] at ho1
   by_cases e2:O2=O
   ·subst e2
    rw [hA] at ha2;cases ha2
    exact absurd ⟨O1,_,a1,ho1,ha1,hi1⟩ (hid id hi2)
   ·rw [if_neg e2] at ho2
    exact hR.inj O1 O2 _ _ a1 a2 id ho1 ho2 ha1 ha2 hi1 hi2
 ·simp only [setVO,Map.get_put] at ho
  by_cases e:O'=O
  ·subst e;rw [hA] at hx;cases hx;exact .inr hi
  ·rw [if_neg e] at ho;exact .inl ⟨O',o',x,ho,hx,hi⟩
structure Back (V2:VSt) (A2:Tok) (st2:St) (Vr:VSt) (A:Tok) (st:St):Prop where
 old:R A2 V2 st2
 new:R A Vr st
 H:st.H=st2.H
 nx:st.nx=st2.nx
 apart:∀id,Own V2 A2 id→¬Own Vr A id
theorem takeS_back {V2 Vr:VSt} {A2 A:Tok} {st2 st:St} (h:Back V2 A2 st2 Vr A st) {sz:Nat} {w:VV} {x:AV} (hw:SlV A2 w x) {k:List TV→VSt→Prop} (hk:takeS V2 sz w k) :
  ∃es V',k es V'∧Sub V2 V'∧(0 < sz→SlR st.H sz es x)∧x.one=true∧(∀id,idOf x=some id→Own V2 A2 id∧¬Own V' A2 id):=by
 obtain ⟨es,V',h1,_,h2,h3,h4,h5,_⟩:=takeS_sim (Vc:=V0) (A0:=fun _=>none) (st:=st2) ⟨h.old,h.old.zero,fun id _ ⟨O,o,a,ho,_⟩=>(by cases ho)⟩ hw hk
 exact ⟨es,V',h1,h2,by rw [h.H];exact h3,h4,h5⟩
theorem takeL_back {Rt:Type} {d:Nat} {st2 st:St} {ovs:List (Nat×VV)} {cs:List AV} {A2:Tok} (hsl:∀j w,ovAt j ovs=some w→∃x,cs[j]?=some x∧SlV A2 w x):∀(offs:List (Nat×Nat)) (V2 Vr:VSt) (A:Tok) (us:Map Unit) (kc:VSt→Rt) (k:Rt→VSt→Prop),
  (∀p∈offs,0 < p.2)→Back V2 A2 st2 Vr A st→okLS d offs Vr.us=some us→takeL V2 ovs offs (conL d offs Vr kc) k→
  ∃V2' Vr' A',k (kc Vr') V2'∧Back V2' A2 st2 Vr' A' st∧Sub V2 V2'∧Vr'.us=us∧(∀O x,A O=some x→A' O=some x)∧(∀id,Own Vr' A' id→Own Vr A id∨Own V2 A2 id)∧(∀j,hasKey j offs=true→∃x,cs[j]?=some x∧A' (tokS d j)=some x)
 |[],V2,Vr,A,us,kc,k,hz,h,hus,hk=>by
  cases hus
  exact ⟨V2,Vr,A,hk,h,Sub.refl V2,rfl,fun _ _ h=>h,fun id h=>.inl h,fun j hj=>by cases hj⟩
 |(off,sz) :: offs,V2,Vr,A,us,kc,k,hz,h,hus,hk=>by
  simp only [okLS,cond_eq_ite] at hus
  split at hus
  rotate_left
  ·cases hus
  rename_i hf
  simp only [takeL] at hk
  split at hk
  rotate_left
  ·cases hk
  rename_i w hw
  obtain ⟨x,hx,hs⟩:=hsl off w hw
  obtain ⟨es,V1,hk1,hs1,hsl1,hone,hid⟩:=takeS_back h hs hk
  obtain ⟨Vr1,A1,hV1,hR1,hA1,hAo,henv,hown,_,hback⟩:=name_sim (k:=fun V'=>V'=nameV Vr (tokS d off) (.gr sz es)) h.new (nameK_of hf rfl) (fun A' _=>hsl1 (hz (off,sz) List.mem_cons_self)) hone (fun id hi=>h.apart id (hid id hi).1)
  subst hV1
  have hb:Back V1 A2 st2 (nameV Vr (tokS d off) (.gr sz es)) A1 st:=⟨hs1.r h.old,hR1,h.H,h.nx,fun id ho hc=>(hown id hc).elim (fun hc=>h.apart id (hs1.own ho) hc) (fun hi=>(hid id hi).2 ho)⟩
  obtain ⟨V2',Vr',A',g1,g2,g3,g4,g5,g6,g7⟩:=takeL_back hsl offs V1 _ A1 us kc k (fun p hp=>hz p (List.mem_cons_of_mem _ hp)) hb hus hk1
  refine ⟨V2',Vr',A',g1,g2,hs1.trans g3,g4,fun O y hy=>g5 _ _ (hA1 _ _ hy),fun id ho=>?_,fun j hj=>?_⟩
  ·rcases g6 id ho with ho | ho
   ·rcases hown id ho with ho | hi
    ·exact .inl ho
    ·exact .inr (hid id hi).1
   ·exact .inr (hs1.own ho)
  ·simp only [hasKey,Bool.or_eq_true,Nat.beq_eq] at hj
   rcases hj with rfl | hj
   ·exact ⟨x,hx,g5 _ _ hAo⟩
   ·exact g7 j hj
theorem ovsS_at {d j:Nat}:∀{l:List (Nat×Nat)},ovAt j (ovsS d l)=if hasKey j l=true then some (.sl (tokS d j)) else none
 |[]=>by simp [ovsS,ovAt,hasKey]
 |(i,z) :: l=>by
  simp only [ovsS,ovAt_cons,ovsS_at (l:=l),hasKey,Bool.or_eq_true,Nat.beq_eq]
  by_cases e:i=j
  ·subst e;simp
  ·rw [if_neg e]
   by_cases hk:hasKey j l=true
   ·rw [if_pos hk,if_pos (.inr hk)]
   ·rw [if_neg hk,if_neg]
    rintro (h | h)
    ·exact e h.symm
    ·exact hk h
theorem rdK_t {A:Tok} {V:VSt} {st:St} (hR:R A V st) {n:Nat} {k:VV→Prop} (h:rdK V none (.t n) k):∃e a,V.env.get n=some e∧st.env.get n=some a∧VR A e.v a∧k e.v:=by
 simp only [rdK] at h
 split at h
 ·cases h
 rename_i e he
 obtain ⟨a,ha,hv⟩:=hR.env n e he
 split at h
 ·rename_i hg
  exact ⟨e,a,he,ha,hv (fun c bb hh=>by rw [hg] at hh;cases hh),h⟩
 ·cases h
theorem imps_ob {d:Nat} {offs:List (Nat×Nat)} {ks:List PK} {w:VV} {ws:List VV} {ims:List Imp} (h:impsOf d (.ob offs :: ks) (w :: ws)=some ims):∃O l,w=.ptr O 0∧impsOf d ks ws=some l∧ims=.ob O d :: .pt :: l:=by
 cases w with
 |ptr O off=>
  cases off with
  |zero=>
   simp only [impsOf] at h
   split at h
   ·rename_i l hl;cases h;exact ⟨O,l,rfl,hl,rfl⟩
   ·cases h
  |succ n=>simp [impsOf] at h
 |_=>simp [impsOf] at h
theorem imps_sl {d sz:Nat} {ks:List PK} {w:VV} {ws:List VV} {ims:List Imp} (h:impsOf d (.sl sz :: ks) (w :: ws)=some ims):∃O l,w=.sl O∧impsOf d ks ws=some l∧ims=.sl O :: l:=by
 cases w with
 |sl O=>
  simp only [impsOf] at h
  split at h
  ·rename_i l hl;cases h;exact ⟨O,l,rfl,hl,rfl⟩
  ·cases h
 |_=>simp [impsOf] at h
theorem imp_sim {np d:Nat} {rk:RK} {k:VSt→Prop} {v:AV} {st2 st:St}:∀(ks:List PK) (i:Nat) (ws:List VV) (as:List AV) (ims:List Imp) (V2 Vr:VSt) (A2 A:Tok),impsOf d ks ws=some ims→(jout np rk ks i).all entPos=true→okI nt (jout np rk ks i) ims Vr.us=true→
  Back V2 A2 st2 Vr A st→(∀(j:Nat) w a,ws[j]?=some w→as[j]?=some a→VR A w a)→ws.length=as.length→(∀(j:Nat) a,as[j]?=some a→st2.env.get (i + j)=some a)→st2.env.get np=some v→st.env.get d=some v→
  prJ (jout np rk ks i) V2 (conJ (jout np rk ks i) ims Vr k)→∃Vr' A',k Vr'∧R A' Vr' st∧(∀O x,A O=some x→A' O=some x)∧(∀id,Own Vr' A' id→Own Vr A id∨Own V2 A2 id)∧Nat.blt d nt=true
 |[],i,ws,as,ims,V2,Vr,A2,A,him,hp,hok,h,hw,hl,has,hnp,hd,hk=>by
  cases ws with
  |cons _ _=>cases him
  |nil=>
   cases him
   cases rk with
   |tr=>
    have hk0:rdT V2 none (.t np) (fun v=>k (addE Vr d (.tr v))):=hk
    have hok0:(Nat.blt d nt&&true)=true:=hok
    rw [Bool.and_true] at hok0
    clear hk hok
    obtain ⟨u,a,ha,hc,hk1⟩:=rdT_t h.old hk0
    rw [hnp] at ha;cases ha
    exact ⟨_,A,hk1,r_addE h.new hd (.tr hc),fun _ _ h=>h,fun id ho=>.inl ho,hok0⟩
   |sl sz=>
    have hz:0 < sz:=by simp only [jout,jres,List.all_cons,Bool.and_eq_true] at hp;have:=hp.1;simpa [entPos] using this
    have hk0:rdK V2 none (.t np) (fun w=>takeS V2 sz w fun es V'=>k (addE (nameV Vr d (.gr sz es)) d (.sl d))):=hk
    have hok0:(Nat.blt d nt&&(freeB Vr.us d&&true))=true:=hok
    rw [Bool.and_true,Bool.and_eq_true] at hok0
    clear hk hok
    obtain ⟨e,a,he,ha,hv,hk⟩:=rdK_t h.old hk0
    rw [hnp] at ha;cases ha
    have hsl:SlV A2 e.v v:=by
     have hne:=hk
     unfold takeS at hne
     generalize e.v=w at hv hne
     cases hv <;> first | (cases hne;done) | skip
     ·exact .inl rfl
     ·exact .inr rfl
     ·assumption
    obtain ⟨es,V1,hk1,hs1,hsl1,hone,hid⟩:=takeS_back h hsl hk
    obtain ⟨hlt,hf⟩:=hok0
    obtain ⟨Vr1,A1,hV1,hR1,hA1,hAo,henv,hown,_,hback⟩:=name_sim (k:=fun V'=>V'=nameV Vr d (.gr sz es)) h.new (nameK_of hf rfl) (fun A' _=>hsl1 hz) hone (fun id hi=>h.apart id (hid id hi).1)
    subst hV1
    exact ⟨_,A1,hk1,r_addE hR1 hd (.sl hAo),hA1,fun id ho=>(hown id ho).imp (fun h=>h) (fun hi=>(hid id hi).1),hlt⟩
 |.tr :: ks,i,ws,as,ims,V2,Vr,A2,A,him,hp,hok,h,hw,hl,has,hnp,hd,hk=>by
  cases ws with
  |nil=>simp [impsOf] at him
  |cons w ws=>
   cases as with
   |nil=>cases hl
   |cons a as=>
    have him':impsOf d ks ws=some ims:=by simpa only [impsOf] using him
    simp only [jout] at hp hok hk
    exact imp_sim ks (i + 1) ws as ims V2 Vr A2 A him' hp hok h (fun j w' a' h1 h2=>hw (j + 1) w' a' (by simpa using h1) (by simpa using h2)) (Nat.succ.inj hl) (fun j a' h1=>by have:=has (j + 1) a' (by simpa using h1);rwa [show i + (j + 1)=i + 1 + j by omega] at this) hnp hd hk
 |.ob offs :: ks,i,ws,as,ims,V2,Vr,A2,A,him,hp,hok,h,hw,hl,has,hnp,hd,hk=>by
  cases ws with
  |nil=>simp [impsOf] at him
  |cons w ws=>
   cases as with
   |nil=>cases hl
   |cons a as=>
    obtain ⟨O,l,rfl,hims,rfl⟩:=imps_ob him
    ·simp only [jout,List.all_cons,Bool.and_eq_true] at hp
     have hz:∀p∈offs,0 < p.2:=fun p hm=>by have:=List.all_eq_true.1 hp.1 p hm;simpa using this
     simp only [jout,okI] at hok
     split at hok
     rotate_left
     ·cases hok
     rename_i us hus
     have hwa:=hw 0 _ a rfl rfl
     cases hwa with
     |@ptr _ _ id hAO=>
     simp only [jout,prJ] at hk
     split at hk
     rotate_left
     ·cases hk
     rename_i v2 ovs hO2
     split at hk
     rotate_left
     ·cases hk
     rename_i hkeys
     obtain ⟨y,hy,id2,cs,ts,rfl,hH,hc⟩:=h.old.heap i _ hO2
     have hsl:∀j w,ovAt j ovs=some w→∃x,cs[j]?=some x∧SlV A2 w x:=fun j w hj=>by
      have hlt:=hc.keys j w hj
      have hx:cs[j]?=some (cs[j]'(by rw [←hc.len];exact hlt)):=List.getElem?_eq_getElem _
      have:=hc.at_ j _ _ (List.getElem?_eq_getElem hlt) hx
      rw [hj] at this
      exact ⟨_,hx,this⟩
     have hgone:=gone_dropO h.old hO2 hy (id:=id2) rfl
     have hownO:Own V2 A2 id2:=⟨i,_,_,hO2,hy,rfl⟩
     have hb1:Back (dropO V2 i) A2 st2 Vr A st:=⟨(sub_dropO V2 i).r h.old,h.new,h.H,h.nx,fun id' ho=>h.apart id' ((sub_dropO V2 i).own ho),⟩
     obtain ⟨V2',Vr',A',g1,g2,g3,g4,g5,g6,g7⟩:=takeL_back hsl offs (dropO V2 i) Vr A us _ _ hz hb1 hus hk
     have hk3:rdK V2' none (.t i) fun w=>match w with
      |.ptr O' off'=>same O' i (same off' 0 (prJ (jout np rk ks (i + 1)) V2' (conJ (jout np rk ks (i + 1)) l (setVO Vr' O (.ob v2 (ovsS d offs))) k)))
      |_=>False:=g1
     obtain ⟨e,a',he,ha',hv',hk3⟩:=rdK_t g2.old hk3
     have ha0:=has 0 _ rfl
     rw [Nat.add_zero,ha'] at ha0
     cases ha0
     generalize e.v=w' at hv' hk3
     cases w' <;> first | (cases hk3;done) | skip
     rename_i O' off'
     have hOi:=(same_ok hk3).1
     have hoff:=(same_ok (same_ok hk3).2).1
     have hk4:=(same_ok (same_ok hk3).2).2
     clear hk3
     have hOi:=hOi.symm
     subst hOi
     subst hoff
     cases hv' with
     |ptr hO'=>
     rw [hy] at hO';cases hO'
     have hAO':=g5 _ _ hAO
     have hor:OR A' st.H (.ob v2 (ovsS d offs)) (.ptr id 0 0):=by
      refine ⟨id,cs,ts,rfl,by rw [h.H];exact hH,⟨hc.cells,hc.len,fun j w hj=>?_,fun j t x ht hx=>?_⟩⟩
      ·rw [ovsS_at] at hj
       split at hj
       ·rename_i hh
        obtain ⟨x,hx,_⟩:=g7 j hh
        rw [hc.len];exact (List.getElem?_eq_some_iff.1 hx).1
       ·cases hj
      ·rw [ovsS_at]
       by_cases hh:hasKey j offs=true
       ·rw [if_pos hh]
        obtain ⟨x',hx',hA'⟩:=g7 j hh
        rw [hx] at hx';cases hx'
        exact hA'
       ·rw [if_neg hh]
        have:=hc.at_ j t x ht hx
        cases ho:ovAt j ovs with
        |none=>rw [ho] at this;exact this
        |some w=>exact absurd (keysIn_at hkeys j w ho) hh
     obtain ⟨p1,p2⟩:=own_again g2.new hAO' hor (fun id' hi ho=>by
      cases hi
      rcases g6 _ ho with ho | ho
      ·exact h.apart _ hownO ho
      ·exact hgone ho)
     have hb2:Back V2' A2 st2 (setVO Vr' O (.ob v2 (ovsS d offs))) A' st:=⟨g2.old,p1,h.H,h.nx,fun id' ho hc'=>(p2 id' hc').elim (fun hc'=>g2.apart id' ho hc') (fun hi=>by cases hi;exact hgone (g3.own ho))⟩
     obtain ⟨Vr2,A3,q1,q2,q3,q4,q5⟩:=imp_sim ks (i + 1) ws as l V2' _ A2 A' hims hp.2.2 (by rw [show (setVO Vr' O (VO.ob v2 (ovsS d offs))).us=us from g4];exact hok) hb2
      (fun j w' a' h1 h2=>(hw (j + 1) w' a' (by simpa using h1) (by simpa using h2)).mono g5) (Nat.succ.inj hl) (fun j a' h1=>by have:=has (j + 1) a' (by simpa using h1);rwa [show i + (j + 1)=i + 1 + j by omega] at this) hnp hd hk4
     refine ⟨Vr2,A3,q1,q2,fun O x hx=>q3 _ _ (g5 _ _ hx),fun id' ho=>?_,q5⟩
     rcases q4 id' ho with ho | ho
     ·rcases p2 id' ho with ho | hi
      ·exact (g6 id' ho).imp (fun h=>h) (sub_dropO V2 i).own
      ·cases hi;exact .inr hownO
     ·exact .inr ((sub_dropO V2 i).own (g3.own ho))
 |.sl sz :: ks,i,ws,as,ims,V2,Vr,A2,A,him,hp,hok,h,hw,hl,has,hnp,hd,hk=>by
  cases ws with
  |nil=>simp [impsOf] at him
  |cons w ws=>
   cases as with
   |nil=>cases hl
   |cons a as=>
    obtain ⟨O,l,rfl,hims,rfl⟩:=imps_sl him
    simp only [jout,List.all_cons,Bool.and_eq_true] at hp
    have hz:0 < sz:=by have:=hp.1;simpa [entPos] using this
    have hwa:=hw 0 _ a rfl rfl
    cases hwa with
    |@sl _ _ hAO=>
    have hk':rdK V2 none (.t i) fun w=>takeS V2 sz w fun es V'=>prJ (jout np rk ks (i + 1)) V' (conJ (jout np rk ks (i + 1)) l (setVO Vr O (.gr sz es)) k):=hk
    obtain ⟨e,a',he,ha',hv',hk'⟩:=rdK_t h.old hk'
    have ha0:=has 0 _ rfl
    rw [Nat.add_zero,ha'] at ha0
    cases ha0
    have hsl:SlV A2 e.v a:=by
     have hne:=hk'
     unfold takeS at hne
     generalize e.v=w at hv' hne
     cases hv' <;> first | (cases hne;done) | skip
     ·exact .inl rfl
     ·exact .inr rfl
     ·assumption
    obtain ⟨es,V1,hk1,hs1,hsl1,hone,hid⟩:=takeS_back h hsl hk'
    obtain ⟨p1,p2⟩:=own_again h.new (o:=.gr sz es) hAO (hsl1 hz) (fun id hi=>h.apart id (hid id hi).1)
    have hb:Back V1 A2 st2 (setVO Vr O (.gr sz es)) A st:=⟨hs1.r h.old,p1,h.H,h.nx,fun id ho hc=>(p2 id hc).elim (fun hc=>h.apart id (hs1.own ho) hc) (fun hi=>(hid id hi).2 ho)⟩
    obtain ⟨Vr2,A3,q1,q2,q3,q4,q5⟩:=imp_sim ks (i + 1) ws as l V1 (setVO Vr O (.gr sz es)) A2 A hims hp.2 hok hb
     (fun j w' a' h1 h2=>hw (j + 1) w' a' (by simpa using h1) (by simpa using h2)) (Nat.succ.inj hl) (fun j a' h1=>by have:=has (j + 1) a' (by simpa using h1);rwa [show i + (j + 1)=i + 1 + j by omega] at this) hnp hd hk1
    refine ⟨Vr2,A3,q1,q2,q3,fun id ho=>?_,q5⟩
    rcases q4 id ho with ho | ho
    ·exact (p2 id ho).imp (fun h=>h) (fun hi=>(hid id hi).1)
    ·exact .inr (hs1.own ho)
theorem rdKs_sim {A:Tok} {V:VSt} {st:St} (hR:R A V st):∀(xs:List Opd) (k:List VV→Prop),rdKs V xs k→∃ws,ws.length=(xs.map (ev st.env)).length∧(∀(j:Nat) w a,ws[j]?=some w→(xs.map (ev st.env))[j]?=some a→VR A w a)∧k ws
 |[],k,h=>⟨[],rfl,fun j w a hw=>by simp at hw,h⟩
 |x :: xs,k,h=>by
  obtain ⟨w,hw,h⟩:=rdK_sim (g:=none) hR trivial h
  obtain ⟨ws,h1,h2,h3⟩:=rdKs_sim hR xs _ h
  refine ⟨w :: ws,by simpa using h1,fun j w' a hj ha=>?_,h3⟩
  cases j with
  |zero=>simp at hj ha;subst hj;subst ha;exact hw
  |succ j=>exact h2 j w' a (by simpa using hj) (by simpa using ha)
theorem imps_len {d:Nat}:∀(ks:List PK) (ws:List VV) (ims:List Imp),impsOf d ks ws=some ims→ks.length=ws.length
 |[],[],ims,h=>rfl
 |[],_ :: _,ims,h=>by simp [impsOf] at h
 |k :: ks,[],ims,h=>by cases k <;> simp [impsOf] at h
 |.tr :: ks,w :: ws,ims,h=>by
  have h':impsOf d ks ws=some ims:=by simpa only [impsOf] using h
  simp [imps_len ks ws ims h']
 |.ob offs :: ks,w :: ws,ims,h=>by
  obtain ⟨O,l,_,h',_⟩:=imps_ob h
  simp [imps_len ks ws l h']
 |.sl sz :: ks,w :: ws,ims,h=>by
  obtain ⟨O,l,_,h',_⟩:=imps_sl h
  simp [imps_len ks ws l h']
theorem initE_get:∀(as:List AV) (i:Nat) (e:Env) (j:Nat),(initE as i e).get j=if i≤j∧j < i + as.length then as[j - i]? else e.get j
 |[],i,e,j=>by simp only [initE,List.length_nil];rw [if_neg (by omega)]
 |a :: as,i,e,j=>by
  simp only [initE,initE_get as (i + 1),Map.get_put,List.length_cons]
  by_cases h:i + 1≤j∧j < i + 1 + as.length
  ·rw [if_pos h,if_pos (by omega),show j - i=(j - (i + 1)) + 1 by omega,List.getElem?_cons_succ]
  ·rw [if_neg h]
   by_cases e1:j=i
   ·subst e1;rw [if_pos rfl,if_pos (by omega)];simp
   ·rw [if_neg e1,if_neg (by omega)]
theorem prA_sim {st stc:St} (hH:stc.H=st.H) (hnx:stc.nx=st.nx):∀(ks:List PK) (i:Nat) (ws:List VV) (as:List AV) (V Vc:VSt) (A A0:Tok) (I:JT (jin ks i) Prop) (k:VSt→Prop),(jin ks i).all entPos=true→R A V st→R A0 Vc stc→(∀id,Own V A id→¬Own Vc A0 id)→
  (∀(j:Nat) w a,ws[j]?=some w→as[j]?=some a→VR A w a)→ws.length=as.length→(∀(j:Nat) a,as[j]?=some a→stc.env.get (i + j)=some a)→prA ks i ws V I→allJ (jin ks i) Vc I k→
  ∃Vc' A',k Vc'∧R A' Vc' stc∧(∀id,Own Vc' A' id→Own Vc A0 id∨Own V A id)∧(∀id,Own (restA ks ws V) A id→¬Own Vc' A' id)∧Sub V (restA ks ws V)
 |[],i,ws,as,V,Vc,A,A0,I,k,hp,hR,hRc,hap,hw,hl,has,hk,hkc=>by
  cases ws with
  |nil=>exact ⟨Vc,A0,hkc hk,hRc,fun id h=>.inl h,hap,Sub.refl V⟩
  |cons w ws=>cases hk
 |.tr :: ks,i,ws,as,V,Vc,A,A0,I,k,hp,hR,hRc,hap,hw,hl,has,hk,hkc=>by
  cases ws with
  |nil=>cases hk
  |cons w ws=>
   cases as with
   |nil=>cases hl
   |cons a as=>
    simp only [jin,List.all_cons,Bool.and_eq_true] at hp
    simp only [prA] at hk
    obtain ⟨v,hc,hk⟩:=vr_tree (hw 0 w a rfl rfl) hk
    obtain ⟨Vc',A',g1,g2,g3,g4,g5⟩:=prA_sim hH hnx ks (i + 1) ws as V (addE Vc i (.tr v)) A A0 (I v) k hp.2 hR (r_addE hRc (has 0 a rfl) (.tr hc)) hap (fun j w' a' h1 h2=>hw (j + 1) w' a' (by simpa using h1) (by simpa using h2)) (Nat.succ.inj hl)
     (fun j a' h1=>by have:=has (j + 1) a' (by simpa using h1);rwa [show i + (j + 1)=i + 1 + j by omega] at this) hk (hkc v)
    exact ⟨Vc',A',g1,g2,g3,g4,g5⟩
 |.ob offs :: ks,i,ws,as,V,Vc,A,A0,I,k,hp,hR,hRc,hap,hw,hl,has,hk,hkc=>by
  cases ws with
  |nil=>cases hk
  |cons w ws=>
   cases as with
   |nil=>cases hl
   |cons a as=>
    simp only [jin,List.all_cons,Bool.and_eq_true] at hp
    have hz:∀p∈offs,0 < p.2:=fun p hm=>by have:=List.all_eq_true.1 hp.1 p hm;simpa using this
    cases w <;> first | (cases hk;done) | skip
    rename_i O off
    cases off with
    |succ n=>cases hk
    |zero=>
    simp only [prA] at hk
    split at hk
    rotate_left
    ·cases hk
    rename_i v ovs hO
    split at hk
    rotate_left
    ·cases hk
    rename_i hkeys
    have hwa:=hw 0 _ a rfl rfl
    cases hwa with
    |@ptr _ _ id hAO=>
    obtain ⟨y,hy,id',cs,ts,rfl,hHc,hc⟩:=hR.heap O _ hO
    rw [hAO] at hy;cases hy
    have hsl:∀j w,ovAt j ovs=some w→∃x,cs[j]?=some x∧SlV A w x:=fun j w hj=>by
     have hlt:=hc.keys j w hj
     have hx:cs[j]?=some (cs[j]'(by rw [←hc.len];exact hlt)):=List.getElem?_eq_getElem _
     have:=hc.at_ j _ _ (List.getElem?_eq_getElem hlt) hx
     rw [hj] at this
     exact ⟨_,hx,this⟩
    have hgone:=gone_dropO hR hO hAO (id:=id) rfl
    have hownO:Own V A id:=⟨O,_,_,hO,hAO,rfl⟩
    have hRe:R A {dropO V O with env:=.leaf} stc:=⟨fun t e he=>(by cases he),fun O' o' ho=>by
      obtain ⟨x,hx,hor⟩:=hR.heap O' o' (dropO_get ho).2
      exact ⟨x,hx,hor.mono (fun _ _ h=>h) (fun _ _=>by rw [hH])⟩,fun O1 O2 o1 o2 a1 a2 id' h1 h2=>hR.inj O1 O2 o1 o2 a1 a2 id' (dropO_get h1).2 (dropO_get h2).2,hR.used,hR.one,hRc.fresh⟩
    have h1:Two {dropO V O with env:=.leaf} A Vc A0 stc:=⟨hRe,hRc,fun id' ho=>hap id' ((sub_dropO V O).own ho)⟩
    have hk':takeL (R:=JT (.pt i i 0 :: jin ks (i + 1)) Prop) {dropO V O with env:=.leaf} ovs offs (I v) fun I V'=>prA ks (i + 1) ws {V' with env:=V.env} I:=by
     have gen:∀(offs:List (Nat×Nat)) (V1:VSt) (J:JL offs (JT (.pt i i 0 :: jin ks (i + 1)) Prop)),V1.env=V.env→takeL V1 ovs offs J (fun I V'=>prA ks (i + 1) ws V' I)→takeL {V1 with env:=.leaf} ovs offs J fun I V'=>prA ks (i + 1) ws {V' with env:=V.env} I:=by
      intro offs
      induction offs with
      |nil=>intro V1 J he h;show prA ks (i + 1) ws {V1 with env:=V.env} J;rw [←he];exact h
      |cons p offs ih=>
       obtain ⟨off,sz⟩:=p
       intro V1 J he h
       simp only [takeL] at h ⊢
       split at h
       ·rename_i w hw
        unfold takeS at h ⊢
        split at h
        ·split at h
         ·rename_i z es ho
          obtain ⟨rfl,h⟩:=same_ok h
          simp only [ho]
          show same z z _
          unfold same
          rw [cond_eq_ite,if_pos (by simp)]
          exact ih (dropO V1 _) (J es) he h
         ·cases h
        ·exact ih V1 (J []) he h
        ·cases h
       ·cases h
     exact gen offs (dropO V O) (I v) rfl hk
    obtain ⟨i2,V',Vc',A',g1,g2,g0,g3,g3a,g4,g5,g6,g7,g8⟩:=takeL_sim hsl offs {dropO V O with env:=.leaf} Vc A0 (I v) _ _ hz h1 hk' (hkc v)
    have hor:∀A3:Tok,(∀O x,A' O=some x→A3 O=some x)→OR A3 stc.H (.ob v (ovsOf i offs)) (.ptr id 0 0):=by
     intro A3 hA3
     refine ⟨id,cs,ts,rfl,by rw [hH];exact hHc,⟨hc.cells,hc.len,fun j w hj=>?_,fun j t x ht hx=>?_⟩⟩
     ·rw [ovsOf_at] at hj
      split at hj
      ·rename_i hh
       obtain ⟨x,hx,_⟩:=g8 j hh
       rw [hc.len];exact (List.getElem?_eq_some_iff.1 hx).1
      ·cases hj
     ·rw [ovsOf_at]
      by_cases hh:hasKey j offs=true
      ·rw [if_pos hh]
       obtain ⟨x',hx',hA'⟩:=g8 j hh
       rw [hx] at hx';cases hx'
       exact hA3 _ _ hA'
      ·rw [if_neg hh]
       have:=hc.at_ j t x ht hx
       cases ho:ovAt j ovs with
       |none=>rw [ho] at this;exact this
       |some w=>exact absurd (keysIn_at hkeys j w ho) hh
    obtain ⟨Vc2,A2,p1,p2,p3,p4,p5,p6,p7,p8⟩:=name_sim g3.new (a:=.ptr id 0 0) g2 hor rfl (fun id' hi ho=>by
     cases hi
     rcases g7 _ ho with ho | ho
     ·exact hap _ hownO ho
     ·exact hgone ho)
    have p1':allJ (.pt i i 0 :: jin ks (i + 1)) Vc2 i2 k:=p1
    simp only [allJ,p7] at p1'
    have hR':R A {V' with env:=V.env} st:=by
     have hs:Sub V {V' with env:=V.env}:=⟨rfl,g4.us,fun O' o' ho=>(dropO_get (g4.H O' o' ho)).2⟩
     exact hs.r hR
    obtain ⟨Vc3,A3,q1,q2,q3,q4,q5⟩:=prA_sim hH hnx ks (i + 1) ws as {V' with env:=V.env} (addE Vc2 i (.ptr i 0)) A A2 i2 k hp.2.2 hR' (r_addE p2 (has 0 _ rfl) (.ptr p4)) (fun id' ho hc'=>by
      rcases p6 id' hc' with hc' | hi
      ·exact g3.apart id' ho hc'
      ·cases hi;exact hgone (g4.own ho)) (fun j w' a' h1 h2=>hw (j + 1) w' a' (by simpa using h1) (by simpa using h2)) (Nat.succ.inj hl)
     (fun j a' h1=>by have:=has (j + 1) a' (by simpa using h1);rwa [show i + (j + 1)=i + 1 + j by omega] at this) g1 p1'
    have hrestL:∀(offs:List (Nat×Nat)) (V1:VSt),V1.env=V.env→{restL {V1 with env:=.leaf} ovs offs with env:=V.env}=restL V1 ovs offs:=by
     intro offs
     induction offs with
     |nil=>intro V1 he;simp only [restL];rw [←he]
     |cons p offs ih=>
      obtain ⟨off,sz⟩:=p
      intro V1 he
      simp only [restL]
      split
      ·rename_i w hw
       cases w <;> first | exact ih V1 he | exact ih (dropO V1 _) he
      ·exact ih V1 he
    have hrest:restA (.ob offs :: ks) (.ptr O 0 :: ws) V=restA ks ws {V' with env:=V.env}:=by
     simp only [restA,hO]
     rw [g0,hrestL offs (dropO V O) rfl]
    refine ⟨Vc3,A3,q1,q2,fun id' ho=>?_,by rw [hrest];exact q4,by rw [hrest];exact (⟨rfl,g4.us,fun O' o' ho=>(dropO_get (g4.H O' o' ho)).2⟩:Sub V {V' with env:=V.env}).trans q5⟩
    rcases q3 id' ho with ho | ho
    ·rcases p6 id' ho with ho | hi
     ·rcases g7 id' ho with ho | ho
      ·exact .inl ho
      ·exact .inr ((sub_dropO V O).own ho)
     ·cases hi;exact .inr hownO
    ·exact .inr ((sub_dropO V O).own (g4.own ho))
 |.sl sz :: ks,i,ws,as,V,Vc,A,A0,I,k,hp,hR,hRc,hap,hw,hl,has,hk,hkc=>by
  cases ws with
  |nil=>cases hk
  |cons w ws=>
   cases as with
   |nil=>cases hl
   |cons a as=>
    simp only [jin,List.all_cons,Bool.and_eq_true] at hp
    have hz:0 < sz:=by have:=hp.1;simpa [entPos] using this
    cases w <;> first | (cases hk;done) | skip
    rename_i O
    simp only [prA,takeS] at hk
    split at hk
    rotate_left
    ·cases hk
    rename_i z es ho
    obtain ⟨rfl,hk⟩:=same_ok hk
    have hwa:=hw 0 _ a rfl rfl
    cases hwa with
    |@sl _ _ hAO=>
    obtain ⟨y,hy,hs⟩:=hR.heap O _ ho
    rw [hAO] at hy;cases hy
    have hsl:SlR stc.H z es a:=by rw [hH];exact hs
    have hid:∀id,idOf a=some id→Own V A id∧¬Own (dropO V O) A id:=fun id hi=>⟨⟨O,_,a,ho,hAO,hi⟩,gone_dropO hR ho hAO hi⟩
    have hkc1:=hkc es
    obtain ⟨Vc1,A1,hkc2,hR1,hA1,hAo,henv,hown,_,hback⟩:=name_sim hRc hkc1 (fun A' _=>hsl) (hR.one O _ hAO) (fun id hi=>hap id (hid id hi).1)
    obtain ⟨Vc',A',g1,g2,g3,g4,g5⟩:=prA_sim hH hnx ks (i + 1) ws as (dropO V O) (addE Vc1 i (.sl i)) A A1 (I es) k hp.2 (hR.dropO O) (r_addE hR1 (has 0 a rfl) (.sl hAo)) (fun id hoo hc=>(hown id hc).elim (fun hc=>hap id ((sub_dropO V O).own hoo) hc) (fun hi=>(hid id hi).2 hoo))
     (fun j w' a' h1 h2=>hw (j + 1) w' a' (by simpa using h1) (by simpa using h2)) (Nat.succ.inj hl) (fun j a' h1=>by have:=has (j + 1) a' (by simpa using h1);rwa [show i + (j + 1)=i + 1 + j by omega] at this) hk hkc2
    refine ⟨Vc',A',g1,g2,fun id hoo=>?_,g4,(sub_dropO V O).trans g5⟩
    rcases g3 id hoo with hoo | hoo
    ·rcases hown id hoo with hoo | hi
     ·exact .inl hoo
     ·exact .inr (hid id hi).1
    ·exact .inr ((sub_dropO V O).own hoo)
theorem o_share {sh:Sh} (hsh:sh.vs=VSh prog) {A:Tok} {V:VSt} {st:St} (hR:R A V st) {d:Option Nat} {f:Nat} {args:List Opd} {k:VSt→Prop} (h:evShare sh nt V d f args k):Sim (runFn prog) nt A V st d (.call f args .share) k:=by
 unfold evShare at h
 cases d with
 |none=>cases h
 |some d=>
 simp only at h
 split at h
 ·cases h
 rename_i sg hsg
 obtain ⟨ws,hwl,hw,h⟩:=rdKs_sim hR args _ h
 split at h
 ·cases h
 rename_i ims him
 split at h
 ·cases h
 rename_i hok
 simp only [Bool.and_eq_true] at hok
 obtain ⟨⟨hp1,hp2⟩,hn,hi⟩:=hok
 rw [hsh] at h
 generalize has:args.map (ev st.env)=as at hwl hw
 have hal:=allJ_mk (jin sg.ks 0) V0 [] (CallOk prog f sg.ks.length (jout sg.ks.length sg.rk sg.ks 0) (conJ (jout sg.ks.length sg.rk sg.ks 0) ims {restA sg.ks ws V with env:=V.env.put none d} k)) hn (fun O hO=>by cases hO)
 have no0:∀id,¬Own V0 (fun _=>none) id:=fun id ⟨O,o,a,ho,_⟩=>by cases ho
 have hRc0:R (fun _=>none) V0 ⟨initE as 0 .leaf,st.H,st.nx⟩:=⟨fun t e he=>(by cases he),fun O o ho=>(by cases ho),fun O O' o o' a a' id ho=>(by cases ho),fun _ _=>rfl,fun O a ha=>(by cases ha),hR.fresh⟩
 obtain ⟨Vc,A1,g1,g2,g3,g4,g5⟩:=prA_sim (st:=st) (stc:=⟨initE as 0 .leaf,st.H,st.nx⟩) rfl rfl sg.ks 0 ws as V V0 A (fun _=>none) _ _ hp1 hR hRc0 (fun id _ hc=>no0 id hc) hw hwl (fun j a ha=>by
  show (initE as 0 .leaf).get (0 + j)=_
  have hjl:=(List.getElem?_eq_some_iff.1 ha).1
  rw [initE_get,if_pos (by omega)]
  simpa using ha) h hal
 have hlen:as.length=sg.ks.length:=by rw [←hwl,imps_len _ _ _ him]
 obtain ⟨v,H',nx',A2,V2,q1,q2,q3,q4⟩:=g1 A1 as st.H st.nx hlen g2
 have ownV:∀id,Own (restA sg.ks ws V) A id→Own V A id:=fun id ho=>g5.own ho
 have hlt:∀id,Own (restA sg.ks ws V) A id→id < st.nx:=fun id ho=>hR.own_lt (ownV id ho)
 have hsameH:∀id,Own (restA sg.ks ws V) A id→H'.get id=st.H.get id:=fun id ho=>q4.same id (hlt id ho) (g4 id ho)
 have hRr:R A {restA sg.ks ws V with env:=V.env.put none d} ⟨st.env.put (some v) d,H',nx'⟩:=by
  refine ⟨fun t e he=>?_,fun O o ho=>?_,(g5.r hR).inj,fun O hu=>hR.used O (by rw [←hu];exact congrArg (fun m=>Map.get m O) g5.us.symm),hR.one,q2.fresh⟩
  ·have he':(V.env.put none d).get t=some e:=he
   rw [Map.get_put] at he'
   split at he'
   ·cases he'
   ·rename_i hne
    obtain ⟨a,ha,hv⟩:=hR.env t e he'
    exact ⟨a,by show (st.env.put (some v) d).get t=_;rw [Map.get_put,if_neg hne];exact ha,hv⟩
  ·obtain ⟨a,ha,hor⟩:=(g5.r hR).heap O o ho
   exact ⟨a,ha,hor.mono (fun _ _ h=>h) (fun id hi=>hsameH id ⟨O,o,a,ho,ha,hi⟩)⟩
 have hb:Back V2 A2 ⟨(initE as 0 .leaf).put (some v) sg.ks.length,H',nx'⟩ {restA sg.ks ws V with env:=V.env.put none d} A ⟨st.env.put (some v) d,H',nx'⟩:=
  ⟨q2,hRr,rfl,rfl,fun id ho hc=>by
   rcases q4.own id ho with ho | hle
   ·exact g4 id hc ho
   ·have:=hlt id hc;omega⟩
 obtain ⟨Vr',A3,p1,p2,p3,p4,p5⟩:=imp_sim (nt:=nt) (st2:=⟨(initE as 0 .leaf).put (some v) sg.ks.length,H',nx'⟩) (st:=⟨st.env.put (some v) d,H',nx'⟩) (v:=v) (d:=d) sg.ks 0 ws as ims V2 _ A2 A him hp2 (by
   have e:({restA sg.ks ws V with env:=V.env.put none d}:VSt).us=V.us:=g5.us
   rw [e];exact hi) hb hw hwl (fun j a ha=>by
   show ((initE as 0 .leaf).put (some v) sg.ks.length).get (0 + j)=_
   have hjl:=(List.getElem?_eq_some_iff.1 ha).1
   rw [Map.get_put,if_neg (by omega),initE_get,if_pos (by omega)]
   simpa using ha) (by show ((initE as 0 .leaf).put (some v) sg.ks.length).get _=_;rw [Map.get_put,if_pos rfl]) (by show (st.env.put (some v) d).get d=_;rw [Map.get_put,if_pos rfl]) q3
 refine ⟨v,H',nx',?_,st.env.put (some v) d,by simp only [putD,cond_eq_ite,if_pos p5],Vr',A3,p2,⟨q4.le,fun id hid hno=>q4.same id hid (fun hc=>?_),fun id ho=>?_⟩,p3,p1⟩
 ·have hk:kind (.call f args .share)=.call f args .share:=rfl
  simp only [doOp,hk,doCall,has]
  exact q1
 ·rcases g3 id hc with hc | hc
  ·exact no0 id hc
  ·exact hno hc
 ·rcases p4 id ho with ho | ho
  ·exact .inl (ownV id ho)
  ·rcases q4.own id ho with ho | hle
   ·rcases g3 id ho with hc | hc
    ·exact absurd hc (no0 id)
    ·exact .inl hc
   ·exact .inr hle
end
end Go.Ax.V

set_option linter.unusedSimpArgs false
set_option linter.unusedVariables false
namespace Go.Ax.V
section
variable {sh:Sh} {prog:Map AFunc} {cf:FnF} {nt:Nat} {A:Tok} {V:VSt} {st:St} {d:Option Nat} {g:G} {k:VSt→Prop}
theorem evU_sim (hsh:sh.vs=VSh prog) (hR:R A V st) (ha:act g) {op:AOp} (h:evU sh prog nt V d g op k):Sim (runFn prog) nt A V st d op k:=by
 cases op with
 |mv x=>exact o_mv hR ha h
 |pick c a b=>exact o_pick hR ha h
 |alloc zero=>exact o_alloc hR h
 |box x=>exact o_box hR ha h
 |build zero parts=>
  cases g with
  |none=>exact o_build hR h
  |some p=>exact o_buildg hR ha h
 |bslice es len zero parts=>
  cases g with
  |none=>exact o_bslice hR h
  |some p=>cases h
 |islice len zero parts=>
  cases g with
  |none=>
   obtain ⟨v,H',nx',h1,h2⟩:=o_islice (cf:=runFn prog) (gd:=none) (fz:=false) hR h
   exact ⟨v,H',nx',h1,h2⟩
  |some p=>cases h
 |load sz a=>exact o_load hR ha h
 |store sz a x=>
  cases g with
  |none=>
   cases d with
   |none=>exact o_store hR h
   |some d=>cases h
  |some p=>cases h
 |nilck x=>exact o_nilck hR ha h
 |bin op x y=>exact o_bin hR ha h
 |eq t neg x y=>
  cases t with
  |slice=>
   cases g with
   |none=>
    simp only [evU] at h
    split at h
    ·rename_i hy;exact o_eqs hR hy h
    ·cases h
   |some q=>cases h
  |one l=>exact o_eq hR ha h
  |agg l=>exact o_eq hR ha h
 |un op x=>exact o_un hR ha h
 |conv c x=>exact o_conv hR ha h
 |mksl es bytes zero n=>
  cases g with
  |none=>exact o_mksl hR h
  |some p=>exact (pos_ok h).2.elim
 |slstr x lo hi=>exact o_slstr hR ha h
 |slsl es x lo hi mx=>exact o_slsl hR ha h
 |slarr n es x lo hi mx=>cases h
 |faddr off x=>exact o_faddr hR ha h
 |fld off sz x=>exact o_fld hR ha h
 |iaddr es x i=>exact o_iaddr hR ha h
 |iarr len es x i=>exact o_iarr hR ha h
 |idx x i=>exact o_idx hR ha h
 |ext i x=>exact o_ext hR ha h
 |app es bytes s x=>exact o_app hR ha h
 |cpy es dd s=>cases h
 |clr es zero x=>cases h
 |len str x=>exact o_len hR ha h
 |mnx mx xs=>exact o_mnx hR ha h
 |mkmap=>cases h
 |mlook t zero ok m k=>cases h
 |mset t m k v=>cases h
 |mlen m=>cases h
 |call f args m=>
  cases m with
  |share=>
   cases g with
   |none=>exact o_share hsh hR h
   |some p=>cases h
  |borrow=>
   obtain ⟨v,h1,h2⟩:=o_call hR ha h
   exact ⟨v,st.H,st.nx,h1,h2⟩
 |callv f args m=>
  cases m with
  |share=>cases h
  |borrow=>
   obtain ⟨fv,hf,h⟩:=rdT_sim hR ha h
   cases g with
   |none=>
    obtain ⟨n,rfl,h⟩:=h
    obtain ⟨v,h1,h2⟩:=o_call (g:=none) hR trivial h
    generalize he:ev st.env f=p at hf
    cases hf
    refine ⟨v,st.H,st.nx,?_,h2⟩
    have hk:kind (.callv f args .borrow)=.callv f args .borrow:=rfl
    simp only [doOp,hk,he]
    exact h1
   |some q=>
    obtain ⟨c,bb⟩:=q
    obtain ⟨n,hn,h⟩:=h
    obtain rfl:=hn ha
    obtain ⟨v,h1,h2⟩:=o_call hR ha h
    generalize he:ev st.env f=p at hf
    cases hf
    refine ⟨v,st.H,st.nx,?_,h2⟩
    have hk:kind (.callv f args .borrow)=.callv f args .borrow:=rfl
    simp only [doOp,hk,he]
    exact h1
def Off (nt:Nat) (V:VSt) (d:Option Nat) (c:TV) (bb:Bool) (k:VSt→Prop):Prop:=∃g w,((g=none∧w=VV.tr noT)∨g=some (c,bb))∧putV nt V d g w k
theorem gV_off {c:TV} {bb:Bool} (hc:c≠.b bb) {P:TV→Prop} {v:TV} (h:gV c bb P v):v=noT:=by
 unfold gV at h
 split at h
 ·rename_i x
  split at h
  ·rename_i hh
   exact absurd (by cases x <;> cases bb <;> first | rfl | cases hh) hc
  ·exact h
 ·exact h
section
variable {c:TV} {bb:Bool}
theorem resT_off (hc:c≠.b bb) {P k:TV→Prop} (h:resT (some (c,bb)) P k):k noT:=by
 obtain ⟨v,h1,h2⟩:=h
 rw [gV_off hc h1] at h2;exact h2
theorem resV_off (hc:c≠.b bb) {P:Option TV} (h:resV nt V d (some (c,bb)) P k):Off nt V d c bb k:=⟨none,.tr noT,.inl ⟨rfl,rfl⟩,resT_off hc h⟩
theorem tag_off {w:VV} (h:putV nt V d (some (c,bb)) w k):Off nt V d c bb k:=⟨_,w,.inr rfl,h⟩
theorem resN_ex {g:G} {P:Option Nat} {k:Nat→Prop} (h:resN g P k):∃n,k n:=by
 cases g with
 |none=>obtain ⟨n,_,h⟩:=h;exact ⟨n,h⟩
 |some p=>obtain ⟨n,_,h⟩:=h;exact ⟨n,h⟩
theorem rdK_ex {x:Opd} {k:VV→Prop} (h:rdK V g x k):∃w,k w:=by
 cases x with
 |c v=>exact ⟨_,h⟩
 |t n=>
  simp only [rdK] at h
  split at h
  ·cases h
  split at h
  ·exact ⟨_,h⟩
  ·split at h
   ·cases h
   ·exact ⟨_,h.2⟩
theorem rdT_ex {x:Opd} {k:TV→Prop} (h:rdT V g x k):∃v,k v:=by
 obtain ⟨w,h⟩:=rdK_ex h
 unfold treeK at h
 split at h
 ·exact ⟨_,h⟩
 ·exact ⟨_,h⟩
 ·obtain ⟨u,_,h⟩:=h;exact ⟨u,h⟩
 ·cases h
theorem ordT_ex {x:Option Opd} {k:Option TV→Prop} (h:ordT V g x k):∃v,k v:=by
 cases x with
 |none=>exact ⟨none,h⟩
 |some x=>obtain ⟨v,h⟩:=rdT_ex h;exact ⟨some v,h⟩
theorem rdPs_ex:∀{xs:List (Nat×Nat×Opd)} {k:List (Nat×Nat×TV)→Prop},rdPs V g xs k→∃vs,k vs
 |[],k,h=>⟨[],h⟩
 |(off,n,x) :: xs,k,h=>by
  obtain ⟨v,h⟩:=rdT_ex h
  obtain ⟨vs,h⟩:=rdPs_ex h
  exact ⟨_,h⟩
theorem rdTs_ex:∀{xs:List Opd} {k:List TV→Prop},rdTs V g xs k→∃vs,k vs
 |[],k,h=>⟨[],h⟩
 |x :: xs,k,h=>by
  obtain ⟨v,h⟩:=rdT_ex h
  obtain ⟨vs,h⟩:=rdTs_ex h
  exact ⟨v :: vs,h⟩
theorem toTs_ex:∀{l:List (Nat×VV)} {v:TV} {k:TV→Prop},toTs V l v k→∃u,k u
 |[],v,k,h=>⟨v,h⟩
 |(off,w) :: l,v,k,h=>by
  obtain ⟨u,h⟩:=toTs_ex (l:=l) h
  obtain ⟨es,u',_,h⟩:=slOf_ex h
  exact ⟨u',h⟩
theorem toT_ex {w:VV} {k:TV→Prop} (h:toT V w k):∃t,k t:=by
 unfold toT at h
 split at h
 ·exact ⟨_,h⟩
 ·exact ⟨_,h⟩
 ·obtain ⟨es,h⟩:=slOf_ex h;exact ⟨_,h⟩
 ·exact toTs_ex h
 ·cases h
theorem argsK_ex:∀{xs:List Opd} {k:Bool→List TV→Prop},argsK V g xs k→∃p ts,k p ts
 |[],k,h=>⟨_,_,h⟩
 |x :: xs,k,h=>by
  obtain ⟨w,h⟩:=rdK_ex h
  split at h
  ·obtain ⟨p,ts,h⟩:=argsK_ex h;exact ⟨_,_,h⟩
  ·obtain ⟨p,ts,h⟩:=argsK_ex h;exact ⟨_,_,h⟩
  ·obtain ⟨t,h⟩:=toTs_ex h
   obtain ⟨p,ts,h⟩:=argsK_ex h
   exact ⟨_,_,h⟩
  ·obtain ⟨t,h⟩:=toT_ex h
   obtain ⟨p,ts,h⟩:=argsK_ex h
   exact ⟨_,_,h⟩
theorem evLoad_off (hc:c≠.b bb) {sz:Option Nat} {w:VV} (h:evLoad nt V d (some (c,bb)) sz w k):Off nt V d c bb k:=by
 unfold evLoad at h
 split at h
 ·split at h
  ·split at h
   ·split at h
    ·exact tag_off h
    ·exact resV_off hc h
   ·split at h
    ·exact resV_off hc h
    ·cases h
  ·cases h
 ·split at h
  ·split at h
   ·exact resV_off hc h
   ·cases h
  ·cases h
 ·exact resV_off hc h
 ·split at h
  ·exact resV_off hc h
  ·cases h
 ·cases h
theorem evFld_off (hc:c≠.b bb) {off:Nat} {sz:Option Nat} {w:VV} (h:evFld nt V d (some (c,bb)) off sz w k):Off nt V d c bb k:=by
 unfold evFld at h
 split at h
 ·exact resV_off hc h
 ·split at h
  ·split at h
   ·exact tag_off h
   ·exact resV_off hc h
  ·split at h
   ·exact resV_off hc h
   ·cases h
 ·cases h
theorem evSlsl_off (hc:c≠.b bb) {sz:Nat} {w:VV} {lo hi mx:Option Opd} (h:evSlsl nt V d (some (c,bb)) sz w lo hi mx k):Off nt V d c bb k:=by
 replace h:=(pos_ok h).2
 split at h
 ·split at h
  ·split at h
   ·split at h
    ·obtain ⟨l,m,_,h⟩:=ordT_ex (same_ok h).2;cases h
    ·cases h
   ·cases h
  ·cases h
 ·split at h
  ·obtain ⟨l,h⟩:=ordT_ex h
   obtain ⟨hh,h⟩:=ordT_ex h
   exact ⟨none,.tr noT,.inl ⟨rfl,rfl⟩,resT_off hc h⟩
  ·split at h
   ·rename_i hcond
    simp at hcond
   ·cases h
 ·split at h
  ·exact tag_off h
  ·cases h
 ·cases h
theorem evU_off (hc:c≠.b bb) {op:AOp} (h:evU sh prog nt V d (some (c,bb)) op k):Off nt V d c bb k:=by
 cases op with
 |mv x=>
  simp only [evU] at h
  obtain ⟨w,h⟩:=rdK_ex h
  unfold evMv at h
  split at h
  ·exact resV_off hc h
  ·cases h
  ·exact tag_off h
 |pick a b e=>simp only [evU] at h;obtain ⟨_,h⟩:=rdT_ex h;obtain ⟨_,h⟩:=rdT_ex h;obtain ⟨_,h⟩:=rdT_ex h;exact resV_off hc h
 |alloc zero=>
  simp only [evU] at h
  split at h <;> cases h
 |box x=>
  simp only [evU] at h
  obtain ⟨w,h⟩:=rdK_ex h
  split at h
  ·cases h.2
  ·cases h
 |build zero parts=>
  simp only [evU] at h
  split at h
  ·obtain ⟨_,h⟩:=rdPs_ex h;exact resV_off hc h
  ·cases h
 |bslice es len zero parts=>cases h
 |islice len zero parts=>cases h
 |load sz a=>simp only [evU] at h;obtain ⟨w,h⟩:=rdK_ex h;exact evLoad_off hc h
 |store sz a x=>cases h
 |nilck x=>
  simp only [evU] at h
  obtain ⟨w,h⟩:=rdK_ex h
  unfold evNilck at h
  split at h <;> first | exact tag_off h | cases h
 |bin op x y=>simp only [evU] at h;obtain ⟨_,h⟩:=rdT_ex h;obtain ⟨_,h⟩:=rdT_ex h;exact resV_off hc h
 |eq t neg x y=>
  cases t with
  |slice=>cases h
  |one l=>simp only [evU] at h;obtain ⟨_,h⟩:=rdT_ex h;obtain ⟨_,h⟩:=rdT_ex h;exact resV_off hc h
  |agg l=>simp only [evU] at h;obtain ⟨_,h⟩:=rdT_ex h;obtain ⟨_,h⟩:=rdT_ex h;exact resV_off hc h
 |un op x=>simp only [evU] at h;obtain ⟨_,h⟩:=rdT_ex h;exact resV_off hc h
 |conv e x=>simp only [evU] at h;obtain ⟨_,h⟩:=rdT_ex h;exact resV_off hc h
 |mksl es bytes zero n=>exact (pos_ok h).2.elim
 |slstr x lo hi=>simp only [evU] at h;obtain ⟨_,h⟩:=rdT_ex h;obtain ⟨_,h⟩:=ordT_ex h;obtain ⟨_,h⟩:=ordT_ex h;exact resV_off hc h
 |slsl es x lo hi mx=>simp only [evU] at h;obtain ⟨w,h⟩:=rdK_ex h;exact evSlsl_off hc h
 |slarr n es x lo hi mx=>cases h
 |faddr off x=>
  simp only [evU] at h
  obtain ⟨w,h⟩:=rdK_ex h
  unfold evFaddr at h
  split at h <;> first | exact tag_off h | cases h
 |fld off sz x=>simp only [evU] at h;obtain ⟨w,h⟩:=rdK_ex h;exact evFld_off hc h
 |iaddr es x i=>
  simp only [evU] at h
  obtain ⟨w,h⟩:=rdK_ex h
  obtain ⟨iv,h⟩:=rdT_ex h
  replace h:=(pos_ok h).2
  split at h
  ·exact tag_off (resT_off hc h)
  ·split at h
   ·obtain ⟨n,h⟩:=resN_ex (same_ok h).2
    exact tag_off h
   ·cases h
  ·cases h
 |iarr len es x i=>
  simp only [evU] at h
  obtain ⟨w,h⟩:=rdK_ex h
  obtain ⟨iv,h⟩:=rdT_ex h
  unfold evIarr at h
  split at h <;> first | (obtain ⟨n,h⟩:=resN_ex h;exact tag_off h) | cases h
 |idx x i=>simp only [evU] at h;obtain ⟨_,h⟩:=rdT_ex h;obtain ⟨_,h⟩:=rdT_ex h;exact resV_off hc h
 |ext i x=>simp only [evU] at h;obtain ⟨_,h⟩:=rdT_ex h;exact resV_off hc h
 |app es bytes s x=>
  simp only [evU] at h
  obtain ⟨w,h⟩:=rdK_ex h
  obtain ⟨y,h⟩:=rdK_ex h
  replace h:=(pos_ok h).2
  exfalso
  unfold srcK at h
  have key:∀xs,(match w with
   |.nil0=>∃l,appT bytes [] xs=some l∧newV nt V d (some (c,bb)) .sl (.gr es l) k
   |.sl O=>(match V.H.get O with
    |some (.gr z es')=>same z es (∃l,appT bytes es' xs=some l∧newV nt (dropO V O) d (some (c,bb)) .sl (.gr es l) k)
    |_=>False)
   |_=>False)→False:=fun xs h=>by
   split at h
   ·obtain ⟨l,_,h⟩:=h;exact h
   ·split at h
    ·obtain ⟨l,_,h⟩:=(same_ok h).2;exact h
    ·cases h
   ·cases h
  split at h
  ·obtain ⟨xs,_,_,h⟩:=h;exact key _ h
  ·exact key _ h
  ·split at h
   ·exact key _ (same_ok h).2
   ·cases h
  ·cases h
 |cpy es dd s=>cases h
 |clr es zero x=>cases h
 |len str x=>
  simp only [evU] at h
  obtain ⟨w,h⟩:=rdK_ex h
  unfold evLen at h
  split at h
  ·split at h
   ·exact resV_off hc h
   ·cases h
  ·split at h
   ·exact resV_off hc h
   ·exact resV_off hc h
   ·split at h
    ·exact resV_off hc h
    ·cases h
   ·cases h
 |mnx mx xs=>simp only [evU] at h;obtain ⟨vs,h⟩:=rdTs_ex h;exact resV_off hc h
 |mkmap=>cases h
 |mlook t zero ok m k=>cases h
 |mset t m k v=>cases h
 |mlen m=>cases h
 |call f args m=>
  cases m with
  |share=>cases h
  |borrow=>
   simp only [evU] at h
   obtain ⟨p,ts,r,h1,h2⟩:=argsK_ex h
   rw [gV_off hc h1] at h2
   exact ⟨none,.tr noT,.inl ⟨rfl,rfl⟩,h2⟩
 |callv f args m=>
  cases m with
  |share=>cases h
  |borrow=>
   simp only [evU] at h
   obtain ⟨_,h⟩:=rdT_ex h
   obtain ⟨n,_,h⟩:=h
   obtain ⟨p,ts,r,h1,h2⟩:=argsK_ex h
   rw [gV_off hc h1] at h2
   exact ⟨none,.tr noT,.inl ⟨rfl,rfl⟩,h2⟩
end
theorem can_undef:Can noT undefA:=.tp [] [] rfl (fun x hx=>by cases hx) (fun j t x ht=>by simp at ht)
def Goes1 (prog:Map AFunc) (nt:Nat) (A:Tok) (V:VSt) (st:St) (r:Option St) (k:VSt→Prop):Prop:=
 ∃st',r=some st'∧∃V' A',R A' V' st'∧Fr V A st.H st.nx V' A' st'.H st'.nx∧(∀O x,A O=some x→A' O=some x)∧k V'
theorem evO_sim (hsh:sh.vs=VSh prog) (hR:R A V st) {o:AOper} (h:evO sh prog nt V o k):Goes1 prog nt A V st (runOp (runFn prog) nt o st) k:=by
 obtain ⟨dd,op,gd,fz⟩:=o
 have fin:wanted st.env gd=true→(∃v H' nx',doFz (runFn prog) ⟨dd,op,gd,fz⟩ (ev st.env) st.H st.nx=some (v,H',nx')∧Next nt A V st dd v H' nx' k)→Goes1 prog nt A V st (runOp (runFn prog) nt ⟨dd,op,gd,fz⟩ st) k:=by
  rintro hw ⟨v,H',nx',h1,e',h2,V',A',h3,h4,h5⟩
  exact ⟨⟨e',H',nx'⟩,by simp only [runOp,hw,cond_true,h1,h2],V',A',h3,h4,h5⟩
 unfold evO at h
 simp only at h
 cases gd with
 |none=>
  cases fz with
  |true=>
   simp only at h
   split at h
   ·exact fin rfl (o_islice hR h)
   ·cases h
  |false=>
   obtain ⟨v,H',nx',h1,h2⟩:=evU_sim (g:=none) hsh hR trivial h
   exact fin rfl ⟨v,H',nx',h1,h2⟩
 |some p=>
  obtain ⟨n,bb⟩:=p
  cases fz with
  |true=>cases h
  |false=>
   obtain ⟨c,a,ha,hca,h⟩:=rdT_t hR h
   by_cases hc:c=.b bb
   ·subst hc
    cases hca
    obtain ⟨v,H',nx',h1,h2⟩:=evU_sim (g:=some (.b bb,bb)) hsh hR rfl h
    exact fin (by simp only [wanted,ha];cases bb <;> rfl) ⟨v,H',nx',h1,h2⟩
   ·obtain ⟨g,w,hg,hp⟩:=evU_off hc h
    have hw:wanted st.env (some (n,bb))=false:=by
     simp only [wanted,ha]
     split
     ·rename_i b' hb
      cases hb
      cases hca
      cases b' <;> cases bb <;> first | rfl | exact absurd rfl hc
     ·rfl
    have hn:Next nt A V st dd undefA st.H st.nx k:=putV_tree hR (fun hact=>by
     rcases hg with ⟨rfl,rfl⟩ | rfl
     ·exact .tr can_undef
     ·exact absurd hact hc) hp
    obtain ⟨e',h2,V',A',h3,h4,h5⟩:=hn
    exact ⟨⟨e',st.H,st.nx⟩,by simp only [runOp,hw,cond_false,h2],V',A',h3,h4,h5⟩
theorem evOs_sim (hsh:sh.vs=VSh prog):∀{l:List AOper} {A:Tok} {V:VSt} {st:St} {k:VSt→Prop},R A V st→evOs sh prog nt l V k→Goes1 prog nt A V st (runOps (runFn prog) nt l st) k
 |[],A,V,st,k,hR,h=>⟨st,rfl,V,A,hR,Fr.refl _ _ _ _,fun _ _ h=>h,h⟩
 |o :: l,A,V,st,k,hR,h=>by
  obtain ⟨st1,h1,V1,A1,h2,h3,hx,h4⟩:=evO_sim hsh hR h
  obtain ⟨st2,g1,V2,A2,g2,g3,gx,g4⟩:=evOs_sim hsh h2 h4
  exact ⟨st2,by rw [runOps_cons,h1];exact g1,V2,A2,g2,h3.trans g3,fun O x h=>gx O x (hx O x h),g4⟩
end
end Go.Ax.V
