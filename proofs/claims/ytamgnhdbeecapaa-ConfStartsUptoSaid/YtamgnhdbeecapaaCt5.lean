/- Part 5 of the proof: Ax24, Ax25, Ax26, Ax27, V0, LtIR, V1, V2. -/
import Derived.Test.YtamgnhdbeecapaaCt4
import Derived.LoopN
set_option linter.unusedSimpArgs false
set_option linter.unusedVariables false
noncomputable section
namespace Go.Ax
section
variable {cf:qn} {nt n0:Nat} {H:ck} {nx:Nat}
theorem MG (hup:BZ cf) {ao:br} {st st1:St} {r:Rec} (hd:gv cf nt n0 ao st=some (st1,r)):st.nx<=st1.nx:=by
 have qxh:∀{f:Nat} {args:List AV} {m:Mode} {v:AV} {H':ck} {nx':Nat} {jt:List Rd} {gQ:WH},je cf n0 f args m st.H st.nx=some (v,H',nx',jt,gQ)->st.nx<=nx':=by
  intro f args m v H' nx' jt gQ h;cases m with
  |share=>
   simp only [je] at h;split at h
   ·rename_i hc;cases h;exact hup _ _ _ _ _ _ _ hc
   ·cases h
  |borrow=>simp only [je,cond_eq_ite] at h;split at h<;>split at h<;>first|(cases h;exact qqT _)|cases h
 unfold gv at hd;rw [cond_eq_ite] at hd;split at hd
 ·split at hd
  ·cases hd
  ·rename_i v H nx jt gQ hE;split at hd
   ·cases hd
   ·cases hd;unfold oR at hE;rw [cond_eq_ite] at hE;split at hE
    ·split at hE
     ·split at hE
      ·cases hE
      ·split at hE
       ·cases hE;exact qqT _
       ·cases hE
     ·cases hE
    ·unfold Bb at hE;split at hE
     ·split at hE
      ·split at hE
       ·rename_i hrun;cases hE;exact Cm hrun
       ·cases hE
      ·cases hE
     ·exact qxh hE
     ·split at hE
      ·exact qxh hE
      ·cases hE
 ·split at hd
  ·cases hd
  ·cases hd;exact qqT _
theorem FA (hup:BZ cf):∀{al:List br} {st st':St} {rs:List Rec},lJ cf nt n0 al st=some (st',rs)->st.nx<=st'.nx
 |[],st,st',rs,h=>by cases h;exact qqT _
 |ao::al,st,st',rs,h=>by
  simp only [lJ] at h;split at h
  ·cases h
  ·rename_i st1 r h1;split at h
   ·cases h
   ·rename_i h2;cases h;exact qqR (MG hup h1) (FA hup h2)
end
def Ej (ex:oa):Prop:=∀nt ac st x st',ex nt ac st=some (x,st')->st.nx<=st'.nx
theorem K4 {ex:oa} {cf:qn} (h1:Ej ex) (h2:BZ cf):Ej (d_ ex cf):=by
 intro nt ac st x st' h;unfold d_ at h;split at h
 ·cases h;exact qqT _
 ·split at h
  ·rename_i hr;cases h;exact Hi h2 hr
  ·cases h
 ·split at h
  ·rename_i hr;cases h;unfold lI at hr;split at hr
   ·cases hr
   ·rename_i hrun;rw [cond_eq_ite] at hr;split at hr
    ·cases hr;exact FA h2 hrun
    ·cases hr
  ·cases h
 ·split at h
  ·rename_i hr;exact qqR (h1 _ _ _ _ _ hr) (h1 _ _ _ _ _ h)
  ·exact h1 _ _ _ _ _ h
 ·split at h
  ·exact h1 _ _ _ _ _ h
  ·exact h1 _ _ _ _ _ h
  ·cases h
 ·split at h
  ·rename_i hr;rw [cond_eq_ite] at h;split at h
   ·cases h;exact h1 _ _ _ _ _ hr
   ·cases h;exact h1 _ _ _ _ _ hr
  ·exact h1 _ _ _ _ _ h
 ·split at h
  ·rename_i hr;exact qqR (h1 _ _ _ _ _ hr) (h1 _ _ _ _ _ h)
  ·exact h1 _ _ _ _ _ h
 ·cases h;exact qqT _
 ·cases h;exact qqT _
theorem Iz {l:List wh} {st:St} {v:AV} {H':ck} {nx':Nat} (h:zn l st=some (v,H',nx')):H'=st.H/\nx'=st.nx:=by
 unfold zn at h;split at h
 ·cases h;exact⟨rfl,rfl⟩
 ·cases h;exact⟨rfl,rfl⟩
 ·cases h
theorem OI {prog:Map ay} {ex:oa} (h1:Ej ex):BZ (ta prog ex):=by
 intro f args H nx v H' nx' h;unfold ta at h;split at h
 ·cases h
 ·rw [cond_eq_ite] at h;split at h
  ·split at h
   ·rename_i hr;obtain⟨_,rfl⟩:=Iz h;exact h1 _ _ _ _ _ hr
   ·rename_i hr;obtain⟨_,rfl⟩:=Iz h;exact h1 _ _ _ _ _ hr
   ·cases h
  ·cases h
theorem HM (prog:Map ay):∀k,Ej (interp prog k).code/\BZ (interp prog k).fn
 |0=>⟨fun _ _ _ _ _ h=>(by cases h),fun _ _ _ _ _ _ _ h=>(by cases h)⟩
 |k+1=>by obtain⟨h1,h2⟩:=HM prog k;exact⟨K4 h1 h2,OI h1⟩
def vf (P:Program):Code->lF->Bool
 |.skip,.skip=>true
 |.region _ ops draw,.er al=>!draw&&Cs P ops ops.toList al
 |.region _ ops draw,.dz al ahead pairs=>draw&&Nm P ops al ahead pairs
 |.seq a b,.seq a' b'=>vf P a a'&&vf P b b'
 |.cond c a b,.cond c' a' b'=>e_ c c'&&vf P a a'&&vf P b b'
 |.block id c,.block id' c'=>Nat.beq id id'&&vf P c c'
 |.loop c,.loop c'=>vf P c c'
 |.exit id,.exit id'=>Nat.beq id id'
 |.ret,.ret=>true
 |_,_=>false
def gX.VC:gX->Exit
 |.normal=>.normal
 |.exit id=>.exit id
 |.ret=>.ret
def Ui (P:Program) (X:Code->(Exit->Act->World->Prop)->Act->World->Prop) (nt:Nat) (st:St) (x:gX) (st':St) (c:Code):Prop:=
 ∀(top:Nat) (φ:qh) (K:Nat->Prop) (w:World) (a:Act) (Q:Exit->Act->World->Prop),st'.nx<=top->gw top φ K st.H.get st.nx w->B0 φ K w st.env a->a.tmps.size=nt->a.defers=[]->(∀a' w',Post top φ K st w nt st' a' w'->Q x.VC a' w')->X c Q a w
def GH (P:Program) (ex:oa):Prop:=∀nt ac st x st',ex nt ac st=some (x,st')->∀c,vf P c ac=true->Ui P (fun c Q a w=>c.wp P Q a w) nt st x st' c
def Jj (P:Program) (ex:oa) (n:Nat):Prop:=∀nt ac st x st',ex nt (.loop ac) st=some (x,st')->∀c,vf P c ac=true->Ui P (fun c Q a w=>Code.rounds P c Q n a w) nt st x st' c
theorem Nn {P:Program} {ex:oa} {cf:qn} {n:Nat} (h1:GH P ex) (hu:Ej ex) (hl:Jj P ex n):Jj P (d_ ex cf) (n+1):=by
 intro nt ac st x st' h c hm top φ K w a Q ht s he hs hd hQ;simp only [d_] at h;rw [rounds_succ];split at h
 ·rename_i st1 hr;have hle:=hu _ _ _ _ _ h;refine h1 nt ac st .normal st1 hr c hm top φ K w a _ (qqR hle ht) s he hs hd (fun a1 w1 hp=>?_);obtain⟨φ1,K1,g,q1,q2,q3⟩:=hp;exact hl nt ac st1 x st' h c hm top φ1 K1 w1 a1 Q ht g.CL q1 q2 q3 (fun a' w' hp'=>hQ a' w' (hp'.trans g))
 ·rename_i hne;refine h1 nt ac st x st' h c hm top φ K w a _ ht s he hs hd (fun a1 w1 hp=>?_);cases x with
  |normal=>exact(hne _ h).elim
  |exit id=>exact hQ a1 w1 hp
  |ret=>exact hQ a1 w1 hp
theorem Tx {P:Program} {ex:oa} {cf:qn} {n:Nat} (Fc:P.follows .mixedOrders=true) (h1:GH P ex) (hu:Ej ex) (hl:Jj P ex n) (hcf:Aq P cf) (hup:BZ cf):GH P (d_ ex cf):=by
 intro nt ac st x st' h c hm top φ K w a Q ht s he hs hd hQ;cases ac with
 |skip=>
  cases c<;>first|cases hm|skip
  cases h;exact wp_skip (hQ a w ⟨φ,K,ic.refl s,he,hs,hd⟩)
 |er al=>
  cases c<;>first|cases hm|skip
  rename_i id ops draw;simp only [vf,qqB,qqD] at hm;obtain⟨rfl,hm⟩:=hm;simp only [d_] at h;split at h
  ·rename_i st1 hr;cases h;exact wp_region_list (regs hcf hup ops.toList al st st' a w φ K hm hr ht s he hs hd hQ)
  ·cases h
 |dz al ahead pairs=>
  cases c<;>first|cases hm|skip
  rename_i id ops draw;simp only [vf,qqB] at hm;obtain⟨rfl,hm⟩:=hm;simp only [d_] at h;split at h
  ·rename_i st1 hr;cases h;exact Tt hcf hup Fc hm hr ht s he hs hd hQ
  ·cases h
 |seq a1 b1=>
  cases c<;>first|cases hm|skip
  rename_i ca cb;simp only [vf,qqB] at hm;simp only [d_] at h;refine wp_seq ?_;split at h
  ·rename_i st1 hr;have hle:=hu _ _ _ _ _ h;refine h1 nt a1 st .normal st1 hr ca hm.1 top φ K w a _ (qqR hle ht) s he hs hd (fun a1 w1 hp=>?_);obtain⟨φ1,K1,g,q1,q2,q3⟩:=hp;exact h1 nt b1 st1 x st' h cb hm.2 top φ1 K1 w1 a1 Q ht g.CL q1 q2 q3 (fun a' w' hp'=>hQ a' w' (hp'.trans g))
  ·rename_i hne;refine h1 nt a1 st x st' h ca hm.1 top φ K w a _ ht s he hs hd (fun a1 w1 hp=>?_);cases x with
   |normal=>exact(hne _ h).elim
   |exit id=>exact hQ a1 w1 hp
   |ret=>exact hQ a1 w1 hp
 |cond c0 a1 b1=>
  cases c<;>first|cases hm|skip
  rename_i cc ca cb;simp only [vf,qqB] at hm;simp only [d_] at h;have hr:=he.opd _ _ hm.1.1;split at h
  ·rename_i hc;rw [hc] at hr;exact wp_cond_true (lQ hr) (h1 nt a1 st x st' h ca hm.1.2 top φ K w a Q ht s he hs hd hQ)
  ·rename_i hc;rw [hc] at hr;exact wp_cond_false (lQ hr) (h1 nt b1 st x st' h cb hm.2 top φ K w a Q ht s he hs hd hQ)
  ·cases h
 |block id c0=>
  cases c<;>first|cases hm|skip
  rename_i id' cc;simp only [vf,qqB,qqE] at hm;obtain⟨rfl,hm⟩:=hm;simp only [d_] at h;refine wp_block ?_;split at h
  ·rename_i i st1 hr;rw [cond_eq_ite] at h;split at h
   ·rename_i hi;rw [qqE] at hi;cases h;refine h1 nt c0 st (.exit i) st' hr cc hm top φ K w a _ ht s he hs hd (fun a1 w1 hp=>?_);simp only [gX.VC,Exit.inBlock,if_pos hi];exact hQ a1 w1 hp
   ·rename_i hi;rw [qqE] at hi;cases h;refine h1 nt c0 st (.exit i) st' hr cc hm top φ K w a _ ht s he hs hd (fun a1 w1 hp=>?_);simp only [gX.VC,Exit.inBlock,if_neg hi];exact hQ a1 w1 hp
  ·rename_i hne;refine h1 nt c0 st x st' h cc hm top φ K w a _ ht s he hs hd (fun a1 w1 hp=>?_);cases x with
   |normal=>exact hQ a1 w1 hp
   |exit id=>exact(hne _ _ h).elim
   |ret=>exact hQ a1 w1 hp
 |loop c0=>
  cases c<;>first|cases hm|skip
  rename_i cc;exact wp_loop_rounds (n+1) (Nn (cf:=cf) h1 hu hl nt c0 st x st' h cc hm top φ K w a Q ht s he hs hd hQ)
 |exit id=>
  cases c<;>first|cases hm|skip
  simp only [vf,qqE] at hm;subst hm;cases h;exact wp_exit (hQ a w ⟨φ,K,ic.refl s,he,hs,hd⟩)
 |ret=>
  cases c<;>first|cases hm|skip
  cases h;exact wp_ret (hQ a w ⟨φ,K,ic.refl s,he,hs,hd⟩)
def Ks (P:Program):List ResultVar->List wh->Bool
 |[],[]=>true
 |.tmp t::l,.tmp t'::l'=>Nat.beq t t'&&Ks P l l'
 |.cell a t::l,.cell a' sz::l'=>Nat.beq a a'&&Fv P t sz&&Ks P l l'
 |_,_=>false
def QL (P:Program) (fn:Func) (c:Code) (af:ay):Bool:=Nat.beq fn.ntmps af.nt&&Nat.ble af.params af.nt&&vf P c af.body&&Ks P fn.results.toList af.res
def Dv (P:Program) (f:Nat) (af:ay):Prop:=(∃fn c,P.funcs[f]?=some fn/\fn.body=some c/\QL P fn c af=true)/\∀args w,(callFunc f args).run P w=.ok (.enter f args) w
theorem Kw:∀(vs:List AV) (i:Nat) (e:Env) (t:Nat),ev (jj vs i e) (.t t)=if i<=t/\t < i+vs.length then vs.getD (t - i) kr else ev e (.t t)
 |[],i,e,t=>by simp [jj];intro h1 h2;omega
 |v::vs,i,e,t=>by
  rw [jj,Kw vs (i+1) _ t,Mw];by_cases h1:t=i
  ·subst h1;rw [if_neg (by omega),if_pos rfl,if_pos (by simp)];simp
  ·rw [if_neg h1];by_cases h2:i+1<=t/\t < i+1+vs.length
   ·rw [if_pos h2,if_pos (by simp;omega),show t - i=(t - (i+1))+1 by omega];simp
   ·rw [if_neg h2,if_neg (by simp;omega)]
section
variable {top:Nat} {P:Program} {φ:qh} {K:Nat->Prop} {w:World} {st:St} {a:Act}
def FG (tmps:Array Value):ResultVar->Sem Value
 |.tmp t=>pure (tmps.getD t undef)
 |.cell b t=>do loadVar t (←asAddr (tmps.getD b undef))
theorem LY (fn:Func) (tmps:Array Value):results fn tmps=(do let vs ←fn.results.mapM (FG tmps);pure (if h:vs.size=1 then vs[0] else .tuple vs)):=by rfl
theorem On (s:gw top φ K st.H.get st.nx w) (he:B0 φ K w st.env a):∀(l:List ResultVar) (l':List wh) (vs:List AV),Ks P l l'=true->lX (oc st.env st.H) l'=some vs->
  ∃Vs:List Value,(l.mapM (FG a.tmps)).run P w=.ok Vs w/\Vs.length=vs.length/\∀(j:Nat) (v:AV) (V:Value),vs[j]?=some v->Vs[j]?=some V->bz φ K w v V:=by
 intro l
 induction l with
 |nil=>
  intro l' vs hm hv;cases l' with
  |nil=>cases hv;exact⟨[],rfl,rfl,fun j v V h=>by simp at h⟩
  |cons _ _=>cases hm
 |cons r l ih=>
  intro l' vs hm hv;cases l' with
  |nil=>cases r<;>cases hm
  |cons r' l'=>
   rw [iq] at hv;cases h1:oc st.env st.H r' with
   |none=>rw [h1] at hv;cases hv
   |some v=>
    rw [h1] at hv;simp only at hv;cases h2:lX (oc st.env st.H) l' with
    |none=>rw [h2] at hv;cases hv
    |some vs'=>
     rw [h2] at hv;cases hv;have fin:∀V:Value,bz φ K w v V->Ks P l l'=true->(FG a.tmps r).run P w=.ok V w->
       ∃Vs:List Value,((r::l).mapM (FG a.tmps)).run P w=.ok Vs w/\Vs.length=(v::vs').length/\∀(j:Nat) (v':AV) (V':Value),(v::vs')[j]?=some v'->Vs[j]?=some V'->bz φ K w v' V':=by
      intro V hV hml hrun;obtain⟨Vs,q1,q2,q3⟩:=ih l' vs' hml h2;refine⟨V::Vs,?_,by simp [q2],fun j v' V' hj hJ=>?_⟩
      ·rw [List.mapM_cons,Sem.run_bind];rw [hrun];simp [q1]
      ·cases j with
       |zero=>simp at hj hJ;subst hj;subst hJ;exact hV
       |succ j=>exact q3 j v' V' (by simpa using hj) (by simpa using hJ)
     cases r with
     |tmp t=>
      cases r' with
      |cell _ _=>cases hm
      |tmp t'=>simp only [Ks,qqB,qqE] at hm;obtain⟨rfl,hm⟩:=hm;cases h1;exact fin _ (he t) hm rfl
     |cell b t=>
      cases r' with
      |tmp _=>cases hm
      |cell b' sz=>
       simp only [Ks,qqB,qqE] at hm;obtain⟨⟨rfl,htv⟩,hm⟩:=hm;simp only [oc] at h1;split at h1
       ·rename_i id g off hev;split at h1
        ·rename_i cs hcs;rw [NF] at hcs;have hb:=he b;rw [hev] at hb;obtain⟨blk,base,hp1,hV⟩:=zo hb;obtain⟨b1,qxd,c,e,p1,p2,p3,p4,p5⟩:=sn s hcs;rw [hp1] at p1;cases p1;have hlen:=xw c (base+off) (gH sz);have qq9:∀(j:Nat) (x:AV),cs[j]?=some x->x.one=true/\∃u,(Ct c (base+off) (gH sz))[j]?=some u/\bz φ K w x u:=by
          intro j x hx;obtain⟨r1,u,r2,r3⟩:=p5 j x hx;have hj:j < gH sz:=by
           rcases Nat.lt_or_ge j cs.length with hj|hj
           ·omega
           ·rw [qqf hj] at hx;cases hx
          exact⟨r1,u,by rw [qv c _ _ j hj (by omega)];exact r2,r3⟩
         refine fin _ (IC s htv h1 _ (by rw [p4,hlen]) qq9) hm ?_;simp only [FG,hV,asAddr,Sem.run_bind,Sem.run_pure,Result.andThen_ok];refine AF htv blk (base+off) _ hlen (fun j hj=>?_);rw [Ai p2,qv c _ _ j (by omega) (by omega)]
        ·cases h1
       ·cases h1
theorem LX (s:gw top φ K st.H.get st.nx w) (he:B0 φ K w st.env a) {fn:Func} {l':List wh} (hm:Ks P fn.results.toList l'=true) {v:AV} {H':ck} {nx':Nat} (hv:zn l' st=some (v,H',nx')) :
  ∃V,(results fn a.tmps).run P w=.ok V w/\bz φ K w v V:=by
 unfold zn at hv;have key:∀vs,lX (oc st.env st.H) l'=some vs->∃Vs:List Value,Vs.length=vs.length/\(∀(j:Nat) (v:AV) (V:Value),vs[j]?=some v->Vs[j]?=some V->bz φ K w v V)/\(results fn a.tmps).run P w=.ok (if h:Vs.toArray.size=1 then Vs.toArray[0] else .tuple Vs.toArray) w:=by
  intro vs hvs;obtain⟨Vs,q1,q2,q3⟩:=On s he fn.results.toList l' vs hm hvs;refine⟨Vs,q2,q3,?_⟩;have e:fn.results=fn.results.toList.toArray:=by simp
  rw [LY,e,List.mapM_toArray];simp [q1]
 split at hv
 ·rename_i v1 hvs;cases hv;obtain⟨Vs,q1,q2,q3⟩:=key _ hvs;cases Vs with
  |nil=>simp at q1
  |cons V Vs=>have hVs:Vs=[]:=List.eq_nil_of_length_eq_zero (by simpa using q1);subst hVs;exact⟨V,by rw [q3];rfl,q2 0 v V rfl rfl⟩
 ·rename_i vs hne hvs;cases hv;obtain⟨Vs,q1,q2,q3⟩:=key _ hvs;refine⟨.tuple Vs.toArray,?_,.qo vs Vs.toArray (by simp [q1]) (fun j a V ha hV=>q2 j a V ha (by simpa using hV))⟩;rw [q3,dif_neg];intro h1;cases vs with
  |nil=>simp at q1;simp [q1] at h1
  |cons v1 vs1=>
   cases vs1 with
   |nil=>exact hne v1 rfl
   |cons _ _=>simp at q1 h1;omega
 ·cases hv
end
theorem ZQ {P:Program} {prog:Map ay} (qxK:∀f af,prog.get f=some af->Dv P f af) {ex:oa} (h1:GH P ex):Aq P (ta prog ex):=by
 intro f args H nx v H' nx' h;unfold ta at h;split at h
 ·cases h
 ·rename_i af haf;obtain⟨⟨fn,c,hf,hb,hm⟩,qxh⟩:=qxK f af haf;simp only [QL,qqB,qqE,qqF] at hm;obtain⟨⟨⟨hnt,hpn⟩,hmc⟩,hmr⟩:=hm;refine⟨qxh,?_⟩;rw [cond_eq_ite] at h;split at h
  ·rename_i hlen;rw [qqE] at hlen;intro top φ K w cargs ht s ha;have hsz:(cargs++Array.replicate (fn.ntmps - cargs.size) undef).size=af.nt:=by have:=ha.1;simp;omega
   have qxB:B0 φ K w (jj args 0 .leaf) {tmps:=cargs++Array.replicate (fn.ntmps - cargs.size) undef,defers:=[]}:=by
    intro t;rw [Kw];simp only [qqS,true_and,Nat.zero_add,Nat.sub_zero];by_cases hlt:t < args.length
    ·rw [if_pos hlt];have hc:t < cargs.size:=by have:=ha.1;omega
     have h2:=ha.2 t _ _ (qqa hlt) (Array.getElem?_eq_getElem hc);have e1:args.getD t kr=args[t]:=by simp [hlt]
     have e2:(cargs++Array.replicate (fn.ntmps - cargs.size) undef).getD t undef=cargs[t]:=by rw [Array.getD_eq_getD_getElem?,Array.getElem?_append_left hc,Array.getElem?_eq_getElem hc];rfl
     rw [e1,e2];exact h2
    ·rw [if_neg hlt];have e2:(cargs++Array.replicate (fn.ntmps - cargs.size) undef).getD t undef=undef:=by rw [Array.getD_eq_getD_getElem?,Array.getElem?_append_right (by have:=ha.1;omega),Array.getElem?_replicate];split<;>rfl
     rw [e2];exact DA
   have fin:∀(x:gX) (st:St),ex af.nt af.body ⟨jj args 0 .leaf,H,nx⟩=some (x,st)->(x=.normal\/x=.ret)->zn af.res st=some (v,H',nx')->Calls P f cargs w (WL (Ends top φ K H.get nx w v H'.get nx')):=by
    intro x st hr hx hres;obtain⟨rfl,rfl⟩:=Iz hres;refine calls_of_wp hf hb ?_;refine h1 af.nt af.body _ x st hr c hmc top φ K w _ _ ht s qxB hsz rfl (fun a' w' hp=>?_);obtain⟨φ',K',g,qzw,hs',hd'⟩:=hp;obtain⟨V,hV1,hV2⟩:=LX (P:=P) (fn:=fn) g.CL qzw hmr hres;have hb:a'.defers=[]/\∃V,(results fn a'.tmps).run P w'=.ok V w'/\WL (Ends top φ K H.get nx w v st.H.get st.nx) (.returned V) w':=⟨hd',V,hV1,φ',K',g,hV2⟩;rcases hx with rfl|rfl
    ·exact hb
    ·exact hb
   split at h
   ·rename_i st hr;exact fin .normal st hr (.inl rfl) h
   ·rename_i st hr;exact fin .ret st hr (.inr rfl) h
   ·cases h
  ·cases h
theorem HN {P:Program} (Fc:P.follows .mixedOrders=true) {prog:Map ay} (qxK:∀f af,prog.get f=some af->Dv P f af):∀k,GH P (interp prog k).code/\Jj P (interp prog k).code k/\Aq P (interp prog k).fn
 |0=>⟨fun _ _ _ _ _ h=>(by cases h),fun _ _ _ _ _ h=>(by cases h),fun _ _ _ _ _ _ _ h=>(by cases h)⟩
 |k+1=>by obtain⟨h1,h2,h3⟩:=HN Fc qxK k;obtain⟨u1,u2⟩:=HM prog k;exact⟨Tx Fc h1 u1 h2 h3 u2,Nn h1 u1 h2,ZQ qxK h1⟩
end Go.Ax
namespace Go.Ax
theorem IW {W W':World} (e:Ext (fun _=>False) W W'):RowKit.Grown W W':=by
 refine⟨⟨e.os,e.output,fun i hi=>?_⟩,e.fz,e.size⟩;rw [e.same i hi (fun h=>h)];cases h:W.heap[i]? with
 |none=>rfl
 |some ob=>
  cases ob with
  |cells c t fr=>exact⟨rfl,rfl,rfl,fun _ _=>rfl⟩
  |map es clk=>exact .inr ⟨rfl,rfl⟩
  |_=>rfl
def isTrue:Option (AV×ck×Nat)->Bool
 |some (.bool b,_,_)=>b
 |_=>false
theorem EB {r:Option (AV×ck×Nat)} (h:isTrue r=true):∃H nx,r=some (.bool true,H,nx):=by
 unfold isTrue at h;split at h
 ·subst h;exact⟨_,_,rfl⟩
 ·cases h
theorem MP {P:Program} {cf:qn} (hcf:Aq P cf) {f:Nat} {args:List AV} (h:isTrue (cf f args .leaf 0)=true) {cargs:Array Value} {W:World} (ha:GK Hy (fun b=>b < W.heap.size) W args cargs) :
  Calls P f cargs W fun e W'=>e=.returned (.bool true)/\RowKit.Grown W W':=by
 obtain⟨H,nx,hr⟩:=EB h;refine Calls.mono ((hcf f args .leaf 0 _ H nx hr).2 nx Hy (fun b=>b < W.heap.size) W cargs (qqT _) (Fz _ (fun b hb=>hb)) ha) (fun e W' he=>?_);cases e with
 |returned V=>obtain⟨φ',K',g,hv⟩:=he;rw [lQ hv];exact⟨rfl,IW (g.ext.mono (fun b hb=>(Cq hb).elim))⟩
 |panicked _=>exact he.elim
 |outgrown=>exact he.elim
theorem RV {φ:qh} {K:Nat->Prop} {w:World} {a:AV} {V:Value} (h:bz φ K w a V):GK φ K w [a] #[V]:=
 ⟨rfl,fun j b U hb hU=>by
  cases j with
  |zero=>simp at hb hU;subst hb;subst hU;exact h
  |succ j=>simp at hb⟩
def mF (P:Program) (fn:Func) (af:ay):Bool:=match fn.body with|some c=>QL P fn c af|none=>false
theorem Mc {P:Program} {f:Nat} {fn:Func} {af:ay} (hf:P.funcs[f]?=some fn) (hm:mF P fn af=true) (qxh:∀args w,(callFunc f args).run P w=.ok (.enter f args) w):Dv P f af:=by
 unfold mF at hm;split at hm
 ·rename_i c hc;exact⟨⟨fn,c,hf,hc,hm⟩,qxh⟩
 ·cases hm
def TK (M:Nat->ay->Prop):Map ay->(Nat->Nat)->Prop
 |.leaf,_=>True
 |.node v l r,p=>(match v with|some af=>M (p 0) af|none=>True)/\TK M l (fun k=>p (2*k+1))/\TK M r (fun k=>p (2*k+2))
theorem GC {M:Nat->ay->Prop}:∀(m:Map ay) (p:Nat->Nat),TK M m p->∀i af,m.get i=some af->M (p i) af
 |.leaf,p,_,i,af,h=>by cases h
 |.node v l r,p,h,i,af,hg=>by
  obtain⟨h1,h2,h3⟩:=h;rw [Map.ia] at hg;by_cases h0:i=0
  ·subst h0;simp at hg;subst hg;exact h1
  ·rw [if_neg h0] at hg;split at hg
   ·have:=GC l _ h2 _ af hg;rwa [show 2*(i / 2)+1=i by omega] at this
   ·have:=GC r _ h3 _ af hg;rwa [show 2*(i / 2 - 1)+2=i by omega] at this
end Go.Ax
namespace Go.Ax
open Classical
def Ev {α:Type} (X:Nat->Option α) (r:α):Prop:=∃k0,∀k,k0<=k->X k=some r
theorem Ev.const {α:Type} {x:Option α} {r:α} (h:x=some r):Ev (fun _=>x) r:=⟨0,fun _ _=>h⟩
theorem Ev.bind {α β:Type} {X:Nat->Option α} {Y:Nat->α->Option β} {a:α} {b:β} (h1:Ev X a) (h2:Ev (fun k=>Y k a) b):Ev (fun k=>match X k with|some x=>Y k x|none=>none) b:=by obtain⟨k1,h1⟩:=h1;obtain⟨k2,h2⟩:=h2;exact⟨max k1 k2,fun k hk=>by simp only [h1 k (by omega)];exact h2 k (by omega)⟩
theorem Ev.map {α β:Type} {X:Nat->Option α} (f:Option α->Option β) {a:α} {b:β} (h1:Ev X a) (h2:f (some a)=some b):Ev (fun k=>f (X k)) b:=by obtain⟨k1,h1⟩:=h1;exact⟨k1,fun k hk=>by show f (X k)=some b;rw [h1 k hk];exact h2⟩
theorem Ev.uniq {α:Type} {X:Nat->Option α} {a b:α} (h1:Ev X a) (h2:Ev X b):a=b:=by obtain⟨k1,h1⟩:=h1;obtain⟨k2,h2⟩:=h2;have e1:=h1 (max k1 k2) (by omega);have e2:=h2 (max k1 k2) (by omega);rw [e1] at e2;exact qqO e2
theorem Ev.congr {α:Type} {X Y:Nat->Option α} {a:α} (h:Ev X a) (e:∀k,Y k=X k):Ev Y a:=by obtain⟨k1,h1⟩:=h;exact⟨k1,fun k hk=>by rw [e];exact h1 k hk⟩
def Ei (cfk:Nat->qn) (cf:qn):Prop:=∀f args H nx r,cf f args H nx=some r->Ev (fun k=>cfk k f args H nx) r
def GI (exk:Nat->oa) (ex:oa):Prop:=∀nt c st r,ex nt c st=some r->Ev (fun k=>exk k nt c st) r
section
variable {cfk:Nat->qn} {cf:qn} {nt n0:Nat}
theorem BL (h:Ei cfk cf) {f:Nat} {args:List AV} {m:Mode} {H:ck} {nx:Nat} {r:AV×ck×Nat} (hd:gL cf f args m H nx=some r):Ev (fun k=>gL (cfk k) f args m H nx) r:=by
 cases m with
 |share=>exact h _ _ _ _ _ hd
 |borrow=>
  simp only [gL,cond_eq_ite] at hd ⊢;split at hd
  ·rename_i hp;simp only [if_pos hp];cases hc:cf f args .leaf 0 with
   |none=>rw [hc] at hd;cases hd
   |some q=>
    rw [hc] at hd
    (obtain⟨k1,e1⟩:=h _ _ _ _ _ hc;exact⟨k1,fun k hk=>by simp only [e1 k hk];exact hd⟩)
  ·rename_i hp;simp only [if_neg hp];split at hd
   ·cases hd
   ·rename_i as has;cases hc:cf f as .leaf 0 with
    |none=>rw [hc] at hd;cases hd
    |some q=>
     rw [hc] at hd
     (obtain⟨k1,e1⟩:=h _ _ _ _ _ hc;exact⟨k1,fun k hk=>by simp only [e1 k hk];exact hd⟩)
theorem Tv (h:Ei cfk cf) {o:br} {ρ:b_->AV} {H:ck} {nx:Nat} {r:AV×ck×Nat} (hd:Ao cf o ρ H nx=some r):Ev (fun k=>Ao (cfk k) o ρ H nx) r:=by
 simp only [Ao,cond_eq_ite] at hd ⊢;by_cases hz:o.fz=true
 ·simp only [if_pos hz] at hd ⊢;exact Ev.const hd
 ·simp only [if_neg hz] at hd ⊢;simp only [qj] at hd ⊢;cases hk:kind o.op with
  |plan p=>rw [hk] at hd;exact Ev.const hd
  |call f args m=>rw [hk] at hd;exact BL h hd
  |lA f args m=>rw [hk] at hd;simp only at hd ⊢;cases hf:ρ f<;>rw [hf] at hd<;>first|cases hd|exact BL h hd
theorem PY (h:Ei cfk cf) {o:br} {st st':St} (hd:ql cf nt o st=some st'):Ev (fun k=>ql (cfk k) nt o st) st':=by
 simp only [ql,cond_eq_ite] at hd ⊢;by_cases hw:wanted st.env o.gd=true
 ·simp only [if_pos hw] at hd ⊢;cases hf:Ao cf o (ev st.env) st.H st.nx with
  |none=>rw [hf] at hd;cases hd
  |some q=>
   rw [hf] at hd
   (obtain⟨k1,e1⟩:=Tv h hf;exact⟨k1,fun k hk=>by simp only [e1 k hk];exact hd⟩)
 ·simp only [if_neg hw] at hd ⊢;exact Ev.const hd
theorem Oi (h:Ei cfk cf):∀{l:List br} {st st':St},pg cf nt l st=some st'->Ev (fun k=>pg (cfk k) nt l st) st':=by
 intro l
 induction l with
 |nil=>intro st st' hd;exact Ev.const hd
 |cons o l ih=>
  intro st st' hd;rw [oO] at hd;split at hd
  ·rename_i st1 h1;exact(Ev.bind (Y:=fun k st=>pg (cfk k) nt l st) (PY h h1) (ih hd)).congr (fun k=>by rw [oO];cases ql (cfk k) nt o st<;>rfl)
  ·cases hd
theorem Gk (h:Ei cfk cf) {f:Nat} {args:List AV} {m:Mode} {H:ck} {nx:Nat} {r:Eff} (hd:je cf n0 f args m H nx=some r):Ev (fun k=>je (cfk k) n0 f args m H nx) r:=by
 cases m with
 |share=>
  simp only [je] at hd ⊢;cases hc:cf f args (H.upto fun i=>Nat.blt i n0) nx with
  |none=>rw [hc] at hd;cases hd
  |some q=>
   rw [hc] at hd
   (obtain⟨k1,e1⟩:=h _ _ _ _ _ hc;exact⟨k1,fun k hk=>by simp only [e1 k hk];exact hd⟩)
 |borrow=>
  simp only [je,cond_eq_ite] at hd ⊢;by_cases hp:gE AV.plain args=true
  ·simp only [if_pos hp] at hd ⊢;cases hc:gL cf f args .borrow H nx with
   |none=>rw [hc] at hd;cases hd
   |some q=>
    rw [hc] at hd
    (obtain⟨k1,e1⟩:=BL h hc;exact⟨k1,fun k hk=>by simp only [e1 k hk];exact hd⟩)
  ·simp only [if_neg hp] at hd ⊢;cases hc:gL cf f args .borrow (H.upto fun i=>Nat.blt i n0) nx with
   |none=>rw [hc] at hd;cases hd
   |some q=>
    rw [hc] at hd
    (obtain⟨k1,e1⟩:=BL h hc;exact⟨k1,fun k hk=>by simp only [e1 k hk];exact hd⟩)
theorem Rw (h:Ei cfk cf) {o:br} {ρ:b_->AV} {H:ck} {nx:Nat} {r:Eff} (hd:oR cf n0 o ρ H nx=some r):Ev (fun k=>oR (cfk k) n0 o ρ H nx) r:=by
 simp only [oR,cond_eq_ite] at hd ⊢;by_cases hz:o.fz=true
 ·simp only [if_pos hz] at hd ⊢;exact Ev.const hd
 ·simp only [if_neg hz] at hd ⊢;simp only [Bb] at hd ⊢;cases hk:kind o.op with
  |plan p=>rw [hk] at hd;exact Ev.const hd
  |call f args m=>rw [hk] at hd;exact Gk h hd
  |lA f args m=>rw [hk] at hd;simp only at hd ⊢;cases hf:ρ f<;>rw [hf] at hd<;>first|cases hd|exact Gk h hd
theorem MH (h:Ei cfk cf) {o:br} {st:St} {r:St×Rec} (hd:gv cf nt n0 o st=some r):Ev (fun k=>gv (cfk k) nt n0 o st) r:=by
 simp only [gv,cond_eq_ite] at hd ⊢;by_cases hw:wanted st.env o.gd=true
 ·simp only [if_pos hw] at hd ⊢;cases hf:oR cf n0 o (ev st.env) st.H st.nx with
  |none=>rw [hf] at hd;cases hd
  |some q=>
   rw [hf] at hd
   (obtain⟨k1,e1⟩:=Rw h hf;exact⟨k1,fun k hk=>by simp only [e1 k hk];exact hd⟩)
 ·simp only [if_neg hw] at hd ⊢;exact Ev.const hd
theorem LU (h:Ei cfk cf):∀{l:List br} {st:St} {r:St×List Rec},lJ cf nt n0 l st=some r->Ev (fun k=>lJ (cfk k) nt n0 l st) r:=by
 intro l
 induction l with
 |nil=>intro st r hd;exact Ev.const hd
 |cons o l ih=>
  intro st r hd;simp only [lJ] at hd ⊢;split at hd
  ·cases hd
  ·rename_i st1 r1 h1;split at hd
   ·cases hd
   ·rename_i st2 l2 h2;obtain⟨k1,e1⟩:=MH (cfk:=cfk) h h1;obtain⟨k2,e2⟩:=ih h2;exact⟨max k1 k2,fun k hk=>by simp only [e1 k (by omega),e2 k (by omega)];exact hd⟩
theorem LS (h:Ei cfk cf) {ops:List br} {ahead:List (List Nat)} {pairs:List (Nat×Nat)} {st st':St} (hd:lI cf nt ops ahead pairs st=some st'):Ev (fun k=>lI (cfk k) nt ops ahead pairs st) st':=by
 simp only [lI] at hd ⊢;cases hr:lJ cf nt st.nx ops st with
 |none=>rw [hr] at hd;cases hd
 |some q=>
  rw [hr] at hd
  (obtain⟨k1,e1⟩:=LU h hr;exact⟨k1,fun k hk=>by simp only [e1 k hk];exact hd⟩)
theorem EJ {exk:Nat->oa} {ex:oa} (h:Ei cfk cf) (hc:GI exk ex):GI (fun k=>d_ (exk k) (cfk k)) (d_ ex cf):=by
 intro nt c st r hd;cases c with
 |skip=>exact Ev.const hd
 |exit id=>exact Ev.const hd
 |ret=>exact Ev.const hd
 |er ops=>
  simp only [d_] at hd ⊢;cases hr:pg cf nt ops st with
  |none=>rw [hr] at hd;cases hd
  |some q=>rw [hr] at hd;(obtain⟨k1,e1⟩:=Oi h hr;exact⟨k1,fun k hk=>by simp only [e1 k hk];exact hd⟩)
 |dz ops ahead pairs=>
  simp only [d_] at hd ⊢;cases hr:lI cf nt ops ahead pairs st with
  |none=>rw [hr] at hd;cases hd
  |some q=>rw [hr] at hd;(obtain⟨k1,e1⟩:=LS h hr;exact⟨k1,fun k hk=>by simp only [e1 k hk];exact hd⟩)
 |seq a b=>
  simp only [d_] at hd ⊢;split at hd
  ·rename_i st1 h1;obtain⟨k1,e1⟩:=hc _ _ _ _ h1;obtain⟨k2,e2⟩:=hc _ _ _ _ hd;exact⟨max k1 k2,fun k hk=>by simp only [e1 k (by omega)];exact e2 k (by omega)⟩
  ·rename_i hne;obtain⟨k1,e1⟩:=hc _ _ _ _ hd;refine⟨k1,fun k hk=>?_⟩;simp only [e1 k hk];split
   ·rename_i st1 heq;cases heq;exact absurd hd (hne st1)
   ·rfl
 |cond c a b=>
  simp only [d_] at hd ⊢;split at hd
  ·exact hc _ _ _ _ hd
  ·exact hc _ _ _ _ hd
  ·cases hd
 |block id c=>
  simp only [d_] at hd ⊢;split at hd
  ·rename_i i st1 h1;obtain⟨k1,e1⟩:=hc _ _ _ _ h1;exact⟨k1,fun k hk=>by simp only [e1 k hk];exact hd⟩
  ·rename_i hne;obtain⟨k1,e1⟩:=hc _ _ _ _ hd;refine⟨k1,fun k hk=>?_⟩;simp only [e1 k hk];split
   ·rename_i i st1 heq;cases heq;exact absurd hd (hne i st1)
   ·rfl
 |loop c=>
  simp only [d_] at hd ⊢;split at hd
  ·rename_i st1 h1;obtain⟨k1,e1⟩:=hc _ _ _ _ h1;obtain⟨k2,e2⟩:=hc _ _ _ _ hd;exact⟨max k1 k2,fun k hk=>by simp only [e1 k (by omega)];exact e2 k (by omega)⟩
  ·rename_i hne;obtain⟨k1,e1⟩:=hc _ _ _ _ hd;refine⟨k1,fun k hk=>?_⟩;simp only [e1 k hk];split
   ·rename_i st1 heq;cases heq;exact absurd hd (hne st1)
   ·rfl
theorem HV {prog:Map ay} {exk:Nat->oa} {ex:oa} (hc:GI exk ex):Ei (fun k=>ta prog (exk k)) (ta prog ex):=by
 intro f args H nx r hd;simp only [ta] at hd ⊢;split at hd
 ·cases hd
 ·rename_i af haf;simp only [cond_eq_ite] at hd ⊢;split at hd
  ·rename_i hl;simp only [if_pos hl];cases hr:ex af.nt af.body ⟨jj args 0 .leaf,H,nx⟩ with
   |none=>rw [hr] at hd;cases hd
   |some q=>
    rw [hr] at hd
    (obtain⟨k1,e1⟩:=hc _ _ _ _ hr;exact⟨k1,fun k hk=>by simp only [e1 k hk];exact hd⟩)
  ·cases hd
end
def ey (prog:Map ay):qn:=fun f args H nx=>if h:∃r,Ev (fun k=>(interp prog k).fn f args H nx) r then some (Classical.choose h) else none
def gS (prog:Map ay):oa:=fun nt c st=>if h:∃r,Ev (fun k=>(interp prog k).code nt c st) r then some (Classical.choose h) else none
theorem JQ (prog:Map ay):Ei (fun k=>(interp prog k).fn) (ey prog):=by
 intro f args H nx r h;unfold ey at h;split at h
 ·rename_i hh;cases h;exact Classical.choose_spec hh
 ·cases h
theorem Cn (prog:Map ay):GI (fun k=>(interp prog k).code) (gS prog):=by
 intro nt c st r h;unfold gS at h;split at h
 ·rename_i hh;cases h;exact Classical.choose_spec hh
 ·cases h
theorem P0 {prog:Map ay} {f:Nat} {args:List AV} {H:ck} {nx:Nat} {r:AV×ck×Nat} (h:Ev (fun k=>(interp prog k).fn f args H nx) r):ey prog f args H nx=some r:=by have hh:∃r,Ev (fun k=>(interp prog k).fn f args H nx) r:=⟨r,h⟩;unfold ey;rw [dif_pos hh];exact congrArg some (Ev.uniq (Classical.choose_spec hh) h)
theorem LV {prog:Map ay} {nt:Nat} {c:lF} {st:St} {r:gX×St} (h:Ev (fun k=>(interp prog k).code nt c st) r):gS prog nt c st=some r:=by have hh:∃r,Ev (fun k=>(interp prog k).code nt c st) r:=⟨r,h⟩;unfold gS;rw [dif_pos hh];exact congrArg some (Ev.uniq (Classical.choose_spec hh) h)
theorem NH {α:Type} {X:Nat->Option α} {r:α} (h:Ev (fun k=>X (k+1)) r):Ev X r:=by obtain⟨k0,h⟩:=h;exact⟨k0+1,fun k hk=>by have h1:X (k - 1+1)=some r:=h (k - 1) (by omega);rwa [show k - 1+1=k by omega] at h1⟩
theorem lP {prog:Map ay} {nt:Nat} {c:lF} {st:St} {r:gX×St} (h:d_ (gS prog) (ey prog) nt c st=some r):gS prog nt c st=some r:=
 LV (NH (X:=fun k=>(interp prog k).code nt c st) (EJ (JQ prog) (Cn prog) nt c st r h))
theorem Ix {prog:Map ay} {f:Nat} {args:List AV} {H:ck} {nx:Nat} {r:AV×ck×Nat} (h:ta prog (gS prog) f args H nx=some r):ey prog f args H nx=some r:=
 P0 (NH (X:=fun k=>(interp prog k).fn f args H nx) (HV (Cn prog) f args H nx r h))
theorem PZ {P:Program} {prog:Map ay} (h:∀k,Aq P (interp prog k).fn):Aq P (ey prog):=by intro f args H nx v H' nx' hr;obtain⟨k0,hk⟩:=JQ prog f args H nx _ hr;exact h k0 f args H nx v H' nx' (hk k0 (qqT _))
end Go.Ax
namespace Go.Ax
def Lu (cf:qn) (lf:oa) (nt:Nat) (c:lF):St->Option (gX×St):=
 lF.rec (motive:=fun _=>St->Option (gX×St))
  (fun st=>some (.normal,st))
  (fun ops st=>match pg cf nt ops st with|some st=>some (.normal,st)|none=>none)
  (fun ops ahead pairs st=>match lI cf nt ops ahead pairs st with|some st=>some (.normal,st)|none=>none)
  (fun _ _ ea eb st=>match ea st with|some (.normal,st)=>eb st|r=>r)
  (fun c _ _ ea eb st=>match ev st.env c with|.bool true=>ea st|.bool false=>eb st|_=>none)
  (fun id _ ec st=>match ec st with|some (.exit i,st)=>bif Nat.beq i id then some (.normal,st) else some (.exit i,st)|r=>r)
  (fun c _ st=>lf nt (.loop c) st)
  (fun id st=>some (.exit id,st))
  (fun st=>some (.ret,st)) c
section
variable {prog:Map ay} {cf:qn} {lf:oa} {nt:Nat}
theorem Ff (prog:Map ay) (nt:Nat):∀(c:lF) (st:St) (r:gX×St),Lu (ey prog) (gS prog) nt c st=some r->gS prog nt c st=some r:=by
 intro c
 induction c with
 |skip=>intro st r h;exact lP h
 |er ops=>intro st r h;exact lP h
 |dz ops ahead pairs=>intro st r h;exact lP h
 |exit id=>intro st r h;exact lP h
 |ret=>intro st r h;exact lP h
 |loop c ih=>intro st r h;exact h
 |seq a b iha ihb=>
  intro st r h;refine lP ?_;change (match Lu (ey prog) (gS prog) nt a st with|some (.normal,st)=>Lu (ey prog) (gS prog) nt b st|r=>r)=some r at h;simp only [d_];split at h
  ·rename_i st1 h1;rw [iha _ _ h1];exact ihb _ _ h
  ·rename_i hne;rw [iha _ _ h];split
   ·rename_i st1 heq;cases heq;exact absurd h (hne st1)
   ·rfl
 |cond c a b iha ihb=>
  intro st r h;refine lP ?_;change (match ev st.env c with|.bool true=>Lu (ey prog) (gS prog) nt a st|.bool false=>Lu (ey prog) (gS prog) nt b st|_=>none)=some r at h;simp only [d_];split at h
  ·rename_i hc;rw [hc];exact iha _ _ h
  ·rename_i hc;rw [hc];exact ihb _ _ h
  ·cases h
 |block id c ih=>
  intro st r h;refine lP ?_;change (match Lu (ey prog) (gS prog) nt c st with|some (.exit i,st)=>bif Nat.beq i id then some (.normal,st) else some (.exit i,st)|r=>r)=some r at h;simp only [d_];split at h
  ·rename_i i st1 h1;rw [ih _ _ h1];exact h
  ·rename_i hne;rw [ih _ _ h];split
   ·rename_i i st1 heq;cases heq;exact absurd h (hne i st1)
   ·rfl
def WC (cf:qn) (lf:oa) (nt:Nat) (c:lF) (st:St) (Q:gX->St->Prop):Prop:=∃x st',Lu cf lf nt c st=some (x,st')/\Q x st'
def WR (cf:qn) (nt:Nat) (ops:List br) (st:St) (Q:St->Prop):Prop:=∃st',pg cf nt ops st=some st'/\Q st'
theorem MV {st:St} {Q:gX->St->Prop} (h:Q .normal st):WC cf lf nt .skip st Q:=⟨_,_,rfl,h⟩
theorem MW {id:Nat} {st:St} {Q:gX->St->Prop} (h:Q (.exit id) st):WC cf lf nt (.exit id) st Q:=⟨_,_,rfl,h⟩
theorem Ph {st:St} {Q:gX->St->Prop} (h:Q .ret st):WC cf lf nt .ret st Q:=⟨_,_,rfl,h⟩
theorem Pj {ops:List br} {st:St} {Q:gX->St->Prop} (h:WR cf nt ops st (Q .normal)):WC cf lf nt (.er ops) st Q:=by obtain⟨st',h1,h2⟩:=h;refine⟨.normal,st',?_,h2⟩;show (match pg cf nt ops st with|some st=>some (gX.normal,st)|none=>none)=_;rw [h1]
theorem Ss {ops:List br} {ahead:List (List Nat)} {pairs:List (Nat×Nat)} {st st':St} {Q:gX->St->Prop} (h1:lI cf nt ops ahead pairs st=some st') (h2:Q .normal st'):WC cf lf nt (.dz ops ahead pairs) st Q:=by refine⟨.normal,st',?_,h2⟩;show (match lI cf nt ops ahead pairs st with|some st=>some (gX.normal,st)|none=>none)=_;rw [h1]
def YK (cf:qn) (lf:oa) (nt:Nat) (b:lF) (Q:gX->St->Prop):gX->St->Prop
 |.normal,st=>WC cf lf nt b st Q
 |x,st=>Q x st
theorem Pf {a b:lF} {st:St} {Q:gX->St->Prop} (h:WC cf lf nt a st (YK cf lf nt b Q)):WC cf lf nt (.seq a b) st Q:=by
 obtain⟨x,st1,h1,h2⟩:=h;have e:Lu cf lf nt (.seq a b) st=(match Lu cf lf nt a st with|some (.normal,st)=>Lu cf lf nt b st|r=>r):=rfl;cases x with
 |normal=>obtain⟨x',st',h3,h4⟩:=h2;exact⟨x',st',by rw [e,h1];exact h3,h4⟩
 |exit id=>exact⟨_,st1,by rw [e,h1],h2⟩
 |ret=>exact⟨_,st1,by rw [e,h1],h2⟩
theorem CD {c:b_} {a b:lF} {st:St} {Q:gX->St->Prop} (hc:ev st.env c=.bool true) (h:WC cf lf nt a st Q):WC cf lf nt (.cond c a b) st Q:=by obtain⟨x,st1,h1,h2⟩:=h;refine⟨x,st1,?_,h2⟩;show (match ev st.env c with|.bool true=>Lu cf lf nt a st|.bool false=>Lu cf lf nt b st|_=>none)=_;rw [hc];exact h1
theorem B2 {c:b_} {a b:lF} {st:St} {Q:gX->St->Prop} (hc:ev st.env c=.bool false) (h:WC cf lf nt b st Q):WC cf lf nt (.cond c a b) st Q:=by obtain⟨x,st1,h1,h2⟩:=h;refine⟨x,st1,?_,h2⟩;show (match ev st.env c with|.bool true=>Lu cf lf nt a st|.bool false=>Lu cf lf nt b st|_=>none)=_;rw [hc];exact h1
def Je (id:Nat) (Q:gX->St->Prop):gX->St->Prop
 |.exit i,st=>if i=id then Q .normal st else Q (.exit i) st
 |x,st=>Q x st
theorem Jv {id:Nat} {c:lF} {st:St} {Q:gX->St->Prop} (h:WC cf lf nt c st (Je id Q)):WC cf lf nt (.block id c) st Q:=by
 obtain⟨x,st1,h1,h2⟩:=h;have e:Lu cf lf nt (.block id c) st=(match Lu cf lf nt c st with|some (.exit i,st)=>bif Nat.beq i id then some (.normal,st) else some (.exit i,st)|r=>r):=rfl;cases x with
 |normal=>exact⟨_,st1,by rw [e,h1],h2⟩
 |ret=>exact⟨_,st1,by rw [e,h1],h2⟩
 |exit i=>
  simp only [Je] at h2;by_cases hi:i=id
  ·rw [if_pos hi] at h2;exact⟨.normal,st1,by rw [e,h1];simp [hi],h2⟩
  ·rw [if_neg hi] at h2;have:Nat.beq i id=false:=by
    cases hb:Nat.beq i id with
    |false=>rfl
    |true=>rw [qqE] at hb;exact absurd hb hi
   exact⟨.exit i,st1,by rw [e,h1];simp [this],h2⟩
theorem q_ {c:lF} {st:St} {Q Q':gX->St->Prop} (h:WC cf lf nt c st Q) (hq:∀x st',Q x st'->Q' x st'):WC cf lf nt c st Q':=
 let ⟨x,st',h1,h2⟩:=h;⟨x,st',h1,hq _ _ h2⟩
end
theorem Sr {prog:Map ay} {nt:Nat} {c:lF} {Q:gX->St->Prop} {α:Type} (I:α->St->Prop) (μ:α->Nat)
  (round:∀a st,I a st->WC (ey prog) (gS prog) nt c st (fun x st'=>match x with|.normal=>∃a',μ a' < μ a/\I a' st'|x=>Q x st')) :
  ∀a st,I a st->WC (ey prog) (gS prog) nt (.loop c) st Q:=by
 have key:∀n a st,μ a=n->I a st->∃x st',gS prog nt (.loop c) st=some (x,st')/\Q x st':=by
  intro n
  induction n using Nat.strongRecOn with
  |_ n ih=>
   intro a st hn hI;obtain⟨x,st1,h1,h2⟩:=round a st hI;have h1':=Ff prog nt _ _ _ h1;cases x with
   |normal=>obtain⟨a',hlt,hI'⟩:=h2;obtain⟨x',st',h3,h4⟩:=ih (μ a') (by omega) a' st1 rfl hI';exact⟨x',st',lP (by simp only [d_,h1'];exact h3),h4⟩
   |exit id=>exact⟨_,st1,lP (by simp only [d_,h1']),h2⟩
   |ret=>exact⟨_,st1,lP (by simp only [d_,h1']),h2⟩
 intro a st hI;obtain⟨x,st',h1,h2⟩:=key _ a st rfl hI;exact⟨x,st',h1,h2⟩
theorem Gc {prog:Map ay} {f:Nat} {af:ay} (hf:prog.get f=some af) {args:List AV} (ha:args.length=af.params) {H:ck} {nx:Nat} {r:AV×ck×Nat->Prop}
  (h:WC (ey prog) (gS prog) af.nt af.body ⟨jj args 0 .leaf,H,nx⟩ (fun x st=>(x=.normal\/x=.ret)/\∃v,zn af.res st=some v/\r v)):∃v,ey prog f args H nx=some v/\r v:=by
 obtain⟨x,st,h1,hx,v,h2,h3⟩:=h;refine⟨v,Ix ?_,h3⟩;have h1':=Ff prog _ _ _ _ h1;simp only [ta,hf,cond_eq_ite,qqE,if_pos ha,h1'];rcases hx with rfl|rfl<;>exact h2
end Go.Ax
namespace Go.Ax.V
inductive TV where
 |i (k:IntKind) (n:Int)
 |b (b:Bool)
 |s (s:ByteArray)
 |f (n:Nat)
 |np
 |l (es:List TV)
 |a (cs:List TV)
 |tp (vs:List TV)
 |B7 (x:AV) (u:TV)
 deriving Inhabited
abbrev qi:TV:=.tp []
def TV.ff:TV->Bool
 |.tp _=>true
 |_=>false
def TV.one:TV->Bool
 |.a _=>false
 |.tp _=>false
 |_=>true
def TV.El:TV->Bool
 |.a cs=>gE (fun c=>match c with|.l _=>false|.a _=>false|.tp _=>false|.B7 _ _=>false|_=>true) cs
 |.l _=>false
 |.tp _=>false
 |.B7 _ _=>false
 |_=>true
def TV.LP:TV->Bool
 |.tp vs=>gE TV.El vs
 |v=>v.El
def UP:AV->Bool
 |.ju _ _ _=>true
 |.av=>true
 |_=>false
mutual
inductive Can:TV->AV->Prop where
 |i (k:IntKind) (n:Int):Can (.i k n) (.int k n)
 |b (x:Bool):Can (.b x) (.bool x)
 |s (x:ByteArray):Can (.s x) (.str x)
 |f (n:Nat):Can (.f n) (.func n)
 |np:Can .np .BS
 |nil:Can (.l []) .av
 |ju (es:List TV) (cs:List AV) (n sz:Nat) (c:Option Nat) (hn:es.length=n) (hc:cs.length=n*sz) (hz:0 < sz) (hf:∀x∈cs,AV.flat x=true)
   (h:∀(j:Nat) (e:TV),es[j]?=some e->B1 e ((cs.drop (j*sz)).take sz)):Can (.l es) (.ju cs n c)
 |a (ts:List TV) (as:List AV) (hl:ts.length=as.length) (hf:∀x∈as,AV.flat x=true) (h:∀(j:Nat) (t:TV) (x:AV),ts[j]?=some t->as[j]?=some x->Can t x):Can (.a ts) (.agg as)
 |tp (ts:List TV) (as:List AV) (hl:ts.length=as.length) (hf:∀x∈as,AV.qq x=true) (h:∀(j:Nat) (t:TV) (x:AV),ts[j]?=some t->as[j]?=some x->Can t x):Can (.tp ts) (.qo as)
 |B7 (x:AV) (u:TV) (hf:UP x=true) (h:Can u x):Can (.B7 x u) x
inductive B1:TV->List AV->Prop where
 |one (e:TV) (x:AV) (h1:e.one=true) (h:Can e x):B1 e [x]
 |a (ts:List TV) (as:List AV) (hl:ts.length=as.length) (h:∀(j:Nat) (t:TV) (x:AV),ts[j]?=some t->as[j]?=some x->Can t x):B1 (.a ts) as
end
def gj:TV->Option (List TV)
 |.a cs=>some cs
 |.tp _=>none
 |v=>some [v]
def ct (v:TV) (off:Nat):Option TV:=match v with
 |.a cs=>cs[off]?
 |.tp _=>none
 |v=>match off with
  |0=>some v
  |_+1=>none
def fy:Option TV->Option TV
 |some (.B7 _ u)=>some u
 |r=>r
def D2:List TV->Nat->Option (List TV)
 |_,0=>some []
 |[],_+1=>none
 |x::xs,n+1=>match D2 xs n with
  |some l=>some (x::l)
  |none=>none
def ML:List TV->Nat->Nat->Option (List TV)
 |cs,0,n=>D2 cs n
 |[],_+1,_=>none
 |_::xs,o+1,n=>ML xs o n
def s8:List TV->List TV->Option (List TV)
 |cells,[]=>some cells
 |[],_::_=>none
 |_::xs,y::ys=>match s8 xs ys with
  |some l=>some (y::l)
  |none=>none
def uz:List TV->Nat->List TV->Option (List TV)
 |cells,0,cs=>s8 cells cs
 |[],_+1,_=>none
 |x::xs,o+1,cs=>match uz xs o cs with
  |some l=>some (x::l)
  |none=>none
def ax (v:TV) (off n:Nat):Option TV:=match v with
 |.a cs=>match ML cs off n with
  |some l=>some (.a l)
  |none=>none
 |_=>none
def aq (v:TV) (off n:Nat) (x:TV):Option TV:=match gj x with
 |none=>none
 |some xs=>bif Nat.beq xs.length n then match v with
   |.a cs=>match uz cs off xs with
    |some l=>some (.a l)
    |none=>none
   |.tp _=>none
   |_=>bif Nat.beq off 0&&x.one then some x else none
  else none
def gY (v:TV) (off:Nat):Option Nat->Option TV
 |none=>ct v off
 |some n=>ax v off n
def Vp (v:TV) (off:Nat) (sz:Option Nat):Option TV:=match v with
 |.a _=>gY v off sz
 |_=>none
def ef:TV->Option (List TV)
 |.l es=>some es
 |_=>none
def ig:TV->Option TV
 |.l es=>some (.i .i64 es.length)
 |_=>none
def AE:TV->Option TV
 |.s x=>some (.i .i64 x.size)
 |_=>none
def jm (i:TV) (n:Nat):Option Nat:=match i with
 |.i _ m=>Se m n
 |_=>none
def jh (v i:TV):Option TV:=match v with
 |.l es=>match jm i es.length with
  |some k=>es[k]?
  |none=>none
 |_=>none
def t_ (i:Nat):TV->Option TV
 |.tp vs=>vs[i]?
 |_=>none
def EK (x:Option TV) (other y:Nat):Option Nat:=match x with
 |none=>some other
 |some (.i _ i)=>Si i y
 |some _=>none
def Le (lo hi:Option TV) (n:Nat):Option (Nat×Nat):=match EK hi n n with
 |none=>none
 |some h=>match EK lo 0 h with
  |none=>none
  |some l=>some (l,h)
def TU (v:TV) (lo hi:Option TV):Option TV:=match v with
 |.l es=>match Le lo hi es.length with
  |some (l,h)=>some (.l ((es.drop l).take (h - l)))
  |none=>none
 |_=>none
def AD (v:TV) (lo hi:Option TV):Option TV:=match v with
 |.s x=>match Le lo hi x.size with
  |some (l,h)=>some (.s (x.extract l h))
  |none=>none
 |_=>none
def vj (v i:TV):Option TV:=match v with
 |.s x=>match i with
  |.i _ (.ofNat i)=>match x[i]? with
   |some b=>some (.i .u8 b.toNat)
   |none=>none
  |_=>none
 |_=>none
def ga (bytes:Nat) (es xs:List TV):Option (List TV):=
 bif Nat.ble ((es.length+xs.length)*bytes) most&&Nat.ble (es.length+xs.length) most then some (es++xs) else none
def ij (c a b:TV):Option TV:=match c with
 |.b x=>match x with
  |true=>some a
  |false=>some b
 |_=>none
def Dc:TV->Option AV
 |.i k n=>some (.int k n)
 |.b x=>some (.bool x)
 |.s x=>some (.str x)
 |.f n=>some (.func n)
 |.np=>some .BS
 |_=>none
def ND:AV->Option TV
 |.int k n=>some (.i k n)
 |.bool x=>some (.b x)
 |.str x=>some (.s x)
 |.func n=>some (.f n)
 |.BS=>some .np
 |_=>none
def bf (op:BinOp) (x y:TV):Option TV:=match Dc x with
 |some x=>match Dc y with
  |some y=>match Ld op x y with
   |some r=>ND r
   |none=>none
  |none=>none
 |none=>none
def ng (op:UnOp) (x:TV):Option TV:=match Dc x with
 |some x=>match Um op x with
  |some r=>ND r
  |none=>none
 |none=>none
def NT (k:IntKind):TV->Option TV
 |.i _ n=>some (.i k (wj k n))
 |_=>none
def A7:List TV->Option (List AV)
 |[]=>some []
 |x::xs=>match Dc x with
  |none=>none
  |some a=>match A7 xs with
   |none=>none
   |some l=>some (a::l)
def zw (mx:Bool) (xs:List TV):Option TV:=match A7 xs with
 |some (v::vs)=>match WY mx v vs with
  |some r=>ND r
  |none=>none
 |_=>none
def Tk (t:Lz) (neg:Bool) (x y:TV):Option TV:=match t with
 |.one l=>match Dc x with
  |some x=>match Dc y with
   |some y=>match Rp l x y with
    |some b=>some (.b (match neg with|true=>!b|false=>b))
    |none=>none
   |none=>none
  |none=>none
 |.agg ls=>match x with
  |.a xs=>match y with
   |.a ys=>match A7 xs with
    |some xs=>match A7 ys with
     |some ys=>match Lv ls xs ys with
      |some b=>some (.b (match neg with|true=>!b|false=>b))
      |none=>none
     |none=>none
    |none=>none
   |_=>none
  |_=>none
 |.slice=>none
def FX (bytes:Nat):TV->Option Nat
 |.i k m=>match Si m most with
  |some m=>bif Rq k .i64&&Nat.ble (Nat.mul m bytes) most then some m else none
  |none=>none
 |_=>none
def jn (es:List TV) (k off n:Nat) (x:TV):Option (List TV):=match es[k]? with
 |none=>none
 |some e=>match aq e off n x with
  |some e'=>some (es.set k e')
  |none=>none
def zb (es:List TV) (k off:Nat) (sz:Option Nat):Option TV:=match es[k]? with
 |none=>none
 |some e=>gY e off sz
inductive VV where
 |bad
 |tr (v:TV)
 |gD
 |ptr (O off:Nat)
 |pd (O off:Nat)
 |sl (O:Nat)
 |ea (O i off:Nat)
 |pt (v:TV) (off:Nat)
 |st (v:TV) (ovs:List (Nat×VV))
 |ow (O ver i:Nat)
 |e2 (O ver i k off:Nat)
 |gl (s io:Nat) (es:List TV)
 |sa (O off n sz:Nat)
 deriving Inhabited
inductive VO where
 |ob (v:TV) (ovs:List (Nat×VV))
 |gr (sz:Nat) (es:List TV)
 |gn (K s io iz ver:Nat) (hole:Option Nat) (es:List TV)
def VO.pl:VO->Bool
 |.gn ..=>false
 |_=>true
structure VE where
 gd:Option (TV×Bool)
 v:VV
structure bt where
 env:Map VE
 H:Map VO
 us:Map Unit
def Gz:AV->TV
 |.int k n=>.i k n
 |.bool x=>.b x
 |.str x=>.s x
 |.func n=>.f n
 |.av=>.l []
 |_=>.np
def gN:List AV->List TV
 |[]=>[]
 |x::xs=>Gz x::gN xs
def qb:Nat->List AV->List (Nat×VV)
 |_,[]=>[]
 |i,x::xs=>match x with
  |.av=>(i,.gD)::qb (i+1) xs
  |_=>qb (i+1) xs
def kq:AV->Bool
 |.int ..=>true
 |.bool _=>true
 |.str _=>true
 |.func _=>true
 |.av=>true
 |.BS=>true
 |_=>false
def Jc (v:AV):VV:=match v with
 |.av=>.gD
 |.agg cs=>bif gE kq cs then .st (.a (gN cs)) (qb 0 cs) else .bad
 |.qo _=>.bad
 |v=>bif kq v then .tr (Gz v) else .bad
def MT (sz:Nat) (zero:List AV):TV:=match sz with
 |1=>match zero with
  |[x]=>Gz x
  |_=>.a (gN zero)
 |_=>.a (gN zero)
def eC (off:Nat):List (Nat×VV)->Option VV
 |[]=>none
 |(i,x)::r=>bif Nat.beq i off then some x else eC off r
def xg (off n:Nat):List (Nat×VV)->List (Nat×VV)
 |[]=>[]
 |(i,x)::r=>bif Nat.ble off i&&Nat.blt i (off+n) then (i - off,x)::xg off n r else xg off n r
def xh (off n:Nat):List (Nat×VV)->List (Nat×VV)
 |[]=>[]
 |(i,x)::r=>bif Nat.ble off i&&Nat.blt i (off+n) then xh off n r else (i,x)::xh off n r
def CX (off:Nat):List (Nat×VV)->List (Nat×VV)->List (Nat×VV)
 |[],r=>r
 |(i,x)::l,r=>(i+off,x)::CX off l r
def iy (v:TV):List (Nat×VV)->VV
 |[]=>.tr v
 |p::r=>.st v (p::r)
def r_:VV->Option (TV×List (Nat×VV))
 |.tr v=>some (v,[])
 |.gD=>some (.l [],[(0,.gD)])
 |.sl O=>some (.l [],[(0,.sl O)])
 |.ow O v i=>some (.l [],[(0,.ow O v i)])
 |.st v o=>some (v,o)
 |_=>none
abbrev G:=Option (TV×Bool)
def jx (V:bt) (g:G) (x:b_) (k:VV->Prop):Prop:=match x with
 |.c v=>k (Jc v)
 |.t n=>match V.env.get n with
  |none=>False
  |some e=>match e.gd with
   |none=>k e.v
   |some q=>match g with
    |none=>False
    |some p=>p=q/\k e.v
def Kl:List (Nat×VV)->TV->Option TV
 |[],v=>some v
 |(off,w)::r,v=>match w with
  |.gD=>(match Kl r v with
   |some u=>aq u off 1 (.l [])
   |none=>none)
  |_=>none
def JA (w:VV) (k:TV->Prop):Prop:=match w with
 |.tr v=>k v
 |.gD=>k (.l [])
 |.st v ovs=>∃u,Kl ovs v=some u/\k u
 |_=>False
def ue (V:bt) (g:G) (x:b_) (k:TV->Prop):Prop:=jx V g x fun w=>JA w k
def AX (es:List TV) (i io:Nat):Option (List TV):=match es[i]? with
 |some e=>(match ct e io with
  |some (.l l)=>some l
  |_=>none)
 |none=>none
def Ta (V:bt) (O v:Nat) (k:Nat->Nat->Nat->List TV->Prop):Prop:=match V.H.get O with
 |some (.gn K s io iz ver none es)=>(match Nat.beq K O&&Nat.beq ver v with
  |true=>k s io iz es
  |false=>False)
 |_=>False
def EM (V:bt) (w:VV) (k:List TV->Prop):Prop:=match w with
 |.sl O=>match V.H.get O with
  |some (.gr _ es)=>k es
  |some (.gn _ _ _ _ _ none es)=>k es
  |_=>False
 |.ow O v i=>Ta V O v fun _ io _ es=>∃l,AX es i io=some l/\k l
 |.gD=>k []
 |_=>False
def GN (V:bt):List (Nat×VV)->TV->(TV->Prop)->Prop
 |[],v,k=>k v
 |(off,w)::r,v,k=>GN V r v fun u=>EM V w fun es=>∃u',aq u off 1 (.l es)=some u'/\k u'
def Vz (v:TV) (off:Nat):Nat->Option TV
 |1=>(match ct v off with
  |some e=>bif e.one then some e else none
  |none=>none)
 |n=>ax v off n
def O5 (v:TV) (off sz:Nat):Nat->Option (List TV)
 |0=>(match ax v off 0 with
  |some _=>some []
  |none=>none)
 |n+1=>match Vz v off sz with
  |some e=>(match O5 v (off+sz) sz n with
   |some r=>some (e::r)
   |none=>none)
  |none=>none
def OP (v:TV) (off sz:Nat):List TV->Option TV
 |[]=>(match ax v off 0 with
  |some _=>some v
  |none=>none)
 |x::xs=>match aq v off sz x with
  |some u=>OP u (off+sz) sz xs
  |none=>none
def WW (V:bt) (w:VV) (k:TV->Prop):Prop:=match w with
 |.tr v=>k v
 |.gD=>k (.l [])
 |.sl O=>EM V (.sl O) fun es=>k (.l es)
 |.st v ovs=>GN V ovs v k
 |.ow O v i=>EM V (.ow O v i) fun es=>k (.l es)
 |.sa O off n sz=>(match V.H.get O with
  |some (.ob v ovs)=>(match ovs with
   |[]=>∃es,O5 v off sz n=some es/\k (.l es)
   |_::_=>False)
  |_=>False)
 |_=>False
def DO (V:bt) (g:G) (x:Option b_) (k:Option TV->Prop):Prop:=match x with
 |none=>k none
 |some x=>ue V g x fun v=>k (some v)
def Qh (V:bt) (g:G):List b_->(List TV->Prop)->Prop
 |[],k=>k []
 |x::xs,k=>ue V g x fun v=>Qh V g xs fun vs=>k (v::vs)
def gV (c:TV) (bb:Bool) (P:TV->Prop) (v:TV):Prop:=match c with
 |.b x=>match x == bb with
  |true=>P v
  |false=>v=qi
 |_=>v=qi
def P8 (g:G) (P:TV->Prop) (k:TV->Prop):Prop:=match g with
 |none=>∃v,P v/\k v
 |some (c,bb)=>∃v,gV c bb P v/\k v
def jb (nt:Nat) (V:bt) (d:Option Nat) (g:G) (w:VV) (k:bt->Prop):Prop:=match d with
 |none=>k V
 |some d=>bif Nat.blt d nt then k {V with env:=V.env.put (some ⟨g,w⟩) d} else False
def lD (nt:Nat) (V:bt) (d:Option Nat) (g:G) (P:Option TV) (k:bt->Prop):Prop:=P8 g (fun v=>P=some v) fun v=>jb nt V d none (.tr v) k
def s_ (nt:Nat) (V:bt) (d:Option Nat) (g:G) (w:Nat->VV) (o:VO) (k:bt->Prop):Prop:=match g with
 |some _=>False
 |none=>match d with
  |none=>False
  |some d=>match V.us.get d with
   |some _=>False
   |none=>jb nt {V with H:=V.H.put (some o) d,us:=V.us.put (some ()) d} (some d) none (w d) k
def II (V:bt) (g:G):List (Nat×Nat×b_)->TV->List (Nat×VV)->(TV->List (Nat×VV)->Prop)->Prop
 |[],v,ovs,k=>k v ovs
 |(off,n,x)::r,v,ovs,k=>jx V g x fun w=>match r_ w with
  |some (t,o)=>∃u,aq v off n t=some u/\II V g r u (CX off o (xh off n ovs)) k
  |none=>False
def Ae (V:bt):VV->bt
 |.sl O=>{V with H:=V.H.put none O}
 |_=>V
def Af (V:bt):List (Nat×VV)->bt
 |[]=>V
 |(_,w)::r=>Af (Ae V w) r
def cw (n:Nat) (v:TV):Prop:=match gj v with
 |some l=>l.length=n
 |none=>False
def S2:List (Nat×VV)->Bool
 |[]=>true
 |(_,.ow ..)::_=>false
 |_::r=>S2 r
def vp (V:bt) (g:G) (fz:Bool) (sz:Nat):Nat->List (Nat×Nat×b_)->(List TV->bt->Prop)->Prop
 |_,[],k=>k [] V
 |j,(off,n,x)::r,k=>(Nat.beq off (j*sz)&&Nat.beq n sz)=true/\jx V g x fun w=>match w with
  |.tr t=>cw n t/\vp V g fz sz (j+1) r fun ts V'=>k (t::ts) V'
  |.gD=>n=1/\vp V g fz sz (j+1) r fun ts V'=>k (.l []::ts) V'
  |.sl O=>fz=true/\n=1/\EM V (.sl O) fun es=>vp (Ae V (.sl O)) g fz sz (j+1) r fun ts V'=>k (.l es::ts) V'
  |.st t o=>(fz&&S2 o)=true/\GN V o t fun t=>cw n t/\vp (Af V o) g fz sz (j+1) r fun ts V'=>k (t::ts) V'
  |_=>False
def oY (ts:List TV) (as:List AV):Prop:=ts.length=as.length/\∀(j:Nat) (t:TV) (x:AV),ts[j]?=some t->as[j]?=some x->Can t x
def VS (prog:Map ay) (f:Nat) (ts:List TV) (Q:TV->Prop):Prop:=
 ∀as,oY ts as->∃v H nx,ey prog f as .leaf 0=some (v,H,nx)/\∃a,dh deep H v=some a/\∃r,Can r a/\Q r
theorem VS.mono {prog:Map ay} {f:Nat} {ts:List TV} {Q Q':TV->Prop} (h:VS prog f ts Q) (hq:∀r,Q r->Q' r):VS prog f ts Q':=
 fun as ha=>let ⟨v,H,nx,h1,a,h2,r,h3,h4⟩:=h as ha;⟨v,H,nx,h1,a,h2,r,h3,hq r h4⟩
def Ly (prog:Map ay) (f:Nat) (ts:List TV) (Q:TV->Prop):Prop:=
 ∀as,oY ts as->∃v H nx,ey prog f as .leaf 0=some (v,H,nx)/\own deep H v=true/\∃a,dh deep H v=some a/\∃r,Can r a/\Q r
theorem Ly.mono {prog:Map ay} {f:Nat} {ts:List TV} {Q Q':TV->Prop} (h:Ly prog f ts Q) (hq:∀r,Q r->Q' r):Ly prog f ts Q':=
 fun as ha=>let ⟨v,H,nx,h1,h0,a,h2,r,h3,h4⟩:=h as ha;⟨v,H,nx,h1,h0,a,h2,r,h3,hq r h4⟩
def Hz:List (Nat×VV)->Bool
 |[]=>true
 |(_,.gD)::r=>Hz r
 |_::_=>false
def Bk (V:bt) (g:G):List b_->(Bool->List TV->Prop)->Prop
 |[],k=>k true []
 |x::xs,k=>jx V g x fun w=>match w with
  |.tr v=>Bk V g xs fun p vs=>k p (v::vs)
  |.gD=>Bk V g xs fun p vs=>k p (.l []::vs)
  |.st v ovs=>GN V ovs v fun v=>Bk V g xs fun p vs=>k (Hz ovs&&p) (v::vs)
  |w=>WW V w fun v=>Bk V g xs fun _ vs=>k false (v::vs)
def gk (n:Nat):List TV->Prop
 |[]=>True
 |e::_=>cw n e
def ew (V:bt) (O:Nat) (o:VO):bt:={V with H:=V.H.put (some o) O}
def f_ (V:bt) (O:Nat):bt:={V with H:=V.H.put none O}
def pos (n:Nat) (p:Prop):Prop:=bif Nat.blt 0 n then p else False
def same (a b:Nat) (p:Prop):Prop:=bif Nat.beq a b then p else False
def JW (g:G) (P:Option Nat) (k:Nat->Prop):Prop:=match g with
 |none=>∃n,P=some n/\k n
 |some (c,bb)=>∃n,(c=.b bb->P=some n)/\k n
def yj:Option b_->Bool
 |some (.c (.int _ (.ofNat 0)))=>true
 |_=>false
def gZ (V:bt) (x:b_):VV:=match x with
 |.c v=>Jc v
 |.t n=>match V.env.get n with
  |some e=>e.v
  |none=>.bad
def BT (n:Nat):List Nat->Bool
 |[]=>false
 |m::l=>Nat.beq n m||BT n l
inductive BP where
 |tr (t:Nat)
 |sl (t sz:Nat)
 |pt (t O off:Nat)
 |ob (O:Nat) (offs:List (Nat×Nat))
 |st (t:Nat) (offs:List (Nat×Nat))
 |ps (t t0:Nat)
def JL:List (Nat×Nat)->Type->Type
 |[],R=>R
 |_::l,R=>List TV->JL l R
def JT:List BP->Type->Type
 |[],R=>R
 |.tr _::J,R=>TV->JT J R
 |.sl _ _::J,R=>List TV->JT J R
 |.pt _ _ _::J,R=>JT J R
 |.ob _ offs::J,R=>TV->JL offs (JT J R)
 |.st _ offs::J,R=>TV->JL offs (JT J R)
 |.ps _ _::J,R=>JT J R
def Ir (O off:Nat):Nat:=1024+32*O+off
def sq (V:bt) (t:Nat) (w:VV):bt:={V with env:=V.env.put (some ⟨none,w⟩) t}
def Q8:Nat:=1073741824
def OG (sz:Nat):Nat:=sz / 1048576 % 1024
def Tb (sz:Nat):Nat:=sz / 1024 % 1024
def Sf (sz:Nat):Nat:=sz % 1024
def xu (t sz:Nat) (es:List TV):VO:=match Nat.blt sz Q8 with
 |true=>.gr sz es
 |false=>.gn t (OG sz) (Tb sz) (Sf sz) 0 none es
def oh (sz:Nat):Bool:=match Nat.blt sz Q8 with
 |true=>Nat.blt 0 sz
 |false=>Nat.blt 0 (OG sz)&&(Nat.blt (Tb sz) (OG sz)&&Nat.blt 0 (Sf sz))
def OD (sz s io iz:Nat):Bool:=!Nat.blt sz Q8&&(Nat.beq s (OG sz)&&(Nat.beq io (Tb sz)&&Nat.beq iz (Sf sz)))
def uo (V:bt) (sz:Nat) (w:VV) (k:List TV->bt->Prop):Prop:=match w with
 |.sl O=>match V.H.get O with
  |some (.gr z es)=>(match Nat.blt z Q8 with
   |true=>same z sz (k es (f_ V O))
   |false=>False)
  |some (.gn _ s io iz _ none es)=>(match OD sz s io iz with
   |true=>k es (f_ V O)
   |false=>False)
  |_=>False
 |.gD=>k [] V
 |_=>False
def wo {R:Type} (V:bt) (ovs:List (Nat×VV)):(offs:List (Nat×Nat))->JL offs R->(R->bt->Prop)->Prop
 |[],I,k=>k I V
 |(off,sz)::offs,I,k=>match eC off ovs with
  |some w=>uo V sz w fun es V'=>wo V' ovs offs (I es) k
  |none=>False
def k9 (i:Nat):List (Nat×Nat)->Bool
 |[]=>false
 |(j,_)::l=>Nat.beq i j||k9 i l
def AU:List (Nat×VV)->List (Nat×Nat)->Bool
 |[],_=>true
 |(i,_)::r,l=>k9 i l&&AU r l
def Eo:(J:List BP)->bt->JT J Prop->Prop
 |[],_,I=>I
 |.tr t::J,V,I=>ue V none (.t t) fun v=>Eo J V (I v)
 |.sl t sz::J,V,I=>jx V none (.t t) fun w=>uo V sz w fun es V'=>Eo J V' (I es)
 |.pt t O off::J,V,I=>jx V none (.t t) fun w=>match w with
  |.ptr O' off'=>same O' O (same off' off (Eo J V I))
  |_=>False
 |.ob O offs::J,V,I=>match V.H.get O with
  |some (.ob v ovs)=>match AU ovs offs with
   |true=>wo (R:=JT J Prop) (f_ V O) ovs offs (I v) fun I V'=>Eo J V' I
   |false=>False
  |_=>False
 |.st t offs::J,V,I=>jx V none (.t t) fun w=>match w with
  |.st v ovs=>(match AU ovs offs with
   |true=>wo (R:=JT J Prop) V ovs offs (I v) fun I V'=>Eo J V' I
   |false=>False)
  |_=>False
 |.ps t t0::J,V,I=>jx V none (.t t0) fun w0=>jx V none (.t t) fun w=>match w0 with
  |.sl O=>(match w with
   |.sl O'=>same O' O (Eo J V I)
   |_=>False)
  |_=>False
def A_:BP->Bool
 |.sl _ sz=>oh sz
 |.ob _ offs=>offs.all fun p=>oh p.2
 |.st _ offs=>offs.all fun p=>oh p.2
 |_=>true
def C2 (V:bt) (O:Nat) (o:VO) (k:bt->Prop):Prop:=match V.us.get O with
 |some _=>False
 |none=>k {V with H:=V.H.put (some o) O,us:=V.us.put (some ()) O}
def xe (O:Nat):List (Nat×Nat)->List (Nat×VV)
 |[]=>[]
 |(off,_)::l=>(off,.sl (Ir O off))::xe O l
def R3 {R:Type} (O:Nat):(offs:List (Nat×Nat))->bt->JL offs R->(R->bt->Prop)->Prop
 |[],V,I,k=>k I V
 |(off,sz)::offs,V,I,k=>∀es:List TV,C2 V (Ir O off) (xu (Ir O off) sz es) fun V'=>R3 O offs V' (I es) k
def Bm:(J:List BP)->bt->JT J Prop->(bt->Prop)->Prop
 |[],V,I,k=>I->k V
 |.tr t::J,V,I,k=>∀v:TV,Bm J (sq V t (.tr v)) (I v) k
 |.sl t sz::J,V,I,k=>∀es:List TV,C2 V t (xu t sz es) fun V'=>Bm J (sq V' t (.sl t)) (I es) k
 |.pt t O off::J,V,I,k=>match V.H.get O with
  |some (.ob _ _)=>Bm J (sq V t (.ptr O off)) I k
  |_=>False
 |.ob O offs::J,V,I,k=>∀v:TV,R3 (R:=JT J Prop) O offs V (I v) fun I V'=>C2 V' O (.ob v (xe O offs)) fun V''=>Bm J V'' I k
 |.st t offs::J,V,I,k=>∀v:TV,R3 (R:=JT J Prop) t offs V (I v) fun I V'=>Bm J (sq V' t (.st v (xe t offs))) I k
 |.ps t t0::J,V,I,k=>match V.env.get t0 with
  |some e=>(match e.gd with
   |none=>(match e.v with
    |.sl O=>Bm J (sq V t (.sl O)) I k
    |_=>False)
   |some _=>False)
  |none=>False
def V0:bt:=⟨.leaf,.leaf,.leaf⟩
def AH (V:bt) (ovs:List (Nat×VV)):List (Nat×Nat)->bt
 |[]=>V
 |(off,_)::l=>match eC off ovs with
  |some w=>AH (Ae V w) ovs l
  |none=>AH V ovs l
def si:List BP->bt->bt
 |[],V=>V
 |.tr _::J,V=>si J V
 |.sl t _::J,V=>si J (Ae V (gZ V (.t t)))
 |.pt _ _ _::J,V=>si J V
 |.ob O offs::J,V=>match V.H.get O with
  |some (.ob _ ovs)=>si J (AH (f_ V O) ovs offs)
  |_=>V
 |.st t offs::J,V=>match gZ V (.t t) with
  |.st _ ovs=>si J (AH V ovs offs)
  |_=>V
 |.ps _ _::J,V=>si J V
def tq (V:bt) (O:Nat) (o:VO):bt:={V with H:=V.H.put (some o) O,us:=V.us.put (some ()) O}
def mkL {R:Type} (O:Nat):(offs:List (Nat×Nat))->bt->(bt->R)->JL offs R
 |[],V,k=>k V
 |(off,sz)::l,V,k=>fun es:List TV=>mkL O l (tq V (Ir O off) (xu (Ir O off) sz es)) k
def T3:(J:List BP)->bt->(bt->Prop)->JT J Prop
 |[],V,k=>k V
 |.tr t::J,V,k=>fun v:TV=>T3 J (sq V t (.tr v)) k
 |.sl t sz::J,V,k=>fun es:List TV=>T3 J (sq (tq V t (xu t sz es)) t (.sl t)) k
 |.pt t O off::J,V,k=>T3 J (sq V t (.ptr O off)) k
 |.ob O offs::J,V,k=>fun v:TV=>mkL (R:=JT J Prop) O offs V fun V'=>T3 J (tq V' O (.ob v (xe O offs))) k
 |.st t offs::J,V,k=>fun v:TV=>mkL (R:=JT J Prop) t offs V fun V'=>T3 J (sq V' t (.st v (xe t offs))) k
 |.ps _ _::J,V,k=>T3 J V k
def A6 (us:Map Unit) (O:Nat):Bool:=match us.get O with
 |some _=>false
 |none=>true
def Zm (O:Nat):List (Nat×Nat)->Map Unit->Option (Map Unit)
 |[],us=>some us
 |(off,_)::l,us=>bif A6 us (Ir O off) then Zm O l (us.put (some ()) (Ir O off)) else none
def Ox:List BP->Map Unit->List Nat->Bool
 |[],_,_=>true
 |.tr _::J,us,obs=>Ox J us obs
 |.sl t _::J,us,obs=>A6 us t&&Ox J (us.put (some ()) t) obs
 |.pt _ O _::J,us,obs=>BT O obs&&Ox J us obs
 |.ob O offs::J,us,obs=>match Zm O offs us with
  |some us=>A6 us O&&Ox J (us.put (some ()) O) (O::obs)
  |none=>false
 |.st t offs::J,us,obs=>match Zm t offs us with
  |some us=>Ox J us obs
  |none=>false
 |.ps _ _::_,_,_=>false
inductive PK where
 |tr
 |ob (offs:List (Nat×Nat))
 |sl (sz:Nat)
inductive RK where
 |tr
 |sl (sz:Nat)
 |st (offs:List (Nat×Nat))
structure Sig where
 ks:List PK
 rk:RK
def EA:List PK->Nat->List BP
 |[],_=>[]
 |.tr::ks,i=>.tr i::EA ks (i+1)
 |.ob offs::ks,i=>.ob i offs::.pt i i 0::EA ks (i+1)
 |.sl sz::ks,i=>.sl i sz::EA ks (i+1)
def Vi (np:Nat):RK->List BP
 |.tr=>[.tr np]
 |.sl sz=>[.sl np sz]
 |.st offs=>[.st np offs]
def od (np:Nat) (rk:RK):List PK->Nat->List BP
 |[],_=>Vi np rk
 |.tr::ks,i=>od np rk ks (i+1)
 |.ob offs::ks,i=>.ob i offs::.pt i i 0::od np rk ks (i+1)
 |.sl sz::ks,i=>.sl i sz::od np rk ks (i+1)
inductive WO where
 |ob (O d:Nat)
 |pt
 |sl (O:Nat)
 |res (d:Nat)
def jc (d:Nat):List PK->List VV->Option (List WO)
 |[],[]=>some [.res d]
 |.tr::ks,_::ws=>jc d ks ws
 |.ob _::ks,.ptr O 0::ws=>match jc d ks ws with
  |some l=>some (.ob O d::.pt::l)
  |none=>none
 |.sl _::ks,.sl O::ws=>match jc d ks ws with
  |some l=>some (.sl O::l)
  |none=>none
 |_,_=>none
def Cb (d off:Nat):Nat:=65536+64*d+off
abbrev B5 (d:Nat):Nat:=d+1048576
def EP (d:Nat):List (Nat×Nat)->List (Nat×VV)
 |[]=>[]
 |(off,_)::l=>(off,.sl (Cb d off))::EP d l
def RI {R:Type} (d:Nat):(offs:List (Nat×Nat))->bt->(bt->R)->JL offs R
 |[],V,k=>k V
 |(off,sz)::l,V,k=>fun es:List TV=>RI d l (tq V (Cb d off) (xu (Cb d off) sz es)) k
def ZD {R:Type} (r:R):(offs:List (Nat×Nat))->JL offs R
 |[]=>r
 |_::l=>fun _:List TV=>ZD r l
def O7:(J:List BP)->JT J Prop
 |[]=>False
 |.tr _::J=>fun _:TV=>O7 J
 |.sl _ _::J=>fun _:List TV=>O7 J
 |.pt _ _ _::J=>O7 J
 |.ob _ offs::J=>fun _:TV=>ZD (R:=JT J Prop) (O7 J) offs
 |.st _ offs::J=>fun _:TV=>ZD (R:=JT J Prop) (O7 J) offs
 |.ps _ _::J=>O7 J
def Gt:(J:List BP)->List WO->bt->(bt->Prop)->JT J Prop
 |[],_,V,k=>k V
 |.tr _::J,ims,V,k=>fun v:TV=>match ims with
  |.res d::ims=>Gt J ims (sq V d (.tr v)) k
  |_=>O7 J
 |.pt _ _ _::J,ims,V,k=>match ims with
  |.pt::ims=>Gt J ims V k
  |_=>O7 J
 |.sl _ sz::J,ims,V,k=>fun es:List TV=>match ims with
  |.sl O::ims=>Gt J ims (ew V O (.gr sz es)) k
  |.res d::ims=>Gt J ims (sq (tq V d (xu d sz es)) d (.sl d)) k
  |_=>O7 J
 |.ob _ offs::J,ims,V,k=>fun v:TV=>match ims with
  |.ob O d::ims=>RI (R:=JT J Prop) d offs V fun V'=>Gt J ims (ew V' O (.ob v (EP d offs))) k
  |_=>ZD (R:=JT J Prop) (O7 J) offs
 |.st _ offs::J,ims,V,k=>fun v:TV=>match ims with
  |.res d::ims=>RI (R:=JT J Prop) (B5 d) offs V fun V'=>Gt J ims (sq V' d (.st v (EP (B5 d) offs))) k
  |_=>ZD (R:=JT J Prop) (O7 J) offs
 |.ps _ _::J,_,_,_=>O7 J
def L_ (d:Nat):List (Nat×Nat)->Map Unit->Option (Map Unit)
 |[],us=>some us
 |(off,_)::l,us=>bif A6 us (Cb d off) then L_ d l (us.put (some ()) (Cb d off)) else none
def Qx (nt:Nat):List BP->List WO->Map Unit->Bool
 |[],_,_=>true
 |.tr _::J,ims,us=>match ims with
  |.res d::ims=>Nat.blt d nt&&Qx nt J ims us
  |_=>false
 |.pt _ _ _::J,ims,us=>match ims with
  |.pt::ims=>Qx nt J ims us
  |_=>false
 |.sl _ sz::J,ims,us=>match ims with
  |.sl _::ims=>Nat.blt sz Q8&&Qx nt J ims us
  |.res d::ims=>Nat.blt d nt&&(A6 us d&&Qx nt J ims (us.put (some ()) d))
  |_=>false
 |.ob _ offs::J,ims,us=>match ims with
  |.ob _ d::ims=>match L_ d offs us with
   |some us=>Qx nt J ims us
   |none=>false
  |_=>false
 |.st _ offs::J,ims,us=>match ims with
  |.res d::ims=>Nat.blt d nt&&(match L_ (B5 d) offs us with
   |some us=>Qx nt J ims us
   |none=>false)
  |_=>false
 |.ps _ _::_,_,_=>false
structure Sh where
 sg:Nat->Option Sig
 vs:(f np:Nat)->(Jin Jout:List BP)->JT Jout Prop->JT Jin Prop
 inl:Nat->Option (bt->List VV->(VV->bt->Prop)->Prop)
 tc:Nat->List Nat
 gc:Nat->Nat
 pn:Nat->List (Nat×Nat)
 fr:Nat->Bool
def SO (V:bt):List b_->(List VV->Prop)->Prop
 |[],k=>k []
 |x::xs,k=>jx V none x fun w=>SO V xs fun ws=>k (w::ws)
def EH:List VV->Nat->Map VE->Map VE
 |[],_,e=>e
 |w::ws,i,e=>EH ws (i+1) (e.put (some ⟨none,w⟩) i)
def O6:(ks:List PK)->(i:Nat)->List VV->bt->JT (EA ks i) Prop->Prop
 |[],_,ws,_,I=>match ws with
  |[]=>I
  |_::_=>False
 |.tr::ks,i,ws,V,I=>match ws with
  |w::ws=>JA w fun v=>O6 ks (i+1) ws V (I v)
  |[]=>False
 |.ob offs::ks,i,ws,V,I=>match ws with
  |.ptr O 0::ws=>(match V.H.get O with
   |some (.ob v ovs)=>match AU ovs offs with
    |true=>wo (R:=JT (.pt i i 0::EA ks (i+1)) Prop) (f_ V O) ovs offs (I v) fun I V'=>O6 ks (i+1) ws V' I
    |false=>False
   |_=>False)
  |_=>False
 |.sl sz::ks,i,ws,V,I=>match ws with
  |.sl O::ws=>uo V sz (.sl O) fun es V'=>O6 ks (i+1) ws V' (I es)
  |_=>False
def qm:List PK->List VV->bt->bt
 |[],_,V=>V
 |.tr::ks,ws,V=>match ws with
  |_::ws=>qm ks ws V
  |[]=>V
 |.ob offs::ks,ws,V=>match ws with
  |.ptr O 0::ws=>(match V.H.get O with
   |some (.ob _ ovs)=>qm ks ws (AH (f_ V O) ovs offs)
   |_=>V)
  |_=>V
 |.sl _::ks,ws,V=>match ws with
  |.sl O::ws=>qm ks ws (Ae V (.sl O))
  |_=>V
def Fe (sh:Sh) (nt:Nat) (V:bt) (d:Option Nat) (f:Nat) (args:List b_) (k:bt->Prop):Prop:=match d with
 |none=>False
 |some d=>match sh.inl f with
  |some T=>SO V args fun ws=>T V ws fun w V'=>jb nt V' (some d) none w k
  |none=>match sh.sg f with
  |none=>False
  |some sg=>SO V args fun ws=>match jc d sg.ks ws with
   |none=>False
   |some ims=>match ((EA sg.ks 0).all A_&&(od sg.ks.length sg.rk sg.ks 0).all A_)&&(Ox (EA sg.ks 0) .leaf []&&Qx nt (od sg.ks.length sg.rk sg.ks 0) ims V.us) with
    |false=>False
    |true=>O6 sg.ks 0 ws V (sh.vs f sg.ks.length (EA sg.ks 0) (od sg.ks.length sg.rk sg.ks 0)
      (Gt (od sg.ks.length sg.rk sg.ks 0) ims {qm sg.ks ws V with env:=V.env.put none d} k))
section
variable (sh:Sh) (prog:Map ay) (nt:Nat)
def Zd (g:G) (P:Option TV) (k:Prop):Prop:=match g with
 |none=>∃e,P=some e/\k
 |some (c,bb)=>∃e,(c=.b bb->P=some e)/\k
def ldI (es:List TV) (i io j off:Nat) (sz:Option Nat):Option TV:=match AX es i io with
 |some l=>zb l j off sz
 |none=>none
def QO (es:List TV) (i io:Nat):Option TV:=match AX es i io with
 |some l=>some (.i .i64 l.length)
 |none=>none
def ixI (es:List TV) (i io:Nat) (j:TV):Option Nat:=match AX es i io with
 |some l=>jm j l.length
 |none=>none
def Cy (off n io:Nat):Bool:=Nat.ble (off+n) io||Nat.blt io off
def vm (V:bt) (d:Option Nat) (g:G) (sz:Option Nat) (w:VV) (k:bt->Prop):Prop:=match w with
 |.ptr O off=>match V.H.get O with
  |some (.ob v ovs)=>match sz with
   |none=>match eC off ovs with
    |some w=>jb nt V d g w k
    |none=>lD nt V d g (fy (ct v off)) k
   |some n=>match xg off n ovs with
    |[]=>lD nt V d g (ax v off n) k
    |p::r=>match g with
     |none=>∃u,ax v off n=some u/\jb nt V d none (.st u (p::r)) k
     |some _=>False
  |_=>False
 |.pd O off=>match V.H.get O with
  |some (.ob v ovs)=>match ovs with
   |[]=>lD nt V d g (gY v off sz) k
   |_::_=>False
  |_=>False
 |.pt v off=>lD nt V d g (gY v off sz) k
 |.ea O i off=>match V.H.get O with
  |some (.gr _ es)=>lD nt V d g (zb es i off sz) k
  |some (.gn K _ io _ ver hole es)=>(match Nat.beq K O with
   |true=>(match sz with
    |none=>(match Nat.beq off io with
     |true=>(match hole with
      |none=>Zd g es[i]? (jb nt V d g (.ow O ver i) k)
      |some _=>False)
     |false=>lD nt V d g (zb es i off none) k)
    |some n=>(match Cy off n io with
     |true=>lD nt V d g (zb es i off (some n)) k
     |false=>False))
   |false=>False)
  |_=>False
 |.e2 O v i j off=>Ta V O v fun _ io _ es=>lD nt V d g (ldI es i io j off sz) k
 |_=>False
def T7 (h:Option Nat) (i:Nat) (k:Prop):Prop:=match h with
 |none=>k
 |some j=>j=i/\k
def ua (V:bt) (sz:Nat) (w x:VV) (k:bt->Prop):Prop:=match w with
 |.ptr O off=>match V.H.get O with
  |some (.ob v ovs)=>match r_ x with
   |some (t,o)=>∃u,aq v off sz t=some u/\k (ew V O (.ob u (CX off o (xh off sz ovs))))
   |none=>False
  |_=>False
 |.pd O off=>match V.H.get O with
  |some (.ob v ovs)=>match ovs with
   |[]=>match x with
    |.tr t=>∃u,aq v off sz t=some u/\k (ew V O (.ob u []))
    |_=>False
   |_::_=>False
  |_=>False
 |.ea O i off=>match V.H.get O with
  |some (.gr z es)=>match x with
   |.tr t=>∃es',jn es i off sz t=some es'/\k (ew V O (.gr z es'))
   |_=>False
  |some (.gn K s io iz ver hole es)=>(match Nat.beq K O with
   |true=>(match x with
    |.tr t=>(match Cy off sz io with
     |true=>∃es',jn es i off sz t=some es'/\k (ew V O (.gn K s io iz ver hole es'))
     |false=>False)
    |.sl N=>(match Nat.beq sz 1&&(Nat.beq off io&&!Nat.beq N O) with
     |true=>(match V.H.get N with
      |some (.gr z l)=>(match Nat.beq z iz with
       |true=>T7 hole i (∃es',jn es i io 1 (.l l)=some es'/\k (ew (f_ V N) O (.gn K s io iz (ver+1) none es')))
       |false=>False)
      |_=>False)
     |false=>False)
    |_=>False)
   |false=>False)
  |_=>False
 |.e2 O v i j off=>Ta V O v fun s io iz es=>match x with
  |.tr t=>∃l,AX es i io=some l/\∃l',jn l j off sz t=some l'/\∃es',jn es i io 1 (.l l')=some es'/\k (ew V O (.gn O s io iz v none es'))
  |_=>False
 |_=>False
def KK (V:bt) (d:Option Nat) (g:G) (off:Nat) (sz:Option Nat) (w:VV) (k:bt->Prop):Prop:=match w with
 |.tr v=>lD nt V d g (Vp v off sz) k
 |.st v ovs=>match sz with
  |none=>match eC off ovs with
   |some w=>jb nt V d g w k
   |none=>lD nt V d g (ct v off) k
  |some n=>match xg off n ovs with
   |[]=>lD nt V d g (ax v off n) k
   |p::r=>match g with
    |none=>∃u,ax v off n=some u/\jb nt V d none (.st u (p::r)) k
    |some _=>False
 |_=>False
def I2 (V:bt) (d:Option Nat) (g:G) (off:Nat) (w:VV) (k:bt->Prop):Prop:=match w with
 |.ptr O o=>jb nt V d g (.ptr O (o+off)) k
 |.pd O o=>jb nt V d g (.pd O (o+off)) k
 |.pt v o=>jb nt V d g (.pt v (o+off)) k
 |.ea O i o=>jb nt V d g (.ea O i (o+off)) k
 |.e2 O v i j o=>jb nt V d g (.e2 O v i j (o+off)) k
 |_=>False
def NN (V:bt) (d:Option Nat) (g:G) (sz:Nat) (w:VV) (i:TV) (k:bt->Prop):Prop:=pos sz <| match w with
 |.tr v=>P8 g (fun e=>jh v i=some e/\cw sz e) fun e=>jb nt V d g (.pt e 0) k
 |.sl O=>match V.H.get O with
  |some (.gr z es)=>same z sz (JW g (jm i es.length) fun n=>jb nt V d g (.ea O n 0) k)
  |some (.gn _ s _ _ _ _ es)=>same s sz (JW g (jm i es.length) fun n=>jb nt V d g (.ea O n 0) k)
  |_=>False
 |.ow O v j=>Ta V O v fun _ io iz es=>same iz sz (JW g (ixI es j io i) fun n=>jb nt V d g (.e2 O v j n 0) k)
 |_=>False
def MA (V:bt) (d:Option Nat) (g:G) (len sz:Nat) (w:VV) (i:TV) (k:bt->Prop):Prop:=match w with
 |.ptr O o=>JW g (jm i len) fun n=>jb nt V d g (.pd O (o+n*sz)) k
 |.pd O o=>JW g (jm i len) fun n=>jb nt V d g (.pd O (o+n*sz)) k
 |.pt v o=>JW g (jm i len) fun n=>jb nt V d g (.pt v (o+n*sz)) k
 |_=>False
def NK (V:bt) (d:Option Nat) (g:G) (str:Bool) (w:VV) (k:bt->Prop):Prop:=match str with
 |true=>match w with
  |.tr v=>lD nt V d g (AE v) k
  |_=>False
 |false=>match w with
  |.tr v=>lD nt V d g (ig v) k
  |.gD=>lD nt V d g (some (.i .i64 0)) k
  |.sl O=>match V.H.get O with
   |some (.gr _ es)=>lD nt V d g (some (.i .i64 es.length)) k
   |some (.gn _ _ _ _ _ _ es)=>lD nt V d g (some (.i .i64 es.length)) k
   |_=>False
  |.ow O v j=>Ta V O v fun _ io _ es=>lD nt V d g (QO es j io) k
  |_=>False
def LJ (V:bt) (sz:Nat) (w:VV) (k:List TV->Prop):Prop:=match w with
 |.tr v=>∃xs,ef v=some xs/\gk sz xs/\k xs
 |.gD=>k []
 |.sl P=>match V.H.get P with
  |some (.gr z es)=>same z sz (k es)
  |_=>False
 |_=>False
def I4 (V:bt) (d:Option Nat) (g:G) (s io bytes:Nat) (w:VV) (xs:List TV) (k:bt->Prop):Prop:=match d with
 |none=>False
 |some dd=>match w with
  |.gD=>(match OD (sh.gc dd) s io (Sf (sh.gc dd))&&Nat.blt 0 (Sf (sh.gc dd)) with
   |true=>∃l,ga bytes [] xs=some l/\s_ nt V d g .sl (.gn dd s io (Sf (sh.gc dd)) 0 none l) k
   |false=>False)
  |.sl O=>(match V.H.get O with
   |some (.gn _ s' io' iz _ none es)=>(match Nat.beq s' s&&Nat.beq io' io with
    |true=>∃l,ga bytes es xs=some l/\s_ nt (f_ V O) d g .sl (.gn dd s io iz 0 none l) k
    |false=>False)
   |_=>False)
  |_=>False
def HY (V:bt) (d:Option Nat) (g:G) (sz bytes:Nat) (w x:VV) (k:bt->Prop):Prop:=match x with
 |.gl s io xs=>same s sz (I4 sh nt V d g s io bytes w xs k)
 |x=>pos sz <| LJ V sz x fun xs=>match w with
 |.gD=>∃l,ga bytes [] xs=some l/\s_ nt V d g .sl (.gr sz l) k
 |.sl O=>match V.H.get O with
  |some (.gr z es)=>same z sz (∃l,ga bytes es xs=some l/\s_ nt (f_ V O) d g .sl (.gr sz l) k)
  |_=>False
 |.ow O v i=>Ta V O v fun s io iz es=>same iz sz (∃l0,AX es i io=some l0/\∃l,ga bytes l0 xs=some l/\s_ nt (ew V O (.gn O s io iz v (some i) es)) d g .sl (.gr sz l) k)
 |_=>False
def My (V:bt) (d:Option Nat) (g:G) (sz:Nat) (w:VV) (lo hi mx:Option b_) (k:bt->Prop):Prop:=pos sz <| match w with
 |.sl O=>match V.H.get O with
  |some (.gr z es)=>match hi with
   |none=>match mx with
    |none=>same z sz (DO V none lo fun l=>∃m,EK l 0 es.length=some m/\s_ nt (f_ V O) d g .sl (.gr sz (es.drop m)) k)
    |some _=>False
   |some _=>False
  |_=>False
 |.tr v=>match mx with
  |none=>DO V g lo fun l=>DO V g hi fun h=>P8 g (fun r=>TU v l h=some r/\(∀es,v=.l es->gk sz es)) fun r=>jb nt V d none (.tr r) k
  |some m=>match yj hi&&yj mx&&lo.isNone&&g.isNone with
   |true=>∃l,ef v=some l/\gk sz l/\jb nt V d none .gD k
   |false=>False
 |.gD=>match yj hi&&yj mx&&lo.isNone with
  |true=>jb nt V d g .gD k
  |false=>False
 |_=>False
def z_ (V:bt) (d:Option Nat) (len sz:Nat) (w:VV) (hi:Option b_) (k:bt->Prop):Prop:=match w with
 |.ptr O off=>(match V.H.get O with
  |some (.ob v _)=>∃u,ax v off (len*sz)=some u/\DO V none hi fun h=>∃m,EK h len len=some m/\jb nt V d none (.sa O off m sz) k
  |_=>False)
 |.pd O off=>(match V.H.get O with
  |some (.ob v _)=>∃u,ax v off (len*sz)=some u/\DO V none hi fun h=>∃m,EK h len len=some m/\jb nt V d none (.sa O off m sz) k
  |_=>False)
 |_=>False
def KL (V:bt) (d:Option Nat) (sz:Nat) (w x:VV) (k:bt->Prop):Prop:=match w with
 |.sa O off n z=>same z sz (match V.H.get O with
  |some (.ob v ovs)=>(match ovs with
   |[]=>LJ V sz x fun xs=>∃u,OP v off sz (xs.take n)=some u/\jb nt (ew V O (.ob u [])) d none (.tr (.i .i64 ((min xs.length n:Nat):Int))) k
   |_::_=>False)
  |_=>False)
 |_=>False
def RF:List Nat->List (Nat×VV)->List (Nat×VV)
 |[],l=>l
 |c::cs,l=>RF cs (xh c 1 l)
def YL (d:Option Nat):List Nat:=match d with
 |some d=>sh.tc d
 |none=>[]
def MQ:List Nat->TV->List (Nat×VV)->(TV->List (Nat×VV)->Prop)->Prop
 |[],v,o,k=>k v o
 |c::cs,v,o,k=>match eC c o with
  |some .gD=>∃u,aq v c 1 (.l [])=some u/\MQ cs u (xh c 1 o) k
  |_=>False
def tcD (d:Option Nat) (l:List (Nat×VV)):List (Nat×VV):=match d with
 |some d=>RF (sh.tc d) l
 |none=>l
def lB (p:Bool) (r:TV):Prop:=match p with
 |true=>True
 |false=>r.LP=true
def Gf (V:bt) (d:Option Nat) (g:G) (f:Nat) (args:List b_) (k:bt->Prop):Prop:=
 Bk V g args fun p ts=>match g with
  |none=>(match p||!(sh.fr f) with
   |true=>VS prog f ts fun r=>lB p r/\jb nt V d none (.tr r) k
   |false=>Ly prog f ts fun r=>jb nt V d none (.tr r) k)
  |some (c,bb)=>∃r,gV c bb (fun r=>VS prog f ts fun r'=>r'=r/\lB p r) r/\jb nt V d none (.tr r) k
def Vw (V:bt) (d:Option Nat) (g:G) (w:VV) (k:bt->Prop):Prop:=match w with
 |.tr v=>(match g with|none=>jb nt V d none (.tr v) k|some _=>lD nt V d g (some v) k)
 |.bad=>False
 |w=>jb nt V d g w k
def I0 (V:bt) (d:Option Nat) (g:G) (w:VV) (k:bt->Prop):Prop:=match w with
 |.ptr ..=>jb nt V d g w k
 |.pd ..=>jb nt V d g w k
 |.pt ..=>jb nt V d g w k
 |.ea ..=>jb nt V d g w k
 |_=>False
def Vx (V:bt) (d:Option Nat) (s io:Nat) (w:VV) (k:bt->Prop):Prop:=match w with
 |.gD=>(match Nat.beq s 1&&Nat.beq io 0 with
  |true=>jb nt V d none (.gl 1 0 [.l []]) k
  |false=>False)
 |.st t ovs=>(match ovs with
  |[(o,.gD)]=>(match Nat.beq o io&&Nat.blt io s with
   |true=>cw s t/\∃u,aq t io 1 (.l [])=some u/\jb nt V d none (.gl s io [u]) k
   |false=>False)
  |_=>False)
 |_=>False
def isGl (d:Option Nat):Option Nat:=match d with
 |some d=>(match sh.gc d with
  |0=>none
  |c+1=>some (c+1))
 |none=>none
def NL (V:bt) (d:Option Nat) (g:G) (fz:Bool) (len:Nat) (zero:List AV) (parts:List (Nat×Nat×b_)) (k:bt->Prop):Prop:=match g with
 |none=>match len with
  |0=>(match parts with|[]=>(match zero with|[]=>(match fz with|false=>jb nt V d none .gD k|true=>False)|_::_=>False)|_::_=>False)
  |n+1=>pos (zero.length / len) (same ((zero.length / len)*len) zero.length (vp V none fz (zero.length / len) 0 parts fun ts V'=>same ts.length len (jb nt V' d none (.tr (.l ts)) k)))
 |some _=>False
def EF (V:bt) (d:Option Nat) (g:G) (fz:Bool) (len:Nat) (zero:List AV) (parts:List (Nat×Nat×b_)) (k:bt->Prop):Prop:=match isGl sh d with
 |none=>NL nt V d g fz len zero parts k
 |some c=>match g with
  |none=>(match parts with
   |[(off,n,x)]=>(match Nat.beq len 1&&(Nat.beq off 0&&(Nat.beq n (OG c)&&Nat.beq zero.length n)) with
    |true=>jx V none x fun w=>Vx nt V d (OG c) (Tb c) w k
    |false=>False)
   |_=>False)
  |some _=>False
def DL:List (Nat×Nat×TV)->TV->Option TV
 |[],v=>some v
 |(off,n,t)::r,v=>match aq v off n t with
  |some u=>DL r u
  |none=>none
def Qi (V:bt) (g:G):List (Nat×Nat×b_)->(List (Nat×Nat×TV)->Prop)->Prop
 |[],k=>k []
 |(off,n,x)::r,k=>ue V g x fun t=>Qi V g r fun l=>k ((off,n,t)::l)
def QZ:b_->Bool
 |.c .av=>true
 |_=>false
def BV (V:bt) (d:Option Nat) (g:G) (op:mj) (k:bt->Prop):Prop:=match op with
 |.mv x=>jx V g x fun w=>Vw nt V d g w k
 |.pick c a b=>ue V g c fun c=>ue V g a fun a=>ue V g b fun b=>lD nt V d g (ij c a b) k
 |.alloc zero=>match gE kq zero with
  |true=>s_ nt V d g (fun O=>.ptr O 0) (.ob (.a (gN zero)) (tcD sh d (qb 0 zero))) k
  |false=>False
 |.box x=>jx V g x fun w=>match r_ w with
  |some (v,o)=>v.ff=false/\MQ (YL sh d) v o fun v o=>s_ nt V d g (fun O=>.ptr O 0) (.ob v o) k
  |none=>False
 |.build zero parts=>match g with
  |none=>(match gE kq zero with
   |true=>II V none parts (.a (gN zero)) (qb 0 zero) fun v ovs=>jb nt V d none (iy v ovs) k
   |false=>False)
  |some q=>(match gE kq zero with
   |true=>Qi V (some q) parts fun l=>lD nt V d (some q) (DL l (.a (gN zero))) k
   |false=>False)
 |.tj es len zero parts=>match g with
  |none=>pos es (vp V none false es 0 parts fun ts V'=>same ts.length len (same zero.length (ts.length*es) (s_ nt V' d none .sl (.gr es ts) k)))
  |some _=>False
 |.bx len zero parts=>EF sh nt V d g false len zero parts k
 |.load sz a=>jx V g a fun w=>vm nt V d g sz w k
 |.store sz a x=>match g with
  |none=>match d with
   |none=>jx V none a fun w=>jx V none x fun x=>ua V sz w x k
   |some _=>False
  |some _=>False
 |.xj x=>jx V g x fun w=>I0 nt V d g w k
 |.bin op x y=>ue V g x fun x=>ue V g y fun y=>lD nt V d g (bf op x y) k
 |.eq t neg x y=>match t with
  |.slice=>(match g with
   |none=>(match QZ y with
    |true=>ue V none x fun x=>∃es:List TV,ef x=some es/\∀b:Bool,(es≠[]->b=neg)->jb nt V d none (.tr (.b b)) k
    |false=>False)
   |some _=>False)
  |t=>ue V g x fun x=>ue V g y fun y=>lD nt V d g (Tk t neg x y) k
 |.un op x=>ue V g x fun x=>lD nt V d g (ng op x) k
 |.conv c x=>ue V g x fun x=>lD nt V d g (NT c x) k
 |.Al es bytes zero n=>pos es <| match g with
  |none=>(match gE kq zero&&Nat.beq zero.length es with
   |true=>ue V none n fun n=>∃m,FX bytes n=some m/\s_ nt V d none .sl (.gr es (List.replicate m (MT es zero))) k
   |false=>False)
  |some _=>False
 |.tn x lo hi=>ue V g x fun x=>DO V g lo fun lo=>DO V g hi fun hi=>lD nt V d g (AD x lo hi) k
 |.zm es x lo hi mx=>jx V g x fun w=>My nt V d g es w lo hi mx k
 |.nw len es x lo hi mx=>pos es <| match g with
  |none=>(match lo with
   |none=>(match mx with
    |none=>jx V none x fun w=>z_ nt V d len es w hi k
    |some _=>False)
   |some _=>False)
  |some _=>False
 |.Lw es w x=>pos es <| match g with
  |none=>jx V none w fun w=>jx V none x fun x=>KL nt V d es w x k
  |some _=>False
 |.vl off x=>jx V g x fun w=>I2 nt V d g off w k
 |.Nz off sz x=>jx V g x fun w=>KK nt V d g off sz w k
 |.jv es x i=>jx V g x fun w=>ue V g i fun i=>NN nt V d g es w i k
 |.oD len es x i=>jx V g x fun w=>ue V g i fun i=>MA nt V d g len es w i k
 |.idx x i=>ue V g x fun x=>ue V g i fun i=>lD nt V d g (vj x i) k
 |.ext i x=>ue V g x fun x=>lD nt V d g (t_ i x) k
 |.app es bytes s x=>jx V g s fun w=>jx V g x fun x=>HY sh nt V d g es bytes w x k
 |.len str x=>jx V g x fun w=>NK nt V d g str w k
 |.GL mx xs=>Qh V g xs fun xs=>lD nt V d g (zw mx xs) k
 |.call f args .borrow=>Gf sh prog nt V d g f args k
 |.call f args .share=>match g with
  |none=>Fe sh nt V d f args k
  |some _=>False
 |.lA f args .borrow=>ue V g f fun f=>match g with
  |none=>∃n,f=.f n/\Gf sh prog nt V d none n args k
  |some (c,bb)=>∃n,(c=.b bb->f=.f n)/\Gf sh prog nt V d (some (c,bb)) n args k
 |_=>False
def Tf (V:bt) (o:br) (k:bt->Prop):Prop:=match o.gd with
 |none=>match o.fz with
  |true=>(match o.op with
   |.bx len zero parts=>EF sh nt V o.dst none true len zero parts k
   |_=>False)
  |false=>BV sh prog nt V o.dst none o.op k
 |some (n,bb)=>match o.fz with
  |true=>False
  |false=>ue V none (.t n) fun c=>BV sh prog nt V o.dst (some (c,bb)) o.op k
def Vv:List br->bt->(bt->Prop)->Prop
 |[],V,k=>k V
 |o::l,V,k=>Tf sh prog nt V o fun V=>Vv l V k
structure Lp where
 rd:List Nat
 wr:List Nat
 src:List Nat
def DN:List (Nat×VV)->List Nat
 |[]=>[]
 |(_,.sl O)::r=>O::DN r
 |(_,.ow O _ _)::r=>O::DN r
 |_::r=>DN r
def gP:VV->List Nat
 |.sl O=>[O]
 |.st _ ovs=>DN ovs
 |.ow O _ _=>[O]
 |_=>[]
def p9:VV->List Nat
 |.ptr O _=>[O]
 |.pd O _=>[O]
 |.ea O _ _=>[O]
 |.e2 O _ _ _ _=>[O]
 |_=>[]
def Iw:VV->List Nat
 |.sa O _ _ _=>[O]
 |_=>[]
def Vj:VV->Bool
 |.tr _=>true
 |.gD=>true
 |.st _ ovs=>Hz ovs
 |_=>false
def DC (V:bt):List b_->Bool
 |[]=>true
 |x::xs=>Vj (gZ V x)&&DC V xs
def mz (V:bt):List (Nat×Nat×b_)->List Nat
 |[]=>[]
 |(_,_,x)::r=>gP (gZ V x)++mz V r
def IX (V:bt) (o:br):Option Lp:=match o.op with
 |.load _ a=>some ⟨p9 (gZ V a),[],[]⟩
 |.store _ a _=>some ⟨p9 (gZ V a),p9 (gZ V a),[]⟩
 |.app _ _ s x=>some ⟨gP (gZ V s)++gP (gZ V x),gP (gZ V s),gP (gZ V s)⟩
 |.zm _ x _ _ _=>some ⟨[],[],gP (gZ V x)⟩
 |.bx _ _ parts=>match o.fz with
  |true=>some ⟨mz V parts,mz V parts,[]⟩
  |false=>some ⟨[],[],[]⟩
 |.call _ args .borrow=>match DC V args with
  |true=>some ⟨[],[],[]⟩
  |false=>none
 |.lA _ args .borrow=>match DC V args with
  |true=>some ⟨[],[],[]⟩
  |false=>none
 |.call _ _ .share=>none
 |.lA _ _ .share=>none
 |.nw _ _ x _ _ _=>some ⟨p9 (gZ V x),[],[]⟩
 |.Lw _ w x=>some ⟨Iw (gZ V w)++gP (gZ V x),Iw (gZ V w),[]⟩
 |.Ty ..=>none
 |.B8 ..=>none
 |.IP ..=>none
 |.GW ..=>none
 |_=>some ⟨[],[],[]⟩
def j7 (T:Nat):List (Nat×Nat×List Nat)->Nat×List Nat
 |[]=>(T,[])
 |(T',x)::l=>bif Nat.beq T' T then x else j7 T l
def Sy:List Nat->List Nat->Bool
 |[],_=>true
 |n::l,m=>BT n m&&Sy l m
def H_:List Nat->List Nat->Bool
 |[],_=>true
 |n::l,m=>!BT n m&&H_ l m
def wz (info:List (Nat×Nat×List Nat)):List Nat->List Nat
 |[]=>[]
 |T::l=>(j7 T info).1::wz info l
def yw (info:List (Nat×Nat×List Nat)) (ah:List Nat):List Nat->Bool
 |[]=>true
 |T::l=>Sy (j7 T info).2 ah&&yw info ah l
def G0 {α:Type} (m:Map α):(Nat->Bool)->Bool:=
 Map.rec (motive:=fun _=>(Nat->Bool)->Bool) (fun _=>true)
  (fun v _ _ l r p=>(match v with|none=>true|some _=>p 0)&&(l (fun k=>p (Nat.succ (Nat.mul 2 k)))&&r (fun k=>p (Nat.succ (Nat.succ (Nat.mul 2 k)))))) m
def isD (d:Option Nat) (T:Nat):Bool:=match d with
 |some d=>Nat.beq d T
 |none=>false
def ym (V:bt) (T:Nat):Bool:=match V.H.get T with
 |some _=>true
 |none=>false
def Ns:Option VO->Option VO->Bool
 |some (.gn _ _ _ _ _ none _),some (.gn _ _ _ _ _ (some _) _)=>false
 |_,_=>true
def PO (x y:Option VO) (k:Prop):Prop:=match x with
 |some (.gn K _ _ _ v h _)=>(match y with
  |some (.gn K' _ _ _ v' h' _)=>(match Nat.beq K K'&&Nat.beq v v' with
   |true=>(match h with
    |none=>k
    |some j=>(match h' with
     |some j'=>j=j'/\k
     |none=>False))
   |false=>False)
  |some _=>False
  |none=>k)
 |some _=>(match y with
  |some (.gn ..)=>False
  |_=>k)
 |none=>k
def OX {α:Type} (m:Map α):(Nat->Prop->Prop)->Prop->Prop:=
 Map.rec (motive:=fun _=>(Nat->Prop->Prop)->Prop->Prop) (fun _ k=>k)
  (fun v _ _ l r f k=>(match v with|none=>fun k=>k|some _=>f 0) (l (fun i=>f (Nat.succ (Nat.mul 2 i))) (r (fun i=>f (Nat.succ (Nat.succ (Nat.mul 2 i)))) k))) m
def N9 (l:List br) (V V':bt) (k:Prop):Prop:=match l with
 |[]=>k
 |_::_=>OX V'.H (fun T=>PO (V.H.get T) (V'.H.get T)) k
def G_ (d:Option Nat) (i:Nat) (V V':bt) (f:Lp) (info:List (Nat×Nat×List Nat)):Option (List (Nat×Nat×List Nat)):=
 match G0 V'.H fun T=>ym V T||isD d T with
 |false=>none
 |true=>match d with
  |none=>some info
  |some d=>match ym V' d&&!ym V d with
   |false=>some info
   |true=>match G0 V.H fun T=>BT T f.src||(ym V' T&&Ns (V.H.get T) (V'.H.get T)) with
    |false=>none
    |true=>match f.src with
     |[]=>some ((d,d,[i])::info)
     |[O]=>some ((d,(j7 O info).1,i::(j7 O info).2)::info)
     |_=>none
def IJ (feet:List (List Nat×List Nat)):List (Nat×Nat)->Bool
 |[]=>true
 |(i,j)::l=>(match feet[i]? with
  |some a=>match feet[j]? with
   |some b=>H_ a.2 b.1&&(H_ b.2 a.1&&H_ a.2 b.2)
   |none=>false
  |none=>false)&&IJ feet l
def U4 (d:Nat):List PK->RK->List Nat
 |[],rk=>(match rk with
  |.tr=>[]
  |.sl _=>[d]
  |.st offs=>offs.map (fun p=>Cb (B5 d) p.1))
 |k::ks,rk=>(match k with
  |.ob offs=>offs.map (fun p=>Cb d p.1)++U4 d ks rk
  |_=>U4 d ks rk)
def n9:List (Nat×Nat×List Nat)->bt->bt
 |[],V=>V
 |(T,_)::l,V=>n9 l (f_ V T)
def yz (V:bt):List (Nat×Nat×List Nat)->bt->bt
 |[],W=>W
 |(T,_)::l,W=>yz V l (match W.H.get T with
  |some _=>W
  |none=>match V.H.get T with
   |some o=>(match o.pl with
    |true=>ew W T o
    |false=>W)
   |none=>W)
def EC (i:Nat):List Nat->List (Nat×Nat×List Nat)->List (Nat×Nat×List Nat)
 |[],l=>l
 |T::r,l=>(T,T,[i])::EC i r l
def S3 (d f:Nat):List Nat:=match sh.inl f with
 |some _=>[]
 |none=>match sh.sg f with
  |some sg=>U4 d sg.ks sg.rk
  |none=>[]
def Iq (V:bt) (o:br):Option (List Nat):=match o.gd with
 |some _=>none
 |none=>match o.fz with
  |true=>none
  |false=>match o.op with
   |.call f args .share=>(match o.dst with
    |some d=>some (S3 sh d f)
    |none=>none)
   |.call _ args .borrow=>(match DC V args with
    |true=>none
    |false=>some [])
   |_=>none
def Kj (V:bt):List Nat->Bool
 |[]=>true
 |T::l=>(match V.H.get T with|some _=>false|none=>true)&&Kj V l
inductive qk where
 |sl (N:Nat)
 |tr (c:Option TV)
def IU (v:TV) (ovs:List (Nat×VV)):Nat->Nat->Option (List qk)
 |_,0=>some []
 |off,n+1=>match IU v ovs (off+1) n with
  |none=>none
  |some l=>match eC off ovs with
   |some (.sl N)=>some (.sl N::l)
   |some _=>none
   |none=>some (.tr (ct v off)::l)
def cellOf (V:bt) (o:br):Option (Nat×Nat×List qk):=match o.gd with
 |some _=>none
 |none=>match o.fz with
  |true=>none
  |false=>match o.op with
   |.load sz (.t a)=>(match V.env.get a with
    |some ⟨none,.ptr O off⟩=>(match V.H.get O with
     |some (.ob v ovs)=>(match IU v ovs off (gH sz) with
      |some (k::ks)=>some (O,off,k::ks)
      |_=>none)
     |_=>none)
    |_=>none)
   |_=>none
def TV.uniq:TV->Bool
 |.i _ _=>true
 |.b _=>true
 |.s _=>true
 |.B7 _ _=>true
 |_=>false
def OC (v:TV) (ovs:List (Nat×VV)):Nat->List qk->Prop->Prop
 |_,[],k=>k
 |off,key::l,k=>match key with
  |.sl N=>(match eC off ovs with
   |some (.sl N')=>(match Nat.beq N N' with
    |true=>OC v ovs (off+1) l k
    |false=>False)
   |_=>False)
  |.tr c=>(match eC off ovs with
   |none=>(∃t,TV.uniq t=true/\c=some t/\ct v off=some t)/\OC v ovs (off+1) l k
   |some _=>False)
def Vh (V:bt) (O off:Nat) (key:List qk) (k:Prop):Prop:=match V.H.get O with
 |some (.ob v ovs)=>OC v ovs off key k
 |_=>False
def KH (i:Nat):List (Nat×Nat×Nat×List qk)->Option (Nat×Nat×List qk)
 |[]=>none
 |(c,p)::l=>match Nat.beq c i with
  |true=>some p
  |false=>KH i l
def C7 (V:bt) (cl:List (Nat×Nat×Nat×List qk)) (i:Nat):List (Nat×Nat)->Prop->Prop
 |[],k=>k
 |(a,b)::l,k=>match Nat.beq a i with
  |true=>False
  |false=>match Nat.beq b i with
   |false=>C7 V cl i l k
   |true=>match KH a cl with
    |none=>False
    |some (O,off,key)=>Vh V O off key (C7 V cl i l k)
def Ma {α:Type}:List α->Bool
 |[]=>true
 |_::_=>false
def Ny (V V':bt) (feet:List (List Nat×List Nat)):Bool:=
 G0 V.H fun O=>((match V.H.get O with|some o=>o.pl|none=>false)&&ym V' O)||gE (fun f=>!BT O f.1&&!BT O f.2) feet
def TC (V:bt) (o:br) (i:Nat) (pairs:List (Nat×Nat)) (cl:List (Nat×Nat×Nat×List qk)):List (Nat×Nat×Nat×List qk):=match pairs with
 |[]=>cl
 |_::_=>match cellOf V o with
  |some p=>(i,p)::cl
  |none=>cl
def Th (ahead:List (List Nat)) (pairs:List (Nat×Nat)):List br->Nat->bt->List (Nat×Nat×List Nat)->List (List Nat×List Nat)->List (Nat×Nat×Nat×List qk)->(bt->Prop)->Prop
 |[],i,V,_,feet,_,k=>match Nat.beq ahead.length i&&IJ feet pairs with
  |true=>k V
  |false=>False
 |o::l,i,V,info,feet,cl,k=>match Iq sh V o with
  |some ns=>(match Kj V ns&&(Ma pairs||!Ma l) with
    |true=>C7 V cl i pairs (Tf sh prog nt (n9 info V) o fun V'=>(match (G0 V'.H fun T=>ym (n9 info V) T||BT T ns)&&(Ma pairs||Ny (n9 info V) V' feet) with
     |true=>N9 l (n9 info V) V' (C7 (yz V info V') cl i pairs (Th ahead pairs l (i+1) (yz V info V') (EC i ns info) (feet++[([],[])]) cl k))
     |false=>False))
    |false=>False)
  |none=>Tf sh prog nt V o fun V'=>match IX V o with
   |none=>False
   |some f=>match ahead[i]? with
    |none=>False
    |some ah=>match yw info ah (f.rd++f.wr) with
     |false=>False
     |true=>match G_ o.dst i V V' f info with
      |none=>False
      |some info'=>N9 l V V' (Th ahead pairs l (i+1) V' info' (feet++[(wz info f.rd,wz info f.wr)]) (TC V o i pairs cl) k)
def TV.isL:TV->Bool
 |.l _=>true
 |_=>false
def SQ:List (Nat×Nat)->bt->(bt->Prop)->Prop
 |[],V,k=>k V
 |(O,off)::l,V,k=>match V.H.get O with
  |some (.ob v ovs)=>(match eC off ovs with
   |none=>∃t,fy (ct v off)=some t/\t.isL=true/\∀x:AV,∃v',aq v off 1 (.B7 x t)=some v'/\SQ l (ew V O (.ob v' ovs)) k
   |some _=>False)
  |_=>False
def Vq:List br->Nat
 |⟨some d,_,_,_⟩::_=>d
 |_=>0
inductive bu where
 |skip
 |er (ops:List br)
 |dz (ops:List br) (ahead:List (List Nat)) (pairs:List (Nat×Nat))
 |seq (a b:bu)
 |cond (c:b_) (a b:bu)
 |block (id:Nat) (c:bu)
 |loop (J:List BP) (c:bu)
 |exit (id:Nat)
 |ret
 |join (J:List BP) (c:bu)
def bu.code:bu->lF
 |.skip=>.skip
 |.er ops=>.er ops
 |.dz ops ahead pairs=>.dz ops ahead pairs
 |.seq a b=>.seq a.code b.code
 |.cond c a b=>.cond c a.code b.code
 |.block id c=>.block id c.code
 |.loop _ c=>.loop c.code
 |.exit id=>.exit id
 |.ret=>.ret
 |.join _ c=>c.code
def ak (c:TV) (a b:Prop):Prop:=match c with
 |.b x=>(match x with|true=>a|false=>b)
 |_=>False
def OK:bu->bt->(gX->bt->Prop)->Prop
 |.skip,V,k=>k .normal V
 |.er ops,V,k=>Vv sh prog nt ops V (k .normal)
 |.dz ops ahead pairs,V,k=>SQ (sh.pn (Vq ops)) V fun V=>Th sh prog nt ahead pairs ops 0 V [] [] [] (k .normal)
 |.seq a b,V,k=>OK a V fun x V=>match x with
  |.normal=>OK b V k
  |x=>k x V
 |.cond c a b,V,k=>ue V none c fun c=>ak c (OK a V k) (OK b V k)
 |.block id c,V,k=>OK c V fun x V=>match x with
  |.exit i=>bif Nat.beq i id then k .normal V else k (.exit i) V
  |x=>k x V
 |.loop J c,V,k=>∃I:Nat->JT J Prop,(∃n,Eo J V (I n))/\∀n,Bm J V0 (I n) fun V=>OK c V fun x V=>match x with
  |.normal=>∃m,m < n/\Eo J V (I m)
  |x=>k x V
 |.exit id,V,k=>k (.exit id) V
 |.ret,V,k=>k .ret V
 |.join J c,V,k=>∃I:JT J Prop,(OK c V fun x V=>match x with
  |.normal=>Eo J V I
  |x=>k x V)/\Bm J V0 I (k .normal)
end
def Nu:List TV->Nat->bt->bt
 |[],_,V=>V
 |v::vs,i,V=>Nu vs (i+1) (sq V i (.tr v))
def EY (V:bt) (r:wh) (k:TV->Prop):Prop:=match r with
 |.tmp t=>jx V none (.t t) fun w=>WW V w k
 |.cell t sz=>jx V none (.t t) fun w=>match w with
  |.ptr O off=>(match V.H.get O with
   |some (.ob v ovs)=>match sz with
    |none=>(match eC off ovs with
     |some w=>EM V w fun es=>k (.l es)
     |none=>∃u,ct v off=some u/\k u)
    |some n=>∃u,ax v off n=some u/\GN V (xg off n ovs) u k
   |_=>False)
  |_=>False
def UR (V:bt):List wh->(List TV->Prop)->Prop
 |[],k=>k []
 |r::rs,k=>EY V r fun v=>UR V rs fun vs=>k (v::vs)
def cg:List TV->Prop
 |[]=>True
 |t::r=>t.ff=false/\cg r
def oH (rs:List TV):Prop:=match rs with
 |[_]=>True
 |rs=>cg rs
def YJ:List TV->TV
 |[v]=>v
 |vs=>.tp vs
def ZV (sh:Sh) (prog:Map ay) (af:ay) (vc:bu) (ts:List TV) (Q:TV->Prop):Prop:=
 OK sh prog af.nt vc (Nu ts 0 V0) fun x V=>(match x with|.exit _=>False|_=>True)/\UR V af.res fun rs=>oH rs/\Q (YJ rs)
def Zc (V:bt) (r:wh) (k:TV->Prop):Prop:=match r with
 |.tmp t=>jx V none (.t t) fun w=>(match w with
  |.gD=>k (.l [])
  |.sl O=>(match V.H.get O with
   |some (.gr _ es)=>(∀e∈es,TV.El e=true)/\k (.l es)
   |_=>False)
  |_=>False)
 |.cell _ _=>False
def Rn (sh:Sh) (prog:Map ay) (af:ay) (vc:bu) (ts:List TV) (Q:TV->Prop):Prop:=
 OK sh prog af.nt vc (Nu ts 0 V0) fun x V=>(match x with|.exit _=>False|_=>True)/\(match af.res with
  |[r]=>Zc V r Q
  |_=>False)
end Go.Ax.V
namespace Go.Ax.dg
open Go Go.Ax Go.Ax.V
abbrev LO:=List br
abbrev oT (d t:Nat) (op:mj):br:=⟨some d,op,some (t,true),false⟩
abbrev oF (d t:Nat) (op:mj):br:=⟨some d,op,some (t,false),false⟩
abbrev oN (op:mj):br:=⟨none,op,none,false⟩
abbrev zi:AV:=.int .i64 0
abbrev qM (d a:Nat):br:=o d (.mv (.t a))
abbrev qMT (d g a:Nat):br:=oT d g (.mv (.t a))
abbrev qMF (d g a:Nat):br:=oF d g (.mv (.t a))
abbrev qZ (d a:Nat):br:=o d (.mv (i64 a))
abbrev qL (d a:Nat):br:=o d (.load none (.t a))
abbrev qLT (d g a:Nat):br:=oT d g (.load none (.t a))
abbrev qLF (d g a:Nat):br:=oF d g (.load none (.t a))
abbrev qG (d a b:Nat):br:=o d (.load (some a) (.t b))
abbrev qGT (d g a b:Nat):br:=oT d g (.load (some a) (.t b))
abbrev qGF (d g a b:Nat):br:=oF d g (.load (some a) (.t b))
abbrev qF (d a b:Nat):br:=o d (.vl a (.t b))
abbrev qFT (d g a b:Nat):br:=oT d g (.vl a (.t b))
abbrev qFF (d g a b:Nat):br:=oF d g (.vl a (.t b))
abbrev qI (d a b c:Nat):br:=o d (.jv a (.t b) (.t c))
abbrev qIT (d g a b c:Nat):br:=oT d g (.jv a (.t b) (.t c))
abbrev qIF (d g a b c:Nat):br:=oF d g (.jv a (.t b) (.t c))
abbrev qN (d a:Nat):br:=o d (.len false (.t a))
abbrev qNT (d g a:Nat):br:=oT d g (.len false (.t a))
abbrev qNF (d g a:Nat):br:=oF d g (.len false (.t a))
abbrev qU (d a:Nat):br:=o d (.un .not (.t a))
abbrev qUT (d g a:Nat):br:=oT d g (.un .not (.t a))
abbrev qUF (d g a:Nat):br:=oF d g (.un .not (.t a))
abbrev qP (d a b:Nat):br:=o d (.pick (.t a) (.c (.bool true)) (.t b))
abbrev qPT (d g a b:Nat):br:=oT d g (.pick (.t a) (.c (.bool true)) (.t b))
abbrev qQ (d a b:Nat):br:=o d (.pick (.t a) (.t b) (.c (.bool false)))
abbrev qQF (d g a b:Nat):br:=oF d g (.pick (.t a) (.t b) (.c (.bool false)))
abbrev qE (d a b:Nat):br:=o d (.ext a (.t b))
abbrev qX (d a:Nat):br:=o d (.xj (.t a))
abbrev qXT (d g a:Nat):br:=oT d g (.xj (.t a))
abbrev qB (d:Nat) (p:BinOp) (a b:Nat):br:=o d (.bin p (.t a) (.t b))
abbrev qC (d:Nat) (p:BinOp) (a b:Nat):br:=o d (.bin p (.t a) (i64 b))
abbrev qK (d f:Nat) (l:List Nat):br:=o d (.call f (l.map .t) .borrow)
abbrev qBT (d g:Nat) (p:BinOp) (a b:Nat):br:=oT d g (.bin p (.t a) (.t b))
abbrev qCT (d g:Nat) (p:BinOp) (a b:Nat):br:=oT d g (.bin p (.t a) (i64 b))
abbrev qKT (d g f:Nat) (l:List Nat):br:=oT d g (.call f (l.map .t) .borrow)
abbrev qBF (d g:Nat) (p:BinOp) (a b:Nat):br:=oF d g (.bin p (.t a) (.t b))
abbrev qCF (d g:Nat) (p:BinOp) (a b:Nat):br:=oF d g (.bin p (.t a) (i64 b))
abbrev qKF (d g f:Nat) (l:List Nat):br:=oF d g (.call f (l.map .t) .borrow)
abbrev qY (d:Nat) (b:Bool):br:=o d (.mv (.c (.bool b)))
abbrev qO (s a b:Nat):br:=oN (.store s (.t a) (.t b))
abbrev qA (d s y a b:Nat):br:=o d (.app s y (.t a) (.t b))
abbrev oZ (d:Nat) (p:mj):br:=⟨some d,p,none,true⟩
abbrev xE (a e:Nat):bu:=.cond (.t a) .skip (.exit e)
abbrev zL1:List AV:=[zi,zi,zi,zi,zi,zi,zi,.av,zi,zi,zi,zi,.av,zi,zi,zi,.av,.av,.av,.av]
abbrev zL2:List AV:=[zi,zi,zi,zi,zi,zi,zi,zi,zi,.av,zi,zi,zi,zi,.av,zi,zi,zi,.av]
abbrev zL3:List AV:=[zi,zi,zi,zi,.av,zi,zi,zi,.av]
abbrev zL4:List AV:=[zi,zi,zi,zi,zi,.av]
abbrev rg:Nat->List Nat:=List.range
abbrev qs (l:LO) (c:bu):bu:=.seq (.er l) c
abbrev jJ0:List BP:=[.ob 0 [(3,1),(6,1)],.ob 7 [],.ob 8 [(7,4),(12,4),(16,4),(17,20),(18,20),(19,3)],.ob 15 [],.ob 16 [(2,20)],.pt 0 0 0,.tr 1,.sl 5 20,.tr 6,.pt 7 7 0,.pt 8 8 0,.tr 12,.sl 13 1,.tr 14,.pt 15 15 0,.pt 16 16 0]
abbrev jJ1:List BP:=[.ob 1 [],.ob 2 [(0,6),(1,2)],.ob 27 [(3,1),(6,1)],.ob 5 [(0,1080038401),(1,2)],.ob 13 [],.ob 15 [],.pt 1 1 0,.pt 2 2 0,.pt 4 27 0,.pt 5 5 0,.tr 10,.tr 11,.tr 12,.pt 13 13 0,.tr 14,.pt 15 15 0,.tr 16]
abbrev jJ2:List BP:=[.ob 1 [],.ob 2 [(0,6),(1,2)],.ob 27 [(3,1),(6,1)],.ob 5 [(0,1080038401),(1,2)],.ob 7 [],.pt 1 1 0,.pt 2 2 0,.pt 4 27 0,.pt 5 5 0,.tr 6,.pt 7 7 0]
abbrev jJ3:List BP:=[.ob 1 [],.ob 2 [(0,6),(1,2)],.ob 27 [(3,1),(6,1)],.ob 5 [(0,1080038401),(1,2)],.pt 1 1 0,.pt 2 2 0,.pt 4 27 0,.pt 5 5 0,.tr 20]
abbrev jJ4:List BP:=[.ob 1 [],.ob 2 [(0,6),(1,2)],.ob 27 [(3,1),(6,1)],.ob 5 [(0,1080038401),(1,2)],.pt 1 1 0,.pt 2 2 0,.pt 4 27 0,.pt 5 5 0,.tr 9]
abbrev jJ5:List BP:=[.ob 1 [],.ob 2 [(0,6),(1,2)],.ob 27 [(3,1),(6,1)],.ob 5 [(0,1080038401),(1,2)],.pt 1 1 0,.pt 2 2 0,.pt 4 27 0,.pt 5 5 0]
abbrev jJ6:List BP:=[.ob 0 [(3,1),(6,1)],.ob 7 [],.ob 8 [(7,4),(12,4),(16,4),(17,20),(18,20),(19,3)],.pt 0 0 0,.tr 1,.sl 5 20,.tr 6,.pt 7 7 0,.pt 8 8 0]
abbrev jJ7:List BP:=[.ob 1 [],.ob 2 [(0,6),(1,2)],.ob 27 [(3,1),(6,1)],.ob 5 [(0,1080038401),(1,2)],.pt 1 1 0,.pt 2 2 0,.pt 4 27 0,.pt 5 5 0,.tr 10,.tr 11]
abbrev jJ8:List BP:=[.ob 1 [],.ob 2 [(0,1),(1,1),(2,1),(3,1)],.ob 3 [(0,1),(1,1),(2,1),(3,1)],.pt 1 1 0,.pt 2 2 0,.pt 3 3 0,.tr 4]
abbrev jJ9:List BP:=[.ob 1 [],.ob 2 [(0,1),(1,1),(2,1),(3,1)],.ob 3 [(0,1),(1,1),(2,1),(3,1)],.pt 1 1 0,.pt 2 2 0,.pt 3 3 0,.tr 5]
abbrev qQW:List BP:=[.ob 0 [(3,1),(6,1)],.ob 3 [],.ob 4 [(3,4)],.ob 5 [(3,4)],.pt 0 0 0,.pt 3 3 0,.pt 4 4 0,.pt 5 5 0]
abbrev tB0:ByteArray:=⟨#[123,125,40,41,59,44,46,61,60,62,43,45,42,47,37]⟩
def v7:bu:=qs [o 1 (.box (.t 0)),qY 2 false] (qs [qG 11 3 1,qK 12 19 [11],qM 10 12,qE 13 0 10,qE 14 1 10,o 3 (.alloc [.av,.av,.av]),qO 3 3 13,qM 4 14] (.seq (qs [o 15 (.call 20 [] .borrow),qU 16 15,qM 17 16,qMF 18 17 4,qUF 19 17 18,qP 20 17 19] (.cond (.t 20) (qs [o 21 (.call 20 [] .borrow),qM 2 21] .ret) .skip)) (qs [qG 22 3 3,qK 23 23 [22],o 5 (.alloc [.av,.av,.av]),qO 3 5 23] (qs [qG 25 3 5,qK 26 31 [25],qM 24 26,qE 27 0 24,qE 28 1 24,o 6 (.alloc [.av,.av,.av,.av]),qO 4 6 27,qM 7 28] (.seq (.dz [qG 30 3 5,qG 31 4 6,qK 32 27 [31],qK 33 26 [30,32],qM 29 33,qE 34 0 29,qE 35 1 29,o 8 (.alloc [.av,.av,.av,.av]),qO 4 8 34,qM 9 35] [[],[],[1],[0,1,2],(rg 4),(rg 5),(rg 5),[],[0,1,2,3,4,5,7],(rg 9)] []) (.seq (.dz [qM 36 7,qC 37 .eql 36 0,qM 38 37,qMT 39 38 9,qCT 40 38 .eql 39 0,qQ 41 38 40,qM 42 41,qGT 43 42 3 5,qGT 44 42 4 6,qKT 45 42 22 [43,44],qQ 46 42 45,qM 47 46,qGT 48 47 4 6,qKT 49 47 29 [48],qGT 50 47 3 3,qKT 51 47 32 [50],qKT 52 47 28 [49,51],qQ 53 47 52,qM 54 53,qGT 55 54 4 8,qKT 56 54 29 [55],qGT 57 54 4 6,qKT 58 54 29 [57],qKT 59 54 28 [56,58],qQ 60 54 59,qM 61 60,qGT 62 61 4 6,qKT 63 61 33 [62],qKT 64 61 29 [63],qGT 65 61 4 6,qKT 66 61 29 [65],qKT 67 61 28 [64,66],qQ 68 61 67,qM 2 68] [[],[0],[0,1],[0,1,2],(rg 4),(rg 5),(rg 6),(rg 7),(rg 7),(rg 9),(rg 10),(rg 11),(rg 12),(rg 13),(rg 12),(rg 15),(rg 16),(rg 17),(rg 18),(rg 19),(rg 20),(rg 19),(rg 22),(rg 23),(rg 24),(rg 25),(rg 26),(rg 27),(rg 28),(rg 26),(rg 30),(rg 31),(rg 32),(rg 33)] []) .ret))))))
def a7:ay:=⟨1,69,[.tmp 2],v7.code⟩
def Sv:bu:=qs [o 1 (.box (.t 0)),o 2 (.alloc [.av,.av,.av]),qY 3 false] (qs [qG 9 3 1,qK 10 49 [9],qM 8 10,qE 11 0 8,qE 12 1 8,o 4 (.alloc [.av,.av]),qO 2 4 11,qM 5 12] (.seq (qs [qM 13 5,qC 14 .neq 13 0] (.cond (.t 14) (qs [o 15 (.build [.av,.av,.av] []),qO 3 2 15,qY 3 false] .ret) .skip)) (qs [qG 17 2 4,qK 18 45 [17],qM 16 18,qE 19 0 16,qE 20 1 16,o 6 (.alloc [.av,.av,.av]),qO 3 6 19,qM 7 20] (qs [qG 21 3 6,qM 22 7,qC 23 .eql 22 0,qO 3 2 21,qM 3 23] .ret))))
def a19:ay:=⟨1,24,[.cell 2 (some 3),.tmp 3],Sv.code⟩
def a20:ay:=⟨0,59,[.tmp 0],(.seq (.er [qY 0 false]) (.seq (.er [o 8 (.build zL2 [(1,1,(i64 1))]),oZ 9 (.bx 1 zL2 [(0,19,.t 8)]),o 10 (.build [zi,.av,.av] [(0,1,(i64 2)),(1,1,.t 9)]),oZ 11 (.bx 1 [zi,.av,.av] [(0,3,.t 10)]),o 12 (.bx 1 [zi] [(0,1,(i64 1))]),o 13 (.build [.av,.av,.av] [(1,1,.t 11),(2,1,.t 12)]),o 1 (.alloc [.av,.av,.av]),qO 3 1 13]) (.seq (.er [qG 15 3 1,qK 16 31 [15],qM 14 16,qE 17 0 14,qE 18 1 14,o 2 (.alloc [.av,.av,.av,.av]),qO 4 2 17,qM 3 18]) (.seq (.dz [qG 20 3 1,qG 21 4 2,qK 22 27 [21],qK 23 26 [20,22],qM 19 23,qE 24 0 19,qE 25 1 19,o 4 (.alloc [.av,.av,.av,.av]),qO 4 4 24,qM 5 25] [[],[],[1],[0,1,2],(rg 4),(rg 5),(rg 5),[],[0,1,2,3,4,5,7],(rg 9)] []) (.seq (.er [o 27 (.build [.av,.av,.av] []),qK 28 31 [27],qM 26 28,qE 29 0 26,qE 30 1 26,o 6 (.alloc [.av,.av,.av,.av]),qO 4 6 29,qM 7 30]) (.seq (.dz [qM 31 3,qC 32 .eql 31 0,qM 33 32,qMT 34 33 5,qCT 35 33 .eql 34 0,qQ 36 33 35,qM 37 36,qMT 38 37 7,qCT 39 37 .eql 38 1,qQ 40 37 39,qM 41 40,qGT 42 41 3 1,qGT 43 41 4 2,qKT 44 41 22 [42,43],qQ 45 41 44,qM 46 45,qFT 47 46 0 2,qLT 48 46 47,qNT 49 46 48,qCT 50 46 .eql 49 1,qQ 51 46 50,qM 52 51,qGT 53 52 4 2,qKT 54 52 29 [53],qGT 55 52 4 4,qKT 56 52 29 [55],qKT 57 52 28 [54,56],qQ 58 52 57,qM 0 58] [[],[0],[0,1],[0,1,2],(rg 4),(rg 5),(rg 6),(rg 7),(rg 8),(rg 9),(rg 10),(rg 11),(rg 11),(rg 13),(rg 14),(rg 15),(rg 16),(rg 17),(rg 18),(rg 19),(rg 20),(rg 21),(rg 22),(rg 23),(rg 22),(rg 25),(rg 26),(rg 27),(rg 28)] []) .ret))))))⟩
def WV:bu:=qs [o 2 (.box (.t 0)),o 3 (.box (.t 1)),qY 4 false] (qs [qG 5 3 2,qK 6 53 [5],qM 7 6,qGT 8 7 3 2,qGT 9 7 4 3,qKT 10 7 54 [8,9],qQ 11 7 10,qM 4 11] .ret)
def a22:ay:=⟨2,12,[.tmp 4],WV.code⟩
def WU:bu:=qs [o 1 (.box (.t 0)),o 2 (.alloc [.av,.av,.av])] (.seq (.dz [qF 9 0 1,qL 10 9,o 11 (.build [.av,.av] [(0,1,.t 10)]),qK 12 44 [11],o 13 (.Nz 0 none (.t 12)),o 14 (.bx 0 [] []),qF 15 2 1,qL 16 15,qA 17 1 8 14 16,o 18 (.build [.av,.av,.av] [(0,1,.t 13),(2,1,.t 17)]),o 3 (.alloc [.av,.av,.av]),qO 3 3 18] [[],[0],[0,1],[0,1,2],(rg 4),[],[],[6],[0,1,2,3,5,6,7],(rg 9),[],(rg 11)] []) (.seq (qs [qZ 4 0] (.block 0 (.loop [.ob 1 [],.ob 2 [(0,6),(1,3),(2,1)],.ob 3 [(1,3),(2,1)],.pt 1 1 0,.pt 2 2 0,.pt 3 3 0,.tr 4] (.seq (qs [qM 19 4,qF 20 1 1,qL 21 20,qN 22 21,qB 23 .lss 19 22] (xE 23 0)) (.seq (.block 1 (qs [qF 26 1 1,qL 27 26,qM 28 4,qI 29 3 27 28,qG 30 3 29,o 5 (.alloc [zi,.av,.av]),qO 3 5 30] (.seq (.dz [qF 31 0 5,qL 32 31,o 33 (.bx 0 [] []),qF 34 2 5,qL 35 34,qA 36 1 8 33 35,o 37 (.build [zi,.av,.av] [(0,1,.t 32),(2,1,.t 36)]),o 6 (.alloc [zi,.av,.av]),qO 3 6 37] [[],[0],[],[],[3],[2,3,4],(rg 6),[],(rg 8)] [(1,5)]) (.seq (qs [qZ 7 0] (.block 2 (.loop [.ob 1 [],.ob 2 [(0,6),(1,3),(2,1)],.ob 3 [(1,3),(2,1)],.ob 5 [],.ob 6 [(1,19),(2,1)],.pt 1 1 0,.pt 2 2 0,.pt 3 3 0,.tr 4,.pt 5 5 0,.pt 6 6 0,.tr 7] (.seq (qs [qM 38 7,qF 39 1 5,qL 40 39,qN 41 40,qB 42 .lss 38 41] (xE 42 2)) (.seq (.block 3 (qs [qF 45 1 5,qL 46 45,qM 47 7,qI 48 19 46 47,qG 49 19 48,o 8 (.alloc zL2),qO 19 8 49] (.dz [qF 50 1 6,qL 51 50,qF 52 0 8,qL 53 52,qF 54 1 8,qL 55 54,qF 56 2 8,qL 57 56,qF 58 3 8,qL 59 58,qF 60 4 8,qL 61 60,qF 62 5 8,qL 63 62,qF 64 6 8,qG 65 4 64,qK 66 36 [65],qF 67 10 8,qF 68 0 67,qL 69 68,qF 70 10 8,qF 71 1 70,qG 72 4 71,qK 73 36 [72],qF 74 10 8,qF 75 5 74,qG 76 4 75,qK 77 36 [76],o 78 (.build zL3 [(0,1,.t 69),(1,4,.t 73),(5,4,.t 77)]),o 79 (.build zL2 [(0,1,.t 53),(1,1,.t 55),(2,1,.t 57),(3,1,.t 59),(4,1,.t 61),(5,1,.t 63),(6,4,.t 66),(10,9,.t 78)]),oZ 80 (.bx 1 zL2 [(0,19,.t 79)]),qA 81 19 200 51 80,qF 82 1 6,qO 1 82 81] [[],[0],[],[2],[],[4],[],[6],[],[8],[],[10],[],[12],[],[14],[14,15],[],[17],[17,18],[],[20],[20,21],[14,15,16,20,21,22],[],[24],[24,25],[14,15,16,20,21,22,23,24,25,26],[14,15,16,17,18,19,20,21,22,23,24,25,26,27],[2,3,4,5,6,7,8,9,10,11,12,13,14,15,16,17,18,19,20,21,22,23,24,25,26,27,28],[2,3,4,5,6,7,8,9,10,11,12,13,14,15,16,17,18,19,20,21,22,23,24,25,26,27,28,29],(rg 31),(rg 32),(rg 33)] [(1,30)]))) (.er [qM 43 7,qC 44 .add 43 1,qM 7 44])))))) (.er [qF 83 1 3,qL 84 83,qG 85 3 6,oZ 86 (.bx 1 [zi,.av,.av] [(0,3,.t 85)]),qA 87 3 56 84 86,qF 88 1 3,qO 1 88 87]))))) (.er [qM 24 4,qC 25 .add 24 1,qM 4 25])))))) (qs [qG 89 3 3,qO 3 2 89] .ret)))
def a23:ay:=⟨1,90,[.cell 2 (some 3)],WU.code⟩
def LB:bu:=qs [o 2 (.box (.t 0)),o 3 (.box (.t 1)),o 4 (.alloc [.av,.av,.av,.av]),qZ 5 0] (.seq (qs [qG 12 3 2,qK 13 53 [12],qU 14 13] (.cond (.t 14) (qs [o 15 (.build [.av,.av,.av,.av] []),qO 4 4 15,qZ 5 1] .ret) .skip)) (.seq (.dz [qF 16 0 3,qF 17 1 2,qL 18 17,qN 19 18,o 20 (.nw 4 1 (.t 16) none (some (.t 19)) none),qK 21 56 [20],qF 22 160 3,qF 23 0 2,qL 24 23,qN 25 24,o 26 (.nw 4 1 (.t 22) none (some (.t 25)) none),qK 27 56 [26],o 28 (.build [.av,.av,.av,.av] [(0,1,.t 21),(3,1,.t 27)]),o 6 (.alloc [.av,.av,.av,.av]),qO 4 6 28] [[],[],[1],[1,2],(rg 4),(rg 5),[],[],[7],[7,8],[6,7,8,9],(rg 11),(rg 12),[],(rg 14)] []) (.seq (qs [qF 29 2 2,qL 30 29,qN 31 30,qZ 32 0] (.block 0 (.loop [.ob 2 [],.ob 3 [],.ob 4 [(0,1),(1,1),(2,1),(3,1)],.ob 6 [(1,1),(2,1)],.pt 2 2 0,.pt 3 3 0,.pt 4 4 0,.pt 6 6 0,.tr 30,.tr 31,.tr 32] (qs [qB 33 .lss 32 31] (.seq (xE 33 0) (.seq (.block 1 (qs [qM 34 32,qI 35 1 30 32,qL 36 35,qM 7 34,qM 8 36] (.dz [qF 37 1 6,qL 38 37,qM 39 7,qF 40 4 3,o 41 (.oD 4 6 (.t 40) (.t 39)),qM 42 8,o 43 (.nw 6 1 (.t 41) none (some (.t 42)) none),qK 44 56 [43],oZ 45 (.bx 1 [.av] [(0,1,.t 44)]),qA 46 1 24 38 45,qF 47 1 6,qO 1 47 46] [[],[0],[],[],[2,3],[],[2,3,4,5],[2,3,4,5,6],[2,3,4,5,6,7],(rg 9),(rg 10),(rg 11)] [(1,8)]))) (.er [qC 48 .add 32 1,qM 32 48]))))))) (.seq (qs [qF 49 0 2,qL 50 49,qN 51 50,qZ 52 0] (.block 2 (.loop [.ob 2 [],.ob 3 [],.ob 4 [(0,1),(1,1),(2,1),(3,1)],.ob 6 [(1,1),(2,1)],.pt 2 2 0,.pt 3 3 0,.pt 4 4 0,.pt 6 6 0,.tr 51,.tr 52] (qs [qB 53 .lss 52 51] (.seq (xE 53 2) (.seq (.block 3 (qs [qM 54 52,qM 9 54] (qs [qM 55 9,qF 56 156 3,o 57 (.oD 4 1 (.t 56) (.t 55)),qL 58 57,o 59 (.GL true [.t 58,(i64 0)]),o 60 (.GL false [.t 59,(i64 16)]),qM 10 60] (.dz [qF 61 2 6,qL 62 61,qM 63 9,qF 64 28 3,o 65 (.oD 4 32 (.t 64) (.t 63)),qM 66 10,o 67 (.nw 16 2 (.t 65) none (some (.t 66)) none),qK 68 57 [67],oZ 69 (.bx 1 [.av] [(0,1,.t 68)]),qA 70 1 24 62 69,qF 71 2 6,qO 1 71 70] [[],[0],[],[],[2,3],[],[2,3,4,5],[2,3,4,5,6],[2,3,4,5,6,7],(rg 9),(rg 10),(rg 11)] [(1,8)])))) (.er [qC 72 .add 52 1,qM 52 72]))))))) (qs [qG 73 4 6,qK 74 27 [73],o 11 (.alloc (List.replicate 164 (zi))),qO 164 11 74] (.seq (qs [qF 75 156 11,qG 76 4 75,qF 77 156 3,qG 78 4 77,o 79 (.eq (.agg [.int,.int,.int,.int]) true (.t 76) (.t 78))] (.cond (.t 79) (qs [o 80 (.build [.av,.av,.av,.av] []),qO 4 4 80,qZ 5 1] .ret) .skip)) (.seq (qs [qG 81 3 2,qG 82 4 6,qK 83 54 [81,82],qU 84 83,qM 85 84,qGF 86 85 164 11,qGF 87 85 164 3,oF 88 85 (.eq (.agg (List.replicate 164 (.int))) true (.t 86) (.t 87)),qP 89 85 88] (.cond (.t 89) (qs [o 90 (.build [.av,.av,.av,.av] []),qO 4 4 90,qZ 5 1] .ret) .skip)) (qs [qG 91 4 6,qO 4 4 91,qZ 5 0] .ret))))))))
def a26:ay:=⟨2,92,[.cell 4 (some 4),.tmp 5],LB.code⟩
def Oa:bu:=qs [o 1 (.box (.t 0)),o 2 (.alloc (List.replicate 164 (zi)))] (qs [o 3 (.alloc (List.replicate 164 (zi)))] (.seq (.dz [qF 8 0 3,o 9 (.nw 4 1 (.t 8) none none none),qF 10 0 1,qL 11 10,o 12 (.Lw 1 (.t 9) (.t 11))] [[],[0],[],[2],(rg 4)] []) (.seq (.dz [qF 13 160 3,o 14 (.nw 4 1 (.t 13) none none none),qF 15 3 1,qL 16 15,o 17 (.Lw 1 (.t 14) (.t 16))] [[],[0],[],[2],(rg 4)] []) (.seq (qs [qF 18 1 1,qL 19 18,qF 20 1 1,qL 21 20,qN 22 21,o 23 (.GL false [.t 22,(i64 4)]),o 24 (.zm 1 (.t 19) none (some (.t 23)) none),qN 25 24,qZ 26 0] (.block 0 (.loop [.ob 1 [],.ob 2 [],.ob 3 [],.pt 1 1 0,.pt 2 2 0,.pt 3 3 0,.tr 24,.tr 25,.tr 26] (qs [qB 27 .lss 26 25] (.seq (xE 27 0) (.seq (.block 1 (qs [qM 28 26,qI 29 1 24 26,qL 30 29,qM 4 28,qM 5 30] (.er [qM 31 4,qF 32 4 3,o 33 (.oD 4 6 (.t 32) (.t 31)),o 34 (.nw 6 1 (.t 33) none none none),qM 35 5,o 36 (.Lw 1 (.t 34) (.t 35))]))) (.er [qC 37 .add 26 1,qM 26 37]))))))) (.seq (qs [qF 38 2 1,qL 39 38,qF 40 2 1,qL 41 40,qN 42 41,o 43 (.GL false [.t 42,(i64 4)]),o 44 (.zm 1 (.t 39) none (some (.t 43)) none),qN 45 44,qZ 46 0] (.block 2 (.loop [.ob 2 [],.ob 3 [],.pt 2 2 0,.pt 3 3 0,.tr 44,.tr 45,.tr 46] (qs [qB 47 .lss 46 45] (.seq (xE 47 2) (.seq (.block 3 (qs [qM 48 46,qI 49 1 44 46,qL 50 49,qM 6 48,qM 7 50] (.er [qM 51 6,qM 52 6,qF 53 28 3,o 54 (.oD 4 32 (.t 53) (.t 52)),o 55 (.nw 16 2 (.t 54) none none none),qM 56 7,o 57 (.Lw 2 (.t 55) (.t 56)),qF 58 156 3,o 59 (.oD 4 1 (.t 58) (.t 51)),qO 1 59 57]))) (.er [qC 60 .add 46 1,qM 46 60]))))))) (qs [qG 61 164 3,qO 164 2 61] .ret))))))
def a27:ay:=⟨1,62,[.cell 2 (some 164)],Oa.code⟩
def X6:bu:=qs [o 2 (.box (.t 0)),o 3 (.box (.t 1)),qY 4 false] (.seq (qs [qF 11 0 2,qL 12 11,qN 13 12,qF 14 0 3,qL 15 14,qN 16 15,qB 17 .neq 13 16,qM 18 17,qFF 19 18 1 2,qLF 20 18 19,qNF 21 18 20,qFF 22 18 1 3,qLF 23 18 22,qNF 24 18 23,qBF 25 18 .neq 21 24,qP 26 18 25,qM 27 26,qFF 28 27 2 2,qLF 29 27 28,qNF 30 27 29,qFF 31 27 2 3,qLF 32 27 31,qNF 33 27 32,qBF 34 27 .neq 30 33,qP 35 27 34,qM 36 35,qFF 37 36 3 2,qLF 38 36 37,qNF 39 36 38,qFF 40 36 3 3,qLF 41 36 40,qNF 42 36 41,qBF 43 36 .neq 39 42,qP 44 36 43] (.cond (.t 44) (qs [qY 4 false] .ret) .skip)) (.seq (qs [qZ 5 0] (.block 0 (.loop [.ob 2 [],.ob 3 [],.pt 2 2 0,.pt 3 3 0,.tr 5] (.seq (qs [qM 45 5,qF 46 0 2,qL 47 46,qN 48 47,qB 49 .lss 45 48] (xE 49 0)) (.seq (.block 1 (.seq (.dz [qF 52 0 2,qL 53 52,qM 54 5,qI 55 1 53 54,qL 56 55,qF 57 0 3,qL 58 57,qM 59 5,qI 60 1 58 59,qL 61 60,qB 62 .neq 56 61] [[],[0],[],[0,1,2],(rg 4),[],[5],[],[5,6,7],[5,6,7,8],(rg 10)] []) (.cond (.t 62) (qs [qY 4 false] .ret) .skip))) (.er [qM 50 5,qC 51 .add 50 1,qM 5 51])))))) (.seq (qs [qZ 6 0] (.block 2 (.loop [.ob 2 [],.ob 3 [],.pt 2 2 0,.pt 3 3 0,.tr 6] (.seq (qs [qM 63 6,qF 64 1 2,qL 65 64,qN 66 65,qB 67 .lss 63 66] (xE 67 2)) (.seq (.block 3 (.seq (.seq (.dz [qF 70 1 2,qL 71 70,qM 72 6,qI 73 1 71 72,qL 74 73,qN 75 74,qF 76 1 3,qL 77 76,qM 78 6,qI 79 1 77 78,qL 80 79,qN 81 80,qB 82 .neq 75 81] [[],[0],[],[0,1,2],(rg 4),(rg 5),[],[6],[],[6,7,8],[6,7,8,9],[6,7,8,9,10],(rg 12)] []) (.cond (.t 82) (qs [qY 4 false] .ret) .skip)) (qs [qZ 7 0] (.block 4 (.loop [.ob 2 [],.ob 3 [],.pt 2 2 0,.pt 3 3 0,.tr 6,.tr 7] (.seq (qs [qM 83 7,qF 84 1 2,qL 85 84,qM 86 6,qI 87 1 85 86,qL 88 87,qN 89 88,qB 90 .lss 83 89] (xE 90 4)) (.seq (.block 5 (.seq (.dz [qF 93 1 2,qL 94 93,qM 95 6,qI 96 1 94 95,qL 97 96,qM 98 7,qI 99 1 97 98,qL 100 99,qF 101 1 3,qL 102 101,qM 103 6,qI 104 1 102 103,qL 105 104,qM 106 7,qI 107 1 105 106,qL 108 107,qB 109 .neq 100 108] [[],[0],[],[0,1,2],(rg 4),[],(rg 6),(rg 7),[],[8],[],[8,9,10],[8,9,10,11],[],[8,9,10,11,12,13],[8,9,10,11,12,13,14],(rg 16)] []) (.cond (.t 109) (qs [qY 4 false] .ret) .skip))) (.er [qM 91 7,qC 92 .add 91 1,qM 7 92])))))))) (.er [qM 68 6,qC 69 .add 68 1,qM 6 69])))))) (.seq (qs [qZ 8 0] (.block 6 (.loop [.ob 2 [],.ob 3 [],.pt 2 2 0,.pt 3 3 0,.tr 8] (.seq (qs [qM 110 8,qF 111 2 2,qL 112 111,qN 113 112,qB 114 .lss 110 113] (xE 114 6)) (.seq (.block 7 (.seq (.seq (.dz [qF 117 2 2,qL 118 117,qM 119 8,qI 120 1 118 119,qL 121 120,qN 122 121,qF 123 2 3,qL 124 123,qM 125 8,qI 126 1 124 125,qL 127 126,qN 128 127,qB 129 .neq 122 128] [[],[0],[],[0,1,2],(rg 4),(rg 5),[],[6],[],[6,7,8],[6,7,8,9],[6,7,8,9,10],(rg 12)] []) (.cond (.t 129) (qs [qY 4 false] .ret) .skip)) (qs [qZ 9 0] (.block 8 (.loop [.ob 2 [],.ob 3 [],.pt 2 2 0,.pt 3 3 0,.tr 8,.tr 9] (.seq (qs [qM 130 9,qF 131 2 2,qL 132 131,qM 133 8,qI 134 1 132 133,qL 135 134,qN 136 135,qB 137 .lss 130 136] (xE 137 8)) (.seq (.block 9 (.seq (.dz [qF 140 2 2,qL 141 140,qM 142 8,qI 143 1 141 142,qL 144 143,qM 145 9,qI 146 2 144 145,qG 147 2 146,qF 148 2 3,qL 149 148,qM 150 8,qI 151 1 149 150,qL 152 151,qM 153 9,qI 154 2 152 153,qG 155 2 154,o 156 (.eq (.agg [.int,.int]) true (.t 147) (.t 155))] [[],[0],[],[0,1,2],(rg 4),[],(rg 6),(rg 7),[],[8],[],[8,9,10],[8,9,10,11],[],[8,9,10,11,12,13],[8,9,10,11,12,13,14],(rg 16)] []) (.cond (.t 156) (qs [qY 4 false] .ret) .skip))) (.er [qM 138 9,qC 139 .add 138 1,qM 9 139])))))))) (.er [qM 115 8,qC 116 .add 115 1,qM 8 116])))))) (.seq (qs [qZ 10 0] (.block 10 (.loop [.ob 2 [],.ob 3 [],.pt 2 2 0,.pt 3 3 0,.tr 10] (.seq (qs [qM 157 10,qF 158 3 2,qL 159 158,qN 160 159,qB 161 .lss 157 160] (xE 161 10)) (.seq (.block 11 (.seq (.dz [qF 164 3 2,qL 165 164,qM 166 10,qI 167 1 165 166,qL 168 167,qF 169 3 3,qL 170 169,qM 171 10,qI 172 1 170 171,qL 173 172,qB 174 .neq 168 173] [[],[0],[],[0,1,2],(rg 4),[],[5],[],[5,6,7],[5,6,7,8],(rg 10)] []) (.cond (.t 174) (qs [qY 4 false] .ret) .skip))) (.er [qM 162 10,qC 163 .add 162 1,qM 10 163])))))) (qs [qY 4 true] .ret))))))
def a28:ay:=⟨2,175,[.tmp 4],X6.code⟩
def X5:bu:=qs [o 1 (.box (.t 0)),o 2 (.alloc [.av,.av,.av,.av])] (.seq (.dz [o 8 (.bx 0 [] []),qF 9 0 1,qL 10 9,qA 11 1 8 8 10,o 12 (.bx 0 [] []),qF 13 3 1,qL 14 13,qA 15 1 8 12 14,o 16 (.build [.av,.av,.av,.av] [(0,1,.t 11),(3,1,.t 15)]),o 3 (.alloc [.av,.av,.av,.av]),qO 4 3 16] [[],[],[1],[0,1,2],[],[],[5],(rg 7),(rg 8),[],(rg 10)] [(3,6)]) (.seq (qs [qZ 4 0] (.block 0 (.loop jJ8 (.seq (qs [qM 17 4,qF 18 1 1,qL 19 18,qN 20 19,qB 21 .lss 17 20] (xE 21 0)) (.seq (.block 1 (.dz [qF 24 1 3,qL 25 24,o 26 (.bx 0 [] []),qF 27 1 1,qL 28 27,qM 29 4,qI 30 1 28 29,qL 31 30,qA 32 1 8 26 31,oZ 33 (.bx 1 [.av] [(0,1,.t 32)]),qA 34 1 24 25 33,qF 35 1 3,qO 1 35 34] [[],[0],[],[],[3],[],[3,4,5],[3,4,5,6],[2,3,4,5,6,7],[2,3,4,5,6,7,8],(rg 10),(rg 11),(rg 12)] [(1,8),(1,9)])) (.er [qM 22 4,qC 23 .add 22 1,qM 4 23])))))) (.seq (qs [qZ 5 0] (.block 2 (.loop jJ9 (.seq (qs [qM 36 5,qF 37 2 1,qL 38 37,qN 39 38,qB 40 .lss 36 39] (xE 40 2)) (.seq (.block 3 (qs [o 6 (.mv (.c (.av)))] (.seq (qs [qZ 7 0] (.block 4 (.loop [.ob 1 [],.ob 2 [(0,1),(1,1),(2,1),(3,1)],.ob 3 [(0,1),(1,1),(2,1),(3,1)],.pt 1 1 0,.pt 2 2 0,.pt 3 3 0,.tr 5,.sl 6 2,.tr 7] (.seq (qs [qM 43 7,qF 44 2 1,qL 45 44,qM 46 5,qI 47 1 45 46,qL 48 47,qN 49 48,qB 50 .lss 43 49] (xE 50 4)) (.seq (.block 5 (.dz [qM 53 6,qF 54 2 1,qL 55 54,qM 56 5,qI 57 1 55 56,qL 58 57,qM 59 7,qI 60 2 58 59,qF 61 0 60,qL 62 61,qF 63 2 1,qL 64 63,qM 65 5,qI 66 1 64 65,qL 67 66,qM 68 7,qI 69 2 67 68,qF 70 1 69,qL 71 70,o 72 (.build [zi,zi] [(0,1,.t 62),(1,1,.t 71)]),o 73 (.bx 1 [zi,zi] [(0,2,.t 72)]),qA 74 2 16 53 73,qM 6 74] [[],[],[1],[],[1,2,3],[1,2,3,4],[],[1,2,3,4,5,6],[1,2,3,4,5,6,7],[1,2,3,4,5,6,7,8],[],[10],[],[10,11,12],[10,11,12,13],[],[10,11,12,13,14,15],[10,11,12,13,14,15,16],[10,11,12,13,14,15,16,17],[1,2,3,4,5,6,7,8,9,10,11,12,13,14,15,16,17,18],[1,2,3,4,5,6,7,8,9,10,11,12,13,14,15,16,17,18,19],(rg 21),(rg 22)] [])) (.er [qM 51 7,qC 52 .add 51 1,qM 7 52])))))) (.er [qF 75 2 3,qL 76 75,qM 77 6,oZ 78 (.bx 1 [.av] [(0,1,.t 77)]),qA 79 1 24 76 78,qF 80 2 3,qO 1 80 79])))) (.er [qM 41 5,qC 42 .add 41 1,qM 5 42])))))) (qs [qG 81 4 3,qO 4 2 81] .ret))))
def a29:ay:=⟨1,82,[.cell 2 (some 4)],X5.code⟩
def Pm:bu:=qs [o 1 (.box (.t 0)),o 2 (.alloc [.av,.av,.av,.av]),qZ 3 0] (.seq (qs [qG 7 3 1,qK 8 53 [7],qU 9 8] (.cond (.t 9) (qs [o 10 (.build [.av,.av,.av,.av] []),qO 4 2 10,qZ 3 1] .ret) .skip)) (.seq (.dz [qF 11 1 1,qL 12 11,qN 13 12,o 14 (.Al 1 8 [zi] (.t 13)),qF 15 0 1,qL 16 15,qN 17 16,o 18 (.Al 1 24 [.av] (.t 17)),qF 19 0 1,qL 20 19,qN 21 20,o 22 (.Al 1 8 [zi] (.t 21)),o 23 (.build [.av,.av,.av,.av] [(0,1,.t 14),(2,1,.t 18),(3,1,.t 22)]),o 4 (.alloc [.av,.av,.av,.av]),qO 4 4 23] [[],[0],[0,1],[0,1,2],[],[4],[4,5],[4,5,6],[],[8],[8,9],[8,9,10],(rg 12),[],(rg 14)] []) (.seq (qs [qF 24 2 1,qL 25 24,qN 26 25,qZ 27 0] (.block 0 (.loop [.ob 2 [(0,1),(1,1),(2,1),(3,1)],.ob 4 [(0,1),(1,1),(2,1),(3,1)],.pt 2 2 0,.pt 4 4 0,.tr 25,.tr 26,.tr 27] (qs [qB 28 .lss 27 26] (.seq (xE 28 0) (.seq (.block 1 (qs [qI 29 1 25 27,qL 30 29,qM 6 30] (.dz [qF 31 1 4,qL 32 31,qM 33 6,o 34 (.Al 1 8 [zi] (.t 33)),oZ 35 (.bx 1 [.av] [(0,1,.t 34)]),qA 36 1 24 32 35,qF 37 1 4,qO 1 37 36] [[],[0],[],[2],[2,3],(rg 5),(rg 6),(rg 7)] [(1,4)]))) (.er [qC 38 .add 27 1,qM 27 38]))))))) (qs [qG 39 4 4,qO 4 2 39,qZ 3 0] .ret))))
def a31:ay:=⟨1,40,[.cell 2 (some 4),.tmp 3],Pm.code⟩
def TT:bu:=qs [o 1 (.box (.t 0)),o 2 (.alloc [.av,.av,.av,.av])] (qs [o 3 (.alloc [.av,.av,.av,.av])] (.seq (qs [qZ 4 0] (.block 0 (.loop jJ8 (.seq (qs [qM 6 4,qF 7 1 1,qL 8 7,qN 9 8,qB 10 .lss 6 9] (xE 10 0)) (.seq (.block 1 (.dz [qF 13 0 3,qL 14 13,o 15 (.bx 1 [zi] [(0,1,(i64 0))]),qA 16 1 8 14 15,qF 17 1 3,qL 18 17,qF 19 2 1,qL 20 19,qM 21 4,qI 22 1 20 21,qL 23 22,o 24 (.Al 1 8 [zi] (.t 23)),oZ 25 (.bx 1 [.av] [(0,1,.t 24)]),qA 26 1 24 18 25,qF 27 0 3,qO 1 27 16,qF 28 1 3,qO 1 28 26] [[],[0],[],[0,1,2],[],[4],[],[6],[],[6,7,8],[6,7,8,9],[6,7,8,9,10],[6,7,8,9,10,11],(rg 13),(rg 6),(rg 15),(rg 16),(rg 17)] [(3,5),(3,7),(3,10),(1,12),(3,12),(5,12)])) (.er [qM 11 4,qC 12 .add 11 1,qM 4 12])))))) (.seq (qs [qZ 5 0] (.block 2 (.loop jJ9 (.seq (qs [qM 29 5,qF 30 0 1,qL 31 30,qN 32 31,qB 33 .lss 29 32] (xE 33 2)) (.seq (.block 3 (.dz [qF 36 2 3,qL 37 36,o 38 (.bx 1 [.av] [(0,1,(.c (.av)))]),qA 39 1 24 37 38,qF 40 3 3,qL 41 40,o 42 (.bx 1 [zi] [(0,1,(i64 0))]),qA 43 1 8 41 42,qF 44 2 3,qO 1 44 39,qF 45 3 3,qO 1 45 43] [[],[0],[],[0,1,2],[],[4],[],(rg 7),(rg 6),(rg 9),(rg 10),(rg 11)] [(3,5)])) (.er [qM 34 5,qC 35 .add 34 1,qM 5 35])))))) (qs [qG 46 4 3,qO 4 2 46] .ret))))
def a32:ay:=⟨1,47,[.cell 2 (some 4)],TT.code⟩
def TS:bu:=qs [o 1 (.box (.t 0)),o 2 (.alloc [.av,.av,.av,.av])] (.seq (.dz [qF 8 0 1,qL 9 8,qK 10 56 [9],qF 11 3 1,qL 12 11,qK 13 56 [12],o 14 (.build [.av,.av,.av,.av] [(0,1,.t 10),(3,1,.t 13)]),o 3 (.alloc [.av,.av,.av,.av]),qO 4 3 14] [[],[0],[0,1],[],[3],(rg 5),(rg 6),[],(rg 8)] []) (.seq (qs [qF 15 1 1,qL 16 15,qN 17 16,qZ 18 0] (.block 0 (.loop [.ob 1 [],.ob 2 [(0,1),(1,1),(2,1),(3,1)],.ob 3 [(1,1),(2,1)],.pt 1 1 0,.pt 2 2 0,.pt 3 3 0,.tr 16,.tr 17,.tr 18] (qs [qB 19 .lss 18 17] (.seq (xE 19 0) (.seq (.block 1 (qs [qI 20 1 16 18,qL 21 20,qM 5 21] (.dz [qF 22 1 3,qL 23 22,qM 24 5,qK 25 56 [24],oZ 26 (.bx 1 [.av] [(0,1,.t 25)]),qA 27 1 24 23 26,qF 28 1 3,qO 1 28 27] [[],[0],[],[2],[2,3],(rg 5),(rg 6),(rg 7)] [(1,4)]))) (.er [qC 29 .add 18 1,qM 18 29]))))))) (.seq (qs [qF 30 2 1,qL 31 30,qN 32 31,qZ 33 0] (.block 2 (.loop [.ob 2 [(0,1),(1,1),(2,1),(3,1)],.ob 3 [(1,1),(2,1)],.pt 2 2 0,.pt 3 3 0,.tr 31,.tr 32,.tr 33] (qs [qB 34 .lss 33 32] (.seq (xE 34 2) (.seq (.block 3 (qs [qI 35 1 31 33,qL 36 35,qM 7 36] (.dz [qF 37 2 3,qL 38 37,qM 39 7,qK 40 57 [39],oZ 41 (.bx 1 [.av] [(0,1,.t 40)]),qA 42 1 24 38 41,qF 43 2 3,qO 1 43 42] [[],[0],[],[2],[2,3],(rg 5),(rg 6),(rg 7)] [(1,4)]))) (.er [qC 44 .add 33 1,qM 33 44]))))))) (qs [qG 45 4 3,qO 4 2 45] .ret))))
def a33:ay:=⟨1,46,[.cell 2 (some 4)],TS.code⟩
def Ls:bu:=qs [o 1 (.box (.t 0)),o 2 (.alloc [zi,zi,zi,.av])] (qs [qF 5 0 1,qL 6 5,qF 7 1 1,qL 8 7,qF 9 2 1,qL 10 9,o 11 (.build [zi,zi,zi,.av] [(0,1,.t 6),(1,1,.t 8),(2,1,.t 10)]),o 3 (.alloc [zi,zi,zi,.av]),qO 4 3 11] (.seq (qs [qZ 4 0] (.block 0 (.loop [.ob 1 [],.ob 2 [(3,4)],.ob 3 [(3,4)],.pt 1 1 0,.pt 2 2 0,.pt 3 3 0,.tr 4] (.seq (qs [qM 12 4,qF 13 3 1,qL 14 13,qN 15 14,qB 16 .lss 12 15] (xE 16 0)) (.seq (.block 1 (.dz [qF 19 3 3,qL 20 19,qF 21 3 1,qL 22 21,qM 23 4,qI 24 4 22 23,qG 25 4 24,qK 26 36 [25],oZ 27 (.bx 1 [zi,zi,zi,.av] [(0,4,.t 26)]),qA 28 4 48 20 27,qF 29 3 3,qO 1 29 28] [[],[0],[],[2],[],[2,3,4],[2,3,4,5],[2,3,4,5,6],[2,3,4,5,6,7],(rg 9),(rg 10),(rg 11)] [(1,8)])) (.er [qM 17 4,qC 18 .add 17 1,qM 4 18])))))) (qs [qG 30 4 3,qO 4 2 30] .ret)))
def a36:ay:=⟨1,31,[.cell 2 (some 4)],Ls.code⟩
def TR:bu:=qs [qZ 2 0] (.seq (qs [qM 3 0] (.block 0 (qs [qC 5 .eql 3 1,qM 4 5] (.cond (.t 4) (qs [qZ 2 2] .ret) (qs [qC 7 .eql 3 2,qM 6 7] (.cond (.t 6) (qs [qZ 2 1] .ret) (qs [qC 9 .eql 3 3,qM 8 9] (.cond (.t 8) (qs [qZ 2 6] .ret) (qs [qC 11 .eql 3 4,qM 10 11] (.cond (.t 10) (qs [qZ 2 5] .ret) (qs [qC 13 .eql 3 5,qM 12 13] (.cond (.t 12) (qs [qZ 2 4] .ret) (qs [qC 15 .eql 3 6,qM 14 15] (.cond (.t 14) (qs [qZ 2 3] .ret) .skip)))))))))))))) (qs [qZ 2 0] .ret))
def a41:ay:=⟨1,16,[.tmp 2],TR.code⟩
def v44:bu:=qs [o 1 (.box (.t 0)),o 2 (.alloc [.av,.av])] (qs [o 3 (.alloc [.av,.av])] (.seq (qs [qZ 4 0] (.block 0 (.loop [.ob 1 [],.ob 2 [(0,6),(1,2)],.ob 3 [(0,6),(1,2)],.pt 1 1 0,.pt 2 2 0,.pt 3 3 0,.tr 4] (.seq (qs [qM 9 4,qF 10 0 1,qL 11 10,qN 12 11,qB 13 .lss 9 12] (xE 13 0)) (.seq (.block 1 (qs [qF 16 0 1,qL 17 16,qM 18 4,qI 19 6 17 18,qG 20 6 19,o 5 (.alloc zL4),qO 6 5 20] (qs [qF 21 0 5,qL 22 21,qF 23 1 5,qL 24 23,qF 25 2 5,qL 26 25,qF 27 3 5,qL 28 27,qF 29 4 5,qL 30 29,o 31 (.build zL4 [(0,1,.t 22),(1,1,.t 24),(2,1,.t 26),(3,1,.t 28),(4,1,.t 30)]),o 6 (.alloc zL4),qO 6 6 31] (.seq (qs [qZ 7 0] (.block 2 (.loop [.ob 1 [],.ob 2 [(0,6),(1,2)],.ob 3 [(0,6),(1,2)],.ob 5 [],.ob 6 [(5,1)],.pt 1 1 0,.pt 2 2 0,.pt 3 3 0,.tr 4,.pt 5 5 0,.pt 6 6 0,.tr 7] (.seq (qs [qM 32 7,qF 33 5 5,qL 34 33,qN 35 34,qB 36 .lss 32 35] (xE 36 2)) (.seq (.block 3 (.dz [qF 39 5 6,qL 40 39,o 41 (.bx 0 [] []),qF 42 5 5,qL 43 42,qM 44 7,qI 45 1 43 44,qL 46 45,qA 47 1 8 41 46,oZ 48 (.bx 1 [.av] [(0,1,.t 47)]),qA 49 1 24 40 48,qF 50 5 6,qO 1 50 49] [[],[0],[],[],[3],[],[3,4,5],[3,4,5,6],[2,3,4,5,6,7],[2,3,4,5,6,7,8],(rg 10),(rg 11),(rg 12)] [(1,8),(1,9)])) (.er [qM 37 7,qC 38 .add 37 1,qM 7 38])))))) (.er [qF 51 0 3,qL 52 51,qG 53 6 6,oZ 54 (.bx 1 zL4 [(0,6,.t 53)]),qA 55 6 64 52 54,qF 56 0 3,qO 1 56 55]))))) (.er [qM 14 4,qC 15 .add 14 1,qM 4 15])))))) (.seq (qs [qZ 8 0] (.block 4 (.loop [.ob 1 [],.ob 2 [(0,6),(1,2)],.ob 3 [(0,6),(1,2)],.pt 1 1 0,.pt 2 2 0,.pt 3 3 0,.tr 8] (.seq (qs [qM 57 8,qF 58 1 1,qL 59 58,qN 60 59,qB 61 .lss 57 60] (xE 61 4)) (.seq (.block 5 (.dz [qF 64 1 3,qL 65 64,qF 66 1 1,qL 67 66,qM 68 8,qI 69 2 67 68,qF 70 0 69,qL 71 70,qF 72 1 1,qL 73 72,qM 74 8,qI 75 2 73 74,qF 76 1 75,qL 77 76,qK 78 64 [77],o 79 (.build [zi,.av] [(0,1,.t 71),(1,1,.t 78)]),oZ 80 (.bx 1 [zi,.av] [(0,2,.t 79)]),qA 81 2 32 65 80,qF 82 1 3,qO 1 82 81] [[],[0],[],[2],[],[2,3,4],[2,3,4,5],[2,3,4,5,6],[],[8],[],[8,9,10],[8,9,10,11],[8,9,10,11,12],[8,9,10,11,12,13],[2,3,4,5,6,7,8,9,10,11,12,13,14],[2,3,4,5,6,7,8,9,10,11,12,13,14,15],(rg 17),(rg 18),(rg 19)] [(1,16)])) (.er [qM 62 8,qC 63 .add 62 1,qM 8 63])))))) (qs [qG 83 2 3,qO 2 2 83] .ret))))
def a44:ay:=⟨1,84,[.cell 2 (some 2)],v44.code⟩
def v45:bu:=qs [o 1 (.box (.t 0)),o 2 (.alloc [.av,.av,.av]),qZ 3 0] (.seq (qs [qG 9 2 1,qK 10 47 [9],qU 11 10] (.cond (.t 11) (qs [o 12 (.build [.av,.av,.av] []),qO 3 2 12,qZ 3 1] .ret) .skip)) (qs [qF 13 0 1,qL 14 13,o 15 (.build [.av,.av,.av] [(0,1,.t 14)]),o 4 (.alloc [.av,.av,.av]),qO 3 4 15] (.seq (qs [qZ 5 0] (.block 0 (.loop [.ob 1 [],.ob 2 [(0,6),(1,3),(2,1)],.ob 4 [(1,3),(2,1)],.pt 1 1 0,.pt 2 2 0,.pt 4 4 0,.tr 5] (.seq (qs [qM 16 5,qF 17 1 1,qL 18 17,qN 19 18,qB 20 .lss 16 19] (xE 20 0)) (.seq (.block 1 (qs [o 23 (.build [zi,.av,.av] [(0,1,(i64 2))]),o 6 (.alloc [zi,.av,.av]),qO 3 6 23] (qs [qF 24 1 1,qL 25 24,qM 26 5,qI 27 2 25 26,qF 28 1 27,qL 29 28,o 30 (.call 65 [.t 6,.t 29,(i64 0),(i64 1)] .share)] (.seq (qs [qF 31 1 6,qL 32 31,qN 33 32,qC 34 .gtr 33 400] (.cond (.t 34) (qs [o 35 (.build [.av,.av,.av] []),qO 3 2 35,qZ 3 10] .ret) .skip)) (.seq (qs [qZ 7 1] (.block 2 (.loop [.ob 1 [],.ob 2 [(0,6),(1,3),(2,1)],.ob 4 [(1,3),(2,1)],.ob 6 [(1,19),(2,1)],.pt 1 1 0,.pt 2 2 0,.pt 4 4 0,.tr 5,.pt 6 6 0,.tr 7] (.seq (qs [qM 36 7,qF 37 2 6,qL 38 37,qN 39 38,qB 40 .lss 36 39] (xE 40 2)) (.seq (.block 3 (qs [qM 43 7,qM 8 43] (.block 4 (.loop [.ob 1 [],.ob 2 [(0,6),(1,3),(2,1)],.ob 4 [(1,3),(2,1)],.ob 6 [(1,19),(2,1)],.pt 1 1 0,.pt 2 2 0,.pt 4 4 0,.tr 5,.pt 6 6 0,.tr 7,.tr 8] (.seq (.seq (.dz [qM 44 8,qC 45 .gtr 44 0,qM 46 45,qFT 47 46 2 6,qLT 48 46 47,qMT 49 46 8,qCT 50 46 .sub 49 1,qIT 51 46 1 48 50,qLT 52 46 51,qFT 53 46 2 6,qLT 54 46 53,qMT 55 46 8,qIT 56 46 1 54 55,qLT 57 46 56,qBT 58 46 .gtr 52 57,qQ 59 46 58] [[],[0],[0,1],[0,1,2],(rg 4),[0,1,2],[0,1,2,5],(rg 7),(rg 8),[0,1,2],[0,1,2,9],[0,1,2],[0,1,2,9,10,11],[0,1,2,9,10,11,12],(rg 14),(rg 15)] []) (xE 59 4)) (.seq (.block 5 (.dz [qF 62 2 6,qL 63 62,qM 64 8,qC 65 .sub 64 1,qF 66 2 6,qL 67 66,qM 68 8,qF 69 2 6,qL 70 69,qM 71 8,qI 72 1 70 71,qL 73 72,qF 74 2 6,qL 75 74,qM 76 8,qC 77 .sub 76 1,qI 78 1 75 77,qL 79 78,qI 80 1 63 65,qO 1 80 73,qI 81 1 67 68,qO 1 81 79] [[],[0],[],[2],[],[4],[],[],[7],[],[7,8,9],[7,8,9,10],[],[12],[],[14],[12,13,14,15],[12,13,14,15,16],[0,1,2,3,4,5,7,8,9,10,11,12,13,14,15,16,17],[0,1,2,3,4,5,7,8,9,10,11,12,13,14,15,16,17,18],(rg 20),(rg 21)] [])) (.er [qM 60 8,qC 61 .sub 60 1,qM 8 61]))))))) (.er [qM 41 7,qC 42 .add 41 1,qM 7 42])))))) (.dz [qF 82 1 4,qL 83 82,qG 84 3 6,oZ 85 (.bx 1 [zi,.av,.av] [(0,3,.t 84)]),qA 86 3 56 83 85,qF 87 2 4,qL 88 87,qF 89 1 1,qL 90 89,qM 91 5,qI 92 2 90 91,qF 93 0 92,qL 94 93,o 95 (.bx 1 [zi] [(0,1,.t 94)]),qA 96 1 8 88 95,qF 97 1 4,qO 1 97 86,qF 98 2 4,qO 1 98 96] [[],[0],[],[2],(rg 4),[],[5],[],[7],[],[7,8,9],[7,8,9,10],[7,8,9,10,11],[7,8,9,10,11,12],(rg 14),(rg 7),(rg 16),(rg 17),(rg 18)] [(1,3),(3,6),(4,6),(3,8),(4,8),(3,12),(4,12)])))))) (.er [qM 21 5,qC 22 .add 21 1,qM 5 22])))))) (qs [qG 99 3 4,qO 3 2 99,qZ 3 0] .ret))))
def a45:ay:=⟨1,100,[.cell 2 (some 3),.tmp 3],v45.code⟩
def v47:bu:=qs [o 1 (.box (.t 0)),qY 2 false] (.seq (qs [qF 10 0 1,qL 11 10,qN 12 11,qC 13 .gtr 12 4,qM 14 13,qFF 15 14 1 1,qLF 16 14 15,qNF 17 14 16,qCF 18 14 .lss 17 1,qP 19 14 18,qM 20 19,qFF 21 20 1 1,qLF 22 20 21,qNF 23 20 22,qCF 24 20 .gtr 23 4,qP 25 20 24] (.cond (.t 25) (qs [qY 2 false] .ret) .skip)) (.seq (qs [qZ 3 0] (.block 0 (.loop [.ob 1 [],.pt 1 1 0,.tr 3] (.seq (qs [qM 26 3,qF 27 0 1,qL 28 27,qN 29 28,qB 30 .lss 26 29] (xE 30 0)) (.seq (.block 1 (qs [qF 33 0 1,qL 34 33,qM 35 3,qI 36 6 34 35,qG 37 6 36,o 4 (.alloc zL4),qO 6 4 37] (.seq (qs [qF 38 0 4,qL 39 38,qC 40 .lss 39 0,qM 41 40,qFF 42 41 0 4,qLF 43 41 42,qCF 44 41 .gtr 43 2,qP 45 41 44,qM 46 45,qFF 47 46 1 4,qLF 48 46 47,qCF 49 46 .lss 48 1,qP 50 46 49,qM 51 50,qFF 52 51 1 4,qLF 53 51 52,qCF 54 51 .gtr 53 16,qP 55 51 54,qM 56 55,qFF 57 56 4 4,qLF 58 56 57,qCF 59 56 .lss 58 1,qP 60 56 59,qM 61 60,qFF 62 61 4 4,qLF 63 61 62,qCF 64 61 .gtr 63 4,qP 65 61 64,qM 66 65,qFF 67 66 2 4,qLF 68 66 67,qCF 69 66 .lss 68 0,qP 70 66 69,qM 71 70,qFF 72 71 2 4,qLF 73 71 72,qFF 74 71 1 1,qLF 75 71 74,qNF 76 71 75,qBF 77 71 .geq 73 76,qP 78 71 77,qM 79 78,qFF 80 79 3 4,qLF 81 79 80,qCF 82 79 .lss 81 0,qP 83 79 82,qM 84 83,qFF 85 84 3 4,qLF 86 84 85,qFF 87 84 1 1,qLF 88 84 87,qNF 89 84 88,qBF 90 84 .geq 86 89,qP 91 84 90,qM 92 91,qFF 93 92 2 4,qLF 94 92 93,qFF 95 92 3 4,qLF 96 92 95,qBF 97 92 .eql 94 96,qP 98 92 97,qM 99 98,qFF 100 99 5 4,qLF 101 99 100,qNF 102 99 101,qCF 103 99 .gtr 102 8,qP 104 99 103] (.cond (.t 104) (qs [qY 2 false] .ret) .skip)) (qs [qZ 5 0] (.seq (qs [qZ 6 0] (.block 2 (.loop [.ob 1 [],.ob 4 [],.pt 1 1 0,.tr 3,.pt 4 4 0,.tr 5,.tr 6] (.seq (qs [qM 105 6,qF 106 5 4,qL 107 106,qN 108 107,qB 109 .lss 105 108] (xE 109 2)) (.seq (.block 3 (.seq (.seq (.dz [qF 112 5 4,qL 113 112,qM 114 6,qI 115 1 113 114,qL 116 115,qN 117 116,qF 118 4 4,qL 119 118,qB 120 .neq 117 119] [[],[0],[],[0,1,2],(rg 4),(rg 5),[],[6],(rg 8)] []) (.cond (.t 120) (qs [qY 2 false] .ret) .skip)) (qs [qZ 7 0] (.block 4 (.loop [.ob 1 [],.ob 4 [],.pt 1 1 0,.tr 3,.pt 4 4 0,.tr 5,.tr 6,.tr 7] (.seq (qs [qM 121 7,qF 122 4 4,qL 123 122,qB 124 .lss 121 123] (xE 124 4)) (.seq (.block 5 (qs [qF 127 5 4,qL 128 127,qM 129 6,qI 130 1 128 129,qL 131 130,qM 132 7,qI 133 1 131 132,qL 134 133,qM 8 134] (.seq (qs [qM 135 8,o 136 (.bin .lss (.t 135) (i64 (-1))),qM 137 136,qMF 138 137 8,qFF 139 137 5 4,qLF 140 137 139,qNF 141 137 140,qBF 142 137 .geq 138 141,qP 143 137 142] (.cond (.t 143) (qs [qY 2 false] .ret) .skip)) (qs [qM 144 8,qC 145 .geq 144 0] (.cond (.t 145) (.er [qM 146 5,qM 147 6,qM 148 8,o 149 (.GL true [.t 146,.t 147,.t 148]),qM 5 149]) .skip))))) (.er [qM 125 7,qC 126 .add 125 1,qM 7 126])))))))) (.er [qM 110 6,qC 111 .add 110 1,qM 6 111])))))) (qs [qF 150 5 4,qL 151 150,qN 152 151,qC 153 .gtr 152 0,qM 154 153,qMT 155 154 5,qFT 156 154 5 4,qLT 157 154 156,qNT 158 154 157,qCT 159 154 .sub 158 1,qBT 160 154 .neq 155 159,qQ 161 154 160] (.cond (.t 161) (qs [qY 2 false] .ret) .skip))))))) (.er [qM 31 3,qC 32 .add 31 1,qM 3 32])))))) (.seq (qs [qZ 9 0] (.block 6 (.loop [.ob 1 [],.pt 1 1 0,.tr 9] (.seq (qs [qM 162 9,qF 163 1 1,qL 164 163,qN 165 164,qB 166 .lss 162 165] (xE 166 6)) (.seq (.block 7 (.seq (.dz [qF 169 1 1,qL 170 169,qM 171 9,qI 172 2 170 171,qF 173 0 172,qL 174 173,qC 175 .lss 174 0,qM 176 175,qFF 177 176 1 1,qLF 178 176 177,qMF 179 176 9,qIF 180 176 2 178 179,qFF 181 176 0 180,qLF 182 176 181,qCF 183 176 .gtr 182 6,qP 184 176 183,qM 185 184,qFF 186 185 1 1,qLF 187 185 186,qMF 188 185 9,qIF 189 185 2 187 188,qFF 190 185 1 189,qLF 191 185 190,qGF 192 185 2 1,qMF 193 185 9,qKF 194 185 66 [191,192,193],qUF 195 185 194,qP 196 185 195] [[],[0],[],[0,1,2],(rg 4),(rg 5),(rg 6),(rg 7),(rg 8),(rg 9),(rg 8),(rg 11),(rg 12),(rg 13),(rg 14),(rg 15),(rg 16),(rg 17),(rg 18),(rg 17),(rg 20),(rg 21),(rg 22),(rg 17),(rg 17),(rg 25),(rg 26),(rg 27)] []) (.cond (.t 196) (qs [qY 2 false] .ret) .skip))) (.er [qM 167 9,qC 168 .add 167 1,qM 9 168])))))) (qs [qY 2 true] .ret))))
def a47:ay:=⟨1,197,[.tmp 2],v47.code⟩
def v48:bu:=qs [qZ 2 0] (.seq (qs [qM 3 0,qC 4 .lss 3 1,qM 5 4,qMF 6 5 0,qCF 7 5 .gtr 6 6,qP 8 5 7] (.cond (.t 8) (qs [qZ 2 0] .ret) .skip)) (qs [o 9 (.bx 6 [zi,zi,zi,zi,zi,zi] [(0,1,(i64 2)),(1,1,(i64 1)),(2,1,(i64 6)),(3,1,(i64 5)),(4,1,(i64 4)),(5,1,(i64 3))]),qM 10 0,qC 11 .sub 10 1,qI 12 1 9 11,qL 13 12,qM 2 13] .ret))
def a48:ay:=⟨1,14,[.tmp 2],v48.code⟩
def v49:bu:=qs [o 1 (.box (.t 0)),o 2 (.alloc [.av,.av]),qZ 3 0] (.seq (qs [qG 21 3 1,qK 22 67 [21],qU 23 22] (.cond (.t 23) (qs [o 24 (.build [.av,.av] []),qO 2 2 24,qZ 3 5] .ret) .skip)) (qs [qG 25 3 1,o 26 (.build [.av,.av,.av,.av,zi,.av,.av,zi] [(0,3,.t 25)]),o 27 (.box (.t 26)),qM 4 27] (qs [o 5 (.alloc [.av,.av])] (.seq (.join jJ5 (qs [qF 28 0 1,qL 29 28,qN 30 29,qC 31 .gtr 30 4] (.cond (.t 31) (.er [qM 32 4,o 33 (.call 68 [.t 32,(i64 10)] .share)]) .skip))) (.seq (qs [qZ 6 0] (.block 0 (.loop [.ob 1 [],.ob 2 [(0,6),(1,2)],.ob 27 [(3,1),(6,1)],.ob 5 [(0,1080038401),(1,2)],.pt 1 1 0,.pt 2 2 0,.pt 4 27 0,.pt 5 5 0,.tr 6] (.seq (qs [qM 34 6,qF 35 0 1,qL 36 35,qN 37 36,qB 38 .lss 34 37,qM 39 38,qMT 40 39 4,qXT 41 39 40,qFT 42 39 7 41,qLT 43 39 42,qCT 44 39 .eql 43 0,qQ 45 39 44] (xE 45 0)) (.seq (.block 1 (qs [qF 48 0 1,qL 49 48,qM 50 6,qI 51 6 49 50,qG 52 6 51,o 7 (.alloc [.str ⟨#[]⟩,zi,zi,.str ⟨#[]⟩,.str ⟨#[]⟩,.av]),qO 6 7 52] (.seq (.join jJ2 (.seq (.dz [qM 53 4,qX 54 53,qF 55 3 54,qL 56 55,qF 57 0 7,qL 58 57,qK 59 69 [56,58],qC 60 .geq 59 0] [[],[0],[0,1],[0,1,2],[],[4],(rg 6),(rg 7)] []) (.cond (.t 60) (.er [qM 61 4,o 62 (.call 68 [.t 61,(i64 7)] .share)]) .skip))) (.seq (.join jJ2 (qs [qF 63 2 7,qL 64 63,qC 65 .lss 64 1,qM 66 65,qFF 67 66 2 7,qLF 68 66 67,qCF 69 66 .gtr 68 16,qP 70 66 69,qM 71 70,qFF 72 71 5 7,qLF 73 71 72,qNF 74 71 73,qCF 75 71 .gtr 74 4,qP 76 71 75] (.cond (.t 76) (.er [qM 77 4,o 78 (.call 68 [.t 77,(i64 10)] .share)]) .skip))) (.seq (.join jJ2 (qs [qF 79 5 7,qL 80 79,qK 81 70 [80]] (.cond (.t 81) (.er [qM 82 4,o 83 (.call 68 [.t 82,(i64 7)] .share)]) .skip))) (.seq (.dz [qM 84 4,qM 85 4,qX 86 85,qF 87 3 86,qL 88 87,qF 89 0 7,qL 90 89,o 91 (.bx 1 [.str ⟨#[]⟩] [(0,1,.t 90)]),qA 92 1 16 88 91,qX 93 84,qF 94 3 93,qO 1 94 92] [[],[],[1],[1,2],[1,2,3],[],[5],[5,6],[1,2,3,4,5,6,7],(rg 9),(rg 10),(rg 11)] []) (.er [qF 95 0 5,qL 96 95,qF 97 1 7,qL 98 97,qF 99 2 7,qL 100 99,qF 101 5 7,qL 102 101,qN 103 102,o 104 (.build zL4 [(0,1,.t 98),(1,1,.t 100),(4,1,.t 103)]),oZ 105 (.bx 1 zL4 [(0,6,.t 104)]),qA 106 6 64 96 105,qF 107 0 5,qO 1 107 106]))))))) (.er [qM 46 6,qC 47 .add 46 1,qM 6 47])))))) (.seq (.join jJ5 (qs [qF 108 2 1,qL 109 108,qN 110 109,qC 111 .lss 110 1,qM 112 111,qFF 113 112 2 1,qLF 114 112 113,qNF 115 112 114,qCF 116 112 .gtr 115 4,qP 117 112 116] (.cond (.t 117) (.er [qM 118 4,o 119 (.call 68 [.t 118,(i64 10)] .share)]) .skip))) (.seq (qs [qZ 8 0] (.block 2 (.loop [.ob 1 [],.ob 2 [(0,6),(1,2)],.ob 27 [(3,1),(6,1)],.ob 5 [(0,1080038401),(1,2)],.pt 1 1 0,.pt 2 2 0,.pt 4 27 0,.pt 5 5 0,.tr 8] (.seq (qs [qM 120 8,qF 121 2 1,qL 122 121,qN 123 122,qB 124 .lss 120 123,qM 125 124,qMT 126 125 4,qXT 127 125 126,qFT 128 125 7 127,qLT 129 125 128,qCT 130 125 .eql 129 0,qQ 131 125 130] (xE 131 2)) (.seq (.block 3 (.dz [qM 134 4,qM 135 4,qX 136 135,qF 137 6 136,qL 138 137,qF 139 2 1,qL 140 139,qM 141 8,qI 142 3 140 141,qF 143 0 142,qL 144 143,o 145 (.bx 1 [.str ⟨#[]⟩] [(0,1,.t 144)]),qA 146 1 16 138 145,qX 147 134,qF 148 6 147,qO 1 148 146] [[],[],[1],[1,2],[1,2,3],[],[5],[],[5,6,7],[5,6,7,8],[5,6,7,8,9],[5,6,7,8,9,10],[1,2,3,4,5,6,7,8,9,10,11],(rg 13),(rg 14),(rg 15)] [])) (.er [qM 132 8,qC 133 .add 132 1,qM 8 133])))))) (.seq (.join jJ5 (qs [qM 149 4,qX 150 149,qF 151 6 150,qL 152 151,qK 153 70 [152]] (.cond (.t 153) (.er [qM 154 4,o 155 (.call 68 [.t 154,(i64 7)] .share)]) .skip))) (.seq (qs [qZ 9 0] (.block 4 (.loop jJ4 (.seq (qs [qM 156 9,qF 157 0 1,qL 158 157,qN 159 158,qB 160 .lss 156 159,qM 161 160,qMT 162 161 4,qXT 163 161 162,qFT 164 161 7 163,qLT 165 161 164,qCT 166 161 .eql 165 0,qQ 167 161 166] (xE 167 4)) (.seq (.block 5 (.seq (.join jJ4 (.dz [qF 170 0 5,qL 171 170,qM 172 9,qM 173 4,qM 174 4,qX 175 174,qF 176 6 175,qL 177 176,qF 178 0 1,qL 179 178,qM 180 9,qI 181 6 179 180,qF 182 3 181,qL 183 182,o 184 (.call 71 [.t 173,.t 177,.t 183] .share),qI 185 6 171 172,qF 186 2 185,qO 1 186 184] [[],[0],[],[],[],[4],[4,5],[4,5,6],[],[8],[],[8,9,10],[8,9,10,11],[8,9,10,11,12],[3,4,5,6,7,8,9,10,11,12,13],(rg 15),(rg 16),(rg 17)] [(1,14)])) (.seq (.join jJ4 (.dz [qF 187 0 5,qL 188 187,qM 189 9,qM 190 4,qM 191 4,qX 192 191,qF 193 6 192,qL 194 193,qF 195 0 1,qL 196 195,qM 197 9,qI 198 6 196 197,qF 199 4 198,qL 200 199,o 201 (.call 71 [.t 190,.t 194,.t 200] .share),qI 202 6 188 189,qF 203 3 202,qO 1 203 201] [[],[0],[],[],[],[4],[4,5],[4,5,6],[],[8],[],[8,9,10],[8,9,10,11],[8,9,10,11,12],[3,4,5,6,7,8,9,10,11,12,13],(rg 15),(rg 16),(rg 17)] [(1,14)])) (.seq (.dz [qF 204 0 5,qL 205 204,qM 206 9,qI 207 6 205 206,qF 208 2 207,qL 209 208,qF 210 0 5,qL 211 210,qM 212 9,qI 213 6 211 212,qF 214 3 213,qL 215 214,qB 216 .eql 209 215] [[],[0],[],[0,1,2],(rg 4),(rg 5),[],[6],[],[6,7,8],[6,7,8,9],[6,7,8,9,10],(rg 12)] []) (.cond (.t 216) (.er [qM 217 4,o 218 (.call 68 [.t 217,(i64 9)] .share)]) .skip))))) (.er [qM 168 9,qC 169 .add 168 1,qM 9 169])))))) (.seq (qs [qZ 10 0] (.block 6 (.loop [.ob 1 [],.ob 2 [(0,6),(1,2)],.ob 27 [(3,1),(6,1)],.ob 5 [(0,1080038401),(1,2)],.pt 1 1 0,.pt 2 2 0,.pt 4 27 0,.pt 5 5 0,.tr 10] (.seq (qs [qM 219 10,qF 220 1 1,qL 221 220,qN 222 221,qB 223 .lss 219 222,qM 224 223,qMT 225 224 4,qXT 226 224 225,qFT 227 224 7 226,qLT 228 224 227,qCT 229 224 .eql 228 0,qQ 230 224 229] (xE 230 6)) (.seq (.block 7 (.seq (.join jJ7 (.dz [qM 233 4,qM 234 4,qX 235 234,qF 236 3 235,qL 237 236,qF 238 1 1,qL 239 238,qM 240 10,qI 241 2 239 240,qF 242 0 241,qL 243 242,o 244 (.call 71 [.t 233,.t 237,.t 243] .share),qM 11 244] [[],[],[1],[1,2],[1,2,3],[],[5],[],[5,6,7],[5,6,7,8],[5,6,7,8,9],(rg 11),(rg 12)] [])) (.seq (.join jJ7 (qs [qM 245 4,qX 246 245,qF 247 7 246,qL 248 247,qC 249 .eql 248 0,qM 250 249,qFT 251 250 0 5,qLT 252 250 251,qMT 253 250 11,qIT 254 250 6 252 253,qFT 255 250 5 254,qLT 256 250 255,qNT 257 250 256,qCT 258 250 .gtr 257 0,qQ 259 250 258] (.cond (.t 259) (.er [qM 260 4,o 261 (.call 68 [.t 260,(i64 7)] .share)]) .skip))) (.seq (qs [qM 262 4,qX 263 262,qF 264 7 263,qL 265 264,qC 266 .neq 265 0] (.cond (.t 266) (.exit 6) .skip)) (qs [qZ 12 0] (qs [o 13 (.alloc (List.replicate 32 (zi)))] (.seq (qs [qZ 14 0] (.block 8 (.loop [.ob 1 [],.ob 2 [(0,6),(1,2)],.ob 27 [(3,1),(6,1)],.ob 5 [(0,1080038401),(1,2)],.ob 13 [],.pt 1 1 0,.pt 2 2 0,.pt 4 27 0,.pt 5 5 0,.tr 10,.tr 11,.tr 12,.pt 13 13 0,.tr 14] (.seq (qs [qM 267 14,qF 268 1 1,qL 269 268,qM 270 10,qI 271 2 269 270,qF 272 1 271,qL 273 272,qN 274 273,qB 275 .lss 267 274,qM 276 275,qMT 277 276 4,qXT 278 276 277,qFT 279 276 7 278,qLT 280 276 279,qCT 281 276 .eql 280 0,qQ 282 276 281] (xE 282 8)) (.seq (.block 9 (qs [qF 285 1 1,qL 286 285,qM 287 10,qI 288 2 286 287,qF 289 1 288,qL 290 289,qM 291 14,qI 292 3 290 291,qG 293 3 292,o 15 (.alloc [zi,.str ⟨#[]⟩,zi]),qO 3 15 293] (.seq (.join jJ1 (.dz [qM 294 4,qF 295 0 1,qL 296 295,qM 297 11,qI 298 6 296 297,qF 299 5 298,qL 300 299,qF 301 1 15,qL 302 301,o 303 (.call 71 [.t 294,.t 300,.t 302] .share),qM 16 303] [[],[],[1],[],[1,2,3],[1,2,3,4],[1,2,3,4,5],[],[7],(rg 9),(rg 10)] [])) (.seq (.join jJ1 (qs [qF 304 0 15,qL 305 304,qC 306 .gtr 305 7,qM 307 306,qFF 308 307 2 15,qLF 309 307 308,qCF 310 307 .gtr 309 7,qP 311 307 310] (.cond (.t 311) (.er [qM 312 4,o 313 (.call 68 [.t 312,(i64 11)] .share)]) .skip))) (.seq (.join jJ1 (qs [qM 314 4,qX 315 314,qF 316 7 315,qL 317 316,qC 318 .eql 317 0,qM 319 318,qFT 320 319 0 15,qLT 321 319 320,qMT 322 319 16,oT 323 319 (.oD 8 4 (.t 13) (.t 321)),oT 324 319 (.oD 4 1 (.t 323) (.t 322)),qLT 325 319 324,qCT 326 319 .gtr 325 0,qQ 327 319 326] (.cond (.t 327) (.er [qM 328 4,o 329 (.call 68 [.t 328,(i64 7)] .share)]) .skip))) (qs [qM 330 4,qX 331 330,qF 332 7 331,qL 333 332,qC 334 .eql 333 0] (.cond (.t 334) (.seq (.dz [qF 335 0 15,qL 336 335,qM 337 16,qF 338 2 15,qL 339 338,qC 340 .add 339 1,o 341 (.oD 8 4 (.t 13) (.t 336)),o 342 (.oD 4 1 (.t 341) (.t 337)),qO 1 342 340] [[],[0],[],[],[3],[3,4],[0,1],(rg 7),(rg 8)] []) (.er [qM 343 12,qF 344 0 15,qL 345 344,qF 346 2 15,qL 347 346,o 348 (.GL true [.t 343,.t 345,.t 347]),qM 12 348])) .skip))))))) (.er [qM 283 14,qC 284 .add 283 1,qM 14 284])))))) (qs [qZ 17 0] (.block 10 (.loop [.ob 1 [],.ob 2 [(0,6),(1,2)],.ob 27 [(3,1),(6,1)],.ob 5 [(0,1080038401),(1,2)],.ob 13 [],.pt 1 1 0,.pt 2 2 0,.pt 4 27 0,.pt 5 5 0,.tr 10,.tr 11,.tr 12,.pt 13 13 0,.tr 17] (.seq (qs [qM 349 17,qM 350 12,qB 351 .leq 349 350] (xE 351 10)) (.seq (.block 11 (qs [o 18 (.mv (.c (.av)))] (.seq (qs [qZ 19 0] (.block 12 (.loop [.ob 1 [],.ob 2 [(0,6),(1,2)],.ob 27 [(3,1),(6,1)],.ob 5 [(0,1080038401),(1,2)],.ob 13 [],.pt 1 1 0,.pt 2 2 0,.pt 4 27 0,.pt 5 5 0,.tr 10,.tr 11,.tr 12,.pt 13 13 0,.tr 17,.sl 18 1,.tr 19] (.seq (qs [qM 354 19,qF 355 0 5,qL 356 355,qM 357 11,qI 358 6 356 357,qF 359 4 358,qL 360 359,qB 361 .lss 354 360] (xE 361 12)) (.seq (.block 13 (.er [qM 364 18,qM 365 17,qM 366 19,o 367 (.oD 8 4 (.t 13) (.t 365)),o 368 (.oD 4 1 (.t 367) (.t 366)),qL 369 368,qC 370 .sub 369 1,o 371 (.bx 1 [zi] [(0,1,.t 370)]),qA 372 1 8 364 371,qM 18 372])) (.er [qM 362 19,qC 363 .add 362 1,qM 19 363])))))) (.dz [qF 373 0 5,qL 374 373,qM 375 11,qF 376 0 5,qL 377 376,qM 378 11,qI 379 6 377 378,qF 380 5 379,qL 381 380,qM 382 18,oZ 383 (.bx 1 [.av] [(0,1,.t 382)]),qA 384 1 24 381 383,qI 385 6 374 375,qF 386 5 385,qO 1 386 384] [[],[0],[],[],[3],[],[3,4,5],[3,4,5,6],[3,4,5,6,7],[],[9],[3,4,5,6,7,8,9,10],(rg 12),(rg 13),(rg 14)] [(1,10),(4,10),(8,10),(1,11)])))) (.er [qM 352 17,qC 353 .add 352 1,qM 17 353]))))))))))))) (.er [qM 231 10,qC 232 .add 231 1,qM 10 232])))))) (.seq (qs [qZ 20 0] (.block 14 (.loop jJ3 (.seq (qs [qM 387 20,qF 388 2 1,qL 389 388,qN 390 389,qB 391 .lss 387 390,qM 392 391,qMT 393 392 4,qXT 394 392 393,qFT 395 392 7 394,qLT 396 392 395,qCT 397 392 .eql 396 0,qQ 398 392 397] (xE 398 14)) (.seq (.block 15 (.seq (.join jJ3 (qs [qF 401 2 1,qL 402 401,qM 403 20,qI 404 3 402 403,qF 405 1 404,qL 406 405,qN 407 406,qC 408 .gtr 407 6] (.cond (.t 408) (.er [qM 409 4,o 410 (.call 68 [.t 409,(i64 10)] .share)]) .skip))) (.seq (.join jJ3 (qs [qF 411 2 1,qL 412 411,qM 413 20,qI 414 3 412 413,qF 415 1 414,qL 416 415,qK 417 70 [416]] (.cond (.t 417) (.er [qM 418 4,o 419 (.call 68 [.t 418,(i64 7)] .share)]) .skip))) (qs [qM 420 4,qM 421 4,qM 422 20,qF 423 2 1,qL 424 423,qM 425 20,qI 426 3 424 425,qF 427 1 426,qL 428 427,qX 429 420,qF 430 4 429,qO 1 430 422,qX 431 421,qF 432 5 431,qO 1 432 428] (.dz [qF 433 1 5,qL 434 433,qM 435 4,qX 436 435,qF 437 5 436,qL 438 437,qN 439 438,qM 440 4,qF 441 2 1,qL 442 441,qM 443 20,qI 444 3 442 443,qF 445 2 444,qL 446 445,o 447 (.call 72 [.t 440,.t 446] .share),o 448 (.build [zi,.av] [(0,1,.t 439),(1,1,.t 447)]),oZ 449 (.bx 1 [zi,.av] [(0,2,.t 448)]),qA 450 2 32 434 449,qF 451 1 5,qO 1 451 450] [[],[0],[],[2],[2,3],[2,3,4],[2,3,4,5],[],[],[8],[],[8,9,10],[8,9,10,11],[8,9,10,11,12],[7,8,9,10,11,12,13],[2,3,4,5,6,7,8,9,10,11,12,13,14],[2,3,4,5,6,7,8,9,10,11,12,13,14,15],(rg 17),(rg 18),(rg 19)] [(1,14),(5,14),(1,16)]))))) (.er [qM 399 20,qC 400 .add 399 1,qM 20 400])))))) (.seq (qs [qM 452 4,qX 453 452,qF 454 7 453,qL 455 454,qC 456 .neq 455 0] (.cond (.t 456) (.seq (.dz [o 457 (.build [.av,.av] []),qM 458 4,qX 459 458,qF 460 7 459,qL 461 460,qO 2 2 457,qM 3 461] [[],[],[1],[1,2],[1,2,3],[0],(rg 6)] [(4,5)]) .ret) .skip)) (qs [qG 462 2 5,qO 2 2 462,qZ 3 0] .ret)))))))))))))
def a49:ay:=⟨1,463,[.cell 2 (some 2),.tmp 3],v49.code⟩
def v50:bu:=qs [o 2 (.box (.t 0)),o 4 (.mv (.c (.av)))] (qs [o 5 (.mv (.c (.av)))] (.seq (qs [qF 8 1 2,qL 9 8,qN 10 9,qZ 11 0] (.block 0 (.loop [.tr 1,.sl 5 1,.tr 9,.tr 10,.tr 11] (qs [qB 12 .lss 11 10] (.seq (xE 12 0) (.seq (.block 1 (qs [qM 13 11,qI 14 19 9 11,qG 15 19 14,o 7 (.alloc zL2),qM 6 13,qO 19 7 15] (qs [qF 16 0 7,qL 17 16,qM 18 1,qB 19 .eql 17 18] (.cond (.t 19) (.er [qM 20 5,qM 21 6,o 22 (.bx 1 [zi] [(0,1,.t 21)]),qA 23 1 8 20 22,qM 5 23]) .skip)))) (.er [qC 24 .add 11 1,qM 11 24]))))))) (qs [qM 25 5,qM 4 25] .ret)))
def a50:ay:=⟨2,26,[.tmp 4],v50.code⟩
def v53:bu:=qs [o 1 (.box (.t 0)),qY 2 false] (qs [qG 6 3 1,qK 7 74 [6],o 3 (.alloc [.av,.av]),qO 2 3 7] (.seq (qs [qF 8 1 1,qL 9 8,qN 10 9,qF 11 2 1,qL 12 11,qN 13 12,qB 14 .neq 10 13,qM 15 14,qGF 16 15 2 3,qKF 17 15 60 [16],qUF 18 15 17,qP 19 15 18] (.cond (.t 19) (qs [qY 2 false] .ret) .skip)) (.seq (qs [qF 20 1 1,qL 21 20,qN 22 21,qZ 23 0] (.block 0 (.loop [.ob 3 [],.pt 3 3 0,.tr 21,.tr 22,.tr 23] (qs [qB 24 .lss 23 22] (.seq (xE 24 0) (.seq (.block 1 (qs [qM 25 23,qI 26 3 21 23,qG 27 3 26,o 5 (.alloc [zi,.av,.av]),qM 4 25,qO 3 5 27] (qs [qG 28 2 3,qM 29 4,qG 30 3 5,qK 31 75 [28,29,30],qU 32 31] (.cond (.t 32) (qs [qY 2 false] .ret) .skip)))) (.er [qC 33 .add 23 1,qM 23 33]))))))) (qs [qY 2 true] .ret))))
def a53:ay:=⟨1,34,[.tmp 2],v53.code⟩
def v54:bu:=qs [o 2 (.box (.t 0)),o 3 (.box (.t 1)),qY 4 false] (.seq (qs [qG 11 3 2,qG 12 4 3,qK 13 76 [11,12],qU 14 13] (.cond (.t 14) (qs [qY 4 false] .ret) .skip)) (.seq (qs [qF 15 1 2,qL 16 15,qN 17 16,qZ 18 0] (.block 0 (.loop [.ob 2 [],.ob 3 [],.pt 2 2 0,.pt 3 3 0,.tr 16,.tr 17,.tr 18] (qs [qB 19 .lss 18 17] (.seq (xE 19 0) (.seq (.block 1 (qs [qM 20 18,qI 21 3 16 18,qG 22 3 21,o 6 (.alloc [zi,.av,.av]),qM 5 20,qO 3 6 22] (.seq (.seq (.dz [qF 23 0 3,qL 24 23,qM 25 5,qI 26 1 24 25,qL 27 26,qF 28 0 6,qL 29 28,qK 30 77 [27,29],qU 31 30,qM 32 31,qFF 33 32 1 3,qLF 34 32 33,qMF 35 32 5,qIF 36 32 1 34 35,qLF 37 32 36,qNF 38 32 37,qFF 39 32 2 2,qLF 40 32 39,qMF 41 32 5,qIF 42 32 1 40 41,qLF 43 32 42,qBF 44 32 .neq 38 43,qP 45 32 44] [[],[0],[],[0,1,2],(rg 4),[],[5],(rg 7),(rg 8),(rg 9),(rg 10),(rg 11),(rg 10),(rg 13),(rg 14),(rg 15),(rg 10),[0,1,2,3,4,5,6,7,8,9,16],(rg 10),[0,1,2,3,4,5,6,7,8,9,16,17,18],[0,1,2,3,4,5,6,7,8,9,16,17,18,19],(rg 21),(rg 22)] []) (.cond (.t 45) (qs [qY 4 false] .ret) .skip)) (qs [qF 46 1 3,qL 47 46,qM 48 5,qI 49 1 47 48,qL 50 49,qN 51 50,qZ 52 0] (.block 2 (.loop [.ob 2 [],.ob 3 [],.pt 2 2 0,.pt 3 3 0,.tr 16,.tr 17,.tr 18,.tr 50,.tr 51,.tr 52] (qs [qB 53 .lss 52 51] (.seq (xE 53 2) (.seq (.block 3 (qs [qI 54 1 50 52,qL 55 54,qM 8 55] (qs [qM 56 8,qK 57 78 [56],qU 58 57] (.cond (.t 58) (qs [qY 4 false] .ret) .skip)))) (.er [qC 59 .add 52 1,qM 52 59])))))))))) (.er [qC 60 .add 18 1,qM 18 60]))))))) (.seq (qs [qF 61 0 2,qL 62 61,qN 63 62,qZ 64 0] (.block 4 (.loop [.ob 3 [],.pt 3 3 0,.tr 62,.tr 63,.tr 64] (qs [qB 65 .lss 64 63] (.seq (xE 65 4) (.seq (.block 5 (qs [qM 66 64,qI 67 6 62 64,qG 68 6 67,o 10 (.alloc zL4),qM 9 66,qO 6 10 68] (.seq (.dz [qG 69 6 10,qF 70 2 3,qL 71 70,qM 72 9,qI 73 1 71 72,qL 74 73,qK 75 79 [69,74],qU 76 75,qM 77 76,qFF 78 77 3 3,qLF 79 77 78,qMF 80 77 9,qIF 81 77 1 79 80,qLF 82 77 81,qFF 83 77 5 10,qLF 84 77 83,qNF 85 77 84,oF 86 77 (.GL true [.t 85,(i64 1)]),qKF 87 77 77 [82,86],qUF 88 77 87,qP 89 77 88] [[],[],[1],[],[1,2,3],[1,2,3,4],(rg 6),(rg 7),(rg 8),(rg 9),(rg 10),(rg 9),(rg 12),(rg 13),(rg 9),[0,1,2,3,4,5,6,7,8,14],[0,1,2,3,4,5,6,7,8,14,15],[0,1,2,3,4,5,6,7,8,14,15,16],(rg 18),(rg 19),(rg 20)] []) (.cond (.t 89) (qs [qY 4 false] .ret) .skip)))) (.er [qC 90 .add 64 1,qM 64 90]))))))) (qs [qY 4 true] .ret))))
def a54:ay:=⟨2,91,[.tmp 4],v54.code⟩
def v56:bu:=qs [o 2 (.mv (.c (.av)))] (.seq (qs [qM 3 0,o 4 (.eq .slice false (.t 3) (.c (.av)))] (.cond (.t 4) (qs [o 2 (.mv (.c (.av)))] .ret) .skip)) (qs [o 5 (.bx 0 [] []),qM 6 0,qA 7 1 8 5 6,qM 2 7] .ret))
def Z8:ay:=⟨1,8,[.tmp 2],v56.code⟩
def v57:bu:=qs [o 2 (.mv (.c (.av)))] (.seq (qs [qM 3 0,o 4 (.eq .slice false (.t 3) (.c (.av)))] (.cond (.t 4) (qs [o 2 (.mv (.c (.av)))] .ret) .skip)) (qs [o 5 (.bx 0 [] []),qM 6 0,qA 7 2 16 5 6,qM 2 7] .ret))
def Z7:ay:=⟨1,8,[.tmp 2],v57.code⟩
def N_:bu:=qs [o 1 (.box (.t 0)),qY 2 false] (.seq (qs [qF 7 0 1,qL 8 7,qN 9 8,qC 10 .gtr 9 4,qM 11 10,qFF 12 11 1 1,qLF 13 11 12,qNF 14 11 13,oF 15 11 (.call 81 [.t 14,(i64 1),(i64 4)] .borrow),qUF 16 11 15,qP 17 11 16] (.cond (.t 17) (qs [qY 2 false] .ret) .skip)) (.seq (qs [qF 18 0 1,qL 19 18,qN 20 19,qZ 21 0] (.block 0 (.loop [.ob 1 [],.pt 1 1 0,.tr 19,.tr 20,.tr 21] (qs [qB 22 .lss 21 20] (.seq (xE 22 0) (.seq (.block 1 (qs [qI 23 6 19 21,qG 24 6 23,o 4 (.alloc zL4),qO 6 4 24] (qs [qG 25 6 4,qF 26 1 1,qL 27 26,qN 28 27,qK 29 82 [25,28],qU 30 29] (.cond (.t 30) (qs [qY 2 false] .ret) .skip)))) (.er [qC 31 .add 21 1,qM 21 31]))))))) (.seq (qs [qF 32 1 1,qL 33 32,qN 34 33,qZ 35 0] (.block 2 (.loop [.ob 1 [],.pt 1 1 0,.tr 33,.tr 34,.tr 35] (qs [qB 36 .lss 35 34] (.seq (xE 36 2) (.seq (.block 3 (qs [qM 37 35,qI 38 2 33 35,qG 39 2 38,o 6 (.alloc [zi,.av]),qM 5 37,qO 2 6 39] (qs [qF 40 0 6,qL 41 40,o 42 (.call 81 [.t 41,(i64 0),(i64 6)] .borrow),qU 43 42,qM 44 43,qGF 45 44 2 1,qMF 46 44 5,qFF 47 44 0 6,qLF 48 44 47,oF 49 44 (.build [.av,.av,zi,zi] [(0,2,.t 45),(2,1,.t 46),(3,1,.t 48)]),qFF 50 44 1 6,qLF 51 44 50,qKF 52 44 83 [49,51],qUF 53 44 52,qP 54 44 53] (.cond (.t 54) (qs [qY 2 false] .ret) .skip)))) (.er [qC 55 .add 35 1,qM 35 55]))))))) (qs [qY 2 true] .ret))))
def a60:ay:=⟨1,56,[.tmp 2],N_.code⟩
def v64:bu:=qs [o 2 (.mv (.c (.av)))] (qs [o 3 (.mv (.c (.av)))] (.seq (qs [qZ 4 0] (.block 0 (.loop [.tr 0,.sl 3 20,.tr 4] (.seq (qs [qM 8 4,qM 9 0,qN 10 9,qB 11 .lss 8 10] (xE 11 0)) (.seq (.block 1 (qs [qM 14 0,qM 15 4,qI 16 20 14 15,qG 17 20 16,o 5 (.alloc zL1),qO 20 5 17] (.seq (.dz [qF 18 0 5,qL 19 18,qF 20 1 5,qL 21 20,qF 22 2 5,qL 23 22,qF 24 3 5,qL 25 24,qF 26 4 5,qG 27 4 26,qK 28 36 [27],qF 29 8 5,qF 30 0 29,qL 31 30,qF 32 8 5,qF 33 1 32,qG 34 4 33,qK 35 36 [34],qF 36 8 5,qF 37 5 36,qG 38 4 37,qK 39 36 [38],o 40 (.build zL3 [(0,1,.t 31),(1,4,.t 35),(5,4,.t 39)]),qF 41 17 5,qL 42 41,qK 43 64 [42],qF 44 18 5,qL 45 44,qK 46 64 [45],o 47 (.build zL1 [(0,1,.t 19),(1,1,.t 21),(2,1,.t 23),(3,1,.t 25),(4,4,.t 28),(8,9,.t 40),(17,1,.t 43),(18,1,.t 46)]),o 6 (.alloc zL1),qO 20 6 47] [[],[0],[],[2],[],[4],[],[6],[],[8],[8,9],[],[11],[11,12],[],[14],[14,15],[8,9,10,14,15,16],[],[18],[18,19],[8,9,10,14,15,16,17,18,19,20],[8,9,10,11,12,13,14,15,16,17,18,19,20,21],[],[23],[8,9,10,14,15,16,17,18,19,20,21,23,24],[],[26],[8,9,10,14,15,16,17,18,19,20,21,23,24,25,26,27],(rg 29),[],(rg 31)] []) (.seq (qs [qZ 7 0] (.block 2 (.loop [.ob 5 [],.ob 6 [(19,3)],.tr 0,.sl 3 20,.tr 4,.pt 5 5 0,.pt 6 6 0,.tr 7] (.seq (qs [qM 48 7,qF 49 19 5,qL 50 49,qN 51 50,qB 52 .lss 48 51] (xE 52 2)) (.seq (.block 3 (.dz [qF 55 19 6,qL 56 55,qF 57 19 5,qL 58 57,qM 59 7,qI 60 3 58 59,qF 61 0 60,qL 62 61,qF 63 19 5,qL 64 63,qM 65 7,qI 66 3 64 65,qF 67 1 66,qL 68 67,qF 69 19 5,qL 70 69,qM 71 7,qI 72 3 70 71,qF 73 2 72,qL 74 73,qK 75 64 [74],o 76 (.build [zi,zi,.av] [(0,1,.t 62),(1,1,.t 68),(2,1,.t 75)]),oZ 77 (.bx 1 [zi,zi,.av] [(0,3,.t 76)]),qA 78 3 40 56 77,qF 79 19 6,qO 1 79 78] [[],[0],[],[2],[],[2,3,4],[2,3,4,5],[2,3,4,5,6],[],[8],[],[8,9,10],[8,9,10,11],[8,9,10,11,12],[],[14],[],[14,15,16],[14,15,16,17],[14,15,16,17,18],[14,15,16,17,18,19],[2,3,4,5,6,7,8,9,10,11,12,13,14,15,16,17,18,19,20],[2,3,4,5,6,7,8,9,10,11,12,13,14,15,16,17,18,19,20,21],(rg 23),(rg 24),(rg 25)] [(1,22)])) (.er [qM 53 7,qC 54 .add 53 1,qM 7 54])))))) (.er [qM 80 3,qG 81 20 6,oZ 82 (.bx 1 zL1 [(0,20,.t 81)]),qA 83 20 256 80 82,qM 3 83]))))) (.er [qM 12 4,qC 13 .add 12 1,qM 4 13])))))) (qs [qM 84 3,qM 2 84] .ret)))
def a64:ay:=⟨1,85,[.tmp 2],v64.code⟩
def v65:bu:=.seq (qs [qM 10 1,qN 11 10,qC 12 .eql 11 0] (.cond (.t 12) (.er [qM 13 0,qM 14 0,qX 15 14,qF 16 1 15,qL 17 16,qM 18 2,qM 19 3,o 20 (.build zL2 [(0,1,.t 18),(1,1,.t 19)]),oZ 21 (.bx 1 zL2 [(0,19,.t 20)]),qA 22 19 200 17 21,qX 23 13,qF 24 1 23,qO 1 24 22]) .skip)) (qs [qZ 8 0] (.block 0 (.loop [.ob 0 [(1,19),(2,1)],.pt 0 0 0,.tr 1,.tr 2,.tr 3,.tr 8] (.seq (qs [qM 25 8,qM 26 1,qN 27 26,qB 28 .lss 25 27] (xE 28 0)) (.seq (.block 1 (qs [qM 31 3,qM 9 31] (.seq (qs [qM 32 8,qM 33 1,qN 34 33,qC 35 .sub 34 1,qB 36 .lss 32 35] (.cond (.t 36) (.er [qM 37 0,o 38 (.call 89 [.t 37] .share),qM 9 38]) .skip)) (qs [qM 39 0,qM 40 1,qM 41 8,qI 42 20 40 41,qG 43 20 42,qM 44 2,qM 45 9,o 46 (.call 90 [.t 39,.t 43,.t 44,.t 45] .share)] (.er [qM 47 9,qM 2 47]))))) (.er [qM 29 8,qC 30 .add 29 1,qM 8 30]))))))
def a65:ay:=⟨4,48,[],v65.code⟩
def v66:bu:=qs [o 4 (.box (.t 1)),qY 6 false] (.seq (qs [qZ 7 0] (.block 0 (.loop [.ob 4 [],.tr 0,.tr 2,.pt 4 4 0,.tr 7] (.seq (qs [qM 8 7,qM 9 0,qN 10 9,qB 11 .lss 8 10] (xE 11 0)) (.seq (.block 1 (.seq (.dz [qM 14 0,qM 15 7,qI 16 20 14 15,qG 17 20 16,qG 18 2 4,qM 19 2,qK 20 91 [17,18,19],qU 21 20] [[],[],[0,1],[0,1,2],[],[],(rg 6),(rg 7)] []) (.cond (.t 21) (qs [qY 6 false] .ret) .skip))) (.er [qM 12 7,qC 13 .add 12 1,qM 7 13])))))) (qs [qY 6 true] .ret))
def a66:ay:=⟨3,22,[.tmp 6],v66.code⟩
def v67:bu:=qs [o 1 (.box (.t 0)),qY 2 false] (.seq (qs [qZ 3 0] (.block 0 (.loop [.ob 1 [],.pt 1 1 0,.tr 3] (.seq (qs [qM 12 3,qF 13 0 1,qL 14 13,qN 15 14,qB 16 .lss 12 15] (xE 16 0)) (.seq (.block 1 (qs [qF 19 0 1,qL 20 19,qM 21 3,qI 22 6 20 21,qG 23 6 22,o 4 (.alloc [.str ⟨#[]⟩,zi,zi,.str ⟨#[]⟩,.str ⟨#[]⟩,.av]),qO 6 4 23] (.seq (qs [qF 24 0 4,qL 25 24,qK 26 92 [25],qU 27 26,qM 28 27,qFF 29 28 3 4,qLF 30 28 29,qKF 31 28 92 [30],qUF 32 28 31,qP 33 28 32,qM 34 33,qFF 35 34 4 4,qLF 36 34 35,qKF 37 34 92 [36],qUF 38 34 37,qP 39 34 38,qM 40 39,qFF 41 40 1 4,qLF 42 40 41,qCF 43 40 .lss 42 0,qP 44 40 43,qM 45 44,qFF 46 45 1 4,qLF 47 45 46,qCF 48 45 .gtr 47 2,qP 49 45 48,qM 50 49,qFF 51 50 2 4,qLF 52 50 51,qKF 53 50 93 [52],qUF 54 50 53,qP 55 50 54,qM 56 55,qFF 57 56 5 4,qLF 58 56 57,qNF 59 56 58,qCF 60 56 .eql 59 0,qP 61 56 60] (.cond (.t 61) (qs [qY 2 false] .ret) .skip)) (qs [qZ 5 0] (.block 2 (.loop [.ob 1 [],.ob 4 [],.pt 1 1 0,.tr 3,.pt 4 4 0,.tr 5] (.seq (qs [qM 62 5,qF 63 5 4,qL 64 63,qN 65 64,qB 66 .lss 62 65] (xE 66 2)) (.seq (.block 3 (qs [qF 69 5 4,qL 70 69,qM 71 5,qI 72 1 70 71,qL 73 72,qK 74 92 [73],qU 75 74] (.cond (.t 75) (qs [qY 2 false] .ret) .skip))) (.er [qM 67 5,qC 68 .add 67 1,qM 5 68]))))))))) (.er [qM 17 3,qC 18 .add 17 1,qM 3 18])))))) (.seq (qs [qZ 6 0] (.block 4 (.loop [.ob 1 [],.pt 1 1 0,.tr 6] (.seq (qs [qM 76 6,qF 77 1 1,qL 78 77,qN 79 78,qB 80 .lss 76 79] (xE 80 4)) (.seq (.block 5 (.seq (qs [qF 83 1 1,qL 84 83,qM 85 6,qI 86 2 84 85,qF 87 0 86,qL 88 87,qK 89 92 [88],qU 90 89] (.cond (.t 90) (qs [qY 2 false] .ret) .skip)) (qs [qZ 7 0] (.block 6 (.loop [.ob 1 [],.pt 1 1 0,.tr 6,.tr 7] (.seq (qs [qM 91 7,qF 92 1 1,qL 93 92,qM 94 6,qI 95 2 93 94,qF 96 1 95,qL 97 96,qN 98 97,qB 99 .lss 91 98] (xE 99 6)) (.seq (.block 7 (qs [qF 102 1 1,qL 103 102,qM 104 6,qI 105 2 103 104,qF 106 1 105,qL 107 106,qM 108 7,qI 109 3 107 108,qG 110 3 109,o 8 (.alloc [zi,.str ⟨#[]⟩,zi]),qO 3 8 110] (qs [qF 111 0 8,qL 112 111,qK 113 93 [112],qU 114 113,qM 115 114,qFF 116 115 2 8,qLF 117 115 116,qKF 118 115 93 [117],qUF 119 115 118,qP 120 115 119,qM 121 120,qFF 122 121 1 8,qLF 123 121 122,qKF 124 121 92 [123],qUF 125 121 124,qP 126 121 125] (.cond (.t 126) (qs [qY 2 false] .ret) .skip)))) (.er [qM 100 7,qC 101 .add 100 1,qM 7 101])))))))) (.er [qM 81 6,qC 82 .add 81 1,qM 6 82])))))) (.seq (qs [qZ 9 0] (.block 8 (.loop [.ob 1 [],.pt 1 1 0,.tr 9] (.seq (qs [qM 127 9,qF 128 2 1,qL 129 128,qN 130 129,qB 131 .lss 127 130] (xE 131 8)) (.seq (.block 9 (qs [qF 134 2 1,qL 135 134,qM 136 9,qI 137 3 135 136,qG 138 3 137,o 10 (.alloc [.str ⟨#[]⟩,.av,.av]),qO 3 10 138] (.seq (qs [qF 139 0 10,qL 140 139,qK 141 92 [140],qU 142 141,qM 143 142,qFF 144 143 2 10,qLF 145 143 144,qKF 146 143 94 [145],qUF 147 143 146,qP 148 143 147] (.cond (.t 148) (qs [qY 2 false] .ret) .skip)) (qs [qZ 11 0] (.block 10 (.loop [.ob 1 [],.ob 10 [],.pt 1 1 0,.tr 9,.pt 10 10 0,.tr 11] (.seq (qs [qM 149 11,qF 150 1 10,qL 151 150,qN 152 151,qB 153 .lss 149 152] (xE 153 10)) (.seq (.block 11 (qs [qF 156 1 10,qL 157 156,qM 158 11,qI 159 1 157 158,qL 160 159,qK 161 92 [160],qU 162 161] (.cond (.t 162) (qs [qY 2 false] .ret) .skip))) (.er [qM 154 11,qC 155 .add 154 1,qM 11 155]))))))))) (.er [qM 132 9,qC 133 .add 132 1,qM 9 133])))))) (qs [qY 2 true] .ret))))
def a67:ay:=⟨1,163,[.tmp 2],v67.code⟩
def X2:bu:=qs [qM 4 0,qX 5 4,qF 6 7 5,qL 7 6,qC 8 .eql 7 0] (.cond (.t 8) (.er [qM 9 0,qM 10 1,qX 11 9,qF 12 7 11,qO 1 12 10]) .skip)
def a68:ay:=⟨2,13,[],X2.code⟩
def v69:bu:=qs [qZ 4 0] (.seq (qs [qZ 5 0] (.block 0 (.loop [.tr 0,.tr 1,.tr 5] (.seq (qs [qM 6 5,qM 7 0,qN 8 7,qB 9 .lss 6 8] (xE 9 0)) (.seq (.block 1 (qs [qM 12 0,qM 13 5,qI 14 1 12 13,qL 15 14,qM 16 1,qB 17 .eql 15 16] (.cond (.t 17) (qs [qM 18 5,qM 4 18] .ret) .skip))) (.er [qM 10 5,qC 11 .add 10 1,qM 5 11])))))) (qs [o 4 (.mv (i64 (-1)))] .ret))
def a69:ay:=⟨2,19,[.tmp 4],v69.code⟩
def v70:bu:=qs [qY 2 false] (.seq (qs [qZ 3 0] (.block 0 (.loop [.tr 0,.tr 3] (.seq (qs [qM 4 3,qM 5 0,qN 6 5,qB 7 .lss 4 6] (xE 7 0)) (.seq (.block 1 (.seq (.dz [qM 10 0,qM 11 3,o 12 (.zm 1 (.t 10) none (some (.t 11)) none),qM 13 0,qM 14 3,qI 15 1 13 14,qL 16 15,qK 17 69 [12,16],qC 18 .geq 17 0] [[],[],[0,1],[],[],[3,4],[3,4,5],(rg 7),(rg 8)] []) (.cond (.t 18) (qs [qY 2 true] .ret) .skip))) (.er [qM 8 3,qC 9 .add 8 1,qM 3 9])))))) (qs [qY 2 false] .ret))
def a70:ay:=⟨1,19,[.tmp 2],v70.code⟩
def X1:bu:=qs [qZ 6 0] (qs [qM 8 1,qM 9 2,qK 10 69 [8,9],qM 7 10] (.seq (qs [qM 11 7,qC 12 .lss 11 0] (.cond (.t 12) (qs [qM 13 0,o 14 (.call 68 [.t 13,(i64 8)] .share)] (qs [qZ 6 0] .ret)) .skip)) (qs [qM 15 7,qM 6 15] .ret)))
def a71:ay:=⟨3,16,[.tmp 6],X1.code⟩
def v72:bu:=qs [o 4 (.mv (.c (.av)))] (qs [o 5 (.mv (.c (.av)))] (.seq (qs [qZ 6 0] (.block 0 (.loop [.ob 0 [(3,1),(6,1)],.pt 0 0 0,.tr 1,.sl 5 20,.tr 6] (.seq (qs [qM 17 6,qM 18 1,qN 19 18,qB 20 .lss 17 19,qM 21 20,qMT 22 21 0,qXT 23 21 22,qFT 24 21 7 23,qLT 25 21 24,qCT 26 21 .eql 25 0,qQ 27 21 26] (xE 27 0)) (.seq (.block 1 (qs [qM 30 1,qM 31 6,qI 32 19 30 31,qG 33 19 32,o 7 (.alloc [zi,.str ⟨#[]⟩,.str ⟨#[]⟩,zi,zi,.str ⟨#[]⟩,.av,zi,zi,zi,.str ⟨#[]⟩,.av,zi,zi,.str ⟨#[]⟩,.av,.av,.av,.av]),qO 19 7 33] (qs [qF 34 0 7,qL 35 34,o 36 (.build zL1 [(0,1,.t 35)]),o 8 (.alloc zL1),qO 20 8 36] (.seq (qs [qF 37 0 7,qL 38 37] (.block 2 (qs [qC 40 .eql 38 1,qM 39 40] (.cond (.t 39) (.seq (.join jJ6 (.dz [qM 41 0,qM 42 0,qX 43 42,qF 44 5 43,qL 45 44,qF 46 1 7,qL 47 46,o 48 (.call 71 [.t 41,.t 45,.t 47] .share),qF 49 1 8,qO 1 49 48] [[],[],[1],[1,2],[1,2,3],[],[5],(rg 7),(rg 8),(rg 9)] [])) (.er [qM 50 0,qF 51 3 7,qG 52 4 51,o 53 (.call 95 [.t 50,.t 52] .share),qF 54 4 8,qO 4 54 53])) (qs [qC 56 .eql 38 2,qM 55 56] (.cond (.t 55) (qs [qM 57 0,qF 58 7 7,qG 59 9 58,o 60 (.call 96 [.t 57,.t 59] .share),qF 61 8 8,qO 9 61 60] (qs [qM 62 0,qF 63 16 7,qL 64 63,o 65 (.call 72 [.t 62,.t 64] .share),qF 66 17 8,qO 1 66 65] (.er [qM 67 0,qF 68 17 7,qL 69 68,o 70 (.call 72 [.t 67,.t 69] .share),qF 71 18 8,qO 1 71 70]))) (qs [qC 73 .eql 38 3,qM 72 73] (.cond (.t 72) (qs [qM 74 0,qF 75 7 7,qG 76 9 75,o 77 (.call 96 [.t 74,.t 76] .share),qF 78 8 8,qO 9 78 77] (.er [qM 79 0,qF 80 16 7,qL 81 80,o 82 (.call 72 [.t 79,.t 81] .share),qF 83 17 8,qO 1 83 82])) (qs [qC 85 .eql 38 4,qM 84 85] (.cond (.t 84) (qs [qM 87 0,qF 88 1 7,qL 89 88,o 90 (.call 97 [.t 87,.t 89,(.c (.bool true))] .share),qM 86 90,qE 91 0 86,qE 92 1 86,qM 9 91,qM 10 92] (.seq (.join jJ6 (.er [qM 93 9,qM 94 0,qM 95 10,qF 96 2 7,qL 97 96,o 98 (.call 71 [.t 94,.t 95,.t 97] .share),qF 99 2 8,qO 1 99 93,qF 100 3 8,qO 1 100 98])) (.er [qM 101 0,qF 102 3 7,qG 103 4 102,o 104 (.call 95 [.t 101,.t 103] .share),qF 105 4 8,qO 4 105 104]))) (qs [qC 107 .eql 38 5,qM 106 107] (.cond (.t 106) (qs [qM 109 0,qF 110 1 7,qL 111 110,o 112 (.call 97 [.t 109,.t 111,(.c (.bool false))] .share),qM 108 112,qE 113 0 108,qE 114 1 108,qM 11 113,qM 12 114] (qs [qM 115 11,qF 116 2 8,qO 1 116 115] (qs [o 13 (.mv (.c (.av)))] (qs [qZ 14 0] (.block 3 (.loop [.ob 0 [(3,1),(6,1)],.ob 7 [],.ob 8 [(7,4),(12,4),(16,4),(17,20),(18,20),(19,3)],.pt 0 0 0,.tr 1,.sl 5 20,.tr 6,.pt 7 7 0,.pt 8 8 0,.tr 12,.sl 13 1,.tr 14] (.seq (qs [qM 117 14,qF 118 18 7,qL 119 118,qN 120 119,qB 121 .lss 117 120,qM 122 121,qMT 123 122 0,qXT 124 122 123,qFT 125 122 7 124,qLT 126 122 125,qCT 127 122 .eql 126 0,qQ 128 122 127] (xE 128 3)) (.seq (.block 4 (qs [qF 131 18 7,qL 132 131,qM 133 14,qI 134 3 132 133,qG 135 3 134,o 15 (.alloc [.str ⟨#[]⟩,.str ⟨#[]⟩,.av]),qO 3 15 135] (.seq (.join jJ0 (.er [qM 136 0,qM 137 12,qF 138 0 15,qL 139 138,o 140 (.call 71 [.t 136,.t 137,.t 139] .share),o 141 (.build [zi,zi,.av] [(0,1,.t 140)]),o 16 (.alloc [zi,zi,.av]),qO 3 16 141])) (.seq (.join jJ0 (qs [qM 142 13,qF 143 0 15,qL 144 143,qK 145 69 [142,144],qC 146 .geq 145 0] (.cond (.t 146) (.er [qM 147 0,o 148 (.call 68 [.t 147,(i64 7)] .share)]) .skip))) (qs [qM 149 13,qF 150 0 15,qL 151 150,o 152 (.bx 1 [.str ⟨#[]⟩] [(0,1,.t 151)]),qA 153 1 16 149 152,qM 13 153] (.seq (.join jJ0 (.dz [qM 154 0,qM 155 0,qX 156 155,qF 157 5 156,qL 158 157,qF 159 1 15,qL 160 159,o 161 (.call 71 [.t 154,.t 158,.t 160] .share),qF 162 1 16,qO 1 162 161] [[],[],[1],[1,2],[1,2,3],[],[5],(rg 7),(rg 8),(rg 9)] [])) (qs [qM 163 0,qF 164 2 15,qL 165 164,o 166 (.call 72 [.t 163,.t 165] .share),qF 167 2 16,qO 1 167 166] (.er [qF 168 19 8,qL 169 168,qG 170 3 16,oZ 171 (.bx 1 [zi,zi,.av] [(0,3,.t 170)]),qA 172 3 40 169 171,qF 173 19 8,qO 1 173 172])))))))) (.er [qM 129 14,qC 130 .add 129 1,qM 14 130]))))))))) (qs [qC 175 .eql 38 6,qM 174 175] (.cond (.t 174) (.er [qM 176 0,qF 177 7 7,qG 178 9 177,o 179 (.call 96 [.t 176,.t 178] .share),qF 180 8 8,qO 9 180 179]) (qs [qC 182 .eql 38 7,qM 181 182] (.cond (.t 181) (.dz [qM 183 0,qM 184 0,qX 185 184,qF 186 5 185,qL 187 186,qF 188 1 7,qL 189 188,o 190 (.call 71 [.t 183,.t 187,.t 189] .share),qF 191 1 8,qO 1 191 190] [[],[],[1],[1,2],[1,2,3],[],[5],(rg 7),(rg 8),(rg 9)] []) .skip)))))))))))))))) (.er [qM 192 5,qG 193 20 8,oZ 194 (.bx 1 zL1 [(0,20,.t 193)]),qA 195 20 256 192 194,qM 5 195]))))) (.er [qM 28 6,qC 29 .add 28 1,qM 6 29])))))) (qs [qM 196 5,qM 4 196] .ret)))
def a72:ay:=⟨2,197,[.tmp 4],v72.code⟩
def v74:bu:=qs [o 1 (.box (.t 0)),o 2 (.alloc [.av,.av])] (qs [qF 6 0 1,qL 7 6,o 8 (.build [.av,.av] [(0,1,.t 7)]),o 3 (.alloc [.av,.av]),qO 2 3 8] (.seq (qs [qF 9 2 1,qL 10 9,qN 11 10,qZ 12 0] (.block 0 (.loop [.ob 2 [(0,6),(1,2)],.ob 3 [(1,2)],.pt 2 2 0,.pt 3 3 0,.tr 10,.tr 11,.tr 12] (qs [qB 13 .lss 12 11] (.seq (xE 13 0) (.seq (.block 1 (qs [qI 14 1 10 12,qL 15 14,qM 5 15] (.er [qF 16 1 3,qL 17 16,qM 18 5,o 19 (.build [zi,.av] [(0,1,.t 18)]),oZ 20 (.bx 1 [zi,.av] [(0,2,.t 19)]),qA 21 2 32 17 20,qF 22 1 3,qO 1 22 21]))) (.er [qC 23 .add 12 1,qM 12 23]))))))) (qs [qG 24 2 3,qO 2 2 24] .ret)))
def a74:ay:=⟨1,25,[.cell 2 (some 2)],v74.code⟩
def v75:bu:=qs [o 3 (.box (.t 0)),o 5 (.box (.t 2)),qY 6 false] (.seq (qs [qF 10 0 5,qL 11 10,qC 12 .lss 11 2,qM 13 12,qFF 14 13 0 5,qLF 15 13 14,qCF 16 13 .gtr 15 802,qP 17 13 16,qM 18 17,qFF 19 18 1 5,qLF 20 18 19,qNF 21 18 20,qCF 22 18 .gtr 21 400,qP 23 18 22,qM 24 23,qGF 25 24 3 5,qKF 26 24 99 [25],qUF 27 24 26,qP 28 24 27] (.cond (.t 28) (qs [qY 6 false] .ret) .skip)) (.seq (qs [qF 29 1 5,qL 30 29,qN 31 30,qZ 32 0] (.block 0 (.loop [.ob 3 [],.ob 5 [],.tr 1,.pt 3 3 0,.pt 5 5 0,.tr 30,.tr 31,.tr 32] (qs [qB 33 .lss 32 31] (.seq (xE 33 0) (.seq (.block 1 (qs [qI 34 19 30 32,qG 35 19 34,o 8 (.alloc zL2),qO 19 8 35] (qs [qG 36 2 3,qM 37 1,qG 38 3 5,qG 39 19 8,qK 40 100 [36,37,38,39],qU 41 40] (.cond (.t 41) (qs [qY 6 false] .ret) .skip)))) (.er [qC 42 .add 32 1,qM 32 42]))))))) (.seq (qs [qF 43 0 5,qL 44 43,qZ 45 0] (.block 2 (.loop [.ob 5 [],.pt 5 5 0,.tr 44,.tr 45] (qs [qB 46 .lss 45 44] (.seq (xE 46 2) (.seq (.block 3 (qs [qM 47 45,qM 9 47] (qs [qG 48 3 5,qM 49 9,qK 50 101 [48,49],qU 51 50] (.cond (.t 51) (qs [qY 6 false] .ret) .skip)))) (.er [qC 52 .add 45 1,qM 45 52]))))))) (qs [qG 53 3 5,qK 54 102 [53],qU 55 54,qM 6 55] .ret))))
def a75:ay:=⟨3,56,[.tmp 6],v75.code⟩
def v76:bu:=qs [o 2 (.box (.t 0)),o 3 (.box (.t 1)),qY 4 false] (.seq (.dz [qF 7 1 2,qL 8 7,qN 9 8,qF 10 0 2,qL 11 10,qN 12 11,qM 5 9,qM 6 12] [[],[0],[0,1],[],[3],[3,4],[0,1,2],(rg 7)] []) (qs [qF 13 0 3,qL 14 13,qN 15 14,qM 16 5,qB 17 .eql 15 16,qM 18 17,qFT 19 18 1 3,qLT 20 18 19,qNT 21 18 20,qMT 22 18 5,qBT 23 18 .eql 21 22,qQ 24 18 23,qM 25 24,qFT 26 25 2 3,qLT 27 25 26,qNT 28 25 27,qMT 29 25 6,qBT 30 25 .eql 28 29,qQ 31 25 30,qM 32 31,qFT 33 32 3 3,qLT 34 32 33,qNT 35 32 34,qMT 36 32 6,qBT 37 32 .eql 35 36,qQ 38 32 37,qM 4 38] .ret))
def a76:ay:=⟨2,39,[.tmp 4],v76.code⟩
def WT:bu:=qs [qY 4 false] (qs [qM 5 0,qC 6 .geq 5 0,qM 7 6,qMT 8 7 0,qMT 9 7 1,qBT 10 7 .lss 8 9,qQ 11 7 10,qM 4 11] .ret)
def a77:ay:=⟨2,12,[.tmp 4],WT.code⟩
def X4:bu:=qs [qY 2 false] (qs [qM 3 0,o 4 (.bin .geq (.t 3) (i64 (-2147483648))),qM 5 4,qMT 6 5 0,qCT 7 5 .leq 6 2147483647,qQ 8 5 7,qM 2 8] .ret)
def a78:ay:=⟨1,9,[.tmp 2],X4.code⟩
def X3:bu:=qs [o 2 (.box (.t 0)),qY 4 false] (.seq (qs [qM 7 1,qN 8 7,qZ 9 0] (.block 0 (.loop [.ob 2 [],.tr 1,.pt 2 2 0,.tr 7,.tr 8,.tr 9] (qs [qB 10 .lss 9 8] (.seq (xE 10 0) (.seq (.block 1 (qs [qI 11 2 7 9,qG 12 2 11,o 6 (.alloc [zi,zi]),qO 2 6 12] (qs [qF 13 0 6,qL 14 13,qF 15 4 2,qL 16 15,qK 17 77 [14,16],qU 18 17,qM 19 18,qFF 20 19 1 6,qLF 21 19 20,qKF 22 19 78 [21],qUF 23 19 22,qP 24 19 23] (.cond (.t 24) (qs [qY 4 false] .ret) .skip)))) (.er [qC 25 .add 9 1,qM 9 25]))))))) (qs [qM 26 1,qN 27 26,qF 28 1 2,qL 29 28,qB 30 .leq 27 29,qM 4 30] .ret))
def a79:ay:=⟨2,31,[.tmp 4],X3.code⟩
def v81:bu:=qs [qY 6 false] (qs [qM 7 0,qM 8 1,qB 9 .geq 7 8,qM 10 9,qMT 11 10 0,qMT 12 10 2,qBT 13 10 .leq 11 12,qQ 14 10 13,qM 6 14] .ret)
def a81:ay:=⟨3,15,[.tmp 6],v81.code⟩
def v82:bu:=qs [o 2 (.box (.t 0)),qY 4 false] (qs [qF 6 0 2,qL 7 6,o 8 (.call 81 [.t 7,(i64 0),(i64 2)] .borrow),qM 9 8,qFT 10 9 1 2,qLT 11 9 10,oT 12 9 (.call 81 [.t 11,(i64 1),(i64 16)] .borrow),qQ 13 9 12,qM 14 13,qFT 15 14 4 2,qLT 16 14 15,oT 17 14 (.call 81 [.t 16,(i64 1),(i64 4)] .borrow),qQ 18 14 17,qM 5 18] (qs [qM 19 5,qM 20 19,qFT 21 20 2 2,qLT 22 20 21,qMT 23 20 1,qCT 24 20 .sub 23 1,oT 25 20 (.call 81 [.t 22,(i64 0),.t 24] .borrow),qQ 26 20 25,qM 27 26,qFT 28 27 3 2,qLT 29 27 28,qMT 30 27 1,qCT 31 27 .sub 30 1,oT 32 27 (.call 81 [.t 29,(i64 0),.t 31] .borrow),qQ 33 27 32,qM 34 33,qFT 35 34 2 2,qLT 36 34 35,qFT 37 34 3 2,qLT 38 34 37,qBT 39 34 .neq 36 38,qQ 40 34 39,qM 41 40,qGT 42 41 6 2,qKT 43 41 104 [42],qQ 44 41 43,qM 4 44] .ret))
def a82:ay:=⟨2,45,[.tmp 4],v82.code⟩
def v83:bu:=qs [o 2 (.box (.t 0)),qY 4 false] (.seq (qs [qM 7 1,qN 8 7,qZ 9 0] (.block 0 (.loop [.ob 2 [],.pt 2 2 0,.tr 7,.tr 8,.tr 9] (qs [qB 10 .lss 9 8] (.seq (xE 10 0) (.seq (.block 1 (qs [qI 11 20 7 9,qG 12 20 11,o 6 (.alloc zL1),qO 20 6 12] (qs [qG 13 4 2,qG 14 20 6,qK 15 105 [13,14],qU 16 15] (.cond (.t 16) (qs [qY 4 false] .ret) .skip)))) (.er [qC 17 .add 9 1,qM 9 17]))))))) (qs [qY 4 true] .ret))
def a83:ay:=⟨2,18,[.tmp 4],v83.code⟩
def v89:bu:=qs [qZ 2 0] (qs [qM 3 0,qX 4 3,qF 5 0 4,qL 6 5,qC 7 .add 6 1,qX 8 3,qF 9 0 8,qO 1 9 7] (qs [qM 10 0,qX 11 10,qF 12 0 11,qL 13 12,qC 14 .sub 13 1,qM 2 14] .ret))
def a89:ay:=⟨1,15,[.tmp 2],v89.code⟩
def v90:bu:=qs [o 5 (.box (.t 1))] (qs [qF 13 0 5,qL 14 13] (.block 0 (qs [qC 16 .eql 14 1,qM 15 16] (.cond (.t 15) (.dz [qM 17 0,qM 18 0,qX 19 18,qF 20 1 19,qL 21 20,qM 22 2,qM 23 3,qF 24 1 5,qL 25 24,qF 26 4 5,qG 27 4 26,o 28 (.build zL2 [(0,1,.t 22),(1,1,.t 23),(2,1,(i64 1)),(3,1,.t 25),(6,4,.t 27)]),oZ 29 (.bx 1 zL2 [(0,19,.t 28)]),qA 30 19 200 21 29,qX 31 17,qF 32 1 31,qO 1 32 30] [[],[],[1],[1,2],[1,2,3],[],[],[],[7],[],[9],[5,6,7,8,9,10],[5,6,7,8,9,10,11],[1,2,3,4,5,6,7,8,9,10,11,12],(rg 14),(rg 15),(rg 16)] [(4,12)]) (qs [qC 34 .eql 14 2,qM 33 34] (.cond (.t 33) (qs [qM 35 0,o 36 (.call 89 [.t 35] .share),qM 8 36] (.seq (.dz [qM 37 0,qM 38 0,qX 39 38,qF 40 1 39,qL 41 40,qM 42 2,qM 43 8,qF 44 8 5,qG 45 9 44,o 46 (.build zL2 [(0,1,.t 42),(1,1,.t 43),(2,1,(i64 2)),(10,9,.t 45)]),oZ 47 (.bx 1 zL2 [(0,19,.t 46)]),qA 48 19 200 41 47,qX 49 37,qF 50 1 49,qO 1 50 48] [[],[],[1],[1,2],[1,2,3],[],[],[],[7],[5,6,7,8],[5,6,7,8,9],[1,2,3,4,5,6,7,8,9,10],(rg 12),(rg 13),(rg 14)] [(4,10)]) (qs [qM 51 0,qF 52 17 5,qL 53 52,qM 54 8,qM 55 3,o 56 (.call 65 [.t 51,.t 53,.t 54,.t 55] .share)] (qs [qM 57 0,o 58 (.call 89 [.t 57] .share),qM 9 58] (.seq (.dz [qM 59 0,qM 60 0,qX 61 60,qF 62 1 61,qL 63 62,qM 64 2,qM 65 9,qF 66 8 5,qF 67 0 66,qL 68 67,qK 69 48 [68],qF 70 8 5,qF 71 1 70,qG 72 4 71,qF 73 8 5,qF 74 5 73,qG 75 4 74,o 76 (.build zL3 [(0,1,.t 69),(1,4,.t 72),(5,4,.t 75)]),o 77 (.build zL2 [(0,1,.t 64),(1,1,.t 65),(2,1,(i64 2)),(10,9,.t 76)]),oZ 78 (.bx 1 zL2 [(0,19,.t 77)]),qA 79 19 200 63 78,qX 80 59,qF 81 1 80,qO 1 81 79] [[],[],[1],[1,2],[1,2,3],[],[],[],[7],[7,8],[7,8,9],[],[11],[11,12],[],[14],[14,15],[7,8,9,10,11,12,13,14,15,16],[5,6,7,8,9,10,11,12,13,14,15,16,17],[5,6,7,8,9,10,11,12,13,14,15,16,17,18],[1,2,3,4,5,6,7,8,9,10,11,12,13,14,15,16,17,18,19],(rg 21),(rg 22),(rg 23)] [(4,19)]) (.er [qM 82 0,qF 83 18 5,qL 84 83,qM 85 9,qM 86 3,o 87 (.call 65 [.t 82,.t 84,.t 85,.t 86] .share)])))))) (qs [qC 89 .eql 14 3,qM 88 89] (.cond (.t 88) (qs [qM 90 0,qM 91 0,qX 92 91,qF 93 2 92,qL 94 93,qM 95 2,o 96 (.bx 1 [zi] [(0,1,.t 95)]),qA 97 1 8 94 96,qX 98 90,qF 99 2 98,qO 1 99 97] (qs [qM 100 0,o 101 (.call 89 [.t 100] .share),qM 10 101] (.seq (.dz [qM 102 0,qM 103 0,qX 104 103,qF 105 1 104,qL 106 105,qM 107 2,qM 108 10,qF 109 8 5,qG 110 9 109,o 111 (.build zL2 [(0,1,.t 107),(1,1,.t 108),(2,1,(i64 2)),(10,9,.t 110)]),qM 112 2,qM 113 3,qF 114 8 5,qF 115 0 114,qL 116 115,qK 117 48 [116],qF 118 8 5,qF 119 1 118,qG 120 4 119,qF 121 8 5,qF 122 5 121,qG 123 4 122,o 124 (.build zL3 [(0,1,.t 117),(1,4,.t 120),(5,4,.t 123)]),o 125 (.build zL2 [(0,1,.t 112),(1,1,.t 113),(2,1,(i64 2)),(10,9,.t 124)]),oZ 126 (.bx 2 [zi,zi,zi,zi,zi,zi,zi,zi,zi,.av,zi,zi,zi,zi,.av,zi,zi,zi,.av,zi,zi,zi,zi,zi,zi,zi,zi,zi,.av,zi,zi,zi,zi,.av,zi,zi,zi,.av] [(0,19,.t 111),(19,19,.t 125)]),qA 127 19 200 106 126,qX 128 102,qF 129 1 128,qO 1 129 127] [[],[],[1],[1,2],[1,2,3],[],[],[],[7],[5,6,7,8],[],[],[],[12],[12,13],[12,13,14],[],[16],[16,17],[],[19],[19,20],[12,13,14,15,16,17,18,19,20,21],[10,11,12,13,14,15,16,17,18,19,20,21,22],[5,6,7,8,9,10,11,12,13,14,15,16,17,18,19,20,21,22,23],[1,2,3,4,5,6,7,8,9,10,11,12,13,14,15,16,17,18,19,20,21,22,23,24],(rg 26),(rg 27),(rg 28)] [(4,24)]) (.er [qM 130 0,qF 131 17 5,qL 132 131,qM 133 10,qM 134 2,o 135 (.call 65 [.t 130,.t 132,.t 133,.t 134] .share)])))) (qs [qC 137 .eql 14 4,qM 136 137] (.cond (.t 136) (.dz [qM 138 0,qM 139 0,qX 140 139,qF 141 1 140,qL 142 141,qM 143 2,qM 144 3,qF 145 2 5,qL 146 145,qF 147 3 5,qL 148 147,qF 149 4 5,qG 150 4 149,o 151 (.build zL2 [(0,1,.t 143),(1,1,.t 144),(2,1,(i64 3)),(4,1,.t 146),(5,1,.t 148),(6,4,.t 150)]),oZ 152 (.bx 1 zL2 [(0,19,.t 151)]),qA 153 19 200 142 152,qX 154 138,qF 155 1 154,qO 1 155 153] [[],[],[1],[1,2],[1,2,3],[],[],[],[7],[],[9],[],[11],[5,6,7,8,9,10,11,12],[5,6,7,8,9,10,11,12,13],[1,2,3,4,5,6,7,8,9,10,11,12,13,14],(rg 16),(rg 17),(rg 18)] [(4,14)]) (qs [qC 157 .eql 14 5,qM 156 157] (.cond (.t 156) (qs [qZ 11 0] (.block 1 (.loop [.ob 0 [(1,19),(2,1)],.ob 5 [],.pt 0 0 0,.tr 2,.tr 3,.pt 5 5 0,.tr 11] (.seq (qs [qM 158 11,qF 159 19 5,qL 160 159,qN 161 160,qB 162 .lss 158 161] (xE 162 1)) (.seq (.block 2 (qs [qM 165 0,o 166 (.call 89 [.t 165] .share),qM 12 166] (.seq (.dz [qM 167 0,qM 168 0,qX 169 168,qF 170 1 169,qL 171 170,qM 172 2,qM 173 12,qF 174 2 5,qL 175 174,qF 176 19 5,qL 177 176,qM 178 11,qI 179 3 177 178,qF 180 0 179,qL 181 180,qF 182 19 5,qL 183 182,qM 184 11,qI 185 3 183 184,qF 186 1 185,qL 187 186,o 188 (.build zL2 [(0,1,.t 172),(1,1,.t 173),(2,1,(i64 4)),(4,1,.t 175),(5,1,.t 181),(3,1,.t 187)]),oZ 189 (.bx 1 zL2 [(0,19,.t 188)]),qA 190 19 200 171 189,qX 191 167,qF 192 1 191,qO 1 192 190] [[],[],[1],[1,2],[1,2,3],[],[],[],[7],[],[9],[],[9,10,11],[9,10,11,12],[9,10,11,12,13],[],[15],[],[15,16,17],[15,16,17,18],[15,16,17,18,19],[5,6,7,8,9,10,11,12,13,14,15,16,17,18,19,20],[5,6,7,8,9,10,11,12,13,14,15,16,17,18,19,20,21],[1,2,3,4,5,6,7,8,9,10,11,12,13,14,15,16,17,18,19,20,21,22],(rg 24),(rg 25),(rg 26)] [(4,22)]) (.er [qM 193 0,qF 194 19 5,qL 195 194,qM 196 11,qI 197 3 195 196,qF 198 2 197,qL 199 198,qM 200 12,qM 201 3,o 202 (.call 65 [.t 193,.t 199,.t 200,.t 201] .share)])))) (.er [qM 163 11,qC 164 .add 163 1,qM 11 164])))))) (qs [qC 204 .eql 14 6,qM 203 204] (.cond (.t 203) (.dz [qM 205 0,qM 206 0,qX 207 206,qF 208 1 207,qL 209 208,qM 210 2,qM 211 3,qF 212 8 5,qG 213 9 212,o 214 (.build zL2 [(0,1,.t 210),(1,1,.t 211),(2,1,(i64 5)),(10,9,.t 213)]),oZ 215 (.bx 1 zL2 [(0,19,.t 214)]),qA 216 19 200 209 215,qX 217 205,qF 218 1 217,qO 1 218 216] [[],[],[1],[1,2],[1,2,3],[],[],[],[7],[5,6,7,8],[5,6,7,8,9],[1,2,3,4,5,6,7,8,9,10],(rg 12),(rg 13),(rg 14)] [(4,10)]) (qs [qC 220 .eql 14 7,qM 219 220] (.cond (.t 219) (.dz [qM 221 0,qM 222 0,qX 223 222,qF 224 1 223,qL 225 224,qM 226 2,qM 227 3,qF 228 1 5,qL 229 228,o 230 (.build zL2 [(0,1,.t 226),(1,1,.t 227),(2,1,(i64 6)),(3,1,.t 229)]),oZ 231 (.bx 1 zL2 [(0,19,.t 230)]),qA 232 19 200 225 231,qX 233 221,qF 234 1 233,qO 1 234 232] [[],[],[1],[1,2],[1,2,3],[],[],[],[7],[5,6,7,8],[5,6,7,8,9],[1,2,3,4,5,6,7,8,9,10],(rg 12),(rg 13),(rg 14)] [(4,10)]) .skip))))))))))))))))
def a90:ay:=⟨4,235,[],v90.code⟩
def v91:bu:=qs [o 3 (.box (.t 0)),o 4 (.box (.t 1)),qY 6 false] (qs [qF 14 1 4,qL 15 14,qM 16 2,qI 17 2 15 16,qF 18 0 17,qL 19 18,qM 7 19] (qs [qF 20 17 3,qL 21 20,qN 22 21,qC 23 .eql 22 0,qM 24 23,qFT 25 24 18 3,qLT 26 24 25,qNT 27 24 26,qCT 28 24 .eql 27 0,qQ 29 24 28,qM 30 29,qFT 31 30 19 3,qLT 32 30 31,qNT 33 30 32,qCT 34 30 .eql 33 0,qQ 35 30 34,qM 8 35] (qs [qF 36 1 3,qL 37 36,qC 38 .geq 37 0,qM 39 38,qFT 40 39 1 3,qLT 41 39 40,qMT 42 39 7,qBT 43 39 .lss 41 42,qQ 44 39 43,qM 9 44] (qs [qF 45 2 3,qL 46 45,qC 47 .geq 46 0,qM 48 47,qFT 49 48 2 3,qLT 50 48 49,qFT 51 48 0 4,qLT 52 48 51,qNT 53 48 52,qBT 54 48 .lss 50 53,qQ 55 48 54,qM 10 55] (.seq (qs [qF 56 0 3,qL 57 56] (.block 0 (qs [qC 59 .eql 57 1,qM 58 59] (.cond (.t 58) (qs [qM 60 8,qM 61 60,qMT 62 61 9,qQ 63 61 62,qM 64 63,qFT 65 64 2 3,qLT 66 64 65,qCT 67 64 .eql 66 0,qQ 68 64 67,qM 69 68,qFT 70 69 3 3,qLT 71 69 70,qCT 72 69 .eql 71 0,qQ 73 69 72,qM 74 73,qFT 75 74 4 3,qGT 76 74 4 75,qMT 77 74 7,qKT 78 74 123 [76,77],qQ 79 74 78,qM 80 79,qFT 81 80 8 3,qGT 82 80 9 81,qKT 83 80 124 [82],qQ 84 80 83,qM 6 84] .ret) (.seq (qs [qC 86 .eql 57 2,qM 85 86] (.cond (.t 85) .skip (.er [qC 87 .eql 57 3,qM 85 87]))) (.cond (.t 85) (qs [qF 88 19 3,qL 89 88,qN 90 89,qC 91 .eql 90 0,qM 92 91,qFT 93 92 0 3,qLT 94 92 93,qCT 95 92 .eql 94 2,qMT 96 92 95,qFF 97 96 18 3,qLF 98 96 97,qNF 99 96 98,qCF 100 96 .eql 99 0,qPT 101 92 96 100,qQ 102 92 101,qM 103 102,qFT 104 103 1 3,qLT 105 103 104,qCT 106 103 .eql 105 0,qQ 107 103 106,qM 108 107,qFT 109 108 2 3,qLT 110 108 109,qCT 111 108 .eql 110 0,qQ 112 108 111,qM 113 112,qFT 114 113 3 3,qLT 115 113 114,qCT 116 113 .eql 115 0,qQ 117 113 116,qM 118 117,qFT 119 118 4 3,qGT 120 118 4 119,qKT 121 118 125 [120],qQ 122 118 121,qM 123 122,qFT 124 123 8 3,qGT 125 123 9 124,qMT 126 123 7,qKT 127 123 126 [125,126],qQ 128 123 127,qM 129 128,qFT 130 129 17 3,qLT 131 129 130,qGT 132 129 2 4,qMT 133 129 2,qKT 134 129 66 [131,132,133],qQ 135 129 134,qM 136 135,qFT 137 136 18 3,qLT 138 136 137,qGT 139 136 2 4,qMT 140 136 2,qKT 141 136 66 [138,139,140],qQ 142 136 141,qM 6 142] .ret) (qs [qC 144 .eql 57 4,qM 143 144] (.cond (.t 143) (.seq (.dz [qM 145 8,qM 146 145,qMT 147 146 10,qQ 148 146 147,qM 149 148,qFT 150 149 1 3,qLT 151 149 150,qCT 152 149 .eql 151 0,qQ 153 149 152,qM 154 153,qFT 155 154 3 3,qLT 156 154 155,qCT 157 154 .geq 156 0,qQ 158 154 157,qM 159 158,qFT 160 159 3 3,qLT 161 159 160,qFT 162 159 0 4,qLT 163 159 162,qFT 164 159 2 3,qLT 165 159 164,qIT 166 159 6 163 165,qFT 167 159 4 166,qLT 168 159 167,qBT 169 159 .lss 161 168,qQ 170 159 169,qM 171 170,qFT 172 171 0 4,qLT 173 171 172,qFT 174 171 2 3,qLT 175 171 174,qIT 176 171 6 173 175,qFT 177 171 2 176,qLT 178 171 177,qMT 179 171 2,qBT 180 171 .eql 178 179,qQ 181 171 180,qM 182 181,qFT 183 182 4 3,qGT 184 182 4 183,qMT 185 182 7,qKT 186 182 123 [184,185],qQ 187 182 186,qM 188 187,qFT 189 188 8 3,qGT 190 188 9 189,qKT 191 188 124 [190],qQ 192 188 191,qM 6 192] [[],[0],[0,1],[0,1,2],(rg 4),(rg 5),(rg 6),(rg 7),(rg 8),(rg 9),(rg 10),(rg 11),(rg 12),(rg 13),(rg 14),(rg 15),(rg 16),(rg 15),[0,1,2,3,4,5,6,7,8,9,10,11,12,13,14,17],(rg 15),[0,1,2,3,4,5,6,7,8,9,10,11,12,13,14,19],[0,1,2,3,4,5,6,7,8,9,10,11,12,13,14,17,18,19,20],[0,1,2,3,4,5,6,7,8,9,10,11,12,13,14,17,18,19,20,21],[0,1,2,3,4,5,6,7,8,9,10,11,12,13,14,17,18,19,20,21,22],(rg 24),(rg 25),(rg 26),(rg 27),(rg 28),(rg 27),[0,1,2,3,4,5,6,7,8,9,10,11,12,13,14,15,16,17,18,19,20,21,22,23,24,25,26,29],(rg 31),(rg 32),(rg 33),(rg 27),(rg 35),(rg 36),(rg 37),(rg 38),(rg 39),(rg 38),(rg 41),(rg 42),(rg 43),(rg 44),(rg 45),(rg 46),(rg 47),(rg 48)] []) .ret) (qs [qC 194 .eql 57 5,qM 193 194] (.cond (.t 193) (.seq (qs [qM 195 10,qU 196 195,qM 197 196,qFF 198 197 17 3,qLF 199 197 198,qNF 200 197 199,qCF 201 197 .gtr 200 0,qP 202 197 201,qM 203 202,qFF 204 203 18 3,qLF 205 203 204,qNF 206 203 205,qCF 207 203 .gtr 206 0,qP 208 203 207,qM 209 208,qFF 210 209 19 3,qLF 211 209 210,qNF 212 209 211,qCF 213 209 .eql 212 0,qP 214 209 213,qM 215 214,qFF 216 215 1 3,qLF 217 215 216,qCF 218 215 .neq 217 0,qP 219 215 218,qM 220 219,qFF 221 220 3 3,qLF 222 220 221,qCF 223 220 .neq 222 0,qP 224 220 223,qM 225 224,qFF 226 225 0 4,qLF 227 225 226,qFF 228 225 2 3,qLF 229 225 228,qIF 230 225 6 227 229,qFF 231 225 3 230,qLF 232 225 231,qMF 233 225 2,qBF 234 225 .neq 232 233,qP 235 225 234,qM 236 235,qFF 237 236 4 3,qGF 238 236 4 237,qKF 239 236 125 [238],qUF 240 236 239,qP 241 236 240,qM 242 241,qFF 243 242 8 3,qGF 244 242 9 243,qKF 245 242 124 [244],qUF 246 242 245,qP 247 242 246] (.cond (.t 247) (qs [qY 6 false] .ret) .skip)) (qs [o 11 (.alloc [.bool false,.bool false,.bool false,.bool false])] (.seq (qs [qZ 12 0] (.block 1 (.loop [.ob 3 [],.ob 4 [],.ob 11 [],.tr 2,.pt 3 3 0,.pt 4 4 0,.tr 7,.pt 11 11 0,.tr 12] (.seq (qs [qM 248 12,qF 249 19 3,qL 250 249,qN 251 250,qB 252 .lss 248 251] (xE 252 1)) (.seq (.block 2 (qs [qF 255 19 3,qL 256 255,qM 257 12,qI 258 3 256 257,qG 259 3 258,o 13 (.alloc [zi,zi,.av]),qO 3 13 259] (.seq (.seq (.dz [qF 260 0 13,qL 261 260,qC 262 .lss 261 0,qM 263 262,qFF 264 263 0 13,qLF 265 263 264,qFF 266 263 0 4,qLF 267 263 266,qFF 268 263 2 3,qLF 269 263 268,qIF 270 263 6 267 269,qFF 271 263 4 270,qLF 272 263 271,qBF 273 263 .geq 265 272,qP 274 263 273,qM 275 274,qFF 276 275 0 13,qLF 277 275 276,oF 278 275 (.oD 4 1 (.t 11) (.t 277)),qLF 279 275 278,qP 280 275 279,qM 281 280,qFF 282 281 1 13,qLF 283 281 282,qCF 284 281 .lss 283 0,qP 285 281 284,qM 286 285,qFF 287 286 1 13,qLF 288 286 287,qMF 289 286 7,qBF 290 286 .geq 288 289,qP 291 286 290,qM 292 291,qFF 293 292 2 13,qLF 294 292 293,qGF 295 292 2 4,qMF 296 292 2,qKF 297 292 66 [294,295,296],qUF 298 292 297,qP 299 292 298] [[],[0],[0,1],[0,1,2],(rg 4),(rg 5),(rg 4),[0,1,2,3,6],(rg 4),[0,1,2,3,8],[0,1,2,3,6,7,8,9],[0,1,2,3,6,7,8,9,10],[0,1,2,3,6,7,8,9,10,11],(rg 13),(rg 14),(rg 15),(rg 16),(rg 17),(rg 18),(rg 19),(rg 20),(rg 21),(rg 22),(rg 23),(rg 24),(rg 25),(rg 26),(rg 27),(rg 28),(rg 27),(rg 30),(rg 31),(rg 32),(rg 33),(rg 34),(rg 33),(rg 33),(rg 37),(rg 38),(rg 39)] []) (.cond (.t 299) (qs [qY 6 false] .ret) .skip)) (.er [qF 300 0 13,qL 301 300,o 302 (.oD 4 1 (.t 11) (.t 301)),oN (.store 1 (.t 302) (.c (.bool true)))])))) (.er [qM 253 12,qC 254 .add 253 1,qM 12 254])))))) (qs [qY 6 true] .ret)))) (qs [qC 304 .eql 57 6,qM 303 304] (.cond (.t 303) (qs [qM 305 8,qM 306 305,qFT 307 306 1 3,qLT 308 306 307,qCT 309 306 .eql 308 0,qQ 310 306 309,qM 311 310,qFT 312 311 2 3,qLT 313 311 312,qCT 314 311 .eql 313 0,qQ 315 311 314,qM 316 315,qFT 317 316 3 3,qLT 318 316 317,qCT 319 316 .eql 318 0,qQ 320 316 319,qM 321 320,qFT 322 321 4 3,qGT 323 321 4 322,qKT 324 321 125 [323],qQ 325 321 324,qM 326 325,qFT 327 326 8 3,qGT 328 326 9 327,qMT 329 326 7,qKT 330 326 126 [328,329],qQ 331 326 330,qM 6 331] .ret) (qs [qC 333 .eql 57 7,qM 332 333] (.cond (.t 332) (qs [qM 334 8,qM 335 334,qMT 336 335 9,qQ 337 335 336,qM 338 337,qFT 339 338 2 3,qLT 340 338 339,qCT 341 338 .eql 340 0,qQ 342 338 341,qM 343 342,qFT 344 343 3 3,qLT 345 343 344,qCT 346 343 .eql 345 0,qQ 347 343 346,qM 348 347,qFT 349 348 4 3,qGT 350 348 4 349,qKT 351 348 125 [350],qQ 352 348 351,qM 353 352,qFT 354 353 8 3,qGT 355 353 9 354,qKT 356 353 124 [355],qQ 357 353 356,qM 6 357] .ret) .skip)))))))))))))) (qs [qY 6 false] .ret))))))
def a91:ay:=⟨3,358,[.tmp 6],v91.code⟩
def v92:bu:=qs [qY 2 false] (qs [qM 7 0,qK 8 127 [7],qM 6 8,qE 9 0 6,qE 10 1 6,qE 11 2 6,qM 3 9,qM 4 10,qM 5 11] (qs [qM 12 5,qC 13 .eql 12 0,qM 14 13,qMT 15 14 3,qNT 16 14 15,qCT 17 14 .eql 16 1,qQ 18 14 17,qM 19 18,qMT 20 19 3,oT 21 19 (.jv 4 (.t 20) (i64 0)),qFT 22 19 0 21,qLT 23 19 22,qCT 24 19 .eql 23 1,qQ 25 19 24,qM 26 25,qMT 27 26 3,oT 28 26 (.jv 4 (.t 27) (i64 0)),qFT 29 26 1 28,qLT 30 26 29,qMT 31 26 0,qBT 32 26 .eql 30 31,qQ 33 26 32,qM 2 33] .ret))
def a92:ay:=⟨1,34,[.tmp 2],v92.code⟩
def v93:bu:=qs [qY 2 false] (qs [qM 3 0,qC 4 .geq 3 0,qM 5 4,qMT 6 5 0,qCT 7 5 .leq 6 2147483647,qQ 8 5 7,qM 2 8] .ret)
def a93:ay:=⟨1,9,[.tmp 2],v93.code⟩
def v94:bu:=qs [qY 2 false] (.seq (qs [qZ 3 0] (.block 0 (.loop [.tr 0,.tr 3] (.seq (qs [qM 7 3,qM 8 0,qN 9 8,qB 10 .lss 7 9] (xE 10 0)) (.seq (.block 1 (qs [qM 13 0,qM 14 3,qI 15 19 13 14,qG 16 19 15,o 4 (.alloc [zi,.str ⟨#[]⟩,.str ⟨#[]⟩,zi,zi,.str ⟨#[]⟩,.av,zi,zi,zi,.str ⟨#[]⟩,.av,zi,zi,.str ⟨#[]⟩,.av,.av,.av,.av]),qO 19 4 16] (qs [qY 5 false] (.seq (qs [qF 17 0 4,qL 18 17] (.block 2 (qs [qC 20 .eql 18 1,qM 19 20] (.cond (.t 19) (.er [qF 21 1 4,qL 22 21,qK 23 92 [22],qM 24 23,qFT 25 24 3 4,qGT 26 24 4 25,qKT 27 24 128 [26],qQ 28 24 27,qM 5 28]) (qs [qC 30 .eql 18 2,qM 29 30] (.cond (.t 29) (.er [qF 31 7 4,qG 32 9 31,qK 33 129 [32],qM 34 33,qFT 35 34 16 4,qLT 36 34 35,qKT 37 34 94 [36],qQ 38 34 37,qM 39 38,qFT 40 39 17 4,qLT 41 39 40,qKT 42 39 94 [41],qQ 43 39 42,qM 5 43]) (qs [qC 45 .eql 18 3,qM 44 45] (.cond (.t 44) (.er [qF 46 7 4,qG 47 9 46,qK 48 129 [47],qM 49 48,qFT 50 49 16 4,qLT 51 49 50,qKT 52 49 94 [51],qQ 53 49 52,qM 5 53]) (qs [qC 55 .eql 18 4,qM 54 55] (.cond (.t 54) (.er [qF 56 1 4,qL 57 56,qK 58 92 [57],qM 59 58,qFT 60 59 2 4,qLT 61 59 60,qKT 62 59 92 [61],qQ 63 59 62,qM 64 63,qFT 65 64 3 4,qGT 66 64 4 65,qKT 67 64 128 [66],qQ 68 64 67,qM 5 68]) (qs [qC 70 .eql 18 5,qM 69 70] (.cond (.t 69) (qs [qF 71 1 4,qL 72 71,qK 73 92 [72],qM 74 73,qFT 75 74 18 4,qLT 76 74 75,qNT 77 74 76,qCT 78 74 .gtr 77 0,qQ 79 74 78,qM 5 79] (qs [qZ 6 0] (.block 3 (.loop [.ob 4 [],.tr 0,.tr 3,.pt 4 4 0,.tr 5,.tr 6] (.seq (qs [qM 80 6,qF 81 18 4,qL 82 81,qN 83 82,qB 84 .lss 80 83] (xE 84 3)) (.seq (.block 4 (.er [qM 87 5,qM 88 87,qFT 89 88 18 4,qLT 90 88 89,qMT 91 88 6,qIT 92 88 3 90 91,qFT 93 88 0 92,qLT 94 88 93,qKT 95 88 92 [94],qQ 96 88 95,qM 97 96,qFT 98 97 18 4,qLT 99 97 98,qMT 100 97 6,qIT 101 97 3 99 100,qFT 102 97 1 101,qLT 103 97 102,qKT 104 97 92 [103],qQ 105 97 104,qM 106 105,qFT 107 106 18 4,qLT 108 106 107,qMT 109 106 6,qIT 110 106 3 108 109,qFT 111 106 2 110,qLT 112 106 111,qKT 113 106 94 [112],qQ 114 106 113,qM 5 114])) (.er [qM 85 6,qC 86 .add 85 1,qM 6 86]))))))) (qs [qC 116 .eql 18 6,qM 115 116] (.cond (.t 115) (.er [qF 117 7 4,qG 118 9 117,qK 119 129 [118],qM 5 119]) (qs [qC 121 .eql 18 7,qM 120 121] (.cond (.t 120) (.er [qF 122 1 4,qL 123 122,qK 124 92 [123],qM 5 124]) .skip)))))))))))))))) (qs [qM 125 5,qU 126 125] (.cond (.t 126) (qs [qY 2 false] .ret) .skip)))))) (.er [qM 11 3,qC 12 .add 11 1,qM 3 12])))))) (qs [qY 2 true] .ret))
def a94:ay:=⟨1,127,[.tmp 2],v94.code⟩
def v95:bu:=qs [o 3 (.box (.t 1)),o 4 (.alloc [zi,zi,zi,.av])] (qs [qF 7 0 3,qL 8 7,o 9 (.build [zi,zi,zi,.av] [(0,1,.t 8)]),o 5 (.alloc [zi,zi,zi,.av]),qO 4 5 9] (.seq (.join qQW (qs [qF 10 0 3,qL 11 10,qC 12 .eql 11 1] (.cond (.t 12) (.er [qF 13 1 3,qL 14 13,qF 15 1 5,qO 1 15 14]) .skip))) (.seq (.join qQW (qs [qF 16 0 3,qL 17 16,qC 18 .eql 17 2] (.cond (.t 18) (.dz [qM 19 0,qM 20 0,qX 21 20,qF 22 5 21,qL 23 22,qF 24 2 3,qL 25 24,o 26 (.call 71 [.t 19,.t 23,.t 25] .share),qF 27 2 5,qO 1 27 26] [[],[],[1],[1,2],[1,2,3],[],[5],(rg 7),(rg 8),(rg 9)] []) .skip))) (.seq (qs [qZ 6 0] (.block 0 (.loop [.ob 0 [(3,1),(6,1)],.ob 3 [],.ob 4 [(3,4)],.ob 5 [(3,4)],.pt 0 0 0,.pt 3 3 0,.pt 4 4 0,.pt 5 5 0,.tr 6] (.seq (qs [qM 28 6,qF 29 3 3,qL 30 29,qN 31 30,qB 32 .lss 28 31] (xE 32 0)) (.seq (.block 1 (.dz [qF 35 3 5,qL 36 35,qM 37 0,qF 38 3 3,qL 39 38,qM 40 6,qI 41 4 39 40,qG 42 4 41,o 43 (.call 95 [.t 37,.t 42] .share),oZ 44 (.bx 1 [zi,zi,zi,.av] [(0,4,.t 43)]),qA 45 4 48 36 44,qF 46 3 5,qO 1 46 45] [[],[0],[],[],[3],[],[3,4,5],[3,4,5,6],[2,3,4,5,6,7],[2,3,4,5,6,7,8],(rg 10),(rg 11),(rg 12)] [(1,8),(1,9)])) (.er [qM 33 6,qC 34 .add 33 1,qM 6 34])))))) (qs [qG 47 4 5,qO 4 4 47] .ret)))))
def a95:ay:=⟨2,48,[.cell 4 (some 4)],v95.code⟩
def v96:bu:=qs [o 3 (.box (.t 1)),o 4 (.alloc zL3)] (qs [qM 6 0,qF 7 1 3,qG 8 4 7,o 9 (.call 95 [.t 6,.t 8] .share),o 5 (.alloc [zi,zi,zi,.av]),qO 4 5 9] (.seq (.dz [qF 10 0 3,qL 11 10,qG 12 4 5,qM 13 0,qF 14 5 3,qG 15 4 14,o 16 (.call 95 [.t 13,.t 15] .share),o 17 (.build zL3 [(0,1,.t 11),(1,4,.t 12),(5,4,.t 16)]),qO 9 4 17] [[],[0],[],[],[],[4],[3,4,5],(rg 7),(rg 8)] [(1,6),(2,6)]) .ret))
def a96:ay:=⟨2,18,[.cell 4 (some 9)],v96.code⟩
def v97:bu:=qs [qZ 6 0,o 7 (.mv (.c (.av)))] (qs [qM 10 0,qX 11 10,qF 12 3 11,qL 13 12,qM 14 1,qK 15 69 [13,14],qM 8 15] (.seq (qs [qM 16 8,qC 17 .lss 16 0] (.cond (.t 17) (qs [qM 18 0,o 19 (.call 68 [.t 18,(i64 8)] .share)] (qs [qZ 6 0,o 7 (.mv (.c (.av)))] .ret)) .skip)) (qs [qM 20 0,qX 21 20,qF 22 0 21,qF 23 0 22,qL 24 23,qM 25 8,qI 26 6 24 25,qF 27 4 26,qL 28 27,qM 9 28] (.seq (qs [qM 29 2] (.cond (.t 29) (.er [qM 30 0,qX 31 30,qF 32 0 31,qF 33 0 32,qL 34 33,qM 35 8,qI 36 6 34 35,qF 37 3 36,qL 38 37,qM 9 38]) .skip)) (.seq (.seq (.dz [qM 39 0,qX 40 39,qF 41 6 40,qL 42 41,qM 43 9,qK 44 69 [42,43],qM 45 0,qX 46 45,qF 47 4 46,qL 48 47,qB 49 .neq 44 48] [[],[0],[0,1],[0,1,2],[],(rg 5),[],[6],[6,7],[6,7,8],(rg 10)] []) (.cond (.t 49) (.er [qM 50 0,o 51 (.call 68 [.t 50,(i64 9)] .share)]) .skip)) (.seq (.dz [qM 52 8,qM 53 0,qX 54 53,qF 55 0 54,qF 56 0 55,qL 57 56,qM 58 8,qI 59 6 57 58,qF 60 5 59,qL 61 60,qM 6 52,qM 7 61] [[],[],[1],[1,2],[1,2,3],[1,2,3,4],[],[1,2,3,4,5,6],[1,2,3,4,5,6,7],[1,2,3,4,5,6,7,8],[0],(rg 11)] []) .ret))))))
def a97:ay:=⟨3,62,[.tmp 6,.tmp 7],v97.code⟩
def v99:bu:=qs [o 1 (.box (.t 0)),qY 2 false] (.seq (qs [qF 5 2 1,qL 6 5,qN 7 6,qZ 8 0] (.block 0 (.loop [.ob 1 [],.pt 1 1 0,.tr 6,.tr 7,.tr 8] (qs [qB 9 .lss 8 7] (.seq (xE 9 0) (.seq (.block 1 (qs [qM 10 8,qI 11 1 6 8,qL 12 11,qM 3 10,qM 4 12] (qs [qM 13 4,qC 14 .lss 13 0,qM 15 14,qMF 16 15 4,qFF 17 15 0 1,qLF 18 15 17,qBF 19 15 .geq 16 18,qP 20 15 19,qM 21 20,qMF 22 21 3,qCF 23 21 .gtr 22 0,qMF 24 21 23,qFT 25 24 2 1,qLT 26 24 25,qMT 27 24 3,qCT 28 24 .sub 27 1,qIT 29 24 1 26 28,qLT 30 24 29,qMT 31 24 4,qBT 32 24 .geq 30 31,qQF 33 21 24 32,qP 34 21 33] (.cond (.t 34) (qs [qY 2 false] .ret) .skip)))) (.er [qC 35 .add 8 1,qM 8 35]))))))) (qs [qY 2 true] .ret))
def a99:ay:=⟨1,36,[.tmp 2],v99.code⟩
def YI:bu:=qs [o 4 (.box (.t 0)),o 6 (.box (.t 2)),o 7 (.box (.t 3)),qY 8 false] (.seq (qs [qF 12 0 7,qL 13 12,qC 14 .lss 13 0,qM 15 14,qFF 16 15 0 7,qLF 17 15 16,qFF 18 15 0 6,qLF 19 15 18,qBF 20 15 .geq 17 19,qP 21 15 20,qM 22 21,qFF 23 22 1 7,qLF 24 22 23,qCF 25 22 .lss 24 0,qP 26 22 25,qM 27 26,qFF 28 27 1 7,qLF 29 27 28,qFF 30 27 0 6,qLF 31 27 30,qBF 32 27 .geq 29 31,qP 33 27 32] (.cond (.t 33) (qs [qY 8 false] .ret) .skip)) (qs [qG 35 19 7,qK 36 136 [35],qM 34 36,qE 37 0 34,qE 38 1 34,qM 9 37,qM 10 38] (.seq (qs [qM 39 10,qU 40 39] (.cond (.t 40) (qs [qY 8 false] .ret) .skip)) (qs [qF 41 1 4,qL 42 41,o 43 (.call 137 [.t 42] .share),qM 11 43] (qs [qM 44 11,qM 45 1,qM 46 9,qI 47 2 44 45,qF 48 1 47,qO 1 48 46] (.seq (qs [qF 49 2 7,qL 50 49,qC 51 .eql 50 0] (.cond (.t 51) (.er [qM 52 11,qM 53 1,qM 54 11,qM 55 1,qI 56 2 54 55,qF 57 0 56,qL 58 57,o 59 (.GL true [.t 58,(i64 1)]),qI 60 2 52 53,qF 61 0 60,qO 1 61 59]) .skip)) (qs [qF 62 0 4,qL 63 62,qM 64 11,o 65 (.build [.av,.av] [(0,1,.t 63),(1,1,.t 64)]),qK 66 60 [65],qM 8 66] .ret)))))))
def Wv:ay:=⟨4,67,[.tmp 8],YI.code⟩
def YH:bu:=qs [o 2 (.box (.t 0)),qY 4 false] (qs [o 5 (.mv (.c (.av)))] (.seq (qs [qG 8 3 2,qM 9 1,qK 10 50 [8,9],qN 11 10,qZ 12 0] (.block 0 (.loop [.ob 2 [],.tr 1,.pt 2 2 0,.sl 5 19,.tr 10,.tr 11,.tr 12] (qs [qB 13 .lss 12 11] (.seq (xE 13 0) (.seq (.block 1 (qs [qI 14 1 10 12,qL 15 14,qM 7 15] (.er [qM 16 5,qF 17 1 2,qL 18 17,qM 19 7,qI 20 19 18 19,qG 21 19 20,oZ 22 (.bx 1 zL2 [(0,19,.t 21)]),qA 23 19 200 16 22,qM 5 23]))) (.er [qC 24 .add 12 1,qM 12 24]))))))) (.seq (.block 2 (qs [qM 26 5,qN 27 26,qC 28 .eql 27 0,qM 25 28] (.cond (.t 25) (qs [qM 29 1,qC 30 .eql 29 1,qM 4 30] .ret) (qs [qM 32 1,qC 33 .eql 32 1,qM 31 33] (.cond (.t 31) (qs [qY 4 false] .ret) (qs [qM 35 5,o 36 (.jv 19 (.t 35) (i64 0)),qF 37 2 36,qL 38 37,qC 39 .eql 38 4,qM 34 39] (.cond (.t 34) (qs [qM 40 5,qK 41 138 [40],qM 4 41] .ret) (qs [qM 43 5,o 44 (.jv 19 (.t 43) (i64 0)),qF 45 2 44,qL 46 45,qC 47 .eql 46 2,qM 42 47] (.cond (.t 42) (.seq (.dz [qM 48 5,qN 49 48,qC 50 .eql 49 2,qM 51 50,qMT 52 51 5,oT 53 51 (.jv 19 (.t 52) (i64 0)),qGT 54 51 19 53,qMT 55 51 5,oT 56 51 (.jv 19 (.t 55) (i64 1)),qGT 57 51 19 56,qKT 58 51 139 [54,57],qQ 59 51 58,qM 4 59] [[],[0],[0,1],[0,1,2],(rg 4),(rg 5),(rg 6),(rg 4),[0,1,2,3,7],[0,1,2,3,7,8],(rg 10),(rg 11),(rg 12)] []) .ret) .skip))))))))) (qs [qM 60 5,qN 61 60,qC 62 .eql 61 1,qM 4 62] .ret))))
def Wu:ay:=⟨2,63,[.tmp 4],YH.code⟩
def YG:bu:=qs [o 1 (.box (.t 0)),qY 2 false] (qs [qF 14 0 1,qL 15 14,o 16 (.Al 1 8 [zi] (.t 15)),qM 3 16] (.seq (qs [qF 17 1 1,qL 18 17,qN 19 18,qZ 20 0] (.block 0 (.loop [.ob 1 [],.pt 1 1 0,.sl 3 1,.tr 18,.tr 19,.tr 20] (qs [qB 21 .lss 20 19] (.seq (xE 21 0) (.seq (.block 1 (qs [qI 22 19 18 20,qG 23 19 22,o 5 (.alloc zL2),qO 19 5 23] (qs [qF 24 2 1,qL 25 24,qF 26 0 5,qL 27 26,qK 28 140 [25,27],qU 29 28] (.cond (.t 29) (.er [qM 30 3,qF 31 1 5,qL 32 31,qI 33 1 30 32,qL 34 33,qC 35 .add 34 1,qI 36 1 30 32,qO 1 36 35]) .skip)))) (.er [qC 37 .add 20 1,qM 20 37]))))))) (qs [o 6 (.mv (.c (.av)))] (qs [qZ 7 0] (.seq (qs [qM 38 3,qN 39 38,qZ 40 0] (.block 2 (.loop [.ob 1 [],.pt 1 1 0,.sl 3 1,.sl 6 1,.tr 7,.ps 38 3,.tr 39,.tr 40] (qs [qB 41 .lss 40 39] (.seq (xE 41 2) (.seq (.block 3 (qs [qM 42 40,qI 43 1 38 40,qL 44 43,qM 8 42,qM 9 44] (qs [qM 45 9,qC 46 .eql 45 0] (.cond (.t 46) (.er [qM 47 6,qM 48 8,o 49 (.bx 1 [zi] [(0,1,.t 48)]),qA 50 1 8 47 49,qM 6 50]) .skip)))) (.er [qC 51 .add 40 1,qM 40 51]))))))) (.seq (.block 4 (.loop [.ob 1 [],.pt 1 1 0,.sl 3 1,.sl 6 1,.tr 7] (.seq (qs [qM 52 6,qN 53 52,qC 54 .gtr 53 0] (xE 54 4)) (.block 5 (qs [qM 55 6,o 56 (.jv 1 (.t 55) (i64 0)),qL 57 56,qM 10 57] (qs [qM 58 6,o 59 (.zm 1 (.t 58) (some (i64 1)) none none),qM 6 59] (qs [qM 60 7,qC 61 .add 60 1,qM 7 61] (.seq (qs [qF 62 2 1,qL 63 62,qM 64 10,qK 65 140 [63,64]] (.cond (.t 65) (.exit 5) .skip)) (qs [qG 66 3 1,qM 67 10,qK 68 50 [66,67],qN 69 68,qZ 70 0] (.block 6 (.loop [.ob 1 [],.pt 1 1 0,.sl 3 1,.sl 6 1,.tr 7,.tr 68,.tr 69,.tr 70] (qs [qB 71 .lss 70 69] (.seq (xE 71 6) (.seq (.block 7 (qs [qI 72 1 68 70,qL 73 72,qM 12 73] (qs [qF 74 1 1,qL 75 74,qM 76 12,qI 77 19 75 76,qF 78 1 77,qL 79 78,qM 13 79] (qs [qM 80 3,qM 81 13,qI 82 1 80 81,qL 83 82,qC 84 .sub 83 1,qI 85 1 80 81,qO 1 85 84] (qs [qM 86 3,qM 87 13,qI 88 1 86 87,qL 89 88,qC 90 .eql 89 0] (.cond (.t 90) (.er [qM 91 6,qM 92 13,o 93 (.bx 1 [zi] [(0,1,.t 92)]),qA 94 1 8 91 93,qM 6 94]) .skip)))))) (.er [qC 95 .add 70 1,qM 70 95]))))))))))))))) (qs [qM 96 7,qF 97 0 1,qL 98 97,qB 99 .lss 96 98,qM 2 99] .ret)))))))
def Wt:ay:=⟨1,100,[.tmp 2],YG.code⟩
def YF:bu:=qs [o 1 (.box (.t 0)),qY 2 false] (qs [qZ 3 0] (.seq (qs [qF 8 5 1,qL 9 8,qN 10 9,qZ 11 0] (.block 0 (.loop [.ob 1 [],.pt 1 1 0,.tr 3,.tr 9,.tr 10,.tr 11] (qs [qB 12 .lss 11 10] (.seq (xE 12 0) (.seq (.block 1 (qs [qM 13 11,qI 14 1 9 11,qL 15 14,qM 4 13,qM 5 15] (.seq (qs [qM 16 5,qN 17 16,qF 18 4 1,qL 19 18,qB 20 .neq 17 19] (.cond (.t 20) (qs [qY 2 false] .ret) .skip)) (qs [qM 21 5,qN 22 21,qZ 23 0] (.block 2 (.loop [.ob 1 [],.pt 1 1 0,.tr 3,.tr 4,.tr 9,.tr 10,.tr 11,.tr 21,.tr 22,.tr 23] (qs [qB 24 .lss 23 22] (.seq (xE 24 2) (.seq (.block 3 (qs [qI 25 1 21 23,qL 26 25,qM 7 26] (.seq (qs [qM 27 7,qF 28 5 1,qL 29 28,qN 30 29,qC 31 .sub 30 1,o 32 (.call 81 [.t 27,(i64 (-1)),.t 31] .borrow),qU 33 32] (.cond (.t 33) (qs [qY 2 false] .ret) .skip)) (qs [qM 34 7,o 35 (.bin .neq (.t 34) (i64 (-1)))] (.cond (.t 35) (.er [qM 36 3,qM 37 4,qM 38 7,o 39 (.GL true [.t 36,.t 37,.t 38]),qM 3 39]) .skip))))) (.er [qC 40 .add 23 1,qM 23 40])))))))))) (.er [qC 41 .add 11 1,qM 11 41]))))))) (qs [qF 42 5 1,qL 43 42,qN 44 43,qC 45 .eql 44 0,qM 46 45,qMF 47 46 3,qFF 48 46 5 1,qLF 49 46 48,qNF 50 46 49,qCF 51 46 .sub 50 1,qBF 52 46 .eql 47 51,qMF 53 46 52,qFT 54 53 5 1,qLT 55 53 54,qNT 56 53 55,qCT 57 53 .leq 56 8,qQF 58 46 53 57,qP 59 46 58,qM 2 59] .ret)))
def Ws:ay:=⟨1,60,[.tmp 2],YF.code⟩
def YE:bu:=qs [o 2 (.box (.t 0)),o 3 (.box (.t 1)),qY 4 false] (.seq (.dz [qF 12 4 3,qG 13 4 12,qK 14 141 [13],qF 15 8 3,qG 16 9 15,qK 17 142 [16],qM 5 14,qM 6 17] [[],[0],[0,1],[],[3],(rg 5),(rg 6),(rg 7)] []) (.seq (.dz [qF 18 17 3,qL 19 18,qN 20 19,qC 21 .eql 20 0,qF 22 19 3,qL 23 22,qN 24 23,qC 25 .eql 24 0,qM 7 21,qM 8 25] [[],[0],[0,1],[0,1,2],[],[4],[4,5],[4,5,6],(rg 4),(rg 9)] []) (.seq (.dz [qF 26 18 3,qL 27 26,qN 28 27,qC 29 .eql 28 0,qF 30 1 3,qL 31 30,qC 32 .eql 31 0,qM 9 29,qM 10 32] [[],[0],[0,1],[0,1,2],[],[4],[4,5],(rg 4),(rg 8)] []) (qs [qF 33 2 3,qL 34 33,qC 35 .eql 34 0,qM 36 35,qFT 37 36 3 3,qLT 38 36 37,qCT 39 36 .eql 38 0,qQ 40 36 39,qM 11 40] (.seq (qs [qF 41 0 3,qL 42 41] (.block 0 (qs [qC 44 .eql 42 1,qM 43 44] (.cond (.t 43) (qs [qM 45 6,qM 46 45,qMT 47 46 7,qQ 48 46 47,qM 49 48,qMT 50 49 9,qQ 51 49 50,qM 52 51,qMT 53 52 8,qQ 54 52 53,qM 55 54,qMT 56 55 11,qQ 57 55 56,qM 58 57,qFT 59 58 1 3,qLT 60 58 59,qFT 61 58 3 2,qLT 62 58 61,qCT 63 58 .sub 62 1,oT 64 58 (.call 81 [.t 60,(i64 0),.t 63] .borrow),qQ 65 58 64,qM 66 65,qFT 67 66 4 3,qGT 68 66 4 67,qFT 69 66 3 2,qLT 70 66 69,qKT 71 66 143 [68,70],qQ 72 66 71,qM 4 72] .ret) (qs [qC 74 .eql 42 7,qM 73 74] (.cond (.t 73) (qs [qM 75 5,qM 76 75,qMT 77 76 6,qQ 78 76 77,qM 79 78,qMT 80 79 7,qQ 81 79 80,qM 82 81,qMT 83 82 9,qQ 84 82 83,qM 85 84,qMT 86 85 8,qQ 87 85 86,qM 88 87,qMT 89 88 11,qQ 90 88 89,qM 91 90,qFT 92 91 1 3,qLT 93 91 92,qFT 94 91 3 2,qLT 95 91 94,qCT 96 91 .sub 95 1,oT 97 91 (.call 81 [.t 93,(i64 0),.t 96] .borrow),qQ 98 91 97,qM 4 98] .ret) (qs [qC 100 .eql 42 6,qM 99 100] (.cond (.t 99) (qs [qM 101 5,qM 102 101,qMT 103 102 7,qQ 104 102 103,qM 105 104,qMT 106 105 9,qQ 107 105 106,qM 108 107,qMT 109 108 8,qQ 110 108 109,qM 111 110,qMT 112 111 11,qQ 113 111 112,qM 114 113,qMT 115 114 10,qQ 116 114 115,qM 117 116,qFT 118 117 8 3,qGT 119 117 9 118,qFT 120 117 3 2,qLT 121 117 120,qKT 122 117 144 [119,121],qQ 123 117 122,qM 4 123] .ret) (qs [qC 125 .eql 42 3,qM 124 125] (.cond (.t 124) (qs [qM 126 5,qM 127 126,qMT 128 127 9,qQ 129 127 128,qM 130 129,qMT 131 130 8,qQ 132 130 131,qM 133 132,qMT 134 133 11,qQ 135 133 134,qM 136 135,qMT 137 136 10,qQ 138 136 137,qM 139 138,qFT 140 139 8 3,qGT 141 139 9 140,qFT 142 139 3 2,qLT 143 139 142,qKT 144 139 144 [141,143],qQ 145 139 144,qM 146 145,qGT 147 146 4 2,qFT 148 146 17 3,qLT 149 146 148,qKT 150 146 83 [147,149],qQ 151 146 150,qM 4 151] .ret) (qs [qC 153 .eql 42 2,qM 152 153] (.cond (.t 152) (qs [qM 154 5,qM 155 154,qMT 156 155 8,qQ 157 155 156,qM 158 157,qMT 159 158 11,qQ 160 158 159,qM 161 160,qMT 162 161 10,qQ 163 161 162,qM 164 163,qFT 165 164 8 3,qGT 166 164 9 165,qFT 167 164 3 2,qLT 168 164 167,qKT 169 164 144 [166,168],qQ 170 164 169,qM 171 170,qGT 172 171 4 2,qFT 173 171 17 3,qLT 174 171 173,qKT 175 171 83 [172,174],qQ 176 171 175,qM 177 176,qGT 178 177 4 2,qFT 179 177 18 3,qLT 180 177 179,qKT 181 177 83 [178,180],qQ 182 177 181,qM 4 182] .ret) (qs [qC 184 .eql 42 4,qM 183 184] (.cond (.t 183) (qs [qM 185 6,qM 186 185,qMT 187 186 7,qQ 188 186 187,qM 189 188,qMT 190 189 9,qQ 191 189 190,qM 192 191,qMT 193 192 8,qQ 194 192 193,qM 195 194,qMT 196 195 10,qQ 197 195 196,qM 198 197,qGT 199 198 4 2,qFT 200 198 2 3,qLT 201 198 200,oT 202 198 (.call 145 [.t 199,.t 201,(.c (.func 146))] .borrow),qQ 203 198 202,qM 204 203,qGT 205 204 4 2,qFT 206 204 2 3,qLT 207 204 206,qFT 208 204 3 3,qLT 209 204 208,qKT 210 204 147 [205,207,209],qQ 211 204 210,qM 212 211,qFT 213 212 4 3,qGT 214 212 4 213,qFT 215 212 3 2,qLT 216 212 215,qKT 217 212 143 [214,216],qQ 218 212 217,qM 4 218] .ret) (qs [qC 220 .eql 42 5,qM 219 220] (.cond (.t 219) (qs [qM 221 5,qM 222 221,qMT 223 222 6,qQ 224 222 223,qM 225 224,qMT 226 225 7,qQ 227 225 226,qM 228 227,qMT 229 228 9,qQ 230 228 229,qM 231 230,qMT 232 231 10,qQ 233 231 232,qM 234 233,qFT 235 234 3 3,qLT 236 234 235,qCT 237 234 .eql 236 0,qQ 238 234 237,qM 239 238,qGT 240 239 4 2,qFT 241 239 2 3,qLT 242 239 241,oT 243 239 (.call 145 [.t 240,.t 242,(.c (.func 148))] .borrow),qQ 244 239 243,qM 245 244,qGT 246 245 4 2,qFT 247 245 2 3,qLT 248 245 247,qFT 249 245 19 3,qLT 250 245 249,qKT 251 245 149 [246,248,250],qQ 252 245 251,qM 4 252] .ret) .skip)))))))))))))))) (qs [qY 4 false] .ret))))))
def Wq:ay:=⟨2,253,[.tmp 4],YE.code⟩
def YD:bu:=qs [o 1 (.box (.t 0)),o 2 (.alloc [zi,zi,zi,.av])] (qs [qF 6 3 1,qL 7 6,qM 3 7] (qs [qF 8 3 1,oN (.store 1 (.t 8) (.c (.av)))] (.seq (qs [qM 9 3,qN 10 9,qZ 11 0] (.block 0 (.loop [.ob 1 [(3,4)],.ob 2 [(3,4)],.pt 1 1 0,.pt 2 2 0,.tr 9,.tr 10,.tr 11] (qs [qB 12 .lss 11 10] (.seq (xE 12 0) (.seq (.block 1 (qs [qI 13 4 9 11,qG 14 4 13,o 5 (.alloc [zi,zi,zi,.av]),qO 4 5 14] (.dz [qF 15 3 1,qL 16 15,qG 17 4 5,qK 18 106 [17],oZ 19 (.bx 1 [zi,zi,zi,.av] [(0,4,.t 18)]),qA 20 4 48 16 19,qF 21 3 1,qO 1 21 20] [[],[0],[],[2],[2,3],(rg 5),(rg 6),(rg 7)] [(1,4)]))) (.er [qC 22 .add 11 1,qM 11 22]))))))) (qs [qG 23 4 1,qO 4 2 23] .ret))))
def Wp:ay:=⟨1,24,[.cell 2 (some 4)],YD.code⟩
def YC:bu:=qs [o 1 (.box (.t 0)),o 2 (.alloc zL3)] (.seq (.dz [qF 3 0 1,qL 4 3,qF 5 1 1,qG 6 4 5,qK 7 106 [6],qF 8 5 1,qG 9 4 8,qK 10 106 [9],o 11 (.build zL3 [(0,1,.t 4),(1,4,.t 7),(5,4,.t 10)]),qO 9 2 11] [[],[0],[],[2],[2,3],[],[5],[2,3,4,5,6],(rg 8),(rg 9)] []) .ret)
def Wo:ay:=⟨1,12,[.cell 2 (some 9)],YC.code⟩
def YB:bu:=qs [o 1 (.box (.t 0)),o 2 (.alloc zL3)] (qs [qG 4 9 1,qK 5 107 [4],o 3 (.alloc zL3),qO 9 3 5] (qs [qF 6 0 1,qL 7 6,qK 8 41 [7],qF 9 0 3,qO 1 9 8] (qs [qG 10 9 3,qO 9 2 10] .ret)))
def Wn:ay:=⟨1,11,[.cell 2 (some 9)],YB.code⟩
def YA:bu:=qs [o 2 (.box (.t 0)),qY 4 false] (.seq (.block 0 (qs [qF 6 0 2,qL 7 6,qC 8 .eql 7 1,qM 5 8] (.cond (.t 5) (qs [qF 9 1 2,qL 10 9,qC 11 .geq 10 0,qM 12 11,qFT 13 12 1 2,qLT 14 12 13,qCT 15 12 .leq 14 2147483647,qQ 16 12 15,qM 17 16,qFT 18 17 2 2,qLT 19 17 18,qCT 20 17 .eql 19 0,qQ 21 17 20,qM 22 21,qFT 23 22 3 2,qLT 24 22 23,qNT 25 22 24,qCT 26 22 .eql 25 0,qQ 27 22 26,qM 4 27] .ret) (qs [qF 29 0 2,qL 30 29,qC 31 .eql 30 2,qM 28 31] (.cond (.t 28) (qs [qF 32 1 2,qL 33 32,qC 34 .eql 33 0,qM 35 34,qFT 36 35 2 2,qLT 37 35 36,qCT 38 35 .geq 37 0,qQ 39 35 38,qM 40 39,qFT 41 40 2 2,qLT 42 40 41,qMT 43 40 1,qBT 44 40 .lss 42 43,qQ 45 40 44,qM 46 45,qFT 47 46 3 2,qLT 48 46 47,qNT 49 46 48,qCT 50 46 .eql 49 0,qQ 51 46 50,qM 4 51] .ret) (qs [qF 53 0 2,qL 54 53,qC 55 .eql 54 3,qM 52 55] (.cond (.t 52) (qs [qF 56 1 2,qL 57 56,qC 58 .eql 57 0,qM 59 58,qFT 60 59 2 2,qLT 61 59 60,qCT 62 59 .eql 61 0,qQ 63 59 62,qM 64 63,qFT 65 64 3 2,qLT 66 64 65,qNT 67 64 66,qCT 68 64 .eql 67 1,qQ 69 64 68,qM 70 69,qFT 71 70 3 2,qLT 72 70 71,oT 73 70 (.jv 4 (.t 72) (i64 0)),qGT 74 70 4 73,qMT 75 70 1,qKT 76 70 123 [74,75],qQ 77 70 76,qM 4 77] .ret) (qs [qF 79 0 2,qL 80 79,qC 81 .geq 80 4,qM 82 81,qFT 83 82 0 2,qLT 84 82 83,qCT 85 82 .leq 84 8,qQ 86 82 85,qM 78 86] (.cond (.t 78) (qs [qF 87 1 2,qL 88 87,qC 89 .eql 88 0,qM 90 89,qFT 91 90 2 2,qLT 92 90 91,qCT 93 90 .eql 92 0,qQ 94 90 93,qM 95 94,qFT 96 95 3 2,qLT 97 95 96,qNT 98 95 97,qCT 99 95 .eql 98 2,qQ 100 95 99,qM 101 100,qFT 102 101 3 2,qLT 103 101 102,oT 104 101 (.jv 4 (.t 103) (i64 0)),qGT 105 101 4 104,qMT 106 101 1,qKT 107 101 123 [105,106],qQ 108 101 107,qM 109 108,qFT 110 109 3 2,qLT 111 109 110,oT 112 109 (.jv 4 (.t 111) (i64 1)),qGT 113 109 4 112,qMT 114 109 1,qKT 115 109 123 [113,114],qQ 116 109 115,qM 4 116] .ret) .skip))))))))) (qs [qY 4 false] .ret))
def Wm:ay:=⟨2,117,[.tmp 4],YA.code⟩
def Yz:bu:=qs [o 1 (.box (.t 0)),qY 2 false] (qs [qF 3 0 1,qL 4 3,qC 5 .eql 4 0,qM 6 5,qFT 7 6 1 1,qGT 8 6 4 7,qKT 9 6 125 [8],qQ 10 6 9,qM 11 10,qFT 12 11 5 1,qGT 13 11 4 12,qKT 14 11 125 [13],qQ 15 11 14,qM 2 15] .ret)
def Wl:ay:=⟨1,16,[.tmp 2],Yz.code⟩
def Yy:bu:=qs [o 1 (.box (.t 0)),qY 2 false] (qs [qF 3 0 1,qL 4 3,qC 5 .eql 4 0,qM 6 5,qFT 7 6 1 1,qLT 8 6 7,qCT 9 6 .eql 8 0,qQ 10 6 9,qM 11 10,qFT 12 11 2 1,qLT 13 11 12,qCT 14 11 .eql 13 0,qQ 15 11 14,qM 16 15,qFT 17 16 3 1,qLT 18 16 17,qNT 19 16 18,qCT 20 16 .eql 19 0,qQ 21 16 20,qM 2 21] .ret)
def Wk:ay:=⟨1,22,[.tmp 2],Yy.code⟩
def Yx:bu:=qs [o 2 (.box (.t 0)),qY 4 false] (qs [qF 5 0 2,qL 6 5,qC 7 .geq 6 1,qM 8 7,qFT 9 8 0 2,qLT 10 8 9,qCT 11 8 .leq 10 6,qQ 12 8 11,qM 13 12,qFT 14 13 1 2,qGT 15 13 4 14,qMT 16 13 1,qKT 17 13 123 [15,16],qQ 18 13 17,qM 19 18,qFT 20 19 5 2,qGT 21 19 4 20,qMT 22 19 1,qKT 23 19 123 [21,22],qQ 24 19 23,qM 4 24] .ret)
def Wj:ay:=⟨2,25,[.tmp 4],Yx.code⟩
def Yw:bu:=qs [o 2 (.mv (.c (.av))),qZ 3 0,qZ 4 0] (qs [o 5 (.mv (.c (.av)))] (.seq (qs [qZ 6 0] (.block 0 (.loop [.tr 0,.sl 5 4,.tr 6] (.seq (qs [qM 12 6,qM 13 0,o 14 (.len true (.t 13)),qB 15 .lss 12 14] (xE 15 0)) (.block 1 (qs [qM 16 0,qM 17 6,o 18 (.idx (.t 16) (.t 17)),qM 7 18] (.seq (qs [qM 19 7,o 20 (.bin .eql (.t 19) (.c (.int .u8 32))),qM 21 20,qMF 22 21 7,oF 23 21 (.bin .eql (.t 22) (.c (.int .u8 10))),qP 24 21 23] (.cond (.t 24) (qs [qM 25 6,qC 26 .add 25 1,qM 6 26] (.exit 1)) .skip)) (qs [qM 27 6,qM 8 27] (.seq (.block 2 (.loop [.tr 0,.sl 5 4,.tr 6,.tr 7,.tr 8] (.seq (qs [qM 28 8,qM 29 0,o 30 (.len true (.t 29)),qB 31 .lss 28 30,qM 32 31,qMT 33 32 7,qKT 34 32 156 [33],qMT 35 32 34,qMF 36 35 7,qKF 37 35 157 [36],qPT 38 32 35 37,qQ 39 32 38,qM 40 39,qMT 41 40 0,qMT 42 40 8,oT 43 40 (.idx (.t 41) (.t 42)),qKT 44 40 156 [43],qMT 45 40 44,qMF 46 45 0,qMF 47 45 8,oF 48 45 (.idx (.t 46) (.t 47)),qKF 49 45 157 [48],qPT 50 40 45 49,qQ 51 40 50] (xE 51 2)) (.block 3 (.er [qM 52 8,qC 53 .add 52 1,qM 8 53]))))) (qs [qM 54 6,o 55 (.build [zi,.str ⟨#[]⟩,zi,zi] [(3,1,.t 54)]),o 9 (.alloc [zi,.str ⟨#[]⟩,zi,zi]),qO 4 9 55] (.seq (.block 4 (qs [qM 72 7,qK 73 156 [72],qM 71 73] (.cond (.t 71) (.seq (.dz [qM 74 0,qM 75 6,qM 76 8,o 77 (.tn (.t 74) (some (.t 75)) (some (.t 76))),qF 78 0 9,oN (.store 1 (.t 78) (i64 1)),qF 79 1 9,qO 1 79 77] [[],[],[],[0,1,2],[],[4],(rg 6),(rg 7)] []) (.seq (qs [qF 80 1 9,qL 81 80,qK 82 158 [81]] (.cond (.t 82) (.er [qF 83 0 9,oN (.store 1 (.t 83) (i64 4))]) .skip)) (qs [qF 84 1 9,qL 85 84,o 86 (.len true (.t 85)),qC 87 .gtr 86 12] (.cond (.t 87) (qs [qM 88 6,o 2 (.mv (.c (.av))),qM 3 88,qZ 4 3] .ret) .skip)))) (qs [qM 90 7,qK 91 157 [90],qM 89 91] (.cond (.t 89) (.seq (.dz [qM 92 0,qM 93 6,qM 94 8,o 95 (.tn (.t 92) (some (.t 93)) (some (.t 94))),qF 96 0 9,oN (.store 1 (.t 96) (i64 2)),qF 97 1 9,qO 1 97 95] [[],[],[],[0,1,2],[],[4],(rg 6),(rg 7)] []) (.seq (qs [qF 98 1 9,qL 99 98,o 100 (.len true (.t 99)),qC 101 .gtr 100 10,qM 102 101,qFF 103 102 1 9,qLF 104 102 103,oF 105 102 (.len true (.t 104)),qCF 106 102 .gtr 105 1,qMF 107 102 106,qMT 108 107 7,oT 109 107 (.bin .eql (.t 108) (.c (.int .u8 48))),qQF 110 102 107 109,qP 111 102 110] (.cond (.t 111) (qs [qM 112 6,o 2 (.mv (.c (.av))),qM 3 112,qZ 4 3] .ret) .skip)) (.seq (qs [qZ 10 0] (.block 5 (.loop [.ob 9 [],.tr 0,.sl 5 4,.tr 6,.tr 8,.pt 9 9 0,.tr 10] (.seq (qs [qM 113 10,qF 114 1 9,qL 115 114,o 116 (.len true (.t 115)),qB 117 .lss 113 116] (xE 117 5)) (.seq (.block 6 (.seq (qs [qF 120 1 9,qL 121 120,qM 122 10,o 123 (.idx (.t 121) (.t 122)),qK 124 157 [123],qU 125 124] (.cond (.t 125) (qs [qM 126 6,o 2 (.mv (.c (.av))),qM 3 126,qZ 4 3] .ret) .skip)) (.dz [qF 127 2 9,qL 128 127,o 129 (.bin .mul (i64 10) (.t 128)),qF 130 1 9,qL 131 130,qM 132 10,o 133 (.idx (.t 131) (.t 132)),o 134 (.bin .sub (.t 133) (.c (.int .u8 48))),o 135 (.conv .i64 (.t 134)),qB 136 .add 129 135,qF 137 2 9,qO 1 137 136] [[],[0],[0,1],[],[3],[],[3,4,5],[3,4,5,6],[3,4,5,6,7],(rg 9),(rg 10),(rg 11)] []))) (.er [qM 118 10,qC 119 .add 118 1,qM 10 119])))))) (qs [qF 138 2 9,qL 139 138,qC 140 .gtr 139 2147483647] (.cond (.t 140) (qs [qM 141 6,o 2 (.mv (.c (.av))),qM 3 141,qZ 4 3] .ret) .skip))))) (qs [qM 56 0,qM 57 6,qK 58 159 [56,57],qM 11 58] (.seq (qs [qM 59 11,qC 60 .eql 59 0] (.cond (.t 60) (qs [qM 61 6,o 2 (.mv (.c (.av))),qM 3 61,qZ 4 2] .ret) .skip)) (qs [qM 62 6,qM 63 11,qB 64 .add 62 63,qM 8 64] (.dz [qM 65 0,qM 66 6,qM 67 8,o 68 (.tn (.t 65) (some (.t 66)) (some (.t 67))),qF 69 0 9,oN (.store 1 (.t 69) (i64 3)),qF 70 1 9,qO 1 70 68] [[],[],[],[0,1,2],[],[4],(rg 6),(rg 7)] []))))))))) (qs [qM 142 5,qG 143 4 9,o 144 (.bx 1 [zi,.str ⟨#[]⟩,zi,zi] [(0,4,.t 143)]),qA 145 4 40 142 144,qM 5 145] (.er [qM 146 8,qM 6 146]))))))))))))) (.seq (qs [qM 147 5,qN 148 147,qC 149 .gtr 148 2000] (.cond (.t 149) (qs [qM 150 0,o 151 (.len true (.t 150)),o 2 (.mv (.c (.av))),qM 3 151,qZ 4 4] .ret) .skip)) (qs [qM 152 5,qM 2 152,qZ 3 0,qZ 4 0] .ret))))
def Wi:ay:=⟨1,153,[.tmp 2,.tmp 3,.tmp 4],Yw.code⟩
def Yv:bu:=qs [o 1 (.box (.t 0)),qY 2 false] (.seq (.block 0 (qs [qF 4 0 1,qL 5 4,qC 6 .eql 5 1,qM 3 6] (.cond (.t 3) (qs [qF 7 1 1,qL 8 7,qK 9 93 [8],qM 10 9,qFT 11 10 3 1,qLT 12 10 11,qNT 13 10 12,qCT 14 10 .eql 13 0,qQ 15 10 14,qM 2 15] .ret) (qs [qF 17 0 1,qL 18 17,qC 19 .eql 18 2,qM 16 19] (.cond (.t 16) (qs [qF 20 2 1,qL 21 20,qK 22 92 [21],qM 23 22,qFT 24 23 3 1,qLT 25 23 24,qNT 26 23 25,qCT 27 23 .eql 26 0,qQ 28 23 27,qM 2 28] .ret) (qs [qF 30 0 1,qL 31 30,qC 32 .eql 31 3,qM 29 32] (.cond (.t 29) (qs [qF 33 3 1,qL 34 33,qN 35 34,qC 36 .eql 35 1,qM 37 36,qFT 38 37 3 1,qLT 39 37 38,oT 40 37 (.jv 4 (.t 39) (i64 0)),qGT 41 37 4 40,qKT 42 37 128 [41],qQ 43 37 42,qM 2 43] .ret) (qs [qF 45 0 1,qL 46 45,qK 47 160 [46],qM 44 47] (.cond (.t 44) (qs [qF 48 3 1,qL 49 48,qN 50 49,qC 51 .eql 50 2,qM 52 51,qFT 53 52 3 1,qLT 54 52 53,oT 55 52 (.jv 4 (.t 54) (i64 0)),qGT 56 52 4 55,qKT 57 52 128 [56],qQ 58 52 57,qM 59 58,qFT 60 59 3 1,qLT 61 59 60,oT 62 59 (.jv 4 (.t 61) (i64 1)),qGT 63 59 4 62,qKT 64 59 128 [63],qQ 65 59 64,qM 2 65] .ret) .skip))))))))) (qs [qY 2 false] .ret))
def Wh:ay:=⟨1,66,[.tmp 2],Yv.code⟩
def Yu:bu:=qs [o 1 (.box (.t 0)),qY 2 false] (qs [qF 3 0 1,qL 4 3,qC 5 .geq 4 1,qM 6 5,qFT 7 6 0 1,qLT 8 6 7,qCT 9 6 .leq 8 6,qQ 10 6 9,qM 11 10,qFT 12 11 1 1,qGT 13 11 4 12,qKT 14 11 128 [13],qQ 15 11 14,qM 16 15,qFT 17 16 5 1,qGT 18 16 4 17,qKT 19 16 128 [18],qQ 20 16 19,qM 2 20] .ret)
def Wg:ay:=⟨1,21,[.tmp 2],Yu.code⟩
def Yt:bu:=qs [o 1 (.box (.t 0)),o 2 (.mv (.c (.av))),qY 3 false] (.seq (qs [qF 7 2 1,qL 8 7,qC 9 .eql 8 0] (.cond (.t 9) (qs [qF 10 4 1,qL 11 10,qF 12 5 1,qL 13 12,qF 14 6 1,qG 15 4 14,qF 16 10 1,qG 17 9 16,o 18 (.build zL1 [(0,1,(i64 7)),(2,1,.t 11),(3,1,.t 13),(4,4,.t 15),(8,9,.t 17)]),o 4 (.alloc zL1),qO 20 4 18] (.seq (.dz [qG 19 20 4,oZ 20 (.bx 1 zL1 [(0,20,.t 19)]),qF 21 3 1,qL 22 21,qC 23 .eql 22 0,qM 2 20,qM 3 23] [[],[0],[],[2],[2,3],[0,1],(rg 6)] [(1,3)]) .ret)) .skip)) (qs [qG 25 19 1,qK 26 163 [25],qM 24 26,qE 27 0 24,qE 28 1 24,o 5 (.alloc zL1),qO 20 5 27,qM 6 28] (qs [qG 29 20 5,oZ 30 (.bx 1 zL1 [(0,20,.t 29)]),qM 31 6,qM 2 30,qM 3 31] .ret)))
def Wf:ay:=⟨1,32,[.tmp 2,.tmp 3],Yt.code⟩
def v137:bu:=qs [o 2 (.mv (.c (.av)))] (.seq (qs [qM 3 0,o 4 (.eq .slice false (.t 3) (.c (.av)))] (.cond (.t 4) (qs [o 2 (.mv (.c (.av)))] .ret) .skip)) (qs [o 5 (.bx 0 [] []),qM 6 0,qA 7 2 32 5 6,qM 2 7] .ret))
def X0:bu:=qs [o 2 (.mv (.c (.av)))] (.seq (qs [qM 3 0,o 4 (.eq .slice false (.t 3) (.c (.av)))] (.cond (.t 4) (qs [o 2 (.mv (.c (.av)))] .ret) .skip)) (qs [o 5 (.bx 0 [] []),qM 6 0,qA 7 2 32 5 6,qM 2 7] .ret))
def We:ay:=⟨1,8,[.tmp 2],v137.code⟩
def Ys:bu:=qs [qY 2 false] (qs [o 3 (.alloc [.bool false,.bool false,.bool false,.bool false])] (.seq (qs [qM 6 0,qN 7 6,qZ 8 0] (.block 0 (.loop [.ob 3 [],.tr 0,.pt 3 3 0,.tr 6,.tr 7,.tr 8] (qs [qB 9 .lss 8 7] (.seq (xE 9 0) (.seq (.block 1 (qs [qI 10 19 6 8,qG 11 19 10,o 5 (.alloc zL2),qO 19 5 11] (.seq (.seq (.dz [qF 12 2 5,qL 13 12,qC 14 .neq 13 4,qM 15 14,qFF 16 15 4 5,qLF 17 15 16,qMF 18 15 0,oF 19 15 (.jv 19 (.t 18) (i64 0)),qFF 20 15 4 19,qLF 21 15 20,qBF 22 15 .neq 17 21,qP 23 15 22,qM 24 23,qFF 25 24 5 5,qLF 26 24 25,oF 27 24 (.oD 4 1 (.t 3) (.t 26)),qLF 28 24 27,qP 29 24 28] [[],[0],[0,1],[0,1,2],(rg 4),(rg 5),(rg 4),[0,1,2,3,6],[0,1,2,3,6,7],[0,1,2,3,6,7,8],(rg 10),(rg 11),(rg 12),(rg 13),(rg 14),(rg 15),(rg 16),(rg 17)] []) (.cond (.t 29) (qs [qY 2 false] .ret) .skip)) (.er [qF 30 5 5,qL 31 30,o 32 (.oD 4 1 (.t 3) (.t 31)),oN (.store 1 (.t 32) (.c (.bool true)))])))) (.er [qC 33 .add 8 1,qM 8 33]))))))) (qs [qY 2 true] .ret)))
def Wd:ay:=⟨1,34,[.tmp 2],Ys.code⟩
def Yr:bu:=qs [o 2 (.box (.t 0)),o 3 (.box (.t 1)),qY 4 false] (qs [qF 6 10 2,qG 7 9 6,qK 8 109 [7],o 5 (.alloc zL3),qO 9 5 8] (qs [qF 9 2 2,qL 10 9,qC 11 .eql 10 2,qM 12 11,qFT 13 12 2 3,qLT 14 12 13,qCT 15 12 .eql 14 2,qQ 16 12 15,qM 17 16,qFT 18 17 0 5,qLT 19 17 18,qFT 20 17 10 3,qFT 21 17 0 20,qLT 22 17 21,qBT 23 17 .eql 19 22,qQ 24 17 23,qM 25 24,qFT 26 25 1 5,qGT 27 25 4 26,qFT 28 25 10 3,qFT 29 25 1 28,qGT 30 25 4 29,qKT 31 25 164 [27,30],qQ 32 25 31,qM 33 32,qFT 34 33 5 5,qGT 35 33 4 34,qFT 36 33 10 3,qFT 37 33 5 36,qGT 38 33 4 37,qKT 39 33 164 [35,38],qQ 40 33 39,qM 4 40] .ret))
def Wc:ay:=⟨2,41,[.tmp 4],Yr.code⟩
def Yq:bu:=qs [qY 4 false] (qs [qM 5 0,qM 6 1,qK 7 165 [5,6],qC 8 .geq 7 0,qM 4 8] .ret)
def Wb:ay:=⟨2,9,[.tmp 4],Yq.code⟩
def Yp:bu:=qs [o 1 (.box (.t 0)),qY 2 false] (qs [qF 3 0 1,qL 4 3,qC 5 .eql 4 0,qM 6 5,qFT 7 6 1 1,qLT 8 6 7,qCT 9 6 .eql 8 0,qQ 10 6 9,qM 11 10,qFT 12 11 2 1,qLT 13 11 12,qCT 14 11 .eql 13 0,qQ 15 11 14,qM 16 15,qFT 17 16 3 1,qLT 18 16 17,qNT 19 16 18,qCT 20 16 .eql 19 0,qQ 21 16 20,qM 2 21] .ret)
def Wa:ay:=⟨1,22,[.tmp 2],Yp.code⟩
def Yo:bu:=qs [o 1 (.box (.t 0)),qY 2 false] (qs [qF 3 0 1,qL 4 3,qC 5 .eql 4 0,qM 6 5,qFT 7 6 1 1,qGT 8 6 4 7,qKT 9 6 141 [8],qQ 10 6 9,qM 11 10,qFT 12 11 5 1,qGT 13 11 4 12,qKT 14 11 141 [13],qQ 15 11 14,qM 2 15] .ret)
def V_:ay:=⟨1,16,[.tmp 2],Yo.code⟩
def Yn:bu:=qs [o 2 (.box (.t 0)),qY 4 false] (.seq (.seq (.dz [qF 7 3 2,qL 8 7,qN 9 8,qF 10 0 2,qL 11 10,qK 12 166 [11],qB 13 .neq 9 12] [[],[0],[0,1],[],[3],[3,4],(rg 6)] []) (.cond (.t 13) (qs [qY 4 false] .ret) .skip)) (.seq (qs [qF 14 0 2,qL 15 14,qC 16 .neq 15 1,qM 17 16,qFT 18 17 1 2,qLT 19 17 18,qCT 20 17 .neq 19 0,qQ 21 17 20,qM 22 21,qFF 23 22 0 2,qLF 24 22 23,qCF 25 22 .neq 24 2,qMF 26 22 25,qFT 27 26 2 2,qLT 28 26 27,qCT 29 26 .neq 28 0,qQF 30 22 26 29,qP 31 22 30,qM 32 31,qFF 33 32 0 2,qLF 34 32 33,qCF 35 32 .eql 34 2,qMF 36 32 35,qFT 37 36 2 2,qLT 38 36 37,qMT 39 36 1,qCT 40 36 .sub 39 1,oT 41 36 (.call 81 [.t 38,(i64 0),.t 40] .borrow),qUT 42 36 41,qQF 43 32 36 42,qP 44 32 43] (.cond (.t 44) (qs [qY 4 false] .ret) .skip)) (.seq (qs [qF 45 3 2,qL 46 45,qN 47 46,qZ 48 0] (.block 0 (.loop [.ob 2 [],.tr 1,.pt 2 2 0,.tr 46,.tr 47,.tr 48] (qs [qB 49 .lss 48 47] (.seq (xE 49 0) (.seq (.block 1 (qs [qI 50 4 46 48,qG 51 4 50,o 6 (.alloc [zi,zi,zi,.av]),qO 4 6 51] (qs [qG 52 4 6,qM 53 1,qK 54 143 [52,53],qU 55 54] (.cond (.t 55) (qs [qY 4 false] .ret) .skip)))) (.er [qC 56 .add 48 1,qM 48 56]))))))) (qs [qF 57 1 2,qL 58 57,o 59 (.call 81 [.t 58,(i64 0),(i64 2147483647)] .borrow),qM 4 59] .ret))))
def V9:ay:=⟨2,60,[.tmp 4],Yn.code⟩
def Ym:bu:=qs [o 2 (.box (.t 0)),qY 4 false] (qs [qF 5 0 2,qL 6 5,o 7 (.call 81 [.t 6,(i64 1),(i64 6)] .borrow),qM 8 7,qFT 9 8 1 2,qGT 10 8 4 9,qMT 11 8 1,qKT 12 8 143 [10,11],qQ 13 8 12,qM 14 13,qFT 15 14 5 2,qGT 16 14 4 15,qMT 17 14 1,qKT 18 14 143 [16,17],qQ 19 14 18,qM 4 19] .ret)
def V8:ay:=⟨2,20,[.tmp 4],Ym.code⟩
def Yl:bu:=qs [o 3 (.box (.t 0)),qY 6 false] (.seq (.dz [qM 7 1,qF 8 0 3,qF 9 0 8,qL 10 9,qN 11 10,qC 12 .sub 11 1,o 13 (.call 81 [.t 7,(i64 0),.t 12] .borrow),qM 14 13,qMT 15 14 2,qFT 16 14 0 3,qFT 17 14 0 16,qLT 18 14 17,qMT 19 14 1,qIT 20 14 6 18 19,qGT 21 14 6 20,oT 22 14 (.lA (.t 15) [.t 21] .borrow),qFT 23 14 2 3,qLT 24 14 23,qBT 25 14 .eql 22 24,qQ 26 14 25,qM 6 26] [[],[],[1],[1,2],[1,2,3],[1,2,3,4],(rg 6),(rg 7),(rg 8),(rg 8),[0,1,2,3,4,5,6,7,9],[0,1,2,3,4,5,6,7,9,10],(rg 8),[0,1,2,3,4,5,6,7,9,10,11,12],[0,1,2,3,4,5,6,7,9,10,11,12,13],(rg 15),(rg 8),[0,1,2,3,4,5,6,7,16],(rg 18),(rg 19),(rg 20)] []) .ret)
def V7:ay:=⟨3,27,[.tmp 6],Yl.code⟩
def Yk:bu:=qs [o 1 (.box (.t 0)),qZ 2 0] (qs [qF 3 2 1,qL 4 3,qM 2 4] .ret)
def V6:ay:=⟨1,5,[.tmp 2],Yk.code⟩
def Yj:bu:=qs [o 3 (.box (.t 0)),qY 6 false] (qs [qM 7 2,qF 8 0 3,qF 9 0 8,qL 10 9,qM 11 1,qI 12 6 10 11,qF 13 4 12,qL 14 13,qC 15 .sub 14 1,o 16 (.call 81 [.t 7,(i64 0),.t 15] .borrow),qM 6 16] .ret)
def V5:ay:=⟨3,17,[.tmp 6],Yj.code⟩
def Yi:bu:=qs [o 1 (.box (.t 0)),qZ 2 0] (qs [qF 3 3 1,qL 4 3,qM 2 4] .ret)
def V4:ay:=⟨1,5,[.tmp 2],Yi.code⟩
def Yh:bu:=qs [o 3 (.box (.t 0)),qY 6 false] (qs [o 7 (.alloc [.bool false,.bool false,.bool false,.bool false])] (.seq (qs [qM 10 2,qN 11 10,qZ 12 0] (.block 0 (.loop [.ob 3 [],.ob 7 [],.tr 1,.tr 2,.pt 3 3 0,.pt 7 7 0,.tr 10,.tr 11,.tr 12] (qs [qB 13 .lss 12 11] (.seq (xE 13 0) (.seq (.block 1 (qs [qI 14 3 10 12,qG 15 3 14,o 9 (.alloc [zi,zi,.av]),qO 3 9 15] (.seq (qs [qG 16 4 3,qM 17 1,qF 18 0 9,qL 19 18,qK 20 147 [16,17,19],qU 21 20,qM 22 21,qFF 23 22 0 9,qLF 24 22 23,oF 25 22 (.oD 4 1 (.t 7) (.t 24)),qLF 26 22 25,qP 27 22 26,qM 28 27,qFF 29 28 1 9,qLF 30 28 29,qFF 31 28 3 3,qLF 32 28 31,qCF 33 28 .sub 32 1,oF 34 28 (.call 81 [.t 30,(i64 0),.t 33] .borrow),qUF 35 28 34,qP 36 28 35,qM 37 36,qGF 38 37 4 3,qFF 39 37 2 9,qLF 40 37 39,qKF 41 37 83 [38,40],qUF 42 37 41,qP 43 37 42] (.cond (.t 43) (qs [qY 6 false] .ret) .skip)) (.er [qF 44 0 9,qL 45 44,o 46 (.oD 4 1 (.t 7) (.t 45)),oN (.store 1 (.t 46) (.c (.bool true)))])))) (.er [qC 47 .add 12 1,qM 12 47]))))))) (qs [qM 48 2,qN 49 48,qC 50 .gtr 49 0,qM 6 50] .ret)))
def V3:ay:=⟨3,51,[.tmp 6],Yh.code⟩
def Yg:bu:=qs [qY 2 false] (qs [qM 3 0,o 4 (.bin .geq (.t 3) (.c (.int .u8 97))),qM 5 4,qMT 6 5 0,oT 7 5 (.bin .leq (.t 6) (.c (.int .u8 122))),qQ 8 5 7,qM 2 8] .ret)
def VZ:ay:=⟨1,9,[.tmp 2],Yg.code⟩
def Yf:bu:=qs [qY 2 false] (qs [qM 3 0,o 4 (.bin .geq (.t 3) (.c (.int .u8 48))),qM 5 4,qMT 6 5 0,oT 7 5 (.bin .leq (.t 6) (.c (.int .u8 57))),qQ 8 5 7,qM 2 8] .ret)
def VW:ay:=⟨1,9,[.tmp 2],Yf.code⟩
def Ye:bu:=qs [qY 2 false] (qs [o 5 (.call 168 [] .borrow),qM 3 5] (.seq (qs [qZ 4 0] (.block 0 (.loop [.tr 0,.tr 3,.tr 4] (.seq (qs [qM 6 4,qM 7 3,qN 8 7,qB 9 .lss 6 8] (xE 9 0)) (.seq (.block 1 (qs [qM 12 3,qM 13 4,qI 14 1 12 13,qL 15 14,qM 16 0,qB 17 .eql 15 16] (.cond (.t 17) (qs [qY 2 true] .ret) .skip))) (.er [qM 10 4,qC 11 .add 10 1,qM 4 11])))))) (qs [qY 2 false] .ret)))
def VU:ay:=⟨1,18,[.tmp 2],Ye.code⟩
def Yd:bu:=qs [qZ 4 0] (qs [o 9 (.bx 4 [.str ⟨#[]⟩,.str ⟨#[]⟩,.str ⟨#[]⟩,.str ⟨#[]⟩] [(0,1,(.c (.str ⟨#[61,61]⟩))),(1,1,(.c (.str ⟨#[33,61]⟩))),(2,1,(.c (.str ⟨#[60,61]⟩))),(3,1,(.c (.str ⟨#[62,61]⟩)))]),qM 5 9] (.seq (qs [qZ 6 0] (.block 0 (.loop [.tr 0,.tr 1,.tr 5,.tr 6] (.seq (qs [qM 10 6,qC 11 .lss 10 4] (xE 11 0)) (.seq (.block 1 (.seq (.dz [qM 14 1,qC 15 .add 14 2,qM 16 0,o 17 (.len true (.t 16)),qB 18 .leq 15 17,qM 19 18,qMT 20 19 0,qMT 21 19 1,qMT 22 19 1,qCT 23 19 .add 22 2,oT 24 19 (.tn (.t 20) (some (.t 21)) (some (.t 23))),qMT 25 19 5,qMT 26 19 6,qIT 27 19 1 25 26,qLT 28 19 27,qBT 29 19 .eql 24 28,qQ 30 19 29] [[],[0],[],[2],(rg 4),(rg 5),(rg 6),(rg 6),(rg 6),[0,1,2,3,4,5,8],(rg 10),(rg 6),(rg 6),[0,1,2,3,4,5,11,12],[0,1,2,3,4,5,11,12,13],(rg 15),(rg 16)] []) (.cond (.t 30) (qs [qZ 4 2] .ret) .skip))) (.er [qM 12 6,qC 13 .add 12 1,qM 6 13])))))) (qs [o 7 (.mv (.c (.str tB0)))] (.seq (qs [qZ 8 0] (.block 2 (.loop [.tr 0,.tr 1,.tr 7,.tr 8] (.seq (qs [qM 31 8,qM 32 7,o 33 (.len true (.t 32)),qB 34 .lss 31 33] (xE 34 2)) (.seq (.block 3 (.seq (.dz [qM 37 7,qM 38 8,o 39 (.idx (.t 37) (.t 38)),qM 40 0,qM 41 1,o 42 (.idx (.t 40) (.t 41)),qB 43 .eql 39 42] [[],[],[0,1],[],[],[3,4],(rg 6)] []) (.cond (.t 43) (qs [qZ 4 1] .ret) .skip))) (.er [qM 35 8,qC 36 .add 35 1,qM 8 36])))))) (qs [qZ 4 0] .ret)))))
def VT:ay:=⟨2,44,[.tmp 4],Yd.code⟩
def Yc:bu:=qs [qY 2 false] (qs [qM 3 0,qC 4 .geq 3 4,qM 5 4,qMT 6 5 0,qCT 7 5 .leq 6 8,qQ 8 5 7,qM 2 8] .ret)
def VQ:ay:=⟨1,9,[.tmp 2],Yc.code⟩
def Yb:bu:=qs [o 1 (.box (.t 0)),o 2 (.alloc zL1),qY 3 false] (qs [qF 5 3 1,qL 6 5,qF 7 4 1,qL 8 7,qF 9 5 1,qL 10 9,qF 11 6 1,qG 12 4 11,qF 13 10 1,qG 14 9 13,o 15 (.build zL1 [(1,1,.t 6),(2,1,.t 8),(3,1,.t 10),(4,4,.t 12),(8,9,.t 14)]),o 4 (.alloc zL1),qO 20 4 15] (.seq (qs [qF 16 2 1,qL 17 16] (.block 0 (qs [qC 20 .eql 17 1,qM 19 20] (.cond (.t 19) (.er [qF 21 0 4,oN (.store 1 (.t 21) (i64 1))]) (.seq (qs [qC 23 .eql 17 2,qM 22 23] (.cond (.t 22) .skip (.er [qC 24 .eql 17 5,qM 22 24]))) (.cond (.t 22) (.er [qF 25 0 4,oN (.store 1 (.t 25) (i64 6))]) (qs [qC 27 .eql 17 3,qM 26 27] (.cond (.t 26) (.er [qF 28 0 4,oN (.store 1 (.t 28) (i64 4))]) (qs [qC 30 .eql 17 6,qM 29 30] (.cond (.t 29) (.er [qF 31 0 4,oN (.store 1 (.t 31) (i64 7))]) (qs [qC 33 .eql 17 4,qM 32 33] (.cond (.t 32) (qs [qF 34 0 4,oN (.store 1 (.t 34) (i64 5))] (qs [qF 35 5 1,qL 36 35,qF 37 3 1,qL 38 37,o 39 (.build [zi,zi,.av] [(0,1,.t 36),(1,1,.t 38)]),oZ 40 (.bx 1 [zi,zi,.av] [(0,3,.t 39)]),qF 41 19 4,qO 1 41 40] (.er [qF 42 1 4,oN (.store 1 (.t 42) (i64 0)),qF 43 3 4,oN (.store 1 (.t 43) (i64 0))]))) (qs [qG 18 20 4,qO 20 2 18,qY 3 false] .ret))))))))))))) (qs [qG 44 20 4,qO 20 2 44,qY 3 true] .ret)))
def VP:ay:=⟨1,45,[.cell 2 (some 20),.tmp 3],Yb.code⟩
def Ya:bu:=qs [o 2 (.box (.t 0)),o 3 (.box (.t 1)),qY 4 false] (qs [qF 5 0 2,qL 6 5,qF 7 0 3,qL 8 7,qB 9 .eql 6 8,qM 10 9,qFT 11 10 1 2,qLT 12 10 11,qFT 13 10 1 3,qLT 14 10 13,qBT 15 10 .eql 12 14,qQ 16 10 15,qM 17 16,qFT 18 17 2 2,qLT 19 17 18,qFT 20 17 2 3,qLT 21 17 20,qBT 22 17 .eql 19 21,qQ 23 17 22,qM 24 23,qFT 25 24 3 2,qLT 26 24 25,qFT 27 24 3 3,qLT 28 24 27,oT 29 24 (.call 169 [.t 26,.t 28,(.c (.func 164))] .borrow),qQ 30 24 29,qM 4 30] .ret)
def VN:ay:=⟨2,31,[.tmp 4],Ya.code⟩
def X_:bu:=qs [qZ 4 0] (.seq (qs [qM 6 0,qN 7 6,qZ 8 0] (.block 0 (.loop [.tr 0,.tr 1,.tr 7,.tr 8] (qs [qB 9 .lss 8 7] (.seq (xE 9 0) (.seq (.block 1 (qs [qM 10 8,qM 5 10] (qs [qM 11 1,qM 12 0,qM 13 5,qI 14 1 12 13,qL 15 14,qB 16 .eql 11 15] (.cond (.t 16) (qs [qM 17 5,qM 4 17] .ret) .skip)))) (.er [qC 18 .add 8 1,qM 8 18]))))))) (qs [o 4 (.mv (i64 (-1)))] .ret))
def VM:ay:=⟨2,19,[.tmp 4],X_.code⟩
def X9:bu:=qs [qZ 2 0] (.seq (.block 0 (qs [qM 4 0,qC 5 .eql 4 1,qM 6 5,qMF 7 6 0,qCF 8 6 .eql 7 2,qP 9 6 8,qM 3 9] (.cond (.t 3) (qs [qZ 2 0] .ret) (qs [qM 11 0,qC 12 .eql 11 3,qM 10 12] (.cond (.t 10) (qs [qZ 2 1] .ret) (qs [qM 14 0,o 15 (.call 81 [.t 14,(i64 4),(i64 8)] .borrow),qM 13 15] (.cond (.t 13) (qs [qZ 2 2] .ret) .skip))))))) (qs [o 2 (.mv (i64 (-1)))] .ret))
def VL:ay:=⟨1,16,[.tmp 2],X9.code⟩
def X8:bu:=qs [o 0 (.mv (.c (.av)))] (qs [o 1 (.bx 16 (List.replicate 16 (.str ⟨#[]⟩)) [(0,1,(.c (.str ⟨#[99,104,97,110]⟩))),(1,1,(.c (.str ⟨#[98,108,111,99,107]⟩))),(2,1,(.c (.str ⟨#[100,114,111,112]⟩))),(3,1,(.c (.str ⟨#[108,111,115,115,121]⟩))),(4,1,(.c (.str ⟨#[102,114,111,109]⟩))),(5,1,(.c (.str ⟨#[116,111]⟩))),(6,1,(.c (.str ⟨#[114,117,108,101]⟩))),(7,1,(.c (.str ⟨#[112,114,111,99]⟩))),(8,1,(.c (.str ⟨#[118,97,114]⟩))),(9,1,(.c (.str ⟨#[105,102]⟩))),(10,1,(.c (.str ⟨#[101,108,115,101]⟩))),(11,1,(.c (.str ⟨#[119,104,105,108,101]⟩))),(12,1,(.c (.str ⟨#[115,101,110,100]⟩))),(13,1,(.c (.str ⟨#[114,101,99,118]⟩))),(14,1,(.c (.str ⟨#[97,115,115,101,114,116]⟩))),(15,1,(.c (.str ⟨#[105,110,112,117,116]⟩)))]),qM 0 1] .ret)
def VK:ay:=⟨0,2,[.tmp 0],X8.code⟩
def X7:bu:=qs [qY 6 false] (.seq (qs [qM 10 0,qN 11 10,qM 12 1,qN 13 12,qB 14 .neq 11 13] (.cond (.t 14) (qs [qY 6 false] .ret) .skip)) (.seq (qs [qM 15 0,qN 16 15,qZ 17 0] (.block 0 (.loop [.tr 1,.tr 2,.tr 15,.tr 16,.tr 17] (qs [qB 18 .lss 17 16] (.seq (xE 18 0) (.seq (.block 1 (qs [qM 19 17,qI 20 4 15 17,qG 21 4 20,o 8 (.alloc [zi,zi,zi,.av]),qM 7 19,qO 4 8 21] (qs [qM 22 1,qM 23 7,qI 24 4 22 23,qG 25 4 24,o 9 (.alloc [zi,zi,zi,.av]),qO 4 9 25] (qs [qM 26 2,qG 27 4 8,qG 28 4 9,o 29 (.lA (.t 26) [.t 27,.t 28] .borrow),qU 30 29] (.cond (.t 30) (qs [qY 6 false] .ret) .skip))))) (.er [qC 31 .add 17 1,qM 17 31]))))))) (qs [qY 6 true] .ret)))
def VJ:ay:=⟨3,32,[.tmp 6],X7.code⟩
def prog:Map ay:=.node none (.node none (.node none (.node (some a7) (.node none (.node (some a31) (.node none (.node (some Wi) (.leaf) (.leaf)) (.leaf)) (.node (some a95) (.node (some VT) (.leaf) (.leaf)) (.leaf))) (.node (some a47) (.node (some a79) (.node (some V9) (.leaf) (.leaf)) (.leaf)) (.leaf))) (.node (some a23) (.node none (.node (some a71) (.leaf) (.leaf)) (.leaf)) (.leaf))) (.node none (.node (some a19) (.node none (.node (some a67) (.leaf) (.leaf)) (.node (some a99) (.node (some VP) (.leaf) (.leaf)) (.leaf))) (.node none (.node (some a83) (.node (some V5) (.leaf) (.leaf)) (.leaf)) (.leaf))) (.node (some a27) (.node none (.node (some a75) (.node (some Wc) (.leaf) (.leaf)) (.leaf)) (.node (some Wo) (.leaf) (.leaf))) (.node none (.node (some a91) (.leaf) (.leaf)) (.node (some Wm) (.leaf) (.leaf)))))) (.node none (.node none (.node none (.node (some a33) (.node (some a65) (.node (some Wg) (.leaf) (.leaf)) (.leaf)) (.node (some a97) (.leaf) (.leaf))) (.node (some a49) (.node (some a81) (.node (some V7) (.leaf) (.leaf)) (.leaf)) (.leaf))) (.node none (.node (some a41) (.node none (.node (some We) (.leaf) (.leaf)) (.leaf)) (.node (some Wq) (.node (some VJ) (.leaf) (.leaf)) (.leaf))) (.node (some Z7) (.node (some a89) (.leaf) (.leaf)) (.leaf)))) (.node none (.node none (.node none (.node (some a69) (.leaf) (.leaf)) (.node (some Wu) (.node (some VM) (.leaf) (.leaf)) (.leaf))) (.node (some a53) (.node none (.node (some V3) (.leaf) (.leaf)) (.leaf)) (.leaf))) (.node (some a29) (.node (some a45) (.node (some a77) (.node (some Wa) (.leaf) (.leaf)) (.leaf)) (.node (some Wn) (.leaf) (.leaf))) (.node none (.node (some a93) (.node (some VW) (.leaf) (.leaf)) (.leaf)) (.node (some Wk) (.leaf) (.leaf))))))) (.node none (.node none (.node none (.node none (.node (some a32) (.node (some a64) (.node (some Wh) (.leaf) (.leaf)) (.leaf)) (.node (some a96) (.node (some VQ) (.leaf) (.leaf)) (.leaf))) (.node (some a48) (.node none (.node (some V8) (.leaf) (.leaf)) (.leaf)) (.leaf))) (.node none (.node none (.node (some a72) (.node (some Wf) (.leaf) (.leaf)) (.leaf)) (.node (some Ws) (.node (some VK) (.leaf) (.leaf)) (.leaf))) (.node (some Z8) (.leaf) (.leaf)))) (.node none (.node (some a20) (.node (some a36) (.node (some a68) (.leaf) (.leaf)) (.node (some Wv) (.node (some VN) (.leaf) (.leaf)) (.leaf))) (.node none (.node none (.node (some V4) (.leaf) (.leaf)) (.leaf)) (.leaf))) (.node (some a28) (.node (some a44) (.node (some a76) (.node (some Wb) (.leaf) (.leaf)) (.leaf)) (.leaf)) (.node (some a60) (.node (some a92) (.node (some VZ) (.leaf) (.leaf)) (.leaf)) (.node (some Wl) (.leaf) (.leaf)))))) (.node none (.node none (.node none (.node none (.node (some a66) (.leaf) (.leaf)) (.leaf)) (.node (some a50) (.node (some a82) (.node (some V6) (.leaf) (.leaf)) (.leaf)) (.leaf))) (.node (some a26) (.node none (.node (some a74) (.node (some Wd) (.leaf) (.leaf)) (.leaf)) (.node (some Wp) (.leaf) (.leaf))) (.node none (.node (some a90) (.leaf) (.leaf)) (.leaf)))) (.node none (.node (some a22) (.node none (.node (some a70) (.leaf) (.leaf)) (.node (some Wt) (.node (some VL) (.leaf) (.leaf)) (.leaf))) (.node (some a54) (.leaf) (.leaf))) (.node none (.node none (.node (some a78) (.node (some V_) (.leaf) (.leaf)) (.leaf)) (.leaf)) (.node none (.node (some a94) (.node (some VU) (.leaf) (.leaf)) (.leaf)) (.node (some Wj) (.leaf) (.leaf)))))))
end Go.Ax.dg
namespace Go.Ax.V
theorem HW:∀(cs:List TV) (n:Nat),D2 cs n=if n<=cs.length then some (cs.take n) else none
 |cs,0=>by simp [D2]
 |[],n+1=>by simp [D2]
 |x::xs,n+1=>by
  simp only [D2,HW xs n,qqr,Nat.add_le_add_iff_right,List.take_succ_cons];by_cases h:n<=xs.length
  ·rw [if_pos h,if_pos h]
  ·rw [if_neg h,if_neg h]
theorem Jb:∀(cs:List TV) (off n:Nat),ML cs off n=if off+n<=cs.length then some ((cs.drop off).take n) else none
 |cs,0,n=>by simp [ML,HW]
 |[],o+1,n=>by simp [ML]
 |x::xs,o+1,n=>by
  simp only [ML,Jb xs o n,qqr,List.drop_succ_cons];by_cases h:o+n<=xs.length
  ·rw [if_pos h,if_pos (by omega)]
  ·rw [if_neg h,if_neg (by omega)]
theorem Hu:∀(cells cs:List TV),s8 cells cs=if cs.length<=cells.length then some (cs++cells.drop cs.length) else none
 |cells,[]=>by cases cells<;>simp [s8]
 |[],y::ys=>by simp [s8]
 |x::xs,y::ys=>by
  simp only [s8,Hu xs ys,qqr,Nat.add_le_add_iff_right,List.drop_succ_cons,List.cons_append];by_cases h:ys.length<=xs.length
  ·rw [if_pos h,if_pos h]
  ·rw [if_neg h,if_neg h]
theorem Ka:∀(cells:List TV) (off:Nat) (cs:List TV),uz cells off cs=if off+cs.length<=cells.length then some (cells.take off++cs++cells.drop (off+cs.length)) else none
 |cells,0,cs=>by cases cells<;>simp [uz,Hu]
 |[],o+1,cs=>by simp [uz]
 |x::xs,o+1,cs=>by
  simp only [uz,Ka xs o cs,qqr];by_cases h:o+cs.length<=xs.length
  ·rw [if_pos h,if_pos (by omega)];simp [show o+1+cs.length=o+cs.length+1 by omega]
  ·rw [if_neg h,if_neg (by omega)]
theorem SS {cells cs:List TV} {off:Nat} (h:off+cs.length<=cells.length) (j:Nat) :
  (cells.take off++cs++cells.drop (off+cs.length))[j]?=if off<=j/\j < off+cs.length then cs[j - off]? else cells[j]?:=by
 have h1:(cells.take off).length=off:=by rw [qqn];omega
 rw [List.append_assoc];by_cases ha:j < off
 ·rw [qqc (by omega),if_neg (by omega),qqg,if_pos ha]
 ·rw [qqd (by omega),h1];by_cases hb:j < off+cs.length
  ·rw [qqc (by omega),if_pos (by omega)]
  ·rw [qqd (by omega),if_neg (by omega),qqh];congr 1;omega
theorem NB {a:AV} (h:a.flat=true):a.one=true/\a.cells?=some [a]/\a.qq=true:=by cases a<;>first|exact⟨rfl,rfl,rfl⟩|cases h
theorem FB {a:AV} (h:UP a=true):a.flat=true:=by cases a<;>first|rfl|cases h
theorem OU {t:TV} {a:AV} (h:Can t a) (h1:t.one=true):a.flat=true:=by cases h<;>first|rfl|exact FB (by assumption)|cases h1
theorem lu {v:TV} {cells:List AV}:B1 v cells↔∃ts,gj v=some ts/\oY ts cells:=by
 constructor
 ·intro h;cases h with
  |one _ x h1 h=>
   refine⟨[v],(by cases v<;>first|rfl|cases h1),rfl,fun j t y ht hy=>?_⟩;cases j with
   |zero=>simp at ht hy;subst ht;subst hy;exact h
   |succ j=>simp at ht
  |a ts _ hl h=>exact⟨ts,rfl,hl,h⟩
 ·rintro⟨ts,h1,hl,h⟩;cases v with
  |a cs=>cases h1;exact .a _ _ hl h
  |tp vs=>cases h1
  |_=>
   cases h1
   match cells,hl with
   |[x],_=>exact .one _ _ rfl (h 0 _ _ rfl rfl)
def O3 (ts:List TV) (cs:List AV):Prop:=oY ts cs/\∀x∈cs,AV.flat x=true
theorem Ea {t:TV} {a:AV} {ts:List TV} (h:Can t a) (hc:gj t=some ts):∃as,a.cells?=some as/\O3 ts as:=by
 have single:∀{t:TV} {a:AV},Can t a->t.one=true->O3 [t] [a]:=fun h h1=>⟨⟨rfl,fun j u y hu hy=>by
  cases j with
  |zero=>simp at hu hy;subst hu;subst hy;exact h
  |succ j=>simp at hu⟩,fun x hx=>by simp at hx;subst hx;exact OU h h1⟩
 cases h with
 |a ts as hl hf h=>cases hc;exact⟨as,rfl,⟨hl,h⟩,hf⟩
 |tp ts as hl hf h=>cases hc
 |i k n=>cases hc;exact⟨_,rfl,single (.i k n) rfl⟩
 |b x=>cases hc;exact⟨_,rfl,single (.b x) rfl⟩
 |s x=>cases hc;exact⟨_,rfl,single (.s x) rfl⟩
 |f n=>cases hc;exact⟨_,rfl,single (.f n) rfl⟩
 |np=>cases hc;exact⟨_,rfl,single .np rfl⟩
 |nil=>cases hc;exact⟨_,rfl,single .nil rfl⟩
 |ju es cs n sz c hn hc' hz hf h=>cases hc;exact⟨_,rfl,single (.ju es cs n sz c hn hc' hz hf h) rfl⟩
 |B7 x u hf h=>cases hc;exact⟨_,(NB (FB hf)).2.1,single (.B7 a u hf h) rfl⟩
theorem qz {v r:TV} {off:Nat} (h:ct v off=some r):∃ts,gj v=some ts/\ts[off]?=some r:=by
 cases v with
 |a cs=>exact⟨cs,rfl,h⟩
 |tp vs=>cases h
 |_=>cases off with
  |zero=>cases h;exact⟨_,rfl,rfl⟩
  |succ n=>cases h
theorem ud {v r:TV} {off n:Nat} (h:ax v off n=some r):∃ts,v=.a ts/\gj v=some ts/\off+n<=ts.length/\r=.a ((ts.drop off).take n):=by
 cases v with
 |a cs=>
  simp only [ax,Jb] at h;by_cases hl:off+n<=cs.length
  ·rw [if_pos hl] at h;cases h;exact⟨cs,rfl,rfl,hl,rfl⟩
  ·rw [if_neg hl] at h;cases h
 |_=>cases h
theorem gA {v u x:TV} {off n:Nat} (h:aq v off n x=some u):∃ts xs us,gj v=some ts/\gj x=some xs/\xs.length=n/\gj u=some us/\us.length=ts.length/\off+n<=ts.length/\
  ∀j,us[j]?=if off<=j/\j < off+n then xs[j - off]? else ts[j]?:=by
 unfold aq at h;split at h
 ·cases h
 rename_i xs hx;simp only [cond_eq_ite,qqE] at h;split at h;rotate_left
 ·cases h
 rename_i hn;have one:∀{w:TV},gj v=some [w]->(if (Nat.beq off 0&&x.one)=true then some x else none)=some u->
   ∃ts xs us,gj v=some ts/\gj x=some xs/\xs.length=n/\gj u=some us/\us.length=ts.length/\off+n<=ts.length/\∀j,us[j]?=if off<=j/\j < off+n then xs[j - off]? else ts[j]?:=by
  intro w hv h;simp only [qqB,qqE] at h;split at h;rotate_left
  ·cases h
  rename_i hc;obtain⟨h0,h1⟩:=hc;have hu:=qqO h;subst hu;have hx1:xs=[x]:=by cases x<;>first|(simp only [gj,Option.some.injEq] at hx;exact hx.symm)|(simp [TV.one] at h1)
  subst hx1;simp at hn;subst hn;subst h0;refine⟨[w],[x],[x],hv,hx,rfl,hx,rfl,by simp,fun j=>?_⟩;cases j with
  |zero=>simp
  |succ j=>simp
 cases v with
 |a cs=>
  simp only [Ka] at h;by_cases hl:off+xs.length<=cs.length
  ·rw [if_pos hl] at h;cases h;refine⟨cs,xs,_,rfl,hx,hn,rfl,?_,by omega,fun j=>?_⟩
   ·simp only [qqm,qqn,qqo];omega
   ·rw [SS hl,hn]
  ·rw [if_neg hl] at h;cases h
 |tp vs=>cases h
 |_=>exact one rfl h
theorem Ib {ts:List TV} {cs:List AV} (h:oY ts cs) (off n:Nat):oY ((ts.drop off).take n) ((cs.drop off).take n):=by
 refine⟨by simp [h.1],fun j t x ht hx=>?_⟩;simp only [qqg] at ht hx;split at ht
 ·rename_i hj;rw [if_pos hj] at hx;simp only [qqh] at ht hx;exact h.2 _ _ _ ht hx
 ·cases ht
theorem qw {cs:List AV} (h:∀x∈cs,AV.flat x=true) (off n:Nat):∀x∈(cs.drop off).take n,AV.flat x=true:=
 fun x hx=>h x (List.mem_of_mem_drop (List.mem_of_mem_take hx))
theorem C5 {v r:TV} {ts:List TV} {cs:List AV} {off:Nat} {sz:Option Nat} (hv:gj v=some ts) (hc:O3 ts cs) (h:gY v off sz=some r) :
  ∃l a,cut cs off (gH sz)=some l/\Mb sz l=some a/\Can r a:=by
 cases sz with
 |none=>
  obtain⟨ts',h1,h2⟩:=qz h;rw [hv] at h1;cases h1;have hlt:off < ts.length:=by
   cases hh:ts[off]? with
   |none=>rw [hh] at h2;cases h2
   |some _=>exact(qqb.1 hh).1
  have hlt':off < cs.length:=by rw [←hc.1.1];exact hlt
  have hx:cs[off]?=some cs[off]:=qqa hlt';refine⟨[cs[off]],cs[off],?_,rfl,hc.1.2 _ _ _ h2 hx⟩;rw [jf,gH,if_pos (by omega)];rw [List.drop_eq_getElem_cons hlt'];rfl
 |some n=>
  obtain⟨ts',h0,h1,hl,rfl⟩:=ud h;rw [hv] at h1;cases h1;have hl':off+n<=cs.length:=by rw [←hc.1.1];exact hl
  refine⟨(cs.drop off).take n,.agg _,?_,rfl,?_⟩
  ·rw [jf,gH,if_pos hl']
  ·exact .a _ _ (Ib hc.1 _ _).1 (qw hc.2 _ _) (Ib hc.1 _ _).2
theorem uj {t:TV} {x a:AV} (h:Dc t=some x) (hc:Can t a):a=x:=by cases hc<;>first|(cases h;rfl)|cases h
theorem D1 {r:AV} {t:TV} (h:ND r=some t):Can t r:=by cases r<;>first|(cases h;constructor)|cases h
theorem RR {op:BinOp} {x y r:TV} {a b:AV} (h:bf op x y=some r) (ha:Can x a) (hb:Can y b):∃c,Ld op a b=some c/\Can r c:=by
 unfold bf at h;split at h
 ·rename_i x' hx;split at h
  ·rename_i y' hy;split at h
   ·rename_i c hc;rw [uj hx ha,uj hy hb];exact⟨c,hc,D1 h⟩
   ·cases h
  ·cases h
 ·cases h
theorem Sw {op:UnOp} {x r:TV} {a:AV} (h:ng op x=some r) (ha:Can x a):∃c,Um op a=some c/\Can r c:=by
 unfold ng at h;split at h
 ·rename_i x' hx;split at h
  ·rename_i c hc;rw [uj hx ha];exact⟨c,hc,D1 h⟩
  ·cases h
 ·cases h
theorem zy:∀{ts:List TV} {xs as:List AV},A7 ts=some xs->oY ts as->as=xs
 |[],xs,as,h,hc=>by cases h;exact qqM.1 hc.1.symm
 |t::ts,xs,as,h,hc=>by
  simp only [A7] at h;split at h
  ·cases h
  rename_i x hx;split at h
  ·cases h
  rename_i l hl;cases h;cases as with
  |nil=>cases hc.1
  |cons a as=>rw [uj hx (hc.2 0 t a rfl rfl),zy hl ⟨Nat.succ.inj hc.1,fun j u y hu hy=>hc.2 (j+1) u y hu hy⟩]
end Go.Ax.V
namespace Go.Ax.V
theorem eo (j i:Nat) (w:VV) (r:List (Nat×VV)):eC j ((i,w)::r)=if i=j then some w else eC j r:=by simp only [eC,cond_eq_ite,qqE]
theorem FQ (off:Nat) (r:List (Nat×VV)) (j:Nat):∀l,eC j (CX off l r)=match (if off<=j then eC (j - off) l else none) with|some w=>some w|none=>eC j r
 |[]=>by simp only [CX,eC];split<;>simp_all
 |(i,w)::l=>by
  simp only [CX,eo,FQ off r j l];by_cases h:off<=j
  ·simp only [if_pos h];by_cases e:i=j - off
   ·rw [if_pos (by omega),if_pos e]
   ·rw [if_neg (by omega),if_neg e]
  ·simp only [if_neg h];rw [if_neg (by omega)]
theorem oo (off n j:Nat):∀l,eC j (xh off n l)=if off<=j/\j < off+n then none else eC j l
 |[]=>by simp [xh,eC]
 |(i,w)::l=>by
  simp only [xh,cond_eq_ite,qqB,qqF,qqG];by_cases h:off<=i/\i < off+n
  ·rw [if_pos h,oo off n j l,eo];by_cases e:i=j
   ·subst e;rw [if_pos h,if_pos h]
   ·rw [if_neg e]
  ·rw [if_neg h,eo,eo,oo off n j l];by_cases e:i=j
   ·subst e;rw [if_pos rfl,if_neg h,if_pos rfl]
   ·rw [if_neg e,if_neg e]
theorem CW (off n j:Nat):∀l,eC j (xg off n l)=if j < n then eC (j+off) l else none
 |[]=>by simp [xg,eC]
 |(i,w)::l=>by
  simp only [xg,cond_eq_ite,qqB,qqF,qqG];by_cases h:off<=i/\i < off+n
  ·rw [if_pos h,eo,CW off n j l,eo];by_cases e:i - off=j
   ·rw [if_pos e,if_pos (by omega),if_pos (by omega)]
   ·rw [if_neg e];by_cases hj:j < n
    ·rw [if_pos hj,if_pos hj,if_neg (by omega)]
    ·rw [if_neg hj,if_neg hj]
  ·rw [if_neg h,CW off n j l,eo];by_cases hj:j < n
   ·rw [if_pos hj,if_pos hj,if_neg (by omega)]
   ·rw [if_neg hj,if_neg hj]
inductive TN where
 |s (O:Nat)
 |i (O ver j:Nat)
instance:Coe Nat TN:=⟨TN.s⟩
def TN.base:TN->Nat
 |.s O=>O
 |.i O _ _=>O
abbrev ei:=TN->Option AV
def gR:AV->Option Nat
 |.ptr id _ _=>some id
 |.ref id _ _ _ _ _ _=>some id
 |_=>none
def Ik (A:ei) (w:VV) (x:AV):Prop:=match w with
 |.gD=>x=.av\/x=.ju [] 0 (some 0)
 |.sl O=>A O=some x
 |.ow O v i=>A (.i O v i)=some x
 |_=>False
def Sc (A:ei) (o:Option VV) (t:TV) (x:AV):Prop:=match o with
 |none=>Can t x/\x.flat=true
 |some w=>Ik A w x
structure ee (A:ei) (v:TV) (ovs:List (Nat×VV)) (cs:List AV) (ts:List TV):Prop where
 cells:gj v=some ts
 len:ts.length=cs.length
 keys:∀j w,eC j ovs=some w->j < ts.length
 at_:∀(j:Nat) (t:TV) (x:AV),ts[j]?=some t->cs[j]?=some x->Sc A (eC j ovs) t x
inductive VR (A:ei):VV->AV->Prop where
 |bad {a}:VR A .bad a
 |tr {v a} (h:Can v a):VR A (.tr v) a
 |gD:VR A .gD .av
 |yg:VR A .gD (.ju [] 0 (some 0))
 |ptr {O off:Nat} {id} (h:A O=some (.ptr id 0 0)):VR A (.ptr O off) (.ptr id 0 off)
 |pd {O off:Nat} {id} (h:A O=some (.ptr id 0 0)):VR A (.pd O off) (.ptr id 0 off)
 |sl {O:Nat} {a} (h:A O=some a):VR A (.sl O) a
 |ea {O i off:Nat} {id g b sz len cap ex} (h:A O=some (.ref id g b sz len cap ex)):VR A (.ea O i off) (.ptr id g (b+i*sz+off))
 |pt {v cs b off n} (hl:b+n<=cs.length) (hf:∀x∈cs,AV.flat x=true) (h:B1 v ((cs.drop b).take n)):VR A (.pt v off) (.qc cs (b+off))
 |st {v ovs cs ts} (hv:v=.a ts) (h:ee A v ovs cs ts):VR A (.st v ovs) (.agg cs)
 |ow {O v i a} (h:A (.i O v i)=some a):VR A (.ow O v i) a
 |e2 {O v i k off id g b sz len cap ex} (h:A (.i O v i)=some (.ref id g b sz len cap ex)):VR A (.e2 O v i k off) (.ptr id g (b+k*sz+off))
 |gl {s io es cs} (hs:0 < s) (hio:io < s) (hl:cs.length=es.length*s) (hf:∀x∈cs,AV.flat x=true)
   (h:∀(j:Nat) (e:TV),es[j]?=some e->∃ts,gj e=some ts/\ts.length=s/\(∀(o:Nat) t x,o≠io->ts[o]?=some t->cs[j*s+o]?=some x->Can t x)/\
    ts[io]?=some (.l [])/\∀x,cs[j*s+io]?=some x->x=.av\/x=.ju [] 0 (some 0)):VR A (.gl s io es) (.ju cs es.length (some es.length))
 |sa {O off n sz:Nat} {id cap} (hz:0 < sz) (h:A O=some (.ptr id 0 0)):VR A (.sa O off n sz) (.ref id 0 off sz n cap true)
structure Jk (sz:Nat) (es:List TV) (cs:List AV):Prop where
 len:cs.length=es.length*sz
 flat:∀x∈cs,AV.flat x=true
 el:∀(j:Nat) (e:TV),es[j]?=some e->B1 e ((cs.drop (j*sz)).take sz)
def EL (H:ck) (sz:Nat) (es:List TV) (a:AV):Prop:=0 < sz/\((es=[]/\(a=.av\/a=.ju [] 0 (some 0)))\/
 ∃id g b cells,a=.ref id g b sz es.length es.length false/\H.get id=some (.row g cells)/\b<=cells.length/\Jk sz es (cells.drop b))
structure O_ (A:ei) (H:ck) (K s io iz ver:Nat) (hole:Option Nat) (es:List TV) (cs:List AV):Prop where
 len:cs.length=es.length*s
 el:∀(j:Nat) (e:TV),es[j]?=some e->∃ts,gj e=some ts/\ts.length=s/\(∀(o:Nat) t x,o≠io->ts[o]?=some t->cs[j*s+o]?=some x->Can t x/\x.flat=true)/\
  ∃x,cs[j*s+io]?=some x/\A (.i K ver j)=some x/\(hole≠some j->∃l,ts[io]?=some (.l l)/\EL H iz l x)
def OR (A:ei) (H:ck) (o:VO) (a:AV):Prop:=match o with
 |.ob v ovs=>∃id cs ts,a=.ptr id 0 0/\H.get id=some (.row 0 cs)/\ee A v ovs cs ts
 |.gr sz es=>EL H sz es a
 |.gn K s io iz ver hole es=>0 < s/\io < s/\0 < iz/\((es=[]/\(a=.av\/a=.ju [] 0 (some 0)))\/
   ∃id g b cells,a=.ref id g b s es.length es.length false/\H.get id=some (.row g cells)/\b<=cells.length/\O_ A H K s io iz ver hole es (cells.drop b))
def j_ (A:ei) (o:VO) (a:AV) (id:Nat):Prop:=gR a=some id\/match o with
 |.gn K _ _ _ ver hole _=>∃j x,hole≠some j/\A (.i K ver j)=some x/\gR x=some id
 |_=>False
theorem jd {A:ei} {o:VO} {a:AV} {id:Nat} (h:o.pl=true):j_ A o a id↔gR a=some id:=by cases o<;>first|(cases h;done)|simp [j_]
def su (A:ei) (O:Nat) (a:AV) (o:VO):Prop:=match o with
 |.gn K _ _ _ ver hole es=>K=O/\(∀v j,ver < v->A (.i K v j)=none)/\(∀j x,A (.i K ver j)=some x->j < es.length)/\
   (∀j j' x x' id,hole≠some j->hole≠some j'->A (.i K ver j)=some x->A (.i K ver j')=some x'->gR x=some id->gR x'=some id->j=j')/\
   (∀j x id,hole≠some j->A (.i K ver j)=some x->gR x=some id->gR a≠some id)
 |_=>True
theorem Dz {A:ei} {O:Nat} {o:VO} {a:AV} (h:o.pl=true):su A O a o:=by cases o<;>first|(cases h;done)|trivial
structure R (A:ei) (V:bt) (st:St):Prop where
 env:∀t e,V.env.get t=some e->∃a,st.env.get t=some a/\((∀c bb,e.gd=some (c,bb)->c=.b bb)->VR A e.v a)
 heap:∀(O:Nat) o,V.H.get O=some o->∃a,A O=some a/\OR A st.H o a
 inj:∀(O O':Nat) o o' a a' id,V.H.get O=some o->V.H.get O'=some o'->A O=some a->A O'=some a'->j_ A o a id->j_ A o' a' id->O=O'
 used:∀n:TN,V.us.get n.base=none->A n=none
 one:∀n a,A n=some a->a.one=true
 fresh:∀id o,st.H.get id=some o->id < st.nx
 nh:∀(O:Nat) o a,V.H.get O=some o->A O=some a->su A O a o
def gW (V:bt) (A:ei) (id:Nat):Prop:=∃(O:Nat) (o:VO) (a:AV),V.H.get O=some o/\A O=some a/\j_ A o a id
structure Fr (V:bt) (A:ei) (H:ck) (nx:Nat) (V':bt) (A':ei) (H':ck) (nx':Nat):Prop where
 le:nx<=nx'
 same:∀id,id < nx->¬gW V A id->H'.get id=H.get id
 own:∀id,gW V' A' id->gW V A id\/nx<=id
theorem Fr.refl (V:bt) (A:ei) (H:ck) (nx:Nat):Fr V A H nx V A H nx:=⟨qqT _,fun _ _ _=>rfl,fun _ h=>.inl h⟩
theorem Fr.trans {V A H nx V1 A1 H1 Dw V2 A2 H2 nx2} (h:Fr V A H nx V1 A1 H1 Dw) (h':Fr V1 A1 H1 Dw V2 A2 H2 nx2):Fr V A H nx V2 A2 H2 nx2 where
 le:=qqR h.le h'.le
 same id hid hn:=by rw [h'.same id (qqL hid h.le) (fun ho=>(h.own id ho).elim hn (fun hle=>by omega)),h.same id hid hn]
 own id ho:=(h'.own id ho).elim (fun h1=>h.own id h1) (fun hle=>.inr (qqR h.le hle))
theorem Fr.WX {V V':bt} {A:ei} {H:ck} {nx:Nat} (h:∀O o,V'.H.get O=some o->V.H.get O=some o):Fr V A H nx V' A H nx:=
 ⟨qqT _,fun _ _ _=>rfl,fun _ ⟨O,o,a,h1,h2,h3⟩=>.inl ⟨O,o,a,h O o h1,h2,h3⟩⟩
def act:G->Prop
 |none=>True
 |some (c,bb)=>c=.b bb
theorem Ik.mono {A A':ei} (h:∀O a,A O=some a->A' O=some a) {w:VV} {x:AV} (hs:Ik A w x):Ik A' w x:=by cases w<;>first|exact hs|exact h _ _ hs
theorem ee.mono {A A':ei} (h:∀O a,A O=some a->A' O=some a) {v:TV} {ovs:List (Nat×VV)} {cs:List AV} {ts:List TV} (hc:ee A v ovs cs ts):ee A' v ovs cs ts:=
 ⟨hc.cells,hc.len,hc.keys,fun j t x ht hx=>by
  have:=hc.at_ j t x ht hx;unfold Sc at this ⊢;split at this
  ·exact this
  ·exact Ik.mono h this⟩
theorem VR.mono {A A':ei} (h:∀O a,A O=some a->A' O=some a) {w:VV} {x:AV} (hv:VR A w x):VR A' w x:=by
 cases hv with
 |bad=>exact .bad
 |tr h=>exact .tr h
 |gD=>exact .gD
 |yg=>exact .yg
 |ptr h1=>exact .ptr (h _ _ h1)
 |pd h1=>exact .pd (h _ _ h1)
 |sl h1=>exact .sl (h _ _ h1)
 |ea h1=>exact .ea (h _ _ h1)
 |pt hl hf h1=>exact .pt hl hf h1
 |st hv h1=>exact .st hv (h1.mono h)
 |ow h1=>exact .ow (h _ _ h1)
 |e2 h1=>exact .e2 (h _ _ h1)
 |gl h1 h2 h3 h4 h5=>exact .gl h1 h2 h3 h4 h5
 |sa hz h1=>exact .sa hz (h _ _ h1)
theorem EL.mono {H H':ck} {sz:Nat} {es:List TV} {a:AV} (hH:∀id,gR a=some id->H'.get id=H.get id) (ho:EL H sz es a):EL H' sz es a:=by obtain⟨hz,h1⟩:=ho;refine⟨hz,h1.imp id ?_⟩;rintro⟨id,g,b,cells,rfl,h2,h3,h4⟩;exact⟨id,g,b,cells,rfl,by rw [hH id rfl];exact h2,h3,h4⟩
theorem EL.there {H:ck} {sz:Nat} {es:List TV} {a:AV} (ho:EL H sz es a) {id:Nat} (hi:gR a=some id):∃ob,H.get id=some ob:=by
 obtain⟨hz,h1⟩:=ho;rcases h1 with ⟨_,rfl|rfl⟩|⟨id',g,b,cells,rfl,h2,_⟩
 ·cases hi
 ·cases hi
 ·cases hi;exact⟨_,h2⟩
theorem OR.mono {A A':ei} {H H':ck} (h:∀O a,A O=some a->A' O=some a) {o:VO} {a:AV} (hH:∀id,j_ A o a id->H'.get id=H.get id) (ho:OR A H o a):OR A' H' o a:=by
 cases o with
 |ob v ovs=>obtain⟨id,cs,ts,rfl,h2,h3⟩:=ho;exact⟨id,cs,ts,rfl,by rw [hH id (.inl rfl)];exact h2,h3.mono h⟩
 |gr sz es=>exact EL.mono (fun id hi=>hH id (.inl hi)) ho
 |gn K s io iz ver hole es=>obtain⟨h1,h2,h3,h4⟩:=ho;refine⟨h1,h2,h3,h4.imp id ?_⟩;rintro⟨id,g,b,cells,rfl,h5,h6,h7⟩;refine⟨id,g,b,cells,rfl,by rw [hH id (.inl rfl)];exact h5,h6,h7.len,fun j e he=>?_⟩;obtain⟨ts,g1,g2,g3,x,g4,g5,g6⟩:=h7.el j e he;refine⟨ts,g1,g2,g3,x,g4,h _ _ g5,fun hn=>?_⟩;obtain⟨l,g7,g8⟩:=g6 hn;exact⟨l,g7,g8.mono fun id' hi=>hH id' (.inr ⟨j,x,hn,g5,hi⟩)⟩
theorem S9 {A A':ei} (h:∀O a,A O=some a->A' O=some a) {o:VO} {a:AV} {id:Nat} (hi:j_ A o a id):j_ A' o a id:=by
 rcases hi with hi|hi
 ·exact .inl hi
 ·cases o with
  |gn K s io iz ver hole es=>obtain⟨j,x,h2,h3,h4⟩:=hi;exact .inr ⟨j,x,h2,h _ _ h3,h4⟩
  |_=>cases hi
theorem OR.there {A:ei} {H:ck} {O:Nat} {o:VO} {a:AV} (ho:OR A H o a) (hv:su A O a o) {id:Nat} (hi:j_ A o a id):∃ob,H.get id=some ob:=by
 cases o with
 |ob v ovs=>obtain⟨id',cs,ts,rfl,h2,h3⟩:=ho;rw [jd rfl] at hi;cases hi;exact⟨_,h2⟩
 |gr sz es=>exact EL.there ho ((jd rfl).1 hi)
 |gn K s io iz ver hole es=>
  obtain⟨_,_,_,ho⟩:=ho;obtain⟨_,_,qQ6,_⟩:=hv;rcases ho with ⟨rfl,h0⟩|⟨id',g,b,cells,rfl,h5,h6,h7⟩
  ·rcases hi with hi|⟨j,x,_,h1,_⟩
   ·rcases h0 with rfl|rfl<;>cases hi
   ·have:=qQ6 j x h1;simp at this
  ·rcases hi with hi|⟨j,x,h2,h3,h4⟩
   ·cases hi;exact⟨_,h5⟩
   ·obtain⟨ts,g1,g2,g3,x',g4,g5,g6⟩:=h7.el j _ (qqa (qQ6 j x h3));rw [h3] at g5;cases g5;obtain⟨l,_,g8⟩:=g6 h2;exact g8.there h4
theorem R.p_ {A:ei} {V:bt} {st:St} (h:R A V st) {id:Nat} (ho:gW V A id):id < st.nx:=by obtain⟨O,o,a,h1,h2,h3⟩:=ho;obtain⟨a',h4,h5⟩:=h.heap O o h1;rw [h2] at h4;cases h4;obtain⟨ob,h6⟩:=h5.there (h.nh O o a h1 h2) h3;exact h.fresh _ _ h6
structure wg (V V':bt):Prop where
 us:∀O,V'.us.get O=none->V.us.get O=none
 gn:∀K s io iz ver hole es,V'.H.get K=some (.gn K s io iz ver hole es)->V.us.get K=none\/∃s io iz v0 hole es,V.H.get K=some (.gn K s io iz v0 hole es)/\v0<=ver
theorem wg.refl (V:bt):wg V V:=⟨fun _ h=>h,fun K s io iz ver hole es h=>.inr ⟨s,io,iz,ver,hole,es,h,qqT _⟩⟩
theorem wg.trans {V V1 V2:bt} (h:wg V V1) (h':wg V1 V2):wg V V2:=by
 refine⟨fun O hO=>h.us O (h'.us O hO),fun K s io iz ver hole es hK=>?_⟩;rcases h'.gn K _ _ _ _ _ _ hK with h1|⟨s1,io1,iz1,v1,qk2,es1,h1,h2⟩
 ·exact .inl (h.us K h1)
 ·rcases h.gn K _ _ _ _ _ _ h1 with h3|⟨s2,io2,iz2,v2,qk1,es2,h3,h4⟩
  ·exact .inl h3
  ·exact .inr ⟨s2,io2,iz2,v2,qk1,es2,h3,qqR h4 h2⟩
theorem wg.WX {V V':bt} (hu:V'.us=V.us) (hH:∀O o,V'.H.get O=some o->V.H.get O=some o):wg V V':=
 ⟨fun O h=>by rw [←hu];exact h,fun K s io iz ver hole es h=>.inr ⟨s,io,iz,ver,hole,es,hH _ _ h,qqT _⟩⟩
theorem wg.set {V:bt} {O:Nat} {o:VO} (h:o.pl=true):wg V (ew V O o):=by
 refine⟨fun _ h=>h,fun K s io iz ver hole es hK=>?_⟩;simp only [ew,Map.bk] at hK;split at hK
 ·cases hK;cases h
 ·exact .inr ⟨s,io,iz,ver,hole,es,hK,qqT _⟩
theorem wg.name {V:bt} {O:Nat} {o:VO} (h:V.us.get O=none):wg V {V with H:=V.H.put (some o) O,us:=V.us.put (some ()) O}:=by
 refine⟨fun O' hO=>?_,fun K s io iz ver hole es hK=>?_⟩
 ·simp only [Map.bk] at hO;split at hO
  ·cases hO
  ·exact hO
 ·simp only [Map.bk] at hK;split at hK
  ·rename_i e;subst e;exact .inl h
  ·exact .inr ⟨s,io,iz,ver,hole,es,hK,qqT _⟩
structure Ext (V:bt) (A:ei) (V':bt) (A':ei):Prop where
 mono:∀n x,A n=some x->A' n=some x
 new:∀n x,A' n=some x->A n=some x\/V.us.get n.base=none\/∃K v j s io iz ver hole es,n=.i K v j/\V.H.get K=some (.gn K s io iz ver hole es)/\ver < v
 ev:wg V V'
theorem Ext.refl (V:bt) (A:ei):Ext V A V A:=⟨fun _ _ h=>h,fun _ _ h=>.inl h,wg.refl V⟩
theorem Ext.Kg {V V':bt} (A:ei) (h:wg V V'):Ext V A V' A:=⟨fun _ _ h=>h,fun _ _ h=>.inl h,h⟩
theorem Ext.trans {V V1 V2:bt} {A A1 A2:ei} (h:Ext V A V1 A1) (h':Ext V1 A1 V2 A2):Ext V A V2 A2:=by
 refine⟨fun n x hx=>h'.mono n x (h.mono n x hx),fun n x hx=>?_,h.ev.trans h'.ev⟩;rcases h'.new n x hx with h1|h1|⟨K,v,j,s,io,iz,ver,hole,es,rfl,h2,h3⟩
 ·exact h.new n x h1
 ·exact .inr (.inl (h.ev.us _ h1))
 ·rcases h.ev.gn K _ _ _ _ _ _ h2 with h4|⟨s1,io1,iz1,v1,qk2,es1,h4,h5⟩
  ·exact .inr (.inl h4)
  ·exact .inr (.inr ⟨K,v,j,s1,io1,iz1,v1,qk2,es1,rfl,h4,by omega⟩)
theorem ou:Can (.l []) (.ju [] 0 (some 0)):=.ju [] [] 0 1 _ rfl rfl (by omega) (fun x hx=>by cases hx) (fun j e h=>by simp at h)
theorem vw {v:AV} (h:kq v=true):Can (Gz v) v/\v.flat=true:=by cases v<;>first|(cases h;done)|exact⟨by constructor,rfl⟩
theorem uk:∀l,(gN l).length=l.length
 |[]=>rfl
 |x::xs=>by simp [gN,uk xs]
theorem Bj:∀(l:List AV) (j:Nat),(gN l)[j]?=l[j]?.map Gz
 |[],j=>by simp [gN]
 |x::xs,0=>rfl
 |x::xs,j+1=>by simp [gN,Bj xs j]
theorem DS:∀(l:List AV) (i j:Nat),eC j (qb i l)=if i<=j then (match l[j - i]? with|some .av=>some .gD|_=>none) else none
 |[],i,j=>by simp [qb,eC]
 |x::xs,i,j=>by
  have ih:=DS xs (i+1) j;have rest:(if i+1<=j then (match xs[j - (i+1)]? with|some .av=>some VV.gD|_=>none) else none)=if i<=j then (if i=j then none else (match (x::xs)[j - i]? with|some .av=>some .gD|_=>none)) else none:=by
   by_cases h:i+1<=j
   ·rw [if_pos h,if_pos (by omega),if_neg (by omega),show j - i=(j - (i+1))+1 by omega,List.getElem?_cons_succ]
   ·rw [if_neg h];by_cases h2:i<=j
    ·rw [if_pos h2,if_pos (by omega)]
    ·rw [if_neg h2]
  by_cases hx:x=.av
  ·subst hx;simp only [qb,eo,ih,rest];by_cases h:i<=j
   ·rw [if_pos h,if_pos h];by_cases e:i=j
    ·subst e;simp
    ·rw [if_neg e,if_neg e]
   ·rw [if_neg h,if_neg h,if_neg (by omega)]
  ·have:qb i (x::xs)=qb (i+1) xs:=by cases x<;>first|rfl|exact absurd rfl hx
   rw [this,ih,rest];by_cases h:i<=j
   ·rw [if_pos h,if_pos h];by_cases e:i=j
    ·subst e;rw [if_pos rfl];simp only [Nat.sub_self,List.getElem?_cons_zero];cases x<;>first|rfl|exact absurd rfl hx
    ·rw [if_neg e]
   ·rw [if_neg h,if_neg h]
theorem Be (A:ei) {cs:List AV} (h:gE kq cs=true):ee A (.a (gN cs)) (qb 0 cs) cs (gN cs):=by
 refine⟨rfl,uk cs,fun j w hj=>?_,fun j t x ht hx=>?_⟩
 ·rw [DS,if_pos (qqS _)] at hj;rw [uk];cases hc:cs[j]? with
  |none=>simp [hc] at hj
  |some y=>exact(qqb.1 hc).1
 ·rw [Bj,hx] at ht;cases ht;rw [DS,if_pos (qqS _),Nat.sub_zero,hx];have:=vw (cj.1 h x (qqi hx));cases x<;>first|exact this|exact .inl rfl
theorem Jd (A:ei) {cs:List AV} (h:gE kq cs=true) {ovs:List (Nat×VV)} (ho:∀j w,eC j ovs=some w->eC j (qb 0 cs)=some w):ee A (.a (gN cs)) ovs cs (gN cs):=by
 have h0:=Be A h;refine⟨rfl,uk cs,fun j w hj=>h0.keys j w (ho j w hj),fun j t x ht hx=>?_⟩;cases hj:eC j ovs with
 |some w=>have:=h0.at_ j t x ht hx;rw [ho j w hj] at this;exact this
 |none=>rw [Bj,hx] at ht;cases ht;exact vw (cj.1 h x (qqi hx))
theorem KV {j:Nat} {w:VV}:∀(cs:List Nat) (l:List (Nat×VV)),eC j (RF cs l)=some w->eC j l=some w
 |[],l,h=>h
 |c::cs,l,h=>by
  have:=KV cs _ h;rw [oo] at this;split at this
  ·cases this
  ·exact this
theorem Uq {sh:Sh} {d:Option Nat} {l:List (Nat×VV)} {j:Nat} {w:VV} (h:eC j (tcD sh d l)=some w):eC j l=some w:=by
 cases d with
 |none=>exact h
 |some d=>exact KV _ _ h
theorem K3 (A:ei) (v:AV):VR A (Jc v) v:=by
 unfold Jc;split
 ·exact .gD
 ·rename_i cs;rw [cond_eq_ite];split
  ·rename_i h;exact .st rfl (Be A h)
  ·exact .bad
 ·exact .bad
 ·rw [cond_eq_ite];split
  ·rename_i h;exact .tr (vw h).1
  ·exact .bad
section
variable {A:ei} {V:bt} {st:St} {g:G}
theorem IY {e:Env} {n:Nat} {a:AV} (h:e.get n=some a):ev e (.t n)=a:=by simp only [ev,h]
theorem fu (h:R A V st) (ha:act g) {x:b_} {k:VV->Prop} (hk:jx V g x k):∃w,VR A w (ev st.env x)/\k w:=by
 cases x with
 |c v=>exact⟨_,K3 A v,hk⟩
 |t n=>
  simp only [jx] at hk;split at hk
  ·cases hk
  rename_i e he;obtain⟨a,h1,h2⟩:=h.env n e he;split at hk
  ·rename_i hg;exact⟨e.v,by rw [IY h1];exact h2 (fun c bb hc=>by rw [hg] at hc;cases hc),hk⟩
  ·rename_i q hq;split at hk
   ·cases hk
   rename_i p;obtain⟨rfl,hk⟩:=hk;exact⟨e.v,by rw [IY h1];exact h2 (fun c bb hc=>by rw [hq] at hc;cases hc;exact ha),hk⟩
theorem FW:∀(ovs:List (Nat×VV)) (ts:List TV) (u:TV),Kl ovs (.a ts)=some u->
  ∃us,u=.a us/\us.length=ts.length/\∀j,us[j]?=(match eC j ovs with|some _=>(if j < ts.length then some (.l []) else none)|none=>ts[j]?)/\∀w,eC j ovs=some w->w=.gD
 |[],ts,u,h=>by cases h;exact⟨ts,rfl,rfl,fun j=>⟨rfl,fun w hw=>by cases hw⟩⟩
 |(off,w)::r,ts,u,h=>by
  unfold Kl at h;split at h;rotate_left
  ·cases h
  split at h;rotate_left
  ·cases h
  rename_i u' hu';obtain⟨us,rfl,hl,ha⟩:=FW r ts u' hu';obtain⟨ts',xs,us',h1,h2,h3,h4,h5,h6,h7⟩:=gA h;cases h1;cases h2;have hu:u=.a us':=by
   cases u<;>first|(cases h4;rfl)|skip
   all_goals
    unfold aq at h;simp only [gj,cond_eq_ite] at h;split at h
    ·split at h<;>cases h
    ·cases h
  refine⟨us',hu,by rw [h5,hl],fun j=>?_⟩;rw [h7 j,eo];by_cases e:off=j
  ·subst e;rw [if_pos (by omega),if_pos rfl,Nat.sub_self];refine⟨?_,fun w' hw'=>by cases hw';rfl⟩;simp only;rw [if_pos (by rw [←hl];omega)];rfl
  ·rw [if_neg (by omega),if_neg e];exact ha j
theorem QD {v u:TV} {ovs:List (Nat×VV)} {cs:List AV} {ts:List TV} (h:ee A v ovs cs ts) (hv:v=.a ts) (hu:Kl ovs v=some u):Can u (.agg cs):=by
 subst hv;obtain⟨us,rfl,hl,ha⟩:=FW ovs ts u hu;have at_:∀(j:Nat) (t:TV) (x:AV),us[j]?=some t->cs[j]?=some x->Can t x/\x.flat=true:=by
  intro j t x ht hx;have hlt:j < ts.length:=by rw [h.len];exact(qqb.1 hx).1
  have hc:=h.at_ j _ x (qqa hlt) hx;obtain⟨h1,h2⟩:=ha j;rw [h1] at ht;cases ho:eC j ovs with
  |none=>rw [ho] at ht hc;simp only at ht;rw [qqa hlt] at ht;cases ht;exact hc
  |some w=>
   rw [ho] at ht hc;simp only at ht;rw [if_pos hlt] at ht;cases ht;obtain rfl:=h2 w ho;rcases hc with rfl|rfl
   ·exact⟨.nil,rfl⟩
   ·exact⟨ou,rfl⟩
 refine .a _ _ (by rw [hl,h.len]) (fun x hx=>?_) (fun j t x ht hx=>(at_ j t x ht hx).1);obtain⟨j,hj⟩:=List.getElem?_of_mem hx;have hlt:j < us.length:=by rw [hl,h.len];exact(qqb.1 hj).1
 exact(at_ j _ x (qqa hlt) hj).2
theorem MX {w:VV} {a:AV} (hv:VR A w a) {k:TV->Prop} (hk:JA w k):∃v,Can v a/\k v:=by
 cases hv<;>first|(cases hk;done)|skip
 ·rename_i v hc;exact⟨v,hc,hk⟩
 ·exact⟨_,.nil,hk⟩
 ·exact⟨_,ou,hk⟩
 ·rename_i hv h;obtain⟨u,h1,h2⟩:=hk;exact⟨u,QD h hv h1,h2⟩
theorem gm (h:R A V st) (ha:act g) {x:b_} {k:TV->Prop} (hk:ue V g x k):∃v,Can v (ev st.env x)/\k v:=by obtain⟨w,h1,h2⟩:=fu h ha hk;exact MX h1 h2
theorem Qt (h:R A V st) (ha:act g) {x:Option b_} {k:Option TV->Prop} (hk:DO V g x k):∃v,k v/\(match x with|none=>v=none|some x=>∃u,v=some u/\Can u (ev st.env x)):=by
 cases x with
 |none=>exact⟨none,hk,rfl⟩
 |some x=>obtain⟨v,h1,h2⟩:=gm h ha hk;exact⟨some v,h2,v,rfl,h1⟩
theorem JZ (h:R A V st) (ha:act g):∀{xs:List b_} {k:List TV->Prop},Qh V g xs k->∃vs,oY vs (xs.map (ev st.env))/\k vs
 |[],k,hk=>⟨[],⟨rfl,fun j t x ht=>by simp at ht⟩,hk⟩
 |x::xs,k,hk=>by
  obtain⟨v,h1,h2⟩:=gm h ha hk;obtain⟨vs,h3,h4⟩:=JZ h ha h2;refine⟨v::vs,⟨by simp [h3.1],fun j t y ht hy=>?_⟩,h4⟩;cases j with
  |zero=>simp at ht hy;subst ht;subst hy;exact h1
  |succ j=>simp at ht hy;exact h3.2 j t y ht (by simpa using hy)
end
theorem ry {A:ei} (hone:∀O a,A O=some a->a.one=true) {w:VV} {a:AV} (hv:VR A w a) {t:TV} {o:List (Nat×VV)} (hs:r_ w=some (t,o)) {ts:List TV} (hc:gj t=some ts) :
  ∃as,a.cells?=some as/\ee A t o as ts:=by
 have single:∀{w:VV} {x:AV},Ik A w x->x.cells?=some [x]->ee A (.l []) [(0,w)] [x] [.l []]:=fun {w x} h1 h2=>
  ⟨rfl,rfl,(fun j u hj=>by
   rw [eo] at hj;split at hj
   ·subst_vars;simp
   ·cases hj),(fun j u y hu hy=>by
   cases j with
   |zero=>simp at hu hy;subst hu;subst hy;rw [eo,if_pos rfl];exact h1
   |succ j=>simp at hu)⟩
 cases hv<;>first|(cases hs;done)|skip
 ·rename_i v h;cases hs;obtain⟨as,h1,h2⟩:=Ea h hc;exact⟨as,h1,hc,h2.1.1,fun j w hj=>by simp [eC] at hj,fun j u x hu hx=>⟨h2.1.2 j u x hu hx,h2.2 x (qqi hx)⟩⟩
 ·cases hs;cases hc;exact⟨_,rfl,single (.inl rfl) rfl⟩
 ·cases hs;cases hc;exact⟨_,rfl,single (.inr rfl) rfl⟩
 ·rename_i O h;cases hs;cases hc;have hc:a.cells?=some [a]:=by have:=hone _ _ h;cases a<;>first|rfl|cases this
  exact⟨_,hc,single (w:=.sl O) h hc⟩
 ·rename_i v ovs cs ts' hv' h;cases hs;have:=h.cells.symm.trans hc;cases this;exact⟨_,rfl,h⟩
 ·rename_i O v i h;cases hs;cases hc;have hc:a.cells?=some [a]:=by have:=hone _ _ h;cases a<;>first|rfl|cases this
  exact⟨_,hc,single (w:=.ow O v i) h hc⟩
theorem oU {A:ei} {v u t:TV} {ovs o:List (Nat×VV)} {cs as:List AV} {vs ts:List TV} {off n:Nat} (hv:ee A v ovs cs vs) (ht:ee A t o as ts) (hp:aq v off n t=some u) :
  as.length=n/\∃cs' us,jl cs off as=some cs'/\ee A u (CX off o (xh off n ovs)) cs' us/\(∀l,v=.a l->∃l',u=.a l'):=by
 obtain⟨ts',xs,us,h1,h2,h3,h4,h5,h6,h7⟩:=gA hp;have e1:=hv.cells.symm.trans h1;cases e1;have e2:=ht.cells.symm.trans h2;cases e2;have hn:as.length=n:=by rw [←ht.len];exact h3
 have hov:jl cs off as=some (cs.take off++as++cs.drop (off+as.length)):=by rw [rj,if_pos (by rw [hn,←hv.len];exact h6)]
 obtain⟨hl',hat⟩:=lK hov;refine⟨hn,_,us,hov,⟨h4,by rw [h5,hl',hv.len],fun j w hj=>?_,fun j t' x ht' hx=>?_⟩,fun l e=>?_⟩
 ·rw [FQ] at hj;rw [h5];by_cases ho:off<=j
  ·simp only [if_pos ho] at hj;cases hq:eC (j - off) o with
   |some w'=>have:=ht.keys _ _ hq;omega
   |none=>
    rw [hq,oo] at hj;simp only at hj;split at hj
    ·cases hj
    ·exact hv.keys _ _ hj
  ·simp only [if_neg ho,oo] at hj;split at hj
   ·cases hj
   ·exact hv.keys _ _ hj
 ·rw [h7] at ht';rw [hat,hn] at hx;rw [FQ];by_cases hc:off<=j/\j < off+n
  ·rw [if_pos hc] at ht' hx;simp only [if_pos hc.1];have:=ht.at_ _ _ _ ht' hx;cases hq:eC (j - off) o with
   |some w'=>rw [hq] at this;exact this
   |none=>rw [hq] at this;simp only [oo,if_pos hc];exact this
  ·rw [if_neg hc] at ht' hx;have:=hv.at_ _ _ _ ht' hx;by_cases ho:off<=j
   ·simp only [if_pos ho];cases hq:eC (j - off) o with
    |some w'=>have:=ht.keys _ _ hq;omega
    |none=>simp only [oo,if_neg hc];exact this
   ·simp only [if_neg ho,oo,if_neg hc];exact this
 ·subst e;unfold aq at hp;simp only [h2,h3,cond_eq_ite,qqE,if_pos rfl] at hp;split at hp
  ·split at hp
   ·exact⟨_,(qqO hp).symm⟩
   ·cases hp
  ·rename_i hh;exact absurd (by first|rfl|trivial) hh
end Go.Ax.V
end
