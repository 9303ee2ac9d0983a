/- Part 4 of the proof: Ax24, Ax25, Ax26, Ax27, V0, LaIR, V1, V2, V3, V4. -/
import Derived.Test.YtamgnhdbeecapaaCa3
import Derived.LoopN
set_option linter.unusedSimpArgs false
set_option linter.unusedVariables false
noncomputable section
namespace Go.Ax
section
variable {cf:eF} {nt n0:Nat} {H:av} {nx:Nat}
theorem zo (hup:lX cf) {ao:ax} {st st1:St} {r:Rec} (hd:bz cf nt n0 ao st=some (st1,r)):st.nx<=st1.nx:=by
 have qxb:∀{f:Nat} {args:List AV} {m:Mode} {v:AV} {H':av} {nx':Nat} {cR:List Rd} {bU:HA},bR cf n0 f args m st.H st.nx=some (v,H',nx',cR,bU)->st.nx<=nx':=by
  intro f args m v H' nx' cR bU h;cases m with
  |share=>
   simp only [bR] at h;split at h
   ·rename_i hc;cases h;exact hup _ _ _ _ _ _ _ hc
   ·cases h
  |borrow=>simp only [bR,cond_eq_ite] at h;split at h<;>split at h<;>first|(cases h;exact Pa _)|cases h
 unfold bz at hd;rw [cond_eq_ite] at hd;split at hd
 ·split at hd
  ·cases hd
  ·rename_i v H nx cR bU hE;split at hd
   ·cases hd
   ·cases hd;unfold dZ at hE;rw [cond_eq_ite] at hE;split at hE
    ·split at hE
     ·split at hE
      ·cases hE
      ·split at hE
       ·cases hE;exact Pa _
       ·cases hE
     ·cases hE
    ·unfold j5 at hE;split at hE
     ·split at hE
      ·split at hE
       ·rename_i hrun;cases hE;exact mE hrun
       ·cases hE
      ·cases hE
     ·exact qxb hE
     ·split at hE
      ·exact qxb hE
      ·cases hE
 ·split at hd
  ·cases hd
  ·cases hd;exact Pa _
theorem qH (hup:lX cf):∀{al:List ax} {st st':St} {rs:List Rec},cZ cf nt n0 al st=some (st',rs)->st.nx<=st'.nx
 |[],st,st',rs,h=>by cases h;exact Pa _
 |ao::al,st,st',rs,h=>by
  simp only [cZ] at h;split at h
  ·cases h
  ·rename_i st1 r h1;split at h
   ·cases h
   ·rename_i h2;cases h;exact O9 (zo hup h1) (qH hup h2)
end
def o_ (ex:dj):Prop:=∀nt ac st x st',ex nt ac st=some (x,st')->st.nx<=st'.nx
theorem xW {ex:dj} {cf:eF} (h1:o_ ex) (h2:lX cf):o_ (br ex cf):=by
 intro nt ac st x st' h;unfold br at h;split at h
 ·cases h;exact Pa _
 ·split at h
  ·rename_i hr;cases h;exact tE h2 hr
  ·cases h
 ·split at h
  ·rename_i hr;cases h;unfold b7 at hr;split at hr
   ·cases hr
   ·rename_i hrun;rw [cond_eq_ite] at hr;split at hr
    ·cases hr;exact qH h2 hrun
    ·cases hr
  ·cases h
 ·split at h
  ·rename_i hr;exact O9 (h1 _ _ _ _ _ hr) (h1 _ _ _ _ _ h)
  ·exact h1 _ _ _ _ _ h
 ·split at h
  ·exact h1 _ _ _ _ _ h
  ·exact h1 _ _ _ _ _ h
  ·cases h
 ·split at h
  ·rename_i hr;rw [cond_eq_ite] at h;split at h
   ·cases h;exact h1 _ _ _ _ _ hr
   ·cases h;exact h1 _ _ _ _ _ hr
  ·exact h1 _ _ _ _ _ h
 ·split at h
  ·rename_i hr;exact O9 (h1 _ _ _ _ _ hr) (h1 _ _ _ _ _ h)
  ·exact h1 _ _ _ _ _ h
 ·cases h;exact Pa _
 ·cases h;exact Pa _
theorem u9 {l:List pg} {st:St} {v:AV} {H':av} {nx':Nat} (h:ko l st=some (v,H',nx')):H'=st.H/\nx'=st.nx:=by
 unfold ko at h;split at h
 ·cases h;exact⟨rfl,rfl⟩
 ·cases h;exact⟨rfl,rfl⟩
 ·cases h
theorem Bl {prog:Map aq} {ex:dj} (h1:o_ ex):lX (gY prog ex):=by
 intro f args H nx v H' nx' h;unfold gY at h;split at h
 ·cases h
 ·rw [cond_eq_ite] at h;split at h
  ·split at h
   ·rename_i hr;obtain⟨_,rfl⟩:=u9 h;exact h1 _ _ _ _ _ hr
   ·rename_i hr;obtain⟨_,rfl⟩:=u9 h;exact h1 _ _ _ _ _ hr
   ·cases h
  ·cases h
theorem uh (prog:Map aq):∀k,o_ (interp prog k).code/\lX (interp prog k).fn
 |0=>⟨fun _ _ _ _ _ h=>(by cases h),fun _ _ _ _ _ _ _ h=>(by cases h)⟩
 |k+1=>by obtain⟨h1,h2⟩:=uh prog k;exact⟨xW h1 h2,Bl h1⟩
def gU (P:Program):Code->bY->Bool
 |.skip,.skip=>true
 |.region _ ops draw,.aa al=>!draw&&mK P ops ops.toList al
 |.region _ ops draw,.aT al ahead pairs=>draw&&z8 P ops al ahead pairs
 |.seq a b,.seq a' b'=>gU P a a'&&gU P b b'
 |.cond c a b,.cond c' a' b'=>bk c c'&&gU P a a'&&gU P b b'
 |.block id c,.block id' c'=>Nat.beq id id'&&gU P c c'
 |.loop c,.loop c'=>gU P c c'
 |.exit id,.exit id'=>Nat.beq id id'
 |.ret,.ret=>true
 |_,_=>false
def bG.Hs:bG->Exit
 |.normal=>.normal
 |.exit id=>.exit id
 |.ret=>.ret
def F2 (P:Program) (X:Code->(Exit->Act->World->Prop)->Act->World->Prop) (nt:Nat) (st:St) (x:bG) (st':St) (c:Code):Prop:=
 ∀(top:Nat) (φ:fq) (K:Nat->Prop) (w:World) (a:Act) (Q:Exit->Act->World->Prop),st'.nx<=top->bJ top φ K st.H.get st.nx w->lY φ K w st.env a->a.tmps.size=nt->a.defers=[]->(∀a' w',Post top φ K st w nt st' a' w'->Q x.Hs a' w')->X c Q a w
def sW (P:Program) (ex:dj):Prop:=∀nt ac st x st',ex nt ac st=some (x,st')->∀c,gU P c ac=true->F2 P (fun c Q a w=>c.wp P Q a w) nt st x st' c
def vV (P:Program) (ex:dj) (n:Nat):Prop:=∀nt ac st x st',ex nt (.loop ac) st=some (x,st')->∀c,gU P c ac=true->F2 P (fun c Q a w=>Code.rounds P c Q n a w) nt st x st' c
theorem qk {P:Program} {ex:dj} {cf:eF} {n:Nat} (h1:sW P ex) (hu:o_ ex) (hl:vV P ex n):vV P (br ex cf) (n+1):=by
 intro nt ac st x st' h c hm top φ K w a Q ht s he hs hd hQ;simp only [br] at h;rw [rounds_succ];split at h
 ·rename_i st1 hr;have hle:=hu _ _ _ _ _ h;refine h1 nt ac st .normal st1 hr c hm top φ K w a _ (O9 hle ht) s he hs hd (fun a1 w1 hp=>?_);obtain⟨φ1,K1,g,q1,q2,q3⟩:=hp;exact hl nt ac st1 x st' h c hm top φ1 K1 w1 a1 Q ht g.m8 q1 q2 q3 (fun a' w' hp'=>hQ a' w' (hp'.trans g))
 ·rename_i hne;refine h1 nt ac st x st' h c hm top φ K w a _ ht s he hs hd (fun a1 w1 hp=>?_);cases x with
  |normal=>exact(hne _ h).elim
  |exit id=>exact hQ a1 w1 hp
  |ret=>exact hQ a1 w1 hp
theorem Fp {P:Program} {ex:dj} {cf:eF} {n:Nat} (sY:P.follows .mixedOrders=true) (h1:sW P ex) (hu:o_ ex) (hl:vV P ex n) (hcf:j8 P cf) (hup:lX cf):sW P (br ex cf):=by
 intro nt ac st x st' h c hm top φ K w a Q ht s he hs hd hQ;cases ac with
 |skip=>
  cases c<;>first|cases hm|skip
  cases h;exact wp_skip (hQ a w ⟨φ,K,cg.refl s,he,hs,hd⟩)
 |aa al=>
  cases c<;>first|cases hm|skip
  rename_i id ops draw;simp only [gU,OV,OX] at hm;obtain⟨rfl,hm⟩:=hm;simp only [br] at h;split at h
  ·rename_i st1 hr;cases h;exact wp_region_list (K9 hcf hup ops.toList al st st' a w φ K hm hr ht s he hs hd hQ)
  ·cases h
 |aT al ahead pairs=>
  cases c<;>first|cases hm|skip
  rename_i id ops draw;simp only [gU,OV] at hm;obtain⟨rfl,hm⟩:=hm;simp only [br] at h;split at h
  ·rename_i st1 hr;cases h;exact Fk hcf hup sY hm hr ht s he hs hd hQ
  ·cases h
 |seq a1 b1=>
  cases c<;>first|cases hm|skip
  rename_i ca cb;simp only [gU,OV] at hm;simp only [br] at h;refine wp_seq ?_;split at h
  ·rename_i st1 hr;have hle:=hu _ _ _ _ _ h;refine h1 nt a1 st .normal st1 hr ca hm.1 top φ K w a _ (O9 hle ht) s he hs hd (fun a1 w1 hp=>?_);obtain⟨φ1,K1,g,q1,q2,q3⟩:=hp;exact h1 nt b1 st1 x st' h cb hm.2 top φ1 K1 w1 a1 Q ht g.m8 q1 q2 q3 (fun a' w' hp'=>hQ a' w' (hp'.trans g))
  ·rename_i hne;refine h1 nt a1 st x st' h ca hm.1 top φ K w a _ ht s he hs hd (fun a1 w1 hp=>?_);cases x with
   |normal=>exact(hne _ h).elim
   |exit id=>exact hQ a1 w1 hp
   |ret=>exact hQ a1 w1 hp
 |cond c0 a1 b1=>
  cases c<;>first|cases hm|skip
  rename_i cc ca cb;simp only [gU,OV] at hm;simp only [br] at h;have hr:=he.KE _ _ hm.1.1;split at h
  ·rename_i hc;rw [hc] at hr;exact wp_cond_true (dz hr) (h1 nt a1 st x st' h ca hm.1.2 top φ K w a Q ht s he hs hd hQ)
  ·rename_i hc;rw [hc] at hr;exact wp_cond_false (dz hr) (h1 nt b1 st x st' h cb hm.2 top φ K w a Q ht s he hs hd hQ)
  ·cases h
 |block id c0=>
  cases c<;>first|cases hm|skip
  rename_i id' cc;simp only [gU,OV,OY] at hm;obtain⟨rfl,hm⟩:=hm;simp only [br] at h;refine wp_block ?_;split at h
  ·rename_i i st1 hr;rw [cond_eq_ite] at h;split at h
   ·rename_i hi;rw [OY] at hi;cases h;refine h1 nt c0 st (.exit i) st' hr cc hm top φ K w a _ ht s he hs hd (fun a1 w1 hp=>?_);simp only [bG.Hs,Exit.inBlock,if_pos hi];exact hQ a1 w1 hp
   ·rename_i hi;rw [OY] at hi;cases h;refine h1 nt c0 st (.exit i) st' hr cc hm top φ K w a _ ht s he hs hd (fun a1 w1 hp=>?_);simp only [bG.Hs,Exit.inBlock,if_neg hi];exact hQ a1 w1 hp
  ·rename_i hne;refine h1 nt c0 st x st' h cc hm top φ K w a _ ht s he hs hd (fun a1 w1 hp=>?_);cases x with
   |normal=>exact hQ a1 w1 hp
   |exit id=>exact(hne _ _ h).elim
   |ret=>exact hQ a1 w1 hp
 |loop c0=>
  cases c<;>first|cases hm|skip
  rename_i cc;exact wp_loop_rounds (n+1) (qk (cf:=cf) h1 hu hl nt c0 st x st' h cc hm top φ K w a Q ht s he hs hd hQ)
 |exit id=>
  cases c<;>first|cases hm|skip
  simp only [gU,OY] at hm;subst hm;cases h;exact wp_exit (hQ a w ⟨φ,K,cg.refl s,he,hs,hd⟩)
 |ret=>
  cases c<;>first|cases hm|skip
  cases h;exact wp_ret (hQ a w ⟨φ,K,cg.refl s,he,hs,hd⟩)
def xj (P:Program):List ResultVar->List pg->Bool
 |[],[]=>true
 |.tmp t::l,.tmp t'::l'=>Nat.beq t t'&&xj P l l'
 |.cell a t::l,.cell a' sz::l'=>Nat.beq a a'&&qv P t sz&&xj P l l'
 |_,_=>false
def Da (P:Program) (fn:Func) (c:Code) (af:aq):Bool:=Nat.beq fn.ntmps af.nt&&Nat.ble af.params af.nt&&gU P c af.body&&xj P fn.results.toList af.res
def n7 (P:Program) (f:Nat) (af:aq):Prop:=(∃fn c,P.funcs[f]?=some fn/\fn.body=some c/\Da P fn c af=true)/\∀args w,(callFunc f args).run P w=.ok (.enter f args) w
theorem xw:∀(vs:List AV) (i:Nat) (e:Env) (t:Nat),ev (cJ vs i e) (.t t)=if i<=t/\t < i+vs.length then vs.getD (t - i) c7 else ev e (.t t)
 |[],i,e,t=>by simp [cJ];intro h1 h2;omega
 |v::vs,i,e,t=>by
  rw [cJ,xw vs (i+1) _ t,zg];by_cases h1:t=i
  ·subst h1;rw [if_neg (by omega),if_pos rfl,if_pos (by simp)];simp
  ·rw [if_neg h1];by_cases h2:i+1<=t/\t < i+1+vs.length
   ·rw [if_pos h2,if_pos (by simp;omega),show t - i=(t - (i+1))+1 by omega];simp
   ·rw [if_neg h2,if_neg (by simp;omega)]
section
variable {top:Nat} {P:Program} {φ:fq} {K:Nat->Prop} {w:World} {st:St} {a:Act}
def qW (tmps:Array Value):ResultVar->Sem Value
 |.tmp t=>pure (tmps.getD t undef)
 |.cell b t=>do loadVar t (←asAddr (tmps.getD b undef))
theorem yK (fn:Func) (tmps:Array Value):results fn tmps=(do let vs ←fn.results.mapM (qW tmps);pure (if h:vs.size=1 then vs[0] else .tuple vs)):=by rfl
theorem AZ (s:bJ top φ K st.H.get st.nx w) (he:lY φ K w st.env a):∀(l:List ResultVar) (l':List pg) (vs:List AV),xj P l l'=true->cr (iY st.env st.H) l'=some vs->
  ∃Vs:List Value,(l.mapM (qW a.tmps)).run P w=.ok Vs w/\Vs.length=vs.length/\∀(j:Nat) (v:AV) (V:Value),vs[j]?=some v->Vs[j]?=some V->aG φ K w v V:=by
 intro l
 induction l with
 |nil=>
  intro l' vs hm hv;cases l' with
  |nil=>cases hv;exact⟨[],rfl,rfl,fun j v V h=>by simp at h⟩
  |cons _ _=>cases hm
 |cons r l ih=>
  intro l' vs hm hv;cases l' with
  |nil=>cases r<;>cases hm
  |cons r' l'=>
   rw [bZ] at hv;cases h1:iY st.env st.H r' with
   |none=>rw [h1] at hv;cases hv
   |some v=>
    rw [h1] at hv;simp only at hv;cases h2:cr (iY st.env st.H) l' with
    |none=>rw [h2] at hv;cases hv
    |some vs'=>
     rw [h2] at hv;cases hv;have fin:∀V:Value,aG φ K w v V->xj P l l'=true->(qW a.tmps r).run P w=.ok V w->
       ∃Vs:List Value,((r::l).mapM (qW a.tmps)).run P w=.ok Vs w/\Vs.length=(v::vs').length/\∀(j:Nat) (v':AV) (V':Value),(v::vs')[j]?=some v'->Vs[j]?=some V'->aG φ K w v' V':=by
      intro V hV hml hrun;obtain⟨Vs,q1,q2,q3⟩:=ih l' vs' hml h2;refine⟨V::Vs,?_,by simp [q2],fun j v' V' hj hJ=>?_⟩
      ·rw [List.mapM_cons,Sem.run_bind];rw [hrun];simp [q1]
      ·cases j with
       |zero=>simp at hj hJ;subst hj;subst hJ;exact hV
       |succ j=>exact q3 j v' V' (by simpa using hj) (by simpa using hJ)
     cases r with
     |tmp t=>
      cases r' with
      |cell _ _=>cases hm
      |tmp t'=>simp only [xj,OV,OY] at hm;obtain⟨rfl,hm⟩:=hm;cases h1;exact fin _ (he t) hm rfl
     |cell b t=>
      cases r' with
      |tmp _=>cases hm
      |cell b' sz=>
       simp only [xj,OV,OY] at hm;obtain⟨⟨rfl,htv⟩,hm⟩:=hm;simp only [iY] at h1;split at h1
       ·rename_i id g off hev;split at h1
        ·rename_i cs hcs;rw [Al] at hcs;have hb:=he b;rw [hev] at hb;obtain⟨blk,base,hp1,hV⟩:=jK hb;obtain⟨b1,qq8,c,e,p1,p2,p3,p4,p5⟩:=fX s hcs;rw [hp1] at p1;cases p1;have hlen:=jd c (base+off) (bW sz);have qq9:∀(j:Nat) (x:AV),cs[j]?=some x->x.one=true/\∃u,(mL c (base+off) (bW sz))[j]?=some u/\aG φ K w x u:=by
          intro j x hx;obtain⟨r1,u,r2,r3⟩:=p5 j x hx;have hj:j < bW sz:=by
           rcases Nat.lt_or_ge j cs.length with hj|hj
           ·omega
           ·rw [OA hj] at hx;cases hx
          exact⟨r1,u,by rw [fG c _ _ j hj (by omega)];exact r2,r3⟩
         refine fin _ (vb s htv h1 _ (by rw [p4,hlen]) qq9) hm ?_;simp only [qW,hV,asAddr,Sem.run_bind,Sem.run_pure,Result.andThen_ok];refine kg htv blk (base+off) _ hlen (fun j hj=>?_);rw [jZ p2,fG c _ _ j (by omega) (by omega)]
        ·cases h1
       ·cases h1
theorem yJ (s:bJ top φ K st.H.get st.nx w) (he:lY φ K w st.env a) {fn:Func} {l':List pg} (hm:xj P fn.results.toList l'=true) {v:AV} {H':av} {nx':Nat} (hv:ko l' st=some (v,H',nx')) :
  ∃V,(results fn a.tmps).run P w=.ok V w/\aG φ K w v V:=by
 unfold ko at hv;have key:∀vs,cr (iY st.env st.H) l'=some vs->∃Vs:List Value,Vs.length=vs.length/\(∀(j:Nat) (v:AV) (V:Value),vs[j]?=some v->Vs[j]?=some V->aG φ K w v V)/\(results fn a.tmps).run P w=.ok (if h:Vs.toArray.size=1 then Vs.toArray[0] else .tuple Vs.toArray) w:=by
  intro vs hvs;obtain⟨Vs,q1,q2,q3⟩:=AZ s he fn.results.toList l' vs hm hvs;refine⟨Vs,q2,q3,?_⟩;have e:fn.results=fn.results.toList.toArray:=by simp
  rw [yK,e,List.mapM_toArray];simp [q1]
 split at hv
 ·rename_i v1 hvs;cases hv;obtain⟨Vs,q1,q2,q3⟩:=key _ hvs;cases Vs with
  |nil=>simp at q1
  |cons V Vs=>have hVs:Vs=[]:=List.eq_nil_of_length_eq_zero (by simpa using q1);subst hVs;exact⟨V,by rw [q3];rfl,q2 0 v V rfl rfl⟩
 ·rename_i vs hne hvs;cases hv;obtain⟨Vs,q1,q2,q3⟩:=key _ hvs;refine⟨.tuple Vs.toArray,?_,.dL vs Vs.toArray (by simp [q1]) (fun j a V ha hV=>q2 j a V ha (by simpa using hV))⟩;rw [q3,dif_neg];intro h1;cases vs with
  |nil=>simp at q1;simp [q1] at h1
  |cons v1 vs1=>
   cases vs1 with
   |nil=>exact hne v1 rfl
   |cons _ _=>simp at q1 h1;omega
 ·cases hv
end
theorem Jl {P:Program} {prog:Map aq} (qxP:∀f af,prog.get f=some af->n7 P f af) {ex:dj} (h1:sW P ex):j8 P (gY prog ex):=by
 intro f args H nx v H' nx' h;unfold gY at h;split at h
 ·cases h
 ·rename_i af haf;obtain⟨⟨fn,c,hf,hb,hm⟩,qxb⟩:=qxP f af haf;simp only [Da,OV,OY,OZ] at hm;obtain⟨⟨⟨hnt,hpn⟩,hmc⟩,hmr⟩:=hm;refine⟨qxb,?_⟩;rw [cond_eq_ite] at h;split at h
  ·rename_i hlen;rw [OY] at hlen;intro top φ K w cargs ht s ha;have hsz:(cargs++Array.replicate (fn.ntmps - cargs.size) undef).size=af.nt:=by have:=ha.1;simp;omega
   have qxp:lY φ K w (cJ args 0 .leaf) {tmps:=cargs++Array.replicate (fn.ntmps - cargs.size) undef,defers:=[]}:=by
    intro t;rw [xw];simp only [O_,true_and,Nat.zero_add,Nat.sub_zero];by_cases hlt:t < args.length
    ·rw [if_pos hlt];have hc:t < cargs.size:=by have:=ha.1;omega
     have h2:=ha.2 t _ _ (Ov hlt) (Array.getElem?_eq_getElem hc);have e1:args.getD t c7=args[t]:=by simp [hlt]
     have e2:(cargs++Array.replicate (fn.ntmps - cargs.size) undef).getD t undef=cargs[t]:=by rw [Array.getD_eq_getD_getElem?,Array.getElem?_append_left hc,Array.getElem?_eq_getElem hc];rfl
     rw [e1,e2];exact h2
    ·rw [if_neg hlt];have e2:(cargs++Array.replicate (fn.ntmps - cargs.size) undef).getD t undef=undef:=by rw [Array.getD_eq_getD_getElem?,Array.getElem?_append_right (by have:=ha.1;omega),Array.getElem?_replicate];split<;>rfl
     rw [e2];exact n_
   have fin:∀(x:bG) (st:St),ex af.nt af.body ⟨cJ args 0 .leaf,H,nx⟩=some (x,st)->(x=.normal\/x=.ret)->ko af.res st=some (v,H',nx')->Calls P f cargs w (HC (Ends top φ K H.get nx w v H'.get nx')):=by
    intro x st hr hx hres;obtain⟨rfl,rfl⟩:=u9 hres;refine calls_of_wp hf hb ?_;refine h1 af.nt af.body _ x st hr c hmc top φ K w _ _ ht s qxp hsz rfl (fun a' w' hp=>?_);obtain⟨φ',K',g,qxT,hs',hd'⟩:=hp;obtain⟨V,hV1,hV2⟩:=yJ (P:=P) (fn:=fn) g.m8 qxT hmr hres;have hb:a'.defers=[]/\∃V,(results fn a'.tmps).run P w'=.ok V w'/\HC (Ends top φ K H.get nx w v st.H.get st.nx) (.returned V) w':=⟨hd',V,hV1,φ',K',g,hV2⟩;rcases hx with rfl|rfl
    ·exact hb
    ·exact hb
   split at h
   ·rename_i st hr;exact fin .normal st hr (.inl rfl) h
   ·rename_i st hr;exact fin .ret st hr (.inr rfl) h
   ·cases h
  ·cases h
theorem uj {P:Program} (sY:P.follows .mixedOrders=true) {prog:Map aq} (qxP:∀f af,prog.get f=some af->n7 P f af):∀k,sW P (interp prog k).code/\vV P (interp prog k).code k/\j8 P (interp prog k).fn
 |0=>⟨fun _ _ _ _ _ h=>(by cases h),fun _ _ _ _ _ h=>(by cases h),fun _ _ _ _ _ _ _ h=>(by cases h)⟩
 |k+1=>by obtain⟨h1,h2,h3⟩:=uj sY qxP k;obtain⟨u1,u2⟩:=uh prog k;exact⟨Fp sY h1 u1 h2 h3 u2,qk h1 u1 h2,Jl qxP h1⟩
end Go.Ax
namespace Go.Ax
theorem vp {W W':World} (e:Ext (fun _=>False) W W'):RowKit.Grown W W':=by
 refine⟨⟨e.os,e.output,fun i hi=>?_⟩,e.fz,e.size⟩;rw [e.same i hi (fun h=>h)];cases h:W.heap[i]? with
 |none=>rfl
 |some ob=>
  cases ob with
  |cells c t fr=>exact⟨rfl,rfl,rfl,fun _ _=>rfl⟩
  |map es clk=>exact .inr ⟨rfl,rfl⟩
  |_=>rfl
def isTrue:Option (AV×av×Nat)->Bool
 |some (.bool b,_,_)=>b
 |_=>false
theorem xp {r:Option (AV×av×Nat)} (h:isTrue r=true):∃H nx,r=some (.bool true,H,nx):=by
 unfold isTrue at h;split at h
 ·subst h;exact⟨_,_,rfl⟩
 ·cases h
theorem zD {P:Program} {cf:eF} (hcf:j8 P cf) {f:Nat} {args:List AV} (h:isTrue (cf f args .leaf 0)=true) {cargs:Array Value} {W:World} (ha:sX tR (fun b=>b < W.heap.size) W args cargs) :
  Calls P f cargs W fun e W'=>e=.returned (.bool true)/\RowKit.Grown W W':=by
 obtain⟨H,nx,hr⟩:=xp h;refine Calls.mono ((hcf f args .leaf 0 _ H nx hr).2 nx tR (fun b=>b < W.heap.size) W cargs (Pa _) (qy _ (fun b hb=>hb)) ha) (fun e W' he=>?_);cases e with
 |returned V=>obtain⟨φ',K',g,hv⟩:=he;rw [dz hv];exact⟨rfl,vp (g.ext.mono (fun b hb=>(mI hb).elim))⟩
 |panicked _=>exact he.elim
 |outgrown=>exact he.elim
def mF (P:Program) (fn:Func) (af:aq):Bool:=match fn.body with|some c=>Da P fn c af|none=>false
theorem yW {P:Program} {f:Nat} {fn:Func} {af:aq} (hf:P.funcs[f]?=some fn) (hm:mF P fn af=true) (qxb:∀args w,(callFunc f args).run P w=.ok (.enter f args) w):n7 P f af:=by
 unfold mF at hm;split at hm
 ·rename_i c hc;exact⟨⟨fn,c,hf,hc,hm⟩,qxb⟩
 ·cases hm
def FB (M:Nat->aq->Prop):Map aq->(Nat->Nat)->Prop
 |.leaf,_=>True
 |.node v l r,p=>(match v with|some af=>M (p 0) af|none=>True)/\FB M l (fun k=>p (2*k+1))/\FB M r (fun k=>p (2*k+2))
theorem sR {M:Nat->aq->Prop}:∀(m:Map aq) (p:Nat->Nat),FB M m p->∀i af,m.get i=some af->M (p i) af
 |.leaf,p,_,i,af,h=>by cases h
 |.node v l r,p,h,i,af,hg=>by
  obtain⟨h1,h2,h3⟩:=h;rw [Map.bX] at hg;by_cases h0:i=0
  ·subst h0;simp at hg;subst hg;exact h1
  ·rw [if_neg h0] at hg;split at hg
   ·have:=sR l _ h2 _ af hg;rwa [show 2*(i / 2)+1=i by omega] at this
   ·have:=sR r _ h3 _ af hg;rwa [show 2*(i / 2 - 1)+2=i by omega] at this
end Go.Ax
namespace Go.Ax
open Classical
def Ev {α:Type} (X:Nat->Option α) (r:α):Prop:=∃k0,∀k,k0<=k->X k=some r
theorem Ev.const {α:Type} {x:Option α} {r:α} (h:x=some r):Ev (fun _=>x) r:=⟨0,fun _ _=>h⟩
theorem Ev.bind {α β:Type} {X:Nat->Option α} {Y:Nat->α->Option β} {a:α} {b:β} (h1:Ev X a) (h2:Ev (fun k=>Y k a) b):Ev (fun k=>match X k with|some x=>Y k x|none=>none) b:=by obtain⟨k1,h1⟩:=h1;obtain⟨k2,h2⟩:=h2;exact⟨max k1 k2,fun k hk=>by simp only [h1 k (by omega)];exact h2 k (by omega)⟩
theorem Ev.map {α β:Type} {X:Nat->Option α} (f:Option α->Option β) {a:α} {b:β} (h1:Ev X a) (h2:f (some a)=some b):Ev (fun k=>f (X k)) b:=by obtain⟨k1,h1⟩:=h1;exact⟨k1,fun k hk=>by show f (X k)=some b;rw [h1 k hk];exact h2⟩
theorem Ev.uniq {α:Type} {X:Nat->Option α} {a b:α} (h1:Ev X a) (h2:Ev X b):a=b:=by obtain⟨k1,h1⟩:=h1;obtain⟨k2,h2⟩:=h2;have e1:=h1 (max k1 k2) (by omega);have e2:=h2 (max k1 k2) (by omega);rw [e1] at e2;exact O8 e2
theorem Ev.congr {α:Type} {X Y:Nat->Option α} {a:α} (h:Ev X a) (e:∀k,Y k=X k):Ev Y a:=by obtain⟨k1,h1⟩:=h;exact⟨k1,fun k hk=>by rw [e];exact h1 k hk⟩
def mV (cfk:Nat->eF) (cf:eF):Prop:=∀f args H nx r,cf f args H nx=some r->Ev (fun k=>cfk k f args H nx) r
def pe (exk:Nat->dj) (ex:dj):Prop:=∀nt c st r,ex nt c st=some r->Ev (fun k=>exk k nt c st) r
section
variable {cfk:Nat->eF} {cf:eF} {nt n0:Nat}
theorem lM (h:mV cfk cf) {f:Nat} {args:List AV} {m:Mode} {H:av} {nx:Nat} {r:AV×av×Nat} (hd:bH cf f args m H nx=some r):Ev (fun k=>bH (cfk k) f args m H nx) r:=by
 cases m with
 |share=>exact h _ _ _ _ _ hd
 |borrow=>
  simp only [bH,cond_eq_ite] at hd ⊢;split at hd
  ·rename_i hp;simp only [if_pos hp];cases hc:cf f args .leaf 0 with
   |none=>rw [hc] at hd;cases hd
   |some q=>
    rw [hc] at hd
    (obtain⟨k1,e1⟩:=h _ _ _ _ _ hc;exact⟨k1,fun k hk=>by simp only [e1 k hk];exact hd⟩)
  ·rename_i hp;simp only [if_neg hp];split at hd
   ·cases hd
   ·rename_i as has;cases hc:cf f as .leaf 0 with
    |none=>rw [hc] at hd;cases hd
    |some q=>
     rw [hc] at hd
     (obtain⟨k1,e1⟩:=h _ _ _ _ _ hc;exact⟨k1,fun k hk=>by simp only [e1 k hk];exact hd⟩)
theorem Fm (h:mV cfk cf) {o:ax} {ρ:aH->AV} {H:av} {nx:Nat} {r:AV×av×Nat} (hd:je cf o ρ H nx=some r):Ev (fun k=>je (cfk k) o ρ H nx) r:=by
 simp only [je,cond_eq_ite] at hd ⊢;by_cases hz:o.fz=true
 ·simp only [if_pos hz] at hd ⊢;exact Ev.const hd
 ·simp only [if_neg hz] at hd ⊢;simp only [fk] at hd ⊢;cases hk:kind o.op with
  |plan p=>rw [hk] at hd;exact Ev.const hd
  |call f args m=>rw [hk] at hd;exact lM h hd
  |cM f args m=>rw [hk] at hd;simp only at hd ⊢;cases hf:ρ f<;>rw [hf] at hd<;>first|cases hd|exact lM h hd
theorem Cd (h:mV cfk cf) {o:ax} {st st':St} (hd:eo cf nt o st=some st'):Ev (fun k=>eo (cfk k) nt o st) st':=by
 simp only [eo,cond_eq_ite] at hd ⊢;by_cases hw:wanted st.env o.gd=true
 ·simp only [if_pos hw] at hd ⊢;cases hf:je cf o (ev st.env) st.H st.nx with
  |none=>rw [hf] at hd;cases hd
  |some q=>
   rw [hf] at hd
   (obtain⟨k1,e1⟩:=Fm h hf;exact⟨k1,fun k hk=>by simp only [e1 k hk];exact hd⟩)
 ·simp only [if_neg hw] at hd ⊢;exact Ev.const hd
theorem tF (h:mV cfk cf):∀{l:List ax} {st st':St},dr cf nt l st=some st'->Ev (fun k=>dr (cfk k) nt l st) st':=by
 intro l
 induction l with
 |nil=>intro st st' hd;exact Ev.const hd
 |cons o l ih=>
  intro st st' hd;rw [dU] at hd;split at hd
  ·rename_i st1 h1;exact(Ev.bind (Y:=fun k st=>dr (cfk k) nt l st) (Cd h h1) (ih hd)).congr (fun k=>by rw [dU];cases eo (cfk k) nt o st<;>rfl)
  ·cases hd
theorem sE (h:mV cfk cf) {f:Nat} {args:List AV} {m:Mode} {H:av} {nx:Nat} {r:Kx} (hd:bR cf n0 f args m H nx=some r):Ev (fun k=>bR (cfk k) n0 f args m H nx) r:=by
 cases m with
 |share=>
  simp only [bR] at hd ⊢;cases hc:cf f args (H.upto fun i=>Nat.blt i n0) nx with
  |none=>rw [hc] at hd;cases hd
  |some q=>
   rw [hc] at hd
   (obtain⟨k1,e1⟩:=h _ _ _ _ _ hc;exact⟨k1,fun k hk=>by simp only [e1 k hk];exact hd⟩)
 |borrow=>
  simp only [bR,cond_eq_ite] at hd ⊢;by_cases hp:bx AV.plain args=true
  ·simp only [if_pos hp] at hd ⊢;cases hc:bH cf f args .borrow H nx with
   |none=>rw [hc] at hd;cases hd
   |some q=>
    rw [hc] at hd
    (obtain⟨k1,e1⟩:=lM h hc;exact⟨k1,fun k hk=>by simp only [e1 k hk];exact hd⟩)
  ·simp only [if_neg hp] at hd ⊢;cases hc:bH cf f args .borrow (H.upto fun i=>Nat.blt i n0) nx with
   |none=>rw [hc] at hd;cases hd
   |some q=>
    rw [hc] at hd
    (obtain⟨k1,e1⟩:=lM h hc;exact⟨k1,fun k hk=>by simp only [e1 k hk];exact hd⟩)
theorem DF (h:mV cfk cf) {o:ax} {ρ:aH->AV} {H:av} {nx:Nat} {r:Kx} (hd:dZ cf n0 o ρ H nx=some r):Ev (fun k=>dZ (cfk k) n0 o ρ H nx) r:=by
 simp only [dZ,cond_eq_ite] at hd ⊢;by_cases hz:o.fz=true
 ·simp only [if_pos hz] at hd ⊢;exact Ev.const hd
 ·simp only [if_neg hz] at hd ⊢;simp only [j5] at hd ⊢;cases hk:kind o.op with
  |plan p=>rw [hk] at hd;exact Ev.const hd
  |call f args m=>rw [hk] at hd;exact sE h hd
  |cM f args m=>rw [hk] at hd;simp only at hd ⊢;cases hf:ρ f<;>rw [hf] at hd<;>first|cases hd|exact sE h hd
theorem zp (h:mV cfk cf) {o:ax} {st:St} {r:St×Rec} (hd:bz cf nt n0 o st=some r):Ev (fun k=>bz (cfk k) nt n0 o st) r:=by
 simp only [bz,cond_eq_ite] at hd ⊢;by_cases hw:wanted st.env o.gd=true
 ·simp only [if_pos hw] at hd ⊢;cases hf:dZ cf n0 o (ev st.env) st.H st.nx with
  |none=>rw [hf] at hd;cases hd
  |some q=>
   rw [hf] at hd
   (obtain⟨k1,e1⟩:=DF h hf;exact⟨k1,fun k hk=>by simp only [e1 k hk];exact hd⟩)
 ·simp only [if_neg hw] at hd ⊢;exact Ev.const hd
theorem yG (h:mV cfk cf):∀{l:List ax} {st:St} {r:St×List Rec},cZ cf nt n0 l st=some r->Ev (fun k=>cZ (cfk k) nt n0 l st) r:=by
 intro l
 induction l with
 |nil=>intro st r hd;exact Ev.const hd
 |cons o l ih=>
  intro st r hd;simp only [cZ] at hd ⊢;split at hd
  ·cases hd
  ·rename_i st1 r1 h1;split at hd
   ·cases hd
   ·rename_i st2 l2 h2;obtain⟨k1,e1⟩:=zp (cfk:=cfk) h h1;obtain⟨k2,e2⟩:=ih h2;exact⟨max k1 k2,fun k hk=>by simp only [e1 k (by omega),e2 k (by omega)];exact hd⟩
theorem qz (h:mV cfk cf) {ops:List ax} {ahead:List (List Nat)} {pairs:List (Nat×Nat)} {st st':St} (hd:b7 cf nt ops ahead pairs st=some st'):Ev (fun k=>b7 (cfk k) nt ops ahead pairs st) st':=by
 simp only [b7] at hd ⊢;cases hr:cZ cf nt st.nx ops st with
 |none=>rw [hr] at hd;cases hd
 |some q=>
  rw [hr] at hd
  (obtain⟨k1,e1⟩:=yG h hr;exact⟨k1,fun k hk=>by simp only [e1 k hk];exact hd⟩)
theorem pQ {exk:Nat->dj} {ex:dj} (h:mV cfk cf) (hc:pe exk ex):pe (fun k=>br (exk k) (cfk k)) (br ex cf):=by
 intro nt c st r hd;cases c with
 |skip=>exact Ev.const hd
 |exit id=>exact Ev.const hd
 |ret=>exact Ev.const hd
 |aa ops=>
  simp only [br] at hd ⊢;cases hr:dr cf nt ops st with
  |none=>rw [hr] at hd;cases hd
  |some q=>rw [hr] at hd;(obtain⟨k1,e1⟩:=tF h hr;exact⟨k1,fun k hk=>by simp only [e1 k hk];exact hd⟩)
 |aT ops ahead pairs=>
  simp only [br] at hd ⊢;cases hr:b7 cf nt ops ahead pairs st with
  |none=>rw [hr] at hd;cases hd
  |some q=>rw [hr] at hd;(obtain⟨k1,e1⟩:=qz h hr;exact⟨k1,fun k hk=>by simp only [e1 k hk];exact hd⟩)
 |seq a b=>
  simp only [br] at hd ⊢;split at hd
  ·rename_i st1 h1;obtain⟨k1,e1⟩:=hc _ _ _ _ h1;obtain⟨k2,e2⟩:=hc _ _ _ _ hd;exact⟨max k1 k2,fun k hk=>by simp only [e1 k (by omega)];exact e2 k (by omega)⟩
  ·rename_i hne;obtain⟨k1,e1⟩:=hc _ _ _ _ hd;refine⟨k1,fun k hk=>?_⟩;simp only [e1 k hk];split
   ·rename_i st1 heq;cases heq;exact absurd hd (hne st1)
   ·rfl
 |cond c a b=>
  simp only [br] at hd ⊢;split at hd
  ·exact hc _ _ _ _ hd
  ·exact hc _ _ _ _ hd
  ·cases hd
 |block id c=>
  simp only [br] at hd ⊢;split at hd
  ·rename_i i st1 h1;obtain⟨k1,e1⟩:=hc _ _ _ _ h1;exact⟨k1,fun k hk=>by simp only [e1 k hk];exact hd⟩
  ·rename_i hne;obtain⟨k1,e1⟩:=hc _ _ _ _ hd;refine⟨k1,fun k hk=>?_⟩;simp only [e1 k hk];split
   ·rename_i i st1 heq;cases heq;exact absurd hd (hne i st1)
   ·rfl
 |loop c=>
  simp only [br] at hd ⊢;split at hd
  ·rename_i st1 h1;obtain⟨k1,e1⟩:=hc _ _ _ _ h1;obtain⟨k2,e2⟩:=hc _ _ _ _ hd;exact⟨max k1 k2,fun k hk=>by simp only [e1 k (by omega)];exact e2 k (by omega)⟩
  ·rename_i hne;obtain⟨k1,e1⟩:=hc _ _ _ _ hd;refine⟨k1,fun k hk=>?_⟩;simp only [e1 k hk];split
   ·rename_i st1 heq;cases heq;exact absurd hd (hne st1)
   ·rfl
theorem uv {prog:Map aq} {exk:Nat->dj} {ex:dj} (hc:pe exk ex):mV (fun k=>gY prog (exk k)) (gY prog ex):=by
 intro f args H nx r hd;simp only [gY] at hd ⊢;split at hd
 ·cases hd
 ·rename_i af haf;simp only [cond_eq_ite] at hd ⊢;split at hd
  ·rename_i hl;simp only [if_pos hl];cases hr:ex af.nt af.body ⟨cJ args 0 .leaf,H,nx⟩ with
   |none=>rw [hr] at hd;cases hd
   |some q=>
    rw [hr] at hd
    (obtain⟨k1,e1⟩:=hc _ _ _ _ hr;exact⟨k1,fun k hk=>by simp only [e1 k hk];exact hd⟩)
  ·cases hd
end
def aM (prog:Map aq):eF:=fun f args H nx=>if h:∃r,Ev (fun k=>(interp prog k).fn f args H nx) r then some (Classical.choose h) else none
def bg (prog:Map aq):dj:=fun nt c st=>if h:∃r,Ev (fun k=>(interp prog k).code nt c st) r then some (Classical.choose h) else none
theorem wv (prog:Map aq):mV (fun k=>(interp prog k).fn) (aM prog):=by
 intro f args H nx r h;unfold aM at h;split at h
 ·rename_i hh;cases h;exact Classical.choose_spec hh
 ·cases h
theorem qR (prog:Map aq):pe (fun k=>(interp prog k).code) (bg prog):=by
 intro nt c st r h;unfold bg at h;split at h
 ·rename_i hh;cases h;exact Classical.choose_spec hh
 ·cases h
theorem Cj {prog:Map aq} {f:Nat} {args:List AV} {H:av} {nx:Nat} {r:AV×av×Nat} (h:Ev (fun k=>(interp prog k).fn f args H nx) r):aM prog f args H nx=some r:=by have hh:∃r,Ev (fun k=>(interp prog k).fn f args H nx) r:=⟨r,h⟩;unfold aM;rw [dif_pos hh];exact congrArg some (Ev.uniq (Classical.choose_spec hh) h)
theorem yH {prog:Map aq} {nt:Nat} {c:bY} {st:St} {r:bG×St} (h:Ev (fun k=>(interp prog k).code nt c st) r):bg prog nt c st=some r:=by have hh:∃r,Ev (fun k=>(interp prog k).code nt c st) r:=⟨r,h⟩;unfold bg;rw [dif_pos hh];exact congrArg some (Ev.uniq (Classical.choose_spec hh) h)
theorem Ap {α:Type} {X:Nat->Option α} {r:α} (h:Ev (fun k=>X (k+1)) r):Ev X r:=by obtain⟨k0,h⟩:=h;exact⟨k0+1,fun k hk=>by have h1:X (k - 1+1)=some r:=h (k - 1) (by omega);rwa [show k - 1+1=k by omega] at h1⟩
theorem c8 {prog:Map aq} {nt:Nat} {c:bY} {st:St} {r:bG×St} (h:br (bg prog) (aM prog) nt c st=some r):bg prog nt c st=some r:=
 yH (Ap (X:=fun k=>(interp prog k).code nt c st) (pQ (wv prog) (qR prog) nt c st r h))
theorem yF {prog:Map aq} {f:Nat} {args:List AV} {H:av} {nx:Nat} {r:AV×av×Nat} (h:gY prog (bg prog) f args H nx=some r):aM prog f args H nx=some r:=
 Cj (Ap (X:=fun k=>(interp prog k).fn f args H nx) (uv (qR prog) f args H nx r h))
theorem Ci {P:Program} {prog:Map aq} (h:∀k,j8 P (interp prog k).fn):j8 P (aM prog):=by intro f args H nx v H' nx' hr;obtain⟨k0,hk⟩:=wv prog f args H nx _ hr;exact h k0 f args H nx v H' nx' (hk k0 (Pa _))
end Go.Ax
namespace Go.Ax
def iw (cf:eF) (lf:dj) (nt:Nat) (c:bY):St->Option (bG×St):=
 bY.rec (motive:=fun _=>St->Option (bG×St))
  (fun st=>some (.normal,st))
  (fun ops st=>match dr cf nt ops st with|some st=>some (.normal,st)|none=>none)
  (fun ops ahead pairs st=>match b7 cf nt ops ahead pairs st with|some st=>some (.normal,st)|none=>none)
  (fun _ _ ea eb st=>match ea st with|some (.normal,st)=>eb st|r=>r)
  (fun c _ _ ea eb st=>match ev st.env c with|.bool true=>ea st|.bool false=>eb st|_=>none)
  (fun id _ ec st=>match ec st with|some (.exit i,st)=>bif Nat.beq i id then some (.normal,st) else some (.exit i,st)|r=>r)
  (fun c _ st=>lf nt (.loop c) st)
  (fun id st=>some (.exit id,st))
  (fun st=>some (.ret,st)) c
section
variable {prog:Map aq} {cf:eF} {lf:dj} {nt:Nat}
theorem vF (prog:Map aq) (nt:Nat):∀(c:bY) (st:St) (r:bG×St),iw (aM prog) (bg prog) nt c st=some r->bg prog nt c st=some r:=by
 intro c
 induction c with
 |skip=>intro st r h;exact c8 h
 |aa ops=>intro st r h;exact c8 h
 |aT ops ahead pairs=>intro st r h;exact c8 h
 |exit id=>intro st r h;exact c8 h
 |ret=>intro st r h;exact c8 h
 |loop c ih=>intro st r h;exact h
 |seq a b iha ihb=>
  intro st r h;refine c8 ?_;change (match iw (aM prog) (bg prog) nt a st with|some (.normal,st)=>iw (aM prog) (bg prog) nt b st|r=>r)=some r at h;simp only [br];split at h
  ·rename_i st1 h1;rw [iha _ _ h1];exact ihb _ _ h
  ·rename_i hne;rw [iha _ _ h];split
   ·rename_i st1 heq;cases heq;exact absurd h (hne st1)
   ·rfl
 |cond c a b iha ihb=>
  intro st r h;refine c8 ?_;change (match ev st.env c with|.bool true=>iw (aM prog) (bg prog) nt a st|.bool false=>iw (aM prog) (bg prog) nt b st|_=>none)=some r at h;simp only [br];split at h
  ·rename_i hc;rw [hc];exact iha _ _ h
  ·rename_i hc;rw [hc];exact ihb _ _ h
  ·cases h
 |block id c ih=>
  intro st r h;refine c8 ?_;change (match iw (aM prog) (bg prog) nt c st with|some (.exit i,st)=>bif Nat.beq i id then some (.normal,st) else some (.exit i,st)|r=>r)=some r at h;simp only [br];split at h
  ·rename_i i st1 h1;rw [ih _ _ h1];exact h
  ·rename_i hne;rw [ih _ _ h];split
   ·rename_i i st1 heq;cases heq;exact absurd h (hne i st1)
   ·rfl
def WC (cf:eF) (lf:dj) (nt:Nat) (c:bY) (st:St) (Q:bG->St->Prop):Prop:=∃x st',iw cf lf nt c st=some (x,st')/\Q x st'
def WR (cf:eF) (nt:Nat) (ops:List ax) (st:St) (Q:St->Prop):Prop:=∃st',dr cf nt ops st=some st'/\Q st'
theorem Ei {st:St} {Q:bG->St->Prop} (h:Q .normal st):WC cf lf nt .skip st Q:=⟨_,_,rfl,h⟩
theorem Ek {id:Nat} {st:St} {Q:bG->St->Prop} (h:Q (.exit id) st):WC cf lf nt (.exit id) st Q:=⟨_,_,rfl,h⟩
theorem F4 {st:St} {Q:bG->St->Prop} (h:Q .ret st):WC cf lf nt .ret st Q:=⟨_,_,rfl,h⟩
theorem F5 {ops:List ax} {st:St} {Q:bG->St->Prop} (h:WR cf nt ops st (Q .normal)):WC cf lf nt (.aa ops) st Q:=by obtain⟨st',h1,h2⟩:=h;refine⟨.normal,st',?_,h2⟩;show (match dr cf nt ops st with|some st=>some (bG.normal,st)|none=>none)=_;rw [h1]
theorem El {ops:List ax} {ahead:List (List Nat)} {pairs:List (Nat×Nat)} {st st':St} {Q:bG->St->Prop} (h1:b7 cf nt ops ahead pairs st=some st') (h2:Q .normal st'):WC cf lf nt (.aT ops ahead pairs) st Q:=by refine⟨.normal,st',?_,h2⟩;show (match b7 cf nt ops ahead pairs st with|some st=>some (bG.normal,st)|none=>none)=_;rw [h1]
def Ia (cf:eF) (lf:dj) (nt:Nat) (b:bY) (Q:bG->St->Prop):bG->St->Prop
 |.normal,st=>WC cf lf nt b st Q
 |x,st=>Q x st
theorem F3 {a b:bY} {st:St} {Q:bG->St->Prop} (h:WC cf lf nt a st (Ia cf lf nt b Q)):WC cf lf nt (.seq a b) st Q:=by
 obtain⟨x,st1,h1,h2⟩:=h;have e:iw cf lf nt (.seq a b) st=(match iw cf lf nt a st with|some (.normal,st)=>iw cf lf nt b st|r=>r):=rfl;cases x with
 |normal=>obtain⟨x',st',h3,h4⟩:=h2;exact⟨x',st',by rw [e,h1];exact h3,h4⟩
 |exit id=>exact⟨_,st1,by rw [e,h1],h2⟩
 |ret=>exact⟨_,st1,by rw [e,h1],h2⟩
theorem uU {c:aH} {a b:bY} {st:St} {Q:bG->St->Prop} (hc:ev st.env c=.bool true) (h:WC cf lf nt a st Q):WC cf lf nt (.cond c a b) st Q:=by obtain⟨x,st1,h1,h2⟩:=h;refine⟨x,st1,?_,h2⟩;show (match ev st.env c with|.bool true=>iw cf lf nt a st|.bool false=>iw cf lf nt b st|_=>none)=_;rw [hc];exact h1
theorem sZ {c:aH} {a b:bY} {st:St} {Q:bG->St->Prop} (hc:ev st.env c=.bool false) (h:WC cf lf nt b st Q):WC cf lf nt (.cond c a b) st Q:=by obtain⟨x,st1,h1,h2⟩:=h;refine⟨x,st1,?_,h2⟩;show (match ev st.env c with|.bool true=>iw cf lf nt a st|.bool false=>iw cf lf nt b st|_=>none)=_;rw [hc];exact h1
def zF (id:Nat) (Q:bG->St->Prop):bG->St->Prop
 |.exit i,st=>if i=id then Q .normal st else Q (.exit i) st
 |x,st=>Q x st
theorem BS {id:Nat} {c:bY} {st:St} {Q:bG->St->Prop} (h:WC cf lf nt c st (zF id Q)):WC cf lf nt (.block id c) st Q:=by
 obtain⟨x,st1,h1,h2⟩:=h;have e:iw cf lf nt (.block id c) st=(match iw cf lf nt c st with|some (.exit i,st)=>bif Nat.beq i id then some (.normal,st) else some (.exit i,st)|r=>r):=rfl;cases x with
 |normal=>exact⟨_,st1,by rw [e,h1],h2⟩
 |ret=>exact⟨_,st1,by rw [e,h1],h2⟩
 |exit i=>
  simp only [zF] at h2;by_cases hi:i=id
  ·rw [if_pos hi] at h2;exact⟨.normal,st1,by rw [e,h1];simp [hi],h2⟩
  ·rw [if_neg hi] at h2;have:Nat.beq i id=false:=by
    cases hb:Nat.beq i id with
    |false=>rfl
    |true=>rw [OY] at hb;exact absurd hb hi
   exact⟨.exit i,st1,by rw [e,h1];simp [this],h2⟩
theorem k_ {c:bY} {st:St} {Q Q':bG->St->Prop} (h:WC cf lf nt c st Q) (hq:∀x st',Q x st'->Q' x st'):WC cf lf nt c st Q':=
 let ⟨x,st',h1,h2⟩:=h;⟨x,st',h1,hq _ _ h2⟩
end
theorem Ej {prog:Map aq} {nt:Nat} {c:bY} {Q:bG->St->Prop} {α:Type} (I:α->St->Prop) (μ:α->Nat)
  (round:∀a st,I a st->WC (aM prog) (bg prog) nt c st (fun x st'=>match x with|.normal=>∃a',μ a' < μ a/\I a' st'|x=>Q x st')) :
  ∀a st,I a st->WC (aM prog) (bg prog) nt (.loop c) st Q:=by
 have key:∀n a st,μ a=n->I a st->∃x st',bg prog nt (.loop c) st=some (x,st')/\Q x st':=by
  intro n
  induction n using Nat.strongRecOn with
  |_ n ih=>
   intro a st hn hI;obtain⟨x,st1,h1,h2⟩:=round a st hI;have h1':=vF prog nt _ _ _ h1;cases x with
   |normal=>obtain⟨a',hlt,hI'⟩:=h2;obtain⟨x',st',h3,h4⟩:=ih (μ a') (by omega) a' st1 rfl hI';exact⟨x',st',c8 (by simp only [br,h1'];exact h3),h4⟩
   |exit id=>exact⟨_,st1,c8 (by simp only [br,h1']),h2⟩
   |ret=>exact⟨_,st1,c8 (by simp only [br,h1']),h2⟩
 intro a st hI;obtain⟨x,st',h1,h2⟩:=key _ a st rfl hI;exact⟨x,st',h1,h2⟩
theorem sk {prog:Map aq} {f:Nat} {af:aq} (hf:prog.get f=some af) {args:List AV} (ha:args.length=af.params) {H:av} {nx:Nat} {r:AV×av×Nat->Prop}
  (h:WC (aM prog) (bg prog) af.nt af.body ⟨cJ args 0 .leaf,H,nx⟩ (fun x st=>(x=.normal\/x=.ret)/\∃v,ko af.res st=some v/\r v)):∃v,aM prog f args H nx=some v/\r v:=by
 obtain⟨x,st,h1,hx,v,h2,h3⟩:=h;refine⟨v,yF ?_,h3⟩;have h1':=vF prog _ _ _ _ h1;simp only [gY,hf,cond_eq_ite,OY,if_pos ha,h1'];rcases hx with rfl|rfl<;>exact h2
end Go.Ax
namespace Go.Ax.V
inductive TV where
 |i (k:IntKind) (n:Int)
 |b (b:Bool)
 |s (s:ByteArray)
 |f (n:Nat)
 |np
 |l (es:List TV)
 |a (cs:List TV)
 |tp (vs:List TV)
 |pW (x:AV) (u:TV)
 deriving Inhabited
abbrev tQ:TV:=.tp []
def TV.iy:TV->Bool
 |.tp _=>true
 |_=>false
def TV.one:TV->Bool
 |.a _=>false
 |.tp _=>false
 |_=>true
def TV.zQ:TV->Bool
 |.a cs=>bx (fun c=>match c with|.l _=>false|.a _=>false|.tp _=>false|.pW _ _=>false|_=>true) cs
 |.l _=>false
 |.tp _=>false
 |.pW _ _=>false
 |_=>true
def TV.AY:TV->Bool
 |.tp vs=>bx TV.zQ vs
 |v=>v.zQ
def Ck:AV->Bool
 |.b5 _ _ _=>true
 |.ak=>true
 |_=>false
mutual
inductive Can:TV->AV->Prop where
 |i (k:IntKind) (n:Int):Can (.i k n) (.int k n)
 |b (x:Bool):Can (.b x) (.bool x)
 |s (x:ByteArray):Can (.s x) (.str x)
 |f (n:Nat):Can (.f n) (.func n)
 |np:Can .np .jm
 |nil:Can (.l []) .ak
 |b5 (es:List TV) (cs:List AV) (n sz:Nat) (c:Option Nat) (hn:es.length=n) (hc:cs.length=n*sz) (hz:0 < sz) (hf:∀x∈cs,AV.flat x=true)
   (h:∀(j:Nat) (e:TV),es[j]?=some e->k9 e ((cs.drop (j*sz)).take sz)):Can (.l es) (.b5 cs n c)
 |a (ts:List TV) (as:List AV) (hl:ts.length=as.length) (hf:∀x∈as,AV.flat x=true) (h:∀(j:Nat) (t:TV) (x:AV),ts[j]?=some t->as[j]?=some x->Can t x):Can (.a ts) (.agg as)
 |tp (ts:List TV) (as:List AV) (hl:ts.length=as.length) (hf:∀x∈as,AV.eJ x=true) (h:∀(j:Nat) (t:TV) (x:AV),ts[j]?=some t->as[j]?=some x->Can t x):Can (.tp ts) (.dL as)
 |pW (x:AV) (u:TV) (hf:Ck x=true) (h:Can u x):Can (.pW x u) x
inductive k9:TV->List AV->Prop where
 |one (e:TV) (x:AV) (h1:e.one=true) (h:Can e x):k9 e [x]
 |a (ts:List TV) (as:List AV) (hl:ts.length=as.length) (h:∀(j:Nat) (t:TV) (x:AV),ts[j]?=some t->as[j]?=some x->Can t x):k9 (.a ts) as
end
def bF:TV->Option (List TV)
 |.a cs=>some cs
 |.tp _=>none
 |v=>some [v]
def cu (v:TV) (off:Nat):Option TV:=match v with
 |.a cs=>cs[off]?
 |.tp _=>none
 |v=>match off with
  |0=>some v
  |_+1=>none
def eP:Option TV->Option TV
 |some (.pW _ u)=>some u
 |r=>r
def oL:List TV->Nat->Option (List TV)
 |_,0=>some []
 |[],_+1=>none
 |x::xs,n+1=>match oL xs n with
  |some l=>some (x::l)
  |none=>none
def Br:List TV->Nat->Nat->Option (List TV)
 |cs,0,n=>oL cs n
 |[],_+1,_=>none
 |_::xs,o+1,n=>Br xs o n
def oq:List TV->List TV->Option (List TV)
 |cells,[]=>some cells
 |[],_::_=>none
 |_::xs,y::ys=>match oq xs ys with
  |some l=>some (y::l)
  |none=>none
def tL:List TV->Nat->List TV->Option (List TV)
 |cells,0,cs=>oq cells cs
 |[],_+1,_=>none
 |x::xs,o+1,cs=>match tL xs o cs with
  |some l=>some (x::l)
  |none=>none
def cG (v:TV) (off n:Nat):Option TV:=match v with
 |.a cs=>match Br cs off n with
  |some l=>some (.a l)
  |none=>none
 |_=>none
def cN (v:TV) (off n:Nat) (x:TV):Option TV:=match bF x with
 |none=>none
 |some xs=>bif Nat.beq xs.length n then match v with
   |.a cs=>match tL cs off xs with
    |some l=>some (.a l)
    |none=>none
   |.tp _=>none
   |_=>bif Nat.beq off 0&&x.one then some x else none
  else none
def jF (v:TV) (off:Nat):Option Nat->Option TV
 |none=>cu v off
 |some n=>cG v off n
def Jm (v:TV) (off:Nat) (sz:Option Nat):Option TV:=match v with
 |.a _=>jF v off sz
 |_=>none
def Ab:TV->Option (List TV)
 |.l es=>some es
 |_=>none
def pZ:TV->Option TV
 |.l es=>some (.i .i64 es.length)
 |_=>none
def Ii:TV->Option TV
 |.s x=>some (.i .i64 x.size)
 |_=>none
def BI (i:TV) (n:Nat):Option Nat:=match i with
 |.i _ m=>EZ m n
 |_=>none
def dH (v i:TV):Option TV:=match v with
 |.l es=>match BI i es.length with
  |some k=>es[k]?
  |none=>none
 |_=>none
def dX (i:Nat):TV->Option TV
 |.tp vs=>vs[i]?
 |_=>none
def Ec (x:Option TV) (other y:Nat):Option Nat:=match x with
 |none=>some other
 |some (.i _ i)=>HM i y
 |some _=>none
def Fw (lo hi:Option TV) (n:Nat):Option (Nat×Nat):=match Ec hi n n with
 |none=>none
 |some h=>match Ec lo 0 h with
  |none=>none
  |some l=>some (l,h)
def MO (v:TV) (lo hi:Option TV):Option TV:=match v with
 |.l es=>match Fw lo hi es.length with
  |some (l,h)=>some (.l ((es.drop l).take (h - l)))
  |none=>none
 |_=>none
def yx (v:TV) (lo hi:Option TV):Option TV:=match v with
 |.s x=>match Fw lo hi x.size with
  |some (l,h)=>some (.s (x.extract l h))
  |none=>none
 |_=>none
def Dk (v i:TV):Option TV:=match v with
 |.s x=>match i with
  |.i _ (.ofNat i)=>match x[i]? with
   |some b=>some (.i .u8 b.toNat)
   |none=>none
  |_=>none
 |_=>none
def oY (bytes:Nat) (es xs:List TV):Option (List TV):=
 bif Nat.ble ((es.length+xs.length)*bytes) most&&Nat.ble (es.length+xs.length) most then some (es++xs) else none
def fe (c a b:TV):Option TV:=match c with
 |.b x=>match x with
  |true=>some a
  |false=>some b
 |_=>none
def nM:TV->Option AV
 |.i k n=>some (.int k n)
 |.b x=>some (.bool x)
 |.s x=>some (.str x)
 |.f n=>some (.func n)
 |.np=>some .jm
 |_=>none
def xJ:AV->Option TV
 |.int k n=>some (.i k n)
 |.bool x=>some (.b x)
 |.str x=>some (.s x)
 |.func n=>some (.f n)
 |.jm=>some .np
 |_=>none
def cz (op:BinOp) (x y:TV):Option TV:=match nM x with
 |some x=>match nM y with
  |some y=>match ya op x y with
   |some r=>xJ r
   |none=>none
  |none=>none
 |none=>none
def zN (op:UnOp) (x:TV):Option TV:=match nM x with
 |some x=>match F7 op x with
  |some r=>xJ r
  |none=>none
 |none=>none
def AB (k:IntKind):TV->Option TV
 |.i _ n=>some (.i k (eY k n))
 |_=>none
def kQ:List TV->Option (List AV)
 |[]=>some []
 |x::xs=>match nM x with
  |none=>none
  |some a=>match kQ xs with
   |none=>none
   |some l=>some (a::l)
def C4 (mx:Bool) (xs:List TV):Option TV:=match kQ xs with
 |some (v::vs)=>match HI mx v vs with
  |some r=>xJ r
  |none=>none
 |_=>none
def Jr (t:yl) (neg:Bool) (x y:TV):Option TV:=match t with
 |.one l=>match nM x with
  |some x=>match nM y with
   |some y=>match Dy l x y with
    |some b=>some (.b (match neg with|true=>!b|false=>b))
    |none=>none
   |none=>none
  |none=>none
 |.agg ls=>match x with
  |.a xs=>match y with
   |.a ys=>match kQ xs with
    |some xs=>match kQ ys with
     |some ys=>match yj ls xs ys with
      |some b=>some (.b (match neg with|true=>!b|false=>b))
      |none=>none
     |none=>none
    |none=>none
   |_=>none
  |_=>none
 |.slice=>none
def GI (bytes:Nat):TV->Option Nat
 |.i k m=>match HM m most with
  |some m=>bif BK k .i64&&Nat.ble (Nat.mul m bytes) most then some m else none
  |none=>none
 |_=>none
def kf (es:List TV) (k off n:Nat) (x:TV):Option (List TV):=match es[k]? with
 |none=>none
 |some e=>match cN e off n x with
  |some e'=>some (es.set k e')
  |none=>none
def D9 (es:List TV) (k off:Nat) (sz:Option Nat):Option TV:=match es[k]? with
 |none=>none
 |some e=>jF e off sz
inductive VV where
 |bad
 |tr (v:TV)
 |bP
 |ptr (O off:Nat)
 |pd (O off:Nat)
 |sl (O:Nat)
 |ea (O i off:Nat)
 |pt (v:TV) (off:Nat)
 |st (v:TV) (ovs:List (Nat×VV))
 |ow (O ver i:Nat)
 |e2 (O ver i k off:Nat)
 |gl (s io:Nat) (es:List TV)
 |sa (O off n sz:Nat)
 deriving Inhabited
inductive VO where
 |ob (v:TV) (ovs:List (Nat×VV))
 |gr (sz:Nat) (es:List TV)
 |gn (K s io iz ver:Nat) (hole:Option Nat) (es:List TV)
def VO.pl:VO->Bool
 |.gn ..=>false
 |_=>true
structure VE where
 gd:Option (TV×Bool)
 v:VV
structure aF where
 env:Map VE
 H:Map VO
 us:Map Unit
def sP:AV->TV
 |.int k n=>.i k n
 |.bool x=>.b x
 |.str x=>.s x
 |.func n=>.f n
 |.ak=>.l []
 |_=>.np
def bS:List AV->List TV
 |[]=>[]
 |x::xs=>sP x::bS xs
def fh:Nat->List AV->List (Nat×VV)
 |_,[]=>[]
 |i,x::xs=>match x with
  |.ak=>(i,.bP)::fh (i+1) xs
  |_=>fh (i+1) xs
def c6:AV->Bool
 |.int ..=>true
 |.bool _=>true
 |.str _=>true
 |.func _=>true
 |.ak=>true
 |.jm=>true
 |_=>false
def vL (v:AV):VV:=match v with
 |.ak=>.bP
 |.agg cs=>bif bx c6 cs then .st (.a (bS cs)) (fh 0 cs) else .bad
 |.dL _=>.bad
 |v=>bif c6 v then .tr (sP v) else .bad
def zJ (sz:Nat) (zero:List AV):TV:=match sz with
 |1=>match zero with
  |[x]=>sP x
  |_=>.a (bS zero)
 |_=>.a (bS zero)
def bp (off:Nat):List (Nat×VV)->Option VV
 |[]=>none
 |(i,x)::r=>bif Nat.beq i off then some x else bp off r
def kz (off n:Nat):List (Nat×VV)->List (Nat×VV)
 |[]=>[]
 |(i,x)::r=>bif Nat.ble off i&&Nat.blt i (off+n) then (i - off,x)::kz off n r else kz off n r
def iS (off n:Nat):List (Nat×VV)->List (Nat×VV)
 |[]=>[]
 |(i,x)::r=>bif Nat.ble off i&&Nat.blt i (off+n) then iS off n r else (i,x)::iS off n r
def nk (off:Nat):List (Nat×VV)->List (Nat×VV)->List (Nat×VV)
 |[],r=>r
 |(i,x)::l,r=>(i+off,x)::nk off l r
def GJ (v:TV):List (Nat×VV)->VV
 |[]=>.tr v
 |p::r=>.st v (p::r)
def B2:VV->Option (TV×List (Nat×VV))
 |.tr v=>some (v,[])
 |.bP=>some (.l [],[(0,.bP)])
 |.sl O=>some (.l [],[(0,.sl O)])
 |.ow O v i=>some (.l [],[(0,.ow O v i)])
 |.st v o=>some (v,o)
 |_=>none
abbrev G:=Option (TV×Bool)
def dw (V:aF) (g:G) (x:aH) (k:VV->Prop):Prop:=match x with
 |.c v=>k (vL v)
 |.t n=>match V.env.get n with
  |none=>False
  |some e=>match e.gd with
   |none=>k e.v
   |some q=>match g with
    |none=>False
    |some p=>p=q/\k e.v
def w9:List (Nat×VV)->TV->Option TV
 |[],v=>some v
 |(off,w)::r,v=>match w with
  |.bP=>(match w9 r v with
   |some u=>cN u off 1 (.l [])
   |none=>none)
  |_=>none
def zO (w:VV) (k:TV->Prop):Prop:=match w with
 |.tr v=>k v
 |.bP=>k (.l [])
 |.st v ovs=>∃u,w9 ovs v=some u/\k u
 |_=>False
def iu (V:aF) (g:G) (x:aH) (k:TV->Prop):Prop:=dw V g x fun w=>zO w k
def p9 (es:List TV) (i io:Nat):Option (List TV):=match es[i]? with
 |some e=>(match cu e io with
  |some (.l l)=>some l
  |_=>none)
 |none=>none
def E2 (V:aF) (O v:Nat) (k:Nat->Nat->Nat->List TV->Prop):Prop:=match V.H.get O with
 |some (.gn K s io iz ver none es)=>(match Nat.beq K O&&Nat.beq ver v with
  |true=>k s io iz es
  |false=>False)
 |_=>False
def pR (V:aF) (w:VV) (k:List TV->Prop):Prop:=match w with
 |.sl O=>match V.H.get O with
  |some (.gr _ es)=>k es
  |some (.gn _ _ _ _ _ none es)=>k es
  |_=>False
 |.ow O v i=>E2 V O v fun _ io _ es=>∃l,p9 es i io=some l/\k l
 |.bP=>k []
 |_=>False
def s5 (V:aF):List (Nat×VV)->TV->(TV->Prop)->Prop
 |[],v,k=>k v
 |(off,w)::r,v,k=>s5 V r v fun u=>pR V w fun es=>∃u',cN u off 1 (.l es)=some u'/\k u'
def Hp (v:TV) (off:Nat):Nat->Option TV
 |1=>(match cu v off with
  |some e=>bif e.one then some e else none
  |none=>none)
 |n=>cG v off n
def Im (v:TV) (off sz:Nat):Nat->Option (List TV)
 |0=>(match cG v off 0 with
  |some _=>some []
  |none=>none)
 |n+1=>match Hp v off sz with
  |some e=>(match Im v (off+sz) sz n with
   |some r=>some (e::r)
   |none=>none)
  |none=>none
def Jt (v:TV) (off sz:Nat):List TV->Option TV
 |[]=>(match cG v off 0 with
  |some _=>some v
  |none=>none)
 |x::xs=>match cN v off sz x with
  |some u=>Jt u (off+sz) sz xs
  |none=>none
def HG (V:aF) (w:VV) (k:TV->Prop):Prop:=match w with
 |.tr v=>k v
 |.bP=>k (.l [])
 |.sl O=>pR V (.sl O) fun es=>k (.l es)
 |.st v ovs=>s5 V ovs v k
 |.ow O v i=>pR V (.ow O v i) fun es=>k (.l es)
 |.sa O off n sz=>(match V.H.get O with
  |some (.ob v ovs)=>(match ovs with
   |[]=>∃es,Im v off sz n=some es/\k (.l es)
   |_::_=>False)
  |_=>False)
 |_=>False
def ou (V:aF) (g:G) (x:Option aH) (k:Option TV->Prop):Prop:=match x with
 |none=>k none
 |some x=>iu V g x fun v=>k (some v)
def Cs (V:aF) (g:G):List aH->(List TV->Prop)->Prop
 |[],k=>k []
 |x::xs,k=>iu V g x fun v=>Cs V g xs fun vs=>k (v::vs)
def gV (c:TV) (bb:Bool) (P:TV->Prop) (v:TV):Prop:=match c with
 |.b x=>match x == bb with
  |true=>P v
  |false=>v=tQ
 |_=>v=tQ
def Cq (g:G) (P:TV->Prop) (k:TV->Prop):Prop:=match g with
 |none=>∃v,P v/\k v
 |some (c,bb)=>∃v,gV c bb P v/\k v
def cw (nt:Nat) (V:aF) (d:Option Nat) (g:G) (w:VV) (k:aF->Prop):Prop:=match d with
 |none=>k V
 |some d=>bif Nat.blt d nt then k {V with env:=V.env.put (some ⟨g,w⟩) d} else False
def dh (nt:Nat) (V:aF) (d:Option Nat) (g:G) (P:Option TV) (k:aF->Prop):Prop:=Cq g (fun v=>P=some v) fun v=>cw nt V d none (.tr v) k
def gh (nt:Nat) (V:aF) (d:Option Nat) (g:G) (w:Nat->VV) (o:VO) (k:aF->Prop):Prop:=match g with
 |some _=>False
 |none=>match d with
  |none=>False
  |some d=>match V.us.get d with
   |some _=>False
   |none=>cw nt {V with H:=V.H.put (some o) d,us:=V.us.put (some ()) d} (some d) none (w d) k
def ve (V:aF) (g:G):List (Nat×Nat×aH)->TV->List (Nat×VV)->(TV->List (Nat×VV)->Prop)->Prop
 |[],v,ovs,k=>k v ovs
 |(off,n,x)::r,v,ovs,k=>dw V g x fun w=>match B2 w with
  |some (t,o)=>∃u,cN v off n t=some u/\ve V g r u (nk off o (iS off n ovs)) k
  |none=>False
def jX (V:aF):VV->aF
 |.sl O=>{V with H:=V.H.put none O}
 |_=>V
def jY (V:aF):List (Nat×VV)->aF
 |[]=>V
 |(_,w)::r=>jY (jX V w) r
def dg (n:Nat) (v:TV):Prop:=match bF v with
 |some l=>l.length=n
 |none=>False
def EU:List (Nat×VV)->Bool
 |[]=>true
 |(_,.ow ..)::_=>false
 |_::r=>EU r
def ia (V:aF) (g:G) (fz:Bool) (sz:Nat):Nat->List (Nat×Nat×aH)->(List TV->aF->Prop)->Prop
 |_,[],k=>k [] V
 |j,(off,n,x)::r,k=>(Nat.beq off (j*sz)&&Nat.beq n sz)=true/\dw V g x fun w=>match w with
  |.tr t=>dg n t/\ia V g fz sz (j+1) r fun ts V'=>k (t::ts) V'
  |.bP=>n=1/\ia V g fz sz (j+1) r fun ts V'=>k (.l []::ts) V'
  |.sl O=>fz=true/\n=1/\pR V (.sl O) fun es=>ia (jX V (.sl O)) g fz sz (j+1) r fun ts V'=>k (.l es::ts) V'
  |.st t o=>(fz&&EU o)=true/\s5 V o t fun t=>dg n t/\ia (jY V o) g fz sz (j+1) r fun ts V'=>k (t::ts) V'
  |_=>False
def eC (ts:List TV) (as:List AV):Prop:=ts.length=as.length/\∀(j:Nat) (t:TV) (x:AV),ts[j]?=some t->as[j]?=some x->Can t x
def VS (prog:Map aq) (f:Nat) (ts:List TV) (Q:TV->Prop):Prop:=
 ∀as,eC ts as->∃v H nx,aM prog f as .leaf 0=some (v,H,nx)/\∃a,aN deep H v=some a/\∃r,Can r a/\Q r
theorem VS.mono {prog:Map aq} {f:Nat} {ts:List TV} {Q Q':TV->Prop} (h:VS prog f ts Q) (hq:∀r,Q r->Q' r):VS prog f ts Q':=
 fun as ha=>let ⟨v,H,nx,h1,a,h2,r,h3,h4⟩:=h as ha;⟨v,H,nx,h1,a,h2,r,h3,hq r h4⟩
def Kt (prog:Map aq) (f:Nat) (ts:List TV) (Q:TV->Prop):Prop:=
 ∀as,eC ts as->∃v H nx,aM prog f as .leaf 0=some (v,H,nx)/\own deep H v=true/\∃a,aN deep H v=some a/\∃r,Can r a/\Q r
theorem Kt.mono {prog:Map aq} {f:Nat} {ts:List TV} {Q Q':TV->Prop} (h:Kt prog f ts Q) (hq:∀r,Q r->Q' r):Kt prog f ts Q':=
 fun as ha=>let ⟨v,H,nx,h1,h0,a,h2,r,h3,h4⟩:=h as ha;⟨v,H,nx,h1,h0,a,h2,r,h3,hq r h4⟩
def tS:List (Nat×VV)->Bool
 |[]=>true
 |(_,.bP)::r=>tS r
 |_::_=>false
def k6 (V:aF) (g:G):List aH->(Bool->List TV->Prop)->Prop
 |[],k=>k true []
 |x::xs,k=>dw V g x fun w=>match w with
  |.tr v=>k6 V g xs fun p vs=>k p (v::vs)
  |.bP=>k6 V g xs fun p vs=>k p (.l []::vs)
  |.st v ovs=>s5 V ovs v fun v=>k6 V g xs fun p vs=>k (tS ovs&&p) (v::vs)
  |w=>HG V w fun v=>k6 V g xs fun _ vs=>k false (v::vs)
def Er (n:Nat):List TV->Prop
 |[]=>True
 |e::_=>dg n e
def bh (V:aF) (O:Nat) (o:VO):aF:={V with H:=V.H.put (some o) O}
def bu (V:aF) (O:Nat):aF:={V with H:=V.H.put none O}
def pos (n:Nat) (p:Prop):Prop:=bif Nat.blt 0 n then p else False
def same (a b:Nat) (p:Prop):Prop:=bif Nat.beq a b then p else False
def wG (g:G) (P:Option Nat) (k:Nat->Prop):Prop:=match g with
 |none=>∃n,P=some n/\k n
 |some (c,bb)=>∃n,(c=.b bb->P=some n)/\k n
def jr:Option aH->Bool
 |some (.c (.int _ (.ofNat 0)))=>true
 |_=>false
def cm (V:aF) (x:aH):VV:=match x with
 |.c v=>vL v
 |.t n=>match V.env.get n with
  |some e=>e.v
  |none=>.bad
def lU (n:Nat):List Nat->Bool
 |[]=>false
 |m::l=>Nat.beq n m||lU n l
inductive tf where
 |tr (t:Nat)
 |sl (t sz:Nat)
 |pt (t O off:Nat)
 |ob (O:Nat) (offs:List (Nat×Nat))
 |st (t:Nat) (offs:List (Nat×Nat))
 |ps (t t0:Nat)
def JL:List (Nat×Nat)->Type->Type
 |[],R=>R
 |_::l,R=>List TV->JL l R
def JT:List tf->Type->Type
 |[],R=>R
 |.tr _::J,R=>TV->JT J R
 |.sl _ _::J,R=>List TV->JT J R
 |.pt _ _ _::J,R=>JT J R
 |.ob _ offs::J,R=>TV->JL offs (JT J R)
 |.st _ offs::J,R=>TV->JL offs (JT J R)
 |.ps _ _::J,R=>JT J R
def uW (O off:Nat):Nat:=1024+32*O+off
def fN (V:aF) (t:Nat) (w:VV):aF:={V with env:=V.env.put (some ⟨none,w⟩) t}
def Dr:Nat:=1073741824
def Bj (sz:Nat):Nat:=sz / 1048576 % 1024
def E3 (sz:Nat):Nat:=sz / 1024 % 1024
def D_ (sz:Nat):Nat:=sz % 1024
def jc (t sz:Nat) (es:List TV):VO:=match Nat.blt sz Dr with
 |true=>.gr sz es
 |false=>.gn t (Bj sz) (E3 sz) (D_ sz) 0 none es
def ep (sz:Nat):Bool:=match Nat.blt sz Dr with
 |true=>Nat.blt 0 sz
 |false=>Nat.blt 0 (Bj sz)&&(Nat.blt (E3 sz) (Bj sz)&&Nat.blt 0 (D_ sz))
def Bh (sz s io iz:Nat):Bool:=!Nat.blt sz Dr&&(Nat.beq s (Bj sz)&&(Nat.beq io (E3 sz)&&Nat.beq iz (D_ sz)))
def gI (V:aF) (sz:Nat) (w:VV) (k:List TV->aF->Prop):Prop:=match w with
 |.sl O=>match V.H.get O with
  |some (.gr z es)=>(match Nat.blt z Dr with
   |true=>same z sz (k es (bu V O))
   |false=>False)
  |some (.gn _ s io iz _ none es)=>(match Bh sz s io iz with
   |true=>k es (bu V O)
   |false=>False)
  |_=>False
 |.bP=>k [] V
 |_=>False
def iH {R:Type} (V:aF) (ovs:List (Nat×VV)):(offs:List (Nat×Nat))->JL offs R->(R->aF->Prop)->Prop
 |[],I,k=>k I V
 |(off,sz)::offs,I,k=>match bp off ovs with
  |some w=>gI V sz w fun es V'=>iH V' ovs offs (I es) k
  |none=>False
def c_ (i:Nat):List (Nat×Nat)->Bool
 |[]=>false
 |(j,_)::l=>Nat.beq i j||c_ i l
def kI:List (Nat×VV)->List (Nat×Nat)->Bool
 |[],_=>true
 |(i,_)::r,l=>c_ i l&&kI r l
def pV:(J:List tf)->aF->JT J Prop->Prop
 |[],_,I=>I
 |.tr t::J,V,I=>iu V none (.t t) fun v=>pV J V (I v)
 |.sl t sz::J,V,I=>dw V none (.t t) fun w=>gI V sz w fun es V'=>pV J V' (I es)
 |.pt t O off::J,V,I=>dw V none (.t t) fun w=>match w with
  |.ptr O' off'=>same O' O (same off' off (pV J V I))
  |_=>False
 |.ob O offs::J,V,I=>match V.H.get O with
  |some (.ob v ovs)=>match kI ovs offs with
   |true=>iH (R:=JT J Prop) (bu V O) ovs offs (I v) fun I V'=>pV J V' I
   |false=>False
  |_=>False
 |.st t offs::J,V,I=>dw V none (.t t) fun w=>match w with
  |.st v ovs=>(match kI ovs offs with
   |true=>iH (R:=JT J Prop) V ovs offs (I v) fun I V'=>pV J V' I
   |false=>False)
  |_=>False
 |.ps t t0::J,V,I=>dw V none (.t t0) fun w0=>dw V none (.t t) fun w=>match w0 with
  |.sl O=>(match w with
   |.sl O'=>same O' O (pV J V I)
   |_=>False)
  |_=>False
def kU:tf->Bool
 |.sl _ sz=>ep sz
 |.ob _ offs=>offs.all fun p=>ep p.2
 |.st _ offs=>offs.all fun p=>ep p.2
 |_=>true
def nu (V:aF) (O:Nat) (o:VO) (k:aF->Prop):Prop:=match V.us.get O with
 |some _=>False
 |none=>k {V with H:=V.H.put (some o) O,us:=V.us.put (some ()) O}
def iR (O:Nat):List (Nat×Nat)->List (Nat×VV)
 |[]=>[]
 |(off,_)::l=>(off,.sl (uW O off))::iR O l
def D0 {R:Type} (O:Nat):(offs:List (Nat×Nat))->aF->JL offs R->(R->aF->Prop)->Prop
 |[],V,I,k=>k I V
 |(off,sz)::offs,V,I,k=>∀es:List TV,nu V (uW O off) (jc (uW O off) sz es) fun V'=>D0 O offs V' (I es) k
def k8:(J:List tf)->aF->JT J Prop->(aF->Prop)->Prop
 |[],V,I,k=>I->k V
 |.tr t::J,V,I,k=>∀v:TV,k8 J (fN V t (.tr v)) (I v) k
 |.sl t sz::J,V,I,k=>∀es:List TV,nu V t (jc t sz es) fun V'=>k8 J (fN V' t (.sl t)) (I es) k
 |.pt t O off::J,V,I,k=>match V.H.get O with
  |some (.ob _ _)=>k8 J (fN V t (.ptr O off)) I k
  |_=>False
 |.ob O offs::J,V,I,k=>∀v:TV,D0 (R:=JT J Prop) O offs V (I v) fun I V'=>nu V' O (.ob v (iR O offs)) fun V''=>k8 J V'' I k
 |.st t offs::J,V,I,k=>∀v:TV,D0 (R:=JT J Prop) t offs V (I v) fun I V'=>k8 J (fN V' t (.st v (iR t offs))) I k
 |.ps t t0::J,V,I,k=>match V.env.get t0 with
  |some e=>(match e.gd with
   |none=>(match e.v with
    |.sl O=>k8 J (fN V t (.sl O)) I k
    |_=>False)
   |some _=>False)
  |none=>False
def V0:aF:=⟨.leaf,.leaf,.leaf⟩
def kn (V:aF) (ovs:List (Nat×VV)):List (Nat×Nat)->aF
 |[]=>V
 |(off,_)::l=>match bp off ovs with
  |some w=>kn (jX V w) ovs l
  |none=>kn V ovs l
def fU:List tf->aF->aF
 |[],V=>V
 |.tr _::J,V=>fU J V
 |.sl t _::J,V=>fU J (jX V (cm V (.t t)))
 |.pt _ _ _::J,V=>fU J V
 |.ob O offs::J,V=>match V.H.get O with
  |some (.ob _ ovs)=>fU J (kn (bu V O) ovs offs)
  |_=>V
 |.st t offs::J,V=>match cm V (.t t) with
  |.st _ ovs=>fU J (kn V ovs offs)
  |_=>V
 |.ps _ _::J,V=>fU J V
def gk (V:aF) (O:Nat) (o:VO):aF:={V with H:=V.H.put (some o) O,us:=V.us.put (some ()) O}
def KF {R:Type} (O:Nat):(offs:List (Nat×Nat))->aF->(aF->R)->JL offs R
 |[],V,k=>k V
 |(off,sz)::l,V,k=>fun es:List TV=>KF O l (gk V (uW O off) (jc (uW O off) sz es)) k
def FT:(J:List tf)->aF->(aF->Prop)->JT J Prop
 |[],V,k=>k V
 |.tr t::J,V,k=>fun v:TV=>FT J (fN V t (.tr v)) k
 |.sl t sz::J,V,k=>fun es:List TV=>FT J (fN (gk V t (jc t sz es)) t (.sl t)) k
 |.pt t O off::J,V,k=>FT J (fN V t (.ptr O off)) k
 |.ob O offs::J,V,k=>fun v:TV=>KF (R:=JT J Prop) O offs V fun V'=>FT J (gk V' O (.ob v (iR O offs))) k
 |.st t offs::J,V,k=>fun v:TV=>KF (R:=JT J Prop) t offs V fun V'=>FT J (fN V' t (.st v (iR t offs))) k
 |.ps _ _::J,V,k=>FT J V k
def kP (us:Map Unit) (O:Nat):Bool:=match us.get O with
 |some _=>false
 |none=>true
def IS (O:Nat):List (Nat×Nat)->Map Unit->Option (Map Unit)
 |[],us=>some us
 |(off,_)::l,us=>bif kP us (uW O off) then IS O l (us.put (some ()) (uW O off)) else none
def A9:List tf->Map Unit->List Nat->Bool
 |[],_,_=>true
 |.tr _::J,us,obs=>A9 J us obs
 |.sl t _::J,us,obs=>kP us t&&A9 J (us.put (some ()) t) obs
 |.pt _ O _::J,us,obs=>lU O obs&&A9 J us obs
 |.ob O offs::J,us,obs=>match IS O offs us with
  |some us=>kP us O&&A9 J (us.put (some ()) O) (O::obs)
  |none=>false
 |.st t offs::J,us,obs=>match IS t offs us with
  |some us=>A9 J us obs
  |none=>false
 |.ps _ _::_,_,_=>false
inductive PK where
 |tr
 |ob (offs:List (Nat×Nat))
 |sl (sz:Nat)
inductive RK where
 |tr
 |sl (sz:Nat)
 |st (offs:List (Nat×Nat))
structure Nx where
 ks:List PK
 rk:RK
def vZ:List PK->Nat->List tf
 |[],_=>[]
 |.tr::ks,i=>.tr i::vZ ks (i+1)
 |.ob offs::ks,i=>.ob i offs::.pt i i 0::vZ ks (i+1)
 |.sl sz::ks,i=>.sl i sz::vZ ks (i+1)
def G2 (np:Nat):RK->List tf
 |.tr=>[.tr np]
 |.sl sz=>[.sl np sz]
 |.st offs=>[.st np offs]
def gi (np:Nat) (rk:RK):List PK->Nat->List tf
 |[],_=>G2 np rk
 |.tr::ks,i=>gi np rk ks (i+1)
 |.ob offs::ks,i=>.ob i offs::.pt i i 0::gi np rk ks (i+1)
 |.sl sz::ks,i=>.sl i sz::gi np rk ks (i+1)
inductive HE where
 |ob (O d:Nat)
 |pt
 |sl (O:Nat)
 |res (d:Nat)
def cx (d:Nat):List PK->List VV->Option (List HE)
 |[],[]=>some [.res d]
 |.tr::ks,_::ws=>cx d ks ws
 |.ob _::ks,.ptr O 0::ws=>match cx d ks ws with
  |some l=>some (.ob O d::.pt::l)
  |none=>none
 |.sl _::ks,.sl O::ws=>match cx d ks ws with
  |some l=>some (.sl O::l)
  |none=>none
 |_,_=>none
def mh (d off:Nat):Nat:=65536+64*d+off
abbrev l6 (d:Nat):Nat:=d+1048576
def pX (d:Nat):List (Nat×Nat)->List (Nat×VV)
 |[]=>[]
 |(off,_)::l=>(off,.sl (mh d off))::pX d l
def DK {R:Type} (d:Nat):(offs:List (Nat×Nat))->aF->(aF->R)->JL offs R
 |[],V,k=>k V
 |(off,sz)::l,V,k=>fun es:List TV=>DK d l (gk V (mh d off) (jc (mh d off) sz es)) k
def I6 {R:Type} (r:R):(offs:List (Nat×Nat))->JL offs R
 |[]=>r
 |_::l=>fun _:List TV=>I6 r l
def BH:(J:List tf)->JT J Prop
 |[]=>False
 |.tr _::J=>fun _:TV=>BH J
 |.sl _ _::J=>fun _:List TV=>BH J
 |.pt _ _ _::J=>BH J
 |.ob _ offs::J=>fun _:TV=>I6 (R:=JT J Prop) (BH J) offs
 |.st _ offs::J=>fun _:TV=>I6 (R:=JT J Prop) (BH J) offs
 |.ps _ _::J=>BH J
def sJ:(J:List tf)->List HE->aF->(aF->Prop)->JT J Prop
 |[],_,V,k=>k V
 |.tr _::J,ims,V,k=>fun v:TV=>match ims with
  |.res d::ims=>sJ J ims (fN V d (.tr v)) k
  |_=>BH J
 |.pt _ _ _::J,ims,V,k=>match ims with
  |.pt::ims=>sJ J ims V k
  |_=>BH J
 |.sl _ sz::J,ims,V,k=>fun es:List TV=>match ims with
  |.sl O::ims=>sJ J ims (bh V O (.gr sz es)) k
  |.res d::ims=>sJ J ims (fN (gk V d (jc d sz es)) d (.sl d)) k
  |_=>BH J
 |.ob _ offs::J,ims,V,k=>fun v:TV=>match ims with
  |.ob O d::ims=>DK (R:=JT J Prop) d offs V fun V'=>sJ J ims (bh V' O (.ob v (pX d offs))) k
  |_=>I6 (R:=JT J Prop) (BH J) offs
 |.st _ offs::J,ims,V,k=>fun v:TV=>match ims with
  |.res d::ims=>DK (R:=JT J Prop) (l6 d) offs V fun V'=>sJ J ims (fN V' d (.st v (pX (l6 d) offs))) k
  |_=>I6 (R:=JT J Prop) (BH J) offs
 |.ps _ _::J,_,_,_=>BH J
def yU (d:Nat):List (Nat×Nat)->Map Unit->Option (Map Unit)
 |[],us=>some us
 |(off,_)::l,us=>bif kP us (mh d off) then yU d l (us.put (some ()) (mh d off)) else none
def CW (nt:Nat):List tf->List HE->Map Unit->Bool
 |[],_,_=>true
 |.tr _::J,ims,us=>match ims with
  |.res d::ims=>Nat.blt d nt&&CW nt J ims us
  |_=>false
 |.pt _ _ _::J,ims,us=>match ims with
  |.pt::ims=>CW nt J ims us
  |_=>false
 |.sl _ sz::J,ims,us=>match ims with
  |.sl _::ims=>Nat.blt sz Dr&&CW nt J ims us
  |.res d::ims=>Nat.blt d nt&&(kP us d&&CW nt J ims (us.put (some ()) d))
  |_=>false
 |.ob _ offs::J,ims,us=>match ims with
  |.ob _ d::ims=>match yU d offs us with
   |some us=>CW nt J ims us
   |none=>false
  |_=>false
 |.st _ offs::J,ims,us=>match ims with
  |.res d::ims=>Nat.blt d nt&&(match yU (l6 d) offs us with
   |some us=>CW nt J ims us
   |none=>false)
  |_=>false
 |.ps _ _::_,_,_=>false
structure Sh where
 sg:Nat->Option Nx
 vs:(f np:Nat)->(Jin Jout:List tf)->JT Jout Prop->JT Jin Prop
 inl:Nat->Option (aF->List VV->(VV->aF->Prop)->Prop)
 tc:Nat->List Nat
 gc:Nat->Nat
 pn:Nat->List (Nat×Nat)
 fr:Nat->Bool
def EG (V:aF):List aH->(List VV->Prop)->Prop
 |[],k=>k []
 |x::xs,k=>dw V none x fun w=>EG V xs fun ws=>k (w::ws)
def BE:(ks:List PK)->(i:Nat)->List VV->aF->JT (vZ ks i) Prop->Prop
 |[],_,ws,_,I=>match ws with
  |[]=>I
  |_::_=>False
 |.tr::ks,i,ws,V,I=>match ws with
  |w::ws=>zO w fun v=>BE ks (i+1) ws V (I v)
  |[]=>False
 |.ob offs::ks,i,ws,V,I=>match ws with
  |.ptr O 0::ws=>(match V.H.get O with
   |some (.ob v ovs)=>match kI ovs offs with
    |true=>iH (R:=JT (.pt i i 0::vZ ks (i+1)) Prop) (bu V O) ovs offs (I v) fun I V'=>BE ks (i+1) ws V' I
    |false=>False
   |_=>False)
  |_=>False
 |.sl sz::ks,i,ws,V,I=>match ws with
  |.sl O::ws=>gI V sz (.sl O) fun es V'=>BE ks (i+1) ws V' (I es)
  |_=>False
def fy:List PK->List VV->aF->aF
 |[],_,V=>V
 |.tr::ks,ws,V=>match ws with
  |_::ws=>fy ks ws V
  |[]=>V
 |.ob offs::ks,ws,V=>match ws with
  |.ptr O 0::ws=>(match V.H.get O with
   |some (.ob _ ovs)=>fy ks ws (kn (bu V O) ovs offs)
   |_=>V)
  |_=>V
 |.sl _::ks,ws,V=>match ws with
  |.sl O::ws=>fy ks ws (jX V (.sl O))
  |_=>V
def qn (sh:Sh) (nt:Nat) (V:aF) (d:Option Nat) (f:Nat) (args:List aH) (k:aF->Prop):Prop:=match d with
 |none=>False
 |some d=>match sh.inl f with
  |some T=>EG V args fun ws=>T V ws fun w V'=>cw nt V' (some d) none w k
  |none=>match sh.sg f with
  |none=>False
  |some sg=>EG V args fun ws=>match cx d sg.ks ws with
   |none=>False
   |some ims=>match ((vZ sg.ks 0).all kU&&(gi sg.ks.length sg.rk sg.ks 0).all kU)&&(A9 (vZ sg.ks 0) .leaf []&&CW nt (gi sg.ks.length sg.rk sg.ks 0) ims V.us) with
    |false=>False
    |true=>BE sg.ks 0 ws V (sh.vs f sg.ks.length (vZ sg.ks 0) (gi sg.ks.length sg.rk sg.ks 0)
      (sJ (gi sg.ks.length sg.rk sg.ks 0) ims {fy sg.ks ws V with env:=V.env.put none d} k))
section
variable (sh:Sh) (prog:Map aq) (nt:Nat)
def II (g:G) (P:Option TV) (k:Prop):Prop:=match g with
 |none=>∃e,P=some e/\k
 |some (c,bb)=>∃e,(c=.b bb->P=some e)/\k
def Mi (es:List TV) (i io j off:Nat) (sz:Option Nat):Option TV:=match p9 es i io with
 |some l=>D9 l j off sz
 |none=>none
def Ja (es:List TV) (i io:Nat):Option TV:=match p9 es i io with
 |some l=>some (.i .i64 l.length)
 |none=>none
def MS (es:List TV) (i io:Nat) (j:TV):Option Nat:=match p9 es i io with
 |some l=>BI j l.length
 |none=>none
def mU (off n io:Nat):Bool:=Nat.ble (off+n) io||Nat.blt io off
def g_ (V:aF) (d:Option Nat) (g:G) (sz:Option Nat) (w:VV) (k:aF->Prop):Prop:=match w with
 |.ptr O off=>match V.H.get O with
  |some (.ob v ovs)=>match sz with
   |none=>match bp off ovs with
    |some w=>cw nt V d g w k
    |none=>dh nt V d g (eP (cu v off)) k
   |some n=>match kz off n ovs with
    |[]=>dh nt V d g (cG v off n) k
    |p::r=>match g with
     |none=>∃u,cG v off n=some u/\cw nt V d none (.st u (p::r)) k
     |some _=>False
  |_=>False
 |.pd O off=>match V.H.get O with
  |some (.ob v ovs)=>match ovs with
   |[]=>dh nt V d g (jF v off sz) k
   |_::_=>False
  |_=>False
 |.pt v off=>dh nt V d g (jF v off sz) k
 |.ea O i off=>match V.H.get O with
  |some (.gr _ es)=>dh nt V d g (D9 es i off sz) k
  |some (.gn K _ io _ ver hole es)=>(match Nat.beq K O with
   |true=>(match sz with
    |none=>(match Nat.beq off io with
     |true=>(match hole with
      |none=>II g es[i]? (cw nt V d g (.ow O ver i) k)
      |some _=>False)
     |false=>dh nt V d g (D9 es i off none) k)
    |some n=>(match mU off n io with
     |true=>dh nt V d g (D9 es i off (some n)) k
     |false=>False))
   |false=>False)
  |_=>False
 |.e2 O v i j off=>E2 V O v fun _ io _ es=>dh nt V d g (Mi es i io j off sz) k
 |_=>False
def FW (h:Option Nat) (i:Nat) (k:Prop):Prop:=match h with
 |none=>k
 |some j=>j=i/\k
def gv (V:aF) (sz:Nat) (w x:VV) (k:aF->Prop):Prop:=match w with
 |.ptr O off=>match V.H.get O with
  |some (.ob v ovs)=>match B2 x with
   |some (t,o)=>∃u,cN v off sz t=some u/\k (bh V O (.ob u (nk off o (iS off sz ovs))))
   |none=>False
  |_=>False
 |.pd O off=>match V.H.get O with
  |some (.ob v ovs)=>match ovs with
   |[]=>match x with
    |.tr t=>∃u,cN v off sz t=some u/\k (bh V O (.ob u []))
    |_=>False
   |_::_=>False
  |_=>False
 |.ea O i off=>match V.H.get O with
  |some (.gr z es)=>match x with
   |.tr t=>∃es',kf es i off sz t=some es'/\k (bh V O (.gr z es'))
   |_=>False
  |some (.gn K s io iz ver hole es)=>(match Nat.beq K O with
   |true=>(match x with
    |.tr t=>(match mU off sz io with
     |true=>∃es',kf es i off sz t=some es'/\k (bh V O (.gn K s io iz ver hole es'))
     |false=>False)
    |.sl N=>(match Nat.beq sz 1&&(Nat.beq off io&&!Nat.beq N O) with
     |true=>(match V.H.get N with
      |some (.gr z l)=>(match Nat.beq z iz with
       |true=>FW hole i (∃es',kf es i io 1 (.l l)=some es'/\k (bh (bu V N) O (.gn K s io iz (ver+1) none es')))
       |false=>False)
      |_=>False)
     |false=>False)
    |_=>False)
   |false=>False)
  |_=>False
 |.e2 O v i j off=>E2 V O v fun s io iz es=>match x with
  |.tr t=>∃l,p9 es i io=some l/\∃l',kf l j off sz t=some l'/\∃es',kf es i io 1 (.l l')=some es'/\k (bh V O (.gn O s io iz v none es'))
  |_=>False
 |_=>False
def xN (V:aF) (d:Option Nat) (g:G) (off:Nat) (sz:Option Nat) (w:VV) (k:aF->Prop):Prop:=match w with
 |.tr v=>dh nt V d g (Jm v off sz) k
 |.st v ovs=>match sz with
  |none=>match bp off ovs with
   |some w=>cw nt V d g w k
   |none=>dh nt V d g (cu v off) k
  |some n=>match kz off n ovs with
   |[]=>dh nt V d g (cG v off n) k
   |p::r=>match g with
    |none=>∃u,cG v off n=some u/\cw nt V d none (.st u (p::r)) k
    |some _=>False
 |_=>False
def vz (V:aF) (d:Option Nat) (g:G) (off:Nat) (w:VV) (k:aF->Prop):Prop:=match w with
 |.ptr O o=>cw nt V d g (.ptr O (o+off)) k
 |.pd O o=>cw nt V d g (.pd O (o+off)) k
 |.pt v o=>cw nt V d g (.pt v (o+off)) k
 |.ea O i o=>cw nt V d g (.ea O i (o+off)) k
 |.e2 O v i j o=>cw nt V d g (.e2 O v i j (o+off)) k
 |_=>False
def Ay (V:aF) (d:Option Nat) (g:G) (sz:Nat) (w:VV) (i:TV) (k:aF->Prop):Prop:=pos sz <| match w with
 |.tr v=>Cq g (fun e=>dH v i=some e/\dg sz e) fun e=>cw nt V d g (.pt e 0) k
 |.sl O=>match V.H.get O with
  |some (.gr z es)=>same z sz (wG g (BI i es.length) fun n=>cw nt V d g (.ea O n 0) k)
  |some (.gn _ s _ _ _ _ es)=>same s sz (wG g (BI i es.length) fun n=>cw nt V d g (.ea O n 0) k)
  |_=>False
 |.ow O v j=>E2 V O v fun _ io iz es=>same iz sz (wG g (MS es j io i) fun n=>cw nt V d g (.e2 O v j n 0) k)
 |_=>False
def zl (V:aF) (d:Option Nat) (g:G) (len sz:Nat) (w:VV) (i:TV) (k:aF->Prop):Prop:=match w with
 |.ptr O o=>wG g (BI i len) fun n=>cw nt V d g (.pd O (o+n*sz)) k
 |.pd O o=>wG g (BI i len) fun n=>cw nt V d g (.pd O (o+n*sz)) k
 |.pt v o=>wG g (BI i len) fun n=>cw nt V d g (.pt v (o+n*sz)) k
 |_=>False
def Au (V:aF) (d:Option Nat) (g:G) (str:Bool) (w:VV) (k:aF->Prop):Prop:=match str with
 |true=>match w with
  |.tr v=>dh nt V d g (Ii v) k
  |_=>False
 |false=>match w with
  |.tr v=>dh nt V d g (pZ v) k
  |.bP=>dh nt V d g (some (.i .i64 0)) k
  |.sl O=>match V.H.get O with
   |some (.gr _ es)=>dh nt V d g (some (.i .i64 es.length)) k
   |some (.gn _ _ _ _ _ _ es)=>dh nt V d g (some (.i .i64 es.length)) k
   |_=>False
  |.ow O v j=>E2 V O v fun _ io _ es=>dh nt V d g (Ja es j io) k
  |_=>False
def yw (V:aF) (sz:Nat) (w:VV) (k:List TV->Prop):Prop:=match w with
 |.tr v=>∃xs,Ab v=some xs/\Er sz xs/\k xs
 |.bP=>k []
 |.sl P=>match V.H.get P with
  |some (.gr z es)=>same z sz (k es)
  |_=>False
 |_=>False
def vG (V:aF) (d:Option Nat) (g:G) (s io bytes:Nat) (w:VV) (xs:List TV) (k:aF->Prop):Prop:=match d with
 |none=>False
 |some dd=>match w with
  |.bP=>(match Bh (sh.gc dd) s io (D_ (sh.gc dd))&&Nat.blt 0 (D_ (sh.gc dd)) with
   |true=>∃l,oY bytes [] xs=some l/\gh nt V d g .sl (.gn dd s io (D_ (sh.gc dd)) 0 none l) k
   |false=>False)
  |.sl O=>(match V.H.get O with
   |some (.gn _ s' io' iz _ none es)=>(match Nat.beq s' s&&Nat.beq io' io with
    |true=>∃l,oY bytes es xs=some l/\gh nt (bu V O) d g .sl (.gn dd s io iz 0 none l) k
    |false=>False)
   |_=>False)
  |_=>False
def uy (V:aF) (d:Option Nat) (g:G) (sz bytes:Nat) (w x:VV) (k:aF->Prop):Prop:=match x with
 |.gl s io xs=>same s sz (vG sh nt V d g s io bytes w xs k)
 |x=>pos sz <| yw V sz x fun xs=>match w with
 |.bP=>∃l,oY bytes [] xs=some l/\gh nt V d g .sl (.gr sz l) k
 |.sl O=>match V.H.get O with
  |some (.gr z es)=>same z sz (∃l,oY bytes es xs=some l/\gh nt (bu V O) d g .sl (.gr sz l) k)
  |_=>False
 |.ow O v i=>E2 V O v fun s io iz es=>same iz sz (∃l0,p9 es i io=some l0/\∃l,oY bytes l0 xs=some l/\gh nt (bh V O (.gn O s io iz v (some i) es)) d g .sl (.gr sz l) k)
 |_=>False
def zj (V:aF) (d:Option Nat) (g:G) (sz:Nat) (w:VV) (lo hi mx:Option aH) (k:aF->Prop):Prop:=pos sz <| match w with
 |.sl O=>match V.H.get O with
  |some (.gr z es)=>match hi with
   |none=>match mx with
    |none=>same z sz (ou V none lo fun l=>∃m,Ec l 0 es.length=some m/\gh nt (bu V O) d g .sl (.gr sz (es.drop m)) k)
    |some _=>False
   |some _=>False
  |_=>False
 |.tr v=>match mx with
  |none=>ou V g lo fun l=>ou V g hi fun h=>Cq g (fun r=>MO v l h=some r/\(∀es,v=.l es->Er sz es)) fun r=>cw nt V d none (.tr r) k
  |some m=>match jr hi&&jr mx&&lo.isNone&&g.isNone with
   |true=>∃l,Ab v=some l/\Er sz l/\cw nt V d none .bP k
   |false=>False
 |.bP=>match jr hi&&jr mx&&lo.isNone with
  |true=>cw nt V d g .bP k
  |false=>False
 |_=>False
def jV (V:aF) (d:Option Nat) (len sz:Nat) (w:VV) (hi:Option aH) (k:aF->Prop):Prop:=match w with
 |.ptr O off=>(match V.H.get O with
  |some (.ob v _)=>∃u,cG v off (len*sz)=some u/\ou V none hi fun h=>∃m,Ec h len len=some m/\cw nt V d none (.sa O off m sz) k
  |_=>False)
 |.pd O off=>(match V.H.get O with
  |some (.ob v _)=>∃u,cG v off (len*sz)=some u/\ou V none hi fun h=>∃m,Ec h len len=some m/\cw nt V d none (.sa O off m sz) k
  |_=>False)
 |_=>False
def xO (V:aF) (d:Option Nat) (sz:Nat) (w x:VV) (k:aF->Prop):Prop:=match w with
 |.sa O off n z=>same z sz (match V.H.get O with
  |some (.ob v ovs)=>(match ovs with
   |[]=>yw V sz x fun xs=>∃u,Jt v off sz (xs.take n)=some u/\cw nt (bh V O (.ob u [])) d none (.tr (.i .i64 ((min xs.length n:Nat):Int))) k
   |_::_=>False)
  |_=>False)
 |_=>False
def DI:List Nat->List (Nat×VV)->List (Nat×VV)
 |[],l=>l
 |c::cs,l=>DI cs (iS c 1 l)
def Ib (d:Option Nat):List Nat:=match d with
 |some d=>sh.tc d
 |none=>[]
def zE:List Nat->TV->List (Nat×VV)->(TV->List (Nat×VV)->Prop)->Prop
 |[],v,o,k=>k v o
 |c::cs,v,o,k=>match bp c o with
  |some .bP=>∃u,cN v c 1 (.l [])=some u/\zE cs u (iS c 1 o) k
  |_=>False
def KX (d:Option Nat) (l:List (Nat×VV)):List (Nat×VV):=match d with
 |some d=>DI (sh.tc d) l
 |none=>l
def lT (p:Bool) (r:TV):Prop:=match p with
 |true=>True
 |false=>r.AY=true
def sq (V:aF) (d:Option Nat) (g:G) (f:Nat) (args:List aH) (k:aF->Prop):Prop:=
 k6 V g args fun p ts=>match g with
  |none=>(match p||!(sh.fr f) with
   |true=>VS prog f ts fun r=>lT p r/\cw nt V d none (.tr r) k
   |false=>Kt prog f ts fun r=>cw nt V d none (.tr r) k)
  |some (c,bb)=>∃r,gV c bb (fun r=>VS prog f ts fun r'=>r'=r/\lT p r) r/\cw nt V d none (.tr r) k
def Hj (V:aF) (d:Option Nat) (g:G) (w:VV) (k:aF->Prop):Prop:=match w with
 |.tr v=>(match g with|none=>cw nt V d none (.tr v) k|some _=>dh nt V d g (some v) k)
 |.bad=>False
 |w=>cw nt V d g w k
def vw (V:aF) (d:Option Nat) (g:G) (w:VV) (k:aF->Prop):Prop:=match w with
 |.ptr ..=>cw nt V d g w k
 |.pd ..=>cw nt V d g w k
 |.pt ..=>cw nt V d g w k
 |.ea ..=>cw nt V d g w k
 |_=>False
def Hl (V:aF) (d:Option Nat) (s io:Nat) (w:VV) (k:aF->Prop):Prop:=match w with
 |.bP=>(match Nat.beq s 1&&Nat.beq io 0 with
  |true=>cw nt V d none (.gl 1 0 [.l []]) k
  |false=>False)
 |.st t ovs=>(match ovs with
  |[(o,.bP)]=>(match Nat.beq o io&&Nat.blt io s with
   |true=>dg s t/\∃u,cN t io 1 (.l [])=some u/\cw nt V d none (.gl s io [u]) k
   |false=>False)
  |_=>False)
 |_=>False
def Mn (d:Option Nat):Option Nat:=match d with
 |some d=>(match sh.gc d with
  |0=>none
  |c+1=>some (c+1))
 |none=>none
def Aw (V:aF) (d:Option Nat) (g:G) (fz:Bool) (len:Nat) (zero:List AV) (parts:List (Nat×Nat×aH)) (k:aF->Prop):Prop:=match g with
 |none=>match len with
  |0=>(match parts with|[]=>(match zero with|[]=>(match fz with|false=>cw nt V d none .bP k|true=>False)|_::_=>False)|_::_=>False)
  |n+1=>pos (zero.length / len) (same ((zero.length / len)*len) zero.length (ia V none fz (zero.length / len) 0 parts fun ts V'=>same ts.length len (cw nt V' d none (.tr (.l ts)) k)))
 |some _=>False
def pO (V:aF) (d:Option Nat) (g:G) (fz:Bool) (len:Nat) (zero:List AV) (parts:List (Nat×Nat×aH)) (k:aF->Prop):Prop:=match Mn sh d with
 |none=>Aw nt V d g fz len zero parts k
 |some c=>match g with
  |none=>(match parts with
   |[(off,n,x)]=>(match Nat.beq len 1&&(Nat.beq off 0&&(Nat.beq n (Bj c)&&Nat.beq zero.length n)) with
    |true=>dw V none x fun w=>Hl nt V d (Bj c) (E3 c) w k
    |false=>False)
   |_=>False)
  |some _=>False
def ru:List (Nat×Nat×TV)->TV->Option TV
 |[],v=>some v
 |(off,n,t)::r,v=>match cN v off n t with
  |some u=>ru r u
  |none=>none
def Ct (V:aF) (g:G):List (Nat×Nat×aH)->(List (Nat×Nat×TV)->Prop)->Prop
 |[],k=>k []
 |(off,n,x)::r,k=>iu V g x fun t=>Ct V g r fun l=>k ((off,n,t)::l)
def Dh:aH->Bool
 |.c .ak=>true
 |_=>false
def lV (V:aF) (d:Option Nat) (g:G) (op:dR) (k:aF->Prop):Prop:=match op with
 |.mv x=>dw V g x fun w=>Hj nt V d g w k
 |.pick c a b=>iu V g c fun c=>iu V g a fun a=>iu V g b fun b=>dh nt V d g (fe c a b) k
 |.alloc zero=>match bx c6 zero with
  |true=>gh nt V d g (fun O=>.ptr O 0) (.ob (.a (bS zero)) (KX sh d (fh 0 zero))) k
  |false=>False
 |.box x=>dw V g x fun w=>match B2 w with
  |some (v,o)=>v.iy=false/\zE (Ib sh d) v o fun v o=>gh nt V d g (fun O=>.ptr O 0) (.ob v o) k
  |none=>False
 |.build zero parts=>match g with
  |none=>(match bx c6 zero with
   |true=>ve V none parts (.a (bS zero)) (fh 0 zero) fun v ovs=>cw nt V d none (GJ v ovs) k
   |false=>False)
  |some q=>(match bx c6 zero with
   |true=>Ct V (some q) parts fun l=>dh nt V d (some q) (ru l (.a (bS zero))) k
   |false=>False)
 |.eO es len zero parts=>match g with
  |none=>pos es (ia V none false es 0 parts fun ts V'=>same ts.length len (same zero.length (ts.length*es) (gh nt V' d none .sl (.gr es ts) k)))
  |some _=>False
 |.aQ len zero parts=>pO sh nt V d g false len zero parts k
 |.load sz a=>dw V g a fun w=>g_ nt V d g sz w k
 |.store sz a x=>match g with
  |none=>match d with
   |none=>dw V none a fun w=>dw V none x fun x=>gv V sz w x k
   |some _=>False
  |some _=>False
 |.iT x=>dw V g x fun w=>vw nt V d g w k
 |.bin op x y=>iu V g x fun x=>iu V g y fun y=>dh nt V d g (cz op x y) k
 |.eq t neg x y=>match t with
  |.slice=>(match g with
   |none=>(match Dh y with
    |true=>iu V none x fun x=>∃es:List TV,Ab x=some es/\∀b:Bool,(es≠[]->b=neg)->cw nt V d none (.tr (.b b)) k
    |false=>False)
   |some _=>False)
  |t=>iu V g x fun x=>iu V g y fun y=>dh nt V d g (Jr t neg x y) k
 |.un op x=>iu V g x fun x=>dh nt V d g (zN op x) k
 |.conv c x=>iu V g x fun x=>dh nt V d g (AB c x) k
 |.kF es bytes zero n=>pos es <| match g with
  |none=>(match bx c6 zero&&Nat.beq zero.length es with
   |true=>iu V none n fun n=>∃m,GI bytes n=some m/\gh nt V d none .sl (.gr es (List.replicate m (zJ es zero))) k
   |false=>False)
  |some _=>False
 |.j3 x lo hi=>iu V g x fun x=>ou V g lo fun lo=>ou V g hi fun hi=>dh nt V d g (yx x lo hi) k
 |.iX es x lo hi mx=>dw V g x fun w=>zj nt V d g es w lo hi mx k
 |.iL len es x lo hi mx=>pos es <| match g with
  |none=>(match lo with
   |none=>(match mx with
    |none=>dw V none x fun w=>jV nt V d len es w hi k
    |some _=>False)
   |some _=>False)
  |some _=>False
 |.BM es w x=>pos es <| match g with
  |none=>dw V none w fun w=>dw V none x fun x=>xO nt V d es w x k
  |some _=>False
 |.gZ off x=>dw V g x fun w=>vz nt V d g off w k
 |.Bm off sz x=>dw V g x fun w=>xN nt V d g off sz w k
 |.bQ es x i=>dw V g x fun w=>iu V g i fun i=>Ay nt V d g es w i k
 |.kM len es x i=>dw V g x fun w=>iu V g i fun i=>zl nt V d g len es w i k
 |.idx x i=>iu V g x fun x=>iu V g i fun i=>dh nt V d g (Dk x i) k
 |.ext i x=>iu V g x fun x=>dh nt V d g (dX i x) k
 |.app es bytes s x=>dw V g s fun w=>dw V g x fun x=>uy sh nt V d g es bytes w x k
 |.len str x=>dw V g x fun w=>Au nt V d g str w k
 |.yh mx xs=>Cs V g xs fun xs=>dh nt V d g (C4 mx xs) k
 |.call f args .borrow=>sq sh prog nt V d g f args k
 |.call f args .share=>match g with
  |none=>qn sh nt V d f args k
  |some _=>False
 |.cM f args .borrow=>iu V g f fun f=>match g with
  |none=>∃n,f=.f n/\sq sh prog nt V d none n args k
  |some (c,bb)=>∃n,(c=.b bb->f=.f n)/\sq sh prog nt V d (some (c,bb)) n args k
 |_=>False
def E7 (V:aF) (o:ax) (k:aF->Prop):Prop:=match o.gd with
 |none=>match o.fz with
  |true=>(match o.op with
   |.aQ len zero parts=>pO sh nt V o.dst none true len zero parts k
   |_=>False)
  |false=>lV sh prog nt V o.dst none o.op k
 |some (n,bb)=>match o.fz with
  |true=>False
  |false=>iu V none (.t n) fun c=>lV sh prog nt V o.dst (some (c,bb)) o.op k
def Hi:List ax->aF->(aF->Prop)->Prop
 |[],V,k=>k V
 |o::l,V,k=>E7 sh prog nt V o fun V=>Hi l V k
structure yf where
 rd:List Nat
 wr:List Nat
 src:List Nat
def ot:List (Nat×VV)->List Nat
 |[]=>[]
 |(_,.sl O)::r=>O::ot r
 |(_,.ow O _ _)::r=>O::ot r
 |_::r=>ot r
def bT:VV->List Nat
 |.sl O=>[O]
 |.st _ ovs=>ot ovs
 |.ow O _ _=>[O]
 |_=>[]
def fc:VV->List Nat
 |.ptr O _=>[O]
 |.pd O _=>[O]
 |.ea O _ _=>[O]
 |.e2 O _ _ _ _=>[O]
 |_=>[]
def u5:VV->List Nat
 |.sa O _ _ _=>[O]
 |_=>[]
def G3:VV->Bool
 |.tr _=>true
 |.bP=>true
 |.st _ ovs=>tS ovs
 |_=>false
def oa (V:aF):List aH->Bool
 |[]=>true
 |x::xs=>G3 (cm V x)&&oa V xs
def dV (V:aF):List (Nat×Nat×aH)->List Nat
 |[]=>[]
 |(_,_,x)::r=>bT (cm V x)++dV V r
def vt (V:aF) (o:ax):Option yf:=match o.op with
 |.load _ a=>some ⟨fc (cm V a),[],[]⟩
 |.store _ a _=>some ⟨fc (cm V a),fc (cm V a),[]⟩
 |.app _ _ s x=>some ⟨bT (cm V s)++bT (cm V x),bT (cm V s),bT (cm V s)⟩
 |.iX _ x _ _ _=>some ⟨[],[],bT (cm V x)⟩
 |.aQ _ _ parts=>match o.fz with
  |true=>some ⟨dV V parts,dV V parts,[]⟩
  |false=>some ⟨[],[],[]⟩
 |.call _ args .borrow=>match oa V args with
  |true=>some ⟨[],[],[]⟩
  |false=>none
 |.cM _ args .borrow=>match oa V args with
  |true=>some ⟨[],[],[]⟩
  |false=>none
 |.call _ _ .share=>none
 |.cM _ _ .share=>none
 |.iL _ _ x _ _ _=>some ⟨fc (cm V x),[],[]⟩
 |.BM _ w x=>some ⟨u5 (cm V w)++bT (cm V x),u5 (cm V w),[]⟩
 |.Eb ..=>none
 |.l8 ..=>none
 |.vk ..=>none
 |.s9 ..=>none
 |_=>some ⟨[],[],[]⟩
def cW (T:Nat):List (Nat×Nat×List Nat)->Nat×List Nat
 |[]=>(T,[])
 |(T',x)::l=>bif Nat.beq T' T then x else cW T l
def Es:List Nat->List Nat->Bool
 |[],_=>true
 |n::l,m=>lU n m&&Es l m
def uH:List Nat->List Nat->Bool
 |[],_=>true
 |n::l,m=>!lU n m&&uH l m
def iM (info:List (Nat×Nat×List Nat)):List Nat->List Nat
 |[]=>[]
 |T::l=>(cW T info).1::iM info l
def jv (info:List (Nat×Nat×List Nat)) (ah:List Nat):List Nat->Bool
 |[]=>true
 |T::l=>Es (cW T info).2 ah&&jv info ah l
def s_ {α:Type} (m:Map α):(Nat->Bool)->Bool:=
 Map.rec (motive:=fun _=>(Nat->Bool)->Bool) (fun _=>true)
  (fun v _ _ l r p=>(match v with|none=>true|some _=>p 0)&&(l (fun k=>p (Nat.succ (Nat.mul 2 k)))&&r (fun k=>p (Nat.succ (Nat.succ (Nat.mul 2 k)))))) m
def MT (d:Option Nat) (T:Nat):Bool:=match d with
 |some d=>Nat.beq d T
 |none=>false
def jt (V:aF) (T:Nat):Bool:=match V.H.get T with
 |some _=>true
 |none=>false
def Ae:Option VO->Option VO->Bool
 |some (.gn _ _ _ _ _ none _),some (.gn _ _ _ _ _ (some _) _)=>false
 |_,_=>true
def B8 (x y:Option VO) (k:Prop):Prop:=match x with
 |some (.gn K _ _ _ v h _)=>(match y with
  |some (.gn K' _ _ _ v' h' _)=>(match Nat.beq K K'&&Nat.beq v v' with
   |true=>(match h with
    |none=>k
    |some j=>(match h' with
     |some j'=>j=j'/\k
     |none=>False))
   |false=>False)
  |some _=>False
  |none=>k)
 |some _=>(match y with
  |some (.gn ..)=>False
  |_=>k)
 |none=>k
def Bx {α:Type} (m:Map α):(Nat->Prop->Prop)->Prop->Prop:=
 Map.rec (motive:=fun _=>(Nat->Prop->Prop)->Prop->Prop) (fun _ k=>k)
  (fun v _ _ l r f k=>(match v with|none=>fun k=>k|some _=>f 0) (l (fun i=>f (Nat.succ (Nat.mul 2 i))) (r (fun i=>f (Nat.succ (Nat.succ (Nat.mul 2 i)))) k))) m
def AQ (l:List ax) (V V':aF) (k:Prop):Prop:=match l with
 |[]=>k
 |_::_=>Bx V'.H (fun T=>B8 (V.H.get T) (V'.H.get T)) k
def tq (d:Option Nat) (i:Nat) (V V':aF) (f:yf) (info:List (Nat×Nat×List Nat)):Option (List (Nat×Nat×List Nat)):=
 match s_ V'.H fun T=>jt V T||MT d T with
 |false=>none
 |true=>match d with
  |none=>some info
  |some d=>match jt V' d&&!jt V d with
   |false=>some info
   |true=>match s_ V.H fun T=>lU T f.src||(jt V' T&&Ae (V.H.get T) (V'.H.get T)) with
    |false=>none
    |true=>match f.src with
     |[]=>some ((d,d,[i])::info)
     |[O]=>some ((d,(cW O info).1,i::(cW O info).2)::info)
     |_=>none
def vf (feet:List (List Nat×List Nat)):List (Nat×Nat)->Bool
 |[]=>true
 |(i,j)::l=>(match feet[i]? with
  |some a=>match feet[j]? with
   |some b=>uH a.2 b.1&&(uH b.2 a.1&&uH a.2 b.2)
   |none=>false
  |none=>false)&&vf feet l
def GH (d:Nat):List PK->RK->List Nat
 |[],rk=>(match rk with
  |.tr=>[]
  |.sl _=>[d]
  |.st offs=>offs.map (fun p=>mh (l6 d) p.1))
 |k::ks,rk=>(match k with
  |.ob offs=>offs.map (fun p=>mh d p.1)++GH d ks rk
  |_=>GH d ks rk)
def ek:List (Nat×Nat×List Nat)->aF->aF
 |[],V=>V
 |(T,_)::l,V=>ek l (bu V T)
def jx (V:aF):List (Nat×Nat×List Nat)->aF->aF
 |[],W=>W
 |(T,_)::l,W=>jx V l (match W.H.get T with
  |some _=>W
  |none=>match V.H.get T with
   |some o=>(match o.pl with
    |true=>bh W T o
    |false=>W)
   |none=>W)
def pL (i:Nat):List Nat->List (Nat×Nat×List Nat)->List (Nat×Nat×List Nat)
 |[],l=>l
 |T::r,l=>(T,T,[i])::pL i r l
def EV (d f:Nat):List Nat:=match sh.inl f with
 |some _=>[]
 |none=>match sh.sg f with
  |some sg=>GH d sg.ks sg.rk
  |none=>[]
def uT (V:aF) (o:ax):Option (List Nat):=match o.gd with
 |some _=>none
 |none=>match o.fz with
  |true=>none
  |false=>match o.op with
   |.call f args .share=>(match o.dst with
    |some d=>some (EV sh d f)
    |none=>none)
   |.call _ args .borrow=>(match oa V args with
    |true=>none
    |false=>some [])
   |_=>none
def w8 (V:aF):List Nat->Bool
 |[]=>true
 |T::l=>(match V.H.get T with|some _=>false|none=>true)&&w8 V l
inductive fu where
 |sl (N:Nat)
 |tr (c:Option TV)
def vn (v:TV) (ovs:List (Nat×VV)):Nat->Nat->Option (List fu)
 |_,0=>some []
 |off,n+1=>match vn v ovs (off+1) n with
  |none=>none
  |some l=>match bp off ovs with
   |some (.sl N)=>some (.sl N::l)
   |some _=>none
   |none=>some (.tr (cu v off)::l)
def cellOf (V:aF) (o:ax):Option (Nat×Nat×List fu):=match o.gd with
 |some _=>none
 |none=>match o.fz with
  |true=>none
  |false=>match o.op with
   |.load sz (.t a)=>(match V.env.get a with
    |some ⟨none,.ptr O off⟩=>(match V.H.get O with
     |some (.ob v ovs)=>(match vn v ovs off (bW sz) with
      |some (k::ks)=>some (O,off,k::ks)
      |_=>none)
     |_=>none)
    |_=>none)
   |_=>none
def TV.uniq:TV->Bool
 |.i _ _=>true
 |.b _=>true
 |.s _=>true
 |.pW _ _=>true
 |_=>false
def Bg (v:TV) (ovs:List (Nat×VV)):Nat->List fu->Prop->Prop
 |_,[],k=>k
 |off,key::l,k=>match key with
  |.sl N=>(match bp off ovs with
   |some (.sl N')=>(match Nat.beq N N' with
    |true=>Bg v ovs (off+1) l k
    |false=>False)
   |_=>False)
  |.tr c=>(match bp off ovs with
   |none=>(∃t,TV.uniq t=true/\c=some t/\cu v off=some t)/\Bg v ovs (off+1) l k
   |some _=>False)
def G1 (V:aF) (O off:Nat) (key:List fu) (k:Prop):Prop:=match V.H.get O with
 |some (.ob v ovs)=>Bg v ovs off key k
 |_=>False
def xK (i:Nat):List (Nat×Nat×Nat×List fu)->Option (Nat×Nat×List fu)
 |[]=>none
 |(c,p)::l=>match Nat.beq c i with
  |true=>some p
  |false=>xK i l
def nE (V:aF) (cl:List (Nat×Nat×Nat×List fu)) (i:Nat):List (Nat×Nat)->Prop->Prop
 |[],k=>k
 |(a,b)::l,k=>match Nat.beq a i with
  |true=>False
  |false=>match Nat.beq b i with
   |false=>nE V cl i l k
   |true=>match xK a cl with
    |none=>False
    |some (O,off,key)=>G1 V O off key (nE V cl i l k)
def yV {α:Type}:List α->Bool
 |[]=>true
 |_::_=>false
def Aj (V V':aF) (feet:List (List Nat×List Nat)):Bool:=
 s_ V.H fun O=>((match V.H.get O with|some o=>o.pl|none=>false)&&jt V' O)||bx (fun f=>!lU O f.1&&!lU O f.2) feet
def Fx (V:aF) (o:ax) (i:Nat) (pairs:List (Nat×Nat)) (cl:List (Nat×Nat×Nat×List fu)):List (Nat×Nat×Nat×List fu):=match pairs with
 |[]=>cl
 |_::_=>match cellOf V o with
  |some p=>(i,p)::cl
  |none=>cl
def E9 (ahead:List (List Nat)) (pairs:List (Nat×Nat)):List ax->Nat->aF->List (Nat×Nat×List Nat)->List (List Nat×List Nat)->List (Nat×Nat×Nat×List fu)->(aF->Prop)->Prop
 |[],i,V,_,feet,_,k=>match Nat.beq ahead.length i&&vf feet pairs with
  |true=>k V
  |false=>False
 |o::l,i,V,info,feet,cl,k=>match uT sh V o with
  |some ns=>(match w8 V ns&&(yV pairs||!yV l) with
    |true=>nE V cl i pairs (E7 sh prog nt (ek info V) o fun V'=>(match (s_ V'.H fun T=>jt (ek info V) T||lU T ns)&&(yV pairs||Aj (ek info V) V' feet) with
     |true=>AQ l (ek info V) V' (nE (jx V info V') cl i pairs (E9 ahead pairs l (i+1) (jx V info V') (pL i ns info) (feet++[([],[])]) cl k))
     |false=>False))
    |false=>False)
  |none=>E7 sh prog nt V o fun V'=>match vt V o with
   |none=>False
   |some f=>match ahead[i]? with
    |none=>False
    |some ah=>match jv info ah (f.rd++f.wr) with
     |false=>False
     |true=>match tq o.dst i V V' f info with
      |none=>False
      |some info'=>AQ l V V' (E9 ahead pairs l (i+1) V' info' (feet++[(iM info f.rd,iM info f.wr)]) (Fx V o i pairs cl) k)
def TV.On:TV->Bool
 |.l _=>true
 |_=>false
def EH:List (Nat×Nat)->aF->(aF->Prop)->Prop
 |[],V,k=>k V
 |(O,off)::l,V,k=>match V.H.get O with
  |some (.ob v ovs)=>(match bp off ovs with
   |none=>∃t,eP (cu v off)=some t/\t.On=true/\∀x:AV,∃v',cN v off 1 (.pW x t)=some v'/\EH l (bh V O (.ob v' ovs)) k
   |some _=>False)
  |_=>False
def G_:List ax->Nat
 |⟨some d,_,_,_⟩::_=>d
 |_=>0
inductive b_ where
 |skip
 |aa (ops:List ax)
 |aT (ops:List ax) (ahead:List (List Nat)) (pairs:List (Nat×Nat))
 |seq (a b:b_)
 |cond (c:aH) (a b:b_)
 |block (id:Nat) (c:b_)
 |loop (J:List tf) (c:b_)
 |exit (id:Nat)
 |ret
 |join (J:List tf) (c:b_)
def b_.code:b_->bY
 |.skip=>.skip
 |.aa ops=>.aa ops
 |.aT ops ahead pairs=>.aT ops ahead pairs
 |.seq a b=>.seq a.code b.code
 |.cond c a b=>.cond c a.code b.code
 |.block id c=>.block id c.code
 |.loop _ c=>.loop c.code
 |.exit id=>.exit id
 |.ret=>.ret
 |.join _ c=>c.code
def ck (c:TV) (a b:Prop):Prop:=match c with
 |.b x=>(match x with|true=>a|false=>b)
 |_=>False
def BJ:b_->aF->(bG->aF->Prop)->Prop
 |.skip,V,k=>k .normal V
 |.aa ops,V,k=>Hi sh prog nt ops V (k .normal)
 |.aT ops ahead pairs,V,k=>EH (sh.pn (G_ ops)) V fun V=>E9 sh prog nt ahead pairs ops 0 V [] [] [] (k .normal)
 |.seq a b,V,k=>BJ a V fun x V=>match x with
  |.normal=>BJ b V k
  |x=>k x V
 |.cond c a b,V,k=>iu V none c fun c=>ck c (BJ a V k) (BJ b V k)
 |.block id c,V,k=>BJ c V fun x V=>match x with
  |.exit i=>bif Nat.beq i id then k .normal V else k (.exit i) V
  |x=>k x V
 |.loop J c,V,k=>∃I:Nat->JT J Prop,(∃n,pV J V (I n))/\∀n,k8 J V0 (I n) fun V=>BJ c V fun x V=>match x with
  |.normal=>∃m,m < n/\pV J V (I m)
  |x=>k x V
 |.exit id,V,k=>k (.exit id) V
 |.ret,V,k=>k .ret V
 |.join J c,V,k=>∃I:JT J Prop,(BJ c V fun x V=>match x with
  |.normal=>pV J V I
  |x=>k x V)/\k8 J V0 I (k .normal)
end
def Dj:List TV->Nat->aF->aF
 |[],_,V=>V
 |v::vs,i,V=>Dj vs (i+1) (fN V i (.tr v))
def qg (V:aF) (r:pg) (k:TV->Prop):Prop:=match r with
 |.tmp t=>dw V none (.t t) fun w=>HG V w k
 |.cell t sz=>dw V none (.t t) fun w=>match w with
  |.ptr O off=>(match V.H.get O with
   |some (.ob v ovs)=>match sz with
    |none=>(match bp off ovs with
     |some w=>pR V w fun es=>k (.l es)
     |none=>∃u,cu v off=some u/\k u)
    |some n=>∃u,cG v off n=some u/\s5 V (kz off n ovs) u k
   |_=>False)
  |_=>False
def yL (V:aF):List pg->(List TV->Prop)->Prop
 |[],k=>k []
 |r::rs,k=>qg V r fun v=>yL V rs fun vs=>k (v::vs)
def zZ:List TV->Prop
 |[]=>True
 |t::r=>t.iy=false/\zZ r
def gH (rs:List TV):Prop:=match rs with
 |[_]=>True
 |rs=>zZ rs
def yo:List TV->TV
 |[v]=>v
 |vs=>.tp vs
def Jq (sh:Sh) (prog:Map aq) (af:aq) (vc:b_) (ts:List TV) (Q:TV->Prop):Prop:=
 BJ sh prog af.nt vc (Dj ts 0 V0) fun x V=>(match x with|.exit _=>False|_=>True)/\yL V af.res fun rs=>gH rs/\Q (yo rs)
end Go.Ax.V
namespace Go.Ax.fE
open Go Go.Ax Go.Ax.V
abbrev LO:=List ax
abbrev oT (d t:Nat) (op:dR):ax:=⟨some d,op,some (t,true),false⟩
abbrev oF (d t:Nat) (op:dR):ax:=⟨some d,op,some (t,false),false⟩
abbrev oN (op:dR):ax:=⟨none,op,none,false⟩
abbrev zi:AV:=.int .i64 0
abbrev qM (d a:Nat):ax:=o d (.mv (.t a))
abbrev qMT (d g a:Nat):ax:=oT d g (.mv (.t a))
abbrev qMF (d g a:Nat):ax:=oF d g (.mv (.t a))
abbrev qZ (d a:Nat):ax:=o d (.mv (i64 a))
abbrev qL (d a:Nat):ax:=o d (.load none (.t a))
abbrev qLT (d g a:Nat):ax:=oT d g (.load none (.t a))
abbrev qLF (d g a:Nat):ax:=oF d g (.load none (.t a))
abbrev qG (d a b:Nat):ax:=o d (.load (some a) (.t b))
abbrev qGT (d g a b:Nat):ax:=oT d g (.load (some a) (.t b))
abbrev qGF (d g a b:Nat):ax:=oF d g (.load (some a) (.t b))
abbrev qF (d a b:Nat):ax:=o d (.gZ a (.t b))
abbrev qFT (d g a b:Nat):ax:=oT d g (.gZ a (.t b))
abbrev qFF (d g a b:Nat):ax:=oF d g (.gZ a (.t b))
abbrev qI (d a b c:Nat):ax:=o d (.bQ a (.t b) (.t c))
abbrev qIT (d g a b c:Nat):ax:=oT d g (.bQ a (.t b) (.t c))
abbrev qIF (d g a b c:Nat):ax:=oF d g (.bQ a (.t b) (.t c))
abbrev qN (d a:Nat):ax:=o d (.len false (.t a))
abbrev qNT (d g a:Nat):ax:=oT d g (.len false (.t a))
abbrev qNF (d g a:Nat):ax:=oF d g (.len false (.t a))
abbrev qU (d a:Nat):ax:=o d (.un .not (.t a))
abbrev qUT (d g a:Nat):ax:=oT d g (.un .not (.t a))
abbrev qUF (d g a:Nat):ax:=oF d g (.un .not (.t a))
abbrev qP (d a b:Nat):ax:=o d (.pick (.t a) (.c (.bool true)) (.t b))
abbrev qPT (d g a b:Nat):ax:=oT d g (.pick (.t a) (.c (.bool true)) (.t b))
abbrev qQ (d a b:Nat):ax:=o d (.pick (.t a) (.t b) (.c (.bool false)))
abbrev qQF (d g a b:Nat):ax:=oF d g (.pick (.t a) (.t b) (.c (.bool false)))
abbrev qE (d a b:Nat):ax:=o d (.ext a (.t b))
abbrev qX (d a:Nat):ax:=o d (.iT (.t a))
abbrev qXF (d g a:Nat):ax:=oF d g (.iT (.t a))
abbrev qB (d:Nat) (p:BinOp) (a b:Nat):ax:=o d (.bin p (.t a) (.t b))
abbrev qC (d:Nat) (p:BinOp) (a b:Nat):ax:=o d (.bin p (.t a) (i64 b))
abbrev qK (d f:Nat) (l:List Nat):ax:=o d (.call f (l.map .t) .borrow)
abbrev qBT (d g:Nat) (p:BinOp) (a b:Nat):ax:=oT d g (.bin p (.t a) (.t b))
abbrev qCT (d g:Nat) (p:BinOp) (a b:Nat):ax:=oT d g (.bin p (.t a) (i64 b))
abbrev qKT (d g f:Nat) (l:List Nat):ax:=oT d g (.call f (l.map .t) .borrow)
abbrev qBF (d g:Nat) (p:BinOp) (a b:Nat):ax:=oF d g (.bin p (.t a) (.t b))
abbrev qCF (d g:Nat) (p:BinOp) (a b:Nat):ax:=oF d g (.bin p (.t a) (i64 b))
abbrev qKF (d g f:Nat) (l:List Nat):ax:=oF d g (.call f (l.map .t) .borrow)
abbrev qY (d:Nat) (b:Bool):ax:=o d (.mv (.c (.bool b)))
abbrev qO (s a b:Nat):ax:=oN (.store s (.t a) (.t b))
abbrev qA (d s y a b:Nat):ax:=o d (.app s y (.t a) (.t b))
abbrev oZ (d:Nat) (p:dR):ax:=⟨some d,p,none,true⟩
abbrev xA (a e:Nat):bY:=.cond (.t a) .skip (.exit e)
abbrev zL1:List AV:=[zi,zi,zi,zi,zi,zi,zi,.ak,zi,zi,zi,zi,.ak,zi,zi,zi,.ak,.ak,.ak,.ak]
abbrev zL2:List AV:=[zi,zi,zi,zi,zi,zi,zi,zi,zi,.ak,zi,zi,zi,zi,.ak,zi,zi,zi,.ak]
abbrev zL3:List AV:=[zi,zi,zi,zi,.ak,zi,zi,zi,.ak]
abbrev zL4:List AV:=[zi,zi,zi,.ak,zi,zi,zi,.ak]
abbrev zL5:List AV:=[zi,zi,zi,zi,zi,.ak]
abbrev rg:Nat->List Nat:=List.range
abbrev qs (l:LO) (c:b_):b_:=.seq (.aa l) c
abbrev tB0:ByteArray:=⟨#[0,1,2,2,3,3,3,3,4,4,4,4,4,4,4,4,5,5,5,5,5,5,5,5,5,5,5,5,5,5,5,5,6,6,6,6,6,6,6,6,6,6,6,6,6,6,6,6,6,6,6,6,6,6,6,6,6,6,6,6,6,6,6,6,7,7,7,7,7,7,7,7,7,7,7,7,7,7,7,7,7,7,7,7,7,7,7,7,7,7,7,7,7,7,7,7,7,7,7,7,7,7,7,7,7,7,7,7,7,7,7,7,7,7,7,7,7,7,7,7,7,7,7,7,7,7,7,7,8,8,8,8,8,8,8,8,8,8,8,8,8,8,8,8,8,8,8,8,8,8,8,8,8,8,8,8,8,8,8,8,8,8,8,8,8,8,8,8,8,8,8,8,8,8,8,8,8,8,8,8,8,8,8,8,8,8,8,8,8,8,8,8,8,8,8,8,8,8,8,8,8,8,8,8,8,8,8,8,8,8,8,8,8,8,8,8,8,8,8,8,8,8,8,8,8,8,8,8,8,8,8,8,8,8,8,8,8,8,8,8,8,8,8,8,8,8,8,8,8,8,8,8,8,8,8,8]⟩
def FP:LO:=[qY 4 false]
def FO:LO:=[o 15 (.build [zi,zi,zi,.ak] [(0,1,(i64 1)),(1,1,(i64 1))]),o 5 (.alloc [zi,zi,zi,.ak]),qO 4 5 15]
def FN:LO:=[qG 16 4 5,qG 17 4 5,o 18 (.build zL3 [(0,1,(i64 1)),(1,4,.t 16),(5,4,.t 17)]),o 19 (.build zL1 [(0,1,(i64 7))]),o 20 (.build [zi,zi,zi,.ak] [(0,1,(i64 2))]),o 21 (.build [zi,zi,zi,.ak] [(0,1,(i64 1)),(1,1,(i64 7))]),oZ 22 (.aQ 2 zL4 [(0,4,.t 20),(4,4,.t 21)]),o 23 (.build [zi,zi,zi,.ak] [(0,1,(i64 8)),(3,1,.t 22)]),o 24 (.build zL1 [(0,1,(i64 1)),(1,1,(i64 1)),(4,4,.t 23)]),oZ 25 (.aQ 2 [zi,zi,zi,zi,zi,zi,zi,.ak,zi,zi,zi,zi,.ak,zi,zi,zi,.ak,.ak,.ak,.ak,zi,zi,zi,zi,zi,zi,zi,.ak,zi,zi,zi,zi,.ak,zi,zi,zi,.ak,.ak,.ak,.ak] [(0,20,.t 19),(20,20,.t 24)]),o 26 (.build zL1 [(0,1,(i64 3)),(8,9,.t 18),(17,1,.t 25)]),o 6 (.alloc zL1),qO 20 6 26]
def FM:LO:=[qG 28 20 6,oZ 29 (.aQ 1 zL1 [(0,20,.t 28)]),o 30 (.build [zi,.ak] [(0,1,(i64 2)),(1,1,.t 29)]),qG 31 20 6,oZ 32 (.aQ 1 zL1 [(0,20,.t 31)]),o 33 (.build [zi,.ak] [(0,1,(i64 2)),(1,1,.t 32)]),oZ 34 (.aQ 2 [zi,.ak,zi,.ak] [(0,2,.t 30),(2,2,.t 33)]),o 35 (.build [.ak,.ak] [(1,1,.t 34)]),qK 36 43 [35],qM 27 36,qE 37 0 27,qE 38 1 27,o 7 (.alloc [.ak,.ak,.ak]),qO 3 7 37,qM 8 38]
def FL:LO:=[qG 40 3 7,qK 41 31 [40],qM 39 41,qE 42 0 39,qE 43 1 39,o 9 (.alloc [.ak,.ak,.ak,.ak]),qO 4 9 42,qM 10 43]
def FK:LO:=[qG 44 4 9,o 11 (.alloc [.ak,.ak,.ak,.ak]),qO 4 11 44]
def FJ:LO:=[qZ 12 0]
def FI:LO:=[o 45 (.call 38 [] .borrow),qU 46 45,qM 47 46,qMF 48 47 8,qCF 49 47 .neq 48 0,qP 50 47 49,qM 51 50,qMF 52 51 10,qCF 53 51 .neq 52 0,qP 54 51 53]
def FH:LO:=[qY 4 false]
def FG:LO:=[qZ 13 0]
def CH:LO:=[qM 55 13,qM 56 1,qN 57 56,qB 58 .lss 55 57,qM 59 58,qMT 60 59 13,qCT 61 59 .lss 60 40,qQ 62 59 61]
def CF:LO:=[qZ 14 0]
def CE:LO:=[qM 65 12,qM 66 0,qN 67 66,qB 68 .lss 65 67]
def CD:LO:=[qM 69 0,qM 70 12,qI 71 1 69 70,qL 72 71,o 73 (.conv .i64 (.t 72)),qM 14 73]
def CC:LO:=[qM 74 1,qM 75 13,qI 76 1 74 75,qL 77 76]
def CB:LO:=[qG 79 3 7,qG 80 4 9,qM 81 13,o 82 (.build [zi,.bool false,zi] [(0,1,(i64 1)),(2,1,.t 81)]),qK 83 52 [79,80,82],qM 78 83,qE 84 0 78,qE 85 1 78,qE 86 2 78,qO 4 9 84,qM 10 86]
def CA:LO:=[qM 87 12,qC 88 .add 87 1,qM 12 88]
def Cz:LO:=[qG 90 3 7,qG 91 4 9,qM 92 14,o 93 (.build [zi,.bool false,zi] [(2,1,.t 92)]),qK 94 52 [90,91,93],qM 89 94,qE 95 0 89,qE 96 1 89,qE 97 2 89,qO 4 9 95,qM 10 97]
def Cy:LO:=[qG 99 3 7,qG 100 4 11,qM 101 14,o 102 (.build [zi,.bool false,zi] [(2,1,.t 101)]),qK 103 52 [99,100,102],qM 98 103,qE 104 0 98,qE 105 1 98,qE 106 2 98,qO 4 11 104]
def Cx:LO:=[qM 107 10,qC 108 .neq 107 0,qM 109 108,qFF 110 109 0 9,qLF 111 109 110,oF 112 109 (.bQ 1 (.t 111) (i64 0)),qLF 113 109 112,qFF 114 109 0 11,qLF 115 109 114,oF 116 109 (.bQ 1 (.t 115) (i64 0)),qLF 117 109 116,qBF 118 109 .neq 113 117,qP 119 109 118,qM 120 119,qFF 121 120 1 9,qLF 122 120 121,oF 123 120 (.bQ 1 (.t 122) (i64 0)),qLF 124 120 123,oF 125 120 (.bQ 1 (.t 124) (i64 0)),qLF 126 120 125,qFF 127 120 1 11,qLF 128 120 127,oF 129 120 (.bQ 1 (.t 128) (i64 0)),qLF 130 120 129,oF 131 120 (.bQ 1 (.t 130) (i64 0)),qLF 132 120 131,qBF 133 120 .neq 126 132,qP 134 120 133,qM 135 134,qFF 136 135 1 9,qLF 137 135 136,oF 138 135 (.bQ 1 (.t 137) (i64 0)),qLF 139 135 138,oF 140 135 (.bQ 1 (.t 139) (i64 1)),qLF 141 135 140,qFF 142 135 1 11,qLF 143 135 142,oF 144 135 (.bQ 1 (.t 143) (i64 0)),qLF 145 135 144,oF 146 135 (.bQ 1 (.t 145) (i64 1)),qLF 147 135 146,qBF 148 135 .neq 141 147,qP 149 135 148]
def DS:List (List Nat):=[[],[0],[0,1],[0,1,2],(rg 4),(rg 5),(rg 6),[0,1,2],[0,1,2,7],[0,1,2,7,8],[0,1,2,7,8,9],(rg 11),(rg 12),(rg 13),(rg 14),(rg 15),(rg 16),(rg 17),(rg 18),(rg 19),(rg 14),[0,1,2,3,4,5,6,7,8,9,10,11,12,13,20],[0,1,2,3,4,5,6,7,8,9,10,11,12,13,20,21],[0,1,2,3,4,5,6,7,8,9,10,11,12,13,20,21,22],[0,1,2,3,4,5,6,7,8,9,10,11,12,13,20,21,22,23],[0,1,2,3,4,5,6,7,8,9,10,11,12,13,20,21,22,23,24],(rg 26),(rg 27),(rg 28),(rg 29),(rg 30),(rg 31),(rg 32),(rg 33),(rg 34),(rg 29),[0,1,2,3,4,5,6,7,8,9,10,11,12,13,14,15,16,17,18,19,20,21,22,23,24,25,26,27,28,35],[0,1,2,3,4,5,6,7,8,9,10,11,12,13,14,15,16,17,18,19,20,21,22,23,24,25,26,27,28,35,36],[0,1,2,3,4,5,6,7,8,9,10,11,12,13,14,15,16,17,18,19,20,21,22,23,24,25,26,27,28,35,36,37],[0,1,2,3,4,5,6,7,8,9,10,11,12,13,14,15,16,17,18,19,20,21,22,23,24,25,26,27,28,35,36,37,38],[0,1,2,3,4,5,6,7,8,9,10,11,12,13,14,15,16,17,18,19,20,21,22,23,24,25,26,27,28,35,36,37,38,39],(rg 41),(rg 42)]
def Cw:LO:=[qY 4 false]
def CG:LO:=[qM 63 13,qC 64 .add 63 1,qM 13 64]
def Jd:bY:=.seq (.seq (.aa CH) (xA 62 0)) (.seq (.block 1 (.seq (.aa CF) (.seq (.seq (.aa CE) (.cond (.t 68) (.aa CD) .skip)) (.seq (.seq (.aa CC) (.cond (.t 77) (.seq (.aa CB) (.exit 1)) .skip)) (.seq (.aa CA) (.seq (.aa Cz) (.seq (.aa Cy) (.seq (.aT Cx DS []) (.cond (.t 149) (.seq (.aa Cw) .ret) .skip))))))))) (.aa CG))
def Cv:LO:=[qF 150 0 11,qL 151 150,o 152 (.bQ 1 (.t 151) (i64 1)),qL 153 152,qC 154 .eql 153 0,qM 4 154]
def Ot:bY:=.seq (.aa FP) (.seq (.aa FO) (.seq (.aa FN) (.seq (.aa FM) (.seq (.aa FL) (.seq (.aa FK) (.seq (.aa FJ) (.seq (.seq (.aa FI) (.cond (.t 54) (.seq (.aa FH) .ret) .skip)) (.seq (.seq (.aa FG) (.block 0 (.loop Jd))) (.seq (.aa Cv) .ret)))))))))
def Hw:aq:=⟨2,155,[.tmp 4],Ot⟩
def H_:b_:=qs [o 2 (.box (.t 0)),o 3 (.box (.t 1)),qY 4 false] (qs [qG 5 3 2,qK 6 53 [5],qM 7 6,qGT 8 7 3 2,qGT 9 7 4 3,qKT 10 7 54 [8,9],qQ 11 7 10,qM 4 11] .ret)
def MK:aq:=⟨2,12,[.tmp 4],H_.code⟩
def Nm:aq:=⟨1,40,[.cell 2 (some 4),.tmp 3],(.seq (.aa [o 1 (.box (.t 0)),o 2 (.alloc [.ak,.ak,.ak,.ak]),qZ 3 0]) (.seq (.seq (.aa [qG 7 3 1,qK 8 53 [7],qU 9 8]) (.cond (.t 9) (.seq (.aa [o 10 (.build [.ak,.ak,.ak,.ak] []),qO 4 2 10,qZ 3 1]) .ret) .skip)) (.seq (.aT [qF 11 1 1,qL 12 11,qN 13 12,o 14 (.kF 1 8 [zi] (.t 13)),qF 15 0 1,qL 16 15,qN 17 16,o 18 (.kF 1 24 [.ak] (.t 17)),qF 19 0 1,qL 20 19,qN 21 20,o 22 (.kF 1 8 [zi] (.t 21)),o 23 (.build [.ak,.ak,.ak,.ak] [(0,1,.t 14),(2,1,.t 18),(3,1,.t 22)]),o 4 (.alloc [.ak,.ak,.ak,.ak]),qO 4 4 23] [[],[0],[0,1],[0,1,2],[],[4],[4,5],[4,5,6],[],[8],[8,9],[8,9,10],(rg 12),[],(rg 14)] []) (.seq (.seq (.aa [qF 24 2 1,qL 25 24,qN 26 25,qZ 27 0]) (.block 0 (.loop (.seq (.aa [qB 28 .lss 27 26]) (.seq (.cond (.t 28) .skip (.exit 0)) (.seq (.block 1 (.seq (.aa [qI 29 1 25 27,qL 30 29,qM 6 30]) (.aT [qF 31 1 4,qL 32 31,qM 33 6,o 34 (.kF 1 8 [zi] (.t 33)),o 35 (.eO 1 1 [.ak] [(0,1,.t 34)]),qA 36 1 24 32 35,qF 37 1 4,qO 1 37 36] [[],[0],[],[2],[2,3],(rg 5),(rg 6),(rg 7)] []))) (.aa [qC 38 .add 27 1,qM 27 38]))))))) (.seq (.aa [qG 39 4 4,qO 4 2 39,qZ 3 0]) .ret)))))⟩
def Nl:aq:=⟨1,46,[.cell 2 (some 4)],(.seq (.aa [o 1 (.box (.t 0)),o 2 (.alloc [.ak,.ak,.ak,.ak])]) (.seq (.aT [qF 8 0 1,qL 9 8,o 10 (.call 56 [.t 9] .share),qF 11 3 1,qL 12 11,o 13 (.call 56 [.t 12] .share),o 14 (.build [.ak,.ak,.ak,.ak] [(0,1,.t 10),(3,1,.t 13)]),o 3 (.alloc [.ak,.ak,.ak,.ak]),qO 4 3 14] [[],[0],[0,1],[],[3],(rg 5),(rg 6),[],(rg 8)] [(2,4)]) (.seq (.seq (.aa [qF 15 1 1,qL 16 15,qN 17 16,qZ 18 0]) (.block 0 (.loop (.seq (.aa [qB 19 .lss 18 17]) (.seq (.cond (.t 19) .skip (.exit 0)) (.seq (.block 1 (.seq (.aa [qI 20 1 16 18,qL 21 20,qM 5 21]) (.aT [qF 22 1 3,qL 23 22,qM 24 5,o 25 (.call 56 [.t 24] .share),o 26 (.eO 1 1 [.ak] [(0,1,.t 25)]),qA 27 1 24 23 26,qF 28 1 3,qO 1 28 27] [[],[0],[],[2],[2,3],(rg 5),(rg 6),(rg 7)] [(1,3)]))) (.aa [qC 29 .add 18 1,qM 18 29]))))))) (.seq (.seq (.aa [qF 30 2 1,qL 31 30,qN 32 31,qZ 33 0]) (.block 2 (.loop (.seq (.aa [qB 34 .lss 33 32]) (.seq (.cond (.t 34) .skip (.exit 2)) (.seq (.block 3 (.seq (.aa [qI 35 1 31 33,qL 36 35,qM 7 36]) (.aT [qF 37 2 3,qL 38 37,qM 39 7,o 40 (.call 57 [.t 39] .share),o 41 (.eO 1 1 [.ak] [(0,1,.t 40)]),qA 42 1 24 38 41,qF 43 2 3,qO 1 43 42] [[],[0],[],[2],[2,3],(rg 5),(rg 6),(rg 7)] [(1,3)]))) (.aa [qC 44 .add 33 1,qM 33 44]))))))) (.seq (.aa [qG 45 4 3,qO 4 2 45]) .ret)))))⟩
def H9:b_:=qs [o 2 (.box (.t 0)),qZ 4 0,qZ 5 0] (qs [qG 9 4 2,qM 10 1,qK 11 58 [9,10],qM 8 11,qE 12 0 8,qE 13 1 8,qM 6 12,qM 7 13] (.seq (.block 0 (qs [qM 15 7,qC 16 .neq 15 0,qM 14 16] (.cond (.t 14) (qs [qM 17 7,qZ 4 0,qM 5 17] .ret) (qs [qM 19 6,o 20 (.bin .lss (.t 19) (i64 (-2147483648))),qM 21 20,qMF 22 21 6,qCF 23 21 .gtr 22 2147483647,qP 24 21 23,qM 18 24] (.cond (.t 18) (qs [qZ 4 0,qZ 5 2] .ret) .skip))))) (qs [qM 25 6,qM 4 25,qZ 5 0] .ret)))
def MJ:aq:=⟨2,26,[.tmp 4,.tmp 5],H9.code⟩
def Nk:aq:=⟨0,75,[.tmp 0],(.seq (.aa [qY 0 false]) (.seq (.aa [o 11 (.build [zi,zi,zi,.ak] [(0,1,(i64 1)),(1,1,(i64 7))]),o 12 (.build [zi,zi,zi,.ak] [(0,1,(i64 1))]),oZ 13 (.aQ 2 zL4 [(0,4,.t 11),(4,4,.t 12)]),o 14 (.build [zi,zi,zi,.ak] [(0,1,(i64 7)),(3,1,.t 13)]),o 1 (.alloc [zi,zi,zi,.ak]),qO 4 1 14]) (.seq (.aa [qG 16 4 1,o 17 (.call 35 [.t 16,(.c (.ak))] .borrow),qM 15 17,qE 18 0 15,qE 19 1 15,qM 2 18,qM 3 19]) (.seq (.aa [o 21 (.build [zi,zi,zi,.ak] [(0,1,(i64 1)),(1,1,(i64 2147483647))]),o 22 (.build [zi,zi,zi,.ak] [(0,1,(i64 2))]),oZ 23 (.aQ 2 zL4 [(0,4,.t 21),(4,4,.t 22)]),o 24 (.build [zi,zi,zi,.ak] [(0,1,(i64 4)),(3,1,.t 23)]),o 25 (.aQ 1 [zi] [(0,1,(i64 0))]),qK 26 35 [24,25],qM 20 26,qE 27 0 20,qE 28 1 20,qM 4 27,qM 5 28]) (.seq (.aa [o 30 (.build [zi,zi,zi,.ak] [(0,1,(i64 1)),(1,1,(i64 2147483647))]),o 31 (.build [zi,zi,zi,.ak] [(0,1,(i64 2))]),oZ 32 (.aQ 2 zL4 [(0,4,.t 30),(4,4,.t 31)]),o 33 (.build [zi,zi,zi,.ak] [(0,1,(i64 4)),(3,1,.t 32)]),o 34 (.aQ 1 [zi] [(0,1,(i64 1))]),qK 35 35 [33,34],qM 29 35,qE 36 0 29,qE 37 1 29,qM 6 36,qM 7 37]) (.seq (.aa [qG 39 4 1,o 40 (.build zL2 [(1,1,(i64 1)),(2,1,(i64 1)),(6,4,.t 39)]),oZ 41 (.aQ 1 zL2 [(0,19,.t 40)]),o 42 (.build [zi,.ak,.ak] [(0,1,(i64 2)),(1,1,.t 41)]),oZ 43 (.aQ 1 [zi,.ak,.ak] [(0,3,.t 42)]),o 44 (.aQ 1 [zi] [(0,1,(i64 1))]),o 45 (.build [.ak,.ak,.ak] [(1,1,.t 43),(2,1,.t 44)]),o 46 (.build [zi,.bool false,zi] []),o 47 (.aQ 1 [zi,.bool false,zi] [(0,3,.t 46)]),qK 48 59 [45,47],qM 38 48,qE 49 0 38,qE 50 1 38,qE 51 2 38,o 9 (.alloc [.bool false,zi,zi,zi]),qM 8 49,qO 4 9 50,qM 10 51]) (.seq (.aa [qM 52 3,qC 53 .eql 52 3,qM 54 53,qMT 55 54 4,qCT 56 54 .eql 55 2147483647,qQ 57 54 56,qM 58 57,qMT 59 58 5,qCT 60 58 .eql 59 0,qQ 61 58 60,qM 62 61,qMT 63 62 7,qCT 64 62 .eql 63 2,qQ 65 62 64,qM 66 65,qMT 67 66 10,qCT 68 66 .eql 67 0,qQ 69 66 68,qM 70 69,qFT 71 70 1 9,qLT 72 70 71,qCT 73 70 .eql 72 3,qQ 74 70 73,qM 0 74]) .ret)))))))⟩
def Nj:aq:=⟨2,61,[.tmp 4,.tmp 5],(.seq (.aa [o 2 (.box (.t 0)),qY 4 false,qZ 5 0]) (.seq (.aa [qF 10 1 2,qG 11 4 10,qM 12 1,qK 13 35 [11,12],qM 9 13,qE 14 0 9,qE 15 1 9,qM 6 14,qM 7 15]) (.seq (.seq (.aa [qM 16 7,qC 17 .neq 16 0]) (.cond (.t 17) (.seq (.aa [qM 18 7,qY 4 false,qM 5 18]) .ret) .skip)) (.seq (.aa [qF 20 5 2,qG 21 4 20,qM 22 1,qK 23 35 [21,22],qM 19 23,qE 24 0 19,qE 25 1 19,qM 8 24,qM 7 25]) (.seq (.seq (.aa [qM 26 7,qC 27 .neq 26 0]) (.cond (.t 27) (.seq (.aa [qM 28 7,qY 4 false,qM 5 28]) .ret) .skip)) (.seq (.seq (.aa [qF 29 0 2,qL 30 29]) (.block 0 (.seq (.aa [qC 32 .eql 30 1,qM 31 32]) (.cond (.t 31) (.seq (.aa [qM 33 6,qM 34 8,qB 35 .eql 33 34,qM 4 35,qZ 5 0]) .ret) (.seq (.aa [qC 37 .eql 30 2,qM 36 37]) (.cond (.t 36) (.seq (.aa [qM 38 6,qM 39 8,qB 40 .neq 38 39,qM 4 40,qZ 5 0]) .ret) (.seq (.aa [qC 42 .eql 30 3,qM 41 42]) (.cond (.t 41) (.seq (.aa [qM 43 6,qM 44 8,qB 45 .lss 43 44,qM 4 45,qZ 5 0]) .ret) (.seq (.aa [qC 47 .eql 30 4,qM 46 47]) (.cond (.t 46) (.seq (.aa [qM 48 6,qM 49 8,qB 50 .leq 48 49,qM 4 50,qZ 5 0]) .ret) (.seq (.aa [qC 52 .eql 30 5,qM 51 52]) (.cond (.t 51) (.seq (.aa [qM 53 6,qM 54 8,qB 55 .gtr 53 54,qM 4 55,qZ 5 0]) .ret) (.seq (.aa [qC 57 .eql 30 6,qM 56 57]) (.cond (.t 56) (.seq (.aa [qM 58 6,qM 59 8,qB 60 .geq 58 59,qM 4 60,qZ 5 0]) .ret) .skip)))))))))))))) (.seq (.aa [qY 4 false,qZ 5 0]) .ret)))))))⟩
def Ni:aq:=⟨1,16,[.tmp 2],(.seq (.aa [qZ 2 0]) (.seq (.seq (.aa [qM 3 0]) (.block 0 (.seq (.aa [qC 5 .eql 3 1,qM 4 5]) (.cond (.t 4) (.seq (.aa [qZ 2 2]) .ret) (.seq (.aa [qC 7 .eql 3 2,qM 6 7]) (.cond (.t 6) (.seq (.aa [qZ 2 1]) .ret) (.seq (.aa [qC 9 .eql 3 3,qM 8 9]) (.cond (.t 8) (.seq (.aa [qZ 2 6]) .ret) (.seq (.aa [qC 11 .eql 3 4,qM 10 11]) (.cond (.t 10) (.seq (.aa [qZ 2 5]) .ret) (.seq (.aa [qC 13 .eql 3 5,qM 12 13]) (.cond (.t 12) (.seq (.aa [qZ 2 4]) .ret) (.seq (.aa [qC 15 .eql 3 6,qM 14 15]) (.cond (.t 14) (.seq (.aa [qZ 2 3]) .ret) .skip)))))))))))))) (.seq (.aa [qZ 2 0]) .ret)))⟩
def Nh:aq:=⟨1,50,[.cell 2 (some 3),.tmp 3],(.seq (.aa [o 1 (.box (.t 0)),o 2 (.alloc [.ak,.ak,.ak]),qZ 3 0]) (.seq (.seq (.aa [qG 8 2 1,qK 9 60 [8],qU 10 9]) (.cond (.t 10) (.seq (.aa [o 11 (.build [.ak,.ak,.ak] []),qO 3 2 11,qZ 3 1]) .ret) .skip)) (.seq (.aa [qF 12 0 1,qL 13 12,qK 14 61 [13],o 15 (.build [.ak,.ak,.ak] [(0,1,.t 14)]),o 4 (.alloc [.ak,.ak,.ak]),qO 3 4 15]) (.seq (.seq (.aa [qF 16 1 1,qL 17 16,qN 18 17,qZ 19 0]) (.block 0 (.loop (.seq (.aa [qB 20 .lss 19 18]) (.seq (.cond (.t 20) .skip (.exit 0)) (.seq (.block 1 (.seq (.aa [qI 21 2 17 19,qG 22 2 21,o 6 (.alloc [zi,.ak]),qO 2 6 22]) (.seq (.aa [o 23 (.build [zi,.ak,.ak] [(0,1,(i64 2))]),o 7 (.alloc [zi,.ak,.ak]),qO 3 7 23]) (.seq (.aa [qF 24 1 6,qL 25 24,o 26 (.call 62 [.t 7,.t 25,(i64 0),(i64 1)] .share)]) (.seq (.seq (.aa [qF 27 1 7,qL 28 27,qN 29 28,qC 30 .gtr 29 400]) (.cond (.t 30) (.seq (.aa [o 31 (.build [.ak,.ak,.ak] []),qO 3 2 31,qZ 3 10]) .ret) .skip)) (.seq (.aa [qF 32 2 7,qL 33 32,o 34 (.call 63 [.t 33] .share)]) (.aT [qF 35 1 4,qL 36 35,qG 37 3 7,oZ 38 (.aQ 1 [zi,.ak,.ak] [(0,3,.t 37)]),qA 39 3 56 36 38,qF 40 2 4,qL 41 40,qF 42 0 6,qL 43 42,o 44 (.aQ 1 [zi] [(0,1,.t 43)]),qA 45 1 8 41 44,qF 46 1 4,qO 1 46 39,qF 47 2 4,qO 1 47 45] [[],[0],[],[2],(rg 4),[],[5],[],[7],[7,8],(rg 10),(rg 7),(rg 12),(rg 13),(rg 14)] [(1,3),(3,6),(4,6),(3,8),(4,8)]))))))) (.aa [qC 48 .add 19 1,qM 19 48]))))))) (.seq (.aa [qG 49 3 4,qO 3 2 49,qZ 3 0]) .ret)))))⟩
def Ng:aq:=⟨2,26,[.tmp 4],(.seq (.aa [o 2 (.box (.t 0)),o 4 (.mv (.c (.ak)))]) (.seq (.aa [o 5 (.mv (.c (.ak)))]) (.seq (.seq (.aa [qF 8 1 2,qL 9 8,qN 10 9,qZ 11 0]) (.block 0 (.loop (.seq (.aa [qB 12 .lss 11 10]) (.seq (.cond (.t 12) .skip (.exit 0)) (.seq (.block 1 (.seq (.aa [qM 13 11,qI 14 19 9 11,qG 15 19 14,o 7 (.alloc zL2),qM 6 13,qO 19 7 15]) (.seq (.aa [qF 16 0 7,qL 17 16,qM 18 1,qB 19 .eql 17 18]) (.cond (.t 19) (.aa [qM 20 5,qM 21 6,o 22 (.aQ 1 [zi] [(0,1,.t 21)]),qA 23 1 8 20 22,qM 5 23]) .skip)))) (.aa [qC 24 .add 11 1,qM 11 24]))))))) (.seq (.aa [qM 25 5,qM 4 25]) .ret))))⟩
def H8:b_:=qs [o 3 (.box (.t 0)),o 4 (.box (.t 1)),o 5 (.box (.t 2)),o 6 (.alloc [.ak,.ak,.ak,.ak]),o 7 (.alloc [.bool false,zi,zi,zi]),qZ 8 0] (.seq (qs [qG 11 3 3,qG 12 4 4,qK 13 22 [11,12],qU 14 13] (.cond (.t 14) (qs [o 15 (.build [.ak,.ak,.ak,.ak] []),o 16 (.build [.bool false,zi,zi,zi] []),qO 4 6 15,qO 4 7 16,qZ 8 1] .ret) .skip)) (qs [qG 18 3 3,qG 19 4 4,qG 20 3 5,qK 21 73 [18,19,20],qM 17 21,qE 22 0 17,qE 23 1 17,o 9 (.alloc [.ak,.ak,.ak,.ak]),o 10 (.alloc [.bool false,zi,zi,zi]),qO 4 9 22,qO 4 10 23] (.seq (.aT [qG 24 4 9,qG 25 4 10,qO 4 6 24,qO 4 7 25,qZ 8 0] [[],[],[0],[0,1,2],(rg 4)] [(1,2)]) .ret)))
def MI:aq:=⟨3,26,[.cell 6 (some 4),.cell 7 (some 4),.tmp 8],H8.code⟩
def Nf:aq:=⟨1,34,[.tmp 2],(.seq (.aa [o 1 (.box (.t 0)),qY 2 false]) (.seq (.aa [qG 6 3 1,qK 7 74 [6],o 3 (.alloc [.ak,.ak]),qO 2 3 7]) (.seq (.seq (.aa [qF 8 1 1,qL 9 8,qN 10 9,qF 11 2 1,qL 12 11,qN 13 12,qB 14 .neq 10 13,qM 15 14,qGF 16 15 2 3,qKF 17 15 60 [16],qUF 18 15 17,qP 19 15 18]) (.cond (.t 19) (.seq (.aa [qY 2 false]) .ret) .skip)) (.seq (.seq (.aa [qF 20 1 1,qL 21 20,qN 22 21,qZ 23 0]) (.block 0 (.loop (.seq (.aa [qB 24 .lss 23 22]) (.seq (.cond (.t 24) .skip (.exit 0)) (.seq (.block 1 (.seq (.aa [qM 25 23,qI 26 3 21 23,qG 27 3 26,o 5 (.alloc [zi,.ak,.ak]),qM 4 25,qO 3 5 27]) (.seq (.aa [qG 28 2 3,qM 29 4,qG 30 3 5,qK 31 75 [28,29,30],qU 32 31]) (.cond (.t 32) (.seq (.aa [qY 2 false]) .ret) .skip)))) (.aa [qC 33 .add 23 1,qM 23 33]))))))) (.seq (.aa [qY 2 true]) .ret)))))⟩
def H7:b_:=qs [o 2 (.box (.t 0)),o 3 (.box (.t 1)),qY 4 false] (.seq (qs [qG 11 3 2,qG 12 4 3,qK 13 76 [11,12],qU 14 13] (.cond (.t 14) (qs [qY 4 false] .ret) .skip)) (.seq (qs [qF 15 1 2,qL 16 15,qN 17 16,qZ 18 0] (.block 0 (.loop [.ob 2 [],.ob 3 [],.pt 2 2 0,.pt 3 3 0,.tr 16,.tr 17,.tr 18] (qs [qB 19 .lss 18 17] (.seq (.cond (.t 19) .skip (.exit 0)) (.seq (.block 1 (qs [qM 20 18,qI 21 3 16 18,qG 22 3 21,o 6 (.alloc [zi,.ak,.ak]),qM 5 20,qO 3 6 22] (.seq (.seq (.aT [qF 23 0 3,qL 24 23,qM 25 5,qI 26 1 24 25,qL 27 26,qF 28 0 6,qL 29 28,qK 30 77 [27,29],qU 31 30,qM 32 31,qFF 33 32 1 3,qLF 34 32 33,qMF 35 32 5,qIF 36 32 1 34 35,qLF 37 32 36,qNF 38 32 37,qFF 39 32 2 2,qLF 40 32 39,qMF 41 32 5,qIF 42 32 1 40 41,qLF 43 32 42,qBF 44 32 .neq 38 43,qP 45 32 44] [[],[0],[],[0,1,2],(rg 4),[],[5],(rg 7),(rg 8),(rg 9),(rg 10),(rg 11),(rg 10),(rg 13),(rg 14),(rg 15),(rg 10),[0,1,2,3,4,5,6,7,8,9,16],(rg 10),[0,1,2,3,4,5,6,7,8,9,16,17,18],[0,1,2,3,4,5,6,7,8,9,16,17,18,19],(rg 21),(rg 22)] []) (.cond (.t 45) (qs [qY 4 false] .ret) .skip)) (qs [qF 46 1 3,qL 47 46,qM 48 5,qI 49 1 47 48,qL 50 49,qN 51 50,qZ 52 0] (.block 2 (.loop [.ob 2 [],.ob 3 [],.pt 2 2 0,.pt 3 3 0,.tr 16,.tr 17,.tr 18,.tr 50,.tr 51,.tr 52] (qs [qB 53 .lss 52 51] (.seq (.cond (.t 53) .skip (.exit 2)) (.seq (.block 3 (qs [qI 54 1 50 52,qL 55 54,qM 8 55] (qs [qM 56 8,qK 57 78 [56],qU 58 57] (.cond (.t 58) (qs [qY 4 false] .ret) .skip)))) (.aa [qC 59 .add 52 1,qM 52 59])))))))))) (.aa [qC 60 .add 18 1,qM 18 60]))))))) (.seq (qs [qF 61 0 2,qL 62 61,qN 63 62,qZ 64 0] (.block 4 (.loop [.ob 3 [],.pt 3 3 0,.tr 62,.tr 63,.tr 64] (qs [qB 65 .lss 64 63] (.seq (.cond (.t 65) .skip (.exit 4)) (.seq (.block 5 (qs [qM 66 64,qI 67 6 62 64,qG 68 6 67,o 10 (.alloc zL5),qM 9 66,qO 6 10 68] (.seq (.aT [qG 69 6 10,qF 70 2 3,qL 71 70,qM 72 9,qI 73 1 71 72,qL 74 73,qK 75 79 [69,74],qU 76 75,qM 77 76,qFF 78 77 3 3,qLF 79 77 78,qMF 80 77 9,qIF 81 77 1 79 80,qLF 82 77 81,qFF 83 77 5 10,qLF 84 77 83,qNF 85 77 84,oF 86 77 (.yh true [.t 85,(i64 1)]),qKF 87 77 77 [82,86],qUF 88 77 87,qP 89 77 88] [[],[],[1],[],[1,2,3],[1,2,3,4],(rg 6),(rg 7),(rg 8),(rg 9),(rg 10),(rg 9),(rg 12),(rg 13),(rg 9),[0,1,2,3,4,5,6,7,8,14],[0,1,2,3,4,5,6,7,8,14,15],[0,1,2,3,4,5,6,7,8,14,15,16],(rg 18),(rg 19),(rg 20)] []) (.cond (.t 89) (qs [qY 4 false] .ret) .skip)))) (.aa [qC 90 .add 64 1,qM 64 90]))))))) (qs [qY 4 true] .ret))))
def MH:aq:=⟨2,91,[.tmp 4],H7.code⟩
def Nd:aq:=⟨1,8,[.tmp 2],(.seq (.aa [o 2 (.mv (.c (.ak)))]) (.seq (.seq (.aa [qM 3 0,o 4 (.eq .slice false (.t 3) (.c (.ak)))]) (.cond (.t 4) (.seq (.aa [o 2 (.mv (.c (.ak)))]) .ret) .skip)) (.seq (.aa [o 5 (.aQ 0 [] []),qM 6 0,qA 7 1 8 5 6,qM 2 7]) .ret)))⟩
def Nc:aq:=⟨1,8,[.tmp 2],(.seq (.aa [o 2 (.mv (.c (.ak)))]) (.seq (.seq (.aa [qM 3 0,o 4 (.eq .slice false (.t 3) (.c (.ak)))]) (.cond (.t 4) (.seq (.aa [o 2 (.mv (.c (.ak)))]) .ret) .skip)) (.seq (.aa [o 5 (.aQ 0 [] []),qM 6 0,qA 7 2 16 5 6,qM 2 7]) .ret)))⟩
def n8:b_:=qs [o 2 (.box (.t 0)),qZ 4 0,qZ 5 0] (.seq (.block 0 (qs [qF 9 0 2,qL 10 9,qC 11 .eql 10 1,qM 8 11] (.cond (.t 8) (qs [qF 12 1 2,qL 13 12,qM 4 13,qZ 5 0] .ret) (qs [qF 15 0 2,qL 16 15,qC 17 .eql 16 2,qM 18 17,qFT 19 18 2 2,qLT 20 18 19,qCT 21 18 .geq 20 0,qQ 22 18 21,qM 23 22,qFT 24 23 2 2,qLT 25 23 24,qMT 26 23 1,qNT 27 23 26,qBT 28 23 .lss 25 27,qQ 29 23 28,qM 14 29] (.cond (.t 14) (qs [qM 30 1,qF 31 2 2,qL 32 31,qI 33 1 30 32,qL 34 33,qM 4 34,qZ 5 0] .ret) (qs [qF 36 0 2,qL 37 36,qC 38 .eql 37 3,qM 39 38,qFT 40 39 3 2,qLT 41 39 40,qNT 42 39 41,qCT 43 39 .eql 42 1,qQ 44 39 43,qM 35 44] (.cond (.t 35) (qs [qF 46 3 2,qL 47 46,o 48 (.bQ 4 (.t 47) (i64 0)),qG 49 4 48,qM 50 1,qK 51 35 [49,50],qM 45 51,qE 52 0 45,qE 53 1 45,qM 6 52,qM 7 53] (qs [qM 54 6,o 55 (.un .neg (.t 54)),qM 56 7,qM 4 55,qM 5 56] .ret)) (qs [qF 58 0 2,qL 59 58,qC 60 .geq 59 4,qM 61 60,qFT 62 61 0 2,qLT 63 61 62,qCT 64 61 .leq 63 8,qQ 65 61 64,qM 66 65,qFT 67 66 3 2,qLT 68 66 67,qNT 69 66 68,qCT 70 66 .eql 69 2,qQ 71 66 70,qM 57 71] (.cond (.t 57) (qs [qG 72 4 2,qM 73 1,qK 74 80 [72,73],qE 75 0 74,qE 76 1 74,qM 4 75,qM 5 76] .ret) .skip))))))))) (qs [qZ 4 0,qZ 5 0] .ret))
def MG:aq:=⟨2,77,[.tmp 4,.tmp 5],n8.code⟩
def Nb:aq:=⟨2,51,[.tmp 4,.cell 5 (some 4),.tmp 6],(.seq (.aa [o 2 (.box (.t 0)),o 4 (.mv (.c (.ak))),o 5 (.alloc [.bool false,zi,zi,zi]),qZ 6 0]) (.seq (.aa [qG 15 3 2,qK 16 31 [15],qM 14 16,qE 17 0 14,qE 18 1 14,o 7 (.alloc [.ak,.ak,.ak,.ak]),qO 4 7 17,qM 8 18]) (.seq (.seq (.aa [qM 19 8,qC 20 .neq 19 0]) (.cond (.t 20) (.seq (.aa [o 21 (.build [.bool false,zi,zi,zi] []),qM 22 8,o 4 (.mv (.c (.ak))),qO 4 5 21,qM 6 22]) .ret) .skip)) (.seq (.aa [qG 23 4 7,oZ 24 (.aQ 1 [.ak,.ak,.ak,.ak] [(0,4,.t 23)]),qM 9 24]) (.seq (.seq (.aa [qM 25 1,qN 26 25,qZ 27 0]) (.block 0 (.loop (.seq (.aa [qB 28 .lss 27 26]) (.seq (.cond (.t 28) .skip (.exit 0)) (.seq (.block 1 (.seq (.aa [qI 29 3 25 27,qG 30 3 29,o 11 (.alloc [zi,.bool false,zi]),qO 3 11 30]) (.seq (.aa [qG 32 3 2,qG 33 4 7,qG 34 3 11,qK 35 73 [32,33,34],qM 31 35,qE 36 0 31,qE 37 1 31,o 12 (.alloc [.ak,.ak,.ak,.ak]),o 13 (.alloc [.bool false,zi,zi,zi]),qO 4 12 36,qO 4 13 37]) (.seq (.seq (.aa [qF 38 1 13,qL 39 38,qC 40 .neq 39 0]) (.cond (.t 40) (.seq (.aT [qM 41 9,qG 42 4 13,qM 4 41,qO 4 5 42,qZ 6 0] [[],[],[0],[0,1,2],(rg 4)] []) .ret) .skip)) (.seq (.aa [qG 43 4 12,qO 4 7 43]) (.aa [qM 44 9,qG 45 4 7,oZ 46 (.aQ 1 [.ak,.ak,.ak,.ak] [(0,4,.t 45)]),qA 47 4 96 44 46,qM 9 47])))))) (.aa [qC 48 .add 27 1,qM 27 48]))))))) (.seq (.aa [qM 49 9,o 50 (.build [.bool false,zi,zi,zi] []),qM 4 49,qO 4 5 50,qZ 6 0]) .ret))))))⟩
def Na:aq:=⟨1,56,[.tmp 2],(.seq (.aa [o 1 (.box (.t 0)),qY 2 false]) (.seq (.seq (.aa [qF 7 0 1,qL 8 7,qN 9 8,qC 10 .gtr 9 4,qM 11 10,qFF 12 11 1 1,qLF 13 11 12,qNF 14 11 13,oF 15 11 (.call 81 [.t 14,(i64 1),(i64 4)] .borrow),qUF 16 11 15,qP 17 11 16]) (.cond (.t 17) (.seq (.aa [qY 2 false]) .ret) .skip)) (.seq (.seq (.aa [qF 18 0 1,qL 19 18,qN 20 19,qZ 21 0]) (.block 0 (.loop (.seq (.aa [qB 22 .lss 21 20]) (.seq (.cond (.t 22) .skip (.exit 0)) (.seq (.block 1 (.seq (.aa [qI 23 6 19 21,qG 24 6 23,o 4 (.alloc zL5),qO 6 4 24]) (.seq (.aa [qG 25 6 4,qF 26 1 1,qL 27 26,qN 28 27,qK 29 82 [25,28],qU 30 29]) (.cond (.t 30) (.seq (.aa [qY 2 false]) .ret) .skip)))) (.aa [qC 31 .add 21 1,qM 21 31]))))))) (.seq (.seq (.aa [qF 32 1 1,qL 33 32,qN 34 33,qZ 35 0]) (.block 2 (.loop (.seq (.aa [qB 36 .lss 35 34]) (.seq (.cond (.t 36) .skip (.exit 2)) (.seq (.block 3 (.seq (.aa [qM 37 35,qI 38 2 33 35,qG 39 2 38,o 6 (.alloc [zi,.ak]),qM 5 37,qO 2 6 39]) (.seq (.aa [qF 40 0 6,qL 41 40,o 42 (.call 81 [.t 41,(i64 0),(i64 6)] .borrow),qU 43 42,qM 44 43,qGF 45 44 2 1,qMF 46 44 5,qFF 47 44 0 6,qLF 48 44 47,oF 49 44 (.build [.ak,.ak,zi,zi] [(0,2,.t 45),(2,1,.t 46),(3,1,.t 48)]),qFF 50 44 1 6,qLF 51 44 50,qKF 52 44 83 [49,51],qUF 53 44 52,qP 54 44 53]) (.cond (.t 54) (.seq (.aa [qY 2 false]) .ret) .skip)))) (.aa [qC 55 .add 35 1,qM 35 55]))))))) (.seq (.aa [qY 2 true]) .ret)))))⟩
def M_:aq:=⟨1,38,[.tmp 2],(.seq (.aa [o 2 (.mv (.c (.ak)))]) (.seq (.aa [o 3 (.mv (.c (.ak)))]) (.seq (.seq (.aa [qM 9 0,qN 10 9,qZ 11 0]) (.block 0 (.loop (.seq (.aa [qB 12 .lss 11 10]) (.seq (.cond (.t 12) .skip (.exit 0)) (.seq (.block 1 (.seq (.aa [qI 13 6 9 11,qG 14 6 13,o 5 (.alloc zL5),qO 6 5 14]) (.seq (.aa [qF 15 5 5,qL 16 15,qM 6 16]) (.seq (.aa [qF 17 5 5,oN (.store 1 (.t 17) (.c (.ak)))]) (.seq (.seq (.aa [qM 18 6,qN 19 18,qZ 20 0]) (.block 2 (.loop (.seq (.aa [qB 21 .lss 20 19]) (.seq (.cond (.t 21) .skip (.exit 2)) (.seq (.block 3 (.seq (.aa [qI 22 1 18 20,qL 23 22,qM 8 23]) (.aT [qF 24 5 5,qL 25 24,qM 26 8,qK 27 56 [26],oZ 28 (.aQ 1 [.ak] [(0,1,.t 27)]),qA 29 1 24 25 28,qF 30 5 5,qO 1 30 29] [[],[0],[],[2],[2,3],(rg 5),(rg 6),(rg 7)] [(1,4)]))) (.aa [qC 31 .add 20 1,qM 20 31]))))))) (.aa [qM 32 3,qG 33 6 5,oZ 34 (.aQ 1 zL5 [(0,6,.t 33)]),qA 35 6 64 32 34,qM 3 35])))))) (.aa [qC 36 .add 11 1,qM 11 36]))))))) (.seq (.aa [qM 37 3,qM 2 37]) .ret))))⟩
def M9:aq:=⟨4,48,[],(.seq (.seq (.aa [qM 11 1,qN 12 11,qC 13 .eql 12 0]) (.cond (.t 13) (.seq (.aa [qM 14 0,qM 15 2,qM 16 3,o 17 (.build zL2 [(0,1,.t 15),(1,1,.t 16)]),o 18 (.call 84 [.t 14,.t 17] .share)]) .ret) .skip)) (.seq (.seq (.aa [qM 19 1,qM 20 1,qN 21 20,qC 22 .sub 21 1,o 23 (.iX 20 (.t 19) none (some (.t 22)) none),qN 24 23,qZ 25 0]) (.block 0 (.loop (.seq (.aa [qB 26 .lss 25 24]) (.seq (.cond (.t 26) .skip (.exit 0)) (.seq (.block 1 (.seq (.aa [qI 27 20 23 25,qG 28 20 27,o 9 (.alloc zL1),qO 20 9 28]) (.seq (.aa [qM 29 0,o 30 (.call 85 [.t 29] .share),qM 10 30]) (.seq (.aa [qM 31 0,qG 32 20 9,qM 33 2,qM 34 10,o 35 (.call 86 [.t 31,.t 32,.t 33,.t 34] .share)]) (.aa [qM 36 10,qM 2 36]))))) (.aa [qC 37 .add 25 1,qM 25 37]))))))) (.aa [qM 38 0,qM 39 1,qM 40 1,qN 41 40,qC 42 .sub 41 1,qI 43 20 39 42,qG 44 20 43,qM 45 2,qM 46 3,o 47 (.call 86 [.t 38,.t 44,.t 45,.t 46] .share)])))⟩
def M8:aq:=⟨1,11,[],(.seq (.aa [qM 3 0,qN 4 3,qM 2 4]) (.aa [qM 5 0,qM 6 2,qM 7 2,o 8 (.conv .u64 (.t 7)),qK 9 88 [8],o 10 (.call 87 [.t 5,(i64 0),.t 6,.t 9] .share)]))⟩
def Ef:aq:=⟨3,77,[.cell 6 (some 4),.cell 7 (some 4)],(.seq (.aa [o 3 (.box (.t 0)),o 4 (.box (.t 1)),o 5 (.box (.t 2)),o 6 (.alloc [.ak,.ak,.ak,.ak]),o 7 (.alloc [.bool false,zi,zi,zi])]) (.seq (.aa [qG 13 4 4,o 14 (.call 33 [.t 13] .share),qO 4 4 14]) (.seq (.seq (.aa [qF 15 0 5,qL 16 15,qC 17 .lss 16 0,qM 18 17,qFF 19 18 0 5,qLF 20 18 19,qFF 21 18 1 3,qLF 22 18 21,qNF 23 18 22,qBF 24 18 .geq 20 23,qP 25 18 24]) (.cond (.t 25) (.seq (.aa [qG 26 4 4,o 27 (.build [.bool false,zi,zi,zi] []),qO 4 6 26,qO 4 7 27]) .ret) .skip)) (.seq (.aa [qF 28 1 3,qL 29 28,qF 30 0 5,qL 31 30,qI 32 3 29 31,qG 33 3 32,o 8 (.alloc [zi,.ak,.ak]),qO 3 8 33]) (.seq (.aT [qG 34 3 8,qF 35 0 4,qL 36 35,qF 37 0 5,qL 38 37,qI 39 1 36 38,qL 40 39,qK 41 50 [34,40],qM 9 41] [[],[],[1],[],[3],[1,2,3,4],[1,2,3,4,5],(rg 7),(rg 8)] []) (.seq (.seq (.aa [qM 42 9,qN 43 42,qC 44 .eql 43 0]) (.cond (.t 44) (.seq (.aa [qG 45 4 4,o 46 (.build [.bool false,zi,zi,zi] []),qO 4 6 45,qO 4 7 46]) .ret) .skip)) (.seq (.aT [qG 47 3 3,qG 48 4 4,qG 49 3 5,qG 50 3 8,qM 51 9,qF 52 1 8,qL 53 52,qM 54 9,o 55 (.bQ 1 (.t 54) (i64 0)),qL 56 55,qI 57 19 53 56,qG 58 19 57,qF 59 1 4,qL 60 59,qF 61 0 5,qL 62 61,qI 63 1 60 62,qL 64 63,o 65 (.build [.ak,.ak,.ak,.ak,.ak,.ak,.ak,zi,.bool false,zi,zi,.ak,.ak,.ak,zi,zi,zi,zi,zi,zi,zi,zi,zi,.ak,zi,zi,zi,zi,.ak,zi,zi,zi,.ak,.ak] [(0,3,.t 47),(3,4,.t 48),(7,3,.t 49),(10,3,.t 50),(13,1,.t 51),(14,19,.t 58),(33,1,.t 64)]),o 66 (.box (.t 65)),qM 10 66] [[],[],[],[],[],[],[5],[],[7],[7,8],[5,6,7,8,9],[5,6,7,8,9,10],[],[12],[],[14],[12,13,14,15],[12,13,14,15,16],(rg 18),(rg 19),(rg 20)] []) (.seq (.aa [qM 68 10,o 69 (.call 98 [.t 68] .share),qM 67 69,qE 70 0 67,qE 71 1 67,o 11 (.alloc [.bool false,zi,zi,zi]),qO 4 11 70,qM 12 71]) (.seq (.aT [qM 72 10,qX 73 72,qF 74 3 73,qG 75 4 74,qG 76 4 11,qO 4 6 75,qO 4 7 76] [[],[0],[0,1],[0,1,2],[],(rg 4),(rg 6)] [(4,5)]) .ret)))))))))⟩
def M7:aq:=⟨1,25,[.cell 2 (some 2)],(.seq (.aa [o 1 (.box (.t 0)),o 2 (.alloc [.ak,.ak])]) (.seq (.aa [qF 6 0 1,qL 7 6,o 8 (.build [.ak,.ak] [(0,1,.t 7)]),o 3 (.alloc [.ak,.ak]),qO 2 3 8]) (.seq (.seq (.aa [qF 9 2 1,qL 10 9,qN 11 10,qZ 12 0]) (.block 0 (.loop (.seq (.aa [qB 13 .lss 12 11]) (.seq (.cond (.t 13) .skip (.exit 0)) (.seq (.block 1 (.seq (.aa [qI 14 1 10 12,qL 15 14,qM 5 15]) (.aa [qF 16 1 3,qL 17 16,qM 18 5,o 19 (.build [zi,.ak] [(0,1,.t 18)]),oZ 20 (.aQ 1 [zi,.ak] [(0,2,.t 19)]),qA 21 2 32 17 20,qF 22 1 3,qO 1 22 21]))) (.aa [qC 23 .add 12 1,qM 12 23]))))))) (.seq (.aa [qG 24 2 3,qO 2 2 24]) .ret))))⟩
def M6:aq:=⟨3,56,[.tmp 6],(.seq (.aa [o 3 (.box (.t 0)),o 5 (.box (.t 2)),qY 6 false]) (.seq (.seq (.aa [qF 10 0 5,qL 11 10,qC 12 .lss 11 2,qM 13 12,qFF 14 13 0 5,qLF 15 13 14,qCF 16 13 .gtr 15 802,qP 17 13 16,qM 18 17,qFF 19 18 1 5,qLF 20 18 19,qNF 21 18 20,qCF 22 18 .gtr 21 400,qP 23 18 22,qM 24 23,qGF 25 24 3 5,qKF 26 24 99 [25],qUF 27 24 26,qP 28 24 27]) (.cond (.t 28) (.seq (.aa [qY 6 false]) .ret) .skip)) (.seq (.seq (.aa [qF 29 1 5,qL 30 29,qN 31 30,qZ 32 0]) (.block 0 (.loop (.seq (.aa [qB 33 .lss 32 31]) (.seq (.cond (.t 33) .skip (.exit 0)) (.seq (.block 1 (.seq (.aa [qI 34 19 30 32,qG 35 19 34,o 8 (.alloc zL2),qO 19 8 35]) (.seq (.aa [qG 36 2 3,qM 37 1,qG 38 3 5,qG 39 19 8,qK 40 100 [36,37,38,39],qU 41 40]) (.cond (.t 41) (.seq (.aa [qY 6 false]) .ret) .skip)))) (.aa [qC 42 .add 32 1,qM 32 42]))))))) (.seq (.seq (.aa [qF 43 0 5,qL 44 43,qZ 45 0]) (.block 2 (.loop (.seq (.aa [qB 46 .lss 45 44]) (.seq (.cond (.t 46) .skip (.exit 2)) (.seq (.block 3 (.seq (.aa [qM 47 45,qM 9 47]) (.seq (.aa [qG 48 3 5,qM 49 9,qK 50 101 [48,49],qU 51 50]) (.cond (.t 51) (.seq (.aa [qY 6 false]) .ret) .skip)))) (.aa [qC 52 .add 45 1,qM 45 52]))))))) (.seq (.aa [qG 53 3 5,qK 54 102 [53],qU 55 54,qM 6 55]) .ret)))))⟩
def H6:b_:=qs [o 2 (.box (.t 0)),o 3 (.box (.t 1)),qY 4 false] (.seq (.aT [qF 7 1 2,qL 8 7,qN 9 8,qF 10 0 2,qL 11 10,qN 12 11,qM 5 9,qM 6 12] [[],[0],[0,1],[],[3],[3,4],[0,1,2],(rg 7)] []) (qs [qF 13 0 3,qL 14 13,qN 15 14,qM 16 5,qB 17 .eql 15 16,qM 18 17,qFT 19 18 1 3,qLT 20 18 19,qNT 21 18 20,qMT 22 18 5,qBT 23 18 .eql 21 22,qQ 24 18 23,qM 25 24,qFT 26 25 2 3,qLT 27 25 26,qNT 28 25 27,qMT 29 25 6,qBT 30 25 .eql 28 29,qQ 31 25 30,qM 32 31,qFT 33 32 3 3,qLT 34 32 33,qNT 35 32 34,qMT 36 32 6,qBT 37 32 .eql 35 36,qQ 38 32 37,qM 4 38] .ret))
def MF:aq:=⟨2,39,[.tmp 4],H6.code⟩
def HZ:b_:=qs [qY 4 false] (qs [qM 5 0,qC 6 .geq 5 0,qM 7 6,qMT 8 7 0,qMT 9 7 1,qBT 10 7 .lss 8 9,qQ 11 7 10,qM 4 11] .ret)
def ME:aq:=⟨2,12,[.tmp 4],HZ.code⟩
def HY:b_:=qs [qY 2 false] (qs [qM 3 0,o 4 (.bin .geq (.t 3) (i64 (-2147483648))),qM 5 4,qMT 6 5 0,qCT 7 5 .leq 6 2147483647,qQ 8 5 7,qM 2 8] .ret)
def MD:aq:=⟨1,9,[.tmp 2],HY.code⟩
def HW:b_:=qs [o 2 (.box (.t 0)),qY 4 false] (.seq (qs [qM 7 1,qN 8 7,qZ 9 0] (.block 0 (.loop [.ob 2 [],.tr 1,.pt 2 2 0,.tr 7,.tr 8,.tr 9] (qs [qB 10 .lss 9 8] (.seq (.cond (.t 10) .skip (.exit 0)) (.seq (.block 1 (qs [qI 11 2 7 9,qG 12 2 11,o 6 (.alloc [zi,zi]),qO 2 6 12] (qs [qF 13 0 6,qL 14 13,qF 15 4 2,qL 16 15,qK 17 77 [14,16],qU 18 17,qM 19 18,qFF 20 19 1 6,qLF 21 19 20,qKF 22 19 78 [21],qUF 23 19 22,qP 24 19 23] (.cond (.t 24) (qs [qY 4 false] .ret) .skip)))) (.aa [qC 25 .add 9 1,qM 9 25]))))))) (qs [qM 26 1,qN 27 26,qF 28 1 2,qL 29 28,qB 30 .leq 27 29,qM 4 30] .ret))
def MC:aq:=⟨2,31,[.tmp 4],HW.code⟩
def HV:b_:=qs [o 2 (.box (.t 0)),qZ 4 0,qZ 5 0] (qs [qF 10 3 2,qL 11 10,o 12 (.bQ 4 (.t 11) (i64 0)),qG 13 4 12,qM 14 1,qK 15 35 [13,14],qM 9 15,qE 16 0 9,qE 17 1 9,qM 6 16,qM 7 17] (.seq (qs [qM 18 7,qC 19 .neq 18 0] (.cond (.t 19) (qs [qM 20 7,qZ 4 0,qM 5 20] .ret) .skip)) (qs [qF 22 3 2,qL 23 22,o 24 (.bQ 4 (.t 23) (i64 1)),qG 25 4 24,qM 26 1,qK 27 35 [25,26],qM 21 27,qE 28 0 21,qE 29 1 21,qM 8 28,qM 7 29] (.seq (qs [qM 30 7,qC 31 .neq 30 0] (.cond (.t 31) (qs [qM 32 7,qZ 4 0,qM 5 32] .ret) .skip)) (qs [qF 33 0 2,qL 34 33,qM 35 6,qM 36 8,qK 37 103 [34,35,36],qE 38 0 37,qE 39 1 37,qM 4 38,qM 5 39] .ret)))))
def MB:aq:=⟨2,40,[.tmp 4,.tmp 5],HV.code⟩
def M5:aq:=⟨3,15,[.tmp 6],(.seq (.aa [qY 6 false]) (.seq (.aa [qM 7 0,qM 8 1,qB 9 .geq 7 8,qM 10 9,qMT 11 10 0,qMT 12 10 2,qBT 13 10 .leq 11 12,qQ 14 10 13,qM 6 14]) .ret))⟩
def M4:aq:=⟨2,45,[.tmp 4],(.seq (.aa [o 2 (.box (.t 0)),qY 4 false]) (.seq (.aa [qF 6 0 2,qL 7 6,o 8 (.call 81 [.t 7,(i64 0),(i64 2)] .borrow),qM 9 8,qFT 10 9 1 2,qLT 11 9 10,oT 12 9 (.call 81 [.t 11,(i64 1),(i64 16)] .borrow),qQ 13 9 12,qM 14 13,qFT 15 14 4 2,qLT 16 14 15,oT 17 14 (.call 81 [.t 16,(i64 1),(i64 4)] .borrow),qQ 18 14 17,qM 5 18]) (.seq (.aa [qM 19 5,qM 20 19,qFT 21 20 2 2,qLT 22 20 21,qMT 23 20 1,qCT 24 20 .sub 23 1,oT 25 20 (.call 81 [.t 22,(i64 0),.t 24] .borrow),qQ 26 20 25,qM 27 26,qFT 28 27 3 2,qLT 29 27 28,qMT 30 27 1,qCT 31 27 .sub 30 1,oT 32 27 (.call 81 [.t 29,(i64 0),.t 31] .borrow),qQ 33 27 32,qM 34 33,qFT 35 34 2 2,qLT 36 34 35,qFT 37 34 3 2,qLT 38 34 37,qBT 39 34 .neq 36 38,qQ 40 34 39,qM 41 40,qGT 42 41 6 2,qKT 43 41 104 [42],qQ 44 41 43,qM 4 44]) .ret)))⟩
def M3:aq:=⟨2,18,[.tmp 4],(.seq (.aa [o 2 (.box (.t 0)),qY 4 false]) (.seq (.seq (.aa [qM 7 1,qN 8 7,qZ 9 0]) (.block 0 (.loop (.seq (.aa [qB 10 .lss 9 8]) (.seq (.cond (.t 10) .skip (.exit 0)) (.seq (.block 1 (.seq (.aa [qI 11 20 7 9,qG 12 20 11,o 6 (.alloc zL1),qO 20 6 12]) (.seq (.aa [qG 13 4 2,qG 14 20 6,qK 15 105 [13,14],qU 16 15]) (.cond (.t 16) (.seq (.aa [qY 4 false]) .ret) .skip)))) (.aa [qC 17 .add 9 1,qM 9 17]))))))) (.seq (.aa [qY 4 true]) .ret)))⟩
def M1:aq:=⟨2,14,[],(.seq (.aa [o 3 (.box (.t 1))]) (.aT [qM 4 0,qM 5 0,qX 6 5,qF 7 1 6,qL 8 7,qG 9 19 3,oZ 10 (.aQ 1 zL2 [(0,19,.t 9)]),qA 11 19 200 8 10,qX 12 4,qF 13 1 12,qO 1 13 11] [[],[],[1],[1,2],[1,2,3],[],[5],[1,2,3,4,5,6],(rg 8),(rg 9),(rg 10)] [(4,6)]))⟩
def M0:aq:=⟨1,15,[.tmp 2],(.seq (.aa [qZ 2 0]) (.seq (.aa [qM 3 0,qX 4 3,qF 5 0 4,qL 6 5,qC 7 .add 6 1,qX 8 3,qF 9 0 8,qO 1 9 7]) (.seq (.aa [qM 10 0,qX 11 10,qF 12 0 11,qL 13 12,qC 14 .sub 13 1,qM 2 14]) .ret)))⟩
def MZ:aq:=⟨4,89,[],(.seq (.aa [o 5 (.box (.t 1))]) (.seq (.aa [qF 8 0 5,qL 9 8]) (.block 0 (.seq (.aa [qC 11 .eql 9 1,qM 10 11]) (.cond (.t 10) (.aT [qM 12 0,qM 13 2,qM 14 3,qF 15 1 5,qL 16 15,qF 17 4 5,qG 18 4 17,qK 19 106 [18],o 20 (.build zL2 [(0,1,.t 13),(1,1,.t 14),(2,1,(i64 1)),(3,1,.t 16),(6,4,.t 19)]),o 21 (.call 84 [.t 12,.t 20] .share)] [[],[],[],[],[3],[],[5],[5,6],[1,2,3,4,5,6,7],(rg 9)] []) (.seq (.aa [qC 23 .eql 9 4,qM 22 23]) (.cond (.t 22) (.aT [qM 24 0,qM 25 2,qM 26 3,qF 27 2 5,qL 28 27,qF 29 3 5,qL 30 29,qF 31 4 5,qG 32 4 31,qK 33 106 [32],o 34 (.build zL2 [(0,1,.t 25),(1,1,.t 26),(2,1,(i64 3)),(4,1,.t 28),(5,1,.t 30),(6,4,.t 33)]),o 35 (.call 84 [.t 24,.t 34] .share)] [[],[],[],[],[3],[],[5],[],[7],[7,8],[1,2,3,4,5,6,7,8,9],(rg 11)] []) (.seq (.aa [qC 37 .eql 9 6,qM 36 37]) (.cond (.t 36) (.aa [qM 38 0,qM 39 2,qM 40 3,qF 41 8 5,qG 42 9 41,qK 43 107 [42],o 44 (.build zL2 [(0,1,.t 39),(1,1,.t 40),(2,1,(i64 5)),(10,9,.t 43)]),o 45 (.call 84 [.t 38,.t 44] .share)]) (.seq (.aa [qC 47 .eql 9 7,qM 46 47]) (.cond (.t 46) (.aa [qM 48 0,qM 49 2,qM 50 3,qF 51 1 5,qL 52 51,o 53 (.build zL2 [(0,1,.t 49),(1,1,.t 50),(2,1,(i64 6)),(3,1,.t 52)]),o 54 (.call 84 [.t 48,.t 53] .share)]) (.seq (.aa [qC 56 .eql 9 2,qM 55 56]) (.cond (.t 55) (.seq (.aT [qM 57 0,qF 58 8 5,qG 59 9 58,qK 60 107 [59],qF 61 17 5,qL 62 61,qM 63 2,qM 64 3,o 65 (.call 108 [.t 57,.t 60,.t 62,.t 63,.t 64] .share)] [[],[],[1],[1,2],[],[4],[],[],(rg 8)] []) (.aT [qM 66 0,qF 67 8 5,qG 68 9 67,qK 69 109 [68],qF 70 18 5,qL 71 70,qM 72 2,qM 73 3,o 74 (.call 108 [.t 66,.t 69,.t 71,.t 72,.t 73] .share)] [[],[],[1],[1,2],[],[4],[],[],(rg 8)] [])) (.seq (.aa [qC 76 .eql 9 3,qM 75 76]) (.cond (.t 75) (.aa [qM 77 0,qG 78 20 5,qM 79 2,qM 80 3,o 81 (.call 110 [.t 77,.t 78,.t 79,.t 80] .share)]) (.seq (.aa [qC 83 .eql 9 5,qM 82 83]) (.cond (.t 82) (.aa [qM 84 0,qG 85 20 5,qM 86 2,qM 87 3,o 88 (.call 111 [.t 84,.t 85,.t 86,.t 87] .share)]) .skip)))))))))))))))))⟩
def MY:aq:=⟨4,134,[],(.seq (.aa [qY 8 true]) (.seq (.aa [qY 9 true]) (.block 0 (.loop (.block 1 (.seq (.aa [qM 19 2,qM 20 1,qB 21 .sub 19 20,qM 10 21]) (.seq (.seq (.aa [qM 22 10,qC 23 .leq 22 12]) (.cond (.t 23) (.seq (.aa [qM 24 0,qM 25 1,qM 26 2,o 27 (.call 112 [.t 24,.t 25,.t 26] .share)]) .ret) .skip)) (.seq (.seq (.aa [qM 28 3,qC 29 .eql 28 0]) (.cond (.t 29) (.seq (.aa [qM 30 0,qM 31 1,qM 32 2,o 33 (.call 113 [.t 30,.t 31,.t 32] .share)]) .ret) .skip)) (.seq (.seq (.aa [qM 34 8,qU 35 34]) (.cond (.t 35) (.seq (.aa [qM 36 0,qM 37 1,qM 38 2,o 39 (.call 114 [.t 36,.t 37,.t 38] .share)]) (.aa [qM 40 3,qC 41 .sub 40 1,qM 3 41])) .skip)) (.seq (.aa [qM 43 0,qM 44 1,qM 45 2,o 46 (.call 115 [.t 43,.t 44,.t 45] .share),qM 42 46,qE 47 0 42,qE 48 1 42,qM 11 47,qM 12 48]) (.seq (.seq (.aa [qM 49 12,qC 50 .eql 49 2]) (.cond (.t 50) (.seq (.aa [qM 51 0,qM 52 1,qM 53 2,o 54 (.call 116 [.t 51,.t 52,.t 53] .share)]) (.seq (.aa [qM 55 2,qC 56 .sub 55 1,qM 57 11,qM 58 1,qB 59 .sub 57 58,qB 60 .sub 56 59,qM 11 60]) (.aa [qZ 12 1]))) .skip)) (.seq (.seq (.aa [qM 61 8,qM 62 61,qMT 63 62 9,qQ 64 62 63,qM 65 64,qMT 66 65 12,qCT 67 65 .eql 66 1,qQ 68 65 67]) (.cond (.t 68) (.seq (.aa [qM 69 0,qM 70 1,qM 71 2,o 72 (.call 117 [.t 69,.t 70,.t 71] .share)]) (.cond (.t 72) .ret .skip)) .skip)) (.seq (.seq (.aT [qM 73 1,qC 74 .gtr 73 0,qM 75 74,qMT 76 75 0,qMT 77 75 1,qCT 78 75 .sub 77 1,qIT 79 75 1 76 78,qLT 80 75 79,qMT 81 75 0,qMT 82 75 11,qIT 83 75 1 81 82,qLT 84 75 83,qKT 85 75 118 [80,84],qUT 86 75 85,qQ 87 75 86] [[],[0],[0,1],[0,1,2],[0,1,2],[0,1,2,4],(rg 6),(rg 7),[0,1,2],[0,1,2],[0,1,2,8,9],[0,1,2,8,9,10],(rg 12),(rg 13),(rg 14)] []) (.cond (.t 87) (.seq (.aa [qM 88 0,qM 89 1,qM 90 2,qM 91 11,o 92 (.call 119 [.t 88,.t 89,.t 90,.t 91] .share),qM 13 92]) (.seq (.aa [qM 93 13,qM 1 93]) (.exit 1))) .skip)) (.seq (.aa [qM 95 0,qM 96 1,qM 97 2,qM 98 11,o 99 (.call 120 [.t 95,.t 96,.t 97,.t 98] .share),qM 94 99,qE 100 0 94,qE 101 1 94,qM 14 100,qM 15 101]) (.seq (.aa [qM 102 15,qM 9 102]) (.seq (.aa [qM 103 14,qM 104 1,qB 105 .sub 103 104,qM 106 2,qM 107 14,qB 108 .sub 106 107,qM 16 105,qM 17 108]) (.seq (.aa [qM 109 10,qC 110 .quo 109 8,qM 18 110]) (.seq (.aa [qM 111 16,qM 112 17,qB 113 .lss 111 112]) (.cond (.t 113) (.seq (.aa [qM 114 16,qM 115 18,qB 116 .geq 114 115,qM 8 116]) (.seq (.aa [qM 117 0,qM 118 1,qM 119 14,qM 120 3,o 121 (.call 87 [.t 117,.t 118,.t 119,.t 120] .share)]) (.aa [qM 122 14,qC 123 .add 122 1,qM 1 123]))) (.seq (.aa [qM 124 17,qM 125 18,qB 126 .geq 124 125,qM 8 126]) (.seq (.aa [qM 127 0,qM 128 14,qC 129 .add 128 1,qM 130 2,qM 131 3,o 132 (.call 87 [.t 127,.t 129,.t 130,.t 131] .share)]) (.aa [qM 133 14,qM 2 133]))))))))))))))))))))))⟩
def MX:aq:=⟨1,8,[.tmp 2],(.seq (.aa [qZ 2 0]) (.seq (.cond (.c (.bool false)) (.seq (.aa [qM 3 0,o 4 (.conv .u32 (.t 3)),qK 5 121 [4],qM 2 5]) .ret) .skip) (.seq (.aa [qM 6 0,qK 7 122 [6],qM 2 7]) .ret)))⟩
def Ee:aq:=⟨1,67,[.cell 2 (some 4),.tmp 3],(.seq (.aa [o 2 (.alloc [.bool false,zi,zi,zi]),qY 3 false]) (.seq (.seq (.aa [qM 4 0,qX 5 4,qF 6 14 5,qF 7 2 6,qL 8 7]) (.block 0 (.seq (.aa [qC 10 .eql 8 1,qM 9 10]) (.cond (.t 9) (.seq (.aa [qM 11 0,o 12 (.call 130 [.t 11] .share),qE 13 0 12,qE 14 1 12,qO 4 2 13,qM 3 14]) .ret) (.seq (.aa [qC 16 .eql 8 2,qM 15 16]) (.cond (.t 15) (.seq (.aa [qM 17 0,o 18 (.call 131 [.t 17] .share),qE 19 0 18,qE 20 1 18,qO 4 2 19,qM 3 20]) .ret) (.seq (.aa [qC 22 .eql 8 5,qM 21 22]) (.cond (.t 21) (.seq (.aa [qM 23 0,o 24 (.call 132 [.t 23] .share),qE 25 0 24,qE 26 1 24,qO 4 2 25,qM 3 26]) .ret) (.seq (.aa [qC 28 .eql 8 3,qM 27 28]) (.cond (.t 27) (.seq (.aa [qM 29 0,o 30 (.call 133 [.t 29] .share),qE 31 0 30,qE 32 1 30,qO 4 2 31,qM 3 32]) .ret) (.seq (.aa [qC 34 .eql 8 4,qM 33 34]) (.cond (.t 33) (.seq (.aa [qM 35 0,o 36 (.call 134 [.t 35] .share),qE 37 0 36,qE 38 1 36,qO 4 2 37,qM 3 38]) .ret) (.seq (.aa [qC 40 .eql 8 6,qM 39 40]) (.cond (.t 39) (.aT [qM 41 0,qX 42 41,qF 43 33 42,qL 44 43,qM 45 0,qX 46 45,qF 47 14 46,qF 48 3 47,qL 49 48,qM 50 0,qX 51 50,qF 52 7 51,qF 53 2 52,qL 54 53,o 55 (.conv .i32 (.t 54)),o 56 (.conv .i64 (.t 55)),qI 57 1 44 49,qO 1 57 56] [[],[0],[0,1],[0,1,2],[],[4],[4,5],[4,5,6],[4,5,6,7],[],[9],[9,10],[9,10,11],[9,10,11,12],[9,10,11,12,13],[9,10,11,12,13,14],(rg 16),(rg 17)] []) .skip)))))))))))))) (.seq (.aa [qM 58 0,qM 59 0,qX 60 59,qF 61 14 60,qF 62 1 61,qL 63 62,o 64 (.call 135 [.t 58,.t 63] .share),qE 65 0 64,qE 66 1 64,qO 4 2 65,qM 3 66]) .ret)))⟩
def MW:aq:=⟨1,36,[.tmp 2],(.seq (.aa [o 1 (.box (.t 0)),qY 2 false]) (.seq (.seq (.aa [qF 5 2 1,qL 6 5,qN 7 6,qZ 8 0]) (.block 0 (.loop (.seq (.aa [qB 9 .lss 8 7]) (.seq (.cond (.t 9) .skip (.exit 0)) (.seq (.block 1 (.seq (.aa [qM 10 8,qI 11 1 6 8,qL 12 11,qM 3 10,qM 4 12]) (.seq (.aa [qM 13 4,qC 14 .lss 13 0,qM 15 14,qMF 16 15 4,qFF 17 15 0 1,qLF 18 15 17,qBF 19 15 .geq 16 18,qP 20 15 19,qM 21 20,qMF 22 21 3,qCF 23 21 .gtr 22 0,qMF 24 21 23,qFT 25 24 2 1,qLT 26 24 25,qMT 27 24 3,qCT 28 24 .sub 27 1,qIT 29 24 1 26 28,qLT 30 24 29,qMT 31 24 4,qBT 32 24 .geq 30 31,qQF 33 21 24 32,qP 34 21 33]) (.cond (.t 34) (.seq (.aa [qY 2 false]) .ret) .skip)))) (.aa [qC 35 .add 8 1,qM 8 35]))))))) (.seq (.aa [qY 2 true]) .ret)))⟩
def Kr:aq:=⟨4,67,[.tmp 8],(.seq (.aa [o 4 (.box (.t 0)),o 6 (.box (.t 2)),o 7 (.box (.t 3)),qY 8 false]) (.seq (.seq (.aa [qF 12 0 7,qL 13 12,qC 14 .lss 13 0,qM 15 14,qFF 16 15 0 7,qLF 17 15 16,qFF 18 15 0 6,qLF 19 15 18,qBF 20 15 .geq 17 19,qP 21 15 20,qM 22 21,qFF 23 22 1 7,qLF 24 22 23,qCF 25 22 .lss 24 0,qP 26 22 25,qM 27 26,qFF 28 27 1 7,qLF 29 27 28,qFF 30 27 0 6,qLF 31 27 30,qBF 32 27 .geq 29 31,qP 33 27 32]) (.cond (.t 33) (.seq (.aa [qY 8 false]) .ret) .skip)) (.seq (.aa [qG 35 19 7,qK 36 136 [35],qM 34 36,qE 37 0 34,qE 38 1 34,qM 9 37,qM 10 38]) (.seq (.seq (.aa [qM 39 10,qU 40 39]) (.cond (.t 40) (.seq (.aa [qY 8 false]) .ret) .skip)) (.seq (.aa [qF 41 1 4,qL 42 41,o 43 (.call 137 [.t 42] .share),qM 11 43]) (.seq (.aa [qM 44 11,qM 45 1,qM 46 9,qI 47 2 44 45,qF 48 1 47,qO 1 48 46]) (.seq (.seq (.aa [qF 49 2 7,qL 50 49,qC 51 .eql 50 0]) (.cond (.t 51) (.aa [qM 52 11,qM 53 1,qM 54 11,qM 55 1,qI 56 2 54 55,qF 57 0 56,qL 58 57,o 59 (.yh true [.t 58,(i64 1)]),qI 60 2 52 53,qF 61 0 60,qO 1 61 59]) .skip)) (.seq (.aa [qF 62 0 4,qL 63 62,qM 64 11,o 65 (.build [.ak,.ak] [(0,1,.t 63),(1,1,.t 64)]),qK 66 60 [65],qM 8 66]) .ret))))))))⟩
def Kq:aq:=⟨2,63,[.tmp 4],(.seq (.aa [o 2 (.box (.t 0)),qY 4 false]) (.seq (.aa [o 5 (.mv (.c (.ak)))]) (.seq (.seq (.aa [qG 8 3 2,qM 9 1,qK 10 50 [8,9],qN 11 10,qZ 12 0]) (.block 0 (.loop (.seq (.aa [qB 13 .lss 12 11]) (.seq (.cond (.t 13) .skip (.exit 0)) (.seq (.block 1 (.seq (.aa [qI 14 1 10 12,qL 15 14,qM 7 15]) (.aa [qM 16 5,qF 17 1 2,qL 18 17,qM 19 7,qI 20 19 18 19,qG 21 19 20,oZ 22 (.aQ 1 zL2 [(0,19,.t 21)]),qA 23 19 200 16 22,qM 5 23]))) (.aa [qC 24 .add 12 1,qM 12 24]))))))) (.seq (.block 2 (.seq (.aa [qM 26 5,qN 27 26,qC 28 .eql 27 0,qM 25 28]) (.cond (.t 25) (.seq (.aa [qM 29 1,qC 30 .eql 29 1,qM 4 30]) .ret) (.seq (.aa [qM 32 1,qC 33 .eql 32 1,qM 31 33]) (.cond (.t 31) (.seq (.aa [qY 4 false]) .ret) (.seq (.aa [qM 35 5,o 36 (.bQ 19 (.t 35) (i64 0)),qF 37 2 36,qL 38 37,qC 39 .eql 38 4,qM 34 39]) (.cond (.t 34) (.seq (.aa [qM 40 5,qK 41 138 [40],qM 4 41]) .ret) (.seq (.aa [qM 43 5,o 44 (.bQ 19 (.t 43) (i64 0)),qF 45 2 44,qL 46 45,qC 47 .eql 46 2,qM 42 47]) (.cond (.t 42) (.seq (.aT [qM 48 5,qN 49 48,qC 50 .eql 49 2,qM 51 50,qMT 52 51 5,oT 53 51 (.bQ 19 (.t 52) (i64 0)),qGT 54 51 19 53,qMT 55 51 5,oT 56 51 (.bQ 19 (.t 55) (i64 1)),qGT 57 51 19 56,qKT 58 51 139 [54,57],qQ 59 51 58,qM 4 59] [[],[0],[0,1],[0,1,2],(rg 4),(rg 5),(rg 6),(rg 4),[0,1,2,3,7],[0,1,2,3,7,8],(rg 10),(rg 11),(rg 12)] []) .ret) .skip))))))))) (.seq (.aa [qM 60 5,qN 61 60,qC 62 .eql 61 1,qM 4 62]) .ret)))))⟩
def Kp:aq:=⟨1,100,[.tmp 2],(.seq (.aa [o 1 (.box (.t 0)),qY 2 false]) (.seq (.aa [qF 14 0 1,qL 15 14,o 16 (.kF 1 8 [zi] (.t 15)),qM 3 16]) (.seq (.seq (.aa [qF 17 1 1,qL 18 17,qN 19 18,qZ 20 0]) (.block 0 (.loop (.seq (.aa [qB 21 .lss 20 19]) (.seq (.cond (.t 21) .skip (.exit 0)) (.seq (.block 1 (.seq (.aa [qI 22 19 18 20,qG 23 19 22,o 5 (.alloc zL2),qO 19 5 23]) (.seq (.aa [qF 24 2 1,qL 25 24,qF 26 0 5,qL 27 26,qK 28 140 [25,27],qU 29 28]) (.cond (.t 29) (.aa [qM 30 3,qF 31 1 5,qL 32 31,qI 33 1 30 32,qL 34 33,qC 35 .add 34 1,qI 36 1 30 32,qO 1 36 35]) .skip)))) (.aa [qC 37 .add 20 1,qM 20 37]))))))) (.seq (.aa [o 6 (.mv (.c (.ak)))]) (.seq (.aa [qZ 7 0]) (.seq (.seq (.aa [qM 38 3,qN 39 38,qZ 40 0]) (.block 2 (.loop (.seq (.aa [qB 41 .lss 40 39]) (.seq (.cond (.t 41) .skip (.exit 2)) (.seq (.block 3 (.seq (.aa [qM 42 40,qI 43 1 38 40,qL 44 43,qM 8 42,qM 9 44]) (.seq (.aa [qM 45 9,qC 46 .eql 45 0]) (.cond (.t 46) (.aa [qM 47 6,qM 48 8,o 49 (.aQ 1 [zi] [(0,1,.t 48)]),qA 50 1 8 47 49,qM 6 50]) .skip)))) (.aa [qC 51 .add 40 1,qM 40 51]))))))) (.seq (.block 4 (.loop (.seq (.seq (.aa [qM 52 6,qN 53 52,qC 54 .gtr 53 0]) (.cond (.t 54) .skip (.exit 4))) (.block 5 (.seq (.aa [qM 55 6,o 56 (.bQ 1 (.t 55) (i64 0)),qL 57 56,qM 10 57]) (.seq (.aa [qM 58 6,o 59 (.iX 1 (.t 58) (some (i64 1)) none none),qM 6 59]) (.seq (.aa [qM 60 7,qC 61 .add 60 1,qM 7 61]) (.seq (.seq (.aa [qF 62 2 1,qL 63 62,qM 64 10,qK 65 140 [63,64]]) (.cond (.t 65) (.exit 5) .skip)) (.seq (.aa [qG 66 3 1,qM 67 10,qK 68 50 [66,67],qN 69 68,qZ 70 0]) (.block 6 (.loop (.seq (.aa [qB 71 .lss 70 69]) (.seq (.cond (.t 71) .skip (.exit 6)) (.seq (.block 7 (.seq (.aa [qI 72 1 68 70,qL 73 72,qM 12 73]) (.seq (.aa [qF 74 1 1,qL 75 74,qM 76 12,qI 77 19 75 76,qF 78 1 77,qL 79 78,qM 13 79]) (.seq (.aa [qM 80 3,qM 81 13,qI 82 1 80 81,qL 83 82,qC 84 .sub 83 1,qI 85 1 80 81,qO 1 85 84]) (.seq (.aa [qM 86 3,qM 87 13,qI 88 1 86 87,qL 89 88,qC 90 .eql 89 0]) (.cond (.t 90) (.aa [qM 91 6,qM 92 13,o 93 (.aQ 1 [zi] [(0,1,.t 92)]),qA 94 1 8 91 93,qM 6 94]) .skip)))))) (.aa [qC 95 .add 70 1,qM 70 95]))))))))))))))) (.seq (.aa [qM 96 7,qF 97 0 1,qL 98 97,qB 99 .lss 96 98,qM 2 99]) .ret))))))))⟩
def BU:b_:=qs [qZ 6 0,qZ 7 0] (.seq (qs [qM 8 0] (.block 0 (qs [qC 10 .eql 8 4,qM 9 10] (.cond (.t 9) (qs [qM 11 1,qM 12 2,qB 13 .add 11 12,qM 6 13,qZ 7 0] .ret) (qs [qC 15 .eql 8 5,qM 14 15] (.cond (.t 14) (qs [qM 16 1,qM 17 2,qB 18 .sub 16 17,qM 6 18,qZ 7 0] .ret) (qs [qC 20 .eql 8 6,qM 19 20] (.cond (.t 19) (qs [qM 21 1,qM 22 2,qB 23 .mul 21 22,qM 6 23,qZ 7 0] .ret) .skip)))))))) (.seq (.block 1 (qs [qM 25 2,qC 26 .eql 25 0,qM 24 26] (.cond (.t 24) (qs [qZ 6 0,qZ 7 3] .ret) (qs [qM 28 0,qC 29 .eql 28 7,qM 27 29] (.cond (.t 27) (qs [qM 30 1,qM 31 2,qB 32 .quo 30 31,qM 6 32,qZ 7 0] .ret) .skip))))) (qs [qM 33 1,qM 34 2,qB 35 .rem 33 34,qM 6 35,qZ 7 0] .ret)))
def Hx:aq:=⟨3,36,[.tmp 6,.tmp 7],BU.code⟩
def Ko:aq:=⟨1,60,[.tmp 2],(.seq (.aa [o 1 (.box (.t 0)),qY 2 false]) (.seq (.aa [qZ 3 0]) (.seq (.seq (.aa [qF 8 5 1,qL 9 8,qN 10 9,qZ 11 0]) (.block 0 (.loop (.seq (.aa [qB 12 .lss 11 10]) (.seq (.cond (.t 12) .skip (.exit 0)) (.seq (.block 1 (.seq (.aa [qM 13 11,qI 14 1 9 11,qL 15 14,qM 4 13,qM 5 15]) (.seq (.seq (.aa [qM 16 5,qN 17 16,qF 18 4 1,qL 19 18,qB 20 .neq 17 19]) (.cond (.t 20) (.seq (.aa [qY 2 false]) .ret) .skip)) (.seq (.aa [qM 21 5,qN 22 21,qZ 23 0]) (.block 2 (.loop (.seq (.aa [qB 24 .lss 23 22]) (.seq (.cond (.t 24) .skip (.exit 2)) (.seq (.block 3 (.seq (.aa [qI 25 1 21 23,qL 26 25,qM 7 26]) (.seq (.seq (.aa [qM 27 7,qF 28 5 1,qL 29 28,qN 30 29,qC 31 .sub 30 1,o 32 (.call 81 [.t 27,(i64 (-1)),.t 31] .borrow),qU 33 32]) (.cond (.t 33) (.seq (.aa [qY 2 false]) .ret) .skip)) (.seq (.aa [qM 34 7,o 35 (.bin .neq (.t 34) (i64 (-1)))]) (.cond (.t 35) (.aa [qM 36 3,qM 37 4,qM 38 7,o 39 (.yh true [.t 36,.t 37,.t 38]),qM 3 39]) .skip))))) (.aa [qC 40 .add 23 1,qM 23 40])))))))))) (.aa [qC 41 .add 11 1,qM 11 41]))))))) (.seq (.aa [qF 42 5 1,qL 43 42,qN 44 43,qC 45 .eql 44 0,qM 46 45,qMF 47 46 3,qFF 48 46 5 1,qLF 49 46 48,qNF 50 46 49,qCF 51 46 .sub 50 1,qBF 52 46 .eql 47 51,qMF 53 46 52,qFT 54 53 5 1,qLT 55 53 54,qNT 56 53 55,qCT 57 53 .leq 56 8,qQF 58 46 53 57,qP 59 46 58,qM 2 59]) .ret))))⟩
def Km:aq:=⟨2,253,[.tmp 4],(.seq (.aa [o 2 (.box (.t 0)),o 3 (.box (.t 1)),qY 4 false]) (.seq (.aT [qF 12 4 3,qG 13 4 12,qK 14 141 [13],qF 15 8 3,qG 16 9 15,qK 17 142 [16],qM 5 14,qM 6 17] [[],[0],[0,1],[],[3],(rg 5),(rg 6),(rg 7)] []) (.seq (.aT [qF 18 17 3,qL 19 18,qN 20 19,qC 21 .eql 20 0,qF 22 19 3,qL 23 22,qN 24 23,qC 25 .eql 24 0,qM 7 21,qM 8 25] [[],[0],[0,1],[0,1,2],[],[4],[4,5],[4,5,6],(rg 4),(rg 9)] []) (.seq (.aT [qF 26 18 3,qL 27 26,qN 28 27,qC 29 .eql 28 0,qF 30 1 3,qL 31 30,qC 32 .eql 31 0,qM 9 29,qM 10 32] [[],[0],[0,1],[0,1,2],[],[4],[4,5],(rg 4),(rg 8)] []) (.seq (.aa [qF 33 2 3,qL 34 33,qC 35 .eql 34 0,qM 36 35,qFT 37 36 3 3,qLT 38 36 37,qCT 39 36 .eql 38 0,qQ 40 36 39,qM 11 40]) (.seq (.seq (.aa [qF 41 0 3,qL 42 41]) (.block 0 (.seq (.aa [qC 44 .eql 42 1,qM 43 44]) (.cond (.t 43) (.seq (.aa [qM 45 6,qM 46 45,qMT 47 46 7,qQ 48 46 47,qM 49 48,qMT 50 49 9,qQ 51 49 50,qM 52 51,qMT 53 52 8,qQ 54 52 53,qM 55 54,qMT 56 55 11,qQ 57 55 56,qM 58 57,qFT 59 58 1 3,qLT 60 58 59,qFT 61 58 3 2,qLT 62 58 61,qCT 63 58 .sub 62 1,oT 64 58 (.call 81 [.t 60,(i64 0),.t 63] .borrow),qQ 65 58 64,qM 66 65,qFT 67 66 4 3,qGT 68 66 4 67,qFT 69 66 3 2,qLT 70 66 69,qKT 71 66 143 [68,70],qQ 72 66 71,qM 4 72]) .ret) (.seq (.aa [qC 74 .eql 42 7,qM 73 74]) (.cond (.t 73) (.seq (.aa [qM 75 5,qM 76 75,qMT 77 76 6,qQ 78 76 77,qM 79 78,qMT 80 79 7,qQ 81 79 80,qM 82 81,qMT 83 82 9,qQ 84 82 83,qM 85 84,qMT 86 85 8,qQ 87 85 86,qM 88 87,qMT 89 88 11,qQ 90 88 89,qM 91 90,qFT 92 91 1 3,qLT 93 91 92,qFT 94 91 3 2,qLT 95 91 94,qCT 96 91 .sub 95 1,oT 97 91 (.call 81 [.t 93,(i64 0),.t 96] .borrow),qQ 98 91 97,qM 4 98]) .ret) (.seq (.aa [qC 100 .eql 42 6,qM 99 100]) (.cond (.t 99) (.seq (.aa [qM 101 5,qM 102 101,qMT 103 102 7,qQ 104 102 103,qM 105 104,qMT 106 105 9,qQ 107 105 106,qM 108 107,qMT 109 108 8,qQ 110 108 109,qM 111 110,qMT 112 111 11,qQ 113 111 112,qM 114 113,qMT 115 114 10,qQ 116 114 115,qM 117 116,qFT 118 117 8 3,qGT 119 117 9 118,qFT 120 117 3 2,qLT 121 117 120,qKT 122 117 144 [119,121],qQ 123 117 122,qM 4 123]) .ret) (.seq (.aa [qC 125 .eql 42 3,qM 124 125]) (.cond (.t 124) (.seq (.aa [qM 126 5,qM 127 126,qMT 128 127 9,qQ 129 127 128,qM 130 129,qMT 131 130 8,qQ 132 130 131,qM 133 132,qMT 134 133 11,qQ 135 133 134,qM 136 135,qMT 137 136 10,qQ 138 136 137,qM 139 138,qFT 140 139 8 3,qGT 141 139 9 140,qFT 142 139 3 2,qLT 143 139 142,qKT 144 139 144 [141,143],qQ 145 139 144,qM 146 145,qGT 147 146 4 2,qFT 148 146 17 3,qLT 149 146 148,qKT 150 146 83 [147,149],qQ 151 146 150,qM 4 151]) .ret) (.seq (.aa [qC 153 .eql 42 2,qM 152 153]) (.cond (.t 152) (.seq (.aa [qM 154 5,qM 155 154,qMT 156 155 8,qQ 157 155 156,qM 158 157,qMT 159 158 11,qQ 160 158 159,qM 161 160,qMT 162 161 10,qQ 163 161 162,qM 164 163,qFT 165 164 8 3,qGT 166 164 9 165,qFT 167 164 3 2,qLT 168 164 167,qKT 169 164 144 [166,168],qQ 170 164 169,qM 171 170,qGT 172 171 4 2,qFT 173 171 17 3,qLT 174 171 173,qKT 175 171 83 [172,174],qQ 176 171 175,qM 177 176,qGT 178 177 4 2,qFT 179 177 18 3,qLT 180 177 179,qKT 181 177 83 [178,180],qQ 182 177 181,qM 4 182]) .ret) (.seq (.aa [qC 184 .eql 42 4,qM 183 184]) (.cond (.t 183) (.seq (.aa [qM 185 6,qM 186 185,qMT 187 186 7,qQ 188 186 187,qM 189 188,qMT 190 189 9,qQ 191 189 190,qM 192 191,qMT 193 192 8,qQ 194 192 193,qM 195 194,qMT 196 195 10,qQ 197 195 196,qM 198 197,qGT 199 198 4 2,qFT 200 198 2 3,qLT 201 198 200,oT 202 198 (.call 145 [.t 199,.t 201,(.c (.func 146))] .borrow),qQ 203 198 202,qM 204 203,qGT 205 204 4 2,qFT 206 204 2 3,qLT 207 204 206,qFT 208 204 3 3,qLT 209 204 208,qKT 210 204 147 [205,207,209],qQ 211 204 210,qM 212 211,qFT 213 212 4 3,qGT 214 212 4 213,qFT 215 212 3 2,qLT 216 212 215,qKT 217 212 143 [214,216],qQ 218 212 217,qM 4 218]) .ret) (.seq (.aa [qC 220 .eql 42 5,qM 219 220]) (.cond (.t 219) (.seq (.aa [qM 221 5,qM 222 221,qMT 223 222 6,qQ 224 222 223,qM 225 224,qMT 226 225 7,qQ 227 225 226,qM 228 227,qMT 229 228 9,qQ 230 228 229,qM 231 230,qMT 232 231 10,qQ 233 231 232,qM 234 233,qFT 235 234 3 3,qLT 236 234 235,qCT 237 234 .eql 236 0,qQ 238 234 237,qM 239 238,qGT 240 239 4 2,qFT 241 239 2 3,qLT 242 239 241,oT 243 239 (.call 145 [.t 240,.t 242,(.c (.func 148))] .borrow),qQ 244 239 243,qM 245 244,qGT 246 245 4 2,qFT 247 245 2 3,qLT 248 245 247,qFT 249 245 19 3,qLT 250 245 249,qKT 251 245 149 [246,248,250],qQ 252 245 251,qM 4 252]) .ret) .skip)))))))))))))))) (.seq (.aa [qY 4 false]) .ret)))))))⟩
def Kl:aq:=⟨1,24,[.cell 2 (some 4)],(.seq (.aa [o 1 (.box (.t 0)),o 2 (.alloc [zi,zi,zi,.ak])]) (.seq (.aa [qF 6 3 1,qL 7 6,qM 3 7]) (.seq (.aa [qF 8 3 1,oN (.store 1 (.t 8) (.c (.ak)))]) (.seq (.seq (.aa [qM 9 3,qN 10 9,qZ 11 0]) (.block 0 (.loop (.seq (.aa [qB 12 .lss 11 10]) (.seq (.cond (.t 12) .skip (.exit 0)) (.seq (.block 1 (.seq (.aa [qI 13 4 9 11,qG 14 4 13,o 5 (.alloc [zi,zi,zi,.ak]),qO 4 5 14]) (.aT [qF 15 3 1,qL 16 15,qG 17 4 5,qK 18 106 [17],oZ 19 (.aQ 1 [zi,zi,zi,.ak] [(0,4,.t 18)]),qA 20 4 48 16 19,qF 21 3 1,qO 1 21 20] [[],[0],[],[2],[2,3],(rg 5),(rg 6),(rg 7)] [(1,4)]))) (.aa [qC 22 .add 11 1,qM 11 22]))))))) (.seq (.aa [qG 23 4 1,qO 4 2 23]) .ret)))))⟩
def Kk:aq:=⟨1,12,[.cell 2 (some 9)],(.seq (.aa [o 1 (.box (.t 0)),o 2 (.alloc zL3)]) (.seq (.aT [qF 3 0 1,qL 4 3,qF 5 1 1,qG 6 4 5,qK 7 106 [6],qF 8 5 1,qG 9 4 8,qK 10 106 [9],o 11 (.build zL3 [(0,1,.t 4),(1,4,.t 7),(5,4,.t 10)]),qO 9 2 11] [[],[0],[],[2],[2,3],[],[5],[2,3,4,5,6],(rg 8),(rg 9)] []) .ret))⟩
def Kj:aq:=⟨5,24,[],(.seq (.aa [o 6 (.box (.t 1))]) (.seq (.aa [qM 11 0,o 12 (.call 85 [.t 11] .share),qM 10 12]) (.seq (.aa [qM 13 0,qM 14 3,qM 15 10,qG 16 9 6,o 17 (.build zL2 [(0,1,.t 14),(1,1,.t 15),(2,1,(i64 2)),(10,9,.t 16)]),o 18 (.call 84 [.t 13,.t 17] .share)]) (.aa [qM 19 0,qM 20 2,qM 21 10,qM 22 4,o 23 (.call 62 [.t 19,.t 20,.t 21,.t 22] .share)]))))⟩
def Ki:aq:=⟨1,11,[.cell 2 (some 9)],(.seq (.aa [o 1 (.box (.t 0)),o 2 (.alloc zL3)]) (.seq (.aa [qG 4 9 1,qK 5 107 [4],o 3 (.alloc zL3),qO 9 3 5]) (.seq (.aa [qF 6 0 1,qL 7 6,qK 8 41 [7],qF 9 0 3,qO 1 9 8]) (.seq (.aa [qG 10 9 3,qO 9 2 10]) .ret))))⟩
def Kh:aq:=⟨4,43,[],(.seq (.aa [o 5 (.box (.t 1))]) (.seq (.aa [qM 9 0,qM 10 0,qX 11 10,qF 12 2 11,qL 13 12,qM 14 2,o 15 (.aQ 1 [zi] [(0,1,.t 14)]),qA 16 1 8 13 15,qX 17 9,qF 18 2 17,qO 1 18 16]) (.seq (.aa [qM 19 0,o 20 (.call 85 [.t 19] .share),qM 8 20]) (.seq (.aa [qM 21 0,qM 22 2,qM 23 8,qF 24 8 5,qG 25 9 24,qK 26 107 [25],o 27 (.build zL2 [(0,1,.t 22),(1,1,.t 23),(2,1,(i64 2)),(10,9,.t 26)]),o 28 (.call 84 [.t 21,.t 27] .share)]) (.seq (.aa [qM 29 0,qM 30 2,qM 31 3,qF 32 8 5,qG 33 9 32,qK 34 109 [33],o 35 (.build zL2 [(0,1,.t 30),(1,1,.t 31),(2,1,(i64 2)),(10,9,.t 34)]),o 36 (.call 84 [.t 29,.t 35] .share)]) (.aa [qM 37 0,qF 38 17 5,qL 39 38,qM 40 8,qM 41 2,o 42 (.call 62 [.t 37,.t 39,.t 40,.t 41] .share)]))))))⟩
def Kg:aq:=⟨4,38,[],(.seq (.aa [o 5 (.box (.t 1))]) (.seq (.aa [qF 11 19 5,qL 12 11,qN 13 12,qZ 14 0]) (.block 0 (.loop (.seq (.aa [qB 15 .lss 14 13]) (.seq (.cond (.t 15) .skip (.exit 0)) (.seq (.block 1 (.seq (.aa [qI 16 3 12 14,qG 17 3 16,o 9 (.alloc [zi,zi,.ak]),qO 3 9 17]) (.seq (.aa [qM 18 0,o 19 (.call 85 [.t 18] .share),qM 10 19]) (.seq (.aa [qM 20 0,qM 21 2,qM 22 10,qF 23 2 5,qL 24 23,qF 25 0 9,qL 26 25,qF 27 1 9,qL 28 27,o 29 (.build zL2 [(0,1,.t 21),(1,1,.t 22),(2,1,(i64 4)),(4,1,.t 24),(5,1,.t 26),(3,1,.t 28)]),o 30 (.call 84 [.t 20,.t 29] .share)]) (.aa [qM 31 0,qF 32 2 9,qL 33 32,qM 34 10,qM 35 3,o 36 (.call 62 [.t 31,.t 33,.t 34,.t 35] .share)]))))) (.aa [qC 37 .add 14 1,qM 14 37]))))))))⟩
def Kf:aq:=⟨3,49,[],(.seq (.aa [qM 8 1,qC 9 .add 8 1,qM 6 9]) (.block 0 (.loop (.seq (.seq (.aa [qM 10 6,qM 11 2,qB 12 .lss 10 11]) (.cond (.t 12) .skip (.exit 0))) (.seq (.block 1 (.seq (.aa [qM 15 6,qM 7 15]) (.block 2 (.loop (.seq (.seq (.aT [qM 16 7,qM 17 1,qB 18 .gtr 16 17,qM 19 18,qMT 20 19 0,qMT 21 19 7,qIT 22 19 1 20 21,qLT 23 19 22,qMT 24 19 0,qMT 25 19 7,qCT 26 19 .sub 25 1,qIT 27 19 1 24 26,qLT 28 19 27,qKT 29 19 118 [23,28],qQ 30 19 29] [[],[],[0,1],[0,1,2],(rg 4),(rg 4),(rg 6),(rg 7),(rg 4),(rg 4),[0,1,2,3,9],[0,1,2,3,8,9,10],[0,1,2,3,8,9,10,11],(rg 13),(rg 14)] []) (.cond (.t 30) .skip (.exit 2))) (.seq (.block 3 (.aT [qM 33 0,qM 34 7,qM 35 0,qM 36 7,qC 37 .sub 36 1,qM 38 0,qM 39 7,qC 40 .sub 39 1,qI 41 1 38 40,qL 42 41,qM 43 0,qM 44 7,qI 45 1 43 44,qL 46 45,qI 47 1 33 34,qO 1 47 42,qI 48 1 35 37,qO 1 48 46] [[],[],[],[],[3],[],[],[6],[5,6,7],[5,6,7,8],[],[],[10,11],[10,11,12],[0,1,5,6,7,8,9,10,11,12,13],[0,1,5,6,7,8,9,10,11,12,13,14],(rg 16),(rg 17)] [])) (.aa [qM 31 7,qC 32 .sub 31 1,qM 7 32]))))))) (.aa [qM 13 6,qC 14 .add 13 1,qM 6 14]))))))⟩
def Ke:aq:=⟨3,56,[],(.seq (.aa [qM 11 1,qM 6 11]) (.seq (.aa [qZ 7 0]) (.seq (.aa [qM 12 2,qM 13 1,qB 14 .sub 12 13,qM 8 14]) (.seq (.seq (.aa [qM 15 8,qC 16 .sub 15 1,qC 17 .quo 16 2,qM 9 17]) (.block 0 (.loop (.seq (.seq (.aa [qM 18 9,qC 19 .geq 18 0]) (.cond (.t 19) .skip (.exit 0))) (.seq (.block 1 (.aa [qM 22 0,qM 23 9,qM 24 8,qM 25 6,o 26 (.call 150 [.t 22,.t 23,.t 24,.t 25] .share)])) (.aa [qM 20 9,qC 21 .sub 20 1,qM 9 21])))))) (.seq (.aa [qM 27 8,qC 28 .sub 27 1,qM 10 28]) (.block 2 (.loop (.seq (.seq (.aa [qM 29 10,qC 30 .geq 29 0]) (.cond (.t 30) .skip (.exit 2))) (.seq (.block 3 (.seq (.aT [qM 33 0,qM 34 6,qM 35 0,qM 36 6,qM 37 10,qB 38 .add 36 37,qM 39 0,qM 40 6,qM 41 10,qB 42 .add 40 41,qI 43 1 39 42,qL 44 43,qM 45 0,qM 46 6,qI 47 1 45 46,qL 48 47,qI 49 1 33 34,qO 1 49 44,qI 50 1 35 38,qO 1 50 48] [[],[],[],[],[],[3,4],[],[],[],[7,8],[6,7,8,9],[6,7,8,9,10],[],[],[12,13],[12,13,14],[0,1,6,7,8,9,10,11,12,13,14,15],[0,1,6,7,8,9,10,11,12,13,14,15,16],(rg 18),(rg 19)] []) (.aa [qM 51 0,qM 52 7,qM 53 10,qM 54 6,o 55 (.call 150 [.t 51,.t 52,.t 53,.t 54] .share)]))) (.aa [qM 31 10,qC 32 .sub 31 1,qM 10 32]))))))))))⟩
def Kd:aq:=⟨3,65,[],(.seq (.aa [qM 11 2,qM 12 1,qB 13 .sub 11 12,qM 6 13]) (.seq (.aa [qM 14 6,qC 15 .geq 14 8]) (.cond (.t 15) (.seq (.aa [qM 16 6,o 17 (.conv .u64 (.t 16)),o 7 (.alloc [.int .u64 0]),qO 1 7 17]) (.seq (.aa [qM 18 6,qK 19 151 [18],qM 8 19]) (.seq (.aa [qM 20 1,qM 21 6,qC 22 .quo 21 4,qC 23 .mul 22 2,qB 24 .add 20 23,qC 25 .sub 24 1,qM 9 25]) (.block 0 (.loop (.seq (.seq (.aa [qM 26 9,qM 27 1,qM 28 6,qC 29 .quo 28 4,qC 30 .mul 29 2,qB 31 .add 27 30,qC 32 .add 31 1,qB 33 .leq 26 32]) (.cond (.t 33) .skip (.exit 0))) (.seq (.block 1 (.seq (.aa [o 36 (.call 152 [.t 7] .share),qM 37 8,o 38 (.bin .sub (.t 37) (.c (.int .u64 1))),qB 39 .and 36 38,o 40 (.conv .i64 (.t 39)),qM 10 40]) (.seq (.seq (.aa [qM 41 10,qM 42 6,qB 43 .geq 41 42]) (.cond (.t 43) (.aa [qM 44 10,qM 45 6,qB 46 .sub 44 45,qM 10 46]) .skip)) (.aT [qM 47 0,qM 48 9,qM 49 0,qM 50 1,qM 51 10,qB 52 .add 50 51,qM 53 0,qM 54 1,qM 55 10,qB 56 .add 54 55,qI 57 1 53 56,qL 58 57,qM 59 0,qM 60 9,qI 61 1 59 60,qL 62 61,qI 63 1 47 48,qO 1 63 58,qI 64 1 49 52,qO 1 64 62] [[],[],[],[],[],[3,4],[],[],[],[7,8],[6,7,8,9],[6,7,8,9,10],[],[],[12,13],[12,13,14],[0,1,6,7,8,9,10,11,12,13,14,15],[0,1,6,7,8,9,10,11,12,13,14,15,16],(rg 18),(rg 19)] [])))) (.aa [qM 34 9,qC 35 .add 34 1,qM 9 35])))))))) .skip)))⟩
def Kb:aq:=⟨3,57,[.tmp 6,.tmp 7],(.seq (.aa [qZ 6 0,qZ 7 0]) (.seq (.aa [qM 13 2,qM 14 1,qB 15 .sub 13 14,qM 8 15]) (.seq (.aa [o 9 (.alloc [zi])]) (.seq (.aa [qM 16 1,qM 17 8,qC 18 .quo 17 4,qC 19 .mul 18 1,qB 20 .add 16 19,qM 10 20]) (.seq (.aa [qM 21 1,qM 22 8,qC 23 .quo 22 4,qC 24 .mul 23 2,qB 25 .add 21 24,qM 11 25]) (.seq (.aa [qM 26 1,qM 27 8,qC 28 .quo 27 4,qC 29 .mul 28 3,qB 30 .add 26 29,qM 12 30]) (.seq (.seq (.aa [qM 31 8,qC 32 .geq 31 8]) (.cond (.t 32) (.seq (.seq (.aa [qM 33 8,qC 34 .geq 33 50]) (.cond (.t 34) (.seq (.aa [qM 35 0,qM 36 10,o 37 (.call 153 [.t 35,.t 36,.t 9] .share),qM 10 37]) (.seq (.aa [qM 38 0,qM 39 11,o 40 (.call 153 [.t 38,.t 39,.t 9] .share),qM 11 40]) (.aa [qM 41 0,qM 42 12,o 43 (.call 153 [.t 41,.t 42,.t 9] .share),qM 12 43]))) .skip)) (.aa [qM 44 0,qM 45 10,qM 46 11,qM 47 12,o 48 (.call 154 [.t 44,.t 45,.t 46,.t 47,.t 9] .share),qM 11 48])) .skip)) (.seq (.aa [qL 49 9]) (.block 0 (.seq (.aa [qC 52 .eql 49 0,qM 51 52]) (.cond (.t 51) (.seq (.aa [qM 53 11,qM 6 53,qZ 7 1]) .ret) (.seq (.aa [qC 55 .eql 49 12,qM 54 55]) (.cond (.t 54) (.seq (.aa [qM 56 11,qM 6 56,qZ 7 2]) .ret) (.seq (.aa [qM 50 11,qM 6 50,qZ 7 0]) .ret))))))))))))))⟩
def Ka:aq:=⟨3,32,[],(.seq (.aa [qM 8 1,qM 6 8]) (.seq (.aa [qM 9 2,qC 10 .sub 9 1,qM 7 10]) (.block 0 (.loop (.seq (.seq (.aa [qM 11 6,qM 12 7,qB 13 .lss 11 12]) (.cond (.t 13) .skip (.exit 0))) (.block 1 (.seq (.aT [qM 14 0,qM 15 6,qM 16 0,qM 17 7,qM 18 0,qM 19 7,qI 20 1 18 19,qL 21 20,qM 22 0,qM 23 6,qI 24 1 22 23,qL 25 24,qI 26 1 14 15,qO 1 26 21,qI 27 1 16 17,qO 1 27 25] [[],[],[],[],[],[],[4,5],[4,5,6],[],[],[8,9],[8,9,10],[0,1,4,5,6,7,8,9,10,11],[0,1,4,5,6,7,8,9,10,11,12],(rg 14),(rg 15)] []) (.seq (.aa [qM 28 6,qC 29 .add 28 1,qM 6 29]) (.aa [qM 30 7,qC 31 .sub 30 1,qM 7 31])))))))))⟩
def J_:aq:=⟨3,133,[.tmp 6],(.seq (.aa [qY 6 false]) (.seq (.aa [qM 11 1,qC 12 .add 11 1,qM 7 12]) (.seq (.seq (.aa [qZ 8 0]) (.block 0 (.loop (.seq (.seq (.aa [qM 13 8,qC 14 .lss 13 5]) (.cond (.t 14) .skip (.exit 0))) (.seq (.block 1 (.seq (.block 2 (.loop (.seq (.seq (.aT [qM 17 7,qM 18 2,qB 19 .lss 17 18,qM 20 19,qMT 21 20 0,qMT 22 20 7,qIT 23 20 1 21 22,qLT 24 20 23,qMT 25 20 0,qMT 26 20 7,qCT 27 20 .sub 26 1,qIT 28 20 1 25 27,qLT 29 20 28,qKT 30 20 118 [24,29],qUT 31 20 30,qQ 32 20 31] [[],[],[0,1],[0,1,2],(rg 4),(rg 4),(rg 6),(rg 7),(rg 4),(rg 4),[0,1,2,3,9],[0,1,2,3,8,9,10],[0,1,2,3,8,9,10,11],(rg 13),(rg 14),(rg 15)] []) (.cond (.t 32) .skip (.exit 2))) (.block 3 (.aa [qM 33 7,qC 34 .add 33 1,qM 7 34]))))) (.seq (.seq (.aa [qM 35 7,qM 36 2,qB 37 .eql 35 36]) (.cond (.t 37) (.seq (.aa [qY 6 true]) .ret) .skip)) (.seq (.seq (.aa [qM 38 2,qM 39 1,qB 40 .sub 38 39,qC 41 .lss 40 50]) (.cond (.t 41) (.seq (.aa [qY 6 false]) .ret) .skip)) (.seq (.aT [qM 42 0,qM 43 7,qM 44 0,qM 45 7,qC 46 .sub 45 1,qM 47 0,qM 48 7,qC 49 .sub 48 1,qI 50 1 47 49,qL 51 50,qM 52 0,qM 53 7,qI 54 1 52 53,qL 55 54,qI 56 1 42 43,qO 1 56 51,qI 57 1 44 46,qO 1 57 55] [[],[],[],[],[3],[],[],[6],[5,6,7],[5,6,7,8],[],[],[10,11],[10,11,12],[0,1,5,6,7,8,9,10,11,12,13],[0,1,5,6,7,8,9,10,11,12,13,14],(rg 16),(rg 17)] []) (.seq (.seq (.aa [qM 58 7,qM 59 1,qB 60 .sub 58 59,qC 61 .geq 60 2]) (.cond (.t 61) (.seq (.aa [qM 62 7,qC 63 .sub 62 1,qM 9 63]) (.block 4 (.loop (.seq (.seq (.aa [qM 64 9,qC 65 .geq 64 1]) (.cond (.t 65) .skip (.exit 4))) (.seq (.block 5 (.seq (.seq (.aT [qM 68 0,qM 69 9,qI 70 1 68 69,qL 71 70,qM 72 0,qM 73 9,qC 74 .sub 73 1,qI 75 1 72 74,qL 76 75,qK 77 118 [71,76],qU 78 77] [[],[],[0,1],[0,1,2],[],[],[5],[4,5,6],[4,5,6,7],(rg 9),(rg 10)] []) (.cond (.t 78) (.exit 4) .skip)) (.aT [qM 79 0,qM 80 9,qM 81 0,qM 82 9,qC 83 .sub 82 1,qM 84 0,qM 85 9,qC 86 .sub 85 1,qI 87 1 84 86,qL 88 87,qM 89 0,qM 90 9,qI 91 1 89 90,qL 92 91,qI 93 1 79 80,qO 1 93 88,qI 94 1 81 83,qO 1 94 92] [[],[],[],[],[3],[],[],[6],[5,6,7],[5,6,7,8],[],[],[10,11],[10,11,12],[0,1,5,6,7,8,9,10,11,12,13],[0,1,5,6,7,8,9,10,11,12,13,14],(rg 16),(rg 17)] []))) (.aa [qM 66 9,qC 67 .sub 66 1,qM 9 67])))))) .skip)) (.seq (.aa [qM 95 2,qM 96 7,qB 97 .sub 95 96,qC 98 .geq 97 2]) (.cond (.t 98) (.seq (.aa [qM 99 7,qC 100 .add 99 1,qM 10 100]) (.block 6 (.loop (.seq (.seq (.aa [qM 101 10,qM 102 2,qB 103 .lss 101 102]) (.cond (.t 103) .skip (.exit 6))) (.seq (.block 7 (.seq (.seq (.aT [qM 106 0,qM 107 10,qI 108 1 106 107,qL 109 108,qM 110 0,qM 111 10,qC 112 .sub 111 1,qI 113 1 110 112,qL 114 113,qK 115 118 [109,114],qU 116 115] [[],[],[0,1],[0,1,2],[],[],[5],[4,5,6],[4,5,6,7],(rg 9),(rg 10)] []) (.cond (.t 116) (.exit 6) .skip)) (.aT [qM 117 0,qM 118 10,qM 119 0,qM 120 10,qC 121 .sub 120 1,qM 122 0,qM 123 10,qC 124 .sub 123 1,qI 125 1 122 124,qL 126 125,qM 127 0,qM 128 10,qI 129 1 127 128,qL 130 129,qI 131 1 117 118,qO 1 131 126,qI 132 1 119 121,qO 1 132 130] [[],[],[],[],[3],[],[],[6],[5,6,7],[5,6,7,8],[],[],[10,11],[10,11,12],[0,1,5,6,7,8,9,10,11,12,13],[0,1,5,6,7,8,9,10,11,12,13,14],(rg 16),(rg 17)] []))) (.aa [qM 104 10,qC 105 .add 104 1,qM 10 105])))))) .skip)))))))) (.aa [qM 15 8,qC 16 .add 15 1,qM 8 16])))))) (.seq (.aa [qY 6 false]) .ret))))⟩
def J9:aq:=⟨2,17,[.tmp 4],(.seq (.aa [qY 4 false]) (.seq (.aa [qM 5 0,qK 6 155 [5],qM 7 6,qMT 8 7 1,qKT 9 7 155 [8],qUT 10 7 9,qQ 11 7 10,qM 12 11,qMF 13 12 0,qMF 14 12 1,qBF 15 12 .lss 13 14,qP 16 12 15,qM 4 16]) .ret))⟩
def J8:aq:=⟨4,84,[.tmp 8],(.seq (.aa [qZ 8 0]) (.seq (.aT [qM 11 0,qM 12 1,qM 13 0,qM 14 3,qM 15 0,qM 16 3,qI 17 1 15 16,qL 18 17,qM 19 0,qM 20 1,qI 21 1 19 20,qL 22 21,qI 23 1 11 12,qO 1 23 18,qI 24 1 13 14,qO 1 24 22] [[],[],[],[],[],[],[4,5],[4,5,6],[],[],[8,9],[8,9,10],[0,1,4,5,6,7,8,9,10,11],[0,1,4,5,6,7,8,9,10,11,12],(rg 14),(rg 15)] []) (.seq (.aa [qM 25 1,qC 26 .add 25 1,qM 27 2,qC 28 .sub 27 1,qM 9 26,qM 10 28]) (.seq (.block 0 (.loop (.block 1 (.seq (.block 2 (.loop (.seq (.seq (.aT [qM 29 9,qM 30 10,qB 31 .leq 29 30,qM 32 31,qMT 33 32 0,qMT 34 32 1,qIT 35 32 1 33 34,qLT 36 32 35,qMT 37 32 0,qMT 38 32 9,qIT 39 32 1 37 38,qLT 40 32 39,qKT 41 32 118 [36,40],qUT 42 32 41,qQ 43 32 42] [[],[],[0,1],[0,1,2],(rg 4),(rg 4),(rg 6),(rg 7),(rg 4),(rg 4),[0,1,2,3,8,9],[0,1,2,3,8,9,10],(rg 12),(rg 13),(rg 14)] []) (.cond (.t 43) .skip (.exit 2))) (.block 3 (.aa [qM 44 9,qC 45 .add 44 1,qM 9 45]))))) (.seq (.block 4 (.loop (.seq (.seq (.aT [qM 46 9,qM 47 10,qB 48 .leq 46 47,qM 49 48,qMT 50 49 0,qMT 51 49 1,qIT 52 49 1 50 51,qLT 53 49 52,qMT 54 49 0,qMT 55 49 10,qIT 56 49 1 54 55,qLT 57 49 56,qKT 58 49 118 [53,57],qQ 59 49 58] [[],[],[0,1],[0,1,2],(rg 4),(rg 4),(rg 6),(rg 7),(rg 4),(rg 4),[0,1,2,3,8,9],[0,1,2,3,8,9,10],(rg 12),(rg 13)] []) (.cond (.t 59) .skip (.exit 4))) (.block 5 (.aa [qM 60 10,qC 61 .sub 60 1,qM 10 61]))))) (.seq (.seq (.aa [qM 62 9,qM 63 10,qB 64 .gtr 62 63]) (.cond (.t 64) (.exit 0) .skip)) (.seq (.aT [qM 65 0,qM 66 9,qM 67 0,qM 68 10,qM 69 0,qM 70 10,qI 71 1 69 70,qL 72 71,qM 73 0,qM 74 9,qI 75 1 73 74,qL 76 75,qI 77 1 65 66,qO 1 77 72,qI 78 1 67 68,qO 1 78 76] [[],[],[],[],[],[],[4,5],[4,5,6],[],[],[8,9],[8,9,10],[0,1,4,5,6,7,8,9,10,11],[0,1,4,5,6,7,8,9,10,11,12],(rg 14),(rg 15)] []) (.seq (.aa [qM 79 9,qC 80 .add 79 1,qM 9 80]) (.aa [qM 81 10,qC 82 .sub 81 1,qM 10 82]))))))))) (.seq (.aa [qM 83 9,qM 8 83]) .ret)))))⟩
def J7:aq:=⟨4,168,[.tmp 8,.tmp 9],(.seq (.aa [qZ 8 0,qY 9 false]) (.seq (.aT [qM 12 0,qM 13 1,qM 14 0,qM 15 3,qM 16 0,qM 17 3,qI 18 1 16 17,qL 19 18,qM 20 0,qM 21 1,qI 22 1 20 21,qL 23 22,qI 24 1 12 13,qO 1 24 19,qI 25 1 14 15,qO 1 25 23] [[],[],[],[],[],[],[4,5],[4,5,6],[],[],[8,9],[8,9,10],[0,1,4,5,6,7,8,9,10,11],[0,1,4,5,6,7,8,9,10,11,12],(rg 14),(rg 15)] []) (.seq (.aa [qM 26 1,qC 27 .add 26 1,qM 28 2,qC 29 .sub 28 1,qM 10 27,qM 11 29]) (.seq (.block 0 (.loop (.seq (.seq (.aT [qM 30 10,qM 31 11,qB 32 .leq 30 31,qM 33 32,qMT 34 33 0,qMT 35 33 10,qIT 36 33 1 34 35,qLT 37 33 36,qMT 38 33 0,qMT 39 33 1,qIT 40 33 1 38 39,qLT 41 33 40,qKT 42 33 118 [37,41],qQ 43 33 42] [[],[],[0,1],[0,1,2],(rg 4),(rg 4),(rg 6),(rg 7),(rg 4),(rg 4),[0,1,2,3,8,9],[0,1,2,3,8,9,10],(rg 12),(rg 13)] []) (.cond (.t 43) .skip (.exit 0))) (.block 1 (.aa [qM 44 10,qC 45 .add 44 1,qM 10 45]))))) (.seq (.block 2 (.loop (.seq (.seq (.aT [qM 46 10,qM 47 11,qB 48 .leq 46 47,qM 49 48,qMT 50 49 0,qMT 51 49 11,qIT 52 49 1 50 51,qLT 53 49 52,qMT 54 49 0,qMT 55 49 1,qIT 56 49 1 54 55,qLT 57 49 56,qKT 58 49 118 [53,57],qUT 59 49 58,qQ 60 49 59] [[],[],[0,1],[0,1,2],(rg 4),(rg 4),(rg 6),(rg 7),(rg 4),(rg 4),[0,1,2,3,8,9],[0,1,2,3,8,9,10],(rg 12),(rg 13),(rg 14)] []) (.cond (.t 60) .skip (.exit 2))) (.block 3 (.aa [qM 61 11,qC 62 .sub 61 1,qM 11 62]))))) (.seq (.seq (.aa [qM 63 10,qM 64 11,qB 65 .gtr 63 64]) (.cond (.t 65) (.seq (.aT [qM 66 0,qM 67 11,qM 68 0,qM 69 1,qM 70 0,qM 71 1,qI 72 1 70 71,qL 73 72,qM 74 0,qM 75 11,qI 76 1 74 75,qL 77 76,qI 78 1 66 67,qO 1 78 73,qI 79 1 68 69,qO 1 79 77] [[],[],[],[],[],[],[4,5],[4,5,6],[],[],[8,9],[8,9,10],[0,1,4,5,6,7,8,9,10,11],[0,1,4,5,6,7,8,9,10,11,12],(rg 14),(rg 15)] []) (.seq (.aa [qM 80 11,qM 8 80,qY 9 true]) .ret)) .skip)) (.seq (.aT [qM 81 0,qM 82 10,qM 83 0,qM 84 11,qM 85 0,qM 86 11,qI 87 1 85 86,qL 88 87,qM 89 0,qM 90 10,qI 91 1 89 90,qL 92 91,qI 93 1 81 82,qO 1 93 88,qI 94 1 83 84,qO 1 94 92] [[],[],[],[],[],[],[4,5],[4,5,6],[],[],[8,9],[8,9,10],[0,1,4,5,6,7,8,9,10,11],[0,1,4,5,6,7,8,9,10,11,12],(rg 14),(rg 15)] []) (.seq (.aa [qM 95 10,qC 96 .add 95 1,qM 10 96]) (.seq (.aa [qM 97 11,qC 98 .sub 97 1,qM 11 98]) (.seq (.block 4 (.loop (.block 5 (.seq (.block 6 (.loop (.seq (.seq (.aT [qM 99 10,qM 100 11,qB 101 .leq 99 100,qM 102 101,qMT 103 102 0,qMT 104 102 10,qIT 105 102 1 103 104,qLT 106 102 105,qMT 107 102 0,qMT 108 102 1,qIT 109 102 1 107 108,qLT 110 102 109,qKT 111 102 118 [106,110],qQ 112 102 111] [[],[],[0,1],[0,1,2],(rg 4),(rg 4),(rg 6),(rg 7),(rg 4),(rg 4),[0,1,2,3,8,9],[0,1,2,3,8,9,10],(rg 12),(rg 13)] []) (.cond (.t 112) .skip (.exit 6))) (.block 7 (.aa [qM 113 10,qC 114 .add 113 1,qM 10 114]))))) (.seq (.block 8 (.loop (.seq (.seq (.aT [qM 115 10,qM 116 11,qB 117 .leq 115 116,qM 118 117,qMT 119 118 0,qMT 120 118 11,qIT 121 118 1 119 120,qLT 122 118 121,qMT 123 118 0,qMT 124 118 1,qIT 125 118 1 123 124,qLT 126 118 125,qKT 127 118 118 [122,126],qUT 128 118 127,qQ 129 118 128] [[],[],[0,1],[0,1,2],(rg 4),(rg 4),(rg 6),(rg 7),(rg 4),(rg 4),[0,1,2,3,8,9],[0,1,2,3,8,9,10],(rg 12),(rg 13),(rg 14)] []) (.cond (.t 129) .skip (.exit 8))) (.block 9 (.aa [qM 130 11,qC 131 .sub 130 1,qM 11 131]))))) (.seq (.seq (.aa [qM 132 10,qM 133 11,qB 134 .gtr 132 133]) (.cond (.t 134) (.exit 4) .skip)) (.seq (.aT [qM 135 0,qM 136 10,qM 137 0,qM 138 11,qM 139 0,qM 140 11,qI 141 1 139 140,qL 142 141,qM 143 0,qM 144 10,qI 145 1 143 144,qL 146 145,qI 147 1 135 136,qO 1 147 142,qI 148 1 137 138,qO 1 148 146] [[],[],[],[],[],[],[4,5],[4,5,6],[],[],[8,9],[8,9,10],[0,1,4,5,6,7,8,9,10,11],[0,1,4,5,6,7,8,9,10,11,12],(rg 14),(rg 15)] []) (.seq (.aa [qM 149 10,qC 150 .add 149 1,qM 10 150]) (.aa [qM 151 11,qC 152 .sub 151 1,qM 11 152]))))))))) (.seq (.aT [qM 153 0,qM 154 11,qM 155 0,qM 156 1,qM 157 0,qM 158 1,qI 159 1 157 158,qL 160 159,qM 161 0,qM 162 11,qI 163 1 161 162,qL 164 163,qI 165 1 153 154,qO 1 165 160,qI 166 1 155 156,qO 1 166 164] [[],[],[],[],[],[],[4,5],[4,5,6],[],[],[8,9],[8,9,10],[0,1,4,5,6,7,8,9,10,11],[0,1,4,5,6,7,8,9,10,11,12],(rg 14),(rg 15)] []) (.seq (.aa [qM 167 11,qM 8 167,qY 9 false]) .ret))))))))))))⟩
def J6:aq:=⟨1,19,[.tmp 2],(.seq (.aa [qZ 2 0]) (.seq (.seq (.aa [qM 3 0,o 4 (.bin .geq (.t 3) (.c (.int .u32 65536)))]) (.cond (.t 4) (.seq (.aa [qM 5 0,o 6 (.bin .shr (.t 5) (.c (.int .u64 16))),qM 0 6]) (.aa [qZ 2 16])) .skip)) (.seq (.seq (.aa [qM 7 0,o 8 (.bin .geq (.t 7) (.c (.int .u32 256)))]) (.cond (.t 8) (.seq (.aa [qM 9 0,o 10 (.bin .shr (.t 9) (.c (.int .u64 8))),qM 0 10]) (.aa [qM 11 2,qC 12 .add 11 8,qM 2 12])) .skip)) (.seq (.aa [qM 13 2,qM 14 0,o 15 (.conv .u8 (.t 14)),o 16 (.idx (.c (.str tB0)) (.t 15)),o 17 (.conv .i64 (.t 16)),qB 18 .add 13 17,qM 2 18]) .ret))))⟩
def J5:aq:=⟨1,25,[.tmp 2],(.seq (.aa [qZ 2 0]) (.seq (.seq (.aa [qM 3 0,o 4 (.bin .geq (.t 3) (.c (.int .u64 4294967296)))]) (.cond (.t 4) (.seq (.aa [qM 5 0,o 6 (.bin .shr (.t 5) (.c (.int .u64 32))),qM 0 6]) (.aa [qZ 2 32])) .skip)) (.seq (.seq (.aa [qM 7 0,o 8 (.bin .geq (.t 7) (.c (.int .u64 65536)))]) (.cond (.t 8) (.seq (.aa [qM 9 0,o 10 (.bin .shr (.t 9) (.c (.int .u64 16))),qM 0 10]) (.aa [qM 11 2,qC 12 .add 11 16,qM 2 12])) .skip)) (.seq (.seq (.aa [qM 13 0,o 14 (.bin .geq (.t 13) (.c (.int .u64 256)))]) (.cond (.t 14) (.seq (.aa [qM 15 0,o 16 (.bin .shr (.t 15) (.c (.int .u64 8))),qM 0 16]) (.aa [qM 17 2,qC 18 .add 17 8,qM 2 18])) .skip)) (.seq (.aa [qM 19 2,qM 20 0,o 21 (.conv .u8 (.t 20)),o 22 (.idx (.c (.str tB0)) (.t 21)),o 23 (.conv .i64 (.t 22)),qB 24 .add 19 23,qM 2 24]) .ret)))))⟩
def ta:aq:=⟨1,46,[.cell 2 (some 4),.tmp 3],(.seq (.aa [o 2 (.alloc [.bool false,zi,zi,zi]),qY 3 false]) (.seq (.aT [qM 7 0,qX 8 7,qF 9 14 8,qF 10 6 9,qG 11 4 10,qM 12 0,qX 13 12,qF 14 33 13,qL 15 14,qK 16 35 [11,15],qM 6 16,qE 17 0 6,qE 18 1 6,qM 4 17,qM 5 18] [[],[0],[0,1],[0,1,2],(rg 4),[],[5],[5,6],[5,6,7],(rg 9),(rg 10),(rg 11),(rg 11),(rg 12),(rg 14)] []) (.seq (.seq (.aa [qM 19 5,qC 20 .neq 19 0]) (.cond (.t 20) (.seq (.aa [qM 21 0,qM 22 5,o 23 (.call 161 [.t 21,.t 22] .share),qE 24 0 23,qE 25 1 23,qO 4 2 24,qM 3 25]) .ret) .skip)) (.seq (.aT [qM 26 0,qX 27 26,qF 28 33 27,qL 29 28,qM 30 0,qX 31 30,qF 32 14 31,qF 33 3 32,qL 34 33,qM 35 4,qI 36 1 29 34,qO 1 36 35] [[],[0],[0,1],[0,1,2],[],[4],[4,5],[4,5,6],[4,5,6,7],[],(rg 10),(rg 11)] []) (.seq (.aa [qM 37 0,qM 38 0,qX 39 38,qF 40 14 39,qF 41 1 40,qL 42 41,o 43 (.call 135 [.t 37,.t 42] .share),qE 44 0 43,qE 45 1 43,qO 4 2 44,qM 3 45]) .ret)))))⟩
def J4:aq:=⟨1,56,[.cell 2 (some 4),.tmp 3],(.seq (.aa [o 2 (.alloc [.bool false,zi,zi,zi]),qY 3 false]) (.seq (.aT [qM 7 0,qX 8 7,qF 9 14 8,qF 10 10 9,qG 11 9 10,qM 12 0,qX 13 12,qF 14 33 13,qL 15 14,qK 16 39 [11,15],qM 6 16,qE 17 0 6,qE 18 1 6,qM 4 17,qM 5 18] [[],[0],[0,1],[0,1,2],(rg 4),[],[5],[5,6],[5,6,7],(rg 9),(rg 10),(rg 11),(rg 11),(rg 12),(rg 14)] []) (.seq (.block 0 (.seq (.aa [qM 20 5,qC 21 .neq 20 0,qM 19 21]) (.cond (.t 19) (.seq (.aa [qM 22 0,qM 23 5,o 24 (.call 161 [.t 22,.t 23] .share),qE 25 0 24,qE 26 1 24,qO 4 2 25,qM 3 26]) .ret) (.seq (.aa [qM 28 4,qM 27 28]) (.cond (.t 27) (.seq (.aa [qM 29 0,qM 30 0,qX 31 30,qF 32 14 31,qF 33 1 32,qL 34 33,o 35 (.call 135 [.t 29,.t 34] .share),qE 36 0 35,qE 37 1 35,qO 4 2 36,qM 3 37]) .ret) .skip))))) (.seq (.aT [qM 38 0,qM 39 0,qX 40 39,qF 41 10 40,qF 42 1 41,qL 43 42,qM 44 0,qX 45 44,qF 46 13 45,qL 47 46,o 48 (.bQ 1 (.t 47) (i64 1)),qL 49 48,qI 50 19 43 49,qF 51 1 50,qL 52 51,o 53 (.call 135 [.t 38,.t 52] .share),qE 54 0 53,qE 55 1 53,qO 4 2 54,qM 3 55] [[],[],[1],[1,2],[1,2,3],[1,2,3,4],[],[6],[6,7],[6,7,8],[6,7,8,9],[6,7,8,9,10],[1,2,3,4,5,6,7,8,9,10,11],[1,2,3,4,5,6,7,8,9,10,11,12],[1,2,3,4,5,6,7,8,9,10,11,12,13],(rg 15),(rg 16),(rg 16),(rg 18),(rg 19)] []) .ret))))⟩
def J3:aq:=⟨1,43,[.cell 2 (some 4),.tmp 3],(.seq (.aa [o 2 (.alloc [.bool false,zi,zi,zi]),qY 3 false]) (.seq (.aT [qM 7 0,qX 8 7,qF 9 14 8,qF 10 10 9,qG 11 9 10,qM 12 0,qX 13 12,qF 14 33 13,qL 15 14,qK 16 39 [11,15],qM 6 16,qE 17 0 6,qE 18 1 6,qM 4 17,qM 5 18] [[],[0],[0,1],[0,1,2],(rg 4),[],[5],[5,6],[5,6,7],(rg 9),(rg 10),(rg 11),(rg 11),(rg 12),(rg 14)] []) (.seq (.block 0 (.seq (.aa [qM 20 5,qC 21 .neq 20 0,qM 19 21]) (.cond (.t 19) (.seq (.aa [qM 22 0,qM 23 5,o 24 (.call 161 [.t 22,.t 23] .share),qE 25 0 24,qE 26 1 24,qO 4 2 25,qM 3 26]) .ret) (.seq (.aa [qM 28 4,qU 29 28,qM 27 29]) (.cond (.t 27) (.seq (.aa [qM 30 0,o 31 (.call 161 [.t 30,(i64 1)] .share),qE 32 0 31,qE 33 1 31,qO 4 2 32,qM 3 33]) .ret) .skip))))) (.seq (.aa [qM 34 0,qM 35 0,qX 36 35,qF 37 14 36,qF 38 1 37,qL 39 38,o 40 (.call 135 [.t 34,.t 39] .share),qE 41 0 40,qE 42 1 40,qO 4 2 41,qM 3 42]) .ret))))⟩
def J2:aq:=⟨1,163,[.cell 2 (some 4),.tmp 3],(.seq (.aa [o 2 (.alloc [.bool false,zi,zi,zi]),qY 3 false]) (.seq (.aT [qM 10 0,qX 11 10,qF 12 0 11,qF 13 0 12,qL 14 13,qM 15 0,qX 16 15,qF 17 14 16,qF 18 4 17,qL 19 18,qI 20 6 14 19,qG 21 6 20,o 4 (.alloc zL5),qO 6 4 21] [[],[0],[0,1],[0,1,2],(rg 4),[],[5],[5,6],[5,6,7],[5,6,7,8],(rg 10),(rg 11),[],(rg 13)] []) (.seq (.aT [qM 22 0,qX 23 22,qF 24 3 23,qF 25 2 24,qL 26 25,qM 27 0,qX 28 27,qF 29 14 28,qF 30 4 29,qL 31 30,qI 32 1 26 31,qM 5 32] [[],[0],[0,1],[0,1,2],(rg 4),[],[5],[5,6],[5,6,7],[5,6,7,8],(rg 10),(rg 11)] []) (.seq (.aT [qM 33 5,qX 34 33,qL 35 34,qN 36 35,qF 37 1 4,qL 38 37,qB 39 .eql 36 38,qM 6 39] [[],[0],[0,1],[0,1,2],[],[4],(rg 6),(rg 7)] []) (.seq (.seq (.aa [qM 40 6,qM 41 40,qFT 42 41 0 4,qLT 43 41 42,qCT 44 41 .eql 43 0,qQ 45 41 44]) (.cond (.t 45) (.seq (.aa [o 46 (.build [.bool false,zi,zi,zi] []),qO 4 2 46,qY 3 false]) .ret) .skip)) (.seq (.aT [qM 48 0,qX 49 48,qF 50 14 49,qF 51 6 50,qG 52 4 51,qM 53 0,qX 54 53,qF 55 33 54,qL 56 55,qK 57 35 [52,56],qM 47 57,qE 58 0 47,qE 59 1 47,qM 7 58,qM 8 59] [[],[0],[0,1],[0,1,2],(rg 4),[],[5],[5,6],[5,6,7],(rg 9),(rg 10),(rg 11),(rg 11),(rg 12),(rg 14)] []) (.seq (.seq (.aa [qM 60 8,qC 61 .neq 60 0]) (.cond (.t 61) (.seq (.aa [qM 62 0,qM 63 8,o 64 (.call 161 [.t 62,.t 63] .share),qE 65 0 64,qE 66 1 64,qO 4 2 65,qM 3 66]) .ret) .skip)) (.seq (.aT [qM 67 0,qX 68 67,qF 69 3 68,qF 70 3 69,qL 71 70,qM 72 0,qX 73 72,qF 74 14 73,qF 75 4 74,qL 76 75,qI 77 1 71 76,qL 78 77,qM 9 78] [[],[0],[0,1],[0,1,2],(rg 4),[],[5],[5,6],[5,6,7],[5,6,7,8],(rg 10),(rg 11),(rg 12)] []) (.seq (.seq (.aa [qF 79 5 4,qL 80 79,qN 81 80,qC 82 .gtr 81 0]) (.cond (.t 82) (.aT [qF 83 5 4,qL 84 83,qM 85 9,qI 86 1 84 85,qL 87 86,qM 88 0,qX 89 88,qF 90 14 89,qF 91 5 90,qL 92 91,qI 93 1 87 92,qL 94 93,qM 9 94] [[],[0],[],[0,1,2],(rg 4),[],[5],[5,6],[5,6,7],[5,6,7,8],(rg 10),(rg 11),(rg 12)] []) .skip)) (.seq (.block 0 (.seq (.aa [qM 96 9,qC 97 .lss 96 0,qM 95 97]) (.cond (.t 95) (.seq (.aa [qM 98 0,o 99 (.call 161 [.t 98,(i64 6)] .share),qE 100 0 99,qE 101 1 99,qO 4 2 100,qM 3 101]) .ret) (.seq (.aa [qM 103 6,qM 104 103,qFT 105 104 0 4,qLT 106 104 105,qCT 107 104 .eql 106 1,qQ 108 104 107,qM 102 108]) (.cond (.t 102) (.seq (.aa [qM 109 0,o 110 (.call 161 [.t 109,(i64 4)] .share),qE 111 0 110,qE 112 1 110,qO 4 2 111,qM 3 112]) .ret) .skip))))) (.seq (.aT [qM 113 0,qX 114 113,qF 115 3 114,qF 116 3 115,qL 117 116,qM 118 0,qX 119 118,qF 120 14 119,qF 121 4 120,qL 122 121,qM 123 9,qI 124 1 117 122,qO 1 124 123] [[],[0],[0,1],[0,1,2],(rg 4),[],[5],[5,6],[5,6,7],[5,6,7,8],[],(rg 11),(rg 12)] []) (.seq (.seq (.aa [qM 125 6,qU 126 125,qM 127 126,qFT 128 127 0 4,qLT 129 127 128,qCT 130 127 .neq 129 2,qMT 131 127 130,qMF 132 131 0,qXF 133 131 132,qFF 134 131 7 133,qFF 135 131 1 134,qLF 136 131 135,qUF 137 131 136,qPT 138 127 131 137,qQ 139 127 138]) (.cond (.t 139) (.aT [qM 140 5,qM 141 5,qX 142 141,qL 143 142,qM 144 0,qX 145 144,qF 146 14 145,qF 147 5 146,qL 148 147,qM 149 7,o 150 (.build [zi,zi] [(0,1,.t 148),(1,1,.t 149)]),o 151 (.aQ 1 [zi,zi] [(0,2,.t 150)]),qA 152 2 16 143 151,qX 153 140,qO 1 153 152] [[],[],[1],[1,2],[],[4],[4,5],[4,5,6],[4,5,6,7],[],[4,5,6,7,8,9],[4,5,6,7,8,9,10],[1,2,3,4,5,6,7,8,9,10,11],(rg 13),(rg 14)] []) .skip)) (.seq (.aa [qM 154 0,qM 155 0,qX 156 155,qF 157 14 156,qF 158 1 157,qL 159 158,o 160 (.call 135 [.t 154,.t 159] .share),qE 161 0 160,qE 162 1 160,qO 4 2 161,qM 3 162]) .ret)))))))))))))⟩
def J1:aq:=⟨1,79,[.cell 2 (some 4),.tmp 3],(.seq (.aa [o 2 (.alloc [.bool false,zi,zi,zi]),qY 3 false]) (.seq (.aT [qM 9 0,qX 10 9,qF 11 3 10,qF 12 2 11,qL 13 12,qM 14 0,qX 15 14,qF 16 14 15,qF 17 4 16,qL 18 17,qI 19 1 13 18,qM 4 19] [[],[0],[0,1],[0,1,2],(rg 4),[],[5],[5,6],[5,6,7],[5,6,7,8],(rg 10),(rg 11)] []) (.seq (.seq (.aa [qM 20 4,qX 21 20,qL 22 21,qN 23 22,qC 24 .eql 23 0]) (.cond (.t 24) (.seq (.aa [o 25 (.build [.bool false,zi,zi,zi] []),qO 4 2 25,qY 3 false]) .ret) .skip)) (.seq (.aa [qM 26 4,qX 27 26,qL 28 27,o 29 (.bQ 2 (.t 28) (i64 0)),qG 30 2 29,o 5 (.alloc [zi,zi]),qO 2 5 30]) (.seq (.seq (.aa [qM 31 0,qX 32 31,qF 33 13 32,qL 34 33,qN 35 34,qZ 36 0]) (.block 0 (.loop (.seq (.aa [qB 37 .lss 36 35]) (.seq (.cond (.t 37) .skip (.exit 0)) (.seq (.block 1 (.seq (.aa [qI 38 1 34 36,qL 39 38,qM 7 39]) (.seq (.aa [qM 40 0,qX 41 40,qF 42 10 41,qF 43 1 42,qL 44 43,qM 45 7,qI 46 19 44 45,qG 47 19 46,o 8 (.alloc zL2),qO 19 8 47]) (.seq (.aa [qF 48 5 8,qL 49 48,qF 50 0 5,qL 51 50,qB 52 .eql 49 51]) (.cond (.t 52) (.seq (.aT [qM 53 0,qX 54 53,qF 55 33 54,qL 56 55,qF 57 3 8,qL 58 57,qF 59 1 5,qL 60 59,qI 61 1 56 58,qO 1 61 60] [[],[0],[0,1],[0,1,2],[],[4],[],[6],(rg 8),(rg 9)] []) (.seq (.aa [qM 62 4,qM 63 4,qX 64 63,qL 65 64,o 66 (.call 162 [.t 65,(i64 0),(i64 1)] .share),qX 67 62,qO 1 67 66]) (.seq (.aa [qM 68 0,qF 69 1 8,qL 70 69,o 71 (.call 135 [.t 68,.t 70] .share),qE 72 0 71,qE 73 1 71,qO 4 2 72,qM 3 73]) .ret))) .skip))))) (.aa [qC 74 .add 36 1,qM 36 74]))))))) (.seq (.aa [qM 75 0,o 76 (.call 161 [.t 75,(i64 5)] .share),qE 77 0 76,qE 78 1 76,qO 4 2 77,qM 3 78]) .ret))))))⟩
def J0:aq:=⟨2,19,[.cell 4 (some 4),.tmp 5],(.seq (.aa [o 4 (.alloc [.bool false,zi,zi,zi]),qY 5 false]) (.seq (.aT [qM 6 0,qX 7 6,qF 8 3 7,qF 9 0 8,qL 10 9,qM 11 0,qX 12 11,qF 13 7 12,qF 14 0 13,qL 15 14,qM 16 1,qI 17 1 10 15,qO 1 17 16] [[],[0],[0,1],[0,1,2],(rg 4),[],[5],[5,6],[5,6,7],[5,6,7,8],[],(rg 11),(rg 12)] []) (.seq (.aa [o 18 (.build [.bool false,zi,zi,zi] [(0,1,(.c (.bool true)))]),qO 4 4 18,qY 5 true]) .ret)))⟩
def JZ:aq:=⟨1,32,[.tmp 2,.tmp 3],(.seq (.aa [o 1 (.box (.t 0)),o 2 (.mv (.c (.ak))),qY 3 false]) (.seq (.seq (.aa [qF 7 2 1,qL 8 7,qC 9 .eql 8 0]) (.cond (.t 9) (.seq (.aa [qF 10 4 1,qL 11 10,qF 12 5 1,qL 13 12,qF 14 6 1,qG 15 4 14,qF 16 10 1,qG 17 9 16,o 18 (.build zL1 [(0,1,(i64 7)),(2,1,.t 11),(3,1,.t 13),(4,4,.t 15),(8,9,.t 17)]),o 4 (.alloc zL1),qO 20 4 18]) (.seq (.aT [qG 19 20 4,oZ 20 (.aQ 1 zL1 [(0,20,.t 19)]),qF 21 3 1,qL 22 21,qC 23 .eql 22 0,qM 2 20,qM 3 23] [[],[0],[],[2],[2,3],[0,1],(rg 6)] [(1,3)]) .ret)) .skip)) (.seq (.aa [qG 25 19 1,qK 26 163 [25],qM 24 26,qE 27 0 24,qE 28 1 24,o 5 (.alloc zL1),qO 20 5 27,qM 6 28]) (.seq (.aa [qG 29 20 5,oZ 30 (.aQ 1 zL1 [(0,20,.t 29)]),qM 31 6,qM 2 30,qM 3 31]) .ret))))⟩
def JY:aq:=⟨1,8,[.tmp 2],(.seq (.aa [o 2 (.mv (.c (.ak)))]) (.seq (.seq (.aa [qM 3 0,o 4 (.eq .slice false (.t 3) (.c (.ak)))]) (.cond (.t 4) (.seq (.aa [o 2 (.mv (.c (.ak)))]) .ret) .skip)) (.seq (.aa [o 5 (.aQ 0 [] []),qM 6 0,qA 7 2 32 5 6,qM 2 7]) .ret)))⟩
def JX:aq:=⟨1,34,[.tmp 2],(.seq (.aa [qY 2 false]) (.seq (.aa [o 3 (.alloc [.bool false,.bool false,.bool false,.bool false])]) (.seq (.seq (.aa [qM 6 0,qN 7 6,qZ 8 0]) (.block 0 (.loop (.seq (.aa [qB 9 .lss 8 7]) (.seq (.cond (.t 9) .skip (.exit 0)) (.seq (.block 1 (.seq (.aa [qI 10 19 6 8,qG 11 19 10,o 5 (.alloc zL2),qO 19 5 11]) (.seq (.seq (.aT [qF 12 2 5,qL 13 12,qC 14 .neq 13 4,qM 15 14,qFF 16 15 4 5,qLF 17 15 16,qMF 18 15 0,oF 19 15 (.bQ 19 (.t 18) (i64 0)),qFF 20 15 4 19,qLF 21 15 20,qBF 22 15 .neq 17 21,qP 23 15 22,qM 24 23,qFF 25 24 5 5,qLF 26 24 25,oF 27 24 (.kM 4 1 (.t 3) (.t 26)),qLF 28 24 27,qP 29 24 28] [[],[0],[0,1],[0,1,2],(rg 4),(rg 5),(rg 4),[0,1,2,3,6],[0,1,2,3,6,7],[0,1,2,3,6,7,8],(rg 10),(rg 11),(rg 12),(rg 13),(rg 14),(rg 15),(rg 16),(rg 17)] []) (.cond (.t 29) (.seq (.aa [qY 2 false]) .ret) .skip)) (.aa [qF 30 5 5,qL 31 30,o 32 (.kM 4 1 (.t 3) (.t 31)),oN (.store 1 (.t 32) (.c (.bool true)))])))) (.aa [qC 33 .add 8 1,qM 8 33]))))))) (.seq (.aa [qY 2 true]) .ret))))⟩
def JW:aq:=⟨2,41,[.tmp 4],(.seq (.aa [o 2 (.box (.t 0)),o 3 (.box (.t 1)),qY 4 false]) (.seq (.aa [qF 6 10 2,qG 7 9 6,qK 8 109 [7],o 5 (.alloc zL3),qO 9 5 8]) (.seq (.aa [qF 9 2 2,qL 10 9,qC 11 .eql 10 2,qM 12 11,qFT 13 12 2 3,qLT 14 12 13,qCT 15 12 .eql 14 2,qQ 16 12 15,qM 17 16,qFT 18 17 0 5,qLT 19 17 18,qFT 20 17 10 3,qFT 21 17 0 20,qLT 22 17 21,qBT 23 17 .eql 19 22,qQ 24 17 23,qM 25 24,qFT 26 25 1 5,qGT 27 25 4 26,qFT 28 25 10 3,qFT 29 25 1 28,qGT 30 25 4 29,qKT 31 25 164 [27,30],qQ 32 25 31,qM 33 32,qFT 34 33 5 5,qGT 35 33 4 34,qFT 36 33 10 3,qFT 37 33 5 36,qGT 38 33 4 37,qKT 39 33 164 [35,38],qQ 40 33 39,qM 4 40]) .ret)))⟩
def JV:aq:=⟨2,9,[.tmp 4],(.seq (.aa [qY 4 false]) (.seq (.aa [qM 5 0,qM 6 1,qK 7 165 [5,6],qC 8 .geq 7 0,qM 4 8]) .ret))⟩
def JU:aq:=⟨1,22,[.tmp 2],(.seq (.aa [o 1 (.box (.t 0)),qY 2 false]) (.seq (.aa [qF 3 0 1,qL 4 3,qC 5 .eql 4 0,qM 6 5,qFT 7 6 1 1,qLT 8 6 7,qCT 9 6 .eql 8 0,qQ 10 6 9,qM 11 10,qFT 12 11 2 1,qLT 13 11 12,qCT 14 11 .eql 13 0,qQ 15 11 14,qM 16 15,qFT 17 16 3 1,qLT 18 16 17,qNT 19 16 18,qCT 20 16 .eql 19 0,qQ 21 16 20,qM 2 21]) .ret))⟩
def JS:aq:=⟨1,16,[.tmp 2],(.seq (.aa [o 1 (.box (.t 0)),qY 2 false]) (.seq (.aa [qF 3 0 1,qL 4 3,qC 5 .eql 4 0,qM 6 5,qFT 7 6 1 1,qGT 8 6 4 7,qKT 9 6 141 [8],qQ 10 6 9,qM 11 10,qFT 12 11 5 1,qGT 13 11 4 12,qKT 14 11 141 [13],qQ 15 11 14,qM 2 15]) .ret))⟩
def JR:aq:=⟨2,60,[.tmp 4],(.seq (.aa [o 2 (.box (.t 0)),qY 4 false]) (.seq (.seq (.aT [qF 7 3 2,qL 8 7,qN 9 8,qF 10 0 2,qL 11 10,qK 12 166 [11],qB 13 .neq 9 12] [[],[0],[0,1],[],[3],[3,4],(rg 6)] []) (.cond (.t 13) (.seq (.aa [qY 4 false]) .ret) .skip)) (.seq (.seq (.aa [qF 14 0 2,qL 15 14,qC 16 .neq 15 1,qM 17 16,qFT 18 17 1 2,qLT 19 17 18,qCT 20 17 .neq 19 0,qQ 21 17 20,qM 22 21,qFF 23 22 0 2,qLF 24 22 23,qCF 25 22 .neq 24 2,qMF 26 22 25,qFT 27 26 2 2,qLT 28 26 27,qCT 29 26 .neq 28 0,qQF 30 22 26 29,qP 31 22 30,qM 32 31,qFF 33 32 0 2,qLF 34 32 33,qCF 35 32 .eql 34 2,qMF 36 32 35,qFT 37 36 2 2,qLT 38 36 37,qMT 39 36 1,qCT 40 36 .sub 39 1,oT 41 36 (.call 81 [.t 38,(i64 0),.t 40] .borrow),qUT 42 36 41,qQF 43 32 36 42,qP 44 32 43]) (.cond (.t 44) (.seq (.aa [qY 4 false]) .ret) .skip)) (.seq (.seq (.aa [qF 45 3 2,qL 46 45,qN 47 46,qZ 48 0]) (.block 0 (.loop (.seq (.aa [qB 49 .lss 48 47]) (.seq (.cond (.t 49) .skip (.exit 0)) (.seq (.block 1 (.seq (.aa [qI 50 4 46 48,qG 51 4 50,o 6 (.alloc [zi,zi,zi,.ak]),qO 4 6 51]) (.seq (.aa [qG 52 4 6,qM 53 1,qK 54 143 [52,53],qU 55 54]) (.cond (.t 55) (.seq (.aa [qY 4 false]) .ret) .skip)))) (.aa [qC 56 .add 48 1,qM 48 56]))))))) (.seq (.aa [qF 57 1 2,qL 58 57,o 59 (.call 81 [.t 58,(i64 0),(i64 2147483647)] .borrow),qM 4 59]) .ret)))))⟩
def JQ:aq:=⟨2,20,[.tmp 4],(.seq (.aa [o 2 (.box (.t 0)),qY 4 false]) (.seq (.aa [qF 5 0 2,qL 6 5,o 7 (.call 81 [.t 6,(i64 1),(i64 6)] .borrow),qM 8 7,qFT 9 8 1 2,qGT 10 8 4 9,qMT 11 8 1,qKT 12 8 143 [10,11],qQ 13 8 12,qM 14 13,qFT 15 14 5 2,qGT 16 14 4 15,qMT 17 14 1,qKT 18 14 143 [16,17],qQ 19 14 18,qM 4 19]) .ret))⟩
def JP:aq:=⟨3,27,[.tmp 6],(.seq (.aa [o 3 (.box (.t 0)),qY 6 false]) (.seq (.aT [qM 7 1,qF 8 0 3,qF 9 0 8,qL 10 9,qN 11 10,qC 12 .sub 11 1,o 13 (.call 81 [.t 7,(i64 0),.t 12] .borrow),qM 14 13,qMT 15 14 2,qFT 16 14 0 3,qFT 17 14 0 16,qLT 18 14 17,qMT 19 14 1,qIT 20 14 6 18 19,qGT 21 14 6 20,oT 22 14 (.cM (.t 15) [.t 21] .borrow),qFT 23 14 2 3,qLT 24 14 23,qBT 25 14 .eql 22 24,qQ 26 14 25,qM 6 26] [[],[],[1],[1,2],[1,2,3],[1,2,3,4],(rg 6),(rg 7),(rg 8),(rg 8),[0,1,2,3,4,5,6,7,9],[0,1,2,3,4,5,6,7,9,10],(rg 8),[0,1,2,3,4,5,6,7,9,10,11,12],[0,1,2,3,4,5,6,7,9,10,11,12,13],(rg 15),(rg 8),[0,1,2,3,4,5,6,7,16],(rg 18),(rg 19),(rg 20)] []) .ret))⟩
def JO:aq:=⟨1,5,[.tmp 2],(.seq (.aa [o 1 (.box (.t 0)),qZ 2 0]) (.seq (.aa [qF 3 2 1,qL 4 3,qM 2 4]) .ret))⟩
def JN:aq:=⟨3,17,[.tmp 6],(.seq (.aa [o 3 (.box (.t 0)),qY 6 false]) (.seq (.aa [qM 7 2,qF 8 0 3,qF 9 0 8,qL 10 9,qM 11 1,qI 12 6 10 11,qF 13 4 12,qL 14 13,qC 15 .sub 14 1,o 16 (.call 81 [.t 7,(i64 0),.t 15] .borrow),qM 6 16]) .ret))⟩
def JM:aq:=⟨1,5,[.tmp 2],(.seq (.aa [o 1 (.box (.t 0)),qZ 2 0]) (.seq (.aa [qF 3 3 1,qL 4 3,qM 2 4]) .ret))⟩
def JK:aq:=⟨3,51,[.tmp 6],(.seq (.aa [o 3 (.box (.t 0)),qY 6 false]) (.seq (.aa [o 7 (.alloc [.bool false,.bool false,.bool false,.bool false])]) (.seq (.seq (.aa [qM 10 2,qN 11 10,qZ 12 0]) (.block 0 (.loop (.seq (.aa [qB 13 .lss 12 11]) (.seq (.cond (.t 13) .skip (.exit 0)) (.seq (.block 1 (.seq (.aa [qI 14 3 10 12,qG 15 3 14,o 9 (.alloc [zi,zi,.ak]),qO 3 9 15]) (.seq (.seq (.aa [qG 16 4 3,qM 17 1,qF 18 0 9,qL 19 18,qK 20 147 [16,17,19],qU 21 20,qM 22 21,qFF 23 22 0 9,qLF 24 22 23,oF 25 22 (.kM 4 1 (.t 7) (.t 24)),qLF 26 22 25,qP 27 22 26,qM 28 27,qFF 29 28 1 9,qLF 30 28 29,qFF 31 28 3 3,qLF 32 28 31,qCF 33 28 .sub 32 1,oF 34 28 (.call 81 [.t 30,(i64 0),.t 33] .borrow),qUF 35 28 34,qP 36 28 35,qM 37 36,qGF 38 37 4 3,qFF 39 37 2 9,qLF 40 37 39,qKF 41 37 83 [38,40],qUF 42 37 41,qP 43 37 42]) (.cond (.t 43) (.seq (.aa [qY 6 false]) .ret) .skip)) (.aa [qF 44 0 9,qL 45 44,o 46 (.kM 4 1 (.t 7) (.t 45)),oN (.store 1 (.t 46) (.c (.bool true)))])))) (.aa [qC 47 .add 12 1,qM 12 47]))))))) (.seq (.aa [qM 48 2,qN 49 48,qC 50 .gtr 49 0,qM 6 50]) .ret))))⟩
def JJ:aq:=⟨4,76,[],(.seq (.aa [qM 10 1,qM 8 10]) (.block 0 (.loop (.block 1 (.seq (.aa [qM 11 8,o 12 (.bin .mul (i64 2) (.t 11)),qC 13 .add 12 1,qM 9 13]) (.seq (.seq (.aa [qM 14 9,qM 15 2,qB 16 .geq 14 15]) (.cond (.t 16) (.exit 0) .skip)) (.seq (.seq (.aT [qM 17 9,qC 18 .add 17 1,qM 19 2,qB 20 .lss 18 19,qM 21 20,qMT 22 21 0,qMT 23 21 3,qMT 24 21 9,qBT 25 21 .add 23 24,qIT 26 21 1 22 25,qLT 27 21 26,qMT 28 21 0,qMT 29 21 3,qMT 30 21 9,qBT 31 21 .add 29 30,qCT 32 21 .add 31 1,qIT 33 21 1 28 32,qLT 34 21 33,qKT 35 21 118 [27,34],qQ 36 21 35] [[],[0],[],[0,1,2],(rg 4),(rg 5),(rg 5),(rg 5),[0,1,2,3,4,6,7],(rg 9),(rg 10),(rg 5),(rg 5),(rg 5),[0,1,2,3,4,12,13],[0,1,2,3,4,12,13,14],[0,1,2,3,4,11,12,13,14,15],[0,1,2,3,4,11,12,13,14,15,16],(rg 18),(rg 19)] []) (.cond (.t 36) (.aa [qM 37 9,qC 38 .add 37 1,qM 9 38]) .skip)) (.seq (.seq (.aT [qM 39 0,qM 40 3,qM 41 8,qB 42 .add 40 41,qI 43 1 39 42,qL 44 43,qM 45 0,qM 46 3,qM 47 9,qB 48 .add 46 47,qI 49 1 45 48,qL 50 49,qK 51 118 [44,50],qU 52 51] [[],[],[],[1,2],(rg 4),(rg 5),[],[],[],[7,8],[6,7,8,9],[6,7,8,9,10],(rg 12),(rg 13)] []) (.cond (.t 52) .ret .skip)) (.seq (.aT [qM 53 0,qM 54 3,qM 55 8,qB 56 .add 54 55,qM 57 0,qM 58 3,qM 59 9,qB 60 .add 58 59,qM 61 0,qM 62 3,qM 63 9,qB 64 .add 62 63,qI 65 1 61 64,qL 66 65,qM 67 0,qM 68 3,qM 69 8,qB 70 .add 68 69,qI 71 1 67 70,qL 72 71,qI 73 1 53 56,qO 1 73 66,qI 74 1 57 60,qO 1 74 72] [[],[],[],[1,2],[],[],[],[5,6],[],[],[],[9,10],[8,9,10,11],[8,9,10,11,12],[],[],[],[15,16],[14,15,16,17],[14,15,16,17,18],[0,1,2,3,8,9,10,11,12,13,14,15,16,17,18,19],[0,1,2,3,8,9,10,11,12,13,14,15,16,17,18,19,20],(rg 22),(rg 23)] []) (.aa [qM 75 9,qM 8 75]))))))))))⟩
def JI:aq:=⟨1,7,[.tmp 2],(.seq (.aa [o 2 (.mv (.c (.int .u64 0)))]) (.seq (.aa [qM 3 0,o 4 (.conv .u64 (.t 3)),qK 5 88 [4],o 6 (.bin .shl (.c (.int .u64 1)) (.t 5)),qM 2 6]) .ret))⟩
def JH:aq:=⟨1,33,[.tmp 2],(.seq (.aa [o 2 (.mv (.c (.int .u64 0)))]) (.seq (.aT [qM 3 0,qX 4 3,qL 5 4,qM 6 0,qX 7 6,qL 8 7,o 9 (.bin .shl (.t 8) (.c (.int .u64 13))),qB 10 .xor 5 9,qX 11 3,qO 1 11 10] [[],[0],[0,1],[],[3],[3,4],[3,4,5],(rg 7),(rg 8),(rg 9)] []) (.seq (.aT [qM 12 0,qX 13 12,qL 14 13,qM 15 0,qX 16 15,qL 17 16,o 18 (.bin .shr (.t 17) (.c (.int .u64 7))),qB 19 .xor 14 18,qX 20 12,qO 1 20 19] [[],[0],[0,1],[],[3],[3,4],[3,4,5],(rg 7),(rg 8),(rg 9)] []) (.seq (.aT [qM 21 0,qX 22 21,qL 23 22,qM 24 0,qX 25 24,qL 26 25,o 27 (.bin .shl (.t 26) (.c (.int .u64 17))),qB 28 .xor 23 27,qX 29 21,qO 1 29 28] [[],[0],[0,1],[],[3],[3,4],[3,4,5],(rg 7),(rg 8),(rg 9)] []) (.seq (.aa [qM 30 0,qX 31 30,qL 32 31,qM 2 32]) .ret)))))⟩
def JG:aq:=⟨3,15,[.tmp 6],(.seq (.aa [qZ 6 0]) (.seq (.aa [qM 7 0,qM 8 1,qC 9 .sub 8 1,qM 10 1,qM 11 1,qC 12 .add 11 1,qM 13 2,o 14 (.call 154 [.t 7,.t 9,.t 10,.t 12,.t 13] .share),qM 6 14]) .ret))⟩
def JF:aq:=⟨5,36,[.tmp 10],(.seq (.aa [qZ 10 0]) (.seq (.aa [qM 12 0,qM 13 1,qM 14 2,qM 15 4,o 16 (.call 167 [.t 12,.t 13,.t 14,.t 15] .share),qM 11 16,qE 17 0 11,qE 18 1 11,qM 1 17,qM 2 18]) (.seq (.aa [qM 20 0,qM 21 2,qM 22 3,qM 23 4,o 24 (.call 167 [.t 20,.t 21,.t 22,.t 23] .share),qM 19 24,qE 25 0 19,qE 26 1 19,qM 2 25,qM 3 26]) (.seq (.aa [qM 28 0,qM 29 1,qM 30 2,qM 31 4,o 32 (.call 167 [.t 28,.t 29,.t 30,.t 31] .share),qM 27 32,qE 33 0 27,qE 34 1 27,qM 1 33,qM 2 34]) (.seq (.aa [qM 35 2,qM 10 35]) .ret)))))⟩
def JE:aq:=⟨1,6,[.tmp 2],(.seq (.aa [qY 2 false]) (.seq (.aa [qM 3 0,qM 4 0,qB 5 .neq 3 4,qM 2 5]) .ret))⟩
def JD:aq:=⟨2,19,[.cell 4 (some 4),.tmp 5],(.seq (.aa [o 4 (.alloc [.bool false,zi,zi,zi]),qY 5 false]) (.seq (.aT [qM 6 1,qM 7 0,qX 8 7,qF 9 7 8,qF 10 0 9,qL 11 10,qM 12 0,qX 13 12,qF 14 13 13,qL 15 14,o 16 (.bQ 1 (.t 15) (i64 0)),qL 17 16,o 18 (.build [.bool false,zi,zi,zi] [(1,1,.t 6),(2,1,.t 11),(3,1,.t 17)]),qO 4 4 18,qY 5 true] [[],[],[1],[1,2],[1,2,3],[1,2,3,4],[],[6],[6,7],[6,7,8],[6,7,8,9],[6,7,8,9,10],(rg 12),(rg 13),(rg 14)] []) .ret))⟩
def JC:aq:=⟨3,33,[.tmp 6],(.seq (.aa [o 6 (.mv (.c (.ak)))]) (.seq (.aa [qM 8 0,qM 9 1,qM 10 2,qM 11 0,qN 12 11,o 13 (.iX 2 (.t 8) (some (.t 9)) (some (.t 10)) (some (.t 12)))]) (.seq (.seq (.aa [qM 14 1,qM 15 2,qB 16 .eql 14 15]) (.cond (.t 16) (.seq (.aa [qM 17 0,qM 6 17]) .ret) .skip)) (.seq (.aa [qM 18 0,qN 19 18,qM 7 19]) (.seq (.aT [qM 20 0,qM 21 1,o 22 (.iX 2 (.t 20) none (some (.t 21)) none),qM 23 0,qM 24 2,o 25 (.iX 2 (.t 23) (some (.t 24)) none none),qA 26 2 16 22 25,qM 0 26] [[],[],[0,1],[],[],[3,4],(rg 6),(rg 7)] []) (.seq (.aa [qM 27 0,qM 28 0,qN 29 28,qM 30 7,o 31 (.iX 2 (.t 27) (some (.t 29)) (some (.t 30)) none),oN (.Eb 2 [zi,zi] (.t 31))]) (.seq (.aa [qM 32 0,qM 6 32]) .ret)))))))⟩
def JB:aq:=⟨1,45,[.cell 2 (some 20),.tmp 3],(.seq (.aa [o 1 (.box (.t 0)),o 2 (.alloc zL1),qY 3 false]) (.seq (.aa [qF 5 3 1,qL 6 5,qF 7 4 1,qL 8 7,qF 9 5 1,qL 10 9,qF 11 6 1,qG 12 4 11,qF 13 10 1,qG 14 9 13,o 15 (.build zL1 [(1,1,.t 6),(2,1,.t 8),(3,1,.t 10),(4,4,.t 12),(8,9,.t 14)]),o 4 (.alloc zL1),qO 20 4 15]) (.seq (.seq (.aa [qF 16 2 1,qL 17 16]) (.block 0 (.seq (.aa [qC 20 .eql 17 1,qM 19 20]) (.cond (.t 19) (.aa [qF 21 0 4,oN (.store 1 (.t 21) (i64 1))]) (.seq (.seq (.aa [qC 23 .eql 17 2,qM 22 23]) (.cond (.t 22) .skip (.aa [qC 24 .eql 17 5,qM 22 24]))) (.cond (.t 22) (.aa [qF 25 0 4,oN (.store 1 (.t 25) (i64 6))]) (.seq (.aa [qC 27 .eql 17 3,qM 26 27]) (.cond (.t 26) (.aa [qF 28 0 4,oN (.store 1 (.t 28) (i64 4))]) (.seq (.aa [qC 30 .eql 17 6,qM 29 30]) (.cond (.t 29) (.aa [qF 31 0 4,oN (.store 1 (.t 31) (i64 7))]) (.seq (.aa [qC 33 .eql 17 4,qM 32 33]) (.cond (.t 32) (.seq (.aa [qF 34 0 4,oN (.store 1 (.t 34) (i64 5))]) (.seq (.aa [qF 35 5 1,qL 36 35,qF 37 3 1,qL 38 37,o 39 (.build [zi,zi,.ak] [(0,1,.t 36),(1,1,.t 38)]),oZ 40 (.aQ 1 [zi,zi,.ak] [(0,3,.t 39)]),qF 41 19 4,qO 1 41 40]) (.aa [qF 42 1 4,oN (.store 1 (.t 42) (i64 0)),qF 43 3 4,oN (.store 1 (.t 43) (i64 0))]))) (.seq (.aa [qG 18 20 4,qO 20 2 18,qY 3 false]) .ret))))))))))))) (.seq (.aa [qG 44 20 4,qO 20 2 44,qY 3 true]) .ret))))⟩
def JA:aq:=⟨2,31,[.tmp 4],(.seq (.aa [o 2 (.box (.t 0)),o 3 (.box (.t 1)),qY 4 false]) (.seq (.aa [qF 5 0 2,qL 6 5,qF 7 0 3,qL 8 7,qB 9 .eql 6 8,qM 10 9,qFT 11 10 1 2,qLT 12 10 11,qFT 13 10 1 3,qLT 14 10 13,qBT 15 10 .eql 12 14,qQ 16 10 15,qM 17 16,qFT 18 17 2 2,qLT 19 17 18,qFT 20 17 2 3,qLT 21 17 20,qBT 22 17 .eql 19 21,qQ 23 17 22,qM 24 23,qFT 25 24 3 2,qLT 26 24 25,qFT 27 24 3 3,qLT 28 24 27,oT 29 24 (.call 169 [.t 26,.t 28,(.c (.func 164))] .borrow),qQ 30 24 29,qM 4 30]) .ret))⟩
def Jz:aq:=⟨2,19,[.tmp 4],(.seq (.aa [qZ 4 0]) (.seq (.seq (.aa [qM 6 0,qN 7 6,qZ 8 0]) (.block 0 (.loop (.seq (.aa [qB 9 .lss 8 7]) (.seq (.cond (.t 9) .skip (.exit 0)) (.seq (.block 1 (.seq (.aa [qM 10 8,qM 5 10]) (.seq (.aa [qM 11 1,qM 12 0,qM 13 5,qI 14 1 12 13,qL 15 14,qB 16 .eql 11 15]) (.cond (.t 16) (.seq (.aa [qM 17 5,qM 4 17]) .ret) .skip)))) (.aa [qC 18 .add 8 1,qM 8 18]))))))) (.seq (.aa [o 4 (.mv (i64 (-1)))]) .ret)))⟩
def Jy:aq:=⟨1,16,[.tmp 2],(.seq (.aa [qZ 2 0]) (.seq (.block 0 (.seq (.aa [qM 4 0,qC 5 .eql 4 1,qM 6 5,qMF 7 6 0,qCF 8 6 .eql 7 2,qP 9 6 8,qM 3 9]) (.cond (.t 3) (.seq (.aa [qZ 2 0]) .ret) (.seq (.aa [qM 11 0,qC 12 .eql 11 3,qM 10 12]) (.cond (.t 10) (.seq (.aa [qZ 2 1]) .ret) (.seq (.aa [qM 14 0,o 15 (.call 81 [.t 14,(i64 4),(i64 8)] .borrow),qM 13 15]) (.cond (.t 13) (.seq (.aa [qZ 2 2]) .ret) .skip))))))) (.seq (.aa [o 2 (.mv (i64 (-1)))]) .ret)))⟩
def Jx:aq:=⟨4,28,[.tmp 8,.tmp 9],(.seq (.aa [qZ 8 0,qZ 9 0]) (.seq (.seq (.aT [qM 10 0,qM 11 2,qI 12 1 10 11,qL 13 12,qM 14 0,qM 15 1,qI 16 1 14 15,qL 17 16,qK 18 118 [13,17]] [[],[],[0,1],[0,1,2],[],[],[4,5],[4,5,6],(rg 8)] []) (.cond (.t 18) (.seq (.aa [qM 19 3,qX 20 19,qL 21 20,qC 22 .add 21 1,qX 23 19,qO 1 23 22]) (.seq (.aa [qM 24 2,qM 25 1,qM 8 24,qM 9 25]) .ret)) .skip)) (.seq (.aa [qM 26 1,qM 27 2,qM 8 26,qM 9 27]) .ret)))⟩
def Jw:aq:=⟨3,32,[.tmp 6],(.seq (.aa [qY 6 false]) (.seq (.seq (.aa [qM 10 0,qN 11 10,qM 12 1,qN 13 12,qB 14 .neq 11 13]) (.cond (.t 14) (.seq (.aa [qY 6 false]) .ret) .skip)) (.seq (.seq (.aa [qM 15 0,qN 16 15,qZ 17 0]) (.block 0 (.loop (.seq (.aa [qB 18 .lss 17 16]) (.seq (.cond (.t 18) .skip (.exit 0)) (.seq (.block 1 (.seq (.aa [qM 19 17,qI 20 4 15 17,qG 21 4 20,o 8 (.alloc [zi,zi,zi,.ak]),qM 7 19,qO 4 8 21]) (.seq (.aa [qM 22 1,qM 23 7,qI 24 4 22 23,qG 25 4 24,o 9 (.alloc [zi,zi,zi,.ak]),qO 4 9 25]) (.seq (.aa [qM 26 2,qG 27 4 8,qG 28 4 9,o 29 (.cM (.t 26) [.t 27,.t 28] .borrow),qU 30 29]) (.cond (.t 30) (.seq (.aa [qY 6 false]) .ret) .skip))))) (.aa [qC 31 .add 17 1,qM 17 31]))))))) (.seq (.aa [qY 6 true]) .ret))))⟩
def prog:Map aq:=.node none (.node none (.node none (.node none (.node none (.node (some Nm) (.node (some M8) (.leaf) (.leaf)) (.leaf)) (.node none (.node (some MC) (.node (some JR) (.leaf) (.leaf)) (.leaf)) (.node (some Kg) (.leaf) (.leaf)))) (.node none (.node (some Nj) (.node none (.node (some J0) (.leaf) (.leaf)) (.leaf)) (.node (some Hx) (.node (some Jx) (.leaf) (.leaf)) (.leaf))) (.node none (.node (some MY) (.node (some JI) (.leaf) (.leaf)) (.leaf)) (.node (some J8) (.leaf) (.leaf))))) (.node none (.node none (.node (some MJ) (.node none (.node (some J4) (.leaf) (.leaf)) (.leaf)) (.node (some MW) (.node (some JB) (.leaf) (.leaf)) (.leaf))) (.node none (.node (some M3) (.node (some JN) (.leaf) (.leaf)) (.leaf)) (.node (some Kb) (.leaf) (.leaf)))) (.node none (.node (some Nh) (.node (some M6) (.node (some JW) (.leaf) (.leaf)) (.leaf)) (.node (some Kk) (.leaf) (.leaf))) (.node (some Nb) (.node none (.node (some JE) (.leaf) (.leaf)) (.leaf)) (.leaf))))) (.node none (.node none (.node (some Hw) (.node (some Nl) (.leaf) (.node none (.node (some JD) (.leaf) (.leaf)) (.leaf))) (.node none (.node (some M5) (.node (some JP) (.leaf) (.leaf)) (.leaf)) (.node (some Ke) (.leaf) (.leaf)))) (.node none (.node (some Ni) (.node (some Ef) (.node (some JY) (.leaf) (.leaf)) (.leaf)) (.node (some Km) (.node (some Jw) (.leaf) (.leaf)) (.leaf))) (.node (some Nc) (.node none (.node (some JG) (.leaf) (.leaf)) (.leaf)) (.node (some J6) (.leaf) (.leaf))))) (.node none (.node none (.node none (.node none (.node (some J2) (.leaf) (.leaf)) (.leaf)) (.node (some Kq) (.node (some Jz) (.leaf) (.leaf)) (.leaf))) (.node (some Nf) (.node (some M0) (.node (some JK) (.leaf) (.leaf)) (.leaf)) (.node (some J_) (.leaf) (.leaf)))) (.node none (.node none (.node (some ME) (.node (some JU) (.leaf) (.leaf)) (.leaf)) (.node (some Ki) (.leaf) (.leaf))) (.node (some M_) (.leaf) (.leaf)))))) (.node none (.node none (.node none (.node none (.leaf) (.node none (.node (some MB) (.node (some JQ) (.leaf) (.leaf)) (.leaf)) (.node (some Kf) (.leaf) (.leaf)))) (.node none (.node none (.node none (.node (some JZ) (.leaf) (.leaf)) (.leaf)) (.node (some Ko) (.leaf) (.leaf))) (.node (some Nd) (.node (some MX) (.node (some JH) (.leaf) (.leaf)) (.leaf)) (.node (some J7) (.leaf) (.leaf))))) (.node none (.node none (.node none (.node none (.node (some J3) (.leaf) (.leaf)) (.leaf)) (.node (some Kr) (.node (some JA) (.leaf) (.leaf)) (.leaf))) (.node (some MI) (.node (some M1) (.node (some JM) (.leaf) (.leaf)) (.leaf)) (.node (some Ka) (.leaf) (.leaf)))) (.node none (.node none (.node (some MF) (.node (some JV) (.leaf) (.leaf)) (.leaf)) (.node (some Kj) (.leaf) (.leaf))) (.node (some Na) (.leaf) (.leaf))))) (.node none (.node none (.node none (.node none (.node none (.node (some ta) (.leaf) (.leaf)) (.leaf)) (.node (some Ee) (.node (some JC) (.leaf) (.leaf)) (.leaf))) (.node (some Ng) (.node (some M4) (.node (some JO) (.leaf) (.leaf)) (.leaf)) (.node (some Kd) (.leaf) (.leaf)))) (.node none (.node none (.node (some M7) (.node (some JX) (.leaf) (.leaf)) (.leaf)) (.node (some Kl) (.leaf) (.leaf))) (.node (some MG) (.node none (.node (some JF) (.leaf) (.leaf)) (.leaf)) (.node (some J5) (.leaf) (.leaf))))) (.node none (.node (some MK) (.node (some Nk) (.node none (.node (some J1) (.leaf) (.leaf)) (.leaf)) (.node (some Kp) (.node (some Jy) (.leaf) (.leaf)) (.leaf))) (.node (some MH) (.node (some MZ) (.node (some JJ) (.leaf) (.leaf)) (.leaf)) (.node (some J9) (.leaf) (.leaf)))) (.node none (.node none (.node (some MD) (.node (some JS) (.leaf) (.leaf)) (.leaf)) (.node (some Kh) (.leaf) (.leaf))) (.node (some M9) (.leaf) (.leaf))))))
end Go.Ax.fE
namespace Go.Ax.V
theorem uw:∀(cs:List TV) (n:Nat),oL cs n=if n<=cs.length then some (cs.take n) else none
 |cs,0=>by simp [oL]
 |[],n+1=>by simp [oL]
 |x::xs,n+1=>by
  simp only [oL,uw xs n,OL,Nat.add_le_add_iff_right,List.take_succ_cons];by_cases h:n<=xs.length
  ·rw [if_pos h,if_pos h]
  ·rw [if_neg h,if_neg h]
theorem AA:∀(cs:List TV) (off n:Nat),Br cs off n=if off+n<=cs.length then some ((cs.drop off).take n) else none
 |cs,0,n=>by simp [Br,uw]
 |[],o+1,n=>by simp [Br]
 |x::xs,o+1,n=>by
  simp only [Br,AA xs o n,OL,List.drop_succ_cons];by_cases h:o+n<=xs.length
  ·rw [if_pos h,if_pos (by omega)]
  ·rw [if_neg h,if_neg (by omega)]
theorem tM:∀(cells cs:List TV),oq cells cs=if cs.length<=cells.length then some (cs++cells.drop cs.length) else none
 |cells,[]=>by cases cells<;>simp [oq]
 |[],y::ys=>by simp [oq]
 |x::xs,y::ys=>by
  simp only [oq,tM xs ys,OL,Nat.add_le_add_iff_right,List.drop_succ_cons,List.cons_append];by_cases h:ys.length<=xs.length
  ·rw [if_pos h,if_pos h]
  ·rw [if_neg h,if_neg h]
theorem wV:∀(cells:List TV) (off:Nat) (cs:List TV),tL cells off cs=if off+cs.length<=cells.length then some (cells.take off++cs++cells.drop (off+cs.length)) else none
 |cells,0,cs=>by cases cells<;>simp [tL,tM]
 |[],o+1,cs=>by simp [tL]
 |x::xs,o+1,cs=>by
  simp only [tL,wV xs o cs,OL];by_cases h:o+cs.length<=xs.length
  ·rw [if_pos h,if_pos (by omega)];simp [show o+1+cs.length=o+cs.length+1 by omega]
  ·rw [if_neg h,if_neg (by omega)]
theorem EK {cells cs:List TV} {off:Nat} (h:off+cs.length<=cells.length) (j:Nat) :
  (cells.take off++cs++cells.drop (off+cs.length))[j]?=if off<=j/\j < off+cs.length then cs[j - off]? else cells[j]?:=by
 have h1:(cells.take off).length=off:=by rw [OI];omega
 rw [List.append_assoc];by_cases ha:j < off
 ·rw [Ox (by omega),if_neg (by omega),OB,if_pos ha]
 ·rw [Oy (by omega),h1];by_cases hb:j < off+cs.length
  ·rw [Ox (by omega),if_pos (by omega)]
  ·rw [Oy (by omega),if_neg (by omega),OC];congr 1;omega
theorem Ak {a:AV} (h:a.flat=true):a.one=true/\a.cells?=some [a]/\a.eJ=true:=by cases a<;>first|exact⟨rfl,rfl,rfl⟩|cases h
theorem qS {a:AV} (h:Ck a=true):a.flat=true:=by cases a<;>first|rfl|cases h
theorem Bu {t:TV} {a:AV} (h:Can t a) (h1:t.one=true):a.flat=true:=by cases h<;>first|rfl|exact qS (by assumption)|cases h1
theorem dJ {v:TV} {cells:List AV}:k9 v cells↔∃ts,bF v=some ts/\eC ts cells:=by
 constructor
 ·intro h;cases h with
  |one _ x h1 h=>
   refine⟨[v],(by cases v<;>first|rfl|cases h1),rfl,fun j t y ht hy=>?_⟩;cases j with
   |zero=>simp at ht hy;subst ht;subst hy;exact h
   |succ j=>simp at ht
  |a ts _ hl h=>exact⟨ts,rfl,hl,h⟩
 ·rintro⟨ts,h1,hl,h⟩;cases v with
  |a cs=>cases h1;exact .a _ _ hl h
  |tp vs=>cases h1
  |_=>
   cases h1
   match cells,hl with
   |[x],_=>exact .one _ _ rfl (h 0 _ _ rfl rfl)
def BC (ts:List TV) (cs:List AV):Prop:=eC ts cs/\∀x∈cs,AV.flat x=true
theorem oV {t:TV} {a:AV} {ts:List TV} (h:Can t a) (hc:bF t=some ts):∃as,a.cells?=some as/\BC ts as:=by
 have single:∀{t:TV} {a:AV},Can t a->t.one=true->BC [t] [a]:=fun h h1=>⟨⟨rfl,fun j u y hu hy=>by
  cases j with
  |zero=>simp at hu hy;subst hu;subst hy;exact h
  |succ j=>simp at hu⟩,fun x hx=>by simp at hx;subst hx;exact Bu h h1⟩
 cases h with
 |a ts as hl hf h=>cases hc;exact⟨as,rfl,⟨hl,h⟩,hf⟩
 |tp ts as hl hf h=>cases hc
 |i k n=>cases hc;exact⟨_,rfl,single (.i k n) rfl⟩
 |b x=>cases hc;exact⟨_,rfl,single (.b x) rfl⟩
 |s x=>cases hc;exact⟨_,rfl,single (.s x) rfl⟩
 |f n=>cases hc;exact⟨_,rfl,single (.f n) rfl⟩
 |np=>cases hc;exact⟨_,rfl,single .np rfl⟩
 |nil=>cases hc;exact⟨_,rfl,single .nil rfl⟩
 |b5 es cs n sz c hn hc' hz hf h=>cases hc;exact⟨_,rfl,single (.b5 es cs n sz c hn hc' hz hf h) rfl⟩
 |pW x u hf h=>cases hc;exact⟨_,(Ak (qS hf)).2.1,single (.pW a u hf h) rfl⟩
theorem fL {v r:TV} {off:Nat} (h:cu v off=some r):∃ts,bF v=some ts/\ts[off]?=some r:=by
 cases v with
 |a cs=>exact⟨cs,rfl,h⟩
 |tp vs=>cases h
 |_=>cases off with
  |zero=>cases h;exact⟨_,rfl,rfl⟩
  |succ n=>cases h
theorem gw {v r:TV} {off n:Nat} (h:cG v off n=some r):∃ts,v=.a ts/\bF v=some ts/\off+n<=ts.length/\r=.a ((ts.drop off).take n):=by
 cases v with
 |a cs=>
  simp only [cG,AA] at h;by_cases hl:off+n<=cs.length
  ·rw [if_pos hl] at h;cases h;exact⟨cs,rfl,rfl,hl,rfl⟩
  ·rw [if_neg hl] at h;cases h
 |_=>cases h
theorem bM {v u x:TV} {off n:Nat} (h:cN v off n x=some u):∃ts xs us,bF v=some ts/\bF x=some xs/\xs.length=n/\bF u=some us/\us.length=ts.length/\off+n<=ts.length/\
  ∀j,us[j]?=if off<=j/\j < off+n then xs[j - off]? else ts[j]?:=by
 unfold cN at h;split at h
 ·cases h
 rename_i xs hx;simp only [cond_eq_ite,OY] at h;split at h;rotate_left
 ·cases h
 rename_i hn;have one:∀{w:TV},bF v=some [w]->(if (Nat.beq off 0&&x.one)=true then some x else none)=some u->
   ∃ts xs us,bF v=some ts/\bF x=some xs/\xs.length=n/\bF u=some us/\us.length=ts.length/\off+n<=ts.length/\∀j,us[j]?=if off<=j/\j < off+n then xs[j - off]? else ts[j]?:=by
  intro w hv h;simp only [OV,OY] at h;split at h;rotate_left
  ·cases h
  rename_i hc;obtain⟨h0,h1⟩:=hc;have hu:=O8 h;subst hu;have hx1:xs=[x]:=by cases x<;>first|(simp only [bF,Option.some.injEq] at hx;exact hx.symm)|(simp [TV.one] at h1)
  subst hx1;simp at hn;subst hn;subst h0;refine⟨[w],[x],[x],hv,hx,rfl,hx,rfl,by simp,fun j=>?_⟩;cases j with
  |zero=>simp
  |succ j=>simp
 cases v with
 |a cs=>
  simp only [wV] at h;by_cases hl:off+xs.length<=cs.length
  ·rw [if_pos hl] at h;cases h;refine⟨cs,xs,_,rfl,hx,hn,rfl,?_,by omega,fun j=>?_⟩
   ·simp only [OH,OI,OJ];omega
   ·rw [EK hl,hn]
  ·rw [if_neg hl] at h;cases h
 |tp vs=>cases h
 |_=>exact one rfl h
theorem uI {ts:List TV} {cs:List AV} (h:eC ts cs) (off n:Nat):eC ((ts.drop off).take n) ((cs.drop off).take n):=by
 refine⟨by simp [h.1],fun j t x ht hx=>?_⟩;simp only [OB] at ht hx;split at ht
 ·rename_i hj;rw [if_pos hj] at hx;simp only [OC] at ht hx;exact h.2 _ _ _ ht hx
 ·cases ht
theorem fH {cs:List AV} (h:∀x∈cs,AV.flat x=true) (off n:Nat):∀x∈(cs.drop off).take n,AV.flat x=true:=
 fun x hx=>h x (List.mem_of_mem_drop (List.mem_of_mem_take hx))
theorem nw {v r:TV} {ts:List TV} {cs:List AV} {off:Nat} {sz:Option Nat} (hv:bF v=some ts) (hc:BC ts cs) (h:jF v off sz=some r) :
  ∃l a,cut cs off (bW sz)=some l/\z6 sz l=some a/\Can r a:=by
 cases sz with
 |none=>
  obtain⟨ts',h1,h2⟩:=fL h;rw [hv] at h1;cases h1;have hlt:off < ts.length:=by
   cases hh:ts[off]? with
   |none=>rw [hh] at h2;cases h2
   |some _=>exact(Ow.1 hh).1
  have hlt':off < cs.length:=by rw [←hc.1.1];exact hlt
  have hx:cs[off]?=some cs[off]:=Ov hlt';refine⟨[cs[off]],cs[off],?_,rfl,hc.1.2 _ _ _ h2 hx⟩;rw [cI,bW,if_pos (by omega)];rw [List.drop_eq_getElem_cons hlt'];rfl
 |some n=>
  obtain⟨ts',h0,h1,hl,rfl⟩:=gw h;rw [hv] at h1;cases h1;have hl':off+n<=cs.length:=by rw [←hc.1.1];exact hl
  refine⟨(cs.drop off).take n,.agg _,?_,rfl,?_⟩
  ·rw [cI,bW,if_pos hl']
  ·exact .a _ _ (uI hc.1 _ _).1 (fH hc.2 _ _) (uI hc.1 _ _).2
theorem gD {t:TV} {x a:AV} (h:nM t=some x) (hc:Can t a):a=x:=by cases hc<;>first|(cases h;rfl)|cases h
theorem oK {r:AV} {t:TV} (h:xJ r=some t):Can t r:=by cases r<;>first|(cases h;constructor)|cases h
theorem DQ {op:BinOp} {x y r:TV} {a b:AV} (h:cz op x y=some r) (ha:Can x a) (hb:Can y b):∃c,ya op a b=some c/\Can r c:=by
 unfold cz at h;split at h
 ·rename_i x' hx;split at h
  ·rename_i y' hy;split at h
   ·rename_i c hc;rw [gD hx ha,gD hy hb];exact⟨c,hc,oK h⟩
   ·cases h
  ·cases h
 ·cases h
theorem En {op:UnOp} {x r:TV} {a:AV} (h:zN op x=some r) (ha:Can x a):∃c,F7 op a=some c/\Can r c:=by
 unfold zN at h;split at h
 ·rename_i x' hx;split at h
  ·rename_i c hc;rw [gD hx ha];exact⟨c,hc,oK h⟩
  ·cases h
 ·cases h
theorem jR:∀{ts:List TV} {xs as:List AV},kQ ts=some xs->eC ts as->as=xs
 |[],xs,as,h,hc=>by cases h;exact O6.1 hc.1.symm
 |t::ts,xs,as,h,hc=>by
  simp only [kQ] at h;split at h
  ·cases h
  rename_i x hx;split at h
  ·cases h
  rename_i l hl;cases h;cases as with
  |nil=>cases hc.1
  |cons a as=>rw [gD hx (hc.2 0 t a rfl rfl),jR hl ⟨Nat.succ.inj hc.1,fun j u y hu hy=>hc.2 (j+1) u y hu hy⟩]
end Go.Ax.V
namespace Go.Ax.V
theorem aY (j i:Nat) (w:VV) (r:List (Nat×VV)):bp j ((i,w)::r)=if i=j then some w else bp j r:=by simp only [bp,cond_eq_ite,OY]
theorem rE (off:Nat) (r:List (Nat×VV)) (j:Nat):∀l,bp j (nk off l r)=match (if off<=j then bp (j - off) l else none) with|some w=>some w|none=>bp j r
 |[]=>by simp only [nk,bp];split<;>simp_all
 |(i,w)::l=>by
  simp only [nk,aY,rE off r j l];by_cases h:off<=j
  ·simp only [if_pos h];by_cases e:i=j - off
   ·rw [if_pos (by omega),if_pos e]
   ·rw [if_neg (by omega),if_neg e]
  ·simp only [if_neg h];rw [if_neg (by omega)]
theorem eu (off n j:Nat):∀l,bp j (iS off n l)=if off<=j/\j < off+n then none else bp j l
 |[]=>by simp [iS,bp]
 |(i,w)::l=>by
  simp only [iS,cond_eq_ite,OV,OZ,O0];by_cases h:off<=i/\i < off+n
  ·rw [if_pos h,eu off n j l,aY];by_cases e:i=j
   ·subst e;rw [if_pos h,if_pos h]
   ·rw [if_neg e]
  ·rw [if_neg h,aY,aY,eu off n j l];by_cases e:i=j
   ·subst e;rw [if_pos rfl,if_neg h,if_pos rfl]
   ·rw [if_neg e,if_neg e]
theorem nj (off n j:Nat):∀l,bp j (kz off n l)=if j < n then bp (j+off) l else none
 |[]=>by simp [kz,bp]
 |(i,w)::l=>by
  simp only [kz,cond_eq_ite,OV,OZ,O0];by_cases h:off<=i/\i < off+n
  ·rw [if_pos h,aY,nj off n j l,aY];by_cases e:i - off=j
   ·rw [if_pos e,if_pos (by omega),if_pos (by omega)]
   ·rw [if_neg e];by_cases hj:j < n
    ·rw [if_pos hj,if_pos hj,if_neg (by omega)]
    ·rw [if_neg hj,if_neg hj]
  ·rw [if_neg h,nj off n j l,aY];by_cases hj:j < n
   ·rw [if_pos hj,if_pos hj,if_neg (by omega)]
   ·rw [if_neg hj,if_neg hj]
inductive TN where
 |s (O:Nat)
 |i (O ver j:Nat)
instance:Coe Nat TN:=⟨TN.s⟩
def TN.base:TN->Nat
 |.s O=>O
 |.i O _ _=>O
abbrev aX:=TN->Option AV
def bV:AV->Option Nat
 |.ptr id _ _=>some id
 |.ref id _ _ _ _ _ _=>some id
 |_=>none
def uP (A:aX) (w:VV) (x:AV):Prop:=match w with
 |.bP=>x=.ak\/x=.b5 [] 0 (some 0)
 |.sl O=>A O=some x
 |.ow O v i=>A (.i O v i)=some x
 |_=>False
def D7 (A:aX) (o:Option VV) (t:TV) (x:AV):Prop:=match o with
 |none=>Can t x/\x.flat=true
 |some w=>uP A w x
structure aS (A:aX) (v:TV) (ovs:List (Nat×VV)) (cs:List AV) (ts:List TV):Prop where
 cells:bF v=some ts
 len:ts.length=cs.length
 keys:∀j w,bp j ovs=some w->j < ts.length
 at_:∀(j:Nat) (t:TV) (x:AV),ts[j]?=some t->cs[j]?=some x->D7 A (bp j ovs) t x
inductive VR (A:aX):VV->AV->Prop where
 |bad {a}:VR A .bad a
 |tr {v a} (h:Can v a):VR A (.tr v) a
 |bP:VR A .bP .ak
 |jP:VR A .bP (.b5 [] 0 (some 0))
 |ptr {O off:Nat} {id} (h:A O=some (.ptr id 0 0)):VR A (.ptr O off) (.ptr id 0 off)
 |pd {O off:Nat} {id} (h:A O=some (.ptr id 0 0)):VR A (.pd O off) (.ptr id 0 off)
 |sl {O:Nat} {a} (h:A O=some a):VR A (.sl O) a
 |ea {O i off:Nat} {id g b sz len cap ex} (h:A O=some (.ref id g b sz len cap ex)):VR A (.ea O i off) (.ptr id g (b+i*sz+off))
 |pt {v cs b off n} (hl:b+n<=cs.length) (hf:∀x∈cs,AV.flat x=true) (h:k9 v ((cs.drop b).take n)):VR A (.pt v off) (.fj cs (b+off))
 |st {v ovs cs ts} (hv:v=.a ts) (h:aS A v ovs cs ts):VR A (.st v ovs) (.agg cs)
 |ow {O v i a} (h:A (.i O v i)=some a):VR A (.ow O v i) a
 |e2 {O v i k off id g b sz len cap ex} (h:A (.i O v i)=some (.ref id g b sz len cap ex)):VR A (.e2 O v i k off) (.ptr id g (b+k*sz+off))
 |gl {s io es cs} (hs:0 < s) (hio:io < s) (hl:cs.length=es.length*s) (hf:∀x∈cs,AV.flat x=true)
   (h:∀(j:Nat) (e:TV),es[j]?=some e->∃ts,bF e=some ts/\ts.length=s/\(∀(o:Nat) t x,o≠io->ts[o]?=some t->cs[j*s+o]?=some x->Can t x)/\
    ts[io]?=some (.l [])/\∀x,cs[j*s+io]?=some x->x=.ak\/x=.b5 [] 0 (some 0)):VR A (.gl s io es) (.b5 cs es.length (some es.length))
 |sa {O off n sz:Nat} {id cap} (hz:0 < sz) (h:A O=some (.ptr id 0 0)):VR A (.sa O off n sz) (.ref id 0 off sz n cap true)
structure vW (sz:Nat) (es:List TV) (cs:List AV):Prop where
 len:cs.length=es.length*sz
 flat:∀x∈cs,AV.flat x=true
 el:∀(j:Nat) (e:TV),es[j]?=some e->k9 e ((cs.drop (j*sz)).take sz)
def qb (H:av) (sz:Nat) (es:List TV) (a:AV):Prop:=0 < sz/\((es=[]/\(a=.ak\/a=.b5 [] 0 (some 0)))\/
 ∃id g b cells,a=.ref id g b sz es.length es.length false/\H.get id=some (.row g cells)/\b<=cells.length/\vW sz es (cells.drop b))
structure BN (A:aX) (H:av) (K s io iz ver:Nat) (hole:Option Nat) (es:List TV) (cs:List AV):Prop where
 len:cs.length=es.length*s
 el:∀(j:Nat) (e:TV),es[j]?=some e->∃ts,bF e=some ts/\ts.length=s/\(∀(o:Nat) t x,o≠io->ts[o]?=some t->cs[j*s+o]?=some x->Can t x/\x.flat=true)/\
  ∃x,cs[j*s+io]?=some x/\A (.i K ver j)=some x/\(hole≠some j->∃l,ts[io]?=some (.l l)/\qb H iz l x)
def OR (A:aX) (H:av) (o:VO) (a:AV):Prop:=match o with
 |.ob v ovs=>∃id cs ts,a=.ptr id 0 0/\H.get id=some (.row 0 cs)/\aS A v ovs cs ts
 |.gr sz es=>qb H sz es a
 |.gn K s io iz ver hole es=>0 < s/\io < s/\0 < iz/\((es=[]/\(a=.ak\/a=.b5 [] 0 (some 0)))\/
   ∃id g b cells,a=.ref id g b s es.length es.length false/\H.get id=some (.row g cells)/\b<=cells.length/\BN A H K s io iz ver hole es (cells.drop b))
def cY (A:aX) (o:VO) (a:AV) (id:Nat):Prop:=bV a=some id\/match o with
 |.gn K _ _ _ ver hole _=>∃j x,hole≠some j/\A (.i K ver j)=some x/\bV x=some id
 |_=>False
theorem b9 {A:aX} {o:VO} {a:AV} {id:Nat} (h:o.pl=true):cY A o a id↔bV a=some id:=by cases o<;>first|(cases h;done)|simp [cY]
def fY (A:aX) (O:Nat) (a:AV) (o:VO):Prop:=match o with
 |.gn K _ _ _ ver hole es=>K=O/\(∀v j,ver < v->A (.i K v j)=none)/\(∀j x,A (.i K ver j)=some x->j < es.length)/\
   (∀j j' x x' id,hole≠some j->hole≠some j'->A (.i K ver j)=some x->A (.i K ver j')=some x'->bV x=some id->bV x'=some id->j=j')/\
   (∀j x id,hole≠some j->A (.i K ver j)=some x->bV x=some id->bV a≠some id)
 |_=>True
theorem mg {A:aX} {O:Nat} {o:VO} {a:AV} (h:o.pl=true):fY A O a o:=by cases o<;>first|(cases h;done)|trivial
structure R (A:aX) (V:aF) (st:St):Prop where
 env:∀t e,V.env.get t=some e->∃a,st.env.get t=some a/\((∀c bb,e.gd=some (c,bb)->c=.b bb)->VR A e.v a)
 heap:∀(O:Nat) o,V.H.get O=some o->∃a,A O=some a/\OR A st.H o a
 inj:∀(O O':Nat) o o' a a' id,V.H.get O=some o->V.H.get O'=some o'->A O=some a->A O'=some a'->cY A o a id->cY A o' a' id->O=O'
 used:∀n:TN,V.us.get n.base=none->A n=none
 one:∀n a,A n=some a->a.one=true
 fresh:∀id o,st.H.get id=some o->id < st.nx
 eI:∀(O:Nat) o a,V.H.get O=some o->A O=some a->fY A O a o
def b6 (V:aF) (A:aX) (id:Nat):Prop:=∃(O:Nat) (o:VO) (a:AV),V.H.get O=some o/\A O=some a/\cY A o a id
structure Fr (V:aF) (A:aX) (H:av) (nx:Nat) (V':aF) (A':aX) (H':av) (nx':Nat):Prop where
 le:nx<=nx'
 same:∀id,id < nx->¬b6 V A id->H'.get id=H.get id
 own:∀id,b6 V' A' id->b6 V A id\/nx<=id
theorem Fr.refl (V:aF) (A:aX) (H:av) (nx:Nat):Fr V A H nx V A H nx:=⟨Pa _,fun _ _ _=>rfl,fun _ h=>.inl h⟩
theorem Fr.trans {V A H nx V1 A1 H1 n9 V2 A2 H2 nx2} (h:Fr V A H nx V1 A1 H1 n9) (h':Fr V1 A1 H1 n9 V2 A2 H2 nx2):Fr V A H nx V2 A2 H2 nx2 where
 le:=O9 h.le h'.le
 same id hid hn:=by rw [h'.same id (O5 hid h.le) (fun ho=>(h.own id ho).elim hn (fun hle=>by omega)),h.same id hid hn]
 own id ho:=(h'.own id ho).elim (fun h1=>h.own id h1) (fun hle=>.inr (O9 h.le hle))
theorem Fr.HH {V V':aF} {A:aX} {H:av} {nx:Nat} (h:∀O o,V'.H.get O=some o->V.H.get O=some o):Fr V A H nx V' A H nx:=
 ⟨Pa _,fun _ _ _=>rfl,fun _ ⟨O,o,a,h1,h2,h3⟩=>.inl ⟨O,o,a,h O o h1,h2,h3⟩⟩
def act:G->Prop
 |none=>True
 |some (c,bb)=>c=.b bb
theorem uP.mono {A A':aX} (h:∀O a,A O=some a->A' O=some a) {w:VV} {x:AV} (hs:uP A w x):uP A' w x:=by cases w<;>first|exact hs|exact h _ _ hs
theorem aS.mono {A A':aX} (h:∀O a,A O=some a->A' O=some a) {v:TV} {ovs:List (Nat×VV)} {cs:List AV} {ts:List TV} (hc:aS A v ovs cs ts):aS A' v ovs cs ts:=
 ⟨hc.cells,hc.len,hc.keys,fun j t x ht hx=>by
  have:=hc.at_ j t x ht hx;unfold D7 at this ⊢;split at this
  ·exact this
  ·exact uP.mono h this⟩
theorem VR.mono {A A':aX} (h:∀O a,A O=some a->A' O=some a) {w:VV} {x:AV} (hv:VR A w x):VR A' w x:=by
 cases hv with
 |bad=>exact .bad
 |tr h=>exact .tr h
 |bP=>exact .bP
 |jP=>exact .jP
 |ptr h1=>exact .ptr (h _ _ h1)
 |pd h1=>exact .pd (h _ _ h1)
 |sl h1=>exact .sl (h _ _ h1)
 |ea h1=>exact .ea (h _ _ h1)
 |pt hl hf h1=>exact .pt hl hf h1
 |st hv h1=>exact .st hv (h1.mono h)
 |ow h1=>exact .ow (h _ _ h1)
 |e2 h1=>exact .e2 (h _ _ h1)
 |gl h1 h2 h3 h4 h5=>exact .gl h1 h2 h3 h4 h5
 |sa hz h1=>exact .sa hz (h _ _ h1)
theorem qb.mono {H H':av} {sz:Nat} {es:List TV} {a:AV} (hH:∀id,bV a=some id->H'.get id=H.get id) (ho:qb H sz es a):qb H' sz es a:=by obtain⟨hz,h1⟩:=ho;refine⟨hz,h1.imp id ?_⟩;rintro⟨id,g,b,cells,rfl,h2,h3,h4⟩;exact⟨id,g,b,cells,rfl,by rw [hH id rfl];exact h2,h3,h4⟩
theorem qb.there {H:av} {sz:Nat} {es:List TV} {a:AV} (ho:qb H sz es a) {id:Nat} (hi:bV a=some id):∃ob,H.get id=some ob:=by
 obtain⟨hz,h1⟩:=ho;rcases h1 with ⟨_,rfl|rfl⟩|⟨id',g,b,cells,rfl,h2,_⟩
 ·cases hi
 ·cases hi
 ·cases hi;exact⟨_,h2⟩
theorem OR.mono {A A':aX} {H H':av} (h:∀O a,A O=some a->A' O=some a) {o:VO} {a:AV} (hH:∀id,cY A o a id->H'.get id=H.get id) (ho:OR A H o a):OR A' H' o a:=by
 cases o with
 |ob v ovs=>obtain⟨id,cs,ts,rfl,h2,h3⟩:=ho;exact⟨id,cs,ts,rfl,by rw [hH id (.inl rfl)];exact h2,h3.mono h⟩
 |gr sz es=>exact qb.mono (fun id hi=>hH id (.inl hi)) ho
 |gn K s io iz ver hole es=>obtain⟨h1,h2,h3,h4⟩:=ho;refine⟨h1,h2,h3,h4.imp id ?_⟩;rintro⟨id,g,b,cells,rfl,h5,h6,h7⟩;refine⟨id,g,b,cells,rfl,by rw [hH id (.inl rfl)];exact h5,h6,h7.len,fun j e he=>?_⟩;obtain⟨ts,g1,g2,g3,x,g4,g5,g6⟩:=h7.el j e he;refine⟨ts,g1,g2,g3,x,g4,h _ _ g5,fun hn=>?_⟩;obtain⟨l,g7,g8⟩:=g6 hn;exact⟨l,g7,g8.mono fun id' hi=>hH id' (.inr ⟨j,x,hn,g5,hi⟩)⟩
theorem E1 {A A':aX} (h:∀O a,A O=some a->A' O=some a) {o:VO} {a:AV} {id:Nat} (hi:cY A o a id):cY A' o a id:=by
 rcases hi with hi|hi
 ·exact .inl hi
 ·cases o with
  |gn K s io iz ver hole es=>obtain⟨j,x,h2,h3,h4⟩:=hi;exact .inr ⟨j,x,h2,h _ _ h3,h4⟩
  |_=>cases hi
theorem OR.there {A:aX} {H:av} {O:Nat} {o:VO} {a:AV} (ho:OR A H o a) (hv:fY A O a o) {id:Nat} (hi:cY A o a id):∃ob,H.get id=some ob:=by
 cases o with
 |ob v ovs=>obtain⟨id',cs,ts,rfl,h2,h3⟩:=ho;rw [b9 rfl] at hi;cases hi;exact⟨_,h2⟩
 |gr sz es=>exact qb.there ho ((b9 rfl).1 hi)
 |gn K s io iz ver hole es=>
  obtain⟨_,_,_,ho⟩:=ho;obtain⟨_,_,qzI,_⟩:=hv;rcases ho with ⟨rfl,h0⟩|⟨id',g,b,cells,rfl,h5,h6,h7⟩
  ·rcases hi with hi|⟨j,x,_,h1,_⟩
   ·rcases h0 with rfl|rfl<;>cases hi
   ·have:=qzI j x h1;simp at this
  ·rcases hi with hi|⟨j,x,h2,h3,h4⟩
   ·cases hi;exact⟨_,h5⟩
   ·obtain⟨ts,g1,g2,g3,x',g4,g5,g6⟩:=h7.el j _ (Ov (qzI j x h3));rw [h3] at g5;cases g5;obtain⟨l,_,g8⟩:=g6 h2;exact g8.there h4
theorem R.ff {A:aX} {V:aF} {st:St} (h:R A V st) {id:Nat} (ho:b6 V A id):id < st.nx:=by obtain⟨O,o,a,h1,h2,h3⟩:=ho;obtain⟨a',h4,h5⟩:=h.heap O o h1;rw [h2] at h4;cases h4;obtain⟨ob,h6⟩:=h5.there (h.eI O o a h1 h2) h3;exact h.fresh _ _ h6
structure iE (V V':aF):Prop where
 us:∀O,V'.us.get O=none->V.us.get O=none
 gn:∀K s io iz ver hole es,V'.H.get K=some (.gn K s io iz ver hole es)->V.us.get K=none\/∃s io iz v0 hole es,V.H.get K=some (.gn K s io iz v0 hole es)/\v0<=ver
theorem iE.refl (V:aF):iE V V:=⟨fun _ h=>h,fun K s io iz ver hole es h=>.inr ⟨s,io,iz,ver,hole,es,h,Pa _⟩⟩
theorem iE.trans {V V1 V2:aF} (h:iE V V1) (h':iE V1 V2):iE V V2:=by
 refine⟨fun O hO=>h.us O (h'.us O hO),fun K s io iz ver hole es hK=>?_⟩;rcases h'.gn K _ _ _ _ _ _ hK with h1|⟨s1,io1,iz1,v1,qzu,es1,h1,h2⟩
 ·exact .inl (h.us K h1)
 ·rcases h.gn K _ _ _ _ _ _ h1 with h3|⟨s2,io2,iz2,v2,qzt,es2,h3,h4⟩
  ·exact .inl h3
  ·exact .inr ⟨s2,io2,iz2,v2,qzt,es2,h3,O9 h4 h2⟩
theorem iE.HH {V V':aF} (hu:V'.us=V.us) (hH:∀O o,V'.H.get O=some o->V.H.get O=some o):iE V V':=
 ⟨fun O h=>by rw [←hu];exact h,fun K s io iz ver hole es h=>.inr ⟨s,io,iz,ver,hole,es,hH _ _ h,Pa _⟩⟩
theorem iE.set {V:aF} {O:Nat} {o:VO} (h:o.pl=true):iE V (bh V O o):=by
 refine⟨fun _ h=>h,fun K s io iz ver hole es hK=>?_⟩;simp only [bh,Map.au] at hK;split at hK
 ·cases hK;cases h
 ·exact .inr ⟨s,io,iz,ver,hole,es,hK,Pa _⟩
theorem iE.name {V:aF} {O:Nat} {o:VO} (h:V.us.get O=none):iE V {V with H:=V.H.put (some o) O,us:=V.us.put (some ()) O}:=by
 refine⟨fun O' hO=>?_,fun K s io iz ver hole es hK=>?_⟩
 ·simp only [Map.au] at hO;split at hO
  ·cases hO
  ·exact hO
 ·simp only [Map.au] at hK;split at hK
  ·rename_i e;subst e;exact .inl h
  ·exact .inr ⟨s,io,iz,ver,hole,es,hK,Pa _⟩
structure Ext (V:aF) (A:aX) (V':aF) (A':aX):Prop where
 mono:∀n x,A n=some x->A' n=some x
 new:∀n x,A' n=some x->A n=some x\/V.us.get n.base=none\/∃K v j s io iz ver hole es,n=.i K v j/\V.H.get K=some (.gn K s io iz ver hole es)/\ver < v
 ev:iE V V'
theorem Ext.refl (V:aF) (A:aX):Ext V A V A:=⟨fun _ _ h=>h,fun _ _ h=>.inl h,iE.refl V⟩
theorem Ext.wZ {V V':aF} (A:aX) (h:iE V V'):Ext V A V' A:=⟨fun _ _ h=>h,fun _ _ h=>.inl h,h⟩
theorem Ext.trans {V V1 V2:aF} {A A1 A2:aX} (h:Ext V A V1 A1) (h':Ext V1 A1 V2 A2):Ext V A V2 A2:=by
 refine⟨fun n x hx=>h'.mono n x (h.mono n x hx),fun n x hx=>?_,h.ev.trans h'.ev⟩;rcases h'.new n x hx with h1|h1|⟨K,v,j,s,io,iz,ver,hole,es,rfl,h2,h3⟩
 ·exact h.new n x h1
 ·exact .inr (.inl (h.ev.us _ h1))
 ·rcases h.ev.gn K _ _ _ _ _ _ h2 with h4|⟨s1,io1,iz1,v1,qzu,es1,h4,h5⟩
  ·exact .inr (.inl h4)
  ·exact .inr (.inr ⟨K,v,j,s1,io1,iz1,v1,qzu,es1,rfl,h4,by omega⟩)
theorem fm:Can (.l []) (.b5 [] 0 (some 0)):=.b5 [] [] 0 1 _ rfl rfl (by omega) (fun x hx=>by cases hx) (fun j e h=>by simp at h)
theorem ij {v:AV} (h:c6 v=true):Can (sP v) v/\v.flat=true:=by cases v<;>first|(cases h;done)|exact⟨by constructor,rfl⟩
theorem gG:∀l,(bS l).length=l.length
 |[]=>rfl
 |x::xs=>by simp [bS,gG xs]
theorem k5:∀(l:List AV) (j:Nat),(bS l)[j]?=l[j]?.map sP
 |[],j=>by simp [bS]
 |x::xs,0=>rfl
 |x::xs,j+1=>by simp [bS,k5 xs j]
theorem oA:∀(l:List AV) (i j:Nat),bp j (fh i l)=if i<=j then (match l[j - i]? with|some .ak=>some .bP|_=>none) else none
 |[],i,j=>by simp [fh,bp]
 |x::xs,i,j=>by
  have ih:=oA xs (i+1) j;have rest:(if i+1<=j then (match xs[j - (i+1)]? with|some .ak=>some VV.bP|_=>none) else none)=if i<=j then (if i=j then none else (match (x::xs)[j - i]? with|some .ak=>some .bP|_=>none)) else none:=by
   by_cases h:i+1<=j
   ·rw [if_pos h,if_pos (by omega),if_neg (by omega),show j - i=(j - (i+1))+1 by omega,List.getElem?_cons_succ]
   ·rw [if_neg h];by_cases h2:i<=j
    ·rw [if_pos h2,if_pos (by omega)]
    ·rw [if_neg h2]
  by_cases hx:x=.ak
  ·subst hx;simp only [fh,aY,ih,rest];by_cases h:i<=j
   ·rw [if_pos h,if_pos h];by_cases e:i=j
    ·subst e;simp
    ·rw [if_neg e,if_neg e]
   ·rw [if_neg h,if_neg h,if_neg (by omega)]
  ·have:fh i (x::xs)=fh (i+1) xs:=by cases x<;>first|rfl|exact absurd rfl hx
   rw [this,ih,rest];by_cases h:i<=j
   ·rw [if_pos h,if_pos h];by_cases e:i=j
    ·subst e;rw [if_pos rfl];simp only [Nat.sub_self,List.getElem?_cons_zero];cases x<;>first|rfl|exact absurd rfl hx
    ·rw [if_neg e]
   ·rw [if_neg h,if_neg h]
theorem kW (A:aX) {cs:List AV} (h:bx c6 cs=true):aS A (.a (bS cs)) (fh 0 cs) cs (bS cs):=by
 refine⟨rfl,gG cs,fun j w hj=>?_,fun j t x ht hx=>?_⟩
 ·rw [oA,if_pos (O_ _)] at hj;rw [gG];cases hc:cs[j]? with
  |none=>simp [hc] at hj
  |some y=>exact(Ow.1 hc).1
 ·rw [k5,hx] at ht;cases ht;rw [oA,if_pos (O_ _),Nat.sub_zero,hx];have:=ij (aJ.1 h x (OD hx));cases x<;>first|exact this|exact .inl rfl
theorem vM (A:aX) {cs:List AV} (h:bx c6 cs=true) {ovs:List (Nat×VV)} (ho:∀j w,bp j ovs=some w->bp j (fh 0 cs)=some w):aS A (.a (bS cs)) ovs cs (bS cs):=by
 have h0:=kW A h;refine⟨rfl,gG cs,fun j w hj=>h0.keys j w (ho j w hj),fun j t x ht hx=>?_⟩;cases hj:bp j ovs with
 |some w=>have:=h0.at_ j t x ht hx;rw [ho j w hj] at this;exact this
 |none=>rw [k5,hx] at ht;cases ht;exact ij (aJ.1 h x (OD hx))
theorem xR {j:Nat} {w:VV}:∀(cs:List Nat) (l:List (Nat×VV)),bp j (DI cs l)=some w->bp j l=some w
 |[],l,h=>h
 |c::cs,l,h=>by
  have:=xR cs _ h;rw [eu] at this;split at this
  ·cases this
  ·exact this
theorem F9 {sh:Sh} {d:Option Nat} {l:List (Nat×VV)} {j:Nat} {w:VV} (h:bp j (KX sh d l)=some w):bp j l=some w:=by
 cases d with
 |none=>exact h
 |some d=>exact xR _ _ h
theorem xV (A:aX) (v:AV):VR A (vL v) v:=by
 unfold vL;split
 ·exact .bP
 ·rename_i cs;rw [cond_eq_ite];split
  ·rename_i h;exact .st rfl (kW A h)
  ·exact .bad
 ·exact .bad
 ·rw [cond_eq_ite];split
  ·rename_i h;exact .tr (ij h).1
  ·exact .bad
section
variable {A:aX} {V:aF} {st:St} {g:G}
theorem vu {e:Env} {n:Nat} {a:AV} (h:e.get n=some a):ev e (.t n)=a:=by simp only [ev,h]
theorem bE (h:R A V st) (ha:act g) {x:aH} {k:VV->Prop} (hk:dw V g x k):∃w,VR A w (ev st.env x)/\k w:=by
 cases x with
 |c v=>exact⟨_,xV A v,hk⟩
 |t n=>
  simp only [dw] at hk;split at hk
  ·cases hk
  rename_i e he;obtain⟨a,h1,h2⟩:=h.env n e he;split at hk
  ·rename_i hg;exact⟨e.v,by rw [vu h1];exact h2 (fun c bb hc=>by rw [hg] at hc;cases hc),hk⟩
  ·rename_i q hq;split at hk
   ·cases hk
   rename_i p;obtain⟨rfl,hk⟩:=hk;exact⟨e.v,by rw [vu h1];exact h2 (fun c bb hc=>by rw [hq] at hc;cases hc;exact ha),hk⟩
theorem rJ:∀(ovs:List (Nat×VV)) (ts:List TV) (u:TV),w9 ovs (.a ts)=some u->
  ∃us,u=.a us/\us.length=ts.length/\∀j,us[j]?=(match bp j ovs with|some _=>(if j < ts.length then some (.l []) else none)|none=>ts[j]?)/\∀w,bp j ovs=some w->w=.bP
 |[],ts,u,h=>by cases h;exact⟨ts,rfl,rfl,fun j=>⟨rfl,fun w hw=>by cases hw⟩⟩
 |(off,w)::r,ts,u,h=>by
  unfold w9 at h;split at h;rotate_left
  ·cases h
  split at h;rotate_left
  ·cases h
  rename_i u' hu';obtain⟨us,rfl,hl,ha⟩:=rJ r ts u' hu';obtain⟨ts',xs,us',h1,h2,h3,h4,h5,h6,h7⟩:=bM h;cases h1;cases h2;have hu:u=.a us':=by
   cases u<;>first|(cases h4;rfl)|skip
   all_goals
    unfold cN at h;simp only [bF,cond_eq_ite] at h;split at h
    ·split at h<;>cases h
    ·cases h
  refine⟨us',hu,by rw [h5,hl],fun j=>?_⟩;rw [h7 j,aY];by_cases e:off=j
  ·subst e;rw [if_pos (by omega),if_pos rfl,Nat.sub_self];refine⟨?_,fun w' hw'=>by cases hw';rfl⟩;simp only;rw [if_pos (by rw [←hl];omega)];rfl
  ·rw [if_neg (by omega),if_neg e];exact ha j
theorem C2 {v u:TV} {ovs:List (Nat×VV)} {cs:List AV} {ts:List TV} (h:aS A v ovs cs ts) (hv:v=.a ts) (hu:w9 ovs v=some u):Can u (.agg cs):=by
 subst hv;obtain⟨us,rfl,hl,ha⟩:=rJ ovs ts u hu;have at_:∀(j:Nat) (t:TV) (x:AV),us[j]?=some t->cs[j]?=some x->Can t x/\x.flat=true:=by
  intro j t x ht hx;have hlt:j < ts.length:=by rw [h.len];exact(Ow.1 hx).1
  have hc:=h.at_ j _ x (Ov hlt) hx;obtain⟨h1,h2⟩:=ha j;rw [h1] at ht;cases ho:bp j ovs with
  |none=>rw [ho] at ht hc;simp only at ht;rw [Ov hlt] at ht;cases ht;exact hc
  |some w=>
   rw [ho] at ht hc;simp only at ht;rw [if_pos hlt] at ht;cases ht;obtain rfl:=h2 w ho;rcases hc with rfl|rfl
   ·exact⟨.nil,rfl⟩
   ·exact⟨fm,rfl⟩
 refine .a _ _ (by rw [hl,h.len]) (fun x hx=>?_) (fun j t x ht hx=>(at_ j t x ht hx).1);obtain⟨j,hj⟩:=List.getElem?_of_mem hx;have hlt:j < us.length:=by rw [hl,h.len];exact(Ow.1 hj).1
 exact(at_ j _ x (Ov hlt) hj).2
theorem zL {w:VV} {a:AV} (hv:VR A w a) {k:TV->Prop} (hk:zO w k):∃v,Can v a/\k v:=by
 cases hv<;>first|(cases hk;done)|skip
 ·rename_i v hc;exact⟨v,hc,hk⟩
 ·exact⟨_,.nil,hk⟩
 ·exact⟨_,fm,hk⟩
 ·rename_i hv h;obtain⟨u,h1,h2⟩:=hk;exact⟨u,C2 h hv h1,h2⟩
theorem bN (h:R A V st) (ha:act g) {x:aH} {k:TV->Prop} (hk:iu V g x k):∃v,Can v (ev st.env x)/\k v:=by obtain⟨w,h1,h2⟩:=bE h ha hk;exact zL h1 h2
theorem CR (h:R A V st) (ha:act g) {x:Option aH} {k:Option TV->Prop} (hk:ou V g x k):∃v,k v/\(match x with|none=>v=none|some x=>∃u,v=some u/\Can u (ev st.env x)):=by
 cases x with
 |none=>exact⟨none,hk,rfl⟩
 |some x=>obtain⟨v,h1,h2⟩:=bN h ha hk;exact⟨some v,h2,v,rfl,h1⟩
theorem wK (h:R A V st) (ha:act g):∀{xs:List aH} {k:List TV->Prop},Cs V g xs k->∃vs,eC vs (xs.map (ev st.env))/\k vs
 |[],k,hk=>⟨[],⟨rfl,fun j t x ht=>by simp at ht⟩,hk⟩
 |x::xs,k,hk=>by
  obtain⟨v,h1,h2⟩:=bN h ha hk;obtain⟨vs,h3,h4⟩:=wK h ha h2;refine⟨v::vs,⟨by simp [h3.1],fun j t y ht hy=>?_⟩,h4⟩;cases j with
  |zero=>simp at ht hy;subst ht;subst hy;exact h1
  |succ j=>simp at ht hy;exact h3.2 j t y ht (by simpa using hy)
end
theorem fT {A:aX} (hone:∀O a,A O=some a->a.one=true) {w:VV} {a:AV} (hv:VR A w a) {t:TV} {o:List (Nat×VV)} (hs:B2 w=some (t,o)) {ts:List TV} (hc:bF t=some ts) :
  ∃as,a.cells?=some as/\aS A t o as ts:=by
 have single:∀{w:VV} {x:AV},uP A w x->x.cells?=some [x]->aS A (.l []) [(0,w)] [x] [.l []]:=fun {w x} h1 h2=>
  ⟨rfl,rfl,(fun j u hj=>by
   rw [aY] at hj;split at hj
   ·subst_vars;simp
   ·cases hj),(fun j u y hu hy=>by
   cases j with
   |zero=>simp at hu hy;subst hu;subst hy;rw [aY,if_pos rfl];exact h1
   |succ j=>simp at hu)⟩
 cases hv<;>first|(cases hs;done)|skip
 ·rename_i v h;cases hs;obtain⟨as,h1,h2⟩:=oV h hc;exact⟨as,h1,hc,h2.1.1,fun j w hj=>by simp [bp] at hj,fun j u x hu hx=>⟨h2.1.2 j u x hu hx,h2.2 x (OD hx)⟩⟩
 ·cases hs;cases hc;exact⟨_,rfl,single (.inl rfl) rfl⟩
 ·cases hs;cases hc;exact⟨_,rfl,single (.inr rfl) rfl⟩
 ·rename_i O h;cases hs;cases hc;have hc:a.cells?=some [a]:=by have:=hone _ _ h;cases a<;>first|rfl|cases this
  exact⟨_,hc,single (w:=.sl O) h hc⟩
 ·rename_i v ovs cs ts' hv' h;cases hs;have:=h.cells.symm.trans hc;cases this;exact⟨_,rfl,h⟩
 ·rename_i O v i h;cases hs;cases hc;have hc:a.cells?=some [a]:=by have:=hone _ _ h;cases a<;>first|rfl|cases this
  exact⟨_,hc,single (w:=.ow O v i) h hc⟩
theorem eW {A:aX} {v u t:TV} {ovs o:List (Nat×VV)} {cs as:List AV} {vs ts:List TV} {off n:Nat} (hv:aS A v ovs cs vs) (ht:aS A t o as ts) (hp:cN v off n t=some u) :
  as.length=n/\∃cs' us,cO cs off as=some cs'/\aS A u (nk off o (iS off n ovs)) cs' us/\(∀l,v=.a l->∃l',u=.a l'):=by
 obtain⟨ts',xs,us,h1,h2,h3,h4,h5,h6,h7⟩:=bM hp;have e1:=hv.cells.symm.trans h1;cases e1;have e2:=ht.cells.symm.trans h2;cases e2;have hn:as.length=n:=by rw [←ht.len];exact h3
 have hov:cO cs off as=some (cs.take off++as++cs.drop (off+as.length)):=by rw [fQ,if_pos (by rw [hn,←hv.len];exact h6)]
 obtain⟨hl',hat⟩:=dy hov;refine⟨hn,_,us,hov,⟨h4,by rw [h5,hl',hv.len],fun j w hj=>?_,fun j t' x ht' hx=>?_⟩,fun l e=>?_⟩
 ·rw [rE] at hj;rw [h5];by_cases ho:off<=j
  ·simp only [if_pos ho] at hj;cases hq:bp (j - off) o with
   |some w'=>have:=ht.keys _ _ hq;omega
   |none=>
    rw [hq,eu] at hj;simp only at hj;split at hj
    ·cases hj
    ·exact hv.keys _ _ hj
  ·simp only [if_neg ho,eu] at hj;split at hj
   ·cases hj
   ·exact hv.keys _ _ hj
 ·rw [h7] at ht';rw [hat,hn] at hx;rw [rE];by_cases hc:off<=j/\j < off+n
  ·rw [if_pos hc] at ht' hx;simp only [if_pos hc.1];have:=ht.at_ _ _ _ ht' hx;cases hq:bp (j - off) o with
   |some w'=>rw [hq] at this;exact this
   |none=>rw [hq] at this;simp only [eu,if_pos hc];exact this
  ·rw [if_neg hc] at ht' hx;have:=hv.at_ _ _ _ ht' hx;by_cases ho:off<=j
   ·simp only [if_pos ho];cases hq:bp (j - off) o with
    |some w'=>have:=ht.keys _ _ hq;omega
    |none=>simp only [eu,if_neg hc];exact this
   ·simp only [if_neg ho,eu,if_neg hc];exact this
 ·subst e;unfold cN at hp;simp only [h2,h3,cond_eq_ite,OY,if_pos rfl] at hp;split at hp
  ·split at hp
   ·exact⟨_,(O8 hp).symm⟩
   ·cases hp
  ·rename_i hh;exact absurd (by first|rfl|trivial) hh
end Go.Ax.V
namespace Go.Ax.V
theorem qV {g:G} (ha:act g) {P k:TV->Prop} (h:Cq g P k):∃v,P v/\k v:=by
 cases g with
 |none=>exact h
 |some p=>obtain⟨c,bb⟩:=p;obtain⟨v,h1,h2⟩:=h;have hc:c=.b bb:=ha;subst hc;refine⟨v,?_,h2⟩;unfold gV at h1;cases bb<;>exact h1
theorem jj {g:G} (ha:act g) {P:Option Nat} {k:Nat->Prop} (h:wG g P k):∃n,P=some n/\k n:=by
 cases g with
 |none=>exact h
 |some p=>obtain⟨c,bb⟩:=p;obtain⟨n,h1,h2⟩:=h;exact⟨n,h1 ha,h2⟩
def Next (nt:Nat) (A:aX) (V:aF) (st:St) (d:Option Nat) (v:AV) (H':av) (nx':Nat) (k:aF->Prop):Prop:=
 ∃e',rj nt st.env d v=some e'/\∃V' A',R A' V' ⟨e',H',nx'⟩/\Fr V A st.H st.nx V' A' H' nx'/\Ext V A V' A'/\k V'
theorem R.put {A:aX} {V:aF} {st:St} (h:R A V st) {d:Nat} {e:VE} {v:AV} (hv:(∀c bb,e.gd=some (c,bb)->c=.b bb)->VR A e.v v) :
  R A {V with env:=V.env.put (some e) d} ⟨st.env.put (some v) d,st.H,st.nx⟩ where
 env t e' he:=by
  simp only [Map.au] at he ⊢;split at he
  ·rename_i ht;subst ht;cases he;exact⟨v,by rw [if_pos rfl],hv⟩
  ·rename_i ht;rw [if_neg ht];exact h.env t e' he
 heap:=h.heap
 inj:=h.inj
 used:=h.used
 one:=h.one
 fresh:=h.fresh
 eI:=h.eI
theorem jk {nt:Nat} {A:aX} {V:aF} {st:St} {A1:aX} {V1:aF} {H':av} {nx':Nat} {d:Option Nat} {g:G} {w:VV} {v:AV} {k:aF->Prop}
  (hR:R A1 V1 ⟨st.env,H',nx'⟩) (hF:Fr V A st.H st.nx V1 A1 H' nx') (hx:Ext V A V1 A1) (hv:act g->VR A1 w v) (h:cw nt V1 d g w k):Next nt A V st d v H' nx' k:=by
 cases d with
 |none=>exact⟨st.env,rfl,V1,A1,hR,hF,hx,h⟩
 |some d=>
  simp only [cw,cond_eq_ite] at h;split at h
  ·rename_i hd;refine⟨st.env.put (some v) d,by simp only [rj,cond_eq_ite,if_pos hd],_,A1,hR.put (e:=⟨g,w⟩) (fun hh=>hv ?_),⟨hF.le,hF.same,hF.own⟩,⟨hx.mono,hx.new,hx.ev.us,hx.ev.gn⟩,h⟩;cases g with
   |none=>trivial
   |some p=>exact hh _ _ rfl
  ·cases h
theorem ay {nt:Nat} {A:aX} {V:aF} {st:St} (hR:R A V st) {d:Option Nat} {g:G} {w:VV} {v:AV} {k:aF->Prop} (hv:act g->VR A w v) (h:cw nt V d g w k):Next nt A V st d v st.H st.nx k:=
 jk (A1:=A) (V1:=V) hR (Fr.refl _ _ _ _) (Ext.refl _ _) hv h
theorem aR {nt:Nat} {A:aX} {V:aF} {st:St} (hR:R A V st) {d:Option Nat} {g:G} (ha:act g) {P:Option TV} {k:aF->Prop} (h:dh nt V d g P k) :
  ∃r,P=some r/\∀v,Can r v->Next nt A V st d v st.H st.nx k:=by
 obtain⟨r,h1,h2⟩:=qV ha h;exact⟨r,h1,fun v hv=>ay hR (fun _=>.tr hv) h2⟩
theorem R.sub {A:aX} {V V':aF} {st:St} (h:R A V st) (he:V'.env=V.env) (hu:V'.us=V.us) (hH:∀O o,V'.H.get O=some o->V.H.get O=some o):R A V' st where
 env t e hh:=h.env t e (by rw [←he];exact hh)
 heap O o hh:=h.heap O o (hH O o hh)
 inj O O' o o' a a' id h1 h2:=h.inj O O' o o' a a' id (hH _ _ h1) (hH _ _ h2)
 used O hh:=h.used O (by rw [←hu];exact hh)
 one:=h.one
 fresh:=h.fresh
 eI O o a ho ha:=h.eI O o a (hH _ _ ho) ha
theorem de {V:aF} {O O':Nat} {o:VO} (h:(bu V O).H.get O'=some o):O'≠O/\V.H.get O'=some o:=by
 simp only [bu,Map.au] at h;split at h
 ·cases h
 ·rename_i hne;exact⟨hne,h⟩
theorem R.bu {A:aX} {V:aF} {st:St} (h:R A V st) (O:Nat):R A (bu V O) st:=
 h.sub rfl rfl (fun O' o hh=>(de hh).2)
def ju (A:aX) (d:Nat) (a:AV) (inn:Nat->Option AV):aX
 |.s O=>if O=d then some a else A (.s O)
 |.i K v j=>if K=d then (if v=0 then inn j else none) else A (.i K v j)
theorem jU {A:aX} {d:Nat} {a:AV} {inn:Nat->Option AV}:ju A d a inn (.s d)=some a:=if_pos rfl
theorem dQ {A:aX} {d:Nat} {a:AV} {inn:Nat->Option AV} {n:TN} (h:n.base≠d):ju A d a inn n=A n:=by cases n<;>exact if_neg h
theorem Dv {A:aX} {d:Nat} {a:AV} {inn:Nat->Option AV} {j:Nat}:ju A d a inn (.i d 0 j)=inn j:=by simp only [ju,if_pos]
theorem Am {A:aX} {d:Nat} {a:AV} {inn:Nat->Option AV} {v j:Nat} (hv:0 < v):ju A d a inn (.i d v j)=none:=by simp only [ju,if_pos,if_neg (show ¬v=0 by omega)]
theorem oO {A:aX} {d:Nat} {a:AV} {inn:Nat->Option AV} (h:∀n:TN,n.base=d->A n=none):∀O x,A O=some x->ju A d a inn O=some x:=fun O x hx=>by rw [dQ (fun he=>by rw [h O he] at hx;cases hx)];exact hx
theorem kR {A:aX} {d:Nat} {a:AV} {inn:Nat->Option AV} {O:Nat} {o:VO} {x:AV} {id:Nat} (hne:O≠d) (hv:fY A O x o):cY (ju A d a inn) o x id↔cY A o x id:=by
 cases o with
 |gn K s io iz ver hole es=>
  obtain⟨rfl,_⟩:=hv;have e:∀j,ju A d a inn (.i K ver j)=A (.i K ver j):=fun j=>dQ hne
  simp only [cY,e]
 |_=>exact Iff.rfl
theorem Du {A:aX} {d:Nat} {a:AV} {inn:Nat->Option AV} {O:Nat} {o:VO} {x:AV} (hne:O≠d) (hv:fY A O x o):fY (ju A d a inn) O x o:=by
 cases o with
 |gn K s io iz ver hole es=>
  obtain⟨rfl,h1,h0,h2,h3⟩:=hv;have e:∀v j,ju A d a inn (.i K v j)=A (.i K v j):=fun v j=>dQ hne
  refine⟨rfl,fun v j hv=>by rw [e];exact h1 v j hv,fun j x=>by rw [e];exact h0 j x,fun j j' x x' id=>?_,fun j x id=>?_⟩
  ·rw [e,e];exact h2 j j' x x' id
  ·rw [e];exact h3 j x id
 |_=>trivial
theorem FZ {A:aX} {V:aF} {e:Env} {H':av} {nx':Nat} {d:Nat} {o:VO} {a:AV} {inn:Nat->Option AV} (qxp:∀t q,V.env.get t=some q->∃x,e.get t=some x/\((∀c bb,q.gd=some (c,bb)->c=.b bb)->VR A q.v x))
  (qzE:∀(O:Nat) o,V.H.get O=some o->∃x,A O=some x/\OR A H' o x)
  (hinj:∀(O O':Nat) o o' a a' id,V.H.get O=some o->V.H.get O'=some o'->A O=some a->A O'=some a'->cY A o a id->cY A o' a' id->O=O')
  (qzn:∀n:TN,V.us.get n.base=none->A n=none) (hone:∀n a,A n=some a->a.one=true) (qxm:∀id ob,H'.get id=some ob->id < nx') (qxM:∀(O:Nat) o a,V.H.get O=some o->A O=some a->fY A O a o)
  (hus:V.us.get d=none) (h1:a.one=true) (hi1:∀j x,inn j=some x->x.one=true) (hO:OR (ju A d a inn) H' o a) (qzW:fY (ju A d a inn) d a o)
  (hid:∀id,cY (ju A d a inn) o a id->¬b6 V A id):R (ju A d a inn) {V with H:=V.H.put (some o) d,us:=V.us.put (some ()) d} ⟨e,H',nx'⟩:=by
 have hnone:∀n:TN,n.base=d->A n=none:=fun n hn=>qzn n (by rw [hn];exact hus)
 have hA':=oO (a:=a) (inn:=inn) hnone;have hnd:∀(O:Nat) o',V.H.get O=some o'->O≠d:=fun O o' ho he=>by obtain⟨x,hx,_⟩:=qzE O o' ho;rw [hnone (.s O) he] at hx;cases hx
 refine⟨fun t q he=>?_,fun O o' ho=>?_,fun O O' o1 o2 a1 a2 id ho1 ho2 ha1 ha2 hi1 hi2=>?_,fun n hu=>?_,fun n x hx=>?_,qxm,fun O o' x ho hx=>?_⟩
 ·obtain⟨x,hx,hv⟩:=qxp t q he;exact⟨x,hx,fun hh=>(hv hh).mono hA'⟩
 ·simp only [Map.au] at ho;split at ho
  ·rename_i hd;subst hd;cases ho;exact⟨a,jU,hO⟩
  ·obtain⟨x,hx,hor⟩:=qzE O o' ho;exact⟨x,hA' _ _ hx,hor.mono hA' (fun _ _=>rfl)⟩
 ·simp only [Map.au] at ho1 ho2;by_cases e1:O=d
  ·by_cases e2:O'=d
   ·rw [e1,e2]
   ·subst e1;rw [if_neg e2] at ho2;rw [if_pos rfl] at ho1;cases ho1;have qzO:A O'=some a2:=by rwa [dQ (n:=.s O') e2] at ha2
    rw [jU] at ha1;cases ha1;rw [kR e2 (qxM O' _ _ ho2 qzO)] at hi2;exact absurd ⟨O',_,a2,ho2,qzO,hi2⟩ (hid id hi1)
  ·rw [if_neg e1] at ho1;have qjm:A O=some a1:=by rwa [dQ (n:=.s O) e1] at ha1
   rw [kR e1 (qxM O _ _ ho1 qjm)] at hi1;by_cases e2:O'=d
   ·subst e2;rw [if_pos rfl] at ho2;cases ho2;rw [jU] at ha2;cases ha2;exact absurd ⟨O,_,a1,ho1,qjm,hi1⟩ (hid id hi2)
   ·rw [if_neg e2] at ho2;have qzO:A O'=some a2:=by rwa [dQ (n:=.s O') e2] at ha2
    rw [kR e2 (qxM O' _ _ ho2 qzO)] at hi2;exact hinj O O' _ _ a1 a2 id ho1 ho2 qjm qzO hi1 hi2
 ·simp only [Map.au] at hu;split at hu
  ·cases hu
  ·rename_i hne;rw [dQ hne];exact qzn n hu
 ·by_cases e:n.base=d
  ·cases n with
   |s O=>have e':O=d:=e;subst e';rw [jU] at hx;cases hx;exact h1
   |i K v j=>
    have e':K=d:=e;subst e';simp only [ju,if_pos] at hx;split at hx
    ·exact hi1 j x hx
    ·cases hx
  ·rw [dQ e] at hx;exact hone n x hx
 ·simp only [Map.au] at ho;by_cases e:O=d
  ·subst e;rw [if_pos rfl] at ho;cases ho;rw [jU] at hx;cases hx;exact qzW
  ·rw [if_neg e] at ho;have hx':A O=some x:=by rwa [dQ (n:=.s O) e] at hx
   exact Du e (qxM O o' x ho hx')
theorem tU {nt:Nat} {A:aX} {V0 V:aF} {st:St} {d:Option Nat} {g:G} {wf:Nat->VV} {o:VO} {k:aF->Prop} {a v:AV} {H':av} {nx':Nat} {inn:Nat->Option AV}
  (hR:R A V st) (qxI:∀id,b6 V A id->b6 V0 A id) (h:gh nt V d g wf o k) (hle:st.nx<=nx') (qxm:∀id ob,H'.get id=some ob->id < nx')
  (hkeep:∀id,b6 V A id->H'.get id=st.H.get id) (hsame:∀id,id < st.nx->¬b6 V0 A id->H'.get id=st.H.get id) (hi1:∀j x,inn j=some x->x.one=true)
  (hO:∀(A':aX) (dd:Nat),d=some dd->(∀O x,A O=some x->A' O=some x)->(∀j,A' (.i dd 0 j)=inn j)->(∀v j,0 < v->A' (.i dd v j)=none)->OR A' H' o a/\fY A' dd a o/\∀id,cY A' o a id->¬b6 V A id/\(b6 V0 A id\/st.nx<=id)) (h1:a.one=true)
  (hw:∀(A':aX) (O:Nat),A' O=some a->VR A' (wf O) v) (hev:iE V0 V):Next nt A V0 st d v H' nx' k:=by
 unfold gh at h;split at h
 ·cases h
 split at h
 ·cases h
 rename_i d;split at h
 ·cases h
 rename_i hus;have hnone:∀n:TN,n.base=d->A n=none:=fun n hn=>hR.used n (by rw [hn];exact hus)
 have hA':=oO (a:=a) (inn:=inn) hnone;obtain⟨hO1,hO2,hO3⟩:=hO (ju A d a inn) d rfl hA' (fun j=>Dv) (fun v j hv=>Am hv);have qzD:∀(O:Nat) o,V.H.get O=some o->∃x,A O=some x/\OR A H' o x:=fun O o' ho=>by obtain⟨x,hx,hor⟩:=hR.heap O o' ho;exact⟨x,hx,hor.mono (fun _ _ h=>h) (fun id hi=>hkeep id ⟨O,o',x,ho,hx,hi⟩)⟩
 refine jk (A1:=ju A d a inn) (V1:={V with H:=V.H.put (some o) d,us:=V.us.put (some ()) d}) (FZ hR.env qzD hR.inj hR.used hR.one qxm hR.eI hus h1 hi1 hO1 hO2 (fun id hi=>(hO3 id hi).1)) ?_ ⟨hA',fun n x hx=>?_,hev.trans (iE.name hus)⟩ (fun _=>hw _ d jU) h
 ·refine⟨hle,hsame,fun id ⟨O,o',x,ho,hx,hi⟩=>?_⟩;simp only [Map.au] at ho;by_cases e:O=d
  ·subst e;rw [if_pos rfl] at ho;cases ho;rw [jU] at hx;cases hx;exact(hO3 id hi).2
  ·rw [if_neg e] at ho;have hx':A O=some x:=by rwa [dQ (n:=.s O) e] at hx
   rw [kR e (hR.eI O _ _ ho hx')] at hi;exact .inl (qxI id ⟨O,o',x,ho,hx',hi⟩)
 ·by_cases e:n.base=d
  ·exact .inr (.inl (by rw [e];exact hev.us _ hus))
  ·exact .inl (by rwa [dQ e] at hx)
theorem mJ {nt:Nat} {A:aX} {V0 V:aF} {st:St} {d:Option Nat} {g:G} {wf:Nat->VV} {o:VO} {k:aF->Prop} {a v:AV} {H':av} {nx':Nat}
  (hR:R A V st) (qxI:∀id,b6 V A id->b6 V0 A id) (h:gh nt V d g wf o k) (hle:st.nx<=nx') (qxm:∀id ob,H'.get id=some ob->id < nx')
  (hkeep:∀id,b6 V A id->H'.get id=st.H.get id) (hsame:∀id,id < st.nx->¬b6 V0 A id->H'.get id=st.H.get id)
  (hO:∀A':aX,(∀O x,A O=some x->A' O=some x)->OR A' H' o a) (h1:a.one=true) (hid:∀id,bV a=some id->¬b6 V A id/\(b6 V0 A id\/st.nx<=id))
  (hw:∀(A':aX) (O:Nat),A' O=some a->VR A' (wf O) v) (hpl:o.pl=true) (hev:iE V0 V):Next nt A V0 st d v H' nx' k:=
 tU (inn:=fun _=>none) hR qxI h hle qxm hkeep hsame (fun j x h=>by cases h) (fun A' dd _ h2 _ _=>⟨hO A' h2,mg hpl,fun id hi=>hid id ((b9 hpl).1 hi)⟩) h1 hw hev
theorem tT {nt:Nat} {A:aX} {V0 V:aF} {st:St} {d:Option Nat} {g:G} {wf:Nat->VV} {o:VO} {k:aF->Prop} {a v:AV} {H':av} {nx':Nat}
  (hR:R A V st) (hsub:∀O o,V.H.get O=some o->V0.H.get O=some o) (h:gh nt V d g wf o k) (hle:st.nx<=nx') (qxm:∀id ob,H'.get id=some ob->id < nx')
  (hkeep:∀id,b6 V A id->H'.get id=st.H.get id) (hsame:∀id,id < st.nx->¬b6 V0 A id->H'.get id=st.H.get id)
  (hO:∀A':aX,(∀O x,A O=some x->A' O=some x)->OR A' H' o a) (h1:a.one=true) (hid:∀id,bV a=some id->¬b6 V A id/\(b6 V0 A id\/st.nx<=id))
  (hw:∀(A':aX) (O:Nat),A' O=some a->VR A' (wf O) v) (hpl:o.pl=true:=by rfl) (hu:V.us=V0.us:=by rfl):Next nt A V0 st d v H' nx' k:=
 mJ hR (fun id ⟨O,o,a,h1,h2,h3⟩=>⟨O,o,a,hsub _ _ h1,h2,h3⟩) h hle qxm hkeep hsame hO h1 hid hw hpl (iE.HH hu hsub)
theorem gX {nt:Nat} {A:aX} {V:aF} {st:St} {d:Option Nat} {g:G} {wf:Nat->VV} {o:VO} {k:aF->Prop} {a v:AV} {ob:dN}
  (hR:R A V st) (h:gh nt V d g wf o k) (hO:∀A':aX,(∀O x,A O=some x->A' O=some x)->OR A' (st.H.put (some ob) st.nx) o a) (h1:a.one=true) (hid:bV a=some st.nx)
  (hw:∀(A':aX) (O:Nat),A' O=some a->VR A' (wf O) v) (hpl:o.pl=true:=by rfl):Next nt A V st d v (st.H.put (some ob) st.nx) (st.nx+1) k:=by
 have hno:∀id,b6 V A id->id≠st.nx:=fun id ho he=>by have:=hR.ff ho;omega
 refine tT (V0:=V) hR (fun _ _ h=>h) h (Nat.le_succ _) (fun id o' hh=>?_) (fun id ho=>by rw [Map.au,if_neg (hno id ho)])
  (fun id hlt _=>by rw [Map.au,if_neg (by omega)]) hO h1 (fun id hi=>?_) hw hpl
 ·rw [Map.au] at hh;split at hh
  ·omega
  ·have:=hR.fresh _ _ hh;omega
 ·rw [hid] at hi;cases hi;exact⟨fun ho=>hno _ ho rfl,.inr (Pa _)⟩
theorem m9 {A:aX} {V:aF} {st:St} (hR:R A V st) {O:Nat} {o0 o:VO} {a:AV} {id:Nat} {ob:dN} (hV:V.H.get O=some o0) (hA:A O=some a) (hi:cY A o0 a id)
  (hO:OR A (st.H.put (some ob) id) o a) (qxk:∀id,cY A o a id->cY A o0 a id) (qzW:fY A O a o0->fY A O a o):R A (bh V O o) ⟨st.env,st.H.put (some ob) id,st.nx⟩/\Fr V A st.H st.nx (bh V O o) A (st.H.put (some ob) id) st.nx:=by
 have hown:b6 V A id:=⟨O,o0,a,hV,hA,hi⟩;have get':∀(O':Nat) o' x id',(bh V O o).H.get O'=some o'->A O'=some x->cY A o' x id'->∃o'',V.H.get O'=some o''/\cY A o'' x id':=fun O' o' x id' hh hx hi'=>by
  simp only [bh,Map.au] at hh;split at hh
  ·rename_i e;subst e;cases hh;rw [hA] at hx;cases hx;exact⟨_,hV,qxk _ hi'⟩
  ·exact⟨_,hh,hi'⟩
 refine⟨⟨hR.env,fun O' o' ho=>?_,fun O1 O2 o1 o2 a1 a2 id' ho1 ho2 h1 h2 i1 i2=>?_,hR.used,hR.one,fun id' o' hh=>?_,fun O' o' x ho hx=>?_⟩,⟨Pa _,fun id' _ hn=>?_,fun id' ⟨O',o',x,h1,h2,h3⟩=>?_⟩⟩
 ·simp only [bh,Map.au] at ho;by_cases e:O'=O
  ·subst e;rw [if_pos rfl] at ho;cases ho;exact⟨a,hA,hO⟩
  ·rw [if_neg e] at ho;obtain⟨x,hx,hor⟩:=hR.heap O' o' ho;refine⟨x,hx,hor.mono (fun _ _ h=>h) (fun id' hi'=>?_)⟩;rw [Map.au,if_neg];rintro rfl;exact e (hR.inj O' O _ _ x a _ ho hV hx hA hi' hi)
 ·obtain⟨p1,h3,h4⟩:=get' _ _ _ _ ho1 h1 i1;obtain⟨p2,h5,h6⟩:=get' _ _ _ _ ho2 h2 i2;exact hR.inj O1 O2 _ _ a1 a2 id' h3 h5 h1 h2 h4 h6
 ·have hh':(st.H.put (some ob) id).get id'=some o':=hh;rw [Map.au] at hh';split at hh'
  ·rename_i e;subst e;exact hR.ff hown
  ·exact hR.fresh _ _ hh'
 ·simp only [bh,Map.au] at ho;split at ho
  ·rename_i e;subst e;cases ho;rw [hA] at hx;cases hx;exact qzW (hR.eI _ _ _ hV hA)
  ·exact hR.eI _ _ _ ho hx
 ·rw [Map.au,if_neg];rintro rfl;exact hn hown
 ·obtain⟨o'',h4,h5⟩:=get' _ _ _ _ h1 h2 h3;exact .inl ⟨O',o'',x,h4,h2,h5⟩
theorem kK {a:AV} (h:a.flat=true) (d:Nat) (H:av):aN (d+1) H a=some a:=by cases a<;>first|rfl|cases h
theorem oB {cs:List AV} (h:∀x∈cs,AV.flat x=true) (d:Nat) (H:av):cr (aN (d+1) H) cs=some cs:=by
 induction cs with
 |nil=>rfl
 |cons x cs ih=>rw [bZ,kK (h x ON),ih (fun y hy=>h y (OO _ hy))]
theorem tK {a:AV} (h:a.eJ=true):a.flat=true\/∃cs,a=.agg cs/\∀x∈cs,AV.flat x=true:=by cases a<;>first|exact .inr ⟨_,rfl,aJ.1 h⟩|exact .inl h
theorem wO {a:AV} (h:a.plain=true):a.eJ=true\/∃cs,a=.dL cs/\∀x∈cs,AV.eJ x=true:=by cases a<;>first|exact .inr ⟨_,rfl,aJ.1 h⟩|exact .inl h
theorem rY {a:AV} (h:a.eJ=true) (d:Nat) (H:av):aN (d+2) H a=some a:=by
 rcases tK h with h|⟨cs,rfl,h'⟩
 ·exact kK h (d+1) H
 ·rw [eR,oB h']
theorem xh {cs:List AV} (h:∀x∈cs,AV.eJ x=true) (d:Nat) (H:av):cr (aN (d+2) H) cs=some cs:=by
 induction cs with
 |nil=>rfl
 |cons x cs ih=>rw [bZ,rY (h x ON),ih (fun y hy=>h y (OO _ hy))]
theorem gz {a:AV} (h:a.plain=true) (d:Nat) (H:av):aN (d+3) H a=some a:=by
 rcases wO h with h|⟨cs,rfl,h'⟩
 ·exact rY h (d+1) H
 ·rw [fF,xh h']
theorem fM {t:TV} {a:AV} (h:Can t a):a.plain=true:=by
 cases h with
 |a ts as hl hf h=>exact aJ.2 hf
 |tp ts as hl hf h=>exact aJ.2 hf
 |pW x u hf h=>revert hf;cases a<;>intro hf<;>first|rfl|cases hf
 |_=>rfl
theorem vJ {sz:Nat} {es:List TV} {cs:List AV} (hz:0 < sz) (h:vW sz es cs) (c:Option Nat):Can (.l es) (.b5 cs es.length c):=
 .b5 es cs es.length sz c rfl h.len hz h.flat h.el
theorem uY {H:av} {sz:Nat} {es:List TV} {a:AV} (h:qb H sz es a) (d:Nat):∃a',aN (d+2) H a=some a'/\Can (.l es) a'/\a'.flat=true/\(a.plain=true->a'=a)/\a.one=true:=by
 obtain⟨hz,h⟩:=h;rcases h with ⟨rfl,rfl|rfl⟩|⟨id,g,b,cells,rfl,hH,hb,he⟩
 ·exact⟨_,rfl,.nil,rfl,fun _=>rfl,rfl⟩
 ·exact⟨_,rfl,fm,rfl,fun _=>rfl,rfl⟩
 ·have hl:cells.length=b+es.length*sz:=by have:=he.len;rw [OJ] at this;omega
  refine⟨.b5 (cells.drop b) es.length none,?_,vJ hz he _,rfl,(fun hp=>by cases hp),rfl⟩;rw [ei,hH];simp only [cond_eq_ite,OY,if_pos];have:cut cells b (Nat.mul es.length sz)=some (cells.drop b):=by rw [cI,if_pos (by show b+es.length*sz<=_;omega),O7];rw [OJ];show _<=es.length*sz;omega
  rw [this];simp only [oB he.flat]
theorem ze {a:AV} (h:a.flat=true):a.plain=true:=by cases a<;>first|rfl|cases h
theorem vl {f:AV->Option AV}:∀{cs:List AV} (P:Nat->AV->AV->Prop),(∀j x,cs[j]?=some x->∃y,f x=some y/\P j x y)->∃l,cr f cs=some l/\l.length=cs.length/\∀j x y,cs[j]?=some x->l[j]?=some y->P j x y
 |[],P,h=>⟨[],rfl,rfl,fun j x y hx=>by simp at hx⟩
 |x::cs,P,h=>by
  obtain⟨y,h1,h2⟩:=h 0 x rfl;obtain⟨l,h3,h4,h5⟩:=vl (f:=f) (cs:=cs) (fun j=>P (j+1)) (fun j x hx=>h (j+1) x hx);refine⟨y::l,by rw [bZ,h1,h3],by simp [h4],fun j x' y' hx hy=>?_⟩;cases j with
  |zero=>simp at hx hy;subst hx;subst hy;exact h2
  |succ j=>exact h5 j x' y' (by simpa using hx) (by simpa using hy)
theorem Dq {A:aX} {H:av} {K s io iz ver:Nat} {es:List TV} {a:AV} (h:OR A H (.gn K s io iz ver none es) a) (d:Nat):∃a',aN (d+3) H a=some a'/\Can (.l es) a'/\a'.flat=true/\(a.plain=true->a'=a):=by
 obtain⟨hs,hio,hiz,h⟩:=h;rcases h with ⟨rfl,rfl|rfl⟩|⟨id,g,b,cells,rfl,hH,hb,he⟩
 ·exact⟨_,rfl,.nil,rfl,fun _=>rfl⟩
 ·exact⟨_,rfl,fm,rfl,fun _=>rfl⟩
 ·have hl:cells.length=b+es.length*s:=by have:=he.len;rw [OJ] at this;omega
  have cell:∀(q:Nat) x,(cells.drop b)[q]?=some x->∃(j o:Nat) (e:TV) (ts:List TV) (t:TV),q=j*s+o/\o < s/\es[j]?=some e/\bF e=some ts/\ts.length=s/\ts[o]?=some t/\∃y,aN (d+2) H x=some y/\Can t y/\y.flat=true:=by
   intro q x hq;have hlt:q < es.length*s:=by have:=(Ow.1 hq).1;rw [he.len] at this;exact this
   have hj:q / s < es.length:=(Nat.div_lt_iff_lt_mul hs).2 hlt;have hqe:q=q / s*s+q % s:=by rw [Nat.mul_comm];exact(Nat.div_add_mod q s).symm
   obtain⟨ts,g1,g2,g3,x',g4,g5,g6⟩:=he.el (q / s) _ (Ov hj);have ho:q % s < ts.length:=by rw [g2];exact Nat.mod_lt _ hs
   refine⟨q / s,q % s,_,ts,_,hqe,Nat.mod_lt _ hs,Ov hj,g1,g2,Ov ho,?_⟩;by_cases hoo:q % s=io
   ·obtain⟨l,g7,g8⟩:=g6 (by simp);rw [hqe,hoo,g4] at hq;cases hq;obtain⟨y,p1,p2,p3,_⟩:=uY g8 d;refine⟨y,p1,?_,p3⟩;have e:ts[q % s]=.l l:=by
     have:=Ov ho;have h2:ts[q % s]?=some (.l l):=by rw [hoo];exact g7
     rw [this] at h2;exact O8 h2
    rw [e];exact p2
   ·obtain⟨p1,p2⟩:=g3 (q % s) _ x hoo (Ov ho) (by rw [←hqe];exact hq);exact⟨x,kK p2 (d+1) H,p1,p2⟩
  obtain⟨cs',g1,g2,g3⟩:=vl (f:=aN (d+2) H) (cs:=cells.drop b) (fun q x y=>∃(j o:Nat) (e:TV) (ts:List TV) (t:TV),q=j*s+o/\o < s/\es[j]?=some e/\bF e=some ts/\ts.length=s/\ts[o]?=some t/\Can t y/\y.flat=true) (fun q x hq=>by obtain⟨j,o,e,ts,t,h1,h2,h3,h4,h5,h6,y,h7,h8,h9⟩:=cell q x hq;exact⟨y,h7,j,o,e,ts,t,h1,h2,h3,h4,h5,h6,h8,h9⟩)
  have hlc:cs'.length=es.length*s:=by rw [g2,he.len]
  have at_:∀(q:Nat) y,cs'[q]?=some y->∃(j o:Nat) (e:TV) (ts:List TV) (t:TV),q=j*s+o/\o < s/\es[j]?=some e/\bF e=some ts/\ts.length=s/\ts[o]?=some t/\Can t y/\y.flat=true:=fun q y hy=>by
   have hlt:q < (cells.drop b).length:=by rw [←g2];exact(Ow.1 hy).1
   exact g3 q _ y (Ov hlt) hy
  refine⟨.b5 cs' es.length none,?_,.b5 _ _ _ s _ rfl hlc hs (fun x hx=>?_) (fun j e hj=>?_),rfl,fun hp=>by cases hp⟩
  ·rw [ei,hH];simp only [cond_eq_ite,OY,if_pos];have:cut cells b (Nat.mul es.length s)=some (cells.drop b):=by rw [cI,if_pos (by show b+es.length*s<=_;omega),O7];rw [OJ];show _<=es.length*s;omega
   rw [this];simp only [g1]
  ·obtain⟨q,hq⟩:=List.getElem?_of_mem hx;obtain⟨_,_,_,_,_,_,_,_,_,_,_,_,hf⟩:=at_ q x hq;exact hf
  ·obtain⟨ts,h1,h2,_⟩:=he.el j e hj;have hjl:=(Ow.1 hj).1;have hle:j*s+s<=es.length*s:=by rw [←Nat.succ_mul];exact Nat.mul_le_mul_right s hjl
   refine dJ.2 ⟨ts,h1,by rw [OI,OJ,hlc,h2];omega,fun o t y ht hy=>?_⟩;have ho:o < s:=by rw [←h2];exact(Ow.1 ht).1
   rw [OB,OC,if_pos ho] at hy;obtain⟨j',o',e',ts',t',p1,p2,p3,p4,p5,p6,p7,_⟩:=at_ _ y hy;have hjj:j=j':=by
    have e1:(j*s+o) / s=j:=by rw [Nat.mul_comm,Nat.mul_add_div hs,Nat.div_eq_of_lt ho,Nat.add_zero]
    have e2:(j'*s+o') / s=j':=by rw [Nat.mul_comm,Nat.mul_add_div hs,Nat.div_eq_of_lt p2,Nat.add_zero]
    rw [←e1,p1,e2]
   subst hjj;have hoo:o=o':=by omega
   subst hoo;rw [hj] at p3;cases p3;rw [h1] at p4;cases p4;rw [ht] at p6;cases p6;exact p7
theorem xq {es:List TV} {i io:Nat} {l:List TV} (h:p9 es i io=some l):∃e,es[i]?=some e/\cu e io=some (.l l):=by
 unfold p9 at h;split at h
 ·rename_i e he;split at h
  ·rename_i l' hl;cases h;exact⟨e,he,hl⟩
  ·cases h
 ·cases h
theorem DN {e t:TV} {io:Nat} {ts:List TV} (hc:bF e=some ts) (h:cu e io=some t):ts[io]?=some t:=by
 cases e<;>first|(cases hc;done)|skip
 all_goals first
  |(cases hc;exact h)
  |(cases hc;cases io with
    |zero=>exact h
    |succ n=>cases h)
theorem ct {V:aF} {O v:Nat} {k:Nat->Nat->Nat->List TV->Prop} (h:E2 V O v k):∃s io iz es,V.H.get O=some (.gn O s io iz v none es)/\k s io iz es:=by
 unfold E2 at h;split at h
 ·rename_i K s io iz ver es ho;split at h
  ·rename_i hb;rw [OV,OY,OY] at hb;obtain⟨rfl,rfl⟩:=hb;exact⟨s,io,iz,es,ho,h⟩
  ·cases h
 ·cases h
theorem oI {A:aX} {H:av} {K s io iz ver:Nat} {hole:Option Nat} {es:List TV} {a:AV} {i:Nat} {l:List TV} (h:OR A H (.gn K s io iz ver hole es) a) (hi:p9 es i io=some l) (hn:hole≠some i) {x:AV} (hx:A (.i K ver i)=some x):qb H iz l x:=by
 obtain⟨hs,hio,hiz,h⟩:=h;obtain⟨e,he,hc⟩:=xq hi;rcases h with ⟨rfl,_⟩|⟨id,g,b,cells,rfl,hH,hb,hg⟩
 ·simp at he
 ·obtain⟨ts,g1,g2,g3,x',g4,g5,g6⟩:=hg.el i e he;rw [hx] at g5;cases g5;obtain⟨l',p1,p2⟩:=g6 hn;rw [DN g1 hc] at p1;cases p1;exact p2
theorem m6 {A:aX} {V:aF} {st:St} (h:R A V st) {w:VV} {x:AV} {k:List TV->Prop} (hv:uP A w x) (hk:pR V w k) (d:Nat) :
  ∃es a',aN (d+3) st.H x=some a'/\Can (.l es) a'/\a'.flat=true/\(x.plain=true->a'=x)/\k es:=by
 cases w<;>first|(cases hk;done)|skip
 ·refine⟨[],x,?_,?_,?_,fun _=>rfl,hk⟩<;>rcases hv with rfl|rfl<;>first|rfl|exact .nil|exact fm
 ·rename_i O;simp only [pR] at hk;split at hk
  ·rename_i sz es ho;obtain⟨a,h1,h2⟩:=h.heap O _ ho;have hv':A O=some x:=hv;rw [hv'] at h1;cases h1;obtain⟨a',h3,h4,h5,h6,_⟩:=uY h2 (d+1);exact⟨es,a',h3,h4,h5,h6,hk⟩
  ·rename_i es ho;obtain⟨a,h1,h2⟩:=h.heap O _ ho;have hv':A O=some x:=hv;rw [hv'] at h1;cases h1;obtain⟨a',h3,h4,h5,h6⟩:=Dq h2 d;exact⟨es,a',h3,h4,h5,h6,hk⟩
  ·cases hk
 ·rename_i O v i;obtain⟨s,io,iz,es,ho,l,hl,hk⟩:=ct hk;obtain⟨a,h1,h2⟩:=h.heap O _ ho;obtain⟨a',h3,h4,h5,h6,_⟩:=uY (oI h2 hl (by simp) hv) (d+1);exact⟨l,a',h3,h4,h5,h6,hk⟩
theorem m7 {V:aF} {w:VV} {k:List TV->Prop} (hk:pR V w k):∃es,k es:=by
 unfold pR at hk;split at hk
 ·split at hk
  ·exact⟨_,hk⟩
  ·exact⟨_,hk⟩
  ·cases hk
 ·obtain⟨_,_,_,_,_,l,_,hk⟩:=ct hk;exact⟨l,hk⟩
 ·exact⟨_,hk⟩
 ·cases hk
theorem CK {l:List TV} {off n:Nat} {x u:TV} (h:cN (.a l) off n x=some u):∃l',u=.a l':=by
 unfold cN at h;split at h
 ·cases h
 ·rw [cond_eq_ite] at h;split at h
  ·simp only at h;split at h
   ·cases h;exact⟨_,rfl⟩
   ·cases h
  ·cases h
theorem we {A:aX} {V:aF} {st:St} (h:R A V st) (d:Nat):∀(ovs:List (Nat×VV)) (P:Nat->Prop) (v:TV) (ts:List TV) (cs:List AV) (k:TV->Prop),bF v=some ts->ts.length=cs.length->
  (∀j t x,P j->ts[j]?=some t->cs[j]?=some x->match bp j ovs with|none=>True|some w=>uP A w x)->s5 V ovs v k->
  ∃u us,bF u=some us/\us.length=ts.length/\k u/\(∀l,v=.a l->∃l',u=.a l')/\
   ∀j u' x,P j->us[j]?=some u'->cs[j]?=some x->match bp j ovs with|none=>ts[j]?=some u'|some w=>∃a',aN (d+3) st.H x=some a'/\Can u' a'/\a'.flat=true/\(x.plain=true->a'=x)
 |[],P,v,ts,cs,k,hc,hl,ho,hk=>⟨v,ts,hc,rfl,hk,fun l e=>⟨l,e⟩,fun j u' x _ hu hx=>hu⟩
 |(off,w)::r,P,v,ts,cs,k,hc,hl,ho,hk=>by
  obtain⟨u,us,h1,h2,h3,h4,h5⟩:=we h d r (fun j=>P j/\j≠off) v ts cs _ hc hl (fun j t x hp ht hx=>by have:=ho j t x hp.1 ht hx;rwa [aY,if_neg (Ne.symm hp.2)] at this) hk
  by_cases hoff:P off/\off < ts.length
  ·obtain⟨hP,hlt⟩:=hoff;have hx:cs[off]?=some (cs[off]'(by omega)):=Ov _;have ht:ts[off]?=some ts[off]:=Ov _;have hsl:=ho off _ _ hP ht hx;rw [aY,if_pos rfl] at hsl;obtain⟨es,a',g1,g2,g3,g4,u',g5,g6⟩:=m6 h hsl h3 d;obtain⟨us0,xs,us',p1,p2,p3,p4,p5,p6,p7⟩:=bM g5;rw [h1] at p1;cases p1;cases p2;refine⟨u',us',p4,by omega,g6,fun l e=>?_,fun j q x hp hq hx'=>?_⟩
   ·obtain⟨l',rfl⟩:=h4 l e;exact CK g5
   ·rw [p7] at hq;rw [aY];by_cases e:off=j
    ·subst e;rw [if_pos (by omega)] at hq;simp at hq;rw [if_pos rfl];subst hq;rw [hx'] at hx;cases hx;exact⟨a',g1,g2,g3,g4⟩
    ·rw [if_neg (by omega)] at hq;rw [if_neg e];exact h5 j q x ⟨hp,Ne.symm e⟩ hq hx'
  ·obtain⟨es,u',g5,g6⟩:=m7 h3;obtain⟨us0,xs,us',p1,p2,p3,p4,p5,p6,p7⟩:=bM g5;rw [h1] at p1;cases p1;refine⟨u',us',p4,by omega,g6,fun l e=>?_,fun j q x hp hq hx'=>?_⟩
   ·obtain⟨l',rfl⟩:=h4 l e;exact CK g5
   ·rw [p7] at hq;rw [aY];by_cases e:off=j
    ·subst e;exact absurd ⟨hp,by have:=(Ow.1 hx').1;omega⟩ hoff
    ·rw [if_neg (by omega)] at hq;rw [if_neg e];exact h5 j q x ⟨hp,Ne.symm e⟩ hq hx'
theorem oU {A:aX} {V:aF} {st:St} (h:R A V st) {v:TV} {ovs:List (Nat×VV)} {cs:List AV} {ts:List TV} {k:TV->Prop} (hc:aS A v ovs cs ts) (hk:s5 V ovs v k) (d:Nat) :
  ∃u us cs',cr (aN (d+3) st.H) cs=some cs'/\bF u=some us/\BC us cs'/\k u/\(∀l,v=.a l->∃l',u=.a l')/\((∀x∈cs,AV.flat x=true)->cs'=cs):=by
 obtain⟨u,us,h1,h2,h3,h4,h5⟩:=we h d ovs (fun _=>True) v ts cs k hc.cells hc.len (fun j t x _ ht hx=>by
  have:=hc.at_ j t x ht hx;unfold D7 at this;cases ho:bp j ovs with
  |none=>trivial
  |some w=>rw [ho] at this;exact this) hk
 obtain⟨cs',g1,g2,g3⟩:=vl (f:=aN (d+3) st.H) (cs:=cs) (fun j x y=>∀u',us[j]?=some u'->Can u' y/\y.flat=true/\(x.flat=true->y=x)) (fun j x hx=>by
  have hlt:j < us.length:=by rw [h2,hc.len];exact(Ow.1 hx).1
  have hu:us[j]?=some us[j]:=Ov _;have hp:=h5 j _ x trivial hu hx;cases ho:bp j ovs with
  |none=>rw [ho] at hp;have hq:=hc.at_ j _ x hp hx;rw [ho] at hq;exact⟨x,kK hq.2 (d+2) st.H,fun u' hu'=>by rw [hu] at hu';cases hu';exact⟨hq.1,hq.2,fun _=>rfl⟩⟩
  |some w=>rw [ho] at hp;obtain⟨a',p1,p2,p3,p4⟩:=hp;exact⟨a',p1,fun u' hu'=>by rw [hu] at hu';cases hu';exact⟨p2,p3,fun hf=>p4 (ze hf)⟩⟩)
 have hlen:us.length=cs'.length:=by rw [g2,h2,hc.len]
 have both:∀j y,cs'[j]?=some y->∃x u',cs[j]?=some x/\us[j]?=some u':=fun j y hy=>by have hlt:=(Ow.1 hy).1;exact⟨cs[j]'(by omega),us[j]'(by omega),Ov _,Ov _⟩
 refine⟨u,us,cs',g1,h1,⟨⟨hlen,fun j t y ht hy=>?_⟩,fun y hy=>?_⟩,h3,h4,fun hf=>?_⟩
 ·obtain⟨x,u',hx,hu⟩:=both j y hy;exact(g3 j x y hx hy t ht).1
 ·obtain⟨j,hj⟩:=List.getElem?_of_mem hy;obtain⟨x,u',hx,hu⟩:=both j y hj;exact(g3 j x y hx hj u' hu).2.1
 ·apply List.ext_getElem?;intro j;cases hy:cs'[j]? with
  |none=>rw [List.getElem?_eq_none_iff] at hy;exact(List.getElem?_eq_none_iff.2 (by omega)).symm
  |some y=>obtain⟨x,u',hx,hu⟩:=both j y hy;rw [hx,(g3 j x y hx hy u' hu).2.2 (hf x (OD hx))]
theorem bL {i j z:Nat} (h:i < j):i*z+z<=j*z:=by have:(i+1)*z<=j*z:=Nat.mul_le_mul_right z h;rwa [Nat.add_mul,Nat.one_mul] at this
theorem uE {sz:Nat} {es xs:List TV} {cs ds:List AV} (h:vW sz es cs) (h':vW sz xs ds):vW sz (es++xs) (cs++ds):=by
 refine⟨by rw [OH,OH,h.len,h'.len,Nat.add_mul],fun x hx=>(OQ.1 hx).elim (h.flat x) (h'.flat x),fun j e hj=>?_⟩;by_cases hlt:j < es.length
 ·rw [Ox hlt] at hj;have:=bL (z:=sz) hlt;have:((cs++ds).drop (j*sz)).take sz=(cs.drop (j*sz)).take sz:=by rw [List.drop_append_of_le_length (by rw [h.len];omega),List.take_append_of_le_length (by rw [OJ,h.len];omega)]
  rw [this];exact h.el j e hj
 ·rw [Oy (by omega)] at hj;have e1:j*sz=cs.length+(j - es.length)*sz:=by rw [h.len,←Nat.add_mul];congr 1;omega
  have:((cs++ds).drop (j*sz))=ds.drop ((j - es.length)*sz):=by rw [e1,List.drop_append];simp
  rw [this];exact h'.el _ e hj
theorem Hq {A:aX} {v:TV} {cs:List AV} {ts:List TV} (hc:aS A v [] cs ts) {off n:Nat} (h:off+n<=ts.length):∀x∈(cs.drop off).take n,AV.flat x=true:=by
 intro x hx;obtain⟨j,hj⟩:=List.getElem?_of_mem hx;rw [OB] at hj;split at hj
 ·rw [OC] at hj;have hl:off+j < ts.length:=by omega
  exact((hc.at_ (off+j) _ x (Ov hl) hj):Can _ x/\_).2
 ·cases hj
theorem Fg {A:aX} {v:TV} {cs:List AV} {ts:List TV} (hc:aS A v [] cs ts) {off sz:Nat} {e:TV} (h:Hp v off sz=some e):off+sz<=ts.length/\k9 e ((cs.drop off).take sz):=by
 have sub:∀{n:Nat},cG v off n=some e->off+n<=ts.length/\k9 e ((cs.drop off).take n):=by
  intro n h;obtain⟨ts',rfl,h2,h3,rfl⟩:=gw h;have:=hc.cells.symm.trans h2;cases this;refine⟨h3,.a _ _ (by rw [OI,OI,OJ,OJ,hc.len]) (fun j t x ht hx=>?_)⟩;rw [OB] at ht hx;split at ht
  ·rw [if_pos ‹_›] at hx;rw [OC] at ht hx;exact((hc.at_ (off+j) t x ht hx):Can t x/\_).1
  ·cases ht
 unfold Hp at h;split at h
 ·split at h
  ·rename_i e' he;rw [cond_eq_ite] at h;split at h
   ·rename_i h1;cases h;obtain⟨ts',h2,h3⟩:=fL he;have:=hc.cells.symm.trans h2;cases this;have hl:=(Ow.1 h3).1;have hl':off < cs.length:=by rw [←hc.len];exact hl
    refine⟨by omega,?_⟩;rw [List.drop_eq_getElem_cons hl',List.take_succ_cons,List.take_zero];exact .one _ _ h1 ((hc.at_ off e _ h3 (Ov hl')):Can e _/\_).1
   ·cases h
  ·cases h
 ·exact sub h
theorem B_ {A:aX} {v:TV} {cs:List AV} {ts:List TV} (hc:aS A v [] cs ts) {sz:Nat}:∀{n off:Nat} {es:List TV},Im v off sz n=some es->es.length=n/\off+n*sz<=cs.length/\vW sz es ((cs.drop off).take (n*sz))
 |0,off,es,h=>by
  unfold Im at h;split at h
  ·rename_i u hu;cases h;obtain⟨ts',h1,h2,h3,_⟩:=gw hu;have:=hc.cells.symm.trans h2;cases this;refine⟨rfl,by rw [←hc.len];omega,?_⟩;rw [Nat.zero_mul,List.take_zero];exact⟨(by simp),(fun x hx=>by cases hx),(fun j e h=>by simp at h)⟩
  ·cases h
 |n+1,off,es,h=>by
  unfold Im at h;split at h;rotate_left
  ·cases h
  rename_i e he;split at h;rotate_left
  ·cases h
  rename_i r hr;cases h;obtain⟨g1,g2,g3⟩:=B_ hc hr;obtain⟨k1,k2⟩:=Fg hc he;have e0:(n+1)*sz=sz+n*sz:=by rw [Nat.add_mul,Nat.one_mul,Nat.add_comm]
  refine⟨by rw [OL,g1],by rw [e0];omega,?_⟩;have e1:(cs.drop off).take ((n+1)*sz)=(cs.drop off).take sz++(cs.drop (off+sz)).take (n*sz):=by rw [e0,List.take_add,List.drop_drop]
  rw [e1];refine uE (es:=[e]) ⟨?_,Hq hc k1,fun j e' hj=>?_⟩ g3
  ·rw [OI,OJ,←hc.len,OK,Nat.one_mul];omega
  ·cases j with
   |zero=>simp at hj;subst hj;rw [Nat.zero_mul,List.drop_zero,List.take_take,Nat.min_self];exact k2
   |succ j=>simp at hj
theorem xT {A:aX} {sz:Nat}:∀{xs:List TV} {v u:TV} {cs ds:List AV} {ts:List TV} {off:Nat},aS A v [] cs ts->Jt v off sz xs=some u->vW sz xs ds->∃cs' us,cO cs off ds=some cs'/\aS A u [] cs' us
 |[],v,u,cs,ds,ts,off,hc,h,hd=>by
  unfold Jt at h;split at h
  ·rename_i w hw;cases h;obtain⟨ts',h1,h2,h3,_⟩:=gw hw;have:=hc.cells.symm.trans h2;cases this;have hd0:ds=[]:=O6.1 (by rw [hd.len];simp);subst hd0;refine⟨cs,ts,?_,hc⟩;rw [fQ,if_pos (by rw [←hc.len];simpa using h3)];simp
  ·cases h
 |x::xs,v,u,cs,ds,ts,off,hc,h,hd=>by
  simp only [Jt] at h;split at h;rotate_left
  ·cases h
  rename_i v1 hv1;have hl:=hd.len;rw [OL,Nat.add_mul,Nat.one_mul] at hl;obtain⟨tx,hx1,hx2⟩:=dJ.1 (hd.el 0 x rfl);rw [Nat.zero_mul,List.drop_zero] at hx2;have hcx:aS A x [] (ds.take sz) tx:=⟨hx1,hx2.1,fun j w hj=>by simp [bp] at hj,fun j t y ht hy=>⟨hx2.2 j t y ht hy,hd.flat y (List.mem_of_mem_take (OD hy))⟩⟩;obtain⟨hn,cs1,us1,h3,h4,_⟩:=eW hc hcx hv1;have hd2:vW sz xs (ds.drop sz):=⟨by rw [OJ];omega,fun y hy=>hd.flat y (List.mem_of_mem_drop hy),fun j e he=>by have:=hd.el (j+1) e (by simpa using he);rwa [Nat.add_mul,Nat.one_mul,Nat.add_comm,←List.drop_drop] at this⟩
  obtain⟨cs2,us2,h5,h6⟩:=xT (xs:=xs) (off:=off+sz) (ds:=ds.drop sz) h4 h hd2;refine⟨cs2,us2,?_,h6⟩;obtain⟨b1,_⟩:=cP h3;obtain⟨b2,_⟩:=cP h5;obtain⟨l1,a1⟩:=dy h3;obtain⟨l2,a2⟩:=dy h5;rw [OJ] at b2;have hov:cO cs off ds=some (cs.take off++ds++cs.drop (off+ds.length)):=by rw [fQ,if_pos (by omega)]
  obtain⟨l3,a3⟩:=dy hov;rw [hov];congr 1;refine List.ext_getElem? fun j=>?_
  rw [a3,a2,a1,hn,OJ];by_cases q1:off+sz<=j/\j < off+sz+(ds.length - sz)
  ·rw [if_pos q1,if_pos (by omega),OC];congr 1;omega
  ·rw [if_neg q1];by_cases q2:off<=j/\j < off+sz
   ·rw [if_pos q2,if_pos (by omega),OB,if_pos (by omega)]
   ·rw [if_neg q2,if_neg (by omega)]
theorem mZ {A:aX} {V:aF} {st:St} (h:R A V st) {w:VV} {a:AV} {k:TV->Prop} (hv:VR A w a) (hk:HG V w k) (d:Nat) :
  ∃t a',aN (d+4) st.H a=some a'/\Can t a'/\(a.plain=true->a'=a)/\k t:=by
 cases hv<;>first|(cases hk;done)|skip
 ·rename_i v hc;exact⟨v,a,gz (fM hc) (d+1) _,hc,fun _=>rfl,hk⟩
 ·exact⟨_,_,rfl,.nil,fun _=>rfl,hk⟩
 ·exact⟨_,_,rfl,fm,fun _=>rfl,hk⟩
 ·rename_i O hO;obtain⟨es,a',h1,h2,h3,h4,h5⟩:=m6 h (w:=.sl O) (x:=a) hO hk (d+1);exact⟨_,a',h1,h2,h4,h5⟩
 ·rename_i v ovs cs ts hv hc;obtain⟨u,us,cs',h1,h2,h3,h4,h5,h6⟩:=oU h hc hk d;obtain⟨l',rfl⟩:=h5 _ hv;cases h2;refine⟨_,.agg cs',by rw [eR,h1],.a _ _ h3.1.1 h3.2 h3.1.2,fun hp=>?_,h4⟩;rw [h6 (aJ.1 hp)]
 ·rename_i O v i hO;obtain⟨es,a',h1,h2,h3,h4,h5⟩:=m6 h (w:=.ow O v i) (x:=a) hO hk (d+1);exact⟨_,a',h1,h2,h4,h5⟩
 ·rename_i O off n sz id cap hz hO;simp only [HG] at hk;split at hk;rotate_left
  ·cases hk
  rename_i v ovs ho;split at hk;rotate_left
  ·cases hk
  obtain⟨es,h1,h2⟩:=hk;obtain⟨z,hz',id',cs,ts,rfl,hH,hc⟩:=h.heap O _ ho;rw [hO] at hz';cases hz';obtain⟨g1,g2,g3⟩:=B_ hc h1;subst g1;refine⟨_,.b5 ((cs.drop off).take (es.length*sz)) es.length (some cap),?_,vJ hz g3 _,(fun hp=>by cases hp),h2⟩;rw [ei,hH];simp only [cond_eq_ite,OY,if_pos];have:cut cs off (Nat.mul es.length sz)=some ((cs.drop off).take (es.length*sz)):=by rw [cI];exact if_pos g2
  rw [this];simp only [oB g3.flat]
theorem w_:∀{ovs:List (Nat×VV)},tS ovs=true->∀j w,bp j ovs=some w->w=.bP
 |[],h,j,w,hj=>by simp [bp] at hj
 |(i,x)::r,h,j,w,hj=>by
  cases x<;>first|(cases h;done)|skip
  rw [aY] at hj;split at hj
  ·cases hj;rfl
  ·exact w_ (ovs:=r) h j w hj
theorem kV {A:aX} {v:TV} {ovs:List (Nat×VV)} {cs:List AV} {ts:List TV} (hc:aS A v ovs cs ts) (h:tS ovs=true):(AV.agg cs).plain=true:=by
 refine aJ.2 (fun x hx=>?_);obtain⟨j,hj⟩:=List.getElem?_of_mem hx;have hlt:j < ts.length:=by rw [hc.len];exact(Ow.1 hj).1
 have:=hc.at_ j _ x (Ov hlt) hj;cases ho:bp j ovs with
 |none=>rw [ho] at this;exact this.2
 |some w=>rw [ho] at this;have hw:=w_ h j w ho;subst hw;rcases this with rfl|rfl<;>rfl
theorem uM {A:aX} {V:aF} {st:St} {g:G} (h:R A V st) (ha:act g):∀(xs:List aH) (k:Bool->List TV->Prop),k6 V g xs k->
  ∃p ts as',k p ts/\cr (aN deep st.H) (xs.map (ev st.env))=some as'/\eC ts as'/\(bx AV.plain (xs.map (ev st.env))=true->as'=xs.map (ev st.env))/\(p=true->bx AV.plain (xs.map (ev st.env))=true)
 |[],k,hk=>⟨true,[],[],hk,rfl,⟨rfl,fun j t x ht=>by simp at ht⟩,fun _=>rfl,fun _=>rfl⟩
 |x::xs,k,hk=>by
  obtain⟨w,hw,hk⟩:=bE h ha hk;have fin:∀(t:TV) (a':AV) (kk:Bool->List TV->Prop) (q:Bool),aN deep st.H (ev st.env x)=some a'->Can t a'->((ev st.env x).plain=true->a'=ev st.env x)->(q=true->(ev st.env x).plain=true)->
    k6 V g xs kk->(∀p vs,kk p vs->k (q&&p) (t::vs))->
    ∃p ts as',k p ts/\cr (aN deep st.H) ((x::xs).map (ev st.env))=some as'/\eC ts as'/\(bx AV.plain ((x::xs).map (ev st.env))=true->as'=(x::xs).map (ev st.env))/\(p=true->bx AV.plain ((x::xs).map (ev st.env))=true):=by
   intro t a' kk q h1 h2 h3 hq h4 h5;obtain⟨p,ts,as',g1,g2,g3,g4,g5⟩:=uM h ha xs kk h4;refine⟨q&&p,t::ts,a'::as',h5 _ _ g1,?_,⟨by simp [g3.1],fun j u y hu hy=>?_⟩,fun hp=>?_,fun hp=>?_⟩
   ·rw [List.map_cons,bZ,h1,g2]
   ·cases j with
    |zero=>simp at hu hy;subst hu;subst hy;exact h2
    |succ j=>exact g3.2 j u y (by simpa using hu) (by simpa using hy)
   ·rw [List.map_cons] at hp ⊢;have hp':=aJ.1 hp;rw [h3 (hp' _ ON),g4 (aJ.2 fun y hy=>hp' y (OO _ hy))]
   ·rw [OV] at hp;rw [List.map_cons,aJ];intro y hy;rcases OP.1 hy with rfl|hy
    ·exact hq hp.1
    ·exact aJ.1 (g5 hp.2) y hy
  generalize ev st.env x=a at hw fin;have tree:∀{t:TV},Can t a->k6 V g xs (fun p vs=>k p (t::vs))->_:=fun {t} hc hk=>fin t a _ true (gz (fM hc) 27 _) hc (fun _=>rfl) (fun _=>fM hc) hk (fun p vs hh=>by rw [Bool.true_and];exact hh)
  cases hw with
  |tr hc=>exact tree hc hk
  |bP=>exact tree .nil hk
  |jP=>exact tree fm hk
  |sl hO=>obtain⟨t,a',h1,h2,h3,h4⟩:=mZ h (.sl hO) hk 26;exact fin t a' _ false h1 h2 h3 (fun hh=>by cases hh) h4 (fun p vs hh=>hh)
  |@st v ovs cs ts hv hc=>obtain⟨t,a',h1,h2,h3,h4⟩:=mZ h (.st hv hc) hk 26;exact fin t a' _ (tS ovs) h1 h2 h3 (fun hh=>kV hc hh) h4 (fun p vs hh=>hh)
  |ow hO=>obtain⟨t,a',h1,h2,h3,h4⟩:=mZ h (.ow hO) hk 26;exact fin t a' _ false h1 h2 h3 (fun hh=>by cases hh) h4 (fun p vs hh=>hh)
  |sa hz hO=>obtain⟨t,a',h1,h2,h3,h4⟩:=mZ h (.sa hz hO) hk 26;exact fin t a' _ false h1 h2 h3 (fun hh=>by cases hh) h4 (fun p vs hh=>hh)
  |_=>cases hk
end Go.Ax.V
namespace Go.Ax.V
section
variable {prog:Map aq} {cf:eF} {nt:Nat} {A:aX} {V:aF} {st:St} {d:Option Nat} {g:G} {k:aF->Prop}
def bJ (cf:eF) (nt:Nat) (A:aX) (V:aF) (st:St) (d:Option Nat) (op:dR) (k:aF->Prop):Prop:=
 ∃v H' nx',fk cf op (ev st.env) st.H st.nx=some (v,H',nx')/\Next nt A V st d v H' nx' k
theorem aO {op:dR} {p:(aH->AV)->Option aP} {v:AV} (hk:kind op=.plan p) (hp:p (ev st.env)=some (.val v)) (h:Next nt A V st d v st.H st.nx k):bJ cf nt A V st d op k:=
 ⟨v,st.H,st.nx,by simp only [fk,hk,hp,bO],h⟩
theorem qe {op:dR} {p:(aH->AV)->Option aP} {f:Nat->AV} {ob:dN} (hk:kind op=.plan p) (hp:p (ev st.env)=some (.new f ob)) (h:Next nt A V st d (f st.nx) (st.H.put (some ob) st.nx) (st.nx+1) k):bJ cf nt A V st d op k:=
 ⟨_,_,_,by simp only [fk,hk,hp,bO],h⟩
theorem Me (hR:R A V st) (ha:act g) {x:aH} (h:dw V g x fun w=>Hj nt V d g w k):bJ cf nt A V st d (.mv x) k:=by
 obtain⟨w,hw,hk⟩:=bE hR ha h;refine aO rfl rfl ?_;generalize ev st.env x=a at hw;cases hw with
 |bad=>cases hk
 |tr hc=>
  cases g with
  |none=>exact ay hR (fun _=>.tr hc) hk
  |some p=>obtain⟨r,h1,h2⟩:=aR hR ha hk;cases h1;exact h2 _ hc
 |bP=>exact ay hR (fun _=>.bP) hk
 |jP=>exact ay hR (fun _=>.jP) hk
 |ptr h=>exact ay hR (fun _=>.ptr h) hk
 |pd h=>exact ay hR (fun _=>.pd h) hk
 |sl h=>exact ay hR (fun _=>.sl h) hk
 |ea h=>exact ay hR (fun _=>.ea h) hk
 |pt hl hf h=>exact ay hR (fun _=>.pt hl hf h) hk
 |st hv h=>exact ay hR (fun _=>.st hv h) hk
 |ow h=>exact ay hR (fun _=>.ow h) hk
 |e2 h=>exact ay hR (fun _=>.e2 h) hk
 |gl h1 h2 h3 h4 h5=>exact ay hR (fun _=>.gl h1 h2 h3 h4 h5) hk
 |sa hz h=>exact ay hR (fun _=>.sa hz h) hk
theorem yO {c a b r:TV} {x y z:AV} (h:fe c a b=some r) (hc:Can c x) (ha:Can a y) (hb:Can b z):∃t,x=.bool t/\Can r (match t with|true=>y|false=>z):=by
 unfold fe at h;split at h
 ·rename_i t;cases hc;exact⟨t,rfl,by cases t<;>(cases h;assumption)⟩
 ·cases h
theorem GA (hR:R A V st) (ha:act g) {c a b:aH} (h:iu V g c fun c=>iu V g a fun a=>iu V g b fun b=>dh nt V d g (fe c a b) k):bJ cf nt A V st d (.pick c a b) k:=by
 obtain⟨c',h1,h⟩:=bN hR ha h;obtain⟨a',h2,h⟩:=bN hR ha h;obtain⟨b',h3,h⟩:=bN hR ha h;obtain⟨r,h4,h5⟩:=aR hR ha h;obtain⟨t,e,h6⟩:=yO h4 h1 h2 h3;cases t with
 |true=>exact aO rfl (by simp only [ng,e]) (h5 _ h6)
 |false=>exact aO rfl (by simp only [ng,e]) (h5 _ h6)
theorem ET {sh:Sh} (hR:R A V st) {zero:List AV} (h:match bx c6 zero with
   |true=>gh nt V d g (fun O=>.ptr O 0) (.ob (.a (bS zero)) (KX sh d (fh 0 zero))) k
   |false=>False):bJ cf nt A V st d (.alloc zero) k:=by
 split at h
 ·rename_i hc;exact qe rfl rfl (gX hR h (fun A' hA=>⟨_,_,_,rfl,by rw [Map.au,if_pos rfl],vM A' hc (fun j w=>F9)⟩) rfl rfl (fun A' O hO=>.ptr hO))
 ·cases h
theorem y_ {v:TV} (h:v.iy=false):∃ts,bF v=some ts:=by cases v<;>first|exact⟨_,rfl⟩|cases h
theorem Bs {A:aX} {v u:TV} {ovs:List (Nat×VV)} {cs:List AV} {ts:List TV} {c:Nat} (hc:aS A v ovs cs ts) (ho:bp c ovs=some .bP) (hp:cN v c 1 (.l [])=some u):∃us,aS A u (iS c 1 ovs) cs us:=by
 obtain⟨ts',xs,us,h1,h2,h3,h4,h5,h6,h7⟩:=bM hp;have e1:=hc.cells.symm.trans h1;cases e1;cases h2;refine⟨us,h4,h5.trans hc.len,fun j w hj=>?_,fun j t x ht hx=>?_⟩
 ·rw [eu] at hj;split at hj
  ·cases hj
  ·rw [h5];exact hc.keys j w hj
 ·rw [h7] at ht;rw [eu];by_cases hj:c<=j/\j < c+1
  ·rw [if_pos hj] at ht ⊢;have:j=c:=by omega
   subst this;simp at ht;subst ht;have hlt:j < ts.length:=hc.keys j _ ho;have:=hc.at_ j _ x (Ov hlt) hx;rw [ho] at this;rcases this with rfl|rfl
   ·exact⟨.nil,rfl⟩
   ·exact⟨fm,rfl⟩
  ·rw [if_neg hj] at ht ⊢;exact hc.at_ j t x ht hx
theorem sO:∀{l:List Nat} {v:TV} {ovs:List (Nat×VV)} {k:TV->List (Nat×VV)->Prop},zE l v ovs k->(∀v o,k v o->False)->False
 |[],v,ovs,k,hk,h=>h _ _ hk
 |c::l,v,ovs,k,hk,h=>by
  simp only [zE] at hk;split at hk
  ·obtain⟨u,_,hk⟩:=hk;exact sO hk h
  ·cases hk
theorem x_ {A:aX} {cs:List AV}:∀(l:List Nat) (v:TV) (ovs:List (Nat×VV)) (ts:List TV) (k:TV->List (Nat×VV)->Prop),aS A v ovs cs ts->zE l v ovs k->∃v' qxU ts',aS A v' qxU cs ts'/\k v' qxU
 |[],v,ovs,ts,k,h,hk=>⟨v,ovs,ts,h,hk⟩
 |c::l,v,ovs,ts,k,h,hk=>by
  simp only [zE] at hk;split at hk
  ·rename_i ho;obtain⟨u,hp,hk⟩:=hk;obtain⟨us,h'⟩:=Bs h ho hp;exact x_ l u _ us k h' hk
  ·cases hk
theorem I3 {sh:Sh} (hR:R A V st) (ha:act g) {x:aH} (h:dw V g x fun w=>match B2 w with
  |some (v,o)=>v.iy=false/\zE (Ib sh d) v o fun v o=>gh nt V d g (fun O=>.ptr O 0) (.ob v o) k
  |none=>False):bJ cf nt A V st d (.box x) k:=by
 obtain⟨w,hw,hk⟩:=bE hR ha h;split at hk
 ·rename_i v o hs;obtain⟨ht,hk⟩:=hk;obtain⟨ts,hts⟩:=y_ ht;obtain⟨as,h1,h2⟩:=fT hR.one hw hs hts;obtain⟨v',o',ts',h3,hk⟩:=x_ _ _ _ _ _ h2 hk;exact qe (f:=fun id=>.ptr id 0 0) (ob:=.row 0 as) rfl (by simp only [wU,h1]) (gX hR hk (fun A' hA=>⟨_,_,_,rfl,by rw [Map.au,if_pos rfl],h3.mono hA⟩) rfl rfl (fun A' O hO=>.ptr hO))
 ·cases hk
theorem jS (ρ:aH->AV) (p:Nat×Nat×aH) (r:List (Nat×Nat×aH)) (cells:List AV):fill ρ (p::r) cells=match (ρ p.2.2).cells? with
  |none=>none
  |some cs=>bif Nat.beq cs.length p.2.1 then match cO cells p.1 cs with
    |some cells=>fill ρ r cells
    |none=>none
   else none:=rfl
theorem ry (hR:R A V st) (ha:act g):∀(parts:List (Nat×Nat×aH)) (v:TV) (ovs:List (Nat×VV)) (cs:List AV) (ts:List TV) (k:TV->List (Nat×VV)->Prop),aS A v ovs cs ts->v=.a ts->ve V g parts v ovs k->
  ∃v' qxU cs' ts',fill (ev st.env) parts cs=some cs'/\aS A v' qxU cs' ts'/\v'=.a ts'/\k v' qxU
 |[],v,ovs,cs,ts,k,hc,hv,hk=>⟨v,ovs,cs,ts,rfl,hc,hv,hk⟩
 |(off,n,x)::r,v,ovs,cs,ts,k,hc,hv,hk=>by
  obtain⟨w,hw,hk⟩:=bE hR ha hk;split at hk
  ·rename_i t o hs;obtain⟨u,hp,hk⟩:=hk;obtain⟨_,xs,_,_,hxs,_⟩:=bM hp;obtain⟨as,h1,h2⟩:=fT hR.one hw hs hxs;obtain⟨hn,cs',us,h3,h4,h5⟩:=eW hc h2 hp;obtain⟨l',rfl⟩:=h5 _ hv;have:=h4.cells;cases this;obtain⟨v',qxU,cs'',ts',g1,g2,g3,g4⟩:=ry hR ha r _ _ cs' _ k h4 rfl hk;refine⟨v',qxU,cs'',ts',?_,g2,g3,g4⟩;rw [jS];simp only [h1,cond_eq_ite,OY,if_pos hn,h3,g1]
  ·cases hk
theorem FD {v:TV} {ovs:List (Nat×VV)} {cs:List AV} {ts:List TV} (h:aS A v ovs cs ts) (hv:v=.a ts):VR A (GJ v ovs) (.agg cs):=by
 cases ovs with
 |nil=>
  subst hv;refine .tr (.a _ _ h.len (fun x hx=>?_) (fun j t x ht hx=>(h.at_ j t x ht hx).1));obtain⟨j,hj⟩:=List.getElem?_of_mem hx;have hlt:j < ts.length:=by rw [h.len];exact(Ow.1 hj).1
  exact(h.at_ j _ x (Ov hlt) hj).2
 |cons p r=>exact .st hv h
theorem ES (hR:R A V st) {zero:List AV} {parts:List (Nat×Nat×aH)} (h:match bx c6 zero with
   |true=>ve V none parts (.a (bS zero)) (fh 0 zero) fun v ovs=>cw nt V d none (GJ v ovs) k
   |false=>False):bJ cf nt A V st d (.build zero parts) k:=by
 split at h
 ·rename_i hc;obtain⟨v',qxU,cs',ts',h1,h2,h3,h4⟩:=ry (g:=none) hR trivial parts _ _ zero _ _ (kW A hc) rfl h;exact aO rfl (by simp only [jN,h1]) (ay hR (fun _=>FD h2 h3) h4)
 ·cases h
theorem zv {v:TV} {cs:List AV} {ts:List TV} (h:aS A v [] cs ts):∀x∈cs,AV.flat x=true:=fun x hx=>by
 obtain⟨j,hj⟩:=List.getElem?_of_mem hx;have hlt:j < ts.length:=by rw [h.len];exact(Ow.1 hj).1
 exact(h.at_ j _ x (Ov hlt) hj).2
theorem xZ {cs:List AV} (h:bx c6 cs=true):aS A (.a (bS cs)) [] cs (bS cs):=by refine⟨rfl,gG cs,fun j w hw=>(by cases hw),fun j t x ht hx=>?_⟩;have hm:x∈cs:=OD hx;rw [k5,hx] at ht;cases ht;exact ij (aJ.1 h x hm)
theorem wL (hR:R A V st) (ha:act g):∀(parts:List (Nat×Nat×aH)) (k:List (Nat×Nat×TV)->Prop),Ct V g parts k->
  ∃l,k l/\∀(v v':TV) (cs:List AV) (ts:List TV),aS A v [] cs ts->v=.a ts->ru l v=some v'->∃cs' ts',fill (ev st.env) parts cs=some cs'/\aS A v' [] cs' ts'/\v'=.a ts'
 |[],k,hk=>⟨[],hk,fun v v' cs ts hc hv hp=>by cases hp;exact⟨cs,ts,rfl,hc,hv⟩⟩
 |(off,n,x)::r,k,hk=>by
  obtain⟨t,ht,hk⟩:=bN hR ha hk;obtain⟨l,hl,hf⟩:=wL hR ha r _ hk;refine⟨_,hl,fun v v' cs ts hc hv hp=>?_⟩;simp only [ru] at hp;split at hp
  ·rename_i u hu;obtain⟨_,xs,_,_,hxs,_⟩:=bM hu;obtain⟨as,h1,h2⟩:=fT hR.one (.tr ht) (w:=.tr t) rfl hxs;obtain⟨hn,cs',us,h3,h4,h5⟩:=eW hc h2 hu;obtain⟨l',rfl⟩:=h5 _ hv;have:=h4.cells;cases this;obtain⟨cs'',ts',g1,g2,g3⟩:=hf _ v' cs' _ h4 rfl hp;refine⟨cs'',ts',?_,g2,g3⟩;rw [jS];simp only [h1,cond_eq_ite,OY,if_pos hn,h3,g1]
  ·cases hp
theorem CZ (hR:R A V st) (ha:act g) {zero:List AV} {parts:List (Nat×Nat×aH)} (h:match bx c6 zero with
   |true=>Ct V g parts fun l=>dh nt V d g (ru l (.a (bS zero))) k
   |false=>False):bJ cf nt A V st d (.build zero parts) k:=by
 split at h
 ·rename_i hc;obtain⟨l,hl,hf⟩:=wL hR ha parts _ h;obtain⟨v,h1,h2⟩:=aR hR ha hl;obtain⟨cs',ts',g1,g2,rfl⟩:=hf _ v zero _ (xZ hc) rfl h1;refine aO rfl (by simp only [jN,g1]) (h2 _ (.a _ _ g2.len (zv g2) (fun j t x ht hx=>(g2.at_ j t x ht hx).1)))
 ·cases h
theorem look_eq (H:av) (nx:Nat) {id g off n:Nat} {cells cs:List AV} (hH:H.get id=some (.row g cells)) (hc:cut cells off n=some cs) (kk:List AV->Option dN->Option Out) (v:AV) (hk:kk cs none=some ⟨fun _=>v,none,none⟩) :
  bO (.look (some ⟨id,g,off,n⟩) none kk) H nx=some (v,H,nx):=by
 simp only [bO,dO,cK,hH,cond_eq_ite,OY,if_pos,hc,fI,hk,od]
theorem B4 {op:dR} {p:(aH->AV)->Option aP} (hk:kind op=.plan p) {id gg off n:Nat} {cells cs:List AV} {kk:List AV->Option dN->Option Out} {v:AV} (hp:p (ev st.env)=some (.look (some ⟨id,gg,off,n⟩) none kk))
  (hH:st.H.get id=some (.row gg cells)) (hc:cut cells off n=some cs) (hkk:kk cs none=some ⟨fun _=>v,none,none⟩) (h:Next nt A V st d v st.H st.nx k):bJ cf nt A V st d op k:=
 ⟨v,st.H,st.nx,by simp only [fk,hk,hp];exact look_eq _ _ hH hc _ _ hkk,h⟩
theorem ew {sz:Option Nat} {a:aH} {id gg off:Nat} {cells l:List AV} {v:AV} (he:ev st.env a=.ptr id gg off) (hH:st.H.get id=some (.row gg cells)) (hc:cut cells off (bW sz)=some l) (hm:z6 sz l=some v)
  (h:Next nt A V st d v st.H st.nx k):bJ cf nt A V st d (.load sz a) k:=
 B4 (cs:=l) (v:=v) (kk:=fun cs _=>match z6 sz cs with|some v=>some ⟨fun _=>v,none,none⟩|none=>none) rfl (by simp only [iP,he];rfl) hH hc (by simp only [hm]) h
theorem kX {cs:List AV} {off:Nat} {x:AV} (h:cs[off]?=some x):cut cs off 1=some [x]:=by obtain⟨hlt,hx⟩:=Ow.1 h;rw [cI,if_pos (by omega),List.drop_eq_getElem_cons hlt,hx];rfl
theorem nU {v:TV} {ovs:List (Nat×VV)} {cs:List AV} {ts:List TV} (hc:aS A v ovs cs ts) {off:Nat} {r:TV} (h:cu v off=some r) (ho:bp off ovs=none):∃x,cut cs off 1=some [x]/\Can r x/\x.flat=true:=by
 obtain⟨ts',h1,h2⟩:=fL h;have:=hc.cells.symm.trans h1;cases this;have hlt:off < cs.length:=by rw [←hc.len];exact(Ow.1 h2).1
 have hx:cs[off]?=some cs[off]:=Ov hlt;have:=hc.at_ _ _ _ h2 hx;rw [ho] at this;exact⟨_,kX hx,this⟩
theorem qu {c:Option TV} {r:TV} (h:eP c=some r):∃t,c=some t/\∀x,Can t x->Can r x:=by
 cases c with
 |none=>cases h
 |some t=>
  cases t with
  |pW y u=>cases h;exact⟨_,rfl,fun x hx=>by cases hx;assumption⟩
  |_=>cases h;exact⟨_,rfl,fun x hx=>hx⟩
theorem gE {v:TV} {ovs:List (Nat×VV)} {cs:List AV} {ts:List TV} (hc:aS A v ovs cs ts) {off n:Nat} {r:TV} (h:cG v off n=some r) :
  ∃l ls,cut cs off n=some l/\r=.a ls/\aS A r (kz off n ovs) l ls:=by
 obtain⟨ts',h0,h1,hl,rfl⟩:=gw h;have:=hc.cells.symm.trans h1;cases this;refine⟨(cs.drop off).take n,_,by rw [cI,if_pos (by rw [←hc.len];exact hl)],rfl,⟨rfl,?_,fun j w hj=>?_,fun j t x ht hx=>?_⟩⟩
 ·have:=hc.len;simp [this]
 ·rw [nj] at hj;split at hj
  ·rename_i hj';have:=hc.keys _ _ hj;simp only [OI,OJ];omega
  ·cases hj
 ·simp only [OB,OC] at ht hx;split at ht
  ·rename_i hj;rw [if_pos hj] at hx;rw [nj,if_pos hj,Nat.add_comm];exact hc.at_ _ _ _ ht hx
  ·cases ht
theorem qw {r:TV} {l:List AV} {ls:List TV} (h:aS A r [] l ls) (hr:r=.a ls):Can r (.agg l):=by have:=FD h hr;cases this;assumption
theorem Dp {H:av} {K s io iz ver:Nat} {hole:Option Nat} {es:List TV} {id g b z len cap:Nat} {ex:Bool} (h:OR A H (.gn K s io iz ver hole es) (.ref id g b z len cap ex)) :
  z=s/\len=es.length/\cap=es.length/\ex=false/\0 < s/\io < s/\0 < iz/\∃cells,H.get id=some (.row g cells)/\b<=cells.length/\BN A H K s io iz ver hole es (cells.drop b):=by
 obtain⟨h1,h2,h3,h4⟩:=h;rcases h4 with ⟨_,e|e⟩|⟨id',g',b',cells,e,h5,h6,h7⟩
 ·cases e
 ·cases e
 ·cases e;exact⟨rfl,rfl,rfl,rfl,h1,h2,h3,cells,h5,h6,h7⟩
theorem sj {H:av} {K s io iz ver:Nat} {hole:Option Nat} {es:List TV} {cs:List AV} (h:BN A H K s io iz ver hole es cs) (hio:io < s) {i:Nat} {e:TV} (he:es[i]?=some e) :
  ∃ts,aS A e [(io,.ow K ver i)] ((cs.drop (i*s)).take s) ts/\ts.length=s:=by
 obtain⟨ts,g1,g2,g3,x,g4,g5,g6⟩:=h.el i e he;have hlt:=(Ow.1 he).1;have hle:i*s+s<=es.length*s:=by rw [←Nat.succ_mul];exact Nat.mul_le_mul_right s hlt
 have qz1:∀(j:Nat),((cs.drop (i*s)).take s)[j]?=if j < s then cs[i*s+j]? else none:=fun j=>by rw [OB,OC]
 refine⟨ts,⟨g1,by rw [OI,OJ,h.len,g2];omega,fun j w hj=>?_,fun j t y ht hy=>?_⟩,g2⟩
 ·rw [aY] at hj;split at hj
  ·rename_i e';subst e';rw [g2];exact hio
  ·cases hj
 ·have hj:j < s:=by rw [←g2];exact(Ow.1 ht).1
  rw [qz1,if_pos hj] at hy;rw [aY];split
  ·rename_i e';subst e';rw [g4] at hy;cases hy;exact g5
  ·rename_i hne;exact g3 j t y (Ne.symm hne) ht hy
theorem sI {cells l:List AV} {b i s n off m:Nat} (h3:cut (((cells.drop b).drop (i*s)).take s) off m=some l) (hlt:i < n) (hl:cells.length - b=n*s) (hb:b<=cells.length):cut cells (b+i*s+off) m=some l:=by
 obtain⟨h6,h7⟩:=fl h3;have h9:i*s+s<=n*s:=by have:(i+1)*s<=n*s:=Nat.mul_le_mul_right s hlt;rwa [Nat.add_mul,Nat.one_mul] at this
 have h8:off+m<=s:=by simp only [OI] at h6;omega
 rw [cI,if_pos (by omega),h7];congr 1;simp only [List.drop_drop,List.drop_take,List.take_take];congr 1;omega
theorem Cr {g:G} (ha:act g) {P:Option TV} {k:Prop} (h:II g P k):∃e,P=some e/\k:=by
 cases g with
 |none=>exact h
 |some q=>obtain⟨c,bb⟩:=q;obtain⟨e,h1,h2⟩:=h;exact⟨e,h1 ha,h2⟩
theorem Bw {off n io:Nat} {w:VV} (h:mU off n io=true):kz off n [(io,w)]=[]:=by simp only [mU,OW,OZ,O0] at h;simp only [kz,cond_eq_ite,OV,OZ,O0];rw [if_neg (by omega)]
theorem Dd {es:List TV} {i io j off:Nat} {sz:Option Nat} {r:TV} (h:Mi es i io j off sz=some r):∃l,p9 es i io=some l/\D9 l j off sz=some r:=by
 unfold Mi at h;split at h
 ·rename_i l hl;exact⟨l,hl,h⟩
 ·cases h
theorem Ik {H:av} {z:Nat} {es:List TV} {id g b len cap:Nat} {ex:Bool} (hs:qb H z es (.ref id g b z len cap ex)) {i off:Nat} {sz:Option Nat} {r:TV} (h1:D9 es i off sz=some r) :
  ∃cells l x,H.get id=some (.row g cells)/\cut cells (b+i*z+off) (bW sz)=some l/\z6 sz l=some x/\Can r x:=by
 obtain⟨hz,hs⟩:=hs;rcases hs with ⟨_,e|e⟩|⟨id',g',b',cells,e,hH,hb,hE⟩
 ·cases e
 ·cases e
 ·cases e;unfold D9 at h1;split at h1
  ·cases h1
  rename_i e1 he1;have hlt:i < es.length:=(Ow.1 he1).1;obtain⟨ts,ht1,ht2⟩:=dJ.1 (hE.el i e1 he1);obtain⟨l,x,h3,h4,h5⟩:=nw ht1 ⟨ht2,fH hE.flat _ _⟩ h1;have hl:=hE.len;rw [OJ] at hl;exact⟨cells,l,x,hH,sI h3 hlt hl hb,h4,h5⟩
theorem B3 {H:av} {z:Nat} {es:List TV} {id g b z' len cap:Nat} {ex:Bool} (hs:qb H z es (.ref id g b z' len cap ex)):z'=z:=by rcases hs.2 with ⟨_,e|e⟩|⟨id',g',b',cells,e,_⟩<;>cases e;rfl
theorem GC (hR:R A V st) (ha:act g) {sz:Option Nat} {a:aH} (h:dw V g a fun w=>g_ nt V d g sz w k):bJ cf nt A V st d (.load sz a) k:=by
 obtain⟨w,hw,hk⟩:=bE hR ha h;generalize he:ev st.env a=x at hw;cases hw<;>first|(cases hk;done)|skip
 ·rename_i O off id hO;simp only [g_] at hk;split at hk
  ·rename_i v ovs hv;obtain⟨y,hy,id',cs,ts,rfl,hH,hc⟩:=hR.heap O _ hv;rw [hO] at hy;cases hy;split at hk
   ·split at hk
    ·rename_i w hw;have hlt:=hc.keys _ _ hw;have hx:cs[off]?=some (cs[off]'(by rw [←hc.len];exact hlt)):=Ov _;have hs:=hc.at_ off _ _ (Ov hlt) hx;rw [hw] at hs;refine ew he hH (kX hx) rfl (ay hR (fun _=>?_) hk);cases w<;>first|(exact absurd hs (by intro hh;exact hh))|skip
     ·rcases hs with e|e
      ·rw [e];exact .bP
      ·rw [e];exact .jP
     ·exact .sl hs
     ·exact .ow hs
    ·rename_i ho;obtain⟨r,h1,h2⟩:=aR hR ha hk;obtain⟨t,h1',hun⟩:=qu h1;obtain⟨x,h3,h4,_⟩:=nU hc h1' ho;exact ew he hH h3 rfl (h2 _ (hun _ h4))
   ·rename_i n;split at hk
    ·rename_i ho;obtain⟨r,h1,h2⟩:=aR hR ha hk;obtain⟨l,ls,h3,h4,h5⟩:=gE hc h1;rw [ho] at h5;exact ew he hH h3 rfl (h2 _ (qw h5 h4))
    ·rename_i p r ho;split at hk
     ·obtain⟨u,h1,h2⟩:=hk;obtain⟨l,ls,h3,h4,h5⟩:=gE hc h1;rw [ho] at h5;exact ew he hH h3 rfl (ay hR (fun _=>.st h4 h5) h2)
     ·cases hk
  ·cases hk
 ·rename_i O off id hO;simp only [g_] at hk;split at hk
  ·rename_i v ovs hv;split at hk;rotate_left
   ·cases hk
   obtain⟨y,hy,id',cs,ts,rfl,hH,hc⟩:=hR.heap O _ hv;rw [hO] at hy;cases hy;obtain⟨r,h1,h2⟩:=aR hR ha hk;have hf:BC ts cs:=by
    refine⟨⟨hc.len,fun j t x ht hx=>(hc.at_ j t x ht hx).1⟩,fun x hx=>?_⟩;obtain⟨j,hj⟩:=List.getElem?_of_mem hx;have hlt:j < ts.length:=by rw [hc.len];exact(Ow.1 hj).1
    exact(hc.at_ j _ x (Ov hlt) hj).2
   obtain⟨l,x,h3,h4,h5⟩:=nw hc.cells hf h1;exact ew he hH h3 h4 (h2 _ h5)
  ·cases hk
 ·rename_i O i off id gg b z len cap ex hO;simp only [g_] at hk;split at hk
  ·rename_i z' es hv;obtain⟨y,hy,hs⟩:=hR.heap O _ hv;rw [hO] at hy;cases hy;obtain⟨r,h1,h2⟩:=aR hR ha hk;obtain⟨hz,hs⟩:=hs;rcases hs with ⟨_,e|e⟩|⟨id',g',b',cells,e,hH,hb,hE⟩
   ·cases e
   ·cases e
   ·cases e;unfold D9 at h1;split at h1
    ·cases h1
    rename_i e1 he1;have hlt:i < es.length:=(Ow.1 he1).1;obtain⟨ts,ht1,ht2⟩:=dJ.1 (hE.el i e1 he1);obtain⟨l,x,h3,h4,h5⟩:=nw ht1 ⟨ht2,fH hE.flat _ _⟩ h1;have hl:=hE.len;rw [OJ] at hl;obtain⟨h6,h7⟩:=fl h3;have h8:off+bW sz<=z:=by simp only [OI] at h6;omega
    have h9:i*z+z<=es.length*z:=by have:(i+1)*z<=es.length*z:=Nat.mul_le_mul_right z hlt;rwa [Nat.add_mul,Nat.one_mul] at this
    refine ew he hH (l:=l) ?_ h4 (h2 _ h5);rw [cI,if_pos (by omega),h7];congr 1;simp only [List.drop_drop,List.drop_take,List.take_take];congr 1;omega
  ·rename_i K s io iz ver hole es hv;split at hk;rotate_left
   ·cases hk
   rename_i hK;rw [OY] at hK;subst hK;obtain⟨y,hy,hs⟩:=hR.heap K _ hv;rw [hO] at hy;cases hy;obtain⟨rfl,rfl,rfl,rfl,p1,p2,p3,cells,hH,hb,hG⟩:=Dp hs;have hl:=hG.len;rw [OJ] at hl;split at hk
   ·split at hk
    ·rename_i ho;rw [OY] at ho;subst ho;split at hk;rotate_left
     ·cases hk
     obtain⟨e,he1,hk⟩:=Cr ha hk;obtain⟨ts,g1,g2,g3,x,g4,g5,g6⟩:=hG.el i e he1;refine ew he hH (l:=[x]) ?_ rfl (ay hR (fun _=>.ow g5) hk);rw [OC] at g4;have:=kX g4;rw [←Nat.add_assoc] at this;exact this
    ·obtain⟨r,h1,h2⟩:=aR hR ha hk;rename_i ho;have ho':off≠io:=fun e=>by subst e;simp at ho
     unfold D9 at h1;split at h1
     ·cases h1
     rename_i e1 he1;obtain⟨ts,hc,hts⟩:=sj hG p2 he1;obtain⟨x,h3,h4,_⟩:=nU hc h1 (by rw [aY,if_neg (Ne.symm ho')];rfl);exact ew he hH (sI h3 (Ow.1 he1).1 hl hb) rfl (h2 _ h4)
   ·rename_i n;split at hk;rotate_left
    ·cases hk
    rename_i hap;obtain⟨r,h1,h2⟩:=aR hR ha hk;unfold D9 at h1;split at h1
    ·cases h1
    rename_i e1 he1;obtain⟨ts,hc,hts⟩:=sj hG p2 he1;obtain⟨l,ls,h3,h4,h5⟩:=gE hc h1;rw [Bw hap] at h5;exact ew he hH (sI h3 (Ow.1 he1).1 hl hb) rfl (h2 _ (qw h5 h4))
  ·cases hk
 ·rename_i v cs b off n hl hf hcc;obtain⟨r,h1,h2⟩:=aR hR ha hk;obtain⟨ts,ht1,ht2⟩:=dJ.1 hcc;obtain⟨l,x,h3,h4,h5⟩:=nw ht1 ⟨ht2,fH hf _ _⟩ h1;obtain⟨h6,h7⟩:=fl h3;have h8:off+bW sz<=n:=by simp only [OI] at h6;omega
  have qxi:cut cs (b+off) (bW sz)=some l:=by rw [cI,if_pos (by omega),h7];congr 1;simp only [List.drop_drop,List.drop_take,List.take_take];congr 1;omega
  exact aO (v:=x) rfl (by simp only [iP,he,qxi,h4,dG]) (h2 _ h5)
 ·rename_i O v i j off id gg b z len cap ex hA;obtain⟨s,io,iz,es,ho,hk⟩:=ct hk;obtain⟨y,hy,hs⟩:=hR.heap O _ ho;obtain⟨r,h1,h2⟩:=aR hR ha hk;obtain⟨l,hl,h1⟩:=Dd h1;have hsl:=oI hs hl (by simp) hA;obtain rfl:=B3 hsl;obtain⟨cells,l',x,hH,h3,h4,h5⟩:=Ik hsl h1;exact ew he hH h3 h4 (h2 _ h5)
end
end Go.Ax.V
end
