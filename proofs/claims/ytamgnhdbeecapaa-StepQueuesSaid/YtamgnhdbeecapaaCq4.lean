/- Part 4 of the proof: Ax24, Ax25, Ax26, Ax27, V0, LqIR, V1, V2, V3, V4. -/
import Derived.Test.YtamgnhdbeecapaaCq3
import Derived.LoopN
set_option linter.unusedSimpArgs false
set_option linter.unusedVariables false
noncomputable section
namespace Go.Ax
section
variable {cf:eI} {nt n0:Nat} {H:ay} {nx:Nat}
theorem zJ (hup:lY cf) {ao:av} {st st1:St} {r:Rec} (hd:bE cf nt n0 ao st=some (st1,r)):st.nx<=st1.nx:=by
 have qxc:∀{f:Nat} {args:List AV} {m:Mode} {v:AV} {H':ay} {nx':Nat} {cR:List Rd} {bX:Ip},bU cf n0 f args m st.H st.nx=some (v,H',nx',cR,bX)->st.nx<=nx':=by
  intro f args m v H' nx' cR bX h;cases m with
  |share=>
   simp only [bU] at h;split at h
   ·rename_i hc;cases h;exact hup _ _ _ _ _ _ _ hc
   ·cases h
  |borrow=>simp only [bU,cond_eq_ite] at h;split at h<;>split at h<;>first|(cases h;exact Qy _)|cases h
 unfold bE at hd;rw [cond_eq_ite] at hd;split at hd
 ·split at hd
  ·cases hd
  ·rename_i v H nx cR bX hE;split at hd
   ·cases hd
   ·cases hd;unfold ee at hE;rw [cond_eq_ite] at hE;split at hE
    ·split at hE
     ·split at hE
      ·cases hE
      ·split at hE
       ·cases hE;exact Qy _
       ·cases hE
     ·cases hE
    ·unfold j3 at hE;split at hE
     ·split at hE
      ·split at hE
       ·rename_i hrun;cases hE;exact mH hrun
       ·cases hE
      ·cases hE
     ·exact qxc hE
     ·split at hE
      ·exact qxc hE
      ·cases hE
 ·split at hd
  ·cases hd
  ·cases hd;exact Qy _
theorem qV (hup:lY cf):∀{al:List av} {st st':St} {rs:List Rec},cZ cf nt n0 al st=some (st',rs)->st.nx<=st'.nx
 |[],st,st',rs,h=>by cases h;exact Qy _
 |ao::al,st,st',rs,h=>by
  simp only [cZ] at h;split at h
  ·cases h
  ·rename_i st1 r h1;split at h
   ·cases h
   ·rename_i h2;cases h;exact Qw (zJ hup h1) (qV hup h2)
end
def pe (ex:dm):Prop:=∀nt ac st x st',ex nt ac st=some (x,st')->st.nx<=st'.nx
theorem yb {ex:dm} {cf:eI} (h1:pe ex) (h2:lY cf):pe (bu ex cf):=by
 intro nt ac st x st' h;unfold bu at h;split at h
 ·cases h;exact Qy _
 ·split at h
  ·rename_i hr;cases h;exact tO h2 hr
  ·cases h
 ·split at h
  ·rename_i hr;cases h;unfold b_ at hr;split at hr
   ·cases hr
   ·rename_i hrun;rw [cond_eq_ite] at hr;split at hr
    ·cases hr;exact qV h2 hrun
    ·cases hr
  ·cases h
 ·split at h
  ·rename_i hr;exact Qw (h1 _ _ _ _ _ hr) (h1 _ _ _ _ _ h)
  ·exact h1 _ _ _ _ _ h
 ·split at h
  ·exact h1 _ _ _ _ _ h
  ·exact h1 _ _ _ _ _ h
  ·cases h
 ·split at h
  ·rename_i hr;rw [cond_eq_ite] at h;split at h
   ·cases h;exact h1 _ _ _ _ _ hr
   ·cases h;exact h1 _ _ _ _ _ hr
  ·exact h1 _ _ _ _ _ h
 ·split at h
  ·rename_i hr;exact Qw (h1 _ _ _ _ _ hr) (h1 _ _ _ _ _ h)
  ·exact h1 _ _ _ _ _ h
 ·cases h;exact Qy _
 ·cases h;exact Qy _
theorem ve {l:List pq} {st:St} {v:AV} {H':ay} {nx':Nat} (h:ko l st=some (v,H',nx')):H'=st.H/\nx'=st.nx:=by
 unfold ko at h;split at h
 ·cases h;exact⟨rfl,rfl⟩
 ·cases h;exact⟨rfl,rfl⟩
 ·cases h
theorem Bx {prog:Map aq} {ex:dm} (h1:pe ex):lY (gQ prog ex):=by
 intro f args H nx v H' nx' h;unfold gQ at h;split at h
 ·cases h
 ·rw [cond_eq_ite] at h;split at h
  ·split at h
   ·rename_i hr;obtain⟨_,rfl⟩:=ve h;exact h1 _ _ _ _ _ hr
   ·rename_i hr;obtain⟨_,rfl⟩:=ve h;exact h1 _ _ _ _ _ hr
   ·cases h
  ·cases h
theorem uw (prog:Map aq):∀k,pe (interp prog k).code/\lY (interp prog k).fn
 |0=>⟨fun _ _ _ _ _ h=>(by cases h),fun _ _ _ _ _ _ _ h=>(by cases h)⟩
 |k+1=>by obtain⟨h1,h2⟩:=uw prog k;exact⟨yb h1 h2,Bx h1⟩
def gM (P:Program):Code->bR->Bool
 |.skip,.skip=>true
 |.region _ ops draw,.aa al=>!draw&&mL P ops ops.toList al
 |.region _ ops draw,.aT al ahead pairs=>draw&&Am P ops al ahead pairs
 |.seq a b,.seq a' b'=>gM P a a'&&gM P b b'
 |.cond c a b,.cond c' a' b'=>bn c c'&&gM P a a'&&gM P b b'
 |.block id c,.block id' c'=>Nat.beq id id'&&gM P c c'
 |.loop c,.loop c'=>gM P c c'
 |.exit id,.exit id'=>Nat.beq id id'
 |.ret,.ret=>true
 |_,_=>false
def bJ.Ie:bJ->Exit
 |.normal=>.normal
 |.exit id=>.exit id
 |.ret=>.ret
def GI (P:Program) (X:Code->(Exit->Act->World->Prop)->Act->World->Prop) (nt:Nat) (st:St) (x:bJ) (st':St) (c:Code):Prop:=
 ∀(top:Nat) (φ:fm) (K:Nat->Prop) (w:World) (a:Act) (Q:Exit->Act->World->Prop),st'.nx<=top->bM top φ K st.H.get st.nx w->lZ φ K w st.env a->a.tmps.size=nt->a.defers=[]->(∀a' w',Post top φ K st w nt st' a' w'->Q x.Ie a' w')->X c Q a w
def ta (P:Program) (ex:dm):Prop:=∀nt ac st x st',ex nt ac st=some (x,st')->∀c,gM P c ac=true->GI P (fun c Q a w=>c.wp P Q a w) nt st x st' c
def v_ (P:Program) (ex:dm) (n:Nat):Prop:=∀nt ac st x st',ex nt (.loop ac) st=some (x,st')->∀c,gM P c ac=true->GI P (fun c Q a w=>Code.rounds P c Q n a w) nt st x st' c
theorem qm {P:Program} {ex:dm} {cf:eI} {n:Nat} (h1:ta P ex) (hu:pe ex) (hl:v_ P ex n):v_ P (bu ex cf) (n+1):=by
 intro nt ac st x st' h c hm top φ K w a Q ht s he hs hd hQ;simp only [bu] at h;rw [rounds_succ];split at h
 ·rename_i st1 hr;have hle:=hu _ _ _ _ _ h;refine h1 nt ac st .normal st1 hr c hm top φ K w a _ (Qw hle ht) s he hs hd (fun a1 w1 hp=>?_);obtain⟨φ1,K1,g,q1,q2,q3⟩:=hp;exact hl nt ac st1 x st' h c hm top φ1 K1 w1 a1 Q ht g.nc q1 q2 q3 (fun a' w' hp'=>hQ a' w' (hp'.trans g))
 ·rename_i hne;refine h1 nt ac st x st' h c hm top φ K w a _ ht s he hs hd (fun a1 w1 hp=>?_);cases x with
  |normal=>exact(hne _ h).elim
  |exit id=>exact hQ a1 w1 hp
  |ret=>exact hQ a1 w1 hp
theorem F5 {P:Program} {ex:dm} {cf:eI} {n:Nat} (tf:P.follows .mixedOrders=true) (h1:ta P ex) (hu:pe ex) (hl:v_ P ex n) (hcf:j7 P cf) (hup:lY cf):ta P (bu ex cf):=by
 intro nt ac st x st' h c hm top φ K w a Q ht s he hs hd hQ;cases ac with
 |skip=>
  cases c<;>first|cases hm|skip
  cases h;exact wp_skip (hQ a w ⟨φ,K,cq.refl s,he,hs,hd⟩)
 |aa al=>
  cases c<;>first|cases hm|skip
  rename_i id ops draw;simp only [gM,Qk,Qm] at hm;obtain⟨rfl,hm⟩:=hm;simp only [bu] at h;split at h
  ·rename_i st1 hr;cases h;exact wp_region_list (LW hcf hup ops.toList al st st' a w φ K hm hr ht s he hs hd hQ)
  ·cases h
 |aT al ahead pairs=>
  cases c<;>first|cases hm|skip
  rename_i id ops draw;simp only [gM,Qk] at hm;obtain⟨rfl,hm⟩:=hm;simp only [bu] at h;split at h
  ·rename_i st1 hr;cases h;exact FY hcf hup tf hm hr ht s he hs hd hQ
  ·cases h
 |seq a1 b1=>
  cases c<;>first|cases hm|skip
  rename_i ca cb;simp only [gM,Qk] at hm;simp only [bu] at h;refine wp_seq ?_;split at h
  ·rename_i st1 hr;have hle:=hu _ _ _ _ _ h;refine h1 nt a1 st .normal st1 hr ca hm.1 top φ K w a _ (Qw hle ht) s he hs hd (fun a1 w1 hp=>?_);obtain⟨φ1,K1,g,q1,q2,q3⟩:=hp;exact h1 nt b1 st1 x st' h cb hm.2 top φ1 K1 w1 a1 Q ht g.nc q1 q2 q3 (fun a' w' hp'=>hQ a' w' (hp'.trans g))
  ·rename_i hne;refine h1 nt a1 st x st' h ca hm.1 top φ K w a _ ht s he hs hd (fun a1 w1 hp=>?_);cases x with
   |normal=>exact(hne _ h).elim
   |exit id=>exact hQ a1 w1 hp
   |ret=>exact hQ a1 w1 hp
 |cond c0 a1 b1=>
  cases c<;>first|cases hm|skip
  rename_i cc ca cb;simp only [gM,Qk] at hm;simp only [bu] at h;have hr:=he.Lu _ _ hm.1.1;split at h
  ·rename_i hc;rw [hc] at hr;exact wp_cond_true (dH hr) (h1 nt a1 st x st' h ca hm.1.2 top φ K w a Q ht s he hs hd hQ)
  ·rename_i hc;rw [hc] at hr;exact wp_cond_false (dH hr) (h1 nt b1 st x st' h cb hm.2 top φ K w a Q ht s he hs hd hQ)
  ·cases h
 |block id c0=>
  cases c<;>first|cases hm|skip
  rename_i id' cc;simp only [gM,Qk,Qn] at hm;obtain⟨rfl,hm⟩:=hm;simp only [bu] at h;refine wp_block ?_;split at h
  ·rename_i i st1 hr;rw [cond_eq_ite] at h;split at h
   ·rename_i hi;rw [Qn] at hi;cases h;refine h1 nt c0 st (.exit i) st' hr cc hm top φ K w a _ ht s he hs hd (fun a1 w1 hp=>?_);simp only [bJ.Ie,Exit.inBlock,if_pos hi];exact hQ a1 w1 hp
   ·rename_i hi;rw [Qn] at hi;cases h;refine h1 nt c0 st (.exit i) st' hr cc hm top φ K w a _ ht s he hs hd (fun a1 w1 hp=>?_);simp only [bJ.Ie,Exit.inBlock,if_neg hi];exact hQ a1 w1 hp
  ·rename_i hne;refine h1 nt c0 st x st' h cc hm top φ K w a _ ht s he hs hd (fun a1 w1 hp=>?_);cases x with
   |normal=>exact hQ a1 w1 hp
   |exit id=>exact(hne _ _ h).elim
   |ret=>exact hQ a1 w1 hp
 |loop c0=>
  cases c<;>first|cases hm|skip
  rename_i cc;exact wp_loop_rounds (n+1) (qm (cf:=cf) h1 hu hl nt c0 st x st' h cc hm top φ K w a Q ht s he hs hd hQ)
 |exit id=>
  cases c<;>first|cases hm|skip
  simp only [gM,Qn] at hm;subst hm;cases h;exact wp_exit (hQ a w ⟨φ,K,cq.refl s,he,hs,hd⟩)
 |ret=>
  cases c<;>first|cases hm|skip
  cases h;exact wp_ret (hQ a w ⟨φ,K,cq.refl s,he,hs,hd⟩)
def xz (P:Program):List ResultVar->List pq->Bool
 |[],[]=>true
 |.tmp t::l,.tmp t'::l'=>Nat.beq t t'&&xz P l l'
 |.cell a t::l,.cell a' sz::l'=>Nat.beq a a'&&qy P t sz&&xz P l l'
 |_,_=>false
def DK (P:Program) (fn:Func) (c:Code) (af:aq):Bool:=Nat.beq fn.ntmps af.nt&&Nat.ble af.params af.nt&&gM P c af.body&&xz P fn.results.toList af.res
def oa (P:Program) (f:Nat) (af:aq):Prop:=(∃fn c,P.funcs[f]?=some fn/\fn.body=some c/\DK P fn c af=true)/\∀args w,(callFunc f args).run P w=.ok (.enter f args) w
theorem xK:∀(vs:List AV) (i:Nat) (e:Env) (t:Nat),ev (cI vs i e) (.t t)=if i<=t/\t < i+vs.length then vs.getD (t - i) c8 else ev e (.t t)
 |[],i,e,t=>by simp [cI];intro h1 h2;omega
 |v::vs,i,e,t=>by
  rw [cI,xK vs (i+1) _ t,zx];by_cases h1:t=i
  ·subst h1;rw [if_neg (by omega),if_pos rfl,if_pos (by simp)];simp
  ·rw [if_neg h1];by_cases h2:i+1<=t/\t < i+1+vs.length
   ·rw [if_pos h2,if_pos (by simp;omega),show t - i=(t - (i+1))+1 by omega];simp
   ·rw [if_neg h2,if_neg (by simp;omega)]
section
variable {top:Nat} {P:Program} {φ:fm} {K:Nat->Prop} {w:World} {st:St} {a:Act}
def rj (tmps:Array Value):ResultVar->Sem Value
 |.tmp t=>pure (tmps.getD t undef)
 |.cell b t=>do loadVar t (←asAddr (tmps.getD b undef))
theorem yU (fn:Func) (tmps:Array Value):results fn tmps=(do let vs ←fn.results.mapM (rj tmps);pure (if h:vs.size=1 then vs[0] else .tuple vs)):=by rfl
theorem Bf (s:bM top φ K st.H.get st.nx w) (he:lZ φ K w st.env a):∀(l:List ResultVar) (l':List pq) (vs:List AV),xz P l l'=true->cw (iS st.env st.H) l'=some vs->
  ∃Vs:List Value,(l.mapM (rj a.tmps)).run P w=.ok Vs w/\Vs.length=vs.length/\∀(j:Nat) (v:AV) (V:Value),vs[j]?=some v->Vs[j]?=some V->aG φ K w v V:=by
 intro l
 induction l with
 |nil=>
  intro l' vs hm hv;cases l' with
  |nil=>cases hv;exact⟨[],rfl,rfl,fun j v V h=>by simp at h⟩
  |cons _ _=>cases hm
 |cons r l ih=>
  intro l' vs hm hv;cases l' with
  |nil=>cases r<;>cases hm
  |cons r' l'=>
   rw [b7] at hv;cases h1:iS st.env st.H r' with
   |none=>rw [h1] at hv;cases hv
   |some v=>
    rw [h1] at hv;simp only at hv;cases h2:cw (iS st.env st.H) l' with
    |none=>rw [h2] at hv;cases hv
    |some vs'=>
     rw [h2] at hv;cases hv;have fin:∀V:Value,aG φ K w v V->xz P l l'=true->(rj a.tmps r).run P w=.ok V w->
       ∃Vs:List Value,((r::l).mapM (rj a.tmps)).run P w=.ok Vs w/\Vs.length=(v::vs').length/\∀(j:Nat) (v':AV) (V':Value),(v::vs')[j]?=some v'->Vs[j]?=some V'->aG φ K w v' V':=by
      intro V hV hml hrun;obtain⟨Vs,q1,q2,q3⟩:=ih l' vs' hml h2;refine⟨V::Vs,?_,by simp [q2],fun j v' V' hj hJ=>?_⟩
      ·rw [List.mapM_cons,Sem.run_bind];rw [hrun];simp [q1]
      ·cases j with
       |zero=>simp at hj hJ;subst hj;subst hJ;exact hV
       |succ j=>exact q3 j v' V' (by simpa using hj) (by simpa using hJ)
     cases r with
     |tmp t=>
      cases r' with
      |cell _ _=>cases hm
      |tmp t'=>simp only [xz,Qk,Qn] at hm;obtain⟨rfl,hm⟩:=hm;cases h1;exact fin _ (he t) hm rfl
     |cell b t=>
      cases r' with
      |tmp _=>cases hm
      |cell b' sz=>
       simp only [xz,Qk,Qn] at hm;obtain⟨⟨rfl,htv⟩,hm⟩:=hm;simp only [iS] at h1;split at h1
       ·rename_i id g off hev;split at h1
        ·rename_i cs hcs;rw [AE] at hcs;have hb:=he b;rw [hev] at hb;obtain⟨blk,base,hp1,hV⟩:=jG hb;obtain⟨b1,qq8,c,e,p1,p2,p3,p4,p5⟩:=fU s hcs;rw [hp1] at p1;cases p1;have hlen:=i_ c (base+off) (bZ sz);have qq9:∀(j:Nat) (x:AV),cs[j]?=some x->x.one=true/\∃u,(mM c (base+off) (bZ sz))[j]?=some u/\aG φ K w x u:=by
          intro j x hx;obtain⟨r1,u,r2,r3⟩:=p5 j x hx;have hj:j < bZ sz:=by
           rcases Nat.lt_or_ge j cs.length with hj|hj
           ·omega
           ·rw [PZ hj] at hx;cases hx
          exact⟨r1,u,by rw [fF c _ _ j hj (by omega)];exact r2,r3⟩
         refine fin _ (vh s htv h1 _ (by rw [p4,hlen]) qq9) hm ?_;simp only [rj,hV,asAddr,Sem.run_bind,Sem.run_pure,Result.andThen_ok];refine kg htv blk (base+off) _ hlen (fun j hj=>?_);rw [jV p2,fF c _ _ j (by omega) (by omega)]
        ·cases h1
       ·cases h1
theorem yT (s:bM top φ K st.H.get st.nx w) (he:lZ φ K w st.env a) {fn:Func} {l':List pq} (hm:xz P fn.results.toList l'=true) {v:AV} {H':ay} {nx':Nat} (hv:ko l' st=some (v,H',nx')) :
  ∃V,(results fn a.tmps).run P w=.ok V w/\aG φ K w v V:=by
 unfold ko at hv;have key:∀vs,cw (iS st.env st.H) l'=some vs->∃Vs:List Value,Vs.length=vs.length/\(∀(j:Nat) (v:AV) (V:Value),vs[j]?=some v->Vs[j]?=some V->aG φ K w v V)/\(results fn a.tmps).run P w=.ok (if h:Vs.toArray.size=1 then Vs.toArray[0] else .tuple Vs.toArray) w:=by
  intro vs hvs;obtain⟨Vs,q1,q2,q3⟩:=Bf s he fn.results.toList l' vs hm hvs;refine⟨Vs,q2,q3,?_⟩;have e:fn.results=fn.results.toList.toArray:=by simp
  rw [yU,e,List.mapM_toArray];simp [q1]
 split at hv
 ·rename_i v1 hvs;cases hv;obtain⟨Vs,q1,q2,q3⟩:=key _ hvs;cases Vs with
  |nil=>simp at q1
  |cons V Vs=>have hVs:Vs=[]:=List.eq_nil_of_length_eq_zero (by simpa using q1);subst hVs;exact⟨V,by rw [q3];rfl,q2 0 v V rfl rfl⟩
 ·rename_i vs hne hvs;cases hv;obtain⟨Vs,q1,q2,q3⟩:=key _ hvs;refine⟨.tuple Vs.toArray,?_,.dM vs Vs.toArray (by simp [q1]) (fun j a V ha hV=>q2 j a V ha (by simpa using hV))⟩;rw [q3,dif_neg];intro h1;cases vs with
  |nil=>simp at q1;simp [q1] at h1
  |cons v1 vs1=>
   cases vs1 with
   |nil=>exact hne v1 rfl
   |cons _ _=>simp at q1 h1;omega
 ·cases hv
end
theorem J4 {P:Program} {prog:Map aq} (qx0:∀f af,prog.get f=some af->oa P f af) {ex:dm} (h1:ta P ex):j7 P (gQ prog ex):=by
 intro f args H nx v H' nx' h;unfold gQ at h;split at h
 ·cases h
 ·rename_i af haf;obtain⟨⟨fn,c,hf,hb,hm⟩,qxc⟩:=qx0 f af haf;simp only [DK,Qk,Qn,Qo] at hm;obtain⟨⟨⟨hnt,hpn⟩,hmc⟩,hmr⟩:=hm;refine⟨qxc,?_⟩;rw [cond_eq_ite] at h;split at h
  ·rename_i hlen;rw [Qn] at hlen;intro top φ K w cargs ht s ha;have hsz:(cargs++Array.replicate (fn.ntmps - cargs.size) undef).size=af.nt:=by have:=ha.1;simp;omega
   have qxp:lZ φ K w (cI args 0 .leaf) {tmps:=cargs++Array.replicate (fn.ntmps - cargs.size) undef,defers:=[]}:=by
    intro t;rw [xK];simp only [Qx,true_and,Nat.zero_add,Nat.sub_zero];by_cases hlt:t < args.length
    ·rw [if_pos hlt];have hc:t < cargs.size:=by have:=ha.1;omega
     have h2:=ha.2 t _ _ (PU hlt) (Array.getElem?_eq_getElem hc);have e1:args.getD t c8=args[t]:=by simp [hlt]
     have e2:(cargs++Array.replicate (fn.ntmps - cargs.size) undef).getD t undef=cargs[t]:=by rw [Array.getD_eq_getD_getElem?,Array.getElem?_append_left hc,Array.getElem?_eq_getElem hc];rfl
     rw [e1,e2];exact h2
    ·rw [if_neg hlt];have e2:(cargs++Array.replicate (fn.ntmps - cargs.size) undef).getD t undef=undef:=by rw [Array.getD_eq_getD_getElem?,Array.getElem?_append_right (by have:=ha.1;omega),Array.getElem?_replicate];split<;>rfl
     rw [e2];exact oe
   have fin:∀(x:bJ) (st:St),ex af.nt af.body ⟨cI args 0 .leaf,H,nx⟩=some (x,st)->(x=.normal\/x=.ret)->ko af.res st=some (v,H',nx')->Calls P f cargs w (It (Ends top φ K H.get nx w v H'.get nx')):=by
    intro x st hr hx hres;obtain⟨rfl,rfl⟩:=ve hres;refine calls_of_wp hf hb ?_;refine h1 af.nt af.body _ x st hr c hmc top φ K w _ _ ht s qxp hsz rfl (fun a' w' hp=>?_);obtain⟨φ',K',g,qx4,hs',hd'⟩:=hp;obtain⟨V,hV1,hV2⟩:=yT (P:=P) (fn:=fn) g.nc qx4 hmr hres;have hb:a'.defers=[]/\∃V,(results fn a'.tmps).run P w'=.ok V w'/\It (Ends top φ K H.get nx w v st.H.get st.nx) (.returned V) w':=⟨hd',V,hV1,φ',K',g,hV2⟩;rcases hx with rfl|rfl
    ·exact hb
    ·exact hb
   split at h
   ·rename_i st hr;exact fin .normal st hr (.inl rfl) h
   ·rename_i st hr;exact fin .ret st hr (.inr rfl) h
   ·cases h
  ·cases h
theorem ux {P:Program} (tf:P.follows .mixedOrders=true) {prog:Map aq} (qx0:∀f af,prog.get f=some af->oa P f af):∀k,ta P (interp prog k).code/\v_ P (interp prog k).code k/\j7 P (interp prog k).fn
 |0=>⟨fun _ _ _ _ _ h=>(by cases h),fun _ _ _ _ _ h=>(by cases h),fun _ _ _ _ _ _ _ h=>(by cases h)⟩
 |k+1=>by obtain⟨h1,h2,h3⟩:=ux tf qx0 k;obtain⟨u1,u2⟩:=uw prog k;exact⟨F5 tf h1 u1 h2 h3 u2,qm h1 u1 h2,J4 qx0 h1⟩
end Go.Ax
namespace Go.Ax
theorem vE {W W':World} (e:Ext (fun _=>False) W W'):RowKit.Grown W W':=by
 refine⟨⟨e.os,e.output,fun i hi=>?_⟩,e.fz,e.size⟩;rw [e.same i hi (fun h=>h)];cases h:W.heap[i]? with
 |none=>rfl
 |some ob=>
  cases ob with
  |cells c t fr=>exact⟨rfl,rfl,rfl,fun _ _=>rfl⟩
  |map es clk=>exact .inr ⟨rfl,rfl⟩
  |_=>rfl
def isTrue:Option (AV×ay×Nat)->Bool
 |some (.bool b,_,_)=>b
 |_=>false
theorem xH {r:Option (AV×ay×Nat)} (h:isTrue r=true):∃H nx,r=some (.bool true,H,nx):=by
 unfold isTrue at h;split at h
 ·subst h;exact⟨_,_,rfl⟩
 ·cases h
theorem zS {P:Program} {cf:eI} (hcf:j7 P cf) {f:Nat} {args:List AV} (h:isTrue (cf f args .leaf 0)=true) {cargs:Array Value} {W:World} (ha:td t_ (fun b=>b < W.heap.size) W args cargs) :
  Calls P f cargs W fun e W'=>e=.returned (.bool true)/\RowKit.Grown W W':=by
 obtain⟨H,nx,hr⟩:=xH h;refine Calls.mono ((hcf f args .leaf 0 _ H nx hr).2 nx t_ (fun b=>b < W.heap.size) W cargs (Qy _) (qJ _ (fun b hb=>hb)) ha) (fun e W' he=>?_);cases e with
 |returned V=>obtain⟨φ',K',g,hv⟩:=he;rw [dH hv];exact⟨rfl,vE (g.ext.mono (fun b hb=>(mJ hb).elim))⟩
 |panicked _=>exact he.elim
 |outgrown=>exact he.elim
def mF (P:Program) (fn:Func) (af:aq):Bool:=match fn.body with|some c=>DK P fn c af|none=>false
theorem y_ {P:Program} {f:Nat} {fn:Func} {af:aq} (hf:P.funcs[f]?=some fn) (hm:mF P fn af=true) (qxc:∀args w,(callFunc f args).run P w=.ok (.enter f args) w):oa P f af:=by
 unfold mF at hm;split at hm
 ·rename_i c hc;exact⟨⟨fn,c,hf,hc,hm⟩,qxc⟩
 ·cases hm
def Gd (M:Nat->aq->Prop):Map aq->(Nat->Nat)->Prop
 |.leaf,_=>True
 |.node v l r,p=>(match v with|some af=>M (p 0) af|none=>True)/\Gd M l (fun k=>p (2*k+1))/\Gd M r (fun k=>p (2*k+2))
theorem s7 {M:Nat->aq->Prop}:∀(m:Map aq) (p:Nat->Nat),Gd M m p->∀i af,m.get i=some af->M (p i) af
 |.leaf,p,_,i,af,h=>by cases h
 |.node v l r,p,h,i,af,hg=>by
  obtain⟨h1,h2,h3⟩:=h;rw [Map.b5] at hg;by_cases h0:i=0
  ·subst h0;simp at hg;subst hg;exact h1
  ·rw [if_neg h0] at hg;split at hg
   ·have:=s7 l _ h2 _ af hg;rwa [show 2*(i / 2)+1=i by omega] at this
   ·have:=s7 r _ h3 _ af hg;rwa [show 2*(i / 2 - 1)+2=i by omega] at this
end Go.Ax
namespace Go.Ax
open Classical
def Ev {α:Type} (X:Nat->Option α) (r:α):Prop:=∃k0,∀k,k0<=k->X k=some r
theorem Ev.const {α:Type} {x:Option α} {r:α} (h:x=some r):Ev (fun _=>x) r:=⟨0,fun _ _=>h⟩
theorem Ev.bind {α β:Type} {X:Nat->Option α} {Y:Nat->α->Option β} {a:α} {b:β} (h1:Ev X a) (h2:Ev (fun k=>Y k a) b):Ev (fun k=>match X k with|some x=>Y k x|none=>none) b:=by obtain⟨k1,h1⟩:=h1;obtain⟨k2,h2⟩:=h2;exact⟨max k1 k2,fun k hk=>by simp only [h1 k (by omega)];exact h2 k (by omega)⟩
theorem Ev.map {α β:Type} {X:Nat->Option α} (f:Option α->Option β) {a:α} {b:β} (h1:Ev X a) (h2:f (some a)=some b):Ev (fun k=>f (X k)) b:=by obtain⟨k1,h1⟩:=h1;exact⟨k1,fun k hk=>by show f (X k)=some b;rw [h1 k hk];exact h2⟩
theorem Ev.uniq {α:Type} {X:Nat->Option α} {a b:α} (h1:Ev X a) (h2:Ev X b):a=b:=by obtain⟨k1,h1⟩:=h1;obtain⟨k2,h2⟩:=h2;have e1:=h1 (max k1 k2) (by omega);have e2:=h2 (max k1 k2) (by omega);rw [e1] at e2;exact Qv e2
theorem Ev.congr {α:Type} {X Y:Nat->Option α} {a:α} (h:Ev X a) (e:∀k,Y k=X k):Ev Y a:=by obtain⟨k1,h1⟩:=h;exact⟨k1,fun k hk=>by rw [e];exact h1 k hk⟩
def mZ (cfk:Nat->eI) (cf:eI):Prop:=∀f args H nx r,cf f args H nx=some r->Ev (fun k=>cfk k f args H nx) r
def pg (exk:Nat->dm) (ex:dm):Prop:=∀nt c st r,ex nt c st=some r->Ev (fun k=>exk k nt c st) r
section
variable {cfk:Nat->eI} {cf:eI} {nt n0:Nat}
theorem lP (h:mZ cfk cf) {f:Nat} {args:List AV} {m:Mode} {H:ay} {nx:Nat} {r:AV×ay×Nat} (hd:bK cf f args m H nx=some r):Ev (fun k=>bK (cfk k) f args m H nx) r:=by
 cases m with
 |share=>exact h _ _ _ _ _ hd
 |borrow=>
  simp only [bK,cond_eq_ite] at hd ⊢;split at hd
  ·rename_i hp;simp only [if_pos hp];cases hc:cf f args .leaf 0 with
   |none=>rw [hc] at hd;cases hd
   |some q=>
    rw [hc] at hd
    (obtain⟨k1,e1⟩:=h _ _ _ _ _ hc;exact⟨k1,fun k hk=>by simp only [e1 k hk];exact hd⟩)
  ·rename_i hp;simp only [if_neg hp];split at hd
   ·cases hd
   ·rename_i as has;cases hc:cf f as .leaf 0 with
    |none=>rw [hc] at hd;cases hd
    |some q=>
     rw [hc] at hd
     (obtain⟨k1,e1⟩:=h _ _ _ _ _ hc;exact⟨k1,fun k hk=>by simp only [e1 k hk];exact hd⟩)
theorem F1 (h:mZ cfk cf) {o:av} {ρ:aH->AV} {H:ay} {nx:Nat} {r:AV×ay×Nat} (hd:jb cf o ρ H nx=some r):Ev (fun k=>jb (cfk k) o ρ H nx) r:=by
 simp only [jb,cond_eq_ite] at hd ⊢;by_cases hz:o.fz=true
 ·simp only [if_pos hz] at hd ⊢;exact Ev.const hd
 ·simp only [if_neg hz] at hd ⊢;simp only [fj] at hd ⊢;cases hk:kind o.op with
  |plan p=>rw [hk] at hd;exact Ev.const hd
  |call f args m=>rw [hk] at hd;exact lP h hd
  |cN f args m=>rw [hk] at hd;simp only at hd ⊢;cases hf:ρ f<;>rw [hf] at hd<;>first|cases hd|exact lP h hd
theorem Cw (h:mZ cfk cf) {o:av} {st st':St} (hd:er cf nt o st=some st'):Ev (fun k=>er (cfk k) nt o st) st':=by
 simp only [er,cond_eq_ite] at hd ⊢;by_cases hw:wanted st.env o.gd=true
 ·simp only [if_pos hw] at hd ⊢;cases hf:jb cf o (ev st.env) st.H st.nx with
  |none=>rw [hf] at hd;cases hd
  |some q=>
   rw [hf] at hd
   (obtain⟨k1,e1⟩:=F1 h hf;exact⟨k1,fun k hk=>by simp only [e1 k hk];exact hd⟩)
 ·simp only [if_neg hw] at hd ⊢;exact Ev.const hd
theorem tP (h:mZ cfk cf):∀{l:List av} {st st':St},dy cf nt l st=some st'->Ev (fun k=>dy (cfk k) nt l st) st':=by
 intro l
 induction l with
 |nil=>intro st st' hd;exact Ev.const hd
 |cons o l ih=>
  intro st st' hd;rw [dX] at hd;split at hd
  ·rename_i st1 h1;exact(Ev.bind (Y:=fun k st=>dy (cfk k) nt l st) (Cw h h1) (ih hd)).congr (fun k=>by rw [dX];cases er (cfk k) nt o st<;>rfl)
  ·cases hd
theorem sN (h:mZ cfk cf) {f:Nat} {args:List AV} {m:Mode} {H:ay} {nx:Nat} {r:Ln} (hd:bU cf n0 f args m H nx=some r):Ev (fun k=>bU (cfk k) n0 f args m H nx) r:=by
 cases m with
 |share=>
  simp only [bU] at hd ⊢;cases hc:cf f args (H.upto fun i=>Nat.blt i n0) nx with
  |none=>rw [hc] at hd;cases hd
  |some q=>
   rw [hc] at hd
   (obtain⟨k1,e1⟩:=h _ _ _ _ _ hc;exact⟨k1,fun k hk=>by simp only [e1 k hk];exact hd⟩)
 |borrow=>
  simp only [bU,cond_eq_ite] at hd ⊢;by_cases hp:bz AV.plain args=true
  ·simp only [if_pos hp] at hd ⊢;cases hc:bK cf f args .borrow H nx with
   |none=>rw [hc] at hd;cases hd
   |some q=>
    rw [hc] at hd
    (obtain⟨k1,e1⟩:=lP h hc;exact⟨k1,fun k hk=>by simp only [e1 k hk];exact hd⟩)
  ·simp only [if_neg hp] at hd ⊢;cases hc:bK cf f args .borrow (H.upto fun i=>Nat.blt i n0) nx with
   |none=>rw [hc] at hd;cases hd
   |some q=>
    rw [hc] at hd
    (obtain⟨k1,e1⟩:=lP h hc;exact⟨k1,fun k hk=>by simp only [e1 k hk];exact hd⟩)
theorem Ee (h:mZ cfk cf) {o:av} {ρ:aH->AV} {H:ay} {nx:Nat} {r:Ln} (hd:ee cf n0 o ρ H nx=some r):Ev (fun k=>ee (cfk k) n0 o ρ H nx) r:=by
 simp only [ee,cond_eq_ite] at hd ⊢;by_cases hz:o.fz=true
 ·simp only [if_pos hz] at hd ⊢;exact Ev.const hd
 ·simp only [if_neg hz] at hd ⊢;simp only [j3] at hd ⊢;cases hk:kind o.op with
  |plan p=>rw [hk] at hd;exact Ev.const hd
  |call f args m=>rw [hk] at hd;exact sN h hd
  |cN f args m=>rw [hk] at hd;simp only at hd ⊢;cases hf:ρ f<;>rw [hf] at hd<;>first|cases hd|exact sN h hd
theorem zK (h:mZ cfk cf) {o:av} {st:St} {r:St×Rec} (hd:bE cf nt n0 o st=some r):Ev (fun k=>bE (cfk k) nt n0 o st) r:=by
 simp only [bE,cond_eq_ite] at hd ⊢;by_cases hw:wanted st.env o.gd=true
 ·simp only [if_pos hw] at hd ⊢;cases hf:ee cf n0 o (ev st.env) st.H st.nx with
  |none=>rw [hf] at hd;cases hd
  |some q=>
   rw [hf] at hd
   (obtain⟨k1,e1⟩:=Ee h hf;exact⟨k1,fun k hk=>by simp only [e1 k hk];exact hd⟩)
 ·simp only [if_neg hw] at hd ⊢;exact Ev.const hd
theorem yQ (h:mZ cfk cf):∀{l:List av} {st:St} {r:St×List Rec},cZ cf nt n0 l st=some r->Ev (fun k=>cZ (cfk k) nt n0 l st) r:=by
 intro l
 induction l with
 |nil=>intro st r hd;exact Ev.const hd
 |cons o l ih=>
  intro st r hd;simp only [cZ] at hd ⊢;split at hd
  ·cases hd
  ·rename_i st1 r1 h1;split at hd
   ·cases hd
   ·rename_i st2 l2 h2;obtain⟨k1,e1⟩:=zK (cfk:=cfk) h h1;obtain⟨k2,e2⟩:=ih h2;exact⟨max k1 k2,fun k hk=>by simp only [e1 k (by omega),e2 k (by omega)];exact hd⟩
theorem qT (h:mZ cfk cf) {ops:List av} {ahead:List (List Nat)} {pairs:List (Nat×Nat)} {st st':St} (hd:b_ cf nt ops ahead pairs st=some st'):Ev (fun k=>b_ (cfk k) nt ops ahead pairs st) st':=by
 simp only [b_] at hd ⊢;cases hr:cZ cf nt st.nx ops st with
 |none=>rw [hr] at hd;cases hd
 |some q=>
  rw [hr] at hd
  (obtain⟨k1,e1⟩:=yQ h hr;exact⟨k1,fun k hk=>by simp only [e1 k hk];exact hd⟩)
theorem pU {exk:Nat->dm} {ex:dm} (h:mZ cfk cf) (hc:pg exk ex):pg (fun k=>bu (exk k) (cfk k)) (bu ex cf):=by
 intro nt c st r hd;cases c with
 |skip=>exact Ev.const hd
 |exit id=>exact Ev.const hd
 |ret=>exact Ev.const hd
 |aa ops=>
  simp only [bu] at hd ⊢;cases hr:dy cf nt ops st with
  |none=>rw [hr] at hd;cases hd
  |some q=>rw [hr] at hd;(obtain⟨k1,e1⟩:=tP h hr;exact⟨k1,fun k hk=>by simp only [e1 k hk];exact hd⟩)
 |aT ops ahead pairs=>
  simp only [bu] at hd ⊢;cases hr:b_ cf nt ops ahead pairs st with
  |none=>rw [hr] at hd;cases hd
  |some q=>rw [hr] at hd;(obtain⟨k1,e1⟩:=qT h hr;exact⟨k1,fun k hk=>by simp only [e1 k hk];exact hd⟩)
 |seq a b=>
  simp only [bu] at hd ⊢;split at hd
  ·rename_i st1 h1;obtain⟨k1,e1⟩:=hc _ _ _ _ h1;obtain⟨k2,e2⟩:=hc _ _ _ _ hd;exact⟨max k1 k2,fun k hk=>by simp only [e1 k (by omega)];exact e2 k (by omega)⟩
  ·rename_i hne;obtain⟨k1,e1⟩:=hc _ _ _ _ hd;refine⟨k1,fun k hk=>?_⟩;simp only [e1 k hk];split
   ·rename_i st1 heq;cases heq;exact absurd hd (hne st1)
   ·rfl
 |cond c a b=>
  simp only [bu] at hd ⊢;split at hd
  ·exact hc _ _ _ _ hd
  ·exact hc _ _ _ _ hd
  ·cases hd
 |block id c=>
  simp only [bu] at hd ⊢;split at hd
  ·rename_i i st1 h1;obtain⟨k1,e1⟩:=hc _ _ _ _ h1;exact⟨k1,fun k hk=>by simp only [e1 k hk];exact hd⟩
  ·rename_i hne;obtain⟨k1,e1⟩:=hc _ _ _ _ hd;refine⟨k1,fun k hk=>?_⟩;simp only [e1 k hk];split
   ·rename_i i st1 heq;cases heq;exact absurd hd (hne i st1)
   ·rfl
 |loop c=>
  simp only [bu] at hd ⊢;split at hd
  ·rename_i st1 h1;obtain⟨k1,e1⟩:=hc _ _ _ _ h1;obtain⟨k2,e2⟩:=hc _ _ _ _ hd;exact⟨max k1 k2,fun k hk=>by simp only [e1 k (by omega)];exact e2 k (by omega)⟩
  ·rename_i hne;obtain⟨k1,e1⟩:=hc _ _ _ _ hd;refine⟨k1,fun k hk=>?_⟩;simp only [e1 k hk];split
   ·rename_i st1 heq;cases heq;exact absurd hd (hne st1)
   ·rfl
theorem uI {prog:Map aq} {exk:Nat->dm} {ex:dm} (hc:pg exk ex):mZ (fun k=>gQ prog (exk k)) (gQ prog ex):=by
 intro f args H nx r hd;simp only [gQ] at hd ⊢;split at hd
 ·cases hd
 ·rename_i af haf;simp only [cond_eq_ite] at hd ⊢;split at hd
  ·rename_i hl;simp only [if_pos hl];cases hr:ex af.nt af.body ⟨cI args 0 .leaf,H,nx⟩ with
   |none=>rw [hr] at hd;cases hd
   |some q=>
    rw [hr] at hd
    (obtain⟨k1,e1⟩:=hc _ _ _ _ hr;exact⟨k1,fun k hk=>by simp only [e1 k hk];exact hd⟩)
  ·cases hd
end
def aN (prog:Map aq):eI:=fun f args H nx=>if h:∃r,Ev (fun k=>(interp prog k).fn f args H nx) r then some (Classical.choose h) else none
def bh (prog:Map aq):dm:=fun nt c st=>if h:∃r,Ev (fun k=>(interp prog k).code nt c st) r then some (Classical.choose h) else none
theorem wM (prog:Map aq):mZ (fun k=>(interp prog k).fn) (aN prog):=by
 intro f args H nx r h;unfold aN at h;split at h
 ·rename_i hh;cases h;exact Classical.choose_spec hh
 ·cases h
theorem q8 (prog:Map aq):pg (fun k=>(interp prog k).code) (bh prog):=by
 intro nt c st r h;unfold bh at h;split at h
 ·rename_i hh;cases h;exact Classical.choose_spec hh
 ·cases h
theorem Cz {prog:Map aq} {f:Nat} {args:List AV} {H:ay} {nx:Nat} {r:AV×ay×Nat} (h:Ev (fun k=>(interp prog k).fn f args H nx) r):aN prog f args H nx=some r:=by have hh:∃r,Ev (fun k=>(interp prog k).fn f args H nx) r:=⟨r,h⟩;unfold aN;rw [dif_pos hh];exact congrArg some (Ev.uniq (Classical.choose_spec hh) h)
theorem yR {prog:Map aq} {nt:Nat} {c:bR} {st:St} {r:bJ×St} (h:Ev (fun k=>(interp prog k).code nt c st) r):bh prog nt c st=some r:=by have hh:∃r,Ev (fun k=>(interp prog k).code nt c st) r:=⟨r,h⟩;unfold bh;rw [dif_pos hh];exact congrArg some (Ev.uniq (Classical.choose_spec hh) h)
theorem AH {α:Type} {X:Nat->Option α} {r:α} (h:Ev (fun k=>X (k+1)) r):Ev X r:=by obtain⟨k0,h⟩:=h;exact⟨k0+1,fun k hk=>by have h1:X (k - 1+1)=some r:=h (k - 1) (by omega);rwa [show k - 1+1=k by omega] at h1⟩
theorem c9 {prog:Map aq} {nt:Nat} {c:bR} {st:St} {r:bJ×St} (h:bu (bh prog) (aN prog) nt c st=some r):bh prog nt c st=some r:=
 yR (AH (X:=fun k=>(interp prog k).code nt c st) (pU (wM prog) (q8 prog) nt c st r h))
theorem yP {prog:Map aq} {f:Nat} {args:List AV} {H:ay} {nx:Nat} {r:AV×ay×Nat} (h:gQ prog (bh prog) f args H nx=some r):aN prog f args H nx=some r:=
 Cz (AH (X:=fun k=>(interp prog k).fn f args H nx) (uI (q8 prog) f args H nx r h))
theorem Cy {P:Program} {prog:Map aq} (h:∀k,j7 P (interp prog k).fn):j7 P (aN prog):=by intro f args H nx v H' nx' hr;obtain⟨k0,hk⟩:=wM prog f args H nx _ hr;exact h k0 f args H nx v H' nx' (hk k0 (Qy _))
end Go.Ax
namespace Go.Ax
def ic (cf:eI) (lf:dm) (nt:Nat) (c:bR):St->Option (bJ×St):=
 bR.rec (motive:=fun _=>St->Option (bJ×St))
  (fun st=>some (.normal,st))
  (fun ops st=>match dy cf nt ops st with|some st=>some (.normal,st)|none=>none)
  (fun ops ahead pairs st=>match b_ cf nt ops ahead pairs st with|some st=>some (.normal,st)|none=>none)
  (fun _ _ ea eb st=>match ea st with|some (.normal,st)=>eb st|r=>r)
  (fun c _ _ ea eb st=>match ev st.env c with|.bool true=>ea st|.bool false=>eb st|_=>none)
  (fun id _ ec st=>match ec st with|some (.exit i,st)=>bif Nat.beq i id then some (.normal,st) else some (.exit i,st)|r=>r)
  (fun c _ st=>lf nt (.loop c) st)
  (fun id st=>some (.exit id,st))
  (fun st=>some (.ret,st)) c
section
variable {prog:Map aq} {cf:eI} {lf:dm} {nt:Nat}
theorem vM (prog:Map aq) (nt:Nat):∀(c:bR) (st:St) (r:bJ×St),ic (aN prog) (bh prog) nt c st=some r->bh prog nt c st=some r:=by
 intro c
 induction c with
 |skip=>intro st r h;exact c9 h
 |aa ops=>intro st r h;exact c9 h
 |aT ops ahead pairs=>intro st r h;exact c9 h
 |exit id=>intro st r h;exact c9 h
 |ret=>intro st r h;exact c9 h
 |loop c ih=>intro st r h;exact h
 |seq a b iha ihb=>
  intro st r h;refine c9 ?_;change (match ic (aN prog) (bh prog) nt a st with|some (.normal,st)=>ic (aN prog) (bh prog) nt b st|r=>r)=some r at h;simp only [bu];split at h
  ·rename_i st1 h1;rw [iha _ _ h1];exact ihb _ _ h
  ·rename_i hne;rw [iha _ _ h];split
   ·rename_i st1 heq;cases heq;exact absurd h (hne st1)
   ·rfl
 |cond c a b iha ihb=>
  intro st r h;refine c9 ?_;change (match ev st.env c with|.bool true=>ic (aN prog) (bh prog) nt a st|.bool false=>ic (aN prog) (bh prog) nt b st|_=>none)=some r at h;simp only [bu];split at h
  ·rename_i hc;rw [hc];exact iha _ _ h
  ·rename_i hc;rw [hc];exact ihb _ _ h
  ·cases h
 |block id c ih=>
  intro st r h;refine c9 ?_;change (match ic (aN prog) (bh prog) nt c st with|some (.exit i,st)=>bif Nat.beq i id then some (.normal,st) else some (.exit i,st)|r=>r)=some r at h;simp only [bu];split at h
  ·rename_i i st1 h1;rw [ih _ _ h1];exact h
  ·rename_i hne;rw [ih _ _ h];split
   ·rename_i i st1 heq;cases heq;exact absurd h (hne i st1)
   ·rfl
def WC (cf:eI) (lf:dm) (nt:Nat) (c:bR) (st:St) (Q:bJ->St->Prop):Prop:=∃x st',ic cf lf nt c st=some (x,st')/\Q x st'
def WR (cf:eI) (nt:Nat) (ops:List av) (st:St) (Q:St->Prop):Prop:=∃st',dy cf nt ops st=some st'/\Q st'
theorem EZ {st:St} {Q:bJ->St->Prop} (h:Q .normal st):WC cf lf nt .skip st Q:=⟨_,_,rfl,h⟩
theorem E2 {id:Nat} {st:St} {Q:bJ->St->Prop} (h:Q (.exit id) st):WC cf lf nt (.exit id) st Q:=⟨_,_,rfl,h⟩
theorem GM {st:St} {Q:bJ->St->Prop} (h:Q .ret st):WC cf lf nt .ret st Q:=⟨_,_,rfl,h⟩
theorem GN {ops:List av} {st:St} {Q:bJ->St->Prop} (h:WR cf nt ops st (Q .normal)):WC cf lf nt (.aa ops) st Q:=by obtain⟨st',h1,h2⟩:=h;refine⟨.normal,st',?_,h2⟩;show (match dy cf nt ops st with|some st=>some (bJ.normal,st)|none=>none)=_;rw [h1]
theorem E3 {ops:List av} {ahead:List (List Nat)} {pairs:List (Nat×Nat)} {st st':St} {Q:bJ->St->Prop} (h1:b_ cf nt ops ahead pairs st=some st') (h2:Q .normal st'):WC cf lf nt (.aT ops ahead pairs) st Q:=by refine⟨.normal,st',?_,h2⟩;show (match b_ cf nt ops ahead pairs st with|some st=>some (bJ.normal,st)|none=>none)=_;rw [h1]
def IU (cf:eI) (lf:dm) (nt:Nat) (b:bR) (Q:bJ->St->Prop):bJ->St->Prop
 |.normal,st=>WC cf lf nt b st Q
 |x,st=>Q x st
theorem GL {a b:bR} {st:St} {Q:bJ->St->Prop} (h:WC cf lf nt a st (IU cf lf nt b Q)):WC cf lf nt (.seq a b) st Q:=by
 obtain⟨x,st1,h1,h2⟩:=h;have e:ic cf lf nt (.seq a b) st=(match ic cf lf nt a st with|some (.normal,st)=>ic cf lf nt b st|r=>r):=rfl;cases x with
 |normal=>obtain⟨x',st',h3,h4⟩:=h2;exact⟨x',st',by rw [e,h1];exact h3,h4⟩
 |exit id=>exact⟨_,st1,by rw [e,h1],h2⟩
 |ret=>exact⟨_,st1,by rw [e,h1],h2⟩
theorem u5 {c:aH} {a b:bR} {st:St} {Q:bJ->St->Prop} (hc:ev st.env c=.bool true) (h:WC cf lf nt a st Q):WC cf lf nt (.cond c a b) st Q:=by obtain⟨x,st1,h1,h2⟩:=h;refine⟨x,st1,?_,h2⟩;show (match ev st.env c with|.bool true=>ic cf lf nt a st|.bool false=>ic cf lf nt b st|_=>none)=_;rw [hc];exact h1
theorem tj {c:aH} {a b:bR} {st:St} {Q:bJ->St->Prop} (hc:ev st.env c=.bool false) (h:WC cf lf nt b st Q):WC cf lf nt (.cond c a b) st Q:=by obtain⟨x,st1,h1,h2⟩:=h;refine⟨x,st1,?_,h2⟩;show (match ev st.env c with|.bool true=>ic cf lf nt a st|.bool false=>ic cf lf nt b st|_=>none)=_;rw [hc];exact h1
def zU (id:Nat) (Q:bJ->St->Prop):bJ->St->Prop
 |.exit i,st=>if i=id then Q .normal st else Q (.exit i) st
 |x,st=>Q x st
theorem B4 {id:Nat} {c:bR} {st:St} {Q:bJ->St->Prop} (h:WC cf lf nt c st (zU id Q)):WC cf lf nt (.block id c) st Q:=by
 obtain⟨x,st1,h1,h2⟩:=h;have e:ic cf lf nt (.block id c) st=(match ic cf lf nt c st with|some (.exit i,st)=>bif Nat.beq i id then some (.normal,st) else some (.exit i,st)|r=>r):=rfl;cases x with
 |normal=>exact⟨_,st1,by rw [e,h1],h2⟩
 |ret=>exact⟨_,st1,by rw [e,h1],h2⟩
 |exit i=>
  simp only [zU] at h2;by_cases hi:i=id
  ·rw [if_pos hi] at h2;exact⟨.normal,st1,by rw [e,h1];simp [hi],h2⟩
  ·rw [if_neg hi] at h2;have:Nat.beq i id=false:=by
    cases hb:Nat.beq i id with
    |false=>rfl
    |true=>rw [Qn] at hb;exact absurd hb hi
   exact⟨.exit i,st1,by rw [e,h1];simp [this],h2⟩
theorem lg {c:bR} {st:St} {Q Q':bJ->St->Prop} (h:WC cf lf nt c st Q) (hq:∀x st',Q x st'->Q' x st'):WC cf lf nt c st Q':=
 let ⟨x,st',h1,h2⟩:=h;⟨x,st',h1,hq _ _ h2⟩
end
theorem E0 {prog:Map aq} {nt:Nat} {c:bR} {Q:bJ->St->Prop} {α:Type} (I:α->St->Prop) (μ:α->Nat)
  (round:∀a st,I a st->WC (aN prog) (bh prog) nt c st (fun x st'=>match x with|.normal=>∃a',μ a' < μ a/\I a' st'|x=>Q x st')) :
  ∀a st,I a st->WC (aN prog) (bh prog) nt (.loop c) st Q:=by
 have key:∀n a st,μ a=n->I a st->∃x st',bh prog nt (.loop c) st=some (x,st')/\Q x st':=by
  intro n
  induction n using Nat.strongRecOn with
  |_ n ih=>
   intro a st hn hI;obtain⟨x,st1,h1,h2⟩:=round a st hI;have h1':=vM prog nt _ _ _ h1;cases x with
   |normal=>obtain⟨a',hlt,hI'⟩:=h2;obtain⟨x',st',h3,h4⟩:=ih (μ a') (by omega) a' st1 rfl hI';exact⟨x',st',c9 (by simp only [bu,h1'];exact h3),h4⟩
   |exit id=>exact⟨_,st1,c9 (by simp only [bu,h1']),h2⟩
   |ret=>exact⟨_,st1,c9 (by simp only [bu,h1']),h2⟩
 intro a st hI;obtain⟨x,st',h1,h2⟩:=key _ a st rfl hI;exact⟨x,st',h1,h2⟩
theorem sE {prog:Map aq} {f:Nat} {af:aq} (hf:prog.get f=some af) {args:List AV} (ha:args.length=af.params) {H:ay} {nx:Nat} {r:AV×ay×Nat->Prop}
  (h:WC (aN prog) (bh prog) af.nt af.body ⟨cI args 0 .leaf,H,nx⟩ (fun x st=>(x=.normal\/x=.ret)/\∃v,ko af.res st=some v/\r v)):∃v,aN prog f args H nx=some v/\r v:=by
 obtain⟨x,st,h1,hx,v,h2,h3⟩:=h;refine⟨v,yP ?_,h3⟩;have h1':=vM prog _ _ _ _ h1;simp only [gQ,hf,cond_eq_ite,Qn,if_pos ha,h1'];rcases hx with rfl|rfl<;>exact h2
end Go.Ax
namespace Go.Ax.V
inductive TV where
 |i (k:IntKind) (n:Int)
 |b (b:Bool)
 |s (s:ByteArray)
 |f (n:Nat)
 |np
 |l (es:List TV)
 |a (cs:List TV)
 |tp (vs:List TV)
 |pZ (x:AV) (u:TV)
 deriving Inhabited
abbrev rS:TV:=.tp []
def TV.ja:TV->Bool
 |.tp _=>true
 |_=>false
def TV.one:TV->Bool
 |.a _=>false
 |.tp _=>false
 |_=>true
def TV.z9:TV->Bool
 |.a cs=>bz (fun c=>match c with|.l _=>false|.a _=>false|.tp _=>false|.pZ _ _=>false|_=>true) cs
 |.l _=>false
 |.tp _=>false
 |.pZ _ _=>false
 |_=>true
def TV.Be:TV->Bool
 |.tp vs=>bz TV.z9 vs
 |v=>v.z9
def CA:AV->Bool
 |.b6 _ _ _=>true
 |.ak=>true
 |_=>false
mutual
inductive Can:TV->AV->Prop where
 |i (k:IntKind) (n:Int):Can (.i k n) (.int k n)
 |b (x:Bool):Can (.b x) (.bool x)
 |s (x:ByteArray):Can (.s x) (.str x)
 |f (n:Nat):Can (.f n) (.func n)
 |np:Can .np .jj
 |nil:Can (.l []) .ak
 |b6 (es:List TV) (cs:List AV) (n sz:Nat) (c:Option Nat) (hn:es.length=n) (hc:cs.length=n*sz) (hz:0 < sz) (hf:∀x∈cs,AV.flat x=true)
   (h:∀(j:Nat) (e:TV),es[j]?=some e->ld e ((cs.drop (j*sz)).take sz)):Can (.l es) (.b6 cs n c)
 |a (ts:List TV) (as:List AV) (hl:ts.length=as.length) (hf:∀x∈as,AV.flat x=true) (h:∀(j:Nat) (t:TV) (x:AV),ts[j]?=some t->as[j]?=some x->Can t x):Can (.a ts) (.agg as)
 |tp (ts:List TV) (as:List AV) (hl:ts.length=as.length) (hf:∀x∈as,AV.eN x=true) (h:∀(j:Nat) (t:TV) (x:AV),ts[j]?=some t->as[j]?=some x->Can t x):Can (.tp ts) (.dM as)
 |pZ (x:AV) (u:TV) (hf:CA x=true) (h:Can u x):Can (.pZ x u) x
inductive ld:TV->List AV->Prop where
 |one (e:TV) (x:AV) (h1:e.one=true) (h:Can e x):ld e [x]
 |a (ts:List TV) (as:List AV) (hl:ts.length=as.length) (h:∀(j:Nat) (t:TV) (x:AV),ts[j]?=some t->as[j]?=some x->Can t x):ld (.a ts) as
end
def bH:TV->Option (List TV)
 |.a cs=>some cs
 |.tp _=>none
 |v=>some [v]
def ck (v:TV) (off:Nat):Option TV:=match v with
 |.a cs=>cs[off]?
 |.tp _=>none
 |v=>match off with
  |0=>some v
  |_+1=>none
def ej:Option TV->Option TV
 |some (.pZ _ u)=>some u
 |r=>r
def oP:List TV->Nat->Option (List TV)
 |_,0=>some []
 |[],_+1=>none
 |x::xs,n+1=>match oP xs n with
  |some l=>some (x::l)
  |none=>none
def BG:List TV->Nat->Nat->Option (List TV)
 |cs,0,n=>oP cs n
 |[],_+1,_=>none
 |_::xs,o+1,n=>BG xs o n
def oA:List TV->List TV->Option (List TV)
 |cells,[]=>some cells
 |[],_::_=>none
 |_::xs,y::ys=>match oA xs ys with
  |some l=>some (y::l)
  |none=>none
def tV:List TV->Nat->List TV->Option (List TV)
 |cells,0,cs=>oA cells cs
 |[],_+1,_=>none
 |x::xs,o+1,cs=>match tV xs o cs with
  |some l=>some (x::l)
  |none=>none
def dr (v:TV) (off n:Nat):Option TV:=match v with
 |.a cs=>match BG cs off n with
  |some l=>some (.a l)
  |none=>none
 |_=>none
def dS (v:TV) (off n:Nat) (x:TV):Option TV:=match bH x with
 |none=>none
 |some xs=>bif Nat.beq xs.length n then match v with
   |.a cs=>match tV cs off xs with
    |some l=>some (.a l)
    |none=>none
   |.tp _=>none
   |_=>bif Nat.beq off 0&&x.one then some x else none
  else none
def mN (v:TV) (off:Nat):Option Nat->Option TV
 |none=>ck v off
 |some n=>dr v off n
def J5 (v:TV) (off:Nat) (sz:Option Nat):Option TV:=match v with
 |.a _=>mN v off sz
 |_=>none
def uq:TV->Option (List TV)
 |.l es=>some es
 |_=>none
def f_:TV->Option TV
 |.l es=>some (.i .i64 es.length)
 |_=>none
def IZ:TV->Option TV
 |.s x=>some (.i .i64 x.size)
 |_=>none
def vw (i:TV) (n:Nat):Option Nat:=match i with
 |.i _ m=>DO m n
 |_=>none
def fo (v i:TV):Option TV:=match v with
 |.l es=>match vw i es.length with
  |some k=>es[k]?
  |none=>none
 |_=>none
def nT (i:Nat):TV->Option TV
 |.tp vs=>vs[i]?
 |_=>none
def EV (x:Option TV) (other y:Nat):Option Nat:=match x with
 |none=>some other
 |some (.i _ i)=>IE i y
 |some _=>none
def F9 (lo hi:Option TV) (n:Nat):Option (Nat×Nat):=match EV hi n n with
 |none=>none
 |some h=>match EV lo 0 h with
  |none=>none
  |some l=>some (l,h)
def NL (v:TV) (lo hi:Option TV):Option TV:=match v with
 |.l es=>match F9 lo hi es.length with
  |some (l,h)=>some (.l ((es.drop l).take (h - l)))
  |none=>none
 |_=>none
def yL (v:TV) (lo hi:Option TV):Option TV:=match v with
 |.s x=>match F9 lo hi x.size with
  |some (l,h)=>some (.s (x.extract l h))
  |none=>none
 |_=>none
def DV (v i:TV):Option TV:=match v with
 |.s x=>match i with
  |.i _ (.ofNat i)=>match x[i]? with
   |some b=>some (.i .u8 b.toNat)
   |none=>none
  |_=>none
 |_=>none
def k8 (bytes:Nat) (es xs:List TV):Option (List TV):=
 bif Nat.ble ((es.length+xs.length)*bytes) most&&Nat.ble (es.length+xs.length) most then some (es++xs) else none
def c_ (c a b:TV):Option TV:=match c with
 |.b x=>match x with
  |true=>some a
  |false=>some b
 |_=>none
def nQ:TV->Option AV
 |.i k n=>some (.int k n)
 |.b x=>some (.bool x)
 |.s x=>some (.str x)
 |.f n=>some (.func n)
 |.np=>some .jj
 |_=>none
def AD:AV->Option TV
 |.int k n=>some (.i k n)
 |.bool x=>some (.b x)
 |.str x=>some (.s x)
 |.func n=>some (.f n)
 |.jj=>some .np
 |_=>none
def bF (op:BinOp) (x y:TV):Option TV:=match nQ x with
 |some x=>match nQ y with
  |some y=>match yj op x y with
   |some r=>AD r
   |none=>none
  |none=>none
 |none=>none
def yu (op:UnOp) (x:TV):Option TV:=match nQ x with
 |some x=>match GO op x with
  |some r=>AD r
  |none=>none
 |none=>none
def AU (k:IntKind):TV->Option TV
 |.i _ n=>some (.i k (cG k n))
 |_=>none
def kS:List TV->Option (List AV)
 |[]=>some []
 |x::xs=>match nQ x with
  |none=>none
  |some a=>match kS xs with
   |none=>none
   |some l=>some (a::l)
def DD (mx:Bool) (xs:List TV):Option TV:=match kS xs with
 |some (v::vs)=>match IB mx v vs with
  |some r=>AD r
  |none=>none
 |_=>none
def J_ (t:yD) (neg:Bool) (x y:TV):Option TV:=match t with
 |.one l=>match nQ x with
  |some x=>match nQ y with
   |some y=>match D9 l x y with
    |some b=>some (.b (match neg with|true=>!b|false=>b))
    |none=>none
   |none=>none
  |none=>none
 |.agg ls=>match x with
  |.a xs=>match y with
   |.a ys=>match kS xs with
    |some xs=>match kS ys with
     |some ys=>match yz ls xs ys with
      |some b=>some (.b (match neg with|true=>!b|false=>b))
      |none=>none
     |none=>none
    |none=>none
   |_=>none
  |_=>none
 |.slice=>none
def HA (bytes:Nat):TV->Option Nat
 |.i k m=>match IE m most with
  |some m=>bif ET k .i64&&Nat.ble (Nat.mul m bytes) most then some m else none
  |none=>none
 |_=>none
def kf (es:List TV) (k off n:Nat) (x:TV):Option (List TV):=match es[k]? with
 |none=>none
 |some e=>match dS e off n x with
  |some e'=>some (es.set k e')
  |none=>none
def yx (es:List TV) (k off:Nat) (sz:Option Nat):Option TV:=match es[k]? with
 |none=>none
 |some e=>mN e off sz
inductive VV where
 |bad
 |tr (v:TV)
 |bT
 |ptr (O off:Nat)
 |pd (O off:Nat)
 |sl (O:Nat)
 |ea (O i off:Nat)
 |pt (v:TV) (off:Nat)
 |st (v:TV) (ovs:List (Nat×VV))
 |ow (O ver i:Nat)
 |e2 (O ver i k off:Nat)
 |gl (s io:Nat) (es:List TV)
 |sa (O off n sz:Nat)
 deriving Inhabited
inductive VO where
 |ob (v:TV) (ovs:List (Nat×VV))
 |gr (sz:Nat) (es:List TV)
 |gn (K s io iz ver:Nat) (hole:Option Nat) (es:List TV)
def VO.pl:VO->Bool
 |.gn ..=>false
 |_=>true
structure VE where
 gd:Option (TV×Bool)
 v:VV
structure aF where
 env:Map VE
 H:Map VO
 us:Map Unit
def s5:AV->TV
 |.int k n=>.i k n
 |.bool x=>.b x
 |.str x=>.s x
 |.func n=>.f n
 |.ak=>.l []
 |_=>.np
def bV:List AV->List TV
 |[]=>[]
 |x::xs=>s5 x::bV xs
def ff:Nat->List AV->List (Nat×VV)
 |_,[]=>[]
 |i,x::xs=>match x with
  |.ak=>(i,.bT)::ff (i+1) xs
  |_=>ff (i+1) xs
def c6:AV->Bool
 |.int ..=>true
 |.bool _=>true
 |.str _=>true
 |.func _=>true
 |.ak=>true
 |.jj=>true
 |_=>false
def vS (v:AV):VV:=match v with
 |.ak=>.bT
 |.agg cs=>bif bz c6 cs then .st (.a (bV cs)) (ff 0 cs) else .bad
 |.dM _=>.bad
 |v=>bif c6 v then .tr (s5 v) else .bad
def zZ (sz:Nat) (zero:List AV):TV:=match sz with
 |1=>match zero with
  |[x]=>s5 x
  |_=>.a (bV zero)
 |_=>.a (bV zero)
def bq (off:Nat):List (Nat×VV)->Option VV
 |[]=>none
 |(i,x)::r=>bif Nat.beq i off then some x else bq off r
def kE (off n:Nat):List (Nat×VV)->List (Nat×VV)
 |[]=>[]
 |(i,x)::r=>bif Nat.ble off i&&Nat.blt i (off+n) then (i - off,x)::kE off n r else kE off n r
def iM (off n:Nat):List (Nat×VV)->List (Nat×VV)
 |[]=>[]
 |(i,x)::r=>bif Nat.ble off i&&Nat.blt i (off+n) then iM off n r else (i,x)::iM off n r
def nu (off:Nat):List (Nat×VV)->List (Nat×VV)->List (Nat×VV)
 |[],r=>r
 |(i,x)::l,r=>(i+off,x)::nu off l r
def HB (v:TV):List (Nat×VV)->VV
 |[]=>.tr v
 |p::r=>.st v (p::r)
def Ci:VV->Option (TV×List (Nat×VV))
 |.tr v=>some (v,[])
 |.bT=>some (.l [],[(0,.bT)])
 |.sl O=>some (.l [],[(0,.sl O)])
 |.ow O v i=>some (.l [],[(0,.ow O v i)])
 |.st v o=>some (v,o)
 |_=>none
abbrev G:=Option (TV×Bool)
def dz (V:aF) (g:G) (x:aH) (k:VV->Prop):Prop:=match x with
 |.c v=>k (vS v)
 |.t n=>match V.env.get n with
  |none=>False
  |some e=>match e.gd with
   |none=>k e.v
   |some q=>match g with
    |none=>False
    |some p=>p=q/\k e.v
def xm:List (Nat×VV)->TV->Option TV
 |[],v=>some v
 |(off,w)::r,v=>match w with
  |.bT=>(match xm r v with
   |some u=>dS u off 1 (.l [])
   |none=>none)
  |_=>none
def z7 (w:VV) (k:TV->Prop):Prop:=match w with
 |.tr v=>k v
 |.bT=>k (.l [])
 |.st v ovs=>∃u,xm ovs v=some u/\k u
 |_=>False
def ia (V:aF) (g:G) (x:aH) (k:TV->Prop):Prop:=dz V g x fun w=>z7 w k
def qb (es:List TV) (i io:Nat):Option (List TV):=match es[i]? with
 |some e=>(match ck e io with
  |some (.l l)=>some l
  |_=>none)
 |none=>none
def FF (V:aF) (O v:Nat) (k:Nat->Nat->Nat->List TV->Prop):Prop:=match V.H.get O with
 |some (.gn K s io iz ver none es)=>(match Nat.beq K O&&Nat.beq ver v with
  |true=>k s io iz es
  |false=>False)
 |_=>False
def pW (V:aF) (w:VV) (k:List TV->Prop):Prop:=match w with
 |.sl O=>match V.H.get O with
  |some (.gr _ es)=>k es
  |some (.gn _ _ _ _ _ none es)=>k es
  |_=>False
 |.ow O v i=>FF V O v fun _ io _ es=>∃l,qb es i io=some l/\k l
 |.bT=>k []
 |_=>False
def tn (V:aF):List (Nat×VV)->TV->(TV->Prop)->Prop
 |[],v,k=>k v
 |(off,w)::r,v,k=>tn V r v fun u=>pW V w fun es=>∃u',dS u off 1 (.l es)=some u'/\k u'
def Ia (v:TV) (off:Nat):Nat->Option TV
 |1=>(match ck v off with
  |some e=>bif e.one then some e else none
  |none=>none)
 |n=>dr v off n
def I5 (v:TV) (off sz:Nat):Nat->Option (List TV)
 |0=>(match dr v off 0 with
  |some _=>some []
  |none=>none)
 |n+1=>match Ia v off sz with
  |some e=>(match I5 v (off+sz) sz n with
   |some r=>some (e::r)
   |none=>none)
  |none=>none
def Ke (v:TV) (off sz:Nat):List TV->Option TV
 |[]=>(match dr v off 0 with
  |some _=>some v
  |none=>none)
 |x::xs=>match dS v off sz x with
  |some u=>Ke u (off+sz) sz xs
  |none=>none
def Iz (V:aF) (w:VV) (k:TV->Prop):Prop:=match w with
 |.tr v=>k v
 |.bT=>k (.l [])
 |.sl O=>pW V (.sl O) fun es=>k (.l es)
 |.st v ovs=>tn V ovs v k
 |.ow O v i=>pW V (.ow O v i) fun es=>k (.l es)
 |.sa O off n sz=>(match V.H.get O with
  |some (.ob v ovs)=>(match ovs with
   |[]=>∃es,I5 v off sz n=some es/\k (.l es)
   |_::_=>False)
  |_=>False)
 |_=>False
def oC (V:aF) (g:G) (x:Option aH) (k:Option TV->Prop):Prop:=match x with
 |none=>k none
 |some x=>ia V g x fun v=>k (some v)
def CG (V:aF) (g:G):List aH->(List TV->Prop)->Prop
 |[],k=>k []
 |x::xs,k=>ia V g x fun v=>CG V g xs fun vs=>k (v::vs)
def gV (c:TV) (bb:Bool) (P:TV->Prop) (v:TV):Prop:=match c with
 |.b x=>match x == bb with
  |true=>P v
  |false=>v=rS
 |_=>v=rS
def CE (g:G) (P:TV->Prop) (k:TV->Prop):Prop:=match g with
 |none=>∃v,P v/\k v
 |some (c,bb)=>∃v,gV c bb P v/\k v
def cy (nt:Nat) (V:aF) (d:Option Nat) (g:G) (w:VV) (k:aF->Prop):Prop:=match d with
 |none=>k V
 |some d=>bif Nat.blt d nt then k {V with env:=V.env.put (some ⟨g,w⟩) d} else False
def di (nt:Nat) (V:aF) (d:Option Nat) (g:G) (P:Option TV) (k:aF->Prop):Prop:=CE g (fun v=>P=some v) fun v=>cy nt V d none (.tr v) k
def fZ (nt:Nat) (V:aF) (d:Option Nat) (g:G) (w:Nat->VV) (o:VO) (k:aF->Prop):Prop:=match g with
 |some _=>False
 |none=>match d with
  |none=>False
  |some d=>match V.us.get d with
   |some _=>False
   |none=>cy nt {V with H:=V.H.put (some o) d,us:=V.us.put (some ()) d} (some d) none (w d) k
def vj (V:aF) (g:G):List (Nat×Nat×aH)->TV->List (Nat×VV)->(TV->List (Nat×VV)->Prop)->Prop
 |[],v,ovs,k=>k v ovs
 |(off,n,x)::r,v,ovs,k=>dz V g x fun w=>match Ci w with
  |some (t,o)=>∃u,dS v off n t=some u/\vj V g r u (nu off o (iM off n ovs)) k
  |none=>False
def jT (V:aF):VV->aF
 |.sl O=>{V with H:=V.H.put none O}
 |_=>V
def jU (V:aF):List (Nat×VV)->aF
 |[]=>V
 |(_,w)::r=>jU (jT V w) r
def eo (n:Nat) (v:TV):Prop:=match bH v with
 |some l=>l.length=n
 |none=>False
def FA:List (Nat×VV)->Bool
 |[]=>true
 |(_,.ow ..)::_=>false
 |_::r=>FA r
def gX (V:aF) (g:G) (fz:Bool) (sz:Nat):Nat->List (Nat×Nat×aH)->(List TV->aF->Prop)->Prop
 |_,[],k=>k [] V
 |j,(off,n,x)::r,k=>(Nat.beq off (j*sz)&&Nat.beq n sz)=true/\dz V g x fun w=>match w with
  |.tr t=>eo n t/\gX V g fz sz (j+1) r fun ts V'=>k (t::ts) V'
  |.bT=>n=1/\gX V g fz sz (j+1) r fun ts V'=>k (.l []::ts) V'
  |.sl O=>fz=true/\n=1/\pW V (.sl O) fun es=>gX (jT V (.sl O)) g fz sz (j+1) r fun ts V'=>k (.l es::ts) V'
  |.st t o=>(fz&&FA o)=true/\tn V o t fun t=>eo n t/\gX (jU V o) g fz sz (j+1) r fun ts V'=>k (t::ts) V'
  |_=>False
def eT (ts:List TV) (as:List AV):Prop:=ts.length=as.length/\∀(j:Nat) (t:TV) (x:AV),ts[j]?=some t->as[j]?=some x->Can t x
def VS (prog:Map aq) (f:Nat) (ts:List TV) (Q:TV->Prop):Prop:=
 ∀as,eT ts as->∃v H nx,aN prog f as .leaf 0=some (v,H,nx)/\∃a,aP deep H v=some a/\∃r,Can r a/\Q r
theorem VS.mono {prog:Map aq} {f:Nat} {ts:List TV} {Q Q':TV->Prop} (h:VS prog f ts Q) (hq:∀r,Q r->Q' r):VS prog f ts Q':=
 fun as ha=>let ⟨v,H,nx,h1,a,h2,r,h3,h4⟩:=h as ha;⟨v,H,nx,h1,a,h2,r,h3,hq r h4⟩
def Lh (prog:Map aq) (f:Nat) (ts:List TV) (Q:TV->Prop):Prop:=
 ∀as,eT ts as->∃v H nx,aN prog f as .leaf 0=some (v,H,nx)/\own deep H v=true/\∃a,aP deep H v=some a/\∃r,Can r a/\Q r
theorem Lh.mono {prog:Map aq} {f:Nat} {ts:List TV} {Q Q':TV->Prop} (h:Lh prog f ts Q) (hq:∀r,Q r->Q' r):Lh prog f ts Q':=
 fun as ha=>let ⟨v,H,nx,h1,h0,a,h2,r,h3,h4⟩:=h as ha;⟨v,H,nx,h1,h0,a,h2,r,h3,hq r h4⟩
def ua:List (Nat×VV)->Bool
 |[]=>true
 |(_,.bT)::r=>ua r
 |_::_=>false
def k7 (V:aF) (g:G):List aH->(Bool->List TV->Prop)->Prop
 |[],k=>k true []
 |x::xs,k=>dz V g x fun w=>match w with
  |.tr v=>k7 V g xs fun p vs=>k p (v::vs)
  |.bT=>k7 V g xs fun p vs=>k p (.l []::vs)
  |.st v ovs=>tn V ovs v fun v=>k7 V g xs fun p vs=>k (ua ovs&&p) (v::vs)
  |w=>Iz V w fun v=>k7 V g xs fun _ vs=>k false (v::vs)
def Bc (n:Nat):List TV->Prop
 |[]=>True
 |e::_=>eo n e
def bk (V:aF) (O:Nat) (o:VO):aF:={V with H:=V.H.put (some o) O}
def bx (V:aF) (O:Nat):aF:={V with H:=V.H.put none O}
def pos (n:Nat) (p:Prop):Prop:=bif Nat.blt 0 n then p else False
def same (a b:Nat) (p:Prop):Prop:=bif Nat.beq a b then p else False
def wQ (g:G) (P:Option Nat) (k:Nat->Prop):Prop:=match g with
 |none=>∃n,P=some n/\k n
 |some (c,bb)=>∃n,(c=.b bb->P=some n)/\k n
def jl:Option aH->Bool
 |some (.c (.int _ (.ofNat 0)))=>true
 |_=>false
def ct (V:aF) (x:aH):VV:=match x with
 |.c v=>vS v
 |.t n=>match V.env.get n with
  |some e=>e.v
  |none=>.bad
def lV (n:Nat):List Nat->Bool
 |[]=>false
 |m::l=>Nat.beq n m||lV n l
inductive tg where
 |tr (t:Nat)
 |sl (t sz:Nat)
 |pt (t O off:Nat)
 |ob (O:Nat) (offs:List (Nat×Nat))
 |st (t:Nat) (offs:List (Nat×Nat))
 |ps (t t0:Nat)
def JL:List (Nat×Nat)->Type->Type
 |[],R=>R
 |_::l,R=>List TV->JL l R
def JT:List tg->Type->Type
 |[],R=>R
 |.tr _::J,R=>TV->JT J R
 |.sl _ _::J,R=>List TV->JT J R
 |.pt _ _ _::J,R=>JT J R
 |.ob _ offs::J,R=>TV->JL offs (JT J R)
 |.st _ offs::J,R=>TV->JL offs (JT J R)
 |.ps _ _::J,R=>JT J R
def u6 (O off:Nat):Nat:=1024+32*O+off
def fL (V:aF) (t:Nat) (w:VV):aF:={V with env:=V.env.put (some ⟨none,w⟩) t}
def D2:Nat:=1073741824
def Bv (sz:Nat):Nat:=sz / 1048576 % 1024
def FG (sz:Nat):Nat:=sz / 1024 % 1024
def ER (sz:Nat):Nat:=sz % 1024
def iY (t sz:Nat) (es:List TV):VO:=match Nat.blt sz D2 with
 |true=>.gr sz es
 |false=>.gn t (Bv sz) (FG sz) (ER sz) 0 none es
def eu (sz:Nat):Bool:=match Nat.blt sz D2 with
 |true=>Nat.blt 0 sz
 |false=>Nat.blt 0 (Bv sz)&&(Nat.blt (FG sz) (Bv sz)&&Nat.blt 0 (ER sz))
def Bt (sz s io iz:Nat):Bool:=!Nat.blt sz D2&&(Nat.beq s (Bv sz)&&(Nat.beq io (FG sz)&&Nat.beq iz (ER sz)))
def gz (V:aF) (sz:Nat) (w:VV) (k:List TV->aF->Prop):Prop:=match w with
 |.sl O=>match V.H.get O with
  |some (.gr z es)=>(match Nat.blt z D2 with
   |true=>same z sz (k es (bx V O))
   |false=>False)
  |some (.gn _ s io iz _ none es)=>(match Bt sz s io iz with
   |true=>k es (bx V O)
   |false=>False)
  |_=>False
 |.bT=>k [] V
 |_=>False
def iu {R:Type} (V:aF) (ovs:List (Nat×VV)):(offs:List (Nat×Nat))->JL offs R->(R->aF->Prop)->Prop
 |[],I,k=>k I V
 |(off,sz)::offs,I,k=>match bq off ovs with
  |some w=>gz V sz w fun es V'=>iu V' ovs offs (I es) k
  |none=>False
def de (i:Nat):List (Nat×Nat)->Bool
 |[]=>false
 |(j,_)::l=>Nat.beq i j||de i l
def kK:List (Nat×VV)->List (Nat×Nat)->Bool
 |[],_=>true
 |(i,_)::r,l=>de i l&&kK r l
def pY:(J:List tg)->aF->JT J Prop->Prop
 |[],_,I=>I
 |.tr t::J,V,I=>ia V none (.t t) fun v=>pY J V (I v)
 |.sl t sz::J,V,I=>dz V none (.t t) fun w=>gz V sz w fun es V'=>pY J V' (I es)
 |.pt t O off::J,V,I=>dz V none (.t t) fun w=>match w with
  |.ptr O' off'=>same O' O (same off' off (pY J V I))
  |_=>False
 |.ob O offs::J,V,I=>match V.H.get O with
  |some (.ob v ovs)=>match kK ovs offs with
   |true=>iu (R:=JT J Prop) (bx V O) ovs offs (I v) fun I V'=>pY J V' I
   |false=>False
  |_=>False
 |.st t offs::J,V,I=>dz V none (.t t) fun w=>match w with
  |.st v ovs=>(match kK ovs offs with
   |true=>iu (R:=JT J Prop) V ovs offs (I v) fun I V'=>pY J V' I
   |false=>False)
  |_=>False
 |.ps t t0::J,V,I=>dz V none (.t t0) fun w0=>dz V none (.t t) fun w=>match w0 with
  |.sl O=>(match w with
   |.sl O'=>same O' O (pY J V I)
   |_=>False)
  |_=>False
def kV:tg->Bool
 |.sl _ sz=>eu sz
 |.ob _ offs=>offs.all fun p=>eu p.2
 |.st _ offs=>offs.all fun p=>eu p.2
 |_=>true
def ny (V:aF) (O:Nat) (o:VO) (k:aF->Prop):Prop:=match V.us.get O with
 |some _=>False
 |none=>k {V with H:=V.H.put (some o) O,us:=V.us.put (some ()) O}
def iL (O:Nat):List (Nat×Nat)->List (Nat×VV)
 |[]=>[]
 |(off,_)::l=>(off,.sl (u6 O off))::iL O l
def EG {R:Type} (O:Nat):(offs:List (Nat×Nat))->aF->JL offs R->(R->aF->Prop)->Prop
 |[],V,I,k=>k I V
 |(off,sz)::offs,V,I,k=>∀es:List TV,ny V (u6 O off) (iY (u6 O off) sz es) fun V'=>EG O offs V' (I es) k
def k_:(J:List tg)->aF->JT J Prop->(aF->Prop)->Prop
 |[],V,I,k=>I->k V
 |.tr t::J,V,I,k=>∀v:TV,k_ J (fL V t (.tr v)) (I v) k
 |.sl t sz::J,V,I,k=>∀es:List TV,ny V t (iY t sz es) fun V'=>k_ J (fL V' t (.sl t)) (I es) k
 |.pt t O off::J,V,I,k=>match V.H.get O with
  |some (.ob _ _)=>k_ J (fL V t (.ptr O off)) I k
  |_=>False
 |.ob O offs::J,V,I,k=>∀v:TV,EG (R:=JT J Prop) O offs V (I v) fun I V'=>ny V' O (.ob v (iL O offs)) fun V''=>k_ J V'' I k
 |.st t offs::J,V,I,k=>∀v:TV,EG (R:=JT J Prop) t offs V (I v) fun I V'=>k_ J (fL V' t (.st v (iL t offs))) I k
 |.ps t t0::J,V,I,k=>match V.env.get t0 with
  |some e=>(match e.gd with
   |none=>(match e.v with
    |.sl O=>k_ J (fL V t (.sl O)) I k
    |_=>False)
   |some _=>False)
  |none=>False
def V0:aF:=⟨.leaf,.leaf,.leaf⟩
def kn (V:aF) (ovs:List (Nat×VV)):List (Nat×Nat)->aF
 |[]=>V
 |(off,_)::l=>match bq off ovs with
  |some w=>kn (jT V w) ovs l
  |none=>kn V ovs l
def fR:List tg->aF->aF
 |[],V=>V
 |.tr _::J,V=>fR J V
 |.sl t _::J,V=>fR J (jT V (ct V (.t t)))
 |.pt _ _ _::J,V=>fR J V
 |.ob O offs::J,V=>match V.H.get O with
  |some (.ob _ ovs)=>fR J (kn (bx V O) ovs offs)
  |_=>V
 |.st t offs::J,V=>match ct V (.t t) with
  |.st _ ovs=>fR J (kn V ovs offs)
  |_=>V
 |.ps _ _::J,V=>fR J V
def gh (V:aF) (O:Nat) (o:VO):aF:={V with H:=V.H.put (some o) O,us:=V.us.put (some ()) O}
def Lv {R:Type} (O:Nat):(offs:List (Nat×Nat))->aF->(aF->R)->JL offs R
 |[],V,k=>k V
 |(off,sz)::l,V,k=>fun es:List TV=>Lv O l (gh V (u6 O off) (iY (u6 O off) sz es)) k
def Gx:(J:List tg)->aF->(aF->Prop)->JT J Prop
 |[],V,k=>k V
 |.tr t::J,V,k=>fun v:TV=>Gx J (fL V t (.tr v)) k
 |.sl t sz::J,V,k=>fun es:List TV=>Gx J (fL (gh V t (iY t sz es)) t (.sl t)) k
 |.pt t O off::J,V,k=>Gx J (fL V t (.ptr O off)) k
 |.ob O offs::J,V,k=>fun v:TV=>Lv (R:=JT J Prop) O offs V fun V'=>Gx J (gh V' O (.ob v (iL O offs))) k
 |.st t offs::J,V,k=>fun v:TV=>Lv (R:=JT J Prop) t offs V fun V'=>Gx J (fL V' t (.st v (iL t offs))) k
 |.ps _ _::J,V,k=>Gx J V k
def kR (us:Map Unit) (O:Nat):Bool:=match us.get O with
 |some _=>false
 |none=>true
def Jy (O:Nat):List (Nat×Nat)->Map Unit->Option (Map Unit)
 |[],us=>some us
 |(off,_)::l,us=>bif kR us (u6 O off) then Jy O l (us.put (some ()) (u6 O off)) else none
def Bm:List tg->Map Unit->List Nat->Bool
 |[],_,_=>true
 |.tr _::J,us,obs=>Bm J us obs
 |.sl t _::J,us,obs=>kR us t&&Bm J (us.put (some ()) t) obs
 |.pt _ O _::J,us,obs=>lV O obs&&Bm J us obs
 |.ob O offs::J,us,obs=>match Jy O offs us with
  |some us=>kR us O&&Bm J (us.put (some ()) O) (O::obs)
  |none=>false
 |.st t offs::J,us,obs=>match Jy t offs us with
  |some us=>Bm J us obs
  |none=>false
 |.ps _ _::_,_,_=>false
inductive PK where
 |tr
 |ob (offs:List (Nat×Nat))
 |sl (sz:Nat)
inductive RK where
 |tr
 |sl (sz:Nat)
 |st (offs:List (Nat×Nat))
structure Ow where
 ks:List PK
 rk:RK
def wj:List PK->Nat->List tg
 |[],_=>[]
 |.tr::ks,i=>.tr i::wj ks (i+1)
 |.ob offs::ks,i=>.ob i offs::.pt i i 0::wj ks (i+1)
 |.sl sz::ks,i=>.sl i sz::wj ks (i+1)
def HR (np:Nat):RK->List tg
 |.tr=>[.tr np]
 |.sl sz=>[.sl np sz]
 |.st offs=>[.st np offs]
def ga (np:Nat) (rk:RK):List PK->Nat->List tg
 |[],_=>HR np rk
 |.tr::ks,i=>ga np rk ks (i+1)
 |.ob offs::ks,i=>.ob i offs::.pt i i 0::ga np rk ks (i+1)
 |.sl sz::ks,i=>.sl i sz::ga np rk ks (i+1)
inductive Iv where
 |ob (O d:Nat)
 |pt
 |sl (O:Nat)
 |res (d:Nat)
def cz (d:Nat):List PK->List VV->Option (List Iv)
 |[],[]=>some [.res d]
 |.tr::ks,_::ws=>cz d ks ws
 |.ob _::ks,.ptr O 0::ws=>match cz d ks ws with
  |some l=>some (.ob O d::.pt::l)
  |none=>none
 |.sl _::ks,.sl O::ws=>match cz d ks ws with
  |some l=>some (.sl O::l)
  |none=>none
 |_,_=>none
def mm (d off:Nat):Nat:=65536+64*d+off
abbrev l8 (d:Nat):Nat:=d+1048576
def p_ (d:Nat):List (Nat×Nat)->List (Nat×VV)
 |[]=>[]
 |(off,_)::l=>(off,.sl (mm d off))::p_ d l
def El {R:Type} (d:Nat):(offs:List (Nat×Nat))->aF->(aF->R)->JL offs R
 |[],V,k=>k V
 |(off,sz)::l,V,k=>fun es:List TV=>El d l (gh V (mm d off) (iY (mm d off) sz es)) k
def JK {R:Type} (r:R):(offs:List (Nat×Nat))->JL offs R
 |[]=>r
 |_::l=>fun _:List TV=>JK r l
def BW:(J:List tg)->JT J Prop
 |[]=>False
 |.tr _::J=>fun _:TV=>BW J
 |.sl _ _::J=>fun _:List TV=>BW J
 |.pt _ _ _::J=>BW J
 |.ob _ offs::J=>fun _:TV=>JK (R:=JT J Prop) (BW J) offs
 |.st _ offs::J=>fun _:TV=>JK (R:=JT J Prop) (BW J) offs
 |.ps _ _::J=>BW J
def sR:(J:List tg)->List Iv->aF->(aF->Prop)->JT J Prop
 |[],_,V,k=>k V
 |.tr _::J,ims,V,k=>fun v:TV=>match ims with
  |.res d::ims=>sR J ims (fL V d (.tr v)) k
  |_=>BW J
 |.pt _ _ _::J,ims,V,k=>match ims with
  |.pt::ims=>sR J ims V k
  |_=>BW J
 |.sl _ sz::J,ims,V,k=>fun es:List TV=>match ims with
  |.sl O::ims=>sR J ims (bk V O (.gr sz es)) k
  |.res d::ims=>sR J ims (fL (gh V d (iY d sz es)) d (.sl d)) k
  |_=>BW J
 |.ob _ offs::J,ims,V,k=>fun v:TV=>match ims with
  |.ob O d::ims=>El (R:=JT J Prop) d offs V fun V'=>sR J ims (bk V' O (.ob v (p_ d offs))) k
  |_=>JK (R:=JT J Prop) (BW J) offs
 |.st _ offs::J,ims,V,k=>fun v:TV=>match ims with
  |.res d::ims=>El (R:=JT J Prop) (l8 d) offs V fun V'=>sR J ims (fL V' d (.st v (p_ (l8 d) offs))) k
  |_=>JK (R:=JT J Prop) (BW J) offs
 |.ps _ _::J,_,_,_=>BW J
def y7 (d:Nat):List (Nat×Nat)->Map Unit->Option (Map Unit)
 |[],us=>some us
 |(off,_)::l,us=>bif kR us (mm d off) then y7 d l (us.put (some ()) (mm d off)) else none
def Du (nt:Nat):List tg->List Iv->Map Unit->Bool
 |[],_,_=>true
 |.tr _::J,ims,us=>match ims with
  |.res d::ims=>Nat.blt d nt&&Du nt J ims us
  |_=>false
 |.pt _ _ _::J,ims,us=>match ims with
  |.pt::ims=>Du nt J ims us
  |_=>false
 |.sl _ sz::J,ims,us=>match ims with
  |.sl _::ims=>Nat.blt sz D2&&Du nt J ims us
  |.res d::ims=>Nat.blt d nt&&(kR us d&&Du nt J ims (us.put (some ()) d))
  |_=>false
 |.ob _ offs::J,ims,us=>match ims with
  |.ob _ d::ims=>match y7 d offs us with
   |some us=>Du nt J ims us
   |none=>false
  |_=>false
 |.st _ offs::J,ims,us=>match ims with
  |.res d::ims=>Nat.blt d nt&&(match y7 (l8 d) offs us with
   |some us=>Du nt J ims us
   |none=>false)
  |_=>false
 |.ps _ _::_,_,_=>false
structure Sh where
 sg:Nat->Option Ow
 vs:(f np:Nat)->(Jin Jout:List tg)->JT Jout Prop->JT Jin Prop
 inl:Nat->Option (aF->List VV->(VV->aF->Prop)->Prop)
 tc:Nat->List Nat
 gc:Nat->Nat
 pn:Nat->List (Nat×Nat)
 fr:Nat->Bool
def Fk (V:aF):List aH->(List VV->Prop)->Prop
 |[],k=>k []
 |x::xs,k=>dz V none x fun w=>Fk V xs fun ws=>k (w::ws)
def BT:(ks:List PK)->(i:Nat)->List VV->aF->JT (wj ks i) Prop->Prop
 |[],_,ws,_,I=>match ws with
  |[]=>I
  |_::_=>False
 |.tr::ks,i,ws,V,I=>match ws with
  |w::ws=>z7 w fun v=>BT ks (i+1) ws V (I v)
  |[]=>False
 |.ob offs::ks,i,ws,V,I=>match ws with
  |.ptr O 0::ws=>(match V.H.get O with
   |some (.ob v ovs)=>match kK ovs offs with
    |true=>iu (R:=JT (.pt i i 0::wj ks (i+1)) Prop) (bx V O) ovs offs (I v) fun I V'=>BT ks (i+1) ws V' I
    |false=>False
   |_=>False)
  |_=>False
 |.sl sz::ks,i,ws,V,I=>match ws with
  |.sl O::ws=>gz V sz (.sl O) fun es V'=>BT ks (i+1) ws V' (I es)
  |_=>False
def fu:List PK->List VV->aF->aF
 |[],_,V=>V
 |.tr::ks,ws,V=>match ws with
  |_::ws=>fu ks ws V
  |[]=>V
 |.ob offs::ks,ws,V=>match ws with
  |.ptr O 0::ws=>(match V.H.get O with
   |some (.ob _ ovs)=>fu ks ws (kn (bx V O) ovs offs)
   |_=>V)
  |_=>V
 |.sl _::ks,ws,V=>match ws with
  |.sl O::ws=>fu ks ws (jT V (.sl O))
  |_=>V
def qp (sh:Sh) (nt:Nat) (V:aF) (d:Option Nat) (f:Nat) (args:List aH) (k:aF->Prop):Prop:=match d with
 |none=>False
 |some d=>match sh.inl f with
  |some T=>Fk V args fun ws=>T V ws fun w V'=>cy nt V' (some d) none w k
  |none=>match sh.sg f with
  |none=>False
  |some sg=>Fk V args fun ws=>match cz d sg.ks ws with
   |none=>False
   |some ims=>match ((wj sg.ks 0).all kV&&(ga sg.ks.length sg.rk sg.ks 0).all kV)&&(Bm (wj sg.ks 0) .leaf []&&Du nt (ga sg.ks.length sg.rk sg.ks 0) ims V.us) with
    |false=>False
    |true=>BT sg.ks 0 ws V (sh.vs f sg.ks.length (wj sg.ks 0) (ga sg.ks.length sg.rk sg.ks 0)
      (sR (ga sg.ks.length sg.rk sg.ks 0) ims {fu sg.ks ws V with env:=V.env.put none d} k))
section
variable (sh:Sh) (prog:Map aq) (nt:Nat)
def Jk (g:G) (P:Option TV) (k:Prop):Prop:=match g with
 |none=>∃e,P=some e/\k
 |some (c,bb)=>∃e,(c=.b bb->P=some e)/\k
def M8 (es:List TV) (i io j off:Nat) (sz:Option Nat):Option TV:=match qb es i io with
 |some l=>yx l j off sz
 |none=>none
def JS (es:List TV) (i io:Nat):Option TV:=match qb es i io with
 |some l=>some (.i .i64 l.length)
 |none=>none
def NO (es:List TV) (i io:Nat) (j:TV):Option Nat:=match qb es i io with
 |some l=>vw j l.length
 |none=>none
def mY (off n io:Nat):Bool:=Nat.ble (off+n) io||Nat.blt io off
def gS (V:aF) (d:Option Nat) (g:G) (sz:Option Nat) (w:VV) (k:aF->Prop):Prop:=match w with
 |.ptr O off=>match V.H.get O with
  |some (.ob v ovs)=>match sz with
   |none=>match bq off ovs with
    |some w=>cy nt V d g w k
    |none=>di nt V d g (ej (ck v off)) k
   |some n=>match kE off n ovs with
    |[]=>di nt V d g (dr v off n) k
    |p::r=>match g with
     |none=>∃u,dr v off n=some u/\cy nt V d none (.st u (p::r)) k
     |some _=>False
  |_=>False
 |.pd O off=>match V.H.get O with
  |some (.ob v ovs)=>match ovs with
   |[]=>di nt V d g (mN v off sz) k
   |_::_=>False
  |_=>False
 |.pt v off=>di nt V d g (mN v off sz) k
 |.ea O i off=>match V.H.get O with
  |some (.gr _ es)=>di nt V d g (yx es i off sz) k
  |some (.gn K _ io _ ver hole es)=>(match Nat.beq K O with
   |true=>(match sz with
    |none=>(match Nat.beq off io with
     |true=>(match hole with
      |none=>Jk g es[i]? (cy nt V d g (.ow O ver i) k)
      |some _=>False)
     |false=>di nt V d g (yx es i off none) k)
    |some n=>(match mY off n io with
     |true=>di nt V d g (yx es i off (some n)) k
     |false=>False))
   |false=>False)
  |_=>False
 |.e2 O v i j off=>FF V O v fun _ io _ es=>di nt V d g (M8 es i io j off sz) k
 |_=>False
def GA (h:Option Nat) (i:Nat) (k:Prop):Prop:=match h with
 |none=>k
 |some j=>j=i/\k
def gm (V:aF) (sz:Nat) (w x:VV) (k:aF->Prop):Prop:=match w with
 |.ptr O off=>match V.H.get O with
  |some (.ob v ovs)=>match Ci x with
   |some (t,o)=>∃u,dS v off sz t=some u/\k (bk V O (.ob u (nu off o (iM off sz ovs))))
   |none=>False
  |_=>False
 |.pd O off=>match V.H.get O with
  |some (.ob v ovs)=>match ovs with
   |[]=>match x with
    |.tr t=>∃u,dS v off sz t=some u/\k (bk V O (.ob u []))
    |_=>False
   |_::_=>False
  |_=>False
 |.ea O i off=>match V.H.get O with
  |some (.gr z es)=>match x with
   |.tr t=>∃es',kf es i off sz t=some es'/\k (bk V O (.gr z es'))
   |_=>False
  |some (.gn K s io iz ver hole es)=>(match Nat.beq K O with
   |true=>(match x with
    |.tr t=>(match mY off sz io with
     |true=>∃es',kf es i off sz t=some es'/\k (bk V O (.gn K s io iz ver hole es'))
     |false=>False)
    |.sl N=>(match Nat.beq sz 1&&(Nat.beq off io&&!Nat.beq N O) with
     |true=>(match V.H.get N with
      |some (.gr z l)=>(match Nat.beq z iz with
       |true=>GA hole i (∃es',kf es i io 1 (.l l)=some es'/\k (bk (bx V N) O (.gn K s io iz (ver+1) none es')))
       |false=>False)
      |_=>False)
     |false=>False)
    |_=>False)
   |false=>False)
  |_=>False
 |.e2 O v i j off=>FF V O v fun s io iz es=>match x with
  |.tr t=>∃l,qb es i io=some l/\∃l',kf l j off sz t=some l'/\∃es',kf es i io 1 (.l l')=some es'/\k (bk V O (.gn O s io iz v none es'))
  |_=>False
 |_=>False
def xW (V:aF) (d:Option Nat) (g:G) (off:Nat) (sz:Option Nat) (w:VV) (k:aF->Prop):Prop:=match w with
 |.tr v=>di nt V d g (J5 v off sz) k
 |.st v ovs=>match sz with
  |none=>match bq off ovs with
   |some w=>cy nt V d g w k
   |none=>di nt V d g (ck v off) k
  |some n=>match kE off n ovs with
   |[]=>di nt V d g (dr v off n) k
   |p::r=>match g with
    |none=>∃u,dr v off n=some u/\cy nt V d none (.st u (p::r)) k
    |some _=>False
 |_=>False
def vK (V:aF) (d:Option Nat) (g:G) (off:Nat) (w:VV) (k:aF->Prop):Prop:=match w with
 |.ptr O o=>cy nt V d g (.ptr O (o+off)) k
 |.pd O o=>cy nt V d g (.pd O (o+off)) k
 |.pt v o=>cy nt V d g (.pt v (o+off)) k
 |.ea O i o=>cy nt V d g (.ea O i (o+off)) k
 |.e2 O v i j o=>cy nt V d g (.e2 O v i j (o+off)) k
 |_=>False
def AP (V:aF) (d:Option Nat) (g:G) (sz:Nat) (w:VV) (i:TV) (k:aF->Prop):Prop:=pos sz <| match w with
 |.tr v=>CE g (fun e=>fo v i=some e/\eo sz e) fun e=>cy nt V d g (.pt e 0) k
 |.sl O=>match V.H.get O with
  |some (.gr z es)=>same z sz (wQ g (vw i es.length) fun n=>cy nt V d g (.ea O n 0) k)
  |some (.gn _ s _ _ _ _ es)=>same s sz (wQ g (vw i es.length) fun n=>cy nt V d g (.ea O n 0) k)
  |_=>False
 |.ow O v j=>FF V O v fun _ io iz es=>same iz sz (wQ g (NO es j io i) fun n=>cy nt V d g (.e2 O v j n 0) k)
 |_=>False
def zF (V:aF) (d:Option Nat) (g:G) (len sz:Nat) (w:VV) (i:TV) (k:aF->Prop):Prop:=match w with
 |.ptr O o=>wQ g (vw i len) fun n=>cy nt V d g (.pd O (o+n*sz)) k
 |.pd O o=>wQ g (vw i len) fun n=>cy nt V d g (.pd O (o+n*sz)) k
 |.pt v o=>wQ g (vw i len) fun n=>cy nt V d g (.pt v (o+n*sz)) k
 |_=>False
def AL (V:aF) (d:Option Nat) (g:G) (str:Bool) (w:VV) (k:aF->Prop):Prop:=match str with
 |true=>match w with
  |.tr v=>di nt V d g (IZ v) k
  |_=>False
 |false=>match w with
  |.tr v=>di nt V d g (f_ v) k
  |.bT=>di nt V d g (some (.i .i64 0)) k
  |.sl O=>match V.H.get O with
   |some (.gr _ es)=>di nt V d g (some (.i .i64 es.length)) k
   |some (.gn _ _ _ _ _ _ es)=>di nt V d g (some (.i .i64 es.length)) k
   |_=>False
  |.ow O v j=>FF V O v fun _ io _ es=>di nt V d g (JS es j io) k
  |_=>False
def yK (V:aF) (sz:Nat) (w:VV) (k:List TV->Prop):Prop:=match w with
 |.tr v=>∃xs,uq v=some xs/\Bc sz xs/\k xs
 |.bT=>k []
 |.sl P=>match V.H.get P with
  |some (.gr z es)=>same z sz (k es)
  |_=>False
 |_=>False
def vN (V:aF) (d:Option Nat) (g:G) (s io bytes:Nat) (w:VV) (xs:List TV) (k:aF->Prop):Prop:=match d with
 |none=>False
 |some dd=>match w with
  |.bT=>(match Bt (sh.gc dd) s io (ER (sh.gc dd))&&Nat.blt 0 (ER (sh.gc dd)) with
   |true=>∃l,k8 bytes [] xs=some l/\fZ nt V d g .sl (.gn dd s io (ER (sh.gc dd)) 0 none l) k
   |false=>False)
  |.sl O=>(match V.H.get O with
   |some (.gn _ s' io' iz _ none es)=>(match Nat.beq s' s&&Nat.beq io' io with
    |true=>∃l,k8 bytes es xs=some l/\fZ nt (bx V O) d g .sl (.gn dd s io iz 0 none l) k
    |false=>False)
   |_=>False)
  |_=>False
def uL (V:aF) (d:Option Nat) (g:G) (sz bytes:Nat) (w x:VV) (k:aF->Prop):Prop:=match x with
 |.gl s io xs=>same s sz (vN sh nt V d g s io bytes w xs k)
 |x=>pos sz <| yK V sz x fun xs=>match w with
 |.bT=>∃l,k8 bytes [] xs=some l/\fZ nt V d g .sl (.gr sz l) k
 |.sl O=>match V.H.get O with
  |some (.gr z es)=>same z sz (∃l,k8 bytes es xs=some l/\fZ nt (bx V O) d g .sl (.gr sz l) k)
  |_=>False
 |.ow O v i=>FF V O v fun s io iz es=>same iz sz (∃l0,qb es i io=some l0/\∃l,k8 bytes l0 xs=some l/\fZ nt (bk V O (.gn O s io iz v (some i) es)) d g .sl (.gr sz l) k)
 |_=>False
def zD (V:aF) (d:Option Nat) (g:G) (sz:Nat) (w:VV) (lo hi mx:Option aH) (k:aF->Prop):Prop:=pos sz <| match w with
 |.sl O=>match V.H.get O with
  |some (.gr z es)=>match hi with
   |none=>match mx with
    |none=>same z sz (oC V none lo fun l=>∃m,EV l 0 es.length=some m/\fZ nt (bx V O) d g .sl (.gr sz (es.drop m)) k)
    |some _=>False
   |some _=>False
  |_=>False
 |.tr v=>match mx with
  |none=>oC V g lo fun l=>oC V g hi fun h=>CE g (fun r=>NL v l h=some r/\(∀es,v=.l es->Bc sz es)) fun r=>cy nt V d none (.tr r) k
  |some m=>match jl hi&&jl mx&&lo.isNone&&g.isNone with
   |true=>∃l,uq v=some l/\Bc sz l/\cy nt V d none .bT k
   |false=>False
 |.bT=>match jl hi&&jl mx&&lo.isNone with
  |true=>cy nt V d g .bT k
  |false=>False
 |_=>False
def jR (V:aF) (d:Option Nat) (len sz:Nat) (w:VV) (hi:Option aH) (k:aF->Prop):Prop:=match w with
 |.ptr O off=>(match V.H.get O with
  |some (.ob v _)=>∃u,dr v off (len*sz)=some u/\oC V none hi fun h=>∃m,EV h len len=some m/\cy nt V d none (.sa O off m sz) k
  |_=>False)
 |.pd O off=>(match V.H.get O with
  |some (.ob v _)=>∃u,dr v off (len*sz)=some u/\oC V none hi fun h=>∃m,EV h len len=some m/\cy nt V d none (.sa O off m sz) k
  |_=>False)
 |_=>False
def xX (V:aF) (d:Option Nat) (sz:Nat) (w x:VV) (k:aF->Prop):Prop:=match w with
 |.sa O off n z=>same z sz (match V.H.get O with
  |some (.ob v ovs)=>(match ovs with
   |[]=>yK V sz x fun xs=>∃u,Ke v off sz (xs.take n)=some u/\cy nt (bk V O (.ob u [])) d none (.tr (.i .i64 ((min xs.length n:Nat):Int))) k
   |_::_=>False)
  |_=>False)
 |_=>False
def Ej:List Nat->List (Nat×VV)->List (Nat×VV)
 |[],l=>l
 |c::cs,l=>Ej cs (iM c 1 l)
def IV (d:Option Nat):List Nat:=match d with
 |some d=>sh.tc d
 |none=>[]
def zT:List Nat->TV->List (Nat×VV)->(TV->List (Nat×VV)->Prop)->Prop
 |[],v,o,k=>k v o
 |c::cs,v,o,k=>match bq c o with
  |some .bT=>∃u,dS v c 1 (.l [])=some u/\zT cs u (iM c 1 o) k
  |_=>False
def LK (d:Option Nat) (l:List (Nat×VV)):List (Nat×VV):=match d with
 |some d=>Ej (sh.tc d) l
 |none=>l
def qR (p:Bool) (r:TV):Prop:=match p with
 |true=>True
 |false=>r.Be=true
def sG (V:aF) (d:Option Nat) (g:G) (f:Nat) (args:List aH) (k:aF->Prop):Prop:=
 k7 V g args fun p ts=>match g with
  |none=>(match p||!(sh.fr f) with
   |true=>VS prog f ts fun r=>qR p r/\cy nt V d none (.tr r) k
   |false=>Lh prog f ts fun r=>cy nt V d none (.tr r) k)
  |some (c,bb)=>∃r,gV c bb (fun r=>VS prog f ts fun r'=>r'=r/\qR p r) r/\cy nt V d none (.tr r) k
def H8 (V:aF) (d:Option Nat) (g:G) (w:VV) (k:aF->Prop):Prop:=match w with
 |.tr v=>(match g with|none=>cy nt V d none (.tr v) k|some _=>di nt V d g (some v) k)
 |.bad=>False
 |w=>cy nt V d g w k
def vJ (V:aF) (d:Option Nat) (g:G) (w:VV) (k:aF->Prop):Prop:=match w with
 |.ptr ..=>cy nt V d g w k
 |.pd ..=>cy nt V d g w k
 |.pt ..=>cy nt V d g w k
 |.ea ..=>cy nt V d g w k
 |_=>False
def H9 (V:aF) (d:Option Nat) (s io:Nat) (w:VV) (k:aF->Prop):Prop:=match w with
 |.bT=>(match Nat.beq s 1&&Nat.beq io 0 with
  |true=>cy nt V d none (.gl 1 0 [.l []]) k
  |false=>False)
 |.st t ovs=>(match ovs with
  |[(o,.bT)]=>(match Nat.beq o io&&Nat.blt io s with
   |true=>eo s t/\∃u,dS t io 1 (.l [])=some u/\cy nt V d none (.gl s io [u]) k
   |false=>False)
  |_=>False)
 |_=>False
def M_ (d:Option Nat):Option Nat:=match d with
 |some d=>(match sh.gc d with
  |0=>none
  |c+1=>some (c+1))
 |none=>none
def AO (V:aF) (d:Option Nat) (g:G) (fz:Bool) (len:Nat) (zero:List AV) (parts:List (Nat×Nat×aH)) (k:aF->Prop):Prop:=match g with
 |none=>match len with
  |0=>(match parts with|[]=>(match zero with|[]=>(match fz with|false=>cy nt V d none .bT k|true=>False)|_::_=>False)|_::_=>False)
  |n+1=>pos (zero.length / len) (same ((zero.length / len)*len) zero.length (gX V none fz (zero.length / len) 0 parts fun ts V'=>same ts.length len (cy nt V' d none (.tr (.l ts)) k)))
 |some _=>False
def pR (V:aF) (d:Option Nat) (g:G) (fz:Bool) (len:Nat) (zero:List AV) (parts:List (Nat×Nat×aH)) (k:aF->Prop):Prop:=match M_ sh d with
 |none=>AO nt V d g fz len zero parts k
 |some c=>match g with
  |none=>(match parts with
   |[(off,n,x)]=>(match Nat.beq len 1&&(Nat.beq off 0&&(Nat.beq n (Bv c)&&Nat.beq zero.length n)) with
    |true=>dz V none x fun w=>H9 nt V d (Bv c) (FG c) w k
    |false=>False)
   |_=>False)
  |some _=>False
def rI:List (Nat×Nat×TV)->TV->Option TV
 |[],v=>some v
 |(off,n,t)::r,v=>match dS v off n t with
  |some u=>rI r u
  |none=>none
def CH (V:aF) (g:G):List (Nat×Nat×aH)->(List (Nat×Nat×TV)->Prop)->Prop
 |[],k=>k []
 |(off,n,x)::r,k=>ia V g x fun t=>CH V g r fun l=>k ((off,n,t)::l)
def DS:aH->Bool
 |.c .ak=>true
 |_=>false
def lW (V:aF) (d:Option Nat) (g:G) (op:dV) (k:aF->Prop):Prop:=match op with
 |.mv x=>dz V g x fun w=>H8 nt V d g w k
 |.pick c a b=>ia V g c fun c=>ia V g a fun a=>ia V g b fun b=>di nt V d g (c_ c a b) k
 |.alloc zero=>match bz c6 zero with
  |true=>fZ nt V d g (fun O=>.ptr O 0) (.ob (.a (bV zero)) (LK sh d (ff 0 zero))) k
  |false=>False
 |.box x=>dz V g x fun w=>match Ci w with
  |some (v,o)=>v.ja=false/\zT (IV sh d) v o fun v o=>fZ nt V d g (fun O=>.ptr O 0) (.ob v o) k
  |none=>False
 |.build zero parts=>match g with
  |none=>(match bz c6 zero with
   |true=>vj V none parts (.a (bV zero)) (ff 0 zero) fun v ovs=>cy nt V d none (HB v ovs) k
   |false=>False)
  |some q=>(match bz c6 zero with
   |true=>CH V (some q) parts fun l=>di nt V d (some q) (rI l (.a (bV zero))) k
   |false=>False)
 |.eR es len zero parts=>match g with
  |none=>pos es (gX V none false es 0 parts fun ts V'=>same ts.length len (same zero.length (ts.length*es) (fZ nt V' d none .sl (.gr es ts) k)))
  |some _=>False
 |.aQ len zero parts=>pR sh nt V d g false len zero parts k
 |.load sz a=>dz V g a fun w=>gS nt V d g sz w k
 |.store sz a x=>match g with
  |none=>match d with
   |none=>dz V none a fun w=>dz V none x fun x=>gm V sz w x k
   |some _=>False
  |some _=>False
 |.iN x=>dz V g x fun w=>vJ nt V d g w k
 |.bin op x y=>ia V g x fun x=>ia V g y fun y=>di nt V d g (bF op x y) k
 |.eq t neg x y=>match t with
  |.slice=>(match g with
   |none=>(match DS y with
    |true=>ia V none x fun x=>∃es:List TV,uq x=some es/\∀b:Bool,(es≠[]->b=neg)->cy nt V d none (.tr (.b b)) k
    |false=>False)
   |some _=>False)
  |t=>ia V g x fun x=>ia V g y fun y=>di nt V d g (J_ t neg x y) k
 |.un op x=>ia V g x fun x=>di nt V d g (yu op x) k
 |.conv c x=>ia V g x fun x=>di nt V d g (AU c x) k
 |.kG es bytes zero n=>pos es <| match g with
  |none=>(match bz c6 zero&&Nat.beq zero.length es with
   |true=>ia V none n fun n=>∃m,HA bytes n=some m/\fZ nt V d none .sl (.gr es (List.replicate m (zZ es zero))) k
   |false=>False)
  |some _=>False
 |.jY x lo hi=>ia V g x fun x=>oC V g lo fun lo=>oC V g hi fun hi=>di nt V d g (yL x lo hi) k
 |.iR es x lo hi mx=>dz V g x fun w=>zD nt V d g es w lo hi mx k
 |.iE len es x lo hi mx=>pos es <| match g with
  |none=>(match lo with
   |none=>(match mx with
    |none=>dz V none x fun w=>jR nt V d len es w hi k
    |some _=>False)
   |some _=>False)
  |some _=>False
 |.BY es w x=>pos es <| match g with
  |none=>dz V none w fun w=>dz V none x fun x=>xX nt V d es w x k
  |some _=>False
 |.gR off x=>dz V g x fun w=>vK nt V d g off w k
 |.Bz off sz x=>dz V g x fun w=>xW nt V d g off sz w k
 |.bL es x i=>dz V g x fun w=>ia V g i fun i=>AP nt V d g es w i k
 |.kO len es x i=>dz V g x fun w=>ia V g i fun i=>zF nt V d g len es w i k
 |.idx x i=>ia V g x fun x=>ia V g i fun i=>di nt V d g (DV x i) k
 |.ext i x=>ia V g x fun x=>di nt V d g (nT i x) k
 |.app es bytes s x=>dz V g s fun w=>dz V g x fun x=>uL sh nt V d g es bytes w x k
 |.len str x=>dz V g x fun w=>AL nt V d g str w k
 |.yw mx xs=>CG V g xs fun xs=>di nt V d g (DD mx xs) k
 |.call f args .borrow=>sG sh prog nt V d g f args k
 |.call f args .share=>match g with
  |none=>qp sh nt V d f args k
  |some _=>False
 |.cN f args .borrow=>ia V g f fun f=>match g with
  |none=>∃n,f=.f n/\sG sh prog nt V d none n args k
  |some (c,bb)=>∃n,(c=.b bb->f=.f n)/\sG sh prog nt V d (some (c,bb)) n args k
 |_=>False
def FK (V:aF) (o:av) (k:aF->Prop):Prop:=match o.gd with
 |none=>match o.fz with
  |true=>(match o.op with
   |.aQ len zero parts=>pR sh nt V o.dst none true len zero parts k
   |_=>False)
  |false=>lW sh prog nt V o.dst none o.op k
 |some (n,bb)=>match o.fz with
  |true=>False
  |false=>ia V none (.t n) fun c=>lW sh prog nt V o.dst (some (c,bb)) o.op k
def H7:List av->aF->(aF->Prop)->Prop
 |[],V,k=>k V
 |o::l,V,k=>FK sh prog nt V o fun V=>H7 l V k
structure yq where
 rd:List Nat
 wr:List Nat
 src:List Nat
def oB:List (Nat×VV)->List Nat
 |[]=>[]
 |(_,.sl O)::r=>O::oB r
 |(_,.ow O _ _)::r=>O::oB r
 |_::r=>oB r
def bW:VV->List Nat
 |.sl O=>[O]
 |.st _ ovs=>oB ovs
 |.ow O _ _=>[O]
 |_=>[]
def fc:VV->List Nat
 |.ptr O _=>[O]
 |.pd O _=>[O]
 |.ea O _ _=>[O]
 |.e2 O _ _ _ _=>[O]
 |_=>[]
def vb:VV->List Nat
 |.sa O _ _ _=>[O]
 |_=>[]
def HS:VV->Bool
 |.tr _=>true
 |.bT=>true
 |.st _ ovs=>ua ovs
 |_=>false
def og (V:aF):List aH->Bool
 |[]=>true
 |x::xs=>HS (ct V x)&&og V xs
def dY (V:aF):List (Nat×Nat×aH)->List Nat
 |[]=>[]
 |(_,_,x)::r=>bW (ct V x)++dY V r
def vG (V:aF) (o:av):Option yq:=match o.op with
 |.load _ a=>some ⟨fc (ct V a),[],[]⟩
 |.store _ a _=>some ⟨fc (ct V a),fc (ct V a),[]⟩
 |.app _ _ s x=>some ⟨bW (ct V s)++bW (ct V x),bW (ct V s),bW (ct V s)⟩
 |.iR _ x _ _ _=>some ⟨[],[],bW (ct V x)⟩
 |.aQ _ _ parts=>match o.fz with
  |true=>some ⟨dY V parts,dY V parts,[]⟩
  |false=>some ⟨[],[],[]⟩
 |.call _ args .borrow=>match og V args with
  |true=>some ⟨[],[],[]⟩
  |false=>none
 |.cN _ args .borrow=>match og V args with
  |true=>some ⟨[],[],[]⟩
  |false=>none
 |.call _ _ .share=>none
 |.cN _ _ .share=>none
 |.iE _ _ x _ _ _=>some ⟨fc (ct V x),[],[]⟩
 |.BY _ w x=>some ⟨vb (ct V w)++bW (ct V x),vb (ct V w),[]⟩
 |.EU ..=>none
 |.mb ..=>none
 |.vp ..=>none
 |.tE ..=>none
 |_=>some ⟨[],[],[]⟩
def cW (T:Nat):List (Nat×Nat×List Nat)->Nat×List Nat
 |[]=>(T,[])
 |(T',x)::l=>bif Nat.beq T' T then x else cW T l
def E9:List Nat->List Nat->Bool
 |[],_=>true
 |n::l,m=>lV n m&&E9 l m
def uQ:List Nat->List Nat->Bool
 |[],_=>true
 |n::l,m=>!lV n m&&uQ l m
def iF (info:List (Nat×Nat×List Nat)):List Nat->List Nat
 |[]=>[]
 |T::l=>(cW T info).1::iF info l
def js (info:List (Nat×Nat×List Nat)) (ah:List Nat):List Nat->Bool
 |[]=>true
 |T::l=>E9 (cW T info).2 ah&&js info ah l
def tF {α:Type} (m:Map α):(Nat->Bool)->Bool:=
 Map.rec (motive:=fun _=>(Nat->Bool)->Bool) (fun _=>true)
  (fun v _ _ l r p=>(match v with|none=>true|some _=>p 0)&&(l (fun k=>p (Nat.succ (Nat.mul 2 k)))&&r (fun k=>p (Nat.succ (Nat.succ (Nat.mul 2 k)))))) m
def NP (d:Option Nat) (T:Nat):Bool:=match d with
 |some d=>Nat.beq d T
 |none=>false
def jo (V:aF) (T:Nat):Bool:=match V.H.get T with
 |some _=>true
 |none=>false
def Av:Option VO->Option VO->Bool
 |some (.gn _ _ _ _ _ none _),some (.gn _ _ _ _ _ (some _) _)=>false
 |_,_=>true
def Cq (x y:Option VO) (k:Prop):Prop:=match x with
 |some (.gn K _ _ _ v h _)=>(match y with
  |some (.gn K' _ _ _ v' h' _)=>(match Nat.beq K K'&&Nat.beq v v' with
   |true=>(match h with
    |none=>k
    |some j=>(match h' with
     |some j'=>j=j'/\k
     |none=>False))
   |false=>False)
  |some _=>False
  |none=>k)
 |some _=>(match y with
  |some (.gn ..)=>False
  |_=>k)
 |none=>k
def BN {α:Type} (m:Map α):(Nat->Prop->Prop)->Prop->Prop:=
 Map.rec (motive:=fun _=>(Nat->Prop->Prop)->Prop->Prop) (fun _ k=>k)
  (fun v _ _ l r f k=>(match v with|none=>fun k=>k|some _=>f 0) (l (fun i=>f (Nat.succ (Nat.mul 2 i))) (r (fun i=>f (Nat.succ (Nat.succ (Nat.mul 2 i)))) k))) m
def A_ (l:List av) (V V':aF) (k:Prop):Prop:=match l with
 |[]=>k
 |_::_=>BN V'.H (fun T=>Cq (V.H.get T) (V'.H.get T)) k
def tK (d:Option Nat) (i:Nat) (V V':aF) (f:yq) (info:List (Nat×Nat×List Nat)):Option (List (Nat×Nat×List Nat)):=
 match tF V'.H fun T=>jo V T||NP d T with
 |false=>none
 |true=>match d with
  |none=>some info
  |some d=>match jo V' d&&!jo V d with
   |false=>some info
   |true=>match tF V.H fun T=>lV T f.src||(jo V' T&&Av (V.H.get T) (V'.H.get T)) with
    |false=>none
    |true=>match f.src with
     |[]=>some ((d,d,[i])::info)
     |[O]=>some ((d,(cW O info).1,i::(cW O info).2)::info)
     |_=>none
def vk (feet:List (List Nat×List Nat)):List (Nat×Nat)->Bool
 |[]=>true
 |(i,j)::l=>(match feet[i]? with
  |some a=>match feet[j]? with
   |some b=>uQ a.2 b.1&&(uQ b.2 a.1&&uQ a.2 b.2)
   |none=>false
  |none=>false)&&vk feet l
def Hz (d:Nat):List PK->RK->List Nat
 |[],rk=>(match rk with
  |.tr=>[]
  |.sl _=>[d]
  |.st offs=>offs.map (fun p=>mm (l8 d) p.1))
 |k::ks,rk=>(match k with
  |.ob offs=>offs.map (fun p=>mm d p.1)++Hz d ks rk
  |_=>Hz d ks rk)
def en:List (Nat×Nat×List Nat)->aF->aF
 |[],V=>V
 |(T,_)::l,V=>en l (bx V T)
def ju (V:aF):List (Nat×Nat×List Nat)->aF->aF
 |[],W=>W
 |(T,_)::l,W=>ju V l (match W.H.get T with
  |some _=>W
  |none=>match V.H.get T with
   |some o=>(match o.pl with
    |true=>bk W T o
    |false=>W)
   |none=>W)
def pO (i:Nat):List Nat->List (Nat×Nat×List Nat)->List (Nat×Nat×List Nat)
 |[],l=>l
 |T::r,l=>(T,T,[i])::pO i r l
def FB (d f:Nat):List Nat:=match sh.inl f with
 |some _=>[]
 |none=>match sh.sg f with
  |some sg=>Hz d sg.ks sg.rk
  |none=>[]
def u0 (V:aF) (o:av):Option (List Nat):=match o.gd with
 |some _=>none
 |none=>match o.fz with
  |true=>none
  |false=>match o.op with
   |.call f args .share=>(match o.dst with
    |some d=>some (FB sh d f)
    |none=>none)
   |.call _ args .borrow=>(match og V args with
    |true=>none
    |false=>some [])
   |_=>none
def xl (V:aF):List Nat->Bool
 |[]=>true
 |T::l=>(match V.H.get T with|some _=>false|none=>true)&&xl V l
inductive fq where
 |sl (N:Nat)
 |tr (c:Option TV)
def vv (v:TV) (ovs:List (Nat×VV)):Nat->Nat->Option (List fq)
 |_,0=>some []
 |off,n+1=>match vv v ovs (off+1) n with
  |none=>none
  |some l=>match bq off ovs with
   |some (.sl N)=>some (.sl N::l)
   |some _=>none
   |none=>some (.tr (ck v off)::l)
def cellOf (V:aF) (o:av):Option (Nat×Nat×List fq):=match o.gd with
 |some _=>none
 |none=>match o.fz with
  |true=>none
  |false=>match o.op with
   |.load sz (.t a)=>(match V.env.get a with
    |some ⟨none,.ptr O off⟩=>(match V.H.get O with
     |some (.ob v ovs)=>(match vv v ovs off (bZ sz) with
      |some (k::ks)=>some (O,off,k::ks)
      |_=>none)
     |_=>none)
    |_=>none)
   |_=>none
def TV.uniq:TV->Bool
 |.i _ _=>true
 |.b _=>true
 |.s _=>true
 |.pZ _ _=>true
 |_=>false
def Bs (v:TV) (ovs:List (Nat×VV)):Nat->List fq->Prop->Prop
 |_,[],k=>k
 |off,key::l,k=>match key with
  |.sl N=>(match bq off ovs with
   |some (.sl N')=>(match Nat.beq N N' with
    |true=>Bs v ovs (off+1) l k
    |false=>False)
   |_=>False)
  |.tr c=>(match bq off ovs with
   |none=>(∃t,TV.uniq t=true/\c=some t/\ck v off=some t)/\Bs v ovs (off+1) l k
   |some _=>False)
def HQ (V:aF) (O off:Nat) (key:List fq) (k:Prop):Prop:=match V.H.get O with
 |some (.ob v ovs)=>Bs v ovs off key k
 |_=>False
def xT (i:Nat):List (Nat×Nat×Nat×List fq)->Option (Nat×Nat×List fq)
 |[]=>none
 |(c,p)::l=>match Nat.beq c i with
  |true=>some p
  |false=>xT i l
def nI (V:aF) (cl:List (Nat×Nat×Nat×List fq)) (i:Nat):List (Nat×Nat)->Prop->Prop
 |[],k=>k
 |(a,b)::l,k=>match Nat.beq a i with
  |true=>False
  |false=>match Nat.beq b i with
   |false=>nI V cl i l k
   |true=>match xT a cl with
    |none=>False
    |some (O,off,key)=>HQ V O off key (nI V cl i l k)
def y9 {α:Type}:List α->Bool
 |[]=>true
 |_::_=>false
def AA (V V':aF) (feet:List (List Nat×List Nat)):Bool:=
 tF V.H fun O=>((match V.H.get O with|some o=>o.pl|none=>false)&&jo V' O)||bz (fun f=>!lV O f.1&&!lV O f.2) feet
def F_ (V:aF) (o:av) (i:Nat) (pairs:List (Nat×Nat)) (cl:List (Nat×Nat×Nat×List fq)):List (Nat×Nat×Nat×List fq):=match pairs with
 |[]=>cl
 |_::_=>match cellOf V o with
  |some p=>(i,p)::cl
  |none=>cl
def FM (ahead:List (List Nat)) (pairs:List (Nat×Nat)):List av->Nat->aF->List (Nat×Nat×List Nat)->List (List Nat×List Nat)->List (Nat×Nat×Nat×List fq)->(aF->Prop)->Prop
 |[],i,V,_,feet,_,k=>match Nat.beq ahead.length i&&vk feet pairs with
  |true=>k V
  |false=>False
 |o::l,i,V,info,feet,cl,k=>match u0 sh V o with
  |some ns=>(match xl V ns&&(y9 pairs||!y9 l) with
    |true=>nI V cl i pairs (FK sh prog nt (en info V) o fun V'=>(match (tF V'.H fun T=>jo (en info V) T||lV T ns)&&(y9 pairs||AA (en info V) V' feet) with
     |true=>A_ l (en info V) V' (nI (ju V info V') cl i pairs (FM ahead pairs l (i+1) (ju V info V') (pO i ns info) (feet++[([],[])]) cl k))
     |false=>False))
    |false=>False)
  |none=>FK sh prog nt V o fun V'=>match vG V o with
   |none=>False
   |some f=>match ahead[i]? with
    |none=>False
    |some ah=>match js info ah (f.rd++f.wr) with
     |false=>False
     |true=>match tK o.dst i V V' f info with
      |none=>False
      |some info'=>A_ l V V' (FM ahead pairs l (i+1) V' info' (feet++[(iF info f.rd,iF info f.wr)]) (F_ V o i pairs cl) k)
def TV.PG:TV->Bool
 |.l _=>true
 |_=>false
def Fl:List (Nat×Nat)->aF->(aF->Prop)->Prop
 |[],V,k=>k V
 |(O,off)::l,V,k=>match V.H.get O with
  |some (.ob v ovs)=>(match bq off ovs with
   |none=>∃t,ej (ck v off)=some t/\t.PG=true/\∀x:AV,∃v',dS v off 1 (.pZ x t)=some v'/\Fl l (bk V O (.ob v' ovs)) k
   |some _=>False)
  |_=>False
def HZ:List av->Nat
 |⟨some d,_,_,_⟩::_=>d
 |_=>0
inductive cm where
 |skip
 |aa (ops:List av)
 |aT (ops:List av) (ahead:List (List Nat)) (pairs:List (Nat×Nat))
 |seq (a b:cm)
 |cond (c:aH) (a b:cm)
 |block (id:Nat) (c:cm)
 |loop (J:List tg) (c:cm)
 |exit (id:Nat)
 |ret
 |join (J:List tg) (c:cm)
def cm.code:cm->bR
 |.skip=>.skip
 |.aa ops=>.aa ops
 |.aT ops ahead pairs=>.aT ops ahead pairs
 |.seq a b=>.seq a.code b.code
 |.cond c a b=>.cond c a.code b.code
 |.block id c=>.block id c.code
 |.loop _ c=>.loop c.code
 |.exit id=>.exit id
 |.ret=>.ret
 |.join _ c=>c.code
def b9 (c:TV) (a b:Prop):Prop:=match c with
 |.b x=>(match x with|true=>a|false=>b)
 |_=>False
def BX:cm->aF->(bJ->aF->Prop)->Prop
 |.skip,V,k=>k .normal V
 |.aa ops,V,k=>H7 sh prog nt ops V (k .normal)
 |.aT ops ahead pairs,V,k=>Fl (sh.pn (HZ ops)) V fun V=>FM sh prog nt ahead pairs ops 0 V [] [] [] (k .normal)
 |.seq a b,V,k=>BX a V fun x V=>match x with
  |.normal=>BX b V k
  |x=>k x V
 |.cond c a b,V,k=>ia V none c fun c=>b9 c (BX a V k) (BX b V k)
 |.block id c,V,k=>BX c V fun x V=>match x with
  |.exit i=>bif Nat.beq i id then k .normal V else k (.exit i) V
  |x=>k x V
 |.loop J c,V,k=>∃I:Nat->JT J Prop,(∃n,pY J V (I n))/\∀n,k_ J V0 (I n) fun V=>BX c V fun x V=>match x with
  |.normal=>∃m,m < n/\pY J V (I m)
  |x=>k x V
 |.exit id,V,k=>k (.exit id) V
 |.ret,V,k=>k .ret V
 |.join J c,V,k=>∃I:JT J Prop,(BX c V fun x V=>match x with
  |.normal=>pY J V I
  |x=>k x V)/\k_ J V0 I (k .normal)
end
def DU:List TV->Nat->aF->aF
 |[],_,V=>V
 |v::vs,i,V=>DU vs (i+1) (fL V i (.tr v))
def qi (V:aF) (r:pq) (k:TV->Prop):Prop:=match r with
 |.tmp t=>dz V none (.t t) fun w=>Iz V w k
 |.cell t sz=>dz V none (.t t) fun w=>match w with
  |.ptr O off=>(match V.H.get O with
   |some (.ob v ovs)=>match sz with
    |none=>(match bq off ovs with
     |some w=>pW V w fun es=>k (.l es)
     |none=>∃u,ck v off=some u/\k u)
    |some n=>∃u,dr v off n=some u/\tn V (kE off n ovs) u k
   |_=>False)
  |_=>False
def yV (V:aF):List pq->(List TV->Prop)->Prop
 |[],k=>k []
 |r::rs,k=>qi V r fun v=>yV V rs fun vs=>k (v::vs)
def Ai:List TV->Prop
 |[]=>True
 |t::r=>t.ja=false/\Ai r
def eU (rs:List TV):Prop:=match rs with
 |[_]=>True
 |rs=>Ai rs
def yF:List TV->TV
 |[v]=>v
 |vs=>.tp vs
def J6 (sh:Sh) (prog:Map aq) (af:aq) (vc:cm) (ts:List TV) (Q:TV->Prop):Prop:=
 BX sh prog af.nt vc (DU ts 0 V0) fun x V=>(match x with|.exit _=>False|_=>True)/\yV V af.res fun rs=>eU rs/\Q (yF rs)
end Go.Ax.V
namespace Go.Ax.dR
open Go Go.Ax Go.Ax.V
abbrev LO:=List av
abbrev oT (d t:Nat) (op:dV):av:=⟨some d,op,some (t,true),false⟩
abbrev oF (d t:Nat) (op:dV):av:=⟨some d,op,some (t,false),false⟩
abbrev oN (op:dV):av:=⟨none,op,none,false⟩
abbrev zi:AV:=.int .i64 0
abbrev qM (d a:Nat):av:=o d (.mv (.t a))
abbrev qMT (d g a:Nat):av:=oT d g (.mv (.t a))
abbrev qMF (d g a:Nat):av:=oF d g (.mv (.t a))
abbrev qZ (d a:Nat):av:=o d (.mv (i64 a))
abbrev qL (d a:Nat):av:=o d (.load none (.t a))
abbrev qLT (d g a:Nat):av:=oT d g (.load none (.t a))
abbrev qLF (d g a:Nat):av:=oF d g (.load none (.t a))
abbrev qG (d a b:Nat):av:=o d (.load (some a) (.t b))
abbrev qGT (d g a b:Nat):av:=oT d g (.load (some a) (.t b))
abbrev qGF (d g a b:Nat):av:=oF d g (.load (some a) (.t b))
abbrev qF (d a b:Nat):av:=o d (.gR a (.t b))
abbrev qFT (d g a b:Nat):av:=oT d g (.gR a (.t b))
abbrev qFF (d g a b:Nat):av:=oF d g (.gR a (.t b))
abbrev qI (d a b c:Nat):av:=o d (.bL a (.t b) (.t c))
abbrev qIT (d g a b c:Nat):av:=oT d g (.bL a (.t b) (.t c))
abbrev qIF (d g a b c:Nat):av:=oF d g (.bL a (.t b) (.t c))
abbrev qN (d a:Nat):av:=o d (.len false (.t a))
abbrev qNT (d g a:Nat):av:=oT d g (.len false (.t a))
abbrev qNF (d g a:Nat):av:=oF d g (.len false (.t a))
abbrev qU (d a:Nat):av:=o d (.un .not (.t a))
abbrev qUT (d g a:Nat):av:=oT d g (.un .not (.t a))
abbrev qUF (d g a:Nat):av:=oF d g (.un .not (.t a))
abbrev qP (d a b:Nat):av:=o d (.pick (.t a) (.c (.bool true)) (.t b))
abbrev qPT (d g a b:Nat):av:=oT d g (.pick (.t a) (.c (.bool true)) (.t b))
abbrev qQ (d a b:Nat):av:=o d (.pick (.t a) (.t b) (.c (.bool false)))
abbrev qQT (d g a b:Nat):av:=oT d g (.pick (.t a) (.t b) (.c (.bool false)))
abbrev qQF (d g a b:Nat):av:=oF d g (.pick (.t a) (.t b) (.c (.bool false)))
abbrev qE (d a b:Nat):av:=o d (.ext a (.t b))
abbrev qX (d a:Nat):av:=o d (.iN (.t a))
abbrev qXF (d g a:Nat):av:=oF d g (.iN (.t a))
abbrev qB (d:Nat) (p:BinOp) (a b:Nat):av:=o d (.bin p (.t a) (.t b))
abbrev qC (d:Nat) (p:BinOp) (a b:Nat):av:=o d (.bin p (.t a) (i64 b))
abbrev qK (d f:Nat) (l:List Nat):av:=o d (.call f (l.map .t) .borrow)
abbrev qBT (d g:Nat) (p:BinOp) (a b:Nat):av:=oT d g (.bin p (.t a) (.t b))
abbrev qCT (d g:Nat) (p:BinOp) (a b:Nat):av:=oT d g (.bin p (.t a) (i64 b))
abbrev qKT (d g f:Nat) (l:List Nat):av:=oT d g (.call f (l.map .t) .borrow)
abbrev qBF (d g:Nat) (p:BinOp) (a b:Nat):av:=oF d g (.bin p (.t a) (.t b))
abbrev qCF (d g:Nat) (p:BinOp) (a b:Nat):av:=oF d g (.bin p (.t a) (i64 b))
abbrev qKF (d g f:Nat) (l:List Nat):av:=oF d g (.call f (l.map .t) .borrow)
abbrev qY (d:Nat) (b:Bool):av:=o d (.mv (.c (.bool b)))
abbrev qO (s a b:Nat):av:=oN (.store s (.t a) (.t b))
abbrev qA (d s y a b:Nat):av:=o d (.app s y (.t a) (.t b))
abbrev oZ (d:Nat) (p:dV):av:=⟨some d,p,none,true⟩
abbrev xA (a e:Nat):bR:=.cond (.t a) .skip (.exit e)
abbrev zL1:List AV:=[zi,zi,zi,zi,zi,zi,zi,.ak,zi,zi,zi,zi,.ak,zi,zi,zi,.ak,.ak,.ak,.ak]
abbrev zL2:List AV:=[zi,zi,zi,zi,zi,zi,zi,zi,zi,.ak,zi,zi,zi,zi,.ak,zi,zi,zi,.ak]
abbrev zL3:List AV:=[zi,zi,zi,zi,.ak,zi,zi,zi,.ak]
abbrev zL4:List AV:=[zi,zi,zi,.ak,zi,zi,zi,.ak]
abbrev zL5:List AV:=[zi,zi,zi,zi,zi,.ak]
abbrev rg:Nat->List Nat:=List.range
abbrev qs (l:LO) (c:cm):cm:=.seq (.aa l) c
abbrev tB0:ByteArray:=⟨#[0,1,2,2,3,3,3,3,4,4,4,4,4,4,4,4,5,5,5,5,5,5,5,5,5,5,5,5,5,5,5,5,6,6,6,6,6,6,6,6,6,6,6,6,6,6,6,6,6,6,6,6,6,6,6,6,6,6,6,6,6,6,6,6,7,7,7,7,7,7,7,7,7,7,7,7,7,7,7,7,7,7,7,7,7,7,7,7,7,7,7,7,7,7,7,7,7,7,7,7,7,7,7,7,7,7,7,7,7,7,7,7,7,7,7,7,7,7,7,7,7,7,7,7,7,7,7,7,8,8,8,8,8,8,8,8,8,8,8,8,8,8,8,8,8,8,8,8,8,8,8,8,8,8,8,8,8,8,8,8,8,8,8,8,8,8,8,8,8,8,8,8,8,8,8,8,8,8,8,8,8,8,8,8,8,8,8,8,8,8,8,8,8,8,8,8,8,8,8,8,8,8,8,8,8,8,8,8,8,8,8,8,8,8,8,8,8,8,8,8,8,8,8,8,8,8,8,8,8,8,8,8,8,8,8,8,8,8,8,8,8,8,8,8,8,8,8,8,8,8,8,8,8,8,8,8]⟩
def Gu:LO:=[qY 6 false]
def Gt:LO:=[qM 26 0,o 27 (.conv .u64 (.t 26)),o 28 (.bin .rem (.t 27) (.c (.int .u64 16))),o 29 (.conv .i64 (.t 28)),o 30 (.bin .add (i64 1) (.t 29)),qM 7 30]
def Gs:LO:=[o 31 (.build [zi,zi,zi,.ak] [(0,1,(i64 1)),(1,1,(i64 1))]),o 32 (.build [zi,zi,zi,.ak] [(0,1,(i64 2))]),o 33 (.build zL1 [(0,1,(i64 4)),(4,4,.t 32)]),o 8 (.alloc [zi,zi,zi,.ak]),o 9 (.alloc zL1),qO 4 8 31,qO 20 9 33]
def Gq:LO:=[qM 34 7,o 35 (.build zL5 [(1,1,.t 34),(3,1,(i64 1)),(4,1,(i64 1))]),oZ 36 (.aQ 1 zL5 [(0,6,.t 35)]),qG 37 4 8,qG 38 4 8,o 39 (.build zL3 [(0,1,(i64 1)),(1,4,.t 37),(5,4,.t 38)]),o 40 (.build zL1 [(0,1,(i64 7))]),qG 41 20 9,oZ 42 (.aQ 2 [zi,zi,zi,zi,zi,zi,zi,.ak,zi,zi,zi,zi,.ak,zi,zi,zi,.ak,.ak,.ak,.ak,zi,zi,zi,zi,zi,zi,zi,.ak,zi,zi,zi,zi,.ak,zi,zi,zi,.ak,.ak,.ak,.ak] [(0,20,.t 40),(20,20,.t 41)]),o 43 (.build zL1 [(0,1,(i64 3)),(8,9,.t 39),(17,1,.t 42)]),oZ 44 (.aQ 1 zL1 [(0,20,.t 43)]),o 45 (.build [zi,.ak] [(0,1,(i64 1)),(1,1,.t 44)]),qG 46 4 8,qG 47 4 8,o 48 (.build zL3 [(0,1,(i64 1)),(1,4,.t 46),(5,4,.t 47)]),o 49 (.build [zi,zi,.ak] []),oZ 50 (.aQ 1 [zi,zi,.ak] [(0,3,.t 49)]),o 51 (.build zL1 [(0,1,(i64 5)),(19,1,.t 50)]),oZ 52 (.aQ 1 zL1 [(0,20,.t 51)]),o 53 (.build zL1 [(0,1,(i64 3)),(8,9,.t 48),(17,1,.t 52)]),oZ 54 (.aQ 1 zL1 [(0,20,.t 53)]),o 55 (.build [zi,.ak] [(0,1,(i64 1)),(1,1,.t 54)]),oZ 56 (.aQ 2 [zi,.ak,zi,.ak] [(0,2,.t 45),(2,2,.t 55)]),o 57 (.build [.ak,.ak] [(0,1,.t 36),(1,1,.t 56)]),o 10 (.alloc [.ak,.ak]),qO 2 10 57]
def Gp:LO:=[qG 59 2 10,qK 60 43 [59],qM 58 60,qE 61 0 58,qE 62 1 58,o 11 (.alloc [.ak,.ak,.ak]),qO 3 11 61,qM 12 62]
def Gn:LO:=[qG 64 3 11,qK 65 31 [64],qM 63 65,qE 66 0 63,qE 67 1 63,o 13 (.alloc [.ak,.ak,.ak,.ak]),qO 4 13 66,qM 14 67]
def Gm:LO:=[o 68 (.call 38 [] .borrow),qU 69 68,qM 70 69,qMF 71 70 12,qCF 72 70 .neq 71 0,qP 73 70 72,qM 74 73,qMF 75 74 14,qCF 76 74 .neq 75 0,qP 77 74 76]
def Gl:LO:=[qY 6 false]
def Gk:LO:=[o 15 (.mv (.c (.ak))),o 16 (.mv (.c (.ak)))]
def Gj:LO:=[qZ 17 0]
def Dd:LO:=[qM 78 17,qM 79 1,qN 80 79,qB 81 .lss 78 80,qM 82 81,qMT 83 82 17,qCT 84 82 .lss 83 50,qQ 85 82 84]
def Db:LO:=[qZ 18 0]
def Da:LO:=[qM 88 17,qM 89 2,qN 90 89,qB 91 .lss 88 90]
def C_:LO:=[qM 92 2,qM 93 17,qI 94 1 92 93,qL 95 94,o 96 (.conv .i64 (.t 95)),qM 18 96]
def C9:LO:=[qZ 19 0]
def C8:LO:=[qM 97 1,qM 98 17,qI 99 1 97 98,qL 100 99]
def C7:LO:=[qZ 19 1]
def C6:LO:=[qF 101 2 13,qL 102 101,o 103 (.bL 1 (.t 102) (i64 0)),qL 104 103,qN 105 104,qM 20 105]
def C5:LO:=[qZ 21 0]
def C4:LO:=[qM 106 21,qC 107 .lss 106 4]
def C2:LO:=[qG 111 3 11,qG 112 4 13,qM 113 19,qM 114 18,o 115 (.build [zi,.bool false,zi] [(0,1,.t 113),(2,1,.t 114)]),qK 116 52 [111,112,115],qM 110 116,qE 117 0 110,qE 118 1 110,qE 119 2 110,o 22 (.alloc [.ak,.ak,.ak,.ak]),o 23 (.alloc [.bool false,zi,zi,zi]),qO 4 22 117,qO 4 23 118,qM 24 119]
def C1:LO:=[qM 120 24,qC 121 .neq 120 0,qM 122 121,qFF 123 122 1 23,qLF 124 122 123,qCF 125 122 .neq 124 0,qP 126 122 125]
def C0:LO:=[qY 6 false]
def CZ:LO:=[qF 127 2 22,qL 128 127,o 129 (.bL 1 (.t 128) (i64 0)),qL 130 129,qN 131 130,qF 132 2 13,qL 133 132,o 134 (.bL 1 (.t 133) (i64 0)),qL 135 134,qN 136 135,qB 137 .gtr 131 136]
def Ez:List (List Nat):=[[],[0],[0,1],[0,1,2],(rg 4),[],[5],[5,6],[5,6,7],[5,6,7,8],(rg 10)]
def CY:LO:=[qM 138 15,qF 139 2 22,qL 140 139,o 141 (.bL 1 (.t 140) (i64 0)),qL 142 141,qF 143 2 22,qL 144 143,o 145 (.bL 1 (.t 144) (i64 0)),qL 146 145,qN 147 146,qC 148 .sub 147 1,qI 149 2 142 148,qF 150 1 149,qL 151 150,o 152 (.aQ 1 [zi] [(0,1,.t 151)]),qA 153 1 8 138 152,qM 15 153]
def Ey:List (List Nat):=[[],[],[1],[1,2],[1,2,3],[],[5],[5,6],[5,6,7],[5,6,7,8],[5,6,7,8,9],[1,2,3,4,5,6,7,8,9,10],[1,2,3,4,5,6,7,8,9,10,11],[1,2,3,4,5,6,7,8,9,10,11,12],[1,2,3,4,5,6,7,8,9,10,11,12,13],(rg 15),(rg 16)]
def CX:LO:=[qF 154 2 22,qL 155 154,o 156 (.bL 1 (.t 155) (i64 0)),qL 157 156,qN 158 157,qF 159 2 13,qL 160 159,o 161 (.bL 1 (.t 160) (i64 0)),qL 162 161,qN 163 162,qB 164 .lss 158 163]
def Ew:List (List Nat):=[[],[0],[0,1],[0,1,2],(rg 4),[],[5],[5,6],[5,6,7],[5,6,7,8],(rg 10)]
def CW:LO:=[qM 165 16,qF 166 1 22,qL 167 166,o 168 (.bL 1 (.t 167) (i64 1)),qL 169 168,o 170 (.bL 1 (.t 169) (i64 0)),qL 171 170,o 172 (.aQ 1 [zi] [(0,1,.t 171)]),qA 173 1 8 165 172,qM 16 173]
def CV:LO:=[qF 174 0 23,qL 175 174,qU 176 175,qM 177 176,qMT 178 177 19,qCT 179 177 .eql 178 0,qMT 180 177 179,qFT 181 180 2 13,qLT 182 180 181,oT 183 180 (.bL 1 (.t 182) (i64 0)),qLT 184 180 183,qNT 185 180 184,qMT 186 180 7,qBT 187 180 .eql 185 186,qQT 188 177 180 187,qMT 189 177 188,qMF 190 189 19,qCF 191 189 .eql 190 1,qMF 192 189 191,qFT 193 192 2 13,qLT 194 192 193,oT 195 192 (.bL 1 (.t 194) (i64 0)),qLT 196 192 195,qNT 197 192 196,qCT 198 192 .eql 197 0,qQF 199 189 192 198,qPT 200 177 189 199,qUT 201 177 200,qQ 202 177 201]
def CU:LO:=[qY 6 false]
def CT:LO:=[qG 203 4 22,qO 4 13 203]
def C3:LO:=[qM 108 21,qC 109 .add 108 1,qM 21 109]
def JX:bR:=.seq (.seq (.aa C4) (xA 107 2)) (.seq (.block 3 (.seq (.aa C2) (.seq (.seq (.aa C1) (.cond (.t 126) (.seq (.aa C0) .ret) .skip)) (.seq (.seq (.aT CZ Ez []) (.cond (.t 137) (.aT CY Ey []) .skip)) (.seq (.seq (.aT CX Ew []) (.cond (.t 164) (.aa CW) .skip)) (.seq (.seq (.aa CV) (.cond (.t 202) (.seq (.aa CU) .ret) .skip)) (.aa CT))))))) (.aa C3))
def CS:LO:=[qM 204 19,qC 205 .eql 204 0,qM 206 205,qMT 207 206 20,qMT 208 206 7,qBT 209 206 .lss 207 208,qQ 210 206 209,qM 211 210,qFT 212 211 2 13,qLT 213 211 212,oT 214 211 (.bL 1 (.t 213) (i64 0)),qLT 215 211 214,qNT 216 211 215,qMT 217 211 20,qBT 218 211 .leq 216 217,qQ 219 211 218,qM 220 219,qMF 221 220 19,qCF 222 220 .eql 221 1,qMF 223 220 222,qMT 224 223 20,qCT 225 223 .gtr 224 0,qQF 226 220 223 225,qMF 227 220 226,qFT 228 227 2 13,qLT 229 227 228,oT 230 227 (.bL 1 (.t 229) (i64 0)),qLT 231 227 230,qNT 232 227 231,qMT 233 227 20,qBT 234 227 .geq 232 233,qQF 235 220 227 234,qP 236 220 235]
def CR:LO:=[qY 6 false]
def Dc:LO:=[qM 86 17,qC 87 .add 86 1,qM 17 87]
def JW:bR:=.seq (.seq (.aa Dd) (xA 85 0)) (.seq (.block 1 (.seq (.aa Db) (.seq (.seq (.aa Da) (.cond (.t 91) (.aa C_) .skip)) (.seq (.aa C9) (.seq (.seq (.aa C8) (.cond (.t 100) (.aa C7) .skip)) (.seq (.aa C6) (.seq (.seq (.aa C5) (.block 2 (.loop JX))) (.seq (.aa CS) (.cond (.t 236) (.seq (.aa CR) .ret) .skip))))))))) (.aa Dc))
def CQ:LO:=[qM 237 16,qN 238 237,qM 239 15,qN 240 239,qB 241 .gtr 238 240,qM 242 241,qMF 243 242 15,qNF 244 242 243,qMF 245 242 16,qNF 246 242 245,qBF 247 242 .sub 244 246,qFF 248 242 2 13,qLF 249 242 248,oF 250 242 (.bL 1 (.t 249) (i64 0)),qLF 251 242 250,qNF 252 242 251,qBF 253 242 .neq 247 252,qP 254 242 253]
def CP:LO:=[qY 6 false]
def CO:LO:=[qZ 25 0]
def CN:LO:=[qM 255 25,qM 256 16,qN 257 256,qB 258 .lss 255 257]
def CL:LO:=[qM 261 16,qM 262 25,qI 263 1 261 262,qL 264 263,qM 265 15,qM 266 25,qI 267 1 265 266,qL 268 267,qB 269 .neq 264 268]
def Eu:List (List Nat):=[[],[],[0,1],[0,1,2],[],[],[4,5],[4,5,6],(rg 8)]
def CK:LO:=[qY 6 false]
def CM:LO:=[qM 259 25,qC 260 .add 259 1,qM 25 260]
def JV:bR:=.seq (.seq (.aa CN) (xA 258 4)) (.seq (.block 5 (.seq (.aT CL Eu []) (.cond (.t 269) (.seq (.aa CK) .ret) .skip))) (.aa CM))
def CJ:LO:=[qY 6 true]
def PN:bR:=.seq (.aa Gu) (.seq (.aa Gt) (.seq (.aa Gs) (.seq (.aa Gq) (.seq (.aa Gp) (.seq (.aa Gn) (.seq (.seq (.aa Gm) (.cond (.t 77) (.seq (.aa Gl) .ret) .skip)) (.seq (.aa Gk) (.seq (.seq (.aa Gj) (.block 0 (.loop JW))) (.seq (.seq (.aa CQ) (.cond (.t 254) (.seq (.aa CP) .ret) .skip)) (.seq (.seq (.aa CO) (.block 4 (.loop JV))) (.seq (.aa CJ) .ret)))))))))))
def Il:aq:=⟨3,270,[.tmp 6],PN⟩
def NJ:cm:=qs [o 2 (.box (.t 0)),o 3 (.box (.t 1)),qY 4 false] (qs [qG 5 3 2,qK 6 53 [5],qM 7 6,qGT 8 7 3 2,qGT 9 7 4 3,qKT 10 7 54 [8,9],qQ 11 7 10,qM 4 11] .ret)
def Nw:aq:=⟨2,12,[.tmp 4],NJ.code⟩
def Oi:aq:=⟨1,40,[.cell 2 (some 4),.tmp 3],(.seq (.aa [o 1 (.box (.t 0)),o 2 (.alloc [.ak,.ak,.ak,.ak]),qZ 3 0]) (.seq (.seq (.aa [qG 7 3 1,qK 8 53 [7],qU 9 8]) (.cond (.t 9) (.seq (.aa [o 10 (.build [.ak,.ak,.ak,.ak] []),qO 4 2 10,qZ 3 1]) .ret) .skip)) (.seq (.aT [qF 11 1 1,qL 12 11,qN 13 12,o 14 (.kG 1 8 [zi] (.t 13)),qF 15 0 1,qL 16 15,qN 17 16,o 18 (.kG 1 24 [.ak] (.t 17)),qF 19 0 1,qL 20 19,qN 21 20,o 22 (.kG 1 8 [zi] (.t 21)),o 23 (.build [.ak,.ak,.ak,.ak] [(0,1,.t 14),(2,1,.t 18),(3,1,.t 22)]),o 4 (.alloc [.ak,.ak,.ak,.ak]),qO 4 4 23] [[],[0],[0,1],[0,1,2],[],[4],[4,5],[4,5,6],[],[8],[8,9],[8,9,10],(rg 12),[],(rg 14)] []) (.seq (.seq (.aa [qF 24 2 1,qL 25 24,qN 26 25,qZ 27 0]) (.block 0 (.loop (.seq (.aa [qB 28 .lss 27 26]) (.seq (.cond (.t 28) .skip (.exit 0)) (.seq (.block 1 (.seq (.aa [qI 29 1 25 27,qL 30 29,qM 6 30]) (.aT [qF 31 1 4,qL 32 31,qM 33 6,o 34 (.kG 1 8 [zi] (.t 33)),o 35 (.eR 1 1 [.ak] [(0,1,.t 34)]),qA 36 1 24 32 35,qF 37 1 4,qO 1 37 36] [[],[0],[],[2],[2,3],(rg 5),(rg 6),(rg 7)] []))) (.aa [qC 38 .add 27 1,qM 27 38]))))))) (.seq (.aa [qG 39 4 4,qO 4 2 39,qZ 3 0]) .ret)))))⟩
def Oh:aq:=⟨1,46,[.cell 2 (some 4)],(.seq (.aa [o 1 (.box (.t 0)),o 2 (.alloc [.ak,.ak,.ak,.ak])]) (.seq (.aT [qF 8 0 1,qL 9 8,o 10 (.call 56 [.t 9] .share),qF 11 3 1,qL 12 11,o 13 (.call 56 [.t 12] .share),o 14 (.build [.ak,.ak,.ak,.ak] [(0,1,.t 10),(3,1,.t 13)]),o 3 (.alloc [.ak,.ak,.ak,.ak]),qO 4 3 14] [[],[0],[0,1],[],[3],(rg 5),(rg 6),[],(rg 8)] [(2,4)]) (.seq (.seq (.aa [qF 15 1 1,qL 16 15,qN 17 16,qZ 18 0]) (.block 0 (.loop (.seq (.aa [qB 19 .lss 18 17]) (.seq (.cond (.t 19) .skip (.exit 0)) (.seq (.block 1 (.seq (.aa [qI 20 1 16 18,qL 21 20,qM 5 21]) (.aT [qF 22 1 3,qL 23 22,qM 24 5,o 25 (.call 56 [.t 24] .share),o 26 (.eR 1 1 [.ak] [(0,1,.t 25)]),qA 27 1 24 23 26,qF 28 1 3,qO 1 28 27] [[],[0],[],[2],[2,3],(rg 5),(rg 6),(rg 7)] [(1,3)]))) (.aa [qC 29 .add 18 1,qM 18 29]))))))) (.seq (.seq (.aa [qF 30 2 1,qL 31 30,qN 32 31,qZ 33 0]) (.block 2 (.loop (.seq (.aa [qB 34 .lss 33 32]) (.seq (.cond (.t 34) .skip (.exit 2)) (.seq (.block 3 (.seq (.aa [qI 35 1 31 33,qL 36 35,qM 7 36]) (.aT [qF 37 2 3,qL 38 37,qM 39 7,o 40 (.call 57 [.t 39] .share),o 41 (.eR 1 1 [.ak] [(0,1,.t 40)]),qA 42 1 24 38 41,qF 43 2 3,qO 1 43 42] [[],[0],[],[2],[2,3],(rg 5),(rg 6),(rg 7)] [(1,3)]))) (.aa [qC 44 .add 33 1,qM 33 44]))))))) (.seq (.aa [qG 45 4 3,qO 4 2 45]) .ret)))))⟩
def NI:cm:=qs [o 2 (.box (.t 0)),qZ 4 0,qZ 5 0] (qs [qG 9 4 2,qM 10 1,qK 11 58 [9,10],qM 8 11,qE 12 0 8,qE 13 1 8,qM 6 12,qM 7 13] (.seq (.block 0 (qs [qM 15 7,qC 16 .neq 15 0,qM 14 16] (.cond (.t 14) (qs [qM 17 7,qZ 4 0,qM 5 17] .ret) (qs [qM 19 6,o 20 (.bin .lss (.t 19) (i64 (-2147483648))),qM 21 20,qMF 22 21 6,qCF 23 21 .gtr 22 2147483647,qP 24 21 23,qM 18 24] (.cond (.t 18) (qs [qZ 4 0,qZ 5 2] .ret) .skip))))) (qs [qM 25 6,qM 4 25,qZ 5 0] .ret)))
def Nv:aq:=⟨2,26,[.tmp 4,.tmp 5],NI.code⟩
def Og:aq:=⟨0,75,[.tmp 0],(.seq (.aa [qY 0 false]) (.seq (.aa [o 11 (.build [zi,zi,zi,.ak] [(0,1,(i64 1)),(1,1,(i64 7))]),o 12 (.build [zi,zi,zi,.ak] [(0,1,(i64 1))]),oZ 13 (.aQ 2 zL4 [(0,4,.t 11),(4,4,.t 12)]),o 14 (.build [zi,zi,zi,.ak] [(0,1,(i64 7)),(3,1,.t 13)]),o 1 (.alloc [zi,zi,zi,.ak]),qO 4 1 14]) (.seq (.aa [qG 16 4 1,o 17 (.call 35 [.t 16,(.c (.ak))] .borrow),qM 15 17,qE 18 0 15,qE 19 1 15,qM 2 18,qM 3 19]) (.seq (.aa [o 21 (.build [zi,zi,zi,.ak] [(0,1,(i64 1)),(1,1,(i64 2147483647))]),o 22 (.build [zi,zi,zi,.ak] [(0,1,(i64 2))]),oZ 23 (.aQ 2 zL4 [(0,4,.t 21),(4,4,.t 22)]),o 24 (.build [zi,zi,zi,.ak] [(0,1,(i64 4)),(3,1,.t 23)]),o 25 (.aQ 1 [zi] [(0,1,(i64 0))]),qK 26 35 [24,25],qM 20 26,qE 27 0 20,qE 28 1 20,qM 4 27,qM 5 28]) (.seq (.aa [o 30 (.build [zi,zi,zi,.ak] [(0,1,(i64 1)),(1,1,(i64 2147483647))]),o 31 (.build [zi,zi,zi,.ak] [(0,1,(i64 2))]),oZ 32 (.aQ 2 zL4 [(0,4,.t 30),(4,4,.t 31)]),o 33 (.build [zi,zi,zi,.ak] [(0,1,(i64 4)),(3,1,.t 32)]),o 34 (.aQ 1 [zi] [(0,1,(i64 1))]),qK 35 35 [33,34],qM 29 35,qE 36 0 29,qE 37 1 29,qM 6 36,qM 7 37]) (.seq (.aa [qG 39 4 1,o 40 (.build zL2 [(1,1,(i64 1)),(2,1,(i64 1)),(6,4,.t 39)]),oZ 41 (.aQ 1 zL2 [(0,19,.t 40)]),o 42 (.build [zi,.ak,.ak] [(0,1,(i64 2)),(1,1,.t 41)]),oZ 43 (.aQ 1 [zi,.ak,.ak] [(0,3,.t 42)]),o 44 (.aQ 1 [zi] [(0,1,(i64 1))]),o 45 (.build [.ak,.ak,.ak] [(1,1,.t 43),(2,1,.t 44)]),o 46 (.build [zi,.bool false,zi] []),o 47 (.aQ 1 [zi,.bool false,zi] [(0,3,.t 46)]),qK 48 59 [45,47],qM 38 48,qE 49 0 38,qE 50 1 38,qE 51 2 38,o 9 (.alloc [.bool false,zi,zi,zi]),qM 8 49,qO 4 9 50,qM 10 51]) (.seq (.aa [qM 52 3,qC 53 .eql 52 3,qM 54 53,qMT 55 54 4,qCT 56 54 .eql 55 2147483647,qQ 57 54 56,qM 58 57,qMT 59 58 5,qCT 60 58 .eql 59 0,qQ 61 58 60,qM 62 61,qMT 63 62 7,qCT 64 62 .eql 63 2,qQ 65 62 64,qM 66 65,qMT 67 66 10,qCT 68 66 .eql 67 0,qQ 69 66 68,qM 70 69,qFT 71 70 1 9,qLT 72 70 71,qCT 73 70 .eql 72 3,qQ 74 70 73,qM 0 74]) .ret)))))))⟩
def Oe:aq:=⟨2,61,[.tmp 4,.tmp 5],(.seq (.aa [o 2 (.box (.t 0)),qY 4 false,qZ 5 0]) (.seq (.aa [qF 10 1 2,qG 11 4 10,qM 12 1,qK 13 35 [11,12],qM 9 13,qE 14 0 9,qE 15 1 9,qM 6 14,qM 7 15]) (.seq (.seq (.aa [qM 16 7,qC 17 .neq 16 0]) (.cond (.t 17) (.seq (.aa [qM 18 7,qY 4 false,qM 5 18]) .ret) .skip)) (.seq (.aa [qF 20 5 2,qG 21 4 20,qM 22 1,qK 23 35 [21,22],qM 19 23,qE 24 0 19,qE 25 1 19,qM 8 24,qM 7 25]) (.seq (.seq (.aa [qM 26 7,qC 27 .neq 26 0]) (.cond (.t 27) (.seq (.aa [qM 28 7,qY 4 false,qM 5 28]) .ret) .skip)) (.seq (.seq (.aa [qF 29 0 2,qL 30 29]) (.block 0 (.seq (.aa [qC 32 .eql 30 1,qM 31 32]) (.cond (.t 31) (.seq (.aa [qM 33 6,qM 34 8,qB 35 .eql 33 34,qM 4 35,qZ 5 0]) .ret) (.seq (.aa [qC 37 .eql 30 2,qM 36 37]) (.cond (.t 36) (.seq (.aa [qM 38 6,qM 39 8,qB 40 .neq 38 39,qM 4 40,qZ 5 0]) .ret) (.seq (.aa [qC 42 .eql 30 3,qM 41 42]) (.cond (.t 41) (.seq (.aa [qM 43 6,qM 44 8,qB 45 .lss 43 44,qM 4 45,qZ 5 0]) .ret) (.seq (.aa [qC 47 .eql 30 4,qM 46 47]) (.cond (.t 46) (.seq (.aa [qM 48 6,qM 49 8,qB 50 .leq 48 49,qM 4 50,qZ 5 0]) .ret) (.seq (.aa [qC 52 .eql 30 5,qM 51 52]) (.cond (.t 51) (.seq (.aa [qM 53 6,qM 54 8,qB 55 .gtr 53 54,qM 4 55,qZ 5 0]) .ret) (.seq (.aa [qC 57 .eql 30 6,qM 56 57]) (.cond (.t 56) (.seq (.aa [qM 58 6,qM 59 8,qB 60 .geq 58 59,qM 4 60,qZ 5 0]) .ret) .skip)))))))))))))) (.seq (.aa [qY 4 false,qZ 5 0]) .ret)))))))⟩
def Od:aq:=⟨1,16,[.tmp 2],(.seq (.aa [qZ 2 0]) (.seq (.seq (.aa [qM 3 0]) (.block 0 (.seq (.aa [qC 5 .eql 3 1,qM 4 5]) (.cond (.t 4) (.seq (.aa [qZ 2 2]) .ret) (.seq (.aa [qC 7 .eql 3 2,qM 6 7]) (.cond (.t 6) (.seq (.aa [qZ 2 1]) .ret) (.seq (.aa [qC 9 .eql 3 3,qM 8 9]) (.cond (.t 8) (.seq (.aa [qZ 2 6]) .ret) (.seq (.aa [qC 11 .eql 3 4,qM 10 11]) (.cond (.t 10) (.seq (.aa [qZ 2 5]) .ret) (.seq (.aa [qC 13 .eql 3 5,qM 12 13]) (.cond (.t 12) (.seq (.aa [qZ 2 4]) .ret) (.seq (.aa [qC 15 .eql 3 6,qM 14 15]) (.cond (.t 14) (.seq (.aa [qZ 2 3]) .ret) .skip)))))))))))))) (.seq (.aa [qZ 2 0]) .ret)))⟩
def Oc:aq:=⟨1,50,[.cell 2 (some 3),.tmp 3],(.seq (.aa [o 1 (.box (.t 0)),o 2 (.alloc [.ak,.ak,.ak]),qZ 3 0]) (.seq (.seq (.aa [qG 8 2 1,qK 9 60 [8],qU 10 9]) (.cond (.t 10) (.seq (.aa [o 11 (.build [.ak,.ak,.ak] []),qO 3 2 11,qZ 3 1]) .ret) .skip)) (.seq (.aa [qF 12 0 1,qL 13 12,qK 14 61 [13],o 15 (.build [.ak,.ak,.ak] [(0,1,.t 14)]),o 4 (.alloc [.ak,.ak,.ak]),qO 3 4 15]) (.seq (.seq (.aa [qF 16 1 1,qL 17 16,qN 18 17,qZ 19 0]) (.block 0 (.loop (.seq (.aa [qB 20 .lss 19 18]) (.seq (.cond (.t 20) .skip (.exit 0)) (.seq (.block 1 (.seq (.aa [qI 21 2 17 19,qG 22 2 21,o 6 (.alloc [zi,.ak]),qO 2 6 22]) (.seq (.aa [o 23 (.build [zi,.ak,.ak] [(0,1,(i64 2))]),o 7 (.alloc [zi,.ak,.ak]),qO 3 7 23]) (.seq (.aa [qF 24 1 6,qL 25 24,o 26 (.call 62 [.t 7,.t 25,(i64 0),(i64 1)] .share)]) (.seq (.seq (.aa [qF 27 1 7,qL 28 27,qN 29 28,qC 30 .gtr 29 400]) (.cond (.t 30) (.seq (.aa [o 31 (.build [.ak,.ak,.ak] []),qO 3 2 31,qZ 3 10]) .ret) .skip)) (.seq (.aa [qF 32 2 7,qL 33 32,o 34 (.call 63 [.t 33] .share)]) (.aT [qF 35 1 4,qL 36 35,qG 37 3 7,oZ 38 (.aQ 1 [zi,.ak,.ak] [(0,3,.t 37)]),qA 39 3 56 36 38,qF 40 2 4,qL 41 40,qF 42 0 6,qL 43 42,o 44 (.aQ 1 [zi] [(0,1,.t 43)]),qA 45 1 8 41 44,qF 46 1 4,qO 1 46 39,qF 47 2 4,qO 1 47 45] [[],[0],[],[2],(rg 4),[],[5],[],[7],[7,8],(rg 10),(rg 7),(rg 12),(rg 13),(rg 14)] [(1,3),(3,6),(4,6),(3,8),(4,8)]))))))) (.aa [qC 48 .add 19 1,qM 19 48]))))))) (.seq (.aa [qG 49 3 4,qO 3 2 49,qZ 3 0]) .ret)))))⟩
def Ob:aq:=⟨2,26,[.tmp 4],(.seq (.aa [o 2 (.box (.t 0)),o 4 (.mv (.c (.ak)))]) (.seq (.aa [o 5 (.mv (.c (.ak)))]) (.seq (.seq (.aa [qF 8 1 2,qL 9 8,qN 10 9,qZ 11 0]) (.block 0 (.loop (.seq (.aa [qB 12 .lss 11 10]) (.seq (.cond (.t 12) .skip (.exit 0)) (.seq (.block 1 (.seq (.aa [qM 13 11,qI 14 19 9 11,qG 15 19 14,o 7 (.alloc zL2),qM 6 13,qO 19 7 15]) (.seq (.aa [qF 16 0 7,qL 17 16,qM 18 1,qB 19 .eql 17 18]) (.cond (.t 19) (.aa [qM 20 5,qM 21 6,o 22 (.aQ 1 [zi] [(0,1,.t 21)]),qA 23 1 8 20 22,qM 5 23]) .skip)))) (.aa [qC 24 .add 11 1,qM 11 24]))))))) (.seq (.aa [qM 25 5,qM 4 25]) .ret))))⟩
def NH:cm:=qs [o 3 (.box (.t 0)),o 4 (.box (.t 1)),o 5 (.box (.t 2)),o 6 (.alloc [.ak,.ak,.ak,.ak]),o 7 (.alloc [.bool false,zi,zi,zi]),qZ 8 0] (.seq (qs [qG 11 3 3,qG 12 4 4,qK 13 22 [11,12],qU 14 13] (.cond (.t 14) (qs [o 15 (.build [.ak,.ak,.ak,.ak] []),o 16 (.build [.bool false,zi,zi,zi] []),qO 4 6 15,qO 4 7 16,qZ 8 1] .ret) .skip)) (qs [qG 18 3 3,qG 19 4 4,qG 20 3 5,qK 21 73 [18,19,20],qM 17 21,qE 22 0 17,qE 23 1 17,o 9 (.alloc [.ak,.ak,.ak,.ak]),o 10 (.alloc [.bool false,zi,zi,zi]),qO 4 9 22,qO 4 10 23] (.seq (.aT [qG 24 4 9,qG 25 4 10,qO 4 6 24,qO 4 7 25,qZ 8 0] [[],[],[0],[0,1,2],(rg 4)] [(1,2)]) .ret)))
def Nu:aq:=⟨3,26,[.cell 6 (some 4),.cell 7 (some 4),.tmp 8],NH.code⟩
def Oa:aq:=⟨1,34,[.tmp 2],(.seq (.aa [o 1 (.box (.t 0)),qY 2 false]) (.seq (.aa [qG 6 3 1,qK 7 74 [6],o 3 (.alloc [.ak,.ak]),qO 2 3 7]) (.seq (.seq (.aa [qF 8 1 1,qL 9 8,qN 10 9,qF 11 2 1,qL 12 11,qN 13 12,qB 14 .neq 10 13,qM 15 14,qGF 16 15 2 3,qKF 17 15 60 [16],qUF 18 15 17,qP 19 15 18]) (.cond (.t 19) (.seq (.aa [qY 2 false]) .ret) .skip)) (.seq (.seq (.aa [qF 20 1 1,qL 21 20,qN 22 21,qZ 23 0]) (.block 0 (.loop (.seq (.aa [qB 24 .lss 23 22]) (.seq (.cond (.t 24) .skip (.exit 0)) (.seq (.block 1 (.seq (.aa [qM 25 23,qI 26 3 21 23,qG 27 3 26,o 5 (.alloc [zi,.ak,.ak]),qM 4 25,qO 3 5 27]) (.seq (.aa [qG 28 2 3,qM 29 4,qG 30 3 5,qK 31 75 [28,29,30],qU 32 31]) (.cond (.t 32) (.seq (.aa [qY 2 false]) .ret) .skip)))) (.aa [qC 33 .add 23 1,qM 23 33]))))))) (.seq (.aa [qY 2 true]) .ret)))))⟩
def NG:cm:=qs [o 2 (.box (.t 0)),o 3 (.box (.t 1)),qY 4 false] (.seq (qs [qG 11 3 2,qG 12 4 3,qK 13 76 [11,12],qU 14 13] (.cond (.t 14) (qs [qY 4 false] .ret) .skip)) (.seq (qs [qF 15 1 2,qL 16 15,qN 17 16,qZ 18 0] (.block 0 (.loop [.ob 2 [],.ob 3 [],.pt 2 2 0,.pt 3 3 0,.tr 16,.tr 17,.tr 18] (qs [qB 19 .lss 18 17] (.seq (.cond (.t 19) .skip (.exit 0)) (.seq (.block 1 (qs [qM 20 18,qI 21 3 16 18,qG 22 3 21,o 6 (.alloc [zi,.ak,.ak]),qM 5 20,qO 3 6 22] (.seq (.seq (.aT [qF 23 0 3,qL 24 23,qM 25 5,qI 26 1 24 25,qL 27 26,qF 28 0 6,qL 29 28,qK 30 77 [27,29],qU 31 30,qM 32 31,qFF 33 32 1 3,qLF 34 32 33,qMF 35 32 5,qIF 36 32 1 34 35,qLF 37 32 36,qNF 38 32 37,qFF 39 32 2 2,qLF 40 32 39,qMF 41 32 5,qIF 42 32 1 40 41,qLF 43 32 42,qBF 44 32 .neq 38 43,qP 45 32 44] [[],[0],[],[0,1,2],(rg 4),[],[5],(rg 7),(rg 8),(rg 9),(rg 10),(rg 11),(rg 10),(rg 13),(rg 14),(rg 15),(rg 10),[0,1,2,3,4,5,6,7,8,9,16],(rg 10),[0,1,2,3,4,5,6,7,8,9,16,17,18],[0,1,2,3,4,5,6,7,8,9,16,17,18,19],(rg 21),(rg 22)] []) (.cond (.t 45) (qs [qY 4 false] .ret) .skip)) (qs [qF 46 1 3,qL 47 46,qM 48 5,qI 49 1 47 48,qL 50 49,qN 51 50,qZ 52 0] (.block 2 (.loop [.ob 2 [],.ob 3 [],.pt 2 2 0,.pt 3 3 0,.tr 16,.tr 17,.tr 18,.tr 50,.tr 51,.tr 52] (qs [qB 53 .lss 52 51] (.seq (.cond (.t 53) .skip (.exit 2)) (.seq (.block 3 (qs [qI 54 1 50 52,qL 55 54,qM 8 55] (qs [qM 56 8,qK 57 78 [56],qU 58 57] (.cond (.t 58) (qs [qY 4 false] .ret) .skip)))) (.aa [qC 59 .add 52 1,qM 52 59])))))))))) (.aa [qC 60 .add 18 1,qM 18 60]))))))) (.seq (qs [qF 61 0 2,qL 62 61,qN 63 62,qZ 64 0] (.block 4 (.loop [.ob 3 [],.pt 3 3 0,.tr 62,.tr 63,.tr 64] (qs [qB 65 .lss 64 63] (.seq (.cond (.t 65) .skip (.exit 4)) (.seq (.block 5 (qs [qM 66 64,qI 67 6 62 64,qG 68 6 67,o 10 (.alloc zL5),qM 9 66,qO 6 10 68] (.seq (.aT [qG 69 6 10,qF 70 2 3,qL 71 70,qM 72 9,qI 73 1 71 72,qL 74 73,qK 75 79 [69,74],qU 76 75,qM 77 76,qFF 78 77 3 3,qLF 79 77 78,qMF 80 77 9,qIF 81 77 1 79 80,qLF 82 77 81,qFF 83 77 5 10,qLF 84 77 83,qNF 85 77 84,oF 86 77 (.yw true [.t 85,(i64 1)]),qKF 87 77 77 [82,86],qUF 88 77 87,qP 89 77 88] [[],[],[1],[],[1,2,3],[1,2,3,4],(rg 6),(rg 7),(rg 8),(rg 9),(rg 10),(rg 9),(rg 12),(rg 13),(rg 9),[0,1,2,3,4,5,6,7,8,14],[0,1,2,3,4,5,6,7,8,14,15],[0,1,2,3,4,5,6,7,8,14,15,16],(rg 18),(rg 19),(rg 20)] []) (.cond (.t 89) (qs [qY 4 false] .ret) .skip)))) (.aa [qC 90 .add 64 1,qM 64 90]))))))) (qs [qY 4 true] .ret))))
def Nt:aq:=⟨2,91,[.tmp 4],NG.code⟩
def N_:aq:=⟨1,8,[.tmp 2],(.seq (.aa [o 2 (.mv (.c (.ak)))]) (.seq (.seq (.aa [qM 3 0,o 4 (.eq .slice false (.t 3) (.c (.ak)))]) (.cond (.t 4) (.seq (.aa [o 2 (.mv (.c (.ak)))]) .ret) .skip)) (.seq (.aa [o 5 (.aQ 0 [] []),qM 6 0,qA 7 1 8 5 6,qM 2 7]) .ret)))⟩
def N9:aq:=⟨1,8,[.tmp 2],(.seq (.aa [o 2 (.mv (.c (.ak)))]) (.seq (.seq (.aa [qM 3 0,o 4 (.eq .slice false (.t 3) (.c (.ak)))]) (.cond (.t 4) (.seq (.aa [o 2 (.mv (.c (.ak)))]) .ret) .skip)) (.seq (.aa [o 5 (.aQ 0 [] []),qM 6 0,qA 7 2 16 5 6,qM 2 7]) .ret)))⟩
def Iy:cm:=qs [o 2 (.box (.t 0)),qZ 4 0,qZ 5 0] (.seq (.block 0 (qs [qF 9 0 2,qL 10 9,qC 11 .eql 10 1,qM 8 11] (.cond (.t 8) (qs [qF 12 1 2,qL 13 12,qM 4 13,qZ 5 0] .ret) (qs [qF 15 0 2,qL 16 15,qC 17 .eql 16 2,qM 18 17,qFT 19 18 2 2,qLT 20 18 19,qCT 21 18 .geq 20 0,qQ 22 18 21,qM 23 22,qFT 24 23 2 2,qLT 25 23 24,qMT 26 23 1,qNT 27 23 26,qBT 28 23 .lss 25 27,qQ 29 23 28,qM 14 29] (.cond (.t 14) (qs [qM 30 1,qF 31 2 2,qL 32 31,qI 33 1 30 32,qL 34 33,qM 4 34,qZ 5 0] .ret) (qs [qF 36 0 2,qL 37 36,qC 38 .eql 37 3,qM 39 38,qFT 40 39 3 2,qLT 41 39 40,qNT 42 39 41,qCT 43 39 .eql 42 1,qQ 44 39 43,qM 35 44] (.cond (.t 35) (qs [qF 46 3 2,qL 47 46,o 48 (.bL 4 (.t 47) (i64 0)),qG 49 4 48,qM 50 1,qK 51 35 [49,50],qM 45 51,qE 52 0 45,qE 53 1 45,qM 6 52,qM 7 53] (qs [qM 54 6,o 55 (.un .neg (.t 54)),qM 56 7,qM 4 55,qM 5 56] .ret)) (qs [qF 58 0 2,qL 59 58,qC 60 .geq 59 4,qM 61 60,qFT 62 61 0 2,qLT 63 61 62,qCT 64 61 .leq 63 8,qQ 65 61 64,qM 66 65,qFT 67 66 3 2,qLT 68 66 67,qNT 69 66 68,qCT 70 66 .eql 69 2,qQ 71 66 70,qM 57 71] (.cond (.t 57) (qs [qG 72 4 2,qM 73 1,qK 74 80 [72,73],qE 75 0 74,qE 76 1 74,qM 4 75,qM 5 76] .ret) .skip))))))))) (qs [qZ 4 0,qZ 5 0] .ret))
def Ns:aq:=⟨2,77,[.tmp 4,.tmp 5],Iy.code⟩
def N8:aq:=⟨2,51,[.tmp 4,.cell 5 (some 4),.tmp 6],(.seq (.aa [o 2 (.box (.t 0)),o 4 (.mv (.c (.ak))),o 5 (.alloc [.bool false,zi,zi,zi]),qZ 6 0]) (.seq (.aa [qG 15 3 2,qK 16 31 [15],qM 14 16,qE 17 0 14,qE 18 1 14,o 7 (.alloc [.ak,.ak,.ak,.ak]),qO 4 7 17,qM 8 18]) (.seq (.seq (.aa [qM 19 8,qC 20 .neq 19 0]) (.cond (.t 20) (.seq (.aa [o 21 (.build [.bool false,zi,zi,zi] []),qM 22 8,o 4 (.mv (.c (.ak))),qO 4 5 21,qM 6 22]) .ret) .skip)) (.seq (.aa [qG 23 4 7,oZ 24 (.aQ 1 [.ak,.ak,.ak,.ak] [(0,4,.t 23)]),qM 9 24]) (.seq (.seq (.aa [qM 25 1,qN 26 25,qZ 27 0]) (.block 0 (.loop (.seq (.aa [qB 28 .lss 27 26]) (.seq (.cond (.t 28) .skip (.exit 0)) (.seq (.block 1 (.seq (.aa [qI 29 3 25 27,qG 30 3 29,o 11 (.alloc [zi,.bool false,zi]),qO 3 11 30]) (.seq (.aa [qG 32 3 2,qG 33 4 7,qG 34 3 11,qK 35 73 [32,33,34],qM 31 35,qE 36 0 31,qE 37 1 31,o 12 (.alloc [.ak,.ak,.ak,.ak]),o 13 (.alloc [.bool false,zi,zi,zi]),qO 4 12 36,qO 4 13 37]) (.seq (.seq (.aa [qF 38 1 13,qL 39 38,qC 40 .neq 39 0]) (.cond (.t 40) (.seq (.aT [qM 41 9,qG 42 4 13,qM 4 41,qO 4 5 42,qZ 6 0] [[],[],[0],[0,1,2],(rg 4)] []) .ret) .skip)) (.seq (.aa [qG 43 4 12,qO 4 7 43]) (.aa [qM 44 9,qG 45 4 7,oZ 46 (.aQ 1 [.ak,.ak,.ak,.ak] [(0,4,.t 45)]),qA 47 4 96 44 46,qM 9 47])))))) (.aa [qC 48 .add 27 1,qM 27 48]))))))) (.seq (.aa [qM 49 9,o 50 (.build [.bool false,zi,zi,zi] []),qM 4 49,qO 4 5 50,qZ 6 0]) .ret))))))⟩
def N7:aq:=⟨1,56,[.tmp 2],(.seq (.aa [o 1 (.box (.t 0)),qY 2 false]) (.seq (.seq (.aa [qF 7 0 1,qL 8 7,qN 9 8,qC 10 .gtr 9 4,qM 11 10,qFF 12 11 1 1,qLF 13 11 12,qNF 14 11 13,oF 15 11 (.call 81 [.t 14,(i64 1),(i64 4)] .borrow),qUF 16 11 15,qP 17 11 16]) (.cond (.t 17) (.seq (.aa [qY 2 false]) .ret) .skip)) (.seq (.seq (.aa [qF 18 0 1,qL 19 18,qN 20 19,qZ 21 0]) (.block 0 (.loop (.seq (.aa [qB 22 .lss 21 20]) (.seq (.cond (.t 22) .skip (.exit 0)) (.seq (.block 1 (.seq (.aa [qI 23 6 19 21,qG 24 6 23,o 4 (.alloc zL5),qO 6 4 24]) (.seq (.aa [qG 25 6 4,qF 26 1 1,qL 27 26,qN 28 27,qK 29 82 [25,28],qU 30 29]) (.cond (.t 30) (.seq (.aa [qY 2 false]) .ret) .skip)))) (.aa [qC 31 .add 21 1,qM 21 31]))))))) (.seq (.seq (.aa [qF 32 1 1,qL 33 32,qN 34 33,qZ 35 0]) (.block 2 (.loop (.seq (.aa [qB 36 .lss 35 34]) (.seq (.cond (.t 36) .skip (.exit 2)) (.seq (.block 3 (.seq (.aa [qM 37 35,qI 38 2 33 35,qG 39 2 38,o 6 (.alloc [zi,.ak]),qM 5 37,qO 2 6 39]) (.seq (.aa [qF 40 0 6,qL 41 40,o 42 (.call 81 [.t 41,(i64 0),(i64 6)] .borrow),qU 43 42,qM 44 43,qGF 45 44 2 1,qMF 46 44 5,qFF 47 44 0 6,qLF 48 44 47,oF 49 44 (.build [.ak,.ak,zi,zi] [(0,2,.t 45),(2,1,.t 46),(3,1,.t 48)]),qFF 50 44 1 6,qLF 51 44 50,qKF 52 44 83 [49,51],qUF 53 44 52,qP 54 44 53]) (.cond (.t 54) (.seq (.aa [qY 2 false]) .ret) .skip)))) (.aa [qC 55 .add 35 1,qM 35 55]))))))) (.seq (.aa [qY 2 true]) .ret)))))⟩
def N6:aq:=⟨1,38,[.tmp 2],(.seq (.aa [o 2 (.mv (.c (.ak)))]) (.seq (.aa [o 3 (.mv (.c (.ak)))]) (.seq (.seq (.aa [qM 9 0,qN 10 9,qZ 11 0]) (.block 0 (.loop (.seq (.aa [qB 12 .lss 11 10]) (.seq (.cond (.t 12) .skip (.exit 0)) (.seq (.block 1 (.seq (.aa [qI 13 6 9 11,qG 14 6 13,o 5 (.alloc zL5),qO 6 5 14]) (.seq (.aa [qF 15 5 5,qL 16 15,qM 6 16]) (.seq (.aa [qF 17 5 5,oN (.store 1 (.t 17) (.c (.ak)))]) (.seq (.seq (.aa [qM 18 6,qN 19 18,qZ 20 0]) (.block 2 (.loop (.seq (.aa [qB 21 .lss 20 19]) (.seq (.cond (.t 21) .skip (.exit 2)) (.seq (.block 3 (.seq (.aa [qI 22 1 18 20,qL 23 22,qM 8 23]) (.aT [qF 24 5 5,qL 25 24,qM 26 8,qK 27 56 [26],oZ 28 (.aQ 1 [.ak] [(0,1,.t 27)]),qA 29 1 24 25 28,qF 30 5 5,qO 1 30 29] [[],[0],[],[2],[2,3],(rg 5),(rg 6),(rg 7)] [(1,4)]))) (.aa [qC 31 .add 20 1,qM 20 31]))))))) (.aa [qM 32 3,qG 33 6 5,oZ 34 (.aQ 1 zL5 [(0,6,.t 33)]),qA 35 6 64 32 34,qM 3 35])))))) (.aa [qC 36 .add 11 1,qM 11 36]))))))) (.seq (.aa [qM 37 3,qM 2 37]) .ret))))⟩
def N5:aq:=⟨4,48,[],(.seq (.seq (.aa [qM 11 1,qN 12 11,qC 13 .eql 12 0]) (.cond (.t 13) (.seq (.aa [qM 14 0,qM 15 2,qM 16 3,o 17 (.build zL2 [(0,1,.t 15),(1,1,.t 16)]),o 18 (.call 84 [.t 14,.t 17] .share)]) .ret) .skip)) (.seq (.seq (.aa [qM 19 1,qM 20 1,qN 21 20,qC 22 .sub 21 1,o 23 (.iR 20 (.t 19) none (some (.t 22)) none),qN 24 23,qZ 25 0]) (.block 0 (.loop (.seq (.aa [qB 26 .lss 25 24]) (.seq (.cond (.t 26) .skip (.exit 0)) (.seq (.block 1 (.seq (.aa [qI 27 20 23 25,qG 28 20 27,o 9 (.alloc zL1),qO 20 9 28]) (.seq (.aa [qM 29 0,o 30 (.call 85 [.t 29] .share),qM 10 30]) (.seq (.aa [qM 31 0,qG 32 20 9,qM 33 2,qM 34 10,o 35 (.call 86 [.t 31,.t 32,.t 33,.t 34] .share)]) (.aa [qM 36 10,qM 2 36]))))) (.aa [qC 37 .add 25 1,qM 25 37]))))))) (.aa [qM 38 0,qM 39 1,qM 40 1,qN 41 40,qC 42 .sub 41 1,qI 43 20 39 42,qG 44 20 43,qM 45 2,qM 46 3,o 47 (.call 86 [.t 38,.t 44,.t 45,.t 46] .share)])))⟩
def N4:aq:=⟨1,11,[],(.seq (.aa [qM 3 0,qN 4 3,qM 2 4]) (.aa [qM 5 0,qM 6 2,qM 7 2,o 8 (.conv .u64 (.t 7)),qK 9 88 [8],o 10 (.call 87 [.t 5,(i64 0),.t 6,.t 9] .share)]))⟩
def Ik:aq:=⟨3,77,[.cell 6 (some 4),.cell 7 (some 4)],(.seq (.aa [o 3 (.box (.t 0)),o 4 (.box (.t 1)),o 5 (.box (.t 2)),o 6 (.alloc [.ak,.ak,.ak,.ak]),o 7 (.alloc [.bool false,zi,zi,zi])]) (.seq (.aa [qG 13 4 4,o 14 (.call 33 [.t 13] .share),qO 4 4 14]) (.seq (.seq (.aa [qF 15 0 5,qL 16 15,qC 17 .lss 16 0,qM 18 17,qFF 19 18 0 5,qLF 20 18 19,qFF 21 18 1 3,qLF 22 18 21,qNF 23 18 22,qBF 24 18 .geq 20 23,qP 25 18 24]) (.cond (.t 25) (.seq (.aa [qG 26 4 4,o 27 (.build [.bool false,zi,zi,zi] []),qO 4 6 26,qO 4 7 27]) .ret) .skip)) (.seq (.aa [qF 28 1 3,qL 29 28,qF 30 0 5,qL 31 30,qI 32 3 29 31,qG 33 3 32,o 8 (.alloc [zi,.ak,.ak]),qO 3 8 33]) (.seq (.aT [qG 34 3 8,qF 35 0 4,qL 36 35,qF 37 0 5,qL 38 37,qI 39 1 36 38,qL 40 39,qK 41 50 [34,40],qM 9 41] [[],[],[1],[],[3],[1,2,3,4],[1,2,3,4,5],(rg 7),(rg 8)] []) (.seq (.seq (.aa [qM 42 9,qN 43 42,qC 44 .eql 43 0]) (.cond (.t 44) (.seq (.aa [qG 45 4 4,o 46 (.build [.bool false,zi,zi,zi] []),qO 4 6 45,qO 4 7 46]) .ret) .skip)) (.seq (.aT [qG 47 3 3,qG 48 4 4,qG 49 3 5,qG 50 3 8,qM 51 9,qF 52 1 8,qL 53 52,qM 54 9,o 55 (.bL 1 (.t 54) (i64 0)),qL 56 55,qI 57 19 53 56,qG 58 19 57,qF 59 1 4,qL 60 59,qF 61 0 5,qL 62 61,qI 63 1 60 62,qL 64 63,o 65 (.build [.ak,.ak,.ak,.ak,.ak,.ak,.ak,zi,.bool false,zi,zi,.ak,.ak,.ak,zi,zi,zi,zi,zi,zi,zi,zi,zi,.ak,zi,zi,zi,zi,.ak,zi,zi,zi,.ak,.ak] [(0,3,.t 47),(3,4,.t 48),(7,3,.t 49),(10,3,.t 50),(13,1,.t 51),(14,19,.t 58),(33,1,.t 64)]),o 66 (.box (.t 65)),qM 10 66] [[],[],[],[],[],[],[5],[],[7],[7,8],[5,6,7,8,9],[5,6,7,8,9,10],[],[12],[],[14],[12,13,14,15],[12,13,14,15,16],(rg 18),(rg 19),(rg 20)] []) (.seq (.aa [qM 68 10,o 69 (.call 98 [.t 68] .share),qM 67 69,qE 70 0 67,qE 71 1 67,o 11 (.alloc [.bool false,zi,zi,zi]),qO 4 11 70,qM 12 71]) (.seq (.aT [qM 72 10,qX 73 72,qF 74 3 73,qG 75 4 74,qG 76 4 11,qO 4 6 75,qO 4 7 76] [[],[0],[0,1],[0,1,2],[],(rg 4),(rg 6)] [(4,5)]) .ret)))))))))⟩
def N3:aq:=⟨1,25,[.cell 2 (some 2)],(.seq (.aa [o 1 (.box (.t 0)),o 2 (.alloc [.ak,.ak])]) (.seq (.aa [qF 6 0 1,qL 7 6,o 8 (.build [.ak,.ak] [(0,1,.t 7)]),o 3 (.alloc [.ak,.ak]),qO 2 3 8]) (.seq (.seq (.aa [qF 9 2 1,qL 10 9,qN 11 10,qZ 12 0]) (.block 0 (.loop (.seq (.aa [qB 13 .lss 12 11]) (.seq (.cond (.t 13) .skip (.exit 0)) (.seq (.block 1 (.seq (.aa [qI 14 1 10 12,qL 15 14,qM 5 15]) (.aa [qF 16 1 3,qL 17 16,qM 18 5,o 19 (.build [zi,.ak] [(0,1,.t 18)]),oZ 20 (.aQ 1 [zi,.ak] [(0,2,.t 19)]),qA 21 2 32 17 20,qF 22 1 3,qO 1 22 21]))) (.aa [qC 23 .add 12 1,qM 12 23]))))))) (.seq (.aa [qG 24 2 3,qO 2 2 24]) .ret))))⟩
def N2:aq:=⟨3,56,[.tmp 6],(.seq (.aa [o 3 (.box (.t 0)),o 5 (.box (.t 2)),qY 6 false]) (.seq (.seq (.aa [qF 10 0 5,qL 11 10,qC 12 .lss 11 2,qM 13 12,qFF 14 13 0 5,qLF 15 13 14,qCF 16 13 .gtr 15 802,qP 17 13 16,qM 18 17,qFF 19 18 1 5,qLF 20 18 19,qNF 21 18 20,qCF 22 18 .gtr 21 400,qP 23 18 22,qM 24 23,qGF 25 24 3 5,qKF 26 24 99 [25],qUF 27 24 26,qP 28 24 27]) (.cond (.t 28) (.seq (.aa [qY 6 false]) .ret) .skip)) (.seq (.seq (.aa [qF 29 1 5,qL 30 29,qN 31 30,qZ 32 0]) (.block 0 (.loop (.seq (.aa [qB 33 .lss 32 31]) (.seq (.cond (.t 33) .skip (.exit 0)) (.seq (.block 1 (.seq (.aa [qI 34 19 30 32,qG 35 19 34,o 8 (.alloc zL2),qO 19 8 35]) (.seq (.aa [qG 36 2 3,qM 37 1,qG 38 3 5,qG 39 19 8,qK 40 100 [36,37,38,39],qU 41 40]) (.cond (.t 41) (.seq (.aa [qY 6 false]) .ret) .skip)))) (.aa [qC 42 .add 32 1,qM 32 42]))))))) (.seq (.seq (.aa [qF 43 0 5,qL 44 43,qZ 45 0]) (.block 2 (.loop (.seq (.aa [qB 46 .lss 45 44]) (.seq (.cond (.t 46) .skip (.exit 2)) (.seq (.block 3 (.seq (.aa [qM 47 45,qM 9 47]) (.seq (.aa [qG 48 3 5,qM 49 9,qK 50 101 [48,49],qU 51 50]) (.cond (.t 51) (.seq (.aa [qY 6 false]) .ret) .skip)))) (.aa [qC 52 .add 45 1,qM 45 52]))))))) (.seq (.aa [qG 53 3 5,qK 54 102 [53],qU 55 54,qM 6 55]) .ret)))))⟩
def NF:cm:=qs [o 2 (.box (.t 0)),o 3 (.box (.t 1)),qY 4 false] (.seq (.aT [qF 7 1 2,qL 8 7,qN 9 8,qF 10 0 2,qL 11 10,qN 12 11,qM 5 9,qM 6 12] [[],[0],[0,1],[],[3],[3,4],[0,1,2],(rg 7)] []) (qs [qF 13 0 3,qL 14 13,qN 15 14,qM 16 5,qB 17 .eql 15 16,qM 18 17,qFT 19 18 1 3,qLT 20 18 19,qNT 21 18 20,qMT 22 18 5,qBT 23 18 .eql 21 22,qQ 24 18 23,qM 25 24,qFT 26 25 2 3,qLT 27 25 26,qNT 28 25 27,qMT 29 25 6,qBT 30 25 .eql 28 29,qQ 31 25 30,qM 32 31,qFT 33 32 3 3,qLT 34 32 33,qNT 35 32 34,qMT 36 32 6,qBT 37 32 .eql 35 36,qQ 38 32 37,qM 4 38] .ret))
def Nr:aq:=⟨2,39,[.tmp 4],NF.code⟩
def IQ:cm:=qs [qY 4 false] (qs [qM 5 0,qC 6 .geq 5 0,qM 7 6,qMT 8 7 0,qMT 9 7 1,qBT 10 7 .lss 8 9,qQ 11 7 10,qM 4 11] .ret)
def Nq:aq:=⟨2,12,[.tmp 4],IQ.code⟩
def IP:cm:=qs [qY 2 false] (qs [qM 3 0,o 4 (.bin .geq (.t 3) (i64 (-2147483648))),qM 5 4,qMT 6 5 0,qCT 7 5 .leq 6 2147483647,qQ 8 5 7,qM 2 8] .ret)
def Np:aq:=⟨1,9,[.tmp 2],IP.code⟩
def IN:cm:=qs [o 2 (.box (.t 0)),qY 4 false] (.seq (qs [qM 7 1,qN 8 7,qZ 9 0] (.block 0 (.loop [.ob 2 [],.tr 1,.pt 2 2 0,.tr 7,.tr 8,.tr 9] (qs [qB 10 .lss 9 8] (.seq (.cond (.t 10) .skip (.exit 0)) (.seq (.block 1 (qs [qI 11 2 7 9,qG 12 2 11,o 6 (.alloc [zi,zi]),qO 2 6 12] (qs [qF 13 0 6,qL 14 13,qF 15 4 2,qL 16 15,qK 17 77 [14,16],qU 18 17,qM 19 18,qFF 20 19 1 6,qLF 21 19 20,qKF 22 19 78 [21],qUF 23 19 22,qP 24 19 23] (.cond (.t 24) (qs [qY 4 false] .ret) .skip)))) (.aa [qC 25 .add 9 1,qM 9 25]))))))) (qs [qM 26 1,qN 27 26,qF 28 1 2,qL 29 28,qB 30 .leq 27 29,qM 4 30] .ret))
def No:aq:=⟨2,31,[.tmp 4],IN.code⟩
def Lq:cm:=qs [o 2 (.box (.t 0)),qZ 4 0,qZ 5 0] (qs [qF 10 3 2,qL 11 10,o 12 (.bL 4 (.t 11) (i64 0)),qG 13 4 12,qM 14 1,qK 15 35 [13,14],qM 9 15,qE 16 0 9,qE 17 1 9,qM 6 16,qM 7 17] (.seq (qs [qM 18 7,qC 19 .neq 18 0] (.cond (.t 19) (qs [qM 20 7,qZ 4 0,qM 5 20] .ret) .skip)) (qs [qF 22 3 2,qL 23 22,o 24 (.bL 4 (.t 23) (i64 1)),qG 25 4 24,qM 26 1,qK 27 35 [25,26],qM 21 27,qE 28 0 21,qE 29 1 21,qM 8 28,qM 7 29] (.seq (qs [qM 30 7,qC 31 .neq 30 0] (.cond (.t 31) (qs [qM 32 7,qZ 4 0,qM 5 32] .ret) .skip)) (qs [qF 33 0 2,qL 34 33,qM 35 6,qM 36 8,qK 37 103 [34,35,36],qE 38 0 37,qE 39 1 37,qM 4 38,qM 5 39] .ret)))))
def N1:aq:=⟨2,40,[.tmp 4,.tmp 5],Lq.code⟩
def N0:aq:=⟨3,15,[.tmp 6],(.seq (.aa [qY 6 false]) (.seq (.aa [qM 7 0,qM 8 1,qB 9 .geq 7 8,qM 10 9,qMT 11 10 0,qMT 12 10 2,qBT 13 10 .leq 11 12,qQ 14 10 13,qM 6 14]) .ret))⟩
def NZ:aq:=⟨2,45,[.tmp 4],(.seq (.aa [o 2 (.box (.t 0)),qY 4 false]) (.seq (.aa [qF 6 0 2,qL 7 6,o 8 (.call 81 [.t 7,(i64 0),(i64 2)] .borrow),qM 9 8,qFT 10 9 1 2,qLT 11 9 10,oT 12 9 (.call 81 [.t 11,(i64 1),(i64 16)] .borrow),qQ 13 9 12,qM 14 13,qFT 15 14 4 2,qLT 16 14 15,oT 17 14 (.call 81 [.t 16,(i64 1),(i64 4)] .borrow),qQ 18 14 17,qM 5 18]) (.seq (.aa [qM 19 5,qM 20 19,qFT 21 20 2 2,qLT 22 20 21,qMT 23 20 1,qCT 24 20 .sub 23 1,oT 25 20 (.call 81 [.t 22,(i64 0),.t 24] .borrow),qQ 26 20 25,qM 27 26,qFT 28 27 3 2,qLT 29 27 28,qMT 30 27 1,qCT 31 27 .sub 30 1,oT 32 27 (.call 81 [.t 29,(i64 0),.t 31] .borrow),qQ 33 27 32,qM 34 33,qFT 35 34 2 2,qLT 36 34 35,qFT 37 34 3 2,qLT 38 34 37,qBT 39 34 .neq 36 38,qQ 40 34 39,qM 41 40,qGT 42 41 6 2,qKT 43 41 104 [42],qQ 44 41 43,qM 4 44]) .ret)))⟩
def NY:aq:=⟨2,18,[.tmp 4],(.seq (.aa [o 2 (.box (.t 0)),qY 4 false]) (.seq (.seq (.aa [qM 7 1,qN 8 7,qZ 9 0]) (.block 0 (.loop (.seq (.aa [qB 10 .lss 9 8]) (.seq (.cond (.t 10) .skip (.exit 0)) (.seq (.block 1 (.seq (.aa [qI 11 20 7 9,qG 12 20 11,o 6 (.alloc zL1),qO 20 6 12]) (.seq (.aa [qG 13 4 2,qG 14 20 6,qK 15 105 [13,14],qU 16 15]) (.cond (.t 16) (.seq (.aa [qY 4 false]) .ret) .skip)))) (.aa [qC 17 .add 9 1,qM 9 17]))))))) (.seq (.aa [qY 4 true]) .ret)))⟩
def NX:aq:=⟨2,14,[],(.seq (.aa [o 3 (.box (.t 1))]) (.aT [qM 4 0,qM 5 0,qX 6 5,qF 7 1 6,qL 8 7,qG 9 19 3,oZ 10 (.aQ 1 zL2 [(0,19,.t 9)]),qA 11 19 200 8 10,qX 12 4,qF 13 1 12,qO 1 13 11] [[],[],[1],[1,2],[1,2,3],[],[5],[1,2,3,4,5,6],(rg 8),(rg 9),(rg 10)] [(4,6)]))⟩
def NW:aq:=⟨1,15,[.tmp 2],(.seq (.aa [qZ 2 0]) (.seq (.aa [qM 3 0,qX 4 3,qF 5 0 4,qL 6 5,qC 7 .add 6 1,qX 8 3,qF 9 0 8,qO 1 9 7]) (.seq (.aa [qM 10 0,qX 11 10,qF 12 0 11,qL 13 12,qC 14 .sub 13 1,qM 2 14]) .ret)))⟩
def NV:aq:=⟨4,89,[],(.seq (.aa [o 5 (.box (.t 1))]) (.seq (.aa [qF 8 0 5,qL 9 8]) (.block 0 (.seq (.aa [qC 11 .eql 9 1,qM 10 11]) (.cond (.t 10) (.aT [qM 12 0,qM 13 2,qM 14 3,qF 15 1 5,qL 16 15,qF 17 4 5,qG 18 4 17,qK 19 106 [18],o 20 (.build zL2 [(0,1,.t 13),(1,1,.t 14),(2,1,(i64 1)),(3,1,.t 16),(6,4,.t 19)]),o 21 (.call 84 [.t 12,.t 20] .share)] [[],[],[],[],[3],[],[5],[5,6],[1,2,3,4,5,6,7],(rg 9)] []) (.seq (.aa [qC 23 .eql 9 4,qM 22 23]) (.cond (.t 22) (.aT [qM 24 0,qM 25 2,qM 26 3,qF 27 2 5,qL 28 27,qF 29 3 5,qL 30 29,qF 31 4 5,qG 32 4 31,qK 33 106 [32],o 34 (.build zL2 [(0,1,.t 25),(1,1,.t 26),(2,1,(i64 3)),(4,1,.t 28),(5,1,.t 30),(6,4,.t 33)]),o 35 (.call 84 [.t 24,.t 34] .share)] [[],[],[],[],[3],[],[5],[],[7],[7,8],[1,2,3,4,5,6,7,8,9],(rg 11)] []) (.seq (.aa [qC 37 .eql 9 6,qM 36 37]) (.cond (.t 36) (.aa [qM 38 0,qM 39 2,qM 40 3,qF 41 8 5,qG 42 9 41,qK 43 107 [42],o 44 (.build zL2 [(0,1,.t 39),(1,1,.t 40),(2,1,(i64 5)),(10,9,.t 43)]),o 45 (.call 84 [.t 38,.t 44] .share)]) (.seq (.aa [qC 47 .eql 9 7,qM 46 47]) (.cond (.t 46) (.aa [qM 48 0,qM 49 2,qM 50 3,qF 51 1 5,qL 52 51,o 53 (.build zL2 [(0,1,.t 49),(1,1,.t 50),(2,1,(i64 6)),(3,1,.t 52)]),o 54 (.call 84 [.t 48,.t 53] .share)]) (.seq (.aa [qC 56 .eql 9 2,qM 55 56]) (.cond (.t 55) (.seq (.aT [qM 57 0,qF 58 8 5,qG 59 9 58,qK 60 107 [59],qF 61 17 5,qL 62 61,qM 63 2,qM 64 3,o 65 (.call 108 [.t 57,.t 60,.t 62,.t 63,.t 64] .share)] [[],[],[1],[1,2],[],[4],[],[],(rg 8)] []) (.aT [qM 66 0,qF 67 8 5,qG 68 9 67,qK 69 109 [68],qF 70 18 5,qL 71 70,qM 72 2,qM 73 3,o 74 (.call 108 [.t 66,.t 69,.t 71,.t 72,.t 73] .share)] [[],[],[1],[1,2],[],[4],[],[],(rg 8)] [])) (.seq (.aa [qC 76 .eql 9 3,qM 75 76]) (.cond (.t 75) (.aa [qM 77 0,qG 78 20 5,qM 79 2,qM 80 3,o 81 (.call 110 [.t 77,.t 78,.t 79,.t 80] .share)]) (.seq (.aa [qC 83 .eql 9 5,qM 82 83]) (.cond (.t 82) (.aa [qM 84 0,qG 85 20 5,qM 86 2,qM 87 3,o 88 (.call 111 [.t 84,.t 85,.t 86,.t 87] .share)]) .skip)))))))))))))))))⟩
def NU:aq:=⟨4,134,[],(.seq (.aa [qY 8 true]) (.seq (.aa [qY 9 true]) (.block 0 (.loop (.block 1 (.seq (.aa [qM 19 2,qM 20 1,qB 21 .sub 19 20,qM 10 21]) (.seq (.seq (.aa [qM 22 10,qC 23 .leq 22 12]) (.cond (.t 23) (.seq (.aa [qM 24 0,qM 25 1,qM 26 2,o 27 (.call 112 [.t 24,.t 25,.t 26] .share)]) .ret) .skip)) (.seq (.seq (.aa [qM 28 3,qC 29 .eql 28 0]) (.cond (.t 29) (.seq (.aa [qM 30 0,qM 31 1,qM 32 2,o 33 (.call 113 [.t 30,.t 31,.t 32] .share)]) .ret) .skip)) (.seq (.seq (.aa [qM 34 8,qU 35 34]) (.cond (.t 35) (.seq (.aa [qM 36 0,qM 37 1,qM 38 2,o 39 (.call 114 [.t 36,.t 37,.t 38] .share)]) (.aa [qM 40 3,qC 41 .sub 40 1,qM 3 41])) .skip)) (.seq (.aa [qM 43 0,qM 44 1,qM 45 2,o 46 (.call 115 [.t 43,.t 44,.t 45] .share),qM 42 46,qE 47 0 42,qE 48 1 42,qM 11 47,qM 12 48]) (.seq (.seq (.aa [qM 49 12,qC 50 .eql 49 2]) (.cond (.t 50) (.seq (.aa [qM 51 0,qM 52 1,qM 53 2,o 54 (.call 116 [.t 51,.t 52,.t 53] .share)]) (.seq (.aa [qM 55 2,qC 56 .sub 55 1,qM 57 11,qM 58 1,qB 59 .sub 57 58,qB 60 .sub 56 59,qM 11 60]) (.aa [qZ 12 1]))) .skip)) (.seq (.seq (.aa [qM 61 8,qM 62 61,qMT 63 62 9,qQ 64 62 63,qM 65 64,qMT 66 65 12,qCT 67 65 .eql 66 1,qQ 68 65 67]) (.cond (.t 68) (.seq (.aa [qM 69 0,qM 70 1,qM 71 2,o 72 (.call 117 [.t 69,.t 70,.t 71] .share)]) (.cond (.t 72) .ret .skip)) .skip)) (.seq (.seq (.aT [qM 73 1,qC 74 .gtr 73 0,qM 75 74,qMT 76 75 0,qMT 77 75 1,qCT 78 75 .sub 77 1,qIT 79 75 1 76 78,qLT 80 75 79,qMT 81 75 0,qMT 82 75 11,qIT 83 75 1 81 82,qLT 84 75 83,qKT 85 75 118 [80,84],qUT 86 75 85,qQ 87 75 86] [[],[0],[0,1],[0,1,2],[0,1,2],[0,1,2,4],(rg 6),(rg 7),[0,1,2],[0,1,2],[0,1,2,8,9],[0,1,2,8,9,10],(rg 12),(rg 13),(rg 14)] []) (.cond (.t 87) (.seq (.aa [qM 88 0,qM 89 1,qM 90 2,qM 91 11,o 92 (.call 119 [.t 88,.t 89,.t 90,.t 91] .share),qM 13 92]) (.seq (.aa [qM 93 13,qM 1 93]) (.exit 1))) .skip)) (.seq (.aa [qM 95 0,qM 96 1,qM 97 2,qM 98 11,o 99 (.call 120 [.t 95,.t 96,.t 97,.t 98] .share),qM 94 99,qE 100 0 94,qE 101 1 94,qM 14 100,qM 15 101]) (.seq (.aa [qM 102 15,qM 9 102]) (.seq (.aa [qM 103 14,qM 104 1,qB 105 .sub 103 104,qM 106 2,qM 107 14,qB 108 .sub 106 107,qM 16 105,qM 17 108]) (.seq (.aa [qM 109 10,qC 110 .quo 109 8,qM 18 110]) (.seq (.aa [qM 111 16,qM 112 17,qB 113 .lss 111 112]) (.cond (.t 113) (.seq (.aa [qM 114 16,qM 115 18,qB 116 .geq 114 115,qM 8 116]) (.seq (.aa [qM 117 0,qM 118 1,qM 119 14,qM 120 3,o 121 (.call 87 [.t 117,.t 118,.t 119,.t 120] .share)]) (.aa [qM 122 14,qC 123 .add 122 1,qM 1 123]))) (.seq (.aa [qM 124 17,qM 125 18,qB 126 .geq 124 125,qM 8 126]) (.seq (.aa [qM 127 0,qM 128 14,qC 129 .add 128 1,qM 130 2,qM 131 3,o 132 (.call 87 [.t 127,.t 129,.t 130,.t 131] .share)]) (.aa [qM 133 14,qM 2 133]))))))))))))))))))))))⟩
def NT:aq:=⟨1,8,[.tmp 2],(.seq (.aa [qZ 2 0]) (.seq (.cond (.c (.bool false)) (.seq (.aa [qM 3 0,o 4 (.conv .u32 (.t 3)),qK 5 121 [4],qM 2 5]) .ret) .skip) (.seq (.aa [qM 6 0,qK 7 122 [6],qM 2 7]) .ret)))⟩
def Ij:aq:=⟨1,67,[.cell 2 (some 4),.tmp 3],(.seq (.aa [o 2 (.alloc [.bool false,zi,zi,zi]),qY 3 false]) (.seq (.seq (.aa [qM 4 0,qX 5 4,qF 6 14 5,qF 7 2 6,qL 8 7]) (.block 0 (.seq (.aa [qC 10 .eql 8 1,qM 9 10]) (.cond (.t 9) (.seq (.aa [qM 11 0,o 12 (.call 130 [.t 11] .share),qE 13 0 12,qE 14 1 12,qO 4 2 13,qM 3 14]) .ret) (.seq (.aa [qC 16 .eql 8 2,qM 15 16]) (.cond (.t 15) (.seq (.aa [qM 17 0,o 18 (.call 131 [.t 17] .share),qE 19 0 18,qE 20 1 18,qO 4 2 19,qM 3 20]) .ret) (.seq (.aa [qC 22 .eql 8 5,qM 21 22]) (.cond (.t 21) (.seq (.aa [qM 23 0,o 24 (.call 132 [.t 23] .share),qE 25 0 24,qE 26 1 24,qO 4 2 25,qM 3 26]) .ret) (.seq (.aa [qC 28 .eql 8 3,qM 27 28]) (.cond (.t 27) (.seq (.aa [qM 29 0,o 30 (.call 133 [.t 29] .share),qE 31 0 30,qE 32 1 30,qO 4 2 31,qM 3 32]) .ret) (.seq (.aa [qC 34 .eql 8 4,qM 33 34]) (.cond (.t 33) (.seq (.aa [qM 35 0,o 36 (.call 134 [.t 35] .share),qE 37 0 36,qE 38 1 36,qO 4 2 37,qM 3 38]) .ret) (.seq (.aa [qC 40 .eql 8 6,qM 39 40]) (.cond (.t 39) (.aT [qM 41 0,qX 42 41,qF 43 33 42,qL 44 43,qM 45 0,qX 46 45,qF 47 14 46,qF 48 3 47,qL 49 48,qM 50 0,qX 51 50,qF 52 7 51,qF 53 2 52,qL 54 53,o 55 (.conv .i32 (.t 54)),o 56 (.conv .i64 (.t 55)),qI 57 1 44 49,qO 1 57 56] [[],[0],[0,1],[0,1,2],[],[4],[4,5],[4,5,6],[4,5,6,7],[],[9],[9,10],[9,10,11],[9,10,11,12],[9,10,11,12,13],[9,10,11,12,13,14],(rg 16),(rg 17)] []) .skip)))))))))))))) (.seq (.aa [qM 58 0,qM 59 0,qX 60 59,qF 61 14 60,qF 62 1 61,qL 63 62,o 64 (.call 135 [.t 58,.t 63] .share),qE 65 0 64,qE 66 1 64,qO 4 2 65,qM 3 66]) .ret)))⟩
def NS:aq:=⟨1,36,[.tmp 2],(.seq (.aa [o 1 (.box (.t 0)),qY 2 false]) (.seq (.seq (.aa [qF 5 2 1,qL 6 5,qN 7 6,qZ 8 0]) (.block 0 (.loop (.seq (.aa [qB 9 .lss 8 7]) (.seq (.cond (.t 9) .skip (.exit 0)) (.seq (.block 1 (.seq (.aa [qM 10 8,qI 11 1 6 8,qL 12 11,qM 3 10,qM 4 12]) (.seq (.aa [qM 13 4,qC 14 .lss 13 0,qM 15 14,qMF 16 15 4,qFF 17 15 0 1,qLF 18 15 17,qBF 19 15 .geq 16 18,qP 20 15 19,qM 21 20,qMF 22 21 3,qCF 23 21 .gtr 22 0,qMF 24 21 23,qFT 25 24 2 1,qLT 26 24 25,qMT 27 24 3,qCT 28 24 .sub 27 1,qIT 29 24 1 26 28,qLT 30 24 29,qMT 31 24 4,qBT 32 24 .geq 30 31,qQF 33 21 24 32,qP 34 21 33]) (.cond (.t 34) (.seq (.aa [qY 2 false]) .ret) .skip)))) (.aa [qC 35 .add 8 1,qM 8 35]))))))) (.seq (.aa [qY 2 true]) .ret)))⟩
def Lg:aq:=⟨4,67,[.tmp 8],(.seq (.aa [o 4 (.box (.t 0)),o 6 (.box (.t 2)),o 7 (.box (.t 3)),qY 8 false]) (.seq (.seq (.aa [qF 12 0 7,qL 13 12,qC 14 .lss 13 0,qM 15 14,qFF 16 15 0 7,qLF 17 15 16,qFF 18 15 0 6,qLF 19 15 18,qBF 20 15 .geq 17 19,qP 21 15 20,qM 22 21,qFF 23 22 1 7,qLF 24 22 23,qCF 25 22 .lss 24 0,qP 26 22 25,qM 27 26,qFF 28 27 1 7,qLF 29 27 28,qFF 30 27 0 6,qLF 31 27 30,qBF 32 27 .geq 29 31,qP 33 27 32]) (.cond (.t 33) (.seq (.aa [qY 8 false]) .ret) .skip)) (.seq (.aa [qG 35 19 7,qK 36 136 [35],qM 34 36,qE 37 0 34,qE 38 1 34,qM 9 37,qM 10 38]) (.seq (.seq (.aa [qM 39 10,qU 40 39]) (.cond (.t 40) (.seq (.aa [qY 8 false]) .ret) .skip)) (.seq (.aa [qF 41 1 4,qL 42 41,o 43 (.call 137 [.t 42] .share),qM 11 43]) (.seq (.aa [qM 44 11,qM 45 1,qM 46 9,qI 47 2 44 45,qF 48 1 47,qO 1 48 46]) (.seq (.seq (.aa [qF 49 2 7,qL 50 49,qC 51 .eql 50 0]) (.cond (.t 51) (.aa [qM 52 11,qM 53 1,qM 54 11,qM 55 1,qI 56 2 54 55,qF 57 0 56,qL 58 57,o 59 (.yw true [.t 58,(i64 1)]),qI 60 2 52 53,qF 61 0 60,qO 1 61 59]) .skip)) (.seq (.aa [qF 62 0 4,qL 63 62,qM 64 11,o 65 (.build [.ak,.ak] [(0,1,.t 63),(1,1,.t 64)]),qK 66 60 [65],qM 8 66]) .ret))))))))⟩
def Lf:aq:=⟨2,63,[.tmp 4],(.seq (.aa [o 2 (.box (.t 0)),qY 4 false]) (.seq (.aa [o 5 (.mv (.c (.ak)))]) (.seq (.seq (.aa [qG 8 3 2,qM 9 1,qK 10 50 [8,9],qN 11 10,qZ 12 0]) (.block 0 (.loop (.seq (.aa [qB 13 .lss 12 11]) (.seq (.cond (.t 13) .skip (.exit 0)) (.seq (.block 1 (.seq (.aa [qI 14 1 10 12,qL 15 14,qM 7 15]) (.aa [qM 16 5,qF 17 1 2,qL 18 17,qM 19 7,qI 20 19 18 19,qG 21 19 20,oZ 22 (.aQ 1 zL2 [(0,19,.t 21)]),qA 23 19 200 16 22,qM 5 23]))) (.aa [qC 24 .add 12 1,qM 12 24]))))))) (.seq (.block 2 (.seq (.aa [qM 26 5,qN 27 26,qC 28 .eql 27 0,qM 25 28]) (.cond (.t 25) (.seq (.aa [qM 29 1,qC 30 .eql 29 1,qM 4 30]) .ret) (.seq (.aa [qM 32 1,qC 33 .eql 32 1,qM 31 33]) (.cond (.t 31) (.seq (.aa [qY 4 false]) .ret) (.seq (.aa [qM 35 5,o 36 (.bL 19 (.t 35) (i64 0)),qF 37 2 36,qL 38 37,qC 39 .eql 38 4,qM 34 39]) (.cond (.t 34) (.seq (.aa [qM 40 5,qK 41 138 [40],qM 4 41]) .ret) (.seq (.aa [qM 43 5,o 44 (.bL 19 (.t 43) (i64 0)),qF 45 2 44,qL 46 45,qC 47 .eql 46 2,qM 42 47]) (.cond (.t 42) (.seq (.aT [qM 48 5,qN 49 48,qC 50 .eql 49 2,qM 51 50,qMT 52 51 5,oT 53 51 (.bL 19 (.t 52) (i64 0)),qGT 54 51 19 53,qMT 55 51 5,oT 56 51 (.bL 19 (.t 55) (i64 1)),qGT 57 51 19 56,qKT 58 51 139 [54,57],qQ 59 51 58,qM 4 59] [[],[0],[0,1],[0,1,2],(rg 4),(rg 5),(rg 6),(rg 4),[0,1,2,3,7],[0,1,2,3,7,8],(rg 10),(rg 11),(rg 12)] []) .ret) .skip))))))))) (.seq (.aa [qM 60 5,qN 61 60,qC 62 .eql 61 1,qM 4 62]) .ret)))))⟩
def Le:aq:=⟨1,100,[.tmp 2],(.seq (.aa [o 1 (.box (.t 0)),qY 2 false]) (.seq (.aa [qF 14 0 1,qL 15 14,o 16 (.kG 1 8 [zi] (.t 15)),qM 3 16]) (.seq (.seq (.aa [qF 17 1 1,qL 18 17,qN 19 18,qZ 20 0]) (.block 0 (.loop (.seq (.aa [qB 21 .lss 20 19]) (.seq (.cond (.t 21) .skip (.exit 0)) (.seq (.block 1 (.seq (.aa [qI 22 19 18 20,qG 23 19 22,o 5 (.alloc zL2),qO 19 5 23]) (.seq (.aa [qF 24 2 1,qL 25 24,qF 26 0 5,qL 27 26,qK 28 140 [25,27],qU 29 28]) (.cond (.t 29) (.aa [qM 30 3,qF 31 1 5,qL 32 31,qI 33 1 30 32,qL 34 33,qC 35 .add 34 1,qI 36 1 30 32,qO 1 36 35]) .skip)))) (.aa [qC 37 .add 20 1,qM 20 37]))))))) (.seq (.aa [o 6 (.mv (.c (.ak)))]) (.seq (.aa [qZ 7 0]) (.seq (.seq (.aa [qM 38 3,qN 39 38,qZ 40 0]) (.block 2 (.loop (.seq (.aa [qB 41 .lss 40 39]) (.seq (.cond (.t 41) .skip (.exit 2)) (.seq (.block 3 (.seq (.aa [qM 42 40,qI 43 1 38 40,qL 44 43,qM 8 42,qM 9 44]) (.seq (.aa [qM 45 9,qC 46 .eql 45 0]) (.cond (.t 46) (.aa [qM 47 6,qM 48 8,o 49 (.aQ 1 [zi] [(0,1,.t 48)]),qA 50 1 8 47 49,qM 6 50]) .skip)))) (.aa [qC 51 .add 40 1,qM 40 51]))))))) (.seq (.block 4 (.loop (.seq (.seq (.aa [qM 52 6,qN 53 52,qC 54 .gtr 53 0]) (.cond (.t 54) .skip (.exit 4))) (.block 5 (.seq (.aa [qM 55 6,o 56 (.bL 1 (.t 55) (i64 0)),qL 57 56,qM 10 57]) (.seq (.aa [qM 58 6,o 59 (.iR 1 (.t 58) (some (i64 1)) none none),qM 6 59]) (.seq (.aa [qM 60 7,qC 61 .add 60 1,qM 7 61]) (.seq (.seq (.aa [qF 62 2 1,qL 63 62,qM 64 10,qK 65 140 [63,64]]) (.cond (.t 65) (.exit 5) .skip)) (.seq (.aa [qG 66 3 1,qM 67 10,qK 68 50 [66,67],qN 69 68,qZ 70 0]) (.block 6 (.loop (.seq (.aa [qB 71 .lss 70 69]) (.seq (.cond (.t 71) .skip (.exit 6)) (.seq (.block 7 (.seq (.aa [qI 72 1 68 70,qL 73 72,qM 12 73]) (.seq (.aa [qF 74 1 1,qL 75 74,qM 76 12,qI 77 19 75 76,qF 78 1 77,qL 79 78,qM 13 79]) (.seq (.aa [qM 80 3,qM 81 13,qI 82 1 80 81,qL 83 82,qC 84 .sub 83 1,qI 85 1 80 81,qO 1 85 84]) (.seq (.aa [qM 86 3,qM 87 13,qI 88 1 86 87,qL 89 88,qC 90 .eql 89 0]) (.cond (.t 90) (.aa [qM 91 6,qM 92 13,o 93 (.aQ 1 [zi] [(0,1,.t 92)]),qA 94 1 8 91 93,qM 6 94]) .skip)))))) (.aa [qC 95 .add 70 1,qM 70 95]))))))))))))))) (.seq (.aa [qM 96 7,qF 97 0 1,qL 98 97,qB 99 .lss 96 98,qM 2 99]) .ret))))))))⟩
def LJ:cm:=qs [qZ 6 0,qZ 7 0] (.seq (qs [qM 8 0] (.block 0 (qs [qC 10 .eql 8 4,qM 9 10] (.cond (.t 9) (qs [qM 11 1,qM 12 2,qB 13 .add 11 12,qM 6 13,qZ 7 0] .ret) (qs [qC 15 .eql 8 5,qM 14 15] (.cond (.t 14) (qs [qM 16 1,qM 17 2,qB 18 .sub 16 17,qM 6 18,qZ 7 0] .ret) (qs [qC 20 .eql 8 6,qM 19 20] (.cond (.t 19) (qs [qM 21 1,qM 22 2,qB 23 .mul 21 22,qM 6 23,qZ 7 0] .ret) .skip)))))))) (.seq (.block 1 (qs [qM 25 2,qC 26 .eql 25 0,qM 24 26] (.cond (.t 24) (qs [qZ 6 0,qZ 7 3] .ret) (qs [qM 28 0,qC 29 .eql 28 7,qM 27 29] (.cond (.t 27) (qs [qM 30 1,qM 31 2,qB 32 .quo 30 31,qM 6 32,qZ 7 0] .ret) .skip))))) (qs [qM 33 1,qM 34 2,qB 35 .rem 33 34,qM 6 35,qZ 7 0] .ret)))
def Ld:aq:=⟨3,36,[.tmp 6,.tmp 7],LJ.code⟩
def Lc:aq:=⟨1,60,[.tmp 2],(.seq (.aa [o 1 (.box (.t 0)),qY 2 false]) (.seq (.aa [qZ 3 0]) (.seq (.seq (.aa [qF 8 5 1,qL 9 8,qN 10 9,qZ 11 0]) (.block 0 (.loop (.seq (.aa [qB 12 .lss 11 10]) (.seq (.cond (.t 12) .skip (.exit 0)) (.seq (.block 1 (.seq (.aa [qM 13 11,qI 14 1 9 11,qL 15 14,qM 4 13,qM 5 15]) (.seq (.seq (.aa [qM 16 5,qN 17 16,qF 18 4 1,qL 19 18,qB 20 .neq 17 19]) (.cond (.t 20) (.seq (.aa [qY 2 false]) .ret) .skip)) (.seq (.aa [qM 21 5,qN 22 21,qZ 23 0]) (.block 2 (.loop (.seq (.aa [qB 24 .lss 23 22]) (.seq (.cond (.t 24) .skip (.exit 2)) (.seq (.block 3 (.seq (.aa [qI 25 1 21 23,qL 26 25,qM 7 26]) (.seq (.seq (.aa [qM 27 7,qF 28 5 1,qL 29 28,qN 30 29,qC 31 .sub 30 1,o 32 (.call 81 [.t 27,(i64 (-1)),.t 31] .borrow),qU 33 32]) (.cond (.t 33) (.seq (.aa [qY 2 false]) .ret) .skip)) (.seq (.aa [qM 34 7,o 35 (.bin .neq (.t 34) (i64 (-1)))]) (.cond (.t 35) (.aa [qM 36 3,qM 37 4,qM 38 7,o 39 (.yw true [.t 36,.t 37,.t 38]),qM 3 39]) .skip))))) (.aa [qC 40 .add 23 1,qM 23 40])))))))))) (.aa [qC 41 .add 11 1,qM 11 41]))))))) (.seq (.aa [qF 42 5 1,qL 43 42,qN 44 43,qC 45 .eql 44 0,qM 46 45,qMF 47 46 3,qFF 48 46 5 1,qLF 49 46 48,qNF 50 46 49,qCF 51 46 .sub 50 1,qBF 52 46 .eql 47 51,qMF 53 46 52,qFT 54 53 5 1,qLT 55 53 54,qNT 56 53 55,qCT 57 53 .leq 56 8,qQF 58 46 53 57,qP 59 46 58,qM 2 59]) .ret))))⟩
def Lb:aq:=⟨2,253,[.tmp 4],(.seq (.aa [o 2 (.box (.t 0)),o 3 (.box (.t 1)),qY 4 false]) (.seq (.aT [qF 12 4 3,qG 13 4 12,qK 14 141 [13],qF 15 8 3,qG 16 9 15,qK 17 142 [16],qM 5 14,qM 6 17] [[],[0],[0,1],[],[3],(rg 5),(rg 6),(rg 7)] []) (.seq (.aT [qF 18 17 3,qL 19 18,qN 20 19,qC 21 .eql 20 0,qF 22 19 3,qL 23 22,qN 24 23,qC 25 .eql 24 0,qM 7 21,qM 8 25] [[],[0],[0,1],[0,1,2],[],[4],[4,5],[4,5,6],(rg 4),(rg 9)] []) (.seq (.aT [qF 26 18 3,qL 27 26,qN 28 27,qC 29 .eql 28 0,qF 30 1 3,qL 31 30,qC 32 .eql 31 0,qM 9 29,qM 10 32] [[],[0],[0,1],[0,1,2],[],[4],[4,5],(rg 4),(rg 8)] []) (.seq (.aa [qF 33 2 3,qL 34 33,qC 35 .eql 34 0,qM 36 35,qFT 37 36 3 3,qLT 38 36 37,qCT 39 36 .eql 38 0,qQ 40 36 39,qM 11 40]) (.seq (.seq (.aa [qF 41 0 3,qL 42 41]) (.block 0 (.seq (.aa [qC 44 .eql 42 1,qM 43 44]) (.cond (.t 43) (.seq (.aa [qM 45 6,qM 46 45,qMT 47 46 7,qQ 48 46 47,qM 49 48,qMT 50 49 9,qQ 51 49 50,qM 52 51,qMT 53 52 8,qQ 54 52 53,qM 55 54,qMT 56 55 11,qQ 57 55 56,qM 58 57,qFT 59 58 1 3,qLT 60 58 59,qFT 61 58 3 2,qLT 62 58 61,qCT 63 58 .sub 62 1,oT 64 58 (.call 81 [.t 60,(i64 0),.t 63] .borrow),qQ 65 58 64,qM 66 65,qFT 67 66 4 3,qGT 68 66 4 67,qFT 69 66 3 2,qLT 70 66 69,qKT 71 66 143 [68,70],qQ 72 66 71,qM 4 72]) .ret) (.seq (.aa [qC 74 .eql 42 7,qM 73 74]) (.cond (.t 73) (.seq (.aa [qM 75 5,qM 76 75,qMT 77 76 6,qQ 78 76 77,qM 79 78,qMT 80 79 7,qQ 81 79 80,qM 82 81,qMT 83 82 9,qQ 84 82 83,qM 85 84,qMT 86 85 8,qQ 87 85 86,qM 88 87,qMT 89 88 11,qQ 90 88 89,qM 91 90,qFT 92 91 1 3,qLT 93 91 92,qFT 94 91 3 2,qLT 95 91 94,qCT 96 91 .sub 95 1,oT 97 91 (.call 81 [.t 93,(i64 0),.t 96] .borrow),qQ 98 91 97,qM 4 98]) .ret) (.seq (.aa [qC 100 .eql 42 6,qM 99 100]) (.cond (.t 99) (.seq (.aa [qM 101 5,qM 102 101,qMT 103 102 7,qQ 104 102 103,qM 105 104,qMT 106 105 9,qQ 107 105 106,qM 108 107,qMT 109 108 8,qQ 110 108 109,qM 111 110,qMT 112 111 11,qQ 113 111 112,qM 114 113,qMT 115 114 10,qQ 116 114 115,qM 117 116,qFT 118 117 8 3,qGT 119 117 9 118,qFT 120 117 3 2,qLT 121 117 120,qKT 122 117 144 [119,121],qQ 123 117 122,qM 4 123]) .ret) (.seq (.aa [qC 125 .eql 42 3,qM 124 125]) (.cond (.t 124) (.seq (.aa [qM 126 5,qM 127 126,qMT 128 127 9,qQ 129 127 128,qM 130 129,qMT 131 130 8,qQ 132 130 131,qM 133 132,qMT 134 133 11,qQ 135 133 134,qM 136 135,qMT 137 136 10,qQ 138 136 137,qM 139 138,qFT 140 139 8 3,qGT 141 139 9 140,qFT 142 139 3 2,qLT 143 139 142,qKT 144 139 144 [141,143],qQ 145 139 144,qM 146 145,qGT 147 146 4 2,qFT 148 146 17 3,qLT 149 146 148,qKT 150 146 83 [147,149],qQ 151 146 150,qM 4 151]) .ret) (.seq (.aa [qC 153 .eql 42 2,qM 152 153]) (.cond (.t 152) (.seq (.aa [qM 154 5,qM 155 154,qMT 156 155 8,qQ 157 155 156,qM 158 157,qMT 159 158 11,qQ 160 158 159,qM 161 160,qMT 162 161 10,qQ 163 161 162,qM 164 163,qFT 165 164 8 3,qGT 166 164 9 165,qFT 167 164 3 2,qLT 168 164 167,qKT 169 164 144 [166,168],qQ 170 164 169,qM 171 170,qGT 172 171 4 2,qFT 173 171 17 3,qLT 174 171 173,qKT 175 171 83 [172,174],qQ 176 171 175,qM 177 176,qGT 178 177 4 2,qFT 179 177 18 3,qLT 180 177 179,qKT 181 177 83 [178,180],qQ 182 177 181,qM 4 182]) .ret) (.seq (.aa [qC 184 .eql 42 4,qM 183 184]) (.cond (.t 183) (.seq (.aa [qM 185 6,qM 186 185,qMT 187 186 7,qQ 188 186 187,qM 189 188,qMT 190 189 9,qQ 191 189 190,qM 192 191,qMT 193 192 8,qQ 194 192 193,qM 195 194,qMT 196 195 10,qQ 197 195 196,qM 198 197,qGT 199 198 4 2,qFT 200 198 2 3,qLT 201 198 200,oT 202 198 (.call 145 [.t 199,.t 201,(.c (.func 146))] .borrow),qQ 203 198 202,qM 204 203,qGT 205 204 4 2,qFT 206 204 2 3,qLT 207 204 206,qFT 208 204 3 3,qLT 209 204 208,qKT 210 204 147 [205,207,209],qQ 211 204 210,qM 212 211,qFT 213 212 4 3,qGT 214 212 4 213,qFT 215 212 3 2,qLT 216 212 215,qKT 217 212 143 [214,216],qQ 218 212 217,qM 4 218]) .ret) (.seq (.aa [qC 220 .eql 42 5,qM 219 220]) (.cond (.t 219) (.seq (.aa [qM 221 5,qM 222 221,qMT 223 222 6,qQ 224 222 223,qM 225 224,qMT 226 225 7,qQ 227 225 226,qM 228 227,qMT 229 228 9,qQ 230 228 229,qM 231 230,qMT 232 231 10,qQ 233 231 232,qM 234 233,qFT 235 234 3 3,qLT 236 234 235,qCT 237 234 .eql 236 0,qQ 238 234 237,qM 239 238,qGT 240 239 4 2,qFT 241 239 2 3,qLT 242 239 241,oT 243 239 (.call 145 [.t 240,.t 242,(.c (.func 148))] .borrow),qQ 244 239 243,qM 245 244,qGT 246 245 4 2,qFT 247 245 2 3,qLT 248 245 247,qFT 249 245 19 3,qLT 250 245 249,qKT 251 245 149 [246,248,250],qQ 252 245 251,qM 4 252]) .ret) .skip)))))))))))))))) (.seq (.aa [qY 4 false]) .ret)))))))⟩
def La:aq:=⟨1,24,[.cell 2 (some 4)],(.seq (.aa [o 1 (.box (.t 0)),o 2 (.alloc [zi,zi,zi,.ak])]) (.seq (.aa [qF 6 3 1,qL 7 6,qM 3 7]) (.seq (.aa [qF 8 3 1,oN (.store 1 (.t 8) (.c (.ak)))]) (.seq (.seq (.aa [qM 9 3,qN 10 9,qZ 11 0]) (.block 0 (.loop (.seq (.aa [qB 12 .lss 11 10]) (.seq (.cond (.t 12) .skip (.exit 0)) (.seq (.block 1 (.seq (.aa [qI 13 4 9 11,qG 14 4 13,o 5 (.alloc [zi,zi,zi,.ak]),qO 4 5 14]) (.aT [qF 15 3 1,qL 16 15,qG 17 4 5,qK 18 106 [17],oZ 19 (.aQ 1 [zi,zi,zi,.ak] [(0,4,.t 18)]),qA 20 4 48 16 19,qF 21 3 1,qO 1 21 20] [[],[0],[],[2],[2,3],(rg 5),(rg 6),(rg 7)] [(1,4)]))) (.aa [qC 22 .add 11 1,qM 11 22]))))))) (.seq (.aa [qG 23 4 1,qO 4 2 23]) .ret)))))⟩
def K_:aq:=⟨1,12,[.cell 2 (some 9)],(.seq (.aa [o 1 (.box (.t 0)),o 2 (.alloc zL3)]) (.seq (.aT [qF 3 0 1,qL 4 3,qF 5 1 1,qG 6 4 5,qK 7 106 [6],qF 8 5 1,qG 9 4 8,qK 10 106 [9],o 11 (.build zL3 [(0,1,.t 4),(1,4,.t 7),(5,4,.t 10)]),qO 9 2 11] [[],[0],[],[2],[2,3],[],[5],[2,3,4,5,6],(rg 8),(rg 9)] []) .ret))⟩
def K9:aq:=⟨5,24,[],(.seq (.aa [o 6 (.box (.t 1))]) (.seq (.aa [qM 11 0,o 12 (.call 85 [.t 11] .share),qM 10 12]) (.seq (.aa [qM 13 0,qM 14 3,qM 15 10,qG 16 9 6,o 17 (.build zL2 [(0,1,.t 14),(1,1,.t 15),(2,1,(i64 2)),(10,9,.t 16)]),o 18 (.call 84 [.t 13,.t 17] .share)]) (.aa [qM 19 0,qM 20 2,qM 21 10,qM 22 4,o 23 (.call 62 [.t 19,.t 20,.t 21,.t 22] .share)]))))⟩
def K8:aq:=⟨1,11,[.cell 2 (some 9)],(.seq (.aa [o 1 (.box (.t 0)),o 2 (.alloc zL3)]) (.seq (.aa [qG 4 9 1,qK 5 107 [4],o 3 (.alloc zL3),qO 9 3 5]) (.seq (.aa [qF 6 0 1,qL 7 6,qK 8 41 [7],qF 9 0 3,qO 1 9 8]) (.seq (.aa [qG 10 9 3,qO 9 2 10]) .ret))))⟩
def K7:aq:=⟨4,43,[],(.seq (.aa [o 5 (.box (.t 1))]) (.seq (.aa [qM 9 0,qM 10 0,qX 11 10,qF 12 2 11,qL 13 12,qM 14 2,o 15 (.aQ 1 [zi] [(0,1,.t 14)]),qA 16 1 8 13 15,qX 17 9,qF 18 2 17,qO 1 18 16]) (.seq (.aa [qM 19 0,o 20 (.call 85 [.t 19] .share),qM 8 20]) (.seq (.aa [qM 21 0,qM 22 2,qM 23 8,qF 24 8 5,qG 25 9 24,qK 26 107 [25],o 27 (.build zL2 [(0,1,.t 22),(1,1,.t 23),(2,1,(i64 2)),(10,9,.t 26)]),o 28 (.call 84 [.t 21,.t 27] .share)]) (.seq (.aa [qM 29 0,qM 30 2,qM 31 3,qF 32 8 5,qG 33 9 32,qK 34 109 [33],o 35 (.build zL2 [(0,1,.t 30),(1,1,.t 31),(2,1,(i64 2)),(10,9,.t 34)]),o 36 (.call 84 [.t 29,.t 35] .share)]) (.aa [qM 37 0,qF 38 17 5,qL 39 38,qM 40 8,qM 41 2,o 42 (.call 62 [.t 37,.t 39,.t 40,.t 41] .share)]))))))⟩
def K6:aq:=⟨4,38,[],(.seq (.aa [o 5 (.box (.t 1))]) (.seq (.aa [qF 11 19 5,qL 12 11,qN 13 12,qZ 14 0]) (.block 0 (.loop (.seq (.aa [qB 15 .lss 14 13]) (.seq (.cond (.t 15) .skip (.exit 0)) (.seq (.block 1 (.seq (.aa [qI 16 3 12 14,qG 17 3 16,o 9 (.alloc [zi,zi,.ak]),qO 3 9 17]) (.seq (.aa [qM 18 0,o 19 (.call 85 [.t 18] .share),qM 10 19]) (.seq (.aa [qM 20 0,qM 21 2,qM 22 10,qF 23 2 5,qL 24 23,qF 25 0 9,qL 26 25,qF 27 1 9,qL 28 27,o 29 (.build zL2 [(0,1,.t 21),(1,1,.t 22),(2,1,(i64 4)),(4,1,.t 24),(5,1,.t 26),(3,1,.t 28)]),o 30 (.call 84 [.t 20,.t 29] .share)]) (.aa [qM 31 0,qF 32 2 9,qL 33 32,qM 34 10,qM 35 3,o 36 (.call 62 [.t 31,.t 33,.t 34,.t 35] .share)]))))) (.aa [qC 37 .add 14 1,qM 14 37]))))))))⟩
def K5:aq:=⟨3,49,[],(.seq (.aa [qM 8 1,qC 9 .add 8 1,qM 6 9]) (.block 0 (.loop (.seq (.seq (.aa [qM 10 6,qM 11 2,qB 12 .lss 10 11]) (.cond (.t 12) .skip (.exit 0))) (.seq (.block 1 (.seq (.aa [qM 15 6,qM 7 15]) (.block 2 (.loop (.seq (.seq (.aT [qM 16 7,qM 17 1,qB 18 .gtr 16 17,qM 19 18,qMT 20 19 0,qMT 21 19 7,qIT 22 19 1 20 21,qLT 23 19 22,qMT 24 19 0,qMT 25 19 7,qCT 26 19 .sub 25 1,qIT 27 19 1 24 26,qLT 28 19 27,qKT 29 19 118 [23,28],qQ 30 19 29] [[],[],[0,1],[0,1,2],(rg 4),(rg 4),(rg 6),(rg 7),(rg 4),(rg 4),[0,1,2,3,9],[0,1,2,3,8,9,10],[0,1,2,3,8,9,10,11],(rg 13),(rg 14)] []) (.cond (.t 30) .skip (.exit 2))) (.seq (.block 3 (.aT [qM 33 0,qM 34 7,qM 35 0,qM 36 7,qC 37 .sub 36 1,qM 38 0,qM 39 7,qC 40 .sub 39 1,qI 41 1 38 40,qL 42 41,qM 43 0,qM 44 7,qI 45 1 43 44,qL 46 45,qI 47 1 33 34,qO 1 47 42,qI 48 1 35 37,qO 1 48 46] [[],[],[],[],[3],[],[],[6],[5,6,7],[5,6,7,8],[],[],[10,11],[10,11,12],[0,1,5,6,7,8,9,10,11,12,13],[0,1,5,6,7,8,9,10,11,12,13,14],(rg 16),(rg 17)] [])) (.aa [qM 31 7,qC 32 .sub 31 1,qM 7 32]))))))) (.aa [qM 13 6,qC 14 .add 13 1,qM 6 14]))))))⟩
def K4:aq:=⟨3,56,[],(.seq (.aa [qM 11 1,qM 6 11]) (.seq (.aa [qZ 7 0]) (.seq (.aa [qM 12 2,qM 13 1,qB 14 .sub 12 13,qM 8 14]) (.seq (.seq (.aa [qM 15 8,qC 16 .sub 15 1,qC 17 .quo 16 2,qM 9 17]) (.block 0 (.loop (.seq (.seq (.aa [qM 18 9,qC 19 .geq 18 0]) (.cond (.t 19) .skip (.exit 0))) (.seq (.block 1 (.aa [qM 22 0,qM 23 9,qM 24 8,qM 25 6,o 26 (.call 150 [.t 22,.t 23,.t 24,.t 25] .share)])) (.aa [qM 20 9,qC 21 .sub 20 1,qM 9 21])))))) (.seq (.aa [qM 27 8,qC 28 .sub 27 1,qM 10 28]) (.block 2 (.loop (.seq (.seq (.aa [qM 29 10,qC 30 .geq 29 0]) (.cond (.t 30) .skip (.exit 2))) (.seq (.block 3 (.seq (.aT [qM 33 0,qM 34 6,qM 35 0,qM 36 6,qM 37 10,qB 38 .add 36 37,qM 39 0,qM 40 6,qM 41 10,qB 42 .add 40 41,qI 43 1 39 42,qL 44 43,qM 45 0,qM 46 6,qI 47 1 45 46,qL 48 47,qI 49 1 33 34,qO 1 49 44,qI 50 1 35 38,qO 1 50 48] [[],[],[],[],[],[3,4],[],[],[],[7,8],[6,7,8,9],[6,7,8,9,10],[],[],[12,13],[12,13,14],[0,1,6,7,8,9,10,11,12,13,14,15],[0,1,6,7,8,9,10,11,12,13,14,15,16],(rg 18),(rg 19)] []) (.aa [qM 51 0,qM 52 7,qM 53 10,qM 54 6,o 55 (.call 150 [.t 51,.t 52,.t 53,.t 54] .share)]))) (.aa [qM 31 10,qC 32 .sub 31 1,qM 10 32]))))))))))⟩
def K3:aq:=⟨3,65,[],(.seq (.aa [qM 11 2,qM 12 1,qB 13 .sub 11 12,qM 6 13]) (.seq (.aa [qM 14 6,qC 15 .geq 14 8]) (.cond (.t 15) (.seq (.aa [qM 16 6,o 17 (.conv .u64 (.t 16)),o 7 (.alloc [.int .u64 0]),qO 1 7 17]) (.seq (.aa [qM 18 6,qK 19 151 [18],qM 8 19]) (.seq (.aa [qM 20 1,qM 21 6,qC 22 .quo 21 4,qC 23 .mul 22 2,qB 24 .add 20 23,qC 25 .sub 24 1,qM 9 25]) (.block 0 (.loop (.seq (.seq (.aa [qM 26 9,qM 27 1,qM 28 6,qC 29 .quo 28 4,qC 30 .mul 29 2,qB 31 .add 27 30,qC 32 .add 31 1,qB 33 .leq 26 32]) (.cond (.t 33) .skip (.exit 0))) (.seq (.block 1 (.seq (.aa [o 36 (.call 152 [.t 7] .share),qM 37 8,o 38 (.bin .sub (.t 37) (.c (.int .u64 1))),qB 39 .and 36 38,o 40 (.conv .i64 (.t 39)),qM 10 40]) (.seq (.seq (.aa [qM 41 10,qM 42 6,qB 43 .geq 41 42]) (.cond (.t 43) (.aa [qM 44 10,qM 45 6,qB 46 .sub 44 45,qM 10 46]) .skip)) (.aT [qM 47 0,qM 48 9,qM 49 0,qM 50 1,qM 51 10,qB 52 .add 50 51,qM 53 0,qM 54 1,qM 55 10,qB 56 .add 54 55,qI 57 1 53 56,qL 58 57,qM 59 0,qM 60 9,qI 61 1 59 60,qL 62 61,qI 63 1 47 48,qO 1 63 58,qI 64 1 49 52,qO 1 64 62] [[],[],[],[],[],[3,4],[],[],[],[7,8],[6,7,8,9],[6,7,8,9,10],[],[],[12,13],[12,13,14],[0,1,6,7,8,9,10,11,12,13,14,15],[0,1,6,7,8,9,10,11,12,13,14,15,16],(rg 18),(rg 19)] [])))) (.aa [qM 34 9,qC 35 .add 34 1,qM 9 35])))))))) .skip)))⟩
def KZ:aq:=⟨3,57,[.tmp 6,.tmp 7],(.seq (.aa [qZ 6 0,qZ 7 0]) (.seq (.aa [qM 13 2,qM 14 1,qB 15 .sub 13 14,qM 8 15]) (.seq (.aa [o 9 (.alloc [zi])]) (.seq (.aa [qM 16 1,qM 17 8,qC 18 .quo 17 4,qC 19 .mul 18 1,qB 20 .add 16 19,qM 10 20]) (.seq (.aa [qM 21 1,qM 22 8,qC 23 .quo 22 4,qC 24 .mul 23 2,qB 25 .add 21 24,qM 11 25]) (.seq (.aa [qM 26 1,qM 27 8,qC 28 .quo 27 4,qC 29 .mul 28 3,qB 30 .add 26 29,qM 12 30]) (.seq (.seq (.aa [qM 31 8,qC 32 .geq 31 8]) (.cond (.t 32) (.seq (.seq (.aa [qM 33 8,qC 34 .geq 33 50]) (.cond (.t 34) (.seq (.aa [qM 35 0,qM 36 10,o 37 (.call 153 [.t 35,.t 36,.t 9] .share),qM 10 37]) (.seq (.aa [qM 38 0,qM 39 11,o 40 (.call 153 [.t 38,.t 39,.t 9] .share),qM 11 40]) (.aa [qM 41 0,qM 42 12,o 43 (.call 153 [.t 41,.t 42,.t 9] .share),qM 12 43]))) .skip)) (.aa [qM 44 0,qM 45 10,qM 46 11,qM 47 12,o 48 (.call 154 [.t 44,.t 45,.t 46,.t 47,.t 9] .share),qM 11 48])) .skip)) (.seq (.aa [qL 49 9]) (.block 0 (.seq (.aa [qC 52 .eql 49 0,qM 51 52]) (.cond (.t 51) (.seq (.aa [qM 53 11,qM 6 53,qZ 7 1]) .ret) (.seq (.aa [qC 55 .eql 49 12,qM 54 55]) (.cond (.t 54) (.seq (.aa [qM 56 11,qM 6 56,qZ 7 2]) .ret) (.seq (.aa [qM 50 11,qM 6 50,qZ 7 0]) .ret))))))))))))))⟩
def KY:aq:=⟨3,32,[],(.seq (.aa [qM 8 1,qM 6 8]) (.seq (.aa [qM 9 2,qC 10 .sub 9 1,qM 7 10]) (.block 0 (.loop (.seq (.seq (.aa [qM 11 6,qM 12 7,qB 13 .lss 11 12]) (.cond (.t 13) .skip (.exit 0))) (.block 1 (.seq (.aT [qM 14 0,qM 15 6,qM 16 0,qM 17 7,qM 18 0,qM 19 7,qI 20 1 18 19,qL 21 20,qM 22 0,qM 23 6,qI 24 1 22 23,qL 25 24,qI 26 1 14 15,qO 1 26 21,qI 27 1 16 17,qO 1 27 25] [[],[],[],[],[],[],[4,5],[4,5,6],[],[],[8,9],[8,9,10],[0,1,4,5,6,7,8,9,10,11],[0,1,4,5,6,7,8,9,10,11,12],(rg 14),(rg 15)] []) (.seq (.aa [qM 28 6,qC 29 .add 28 1,qM 6 29]) (.aa [qM 30 7,qC 31 .sub 30 1,qM 7 31])))))))))⟩
def KX:aq:=⟨3,133,[.tmp 6],(.seq (.aa [qY 6 false]) (.seq (.aa [qM 11 1,qC 12 .add 11 1,qM 7 12]) (.seq (.seq (.aa [qZ 8 0]) (.block 0 (.loop (.seq (.seq (.aa [qM 13 8,qC 14 .lss 13 5]) (.cond (.t 14) .skip (.exit 0))) (.seq (.block 1 (.seq (.block 2 (.loop (.seq (.seq (.aT [qM 17 7,qM 18 2,qB 19 .lss 17 18,qM 20 19,qMT 21 20 0,qMT 22 20 7,qIT 23 20 1 21 22,qLT 24 20 23,qMT 25 20 0,qMT 26 20 7,qCT 27 20 .sub 26 1,qIT 28 20 1 25 27,qLT 29 20 28,qKT 30 20 118 [24,29],qUT 31 20 30,qQ 32 20 31] [[],[],[0,1],[0,1,2],(rg 4),(rg 4),(rg 6),(rg 7),(rg 4),(rg 4),[0,1,2,3,9],[0,1,2,3,8,9,10],[0,1,2,3,8,9,10,11],(rg 13),(rg 14),(rg 15)] []) (.cond (.t 32) .skip (.exit 2))) (.block 3 (.aa [qM 33 7,qC 34 .add 33 1,qM 7 34]))))) (.seq (.seq (.aa [qM 35 7,qM 36 2,qB 37 .eql 35 36]) (.cond (.t 37) (.seq (.aa [qY 6 true]) .ret) .skip)) (.seq (.seq (.aa [qM 38 2,qM 39 1,qB 40 .sub 38 39,qC 41 .lss 40 50]) (.cond (.t 41) (.seq (.aa [qY 6 false]) .ret) .skip)) (.seq (.aT [qM 42 0,qM 43 7,qM 44 0,qM 45 7,qC 46 .sub 45 1,qM 47 0,qM 48 7,qC 49 .sub 48 1,qI 50 1 47 49,qL 51 50,qM 52 0,qM 53 7,qI 54 1 52 53,qL 55 54,qI 56 1 42 43,qO 1 56 51,qI 57 1 44 46,qO 1 57 55] [[],[],[],[],[3],[],[],[6],[5,6,7],[5,6,7,8],[],[],[10,11],[10,11,12],[0,1,5,6,7,8,9,10,11,12,13],[0,1,5,6,7,8,9,10,11,12,13,14],(rg 16),(rg 17)] []) (.seq (.seq (.aa [qM 58 7,qM 59 1,qB 60 .sub 58 59,qC 61 .geq 60 2]) (.cond (.t 61) (.seq (.aa [qM 62 7,qC 63 .sub 62 1,qM 9 63]) (.block 4 (.loop (.seq (.seq (.aa [qM 64 9,qC 65 .geq 64 1]) (.cond (.t 65) .skip (.exit 4))) (.seq (.block 5 (.seq (.seq (.aT [qM 68 0,qM 69 9,qI 70 1 68 69,qL 71 70,qM 72 0,qM 73 9,qC 74 .sub 73 1,qI 75 1 72 74,qL 76 75,qK 77 118 [71,76],qU 78 77] [[],[],[0,1],[0,1,2],[],[],[5],[4,5,6],[4,5,6,7],(rg 9),(rg 10)] []) (.cond (.t 78) (.exit 4) .skip)) (.aT [qM 79 0,qM 80 9,qM 81 0,qM 82 9,qC 83 .sub 82 1,qM 84 0,qM 85 9,qC 86 .sub 85 1,qI 87 1 84 86,qL 88 87,qM 89 0,qM 90 9,qI 91 1 89 90,qL 92 91,qI 93 1 79 80,qO 1 93 88,qI 94 1 81 83,qO 1 94 92] [[],[],[],[],[3],[],[],[6],[5,6,7],[5,6,7,8],[],[],[10,11],[10,11,12],[0,1,5,6,7,8,9,10,11,12,13],[0,1,5,6,7,8,9,10,11,12,13,14],(rg 16),(rg 17)] []))) (.aa [qM 66 9,qC 67 .sub 66 1,qM 9 67])))))) .skip)) (.seq (.aa [qM 95 2,qM 96 7,qB 97 .sub 95 96,qC 98 .geq 97 2]) (.cond (.t 98) (.seq (.aa [qM 99 7,qC 100 .add 99 1,qM 10 100]) (.block 6 (.loop (.seq (.seq (.aa [qM 101 10,qM 102 2,qB 103 .lss 101 102]) (.cond (.t 103) .skip (.exit 6))) (.seq (.block 7 (.seq (.seq (.aT [qM 106 0,qM 107 10,qI 108 1 106 107,qL 109 108,qM 110 0,qM 111 10,qC 112 .sub 111 1,qI 113 1 110 112,qL 114 113,qK 115 118 [109,114],qU 116 115] [[],[],[0,1],[0,1,2],[],[],[5],[4,5,6],[4,5,6,7],(rg 9),(rg 10)] []) (.cond (.t 116) (.exit 6) .skip)) (.aT [qM 117 0,qM 118 10,qM 119 0,qM 120 10,qC 121 .sub 120 1,qM 122 0,qM 123 10,qC 124 .sub 123 1,qI 125 1 122 124,qL 126 125,qM 127 0,qM 128 10,qI 129 1 127 128,qL 130 129,qI 131 1 117 118,qO 1 131 126,qI 132 1 119 121,qO 1 132 130] [[],[],[],[],[3],[],[],[6],[5,6,7],[5,6,7,8],[],[],[10,11],[10,11,12],[0,1,5,6,7,8,9,10,11,12,13],[0,1,5,6,7,8,9,10,11,12,13,14],(rg 16),(rg 17)] []))) (.aa [qM 104 10,qC 105 .add 104 1,qM 10 105])))))) .skip)))))))) (.aa [qM 15 8,qC 16 .add 15 1,qM 8 16])))))) (.seq (.aa [qY 6 false]) .ret))))⟩
def KV:aq:=⟨2,17,[.tmp 4],(.seq (.aa [qY 4 false]) (.seq (.aa [qM 5 0,qK 6 155 [5],qM 7 6,qMT 8 7 1,qKT 9 7 155 [8],qUT 10 7 9,qQ 11 7 10,qM 12 11,qMF 13 12 0,qMF 14 12 1,qBF 15 12 .lss 13 14,qP 16 12 15,qM 4 16]) .ret))⟩
def KU:aq:=⟨4,84,[.tmp 8],(.seq (.aa [qZ 8 0]) (.seq (.aT [qM 11 0,qM 12 1,qM 13 0,qM 14 3,qM 15 0,qM 16 3,qI 17 1 15 16,qL 18 17,qM 19 0,qM 20 1,qI 21 1 19 20,qL 22 21,qI 23 1 11 12,qO 1 23 18,qI 24 1 13 14,qO 1 24 22] [[],[],[],[],[],[],[4,5],[4,5,6],[],[],[8,9],[8,9,10],[0,1,4,5,6,7,8,9,10,11],[0,1,4,5,6,7,8,9,10,11,12],(rg 14),(rg 15)] []) (.seq (.aa [qM 25 1,qC 26 .add 25 1,qM 27 2,qC 28 .sub 27 1,qM 9 26,qM 10 28]) (.seq (.block 0 (.loop (.block 1 (.seq (.block 2 (.loop (.seq (.seq (.aT [qM 29 9,qM 30 10,qB 31 .leq 29 30,qM 32 31,qMT 33 32 0,qMT 34 32 1,qIT 35 32 1 33 34,qLT 36 32 35,qMT 37 32 0,qMT 38 32 9,qIT 39 32 1 37 38,qLT 40 32 39,qKT 41 32 118 [36,40],qUT 42 32 41,qQ 43 32 42] [[],[],[0,1],[0,1,2],(rg 4),(rg 4),(rg 6),(rg 7),(rg 4),(rg 4),[0,1,2,3,8,9],[0,1,2,3,8,9,10],(rg 12),(rg 13),(rg 14)] []) (.cond (.t 43) .skip (.exit 2))) (.block 3 (.aa [qM 44 9,qC 45 .add 44 1,qM 9 45]))))) (.seq (.block 4 (.loop (.seq (.seq (.aT [qM 46 9,qM 47 10,qB 48 .leq 46 47,qM 49 48,qMT 50 49 0,qMT 51 49 1,qIT 52 49 1 50 51,qLT 53 49 52,qMT 54 49 0,qMT 55 49 10,qIT 56 49 1 54 55,qLT 57 49 56,qKT 58 49 118 [53,57],qQ 59 49 58] [[],[],[0,1],[0,1,2],(rg 4),(rg 4),(rg 6),(rg 7),(rg 4),(rg 4),[0,1,2,3,8,9],[0,1,2,3,8,9,10],(rg 12),(rg 13)] []) (.cond (.t 59) .skip (.exit 4))) (.block 5 (.aa [qM 60 10,qC 61 .sub 60 1,qM 10 61]))))) (.seq (.seq (.aa [qM 62 9,qM 63 10,qB 64 .gtr 62 63]) (.cond (.t 64) (.exit 0) .skip)) (.seq (.aT [qM 65 0,qM 66 9,qM 67 0,qM 68 10,qM 69 0,qM 70 10,qI 71 1 69 70,qL 72 71,qM 73 0,qM 74 9,qI 75 1 73 74,qL 76 75,qI 77 1 65 66,qO 1 77 72,qI 78 1 67 68,qO 1 78 76] [[],[],[],[],[],[],[4,5],[4,5,6],[],[],[8,9],[8,9,10],[0,1,4,5,6,7,8,9,10,11],[0,1,4,5,6,7,8,9,10,11,12],(rg 14),(rg 15)] []) (.seq (.aa [qM 79 9,qC 80 .add 79 1,qM 9 80]) (.aa [qM 81 10,qC 82 .sub 81 1,qM 10 82]))))))))) (.seq (.aa [qM 83 9,qM 8 83]) .ret)))))⟩
def KT:aq:=⟨4,168,[.tmp 8,.tmp 9],(.seq (.aa [qZ 8 0,qY 9 false]) (.seq (.aT [qM 12 0,qM 13 1,qM 14 0,qM 15 3,qM 16 0,qM 17 3,qI 18 1 16 17,qL 19 18,qM 20 0,qM 21 1,qI 22 1 20 21,qL 23 22,qI 24 1 12 13,qO 1 24 19,qI 25 1 14 15,qO 1 25 23] [[],[],[],[],[],[],[4,5],[4,5,6],[],[],[8,9],[8,9,10],[0,1,4,5,6,7,8,9,10,11],[0,1,4,5,6,7,8,9,10,11,12],(rg 14),(rg 15)] []) (.seq (.aa [qM 26 1,qC 27 .add 26 1,qM 28 2,qC 29 .sub 28 1,qM 10 27,qM 11 29]) (.seq (.block 0 (.loop (.seq (.seq (.aT [qM 30 10,qM 31 11,qB 32 .leq 30 31,qM 33 32,qMT 34 33 0,qMT 35 33 10,qIT 36 33 1 34 35,qLT 37 33 36,qMT 38 33 0,qMT 39 33 1,qIT 40 33 1 38 39,qLT 41 33 40,qKT 42 33 118 [37,41],qQ 43 33 42] [[],[],[0,1],[0,1,2],(rg 4),(rg 4),(rg 6),(rg 7),(rg 4),(rg 4),[0,1,2,3,8,9],[0,1,2,3,8,9,10],(rg 12),(rg 13)] []) (.cond (.t 43) .skip (.exit 0))) (.block 1 (.aa [qM 44 10,qC 45 .add 44 1,qM 10 45]))))) (.seq (.block 2 (.loop (.seq (.seq (.aT [qM 46 10,qM 47 11,qB 48 .leq 46 47,qM 49 48,qMT 50 49 0,qMT 51 49 11,qIT 52 49 1 50 51,qLT 53 49 52,qMT 54 49 0,qMT 55 49 1,qIT 56 49 1 54 55,qLT 57 49 56,qKT 58 49 118 [53,57],qUT 59 49 58,qQ 60 49 59] [[],[],[0,1],[0,1,2],(rg 4),(rg 4),(rg 6),(rg 7),(rg 4),(rg 4),[0,1,2,3,8,9],[0,1,2,3,8,9,10],(rg 12),(rg 13),(rg 14)] []) (.cond (.t 60) .skip (.exit 2))) (.block 3 (.aa [qM 61 11,qC 62 .sub 61 1,qM 11 62]))))) (.seq (.seq (.aa [qM 63 10,qM 64 11,qB 65 .gtr 63 64]) (.cond (.t 65) (.seq (.aT [qM 66 0,qM 67 11,qM 68 0,qM 69 1,qM 70 0,qM 71 1,qI 72 1 70 71,qL 73 72,qM 74 0,qM 75 11,qI 76 1 74 75,qL 77 76,qI 78 1 66 67,qO 1 78 73,qI 79 1 68 69,qO 1 79 77] [[],[],[],[],[],[],[4,5],[4,5,6],[],[],[8,9],[8,9,10],[0,1,4,5,6,7,8,9,10,11],[0,1,4,5,6,7,8,9,10,11,12],(rg 14),(rg 15)] []) (.seq (.aa [qM 80 11,qM 8 80,qY 9 true]) .ret)) .skip)) (.seq (.aT [qM 81 0,qM 82 10,qM 83 0,qM 84 11,qM 85 0,qM 86 11,qI 87 1 85 86,qL 88 87,qM 89 0,qM 90 10,qI 91 1 89 90,qL 92 91,qI 93 1 81 82,qO 1 93 88,qI 94 1 83 84,qO 1 94 92] [[],[],[],[],[],[],[4,5],[4,5,6],[],[],[8,9],[8,9,10],[0,1,4,5,6,7,8,9,10,11],[0,1,4,5,6,7,8,9,10,11,12],(rg 14),(rg 15)] []) (.seq (.aa [qM 95 10,qC 96 .add 95 1,qM 10 96]) (.seq (.aa [qM 97 11,qC 98 .sub 97 1,qM 11 98]) (.seq (.block 4 (.loop (.block 5 (.seq (.block 6 (.loop (.seq (.seq (.aT [qM 99 10,qM 100 11,qB 101 .leq 99 100,qM 102 101,qMT 103 102 0,qMT 104 102 10,qIT 105 102 1 103 104,qLT 106 102 105,qMT 107 102 0,qMT 108 102 1,qIT 109 102 1 107 108,qLT 110 102 109,qKT 111 102 118 [106,110],qQ 112 102 111] [[],[],[0,1],[0,1,2],(rg 4),(rg 4),(rg 6),(rg 7),(rg 4),(rg 4),[0,1,2,3,8,9],[0,1,2,3,8,9,10],(rg 12),(rg 13)] []) (.cond (.t 112) .skip (.exit 6))) (.block 7 (.aa [qM 113 10,qC 114 .add 113 1,qM 10 114]))))) (.seq (.block 8 (.loop (.seq (.seq (.aT [qM 115 10,qM 116 11,qB 117 .leq 115 116,qM 118 117,qMT 119 118 0,qMT 120 118 11,qIT 121 118 1 119 120,qLT 122 118 121,qMT 123 118 0,qMT 124 118 1,qIT 125 118 1 123 124,qLT 126 118 125,qKT 127 118 118 [122,126],qUT 128 118 127,qQ 129 118 128] [[],[],[0,1],[0,1,2],(rg 4),(rg 4),(rg 6),(rg 7),(rg 4),(rg 4),[0,1,2,3,8,9],[0,1,2,3,8,9,10],(rg 12),(rg 13),(rg 14)] []) (.cond (.t 129) .skip (.exit 8))) (.block 9 (.aa [qM 130 11,qC 131 .sub 130 1,qM 11 131]))))) (.seq (.seq (.aa [qM 132 10,qM 133 11,qB 134 .gtr 132 133]) (.cond (.t 134) (.exit 4) .skip)) (.seq (.aT [qM 135 0,qM 136 10,qM 137 0,qM 138 11,qM 139 0,qM 140 11,qI 141 1 139 140,qL 142 141,qM 143 0,qM 144 10,qI 145 1 143 144,qL 146 145,qI 147 1 135 136,qO 1 147 142,qI 148 1 137 138,qO 1 148 146] [[],[],[],[],[],[],[4,5],[4,5,6],[],[],[8,9],[8,9,10],[0,1,4,5,6,7,8,9,10,11],[0,1,4,5,6,7,8,9,10,11,12],(rg 14),(rg 15)] []) (.seq (.aa [qM 149 10,qC 150 .add 149 1,qM 10 150]) (.aa [qM 151 11,qC 152 .sub 151 1,qM 11 152]))))))))) (.seq (.aT [qM 153 0,qM 154 11,qM 155 0,qM 156 1,qM 157 0,qM 158 1,qI 159 1 157 158,qL 160 159,qM 161 0,qM 162 11,qI 163 1 161 162,qL 164 163,qI 165 1 153 154,qO 1 165 160,qI 166 1 155 156,qO 1 166 164] [[],[],[],[],[],[],[4,5],[4,5,6],[],[],[8,9],[8,9,10],[0,1,4,5,6,7,8,9,10,11],[0,1,4,5,6,7,8,9,10,11,12],(rg 14),(rg 15)] []) (.seq (.aa [qM 167 11,qM 8 167,qY 9 false]) .ret))))))))))))⟩
def KS:aq:=⟨1,19,[.tmp 2],(.seq (.aa [qZ 2 0]) (.seq (.seq (.aa [qM 3 0,o 4 (.bin .geq (.t 3) (.c (.int .u32 65536)))]) (.cond (.t 4) (.seq (.aa [qM 5 0,o 6 (.bin .shr (.t 5) (.c (.int .u64 16))),qM 0 6]) (.aa [qZ 2 16])) .skip)) (.seq (.seq (.aa [qM 7 0,o 8 (.bin .geq (.t 7) (.c (.int .u32 256)))]) (.cond (.t 8) (.seq (.aa [qM 9 0,o 10 (.bin .shr (.t 9) (.c (.int .u64 8))),qM 0 10]) (.aa [qM 11 2,qC 12 .add 11 8,qM 2 12])) .skip)) (.seq (.aa [qM 13 2,qM 14 0,o 15 (.conv .u8 (.t 14)),o 16 (.idx (.c (.str tB0)) (.t 15)),o 17 (.conv .i64 (.t 16)),qB 18 .add 13 17,qM 2 18]) .ret))))⟩
def KR:aq:=⟨1,25,[.tmp 2],(.seq (.aa [qZ 2 0]) (.seq (.seq (.aa [qM 3 0,o 4 (.bin .geq (.t 3) (.c (.int .u64 4294967296)))]) (.cond (.t 4) (.seq (.aa [qM 5 0,o 6 (.bin .shr (.t 5) (.c (.int .u64 32))),qM 0 6]) (.aa [qZ 2 32])) .skip)) (.seq (.seq (.aa [qM 7 0,o 8 (.bin .geq (.t 7) (.c (.int .u64 65536)))]) (.cond (.t 8) (.seq (.aa [qM 9 0,o 10 (.bin .shr (.t 9) (.c (.int .u64 16))),qM 0 10]) (.aa [qM 11 2,qC 12 .add 11 16,qM 2 12])) .skip)) (.seq (.seq (.aa [qM 13 0,o 14 (.bin .geq (.t 13) (.c (.int .u64 256)))]) (.cond (.t 14) (.seq (.aa [qM 15 0,o 16 (.bin .shr (.t 15) (.c (.int .u64 8))),qM 0 16]) (.aa [qM 17 2,qC 18 .add 17 8,qM 2 18])) .skip)) (.seq (.aa [qM 19 2,qM 20 0,o 21 (.conv .u8 (.t 20)),o 22 (.idx (.c (.str tB0)) (.t 21)),o 23 (.conv .i64 (.t 22)),qB 24 .add 19 23,qM 2 24]) .ret)))))⟩
def KQ:aq:=⟨1,46,[.cell 2 (some 4),.tmp 3],(.seq (.aa [o 2 (.alloc [.bool false,zi,zi,zi]),qY 3 false]) (.seq (.aT [qM 7 0,qX 8 7,qF 9 14 8,qF 10 6 9,qG 11 4 10,qM 12 0,qX 13 12,qF 14 33 13,qL 15 14,qK 16 35 [11,15],qM 6 16,qE 17 0 6,qE 18 1 6,qM 4 17,qM 5 18] [[],[0],[0,1],[0,1,2],(rg 4),[],[5],[5,6],[5,6,7],(rg 9),(rg 10),(rg 11),(rg 11),(rg 12),(rg 14)] []) (.seq (.seq (.aa [qM 19 5,qC 20 .neq 19 0]) (.cond (.t 20) (.seq (.aa [qM 21 0,qM 22 5,o 23 (.call 161 [.t 21,.t 22] .share),qE 24 0 23,qE 25 1 23,qO 4 2 24,qM 3 25]) .ret) .skip)) (.seq (.aT [qM 26 0,qX 27 26,qF 28 33 27,qL 29 28,qM 30 0,qX 31 30,qF 32 14 31,qF 33 3 32,qL 34 33,qM 35 4,qI 36 1 29 34,qO 1 36 35] [[],[0],[0,1],[0,1,2],[],[4],[4,5],[4,5,6],[4,5,6,7],[],(rg 10),(rg 11)] []) (.seq (.aa [qM 37 0,qM 38 0,qX 39 38,qF 40 14 39,qF 41 1 40,qL 42 41,o 43 (.call 135 [.t 37,.t 42] .share),qE 44 0 43,qE 45 1 43,qO 4 2 44,qM 3 45]) .ret)))))⟩
def KP:aq:=⟨1,56,[.cell 2 (some 4),.tmp 3],(.seq (.aa [o 2 (.alloc [.bool false,zi,zi,zi]),qY 3 false]) (.seq (.aT [qM 7 0,qX 8 7,qF 9 14 8,qF 10 10 9,qG 11 9 10,qM 12 0,qX 13 12,qF 14 33 13,qL 15 14,qK 16 39 [11,15],qM 6 16,qE 17 0 6,qE 18 1 6,qM 4 17,qM 5 18] [[],[0],[0,1],[0,1,2],(rg 4),[],[5],[5,6],[5,6,7],(rg 9),(rg 10),(rg 11),(rg 11),(rg 12),(rg 14)] []) (.seq (.block 0 (.seq (.aa [qM 20 5,qC 21 .neq 20 0,qM 19 21]) (.cond (.t 19) (.seq (.aa [qM 22 0,qM 23 5,o 24 (.call 161 [.t 22,.t 23] .share),qE 25 0 24,qE 26 1 24,qO 4 2 25,qM 3 26]) .ret) (.seq (.aa [qM 28 4,qM 27 28]) (.cond (.t 27) (.seq (.aa [qM 29 0,qM 30 0,qX 31 30,qF 32 14 31,qF 33 1 32,qL 34 33,o 35 (.call 135 [.t 29,.t 34] .share),qE 36 0 35,qE 37 1 35,qO 4 2 36,qM 3 37]) .ret) .skip))))) (.seq (.aT [qM 38 0,qM 39 0,qX 40 39,qF 41 10 40,qF 42 1 41,qL 43 42,qM 44 0,qX 45 44,qF 46 13 45,qL 47 46,o 48 (.bL 1 (.t 47) (i64 1)),qL 49 48,qI 50 19 43 49,qF 51 1 50,qL 52 51,o 53 (.call 135 [.t 38,.t 52] .share),qE 54 0 53,qE 55 1 53,qO 4 2 54,qM 3 55] [[],[],[1],[1,2],[1,2,3],[1,2,3,4],[],[6],[6,7],[6,7,8],[6,7,8,9],[6,7,8,9,10],[1,2,3,4,5,6,7,8,9,10,11],[1,2,3,4,5,6,7,8,9,10,11,12],[1,2,3,4,5,6,7,8,9,10,11,12,13],(rg 15),(rg 16),(rg 16),(rg 18),(rg 19)] []) .ret))))⟩
def KO:aq:=⟨1,43,[.cell 2 (some 4),.tmp 3],(.seq (.aa [o 2 (.alloc [.bool false,zi,zi,zi]),qY 3 false]) (.seq (.aT [qM 7 0,qX 8 7,qF 9 14 8,qF 10 10 9,qG 11 9 10,qM 12 0,qX 13 12,qF 14 33 13,qL 15 14,qK 16 39 [11,15],qM 6 16,qE 17 0 6,qE 18 1 6,qM 4 17,qM 5 18] [[],[0],[0,1],[0,1,2],(rg 4),[],[5],[5,6],[5,6,7],(rg 9),(rg 10),(rg 11),(rg 11),(rg 12),(rg 14)] []) (.seq (.block 0 (.seq (.aa [qM 20 5,qC 21 .neq 20 0,qM 19 21]) (.cond (.t 19) (.seq (.aa [qM 22 0,qM 23 5,o 24 (.call 161 [.t 22,.t 23] .share),qE 25 0 24,qE 26 1 24,qO 4 2 25,qM 3 26]) .ret) (.seq (.aa [qM 28 4,qU 29 28,qM 27 29]) (.cond (.t 27) (.seq (.aa [qM 30 0,o 31 (.call 161 [.t 30,(i64 1)] .share),qE 32 0 31,qE 33 1 31,qO 4 2 32,qM 3 33]) .ret) .skip))))) (.seq (.aa [qM 34 0,qM 35 0,qX 36 35,qF 37 14 36,qF 38 1 37,qL 39 38,o 40 (.call 135 [.t 34,.t 39] .share),qE 41 0 40,qE 42 1 40,qO 4 2 41,qM 3 42]) .ret))))⟩
def zX:aq:=⟨1,163,[.cell 2 (some 4),.tmp 3],(.seq (.aa [o 2 (.alloc [.bool false,zi,zi,zi]),qY 3 false]) (.seq (.aT [qM 10 0,qX 11 10,qF 12 0 11,qF 13 0 12,qL 14 13,qM 15 0,qX 16 15,qF 17 14 16,qF 18 4 17,qL 19 18,qI 20 6 14 19,qG 21 6 20,o 4 (.alloc zL5),qO 6 4 21] [[],[0],[0,1],[0,1,2],(rg 4),[],[5],[5,6],[5,6,7],[5,6,7,8],(rg 10),(rg 11),[],(rg 13)] []) (.seq (.aT [qM 22 0,qX 23 22,qF 24 3 23,qF 25 2 24,qL 26 25,qM 27 0,qX 28 27,qF 29 14 28,qF 30 4 29,qL 31 30,qI 32 1 26 31,qM 5 32] [[],[0],[0,1],[0,1,2],(rg 4),[],[5],[5,6],[5,6,7],[5,6,7,8],(rg 10),(rg 11)] []) (.seq (.aT [qM 33 5,qX 34 33,qL 35 34,qN 36 35,qF 37 1 4,qL 38 37,qB 39 .eql 36 38,qM 6 39] [[],[0],[0,1],[0,1,2],[],[4],(rg 6),(rg 7)] []) (.seq (.seq (.aa [qM 40 6,qM 41 40,qFT 42 41 0 4,qLT 43 41 42,qCT 44 41 .eql 43 0,qQ 45 41 44]) (.cond (.t 45) (.seq (.aa [o 46 (.build [.bool false,zi,zi,zi] []),qO 4 2 46,qY 3 false]) .ret) .skip)) (.seq (.aT [qM 48 0,qX 49 48,qF 50 14 49,qF 51 6 50,qG 52 4 51,qM 53 0,qX 54 53,qF 55 33 54,qL 56 55,qK 57 35 [52,56],qM 47 57,qE 58 0 47,qE 59 1 47,qM 7 58,qM 8 59] [[],[0],[0,1],[0,1,2],(rg 4),[],[5],[5,6],[5,6,7],(rg 9),(rg 10),(rg 11),(rg 11),(rg 12),(rg 14)] []) (.seq (.seq (.aa [qM 60 8,qC 61 .neq 60 0]) (.cond (.t 61) (.seq (.aa [qM 62 0,qM 63 8,o 64 (.call 161 [.t 62,.t 63] .share),qE 65 0 64,qE 66 1 64,qO 4 2 65,qM 3 66]) .ret) .skip)) (.seq (.aT [qM 67 0,qX 68 67,qF 69 3 68,qF 70 3 69,qL 71 70,qM 72 0,qX 73 72,qF 74 14 73,qF 75 4 74,qL 76 75,qI 77 1 71 76,qL 78 77,qM 9 78] [[],[0],[0,1],[0,1,2],(rg 4),[],[5],[5,6],[5,6,7],[5,6,7,8],(rg 10),(rg 11),(rg 12)] []) (.seq (.seq (.aa [qF 79 5 4,qL 80 79,qN 81 80,qC 82 .gtr 81 0]) (.cond (.t 82) (.aT [qF 83 5 4,qL 84 83,qM 85 9,qI 86 1 84 85,qL 87 86,qM 88 0,qX 89 88,qF 90 14 89,qF 91 5 90,qL 92 91,qI 93 1 87 92,qL 94 93,qM 9 94] [[],[0],[],[0,1,2],(rg 4),[],[5],[5,6],[5,6,7],[5,6,7,8],(rg 10),(rg 11),(rg 12)] []) .skip)) (.seq (.block 0 (.seq (.aa [qM 96 9,qC 97 .lss 96 0,qM 95 97]) (.cond (.t 95) (.seq (.aa [qM 98 0,o 99 (.call 161 [.t 98,(i64 6)] .share),qE 100 0 99,qE 101 1 99,qO 4 2 100,qM 3 101]) .ret) (.seq (.aa [qM 103 6,qM 104 103,qFT 105 104 0 4,qLT 106 104 105,qCT 107 104 .eql 106 1,qQ 108 104 107,qM 102 108]) (.cond (.t 102) (.seq (.aa [qM 109 0,o 110 (.call 161 [.t 109,(i64 4)] .share),qE 111 0 110,qE 112 1 110,qO 4 2 111,qM 3 112]) .ret) .skip))))) (.seq (.aT [qM 113 0,qX 114 113,qF 115 3 114,qF 116 3 115,qL 117 116,qM 118 0,qX 119 118,qF 120 14 119,qF 121 4 120,qL 122 121,qM 123 9,qI 124 1 117 122,qO 1 124 123] [[],[0],[0,1],[0,1,2],(rg 4),[],[5],[5,6],[5,6,7],[5,6,7,8],[],(rg 11),(rg 12)] []) (.seq (.seq (.aa [qM 125 6,qU 126 125,qM 127 126,qFT 128 127 0 4,qLT 129 127 128,qCT 130 127 .neq 129 2,qMT 131 127 130,qMF 132 131 0,qXF 133 131 132,qFF 134 131 7 133,qFF 135 131 1 134,qLF 136 131 135,qUF 137 131 136,qPT 138 127 131 137,qQ 139 127 138]) (.cond (.t 139) (.aT [qM 140 5,qM 141 5,qX 142 141,qL 143 142,qM 144 0,qX 145 144,qF 146 14 145,qF 147 5 146,qL 148 147,qM 149 7,o 150 (.build [zi,zi] [(0,1,.t 148),(1,1,.t 149)]),o 151 (.aQ 1 [zi,zi] [(0,2,.t 150)]),qA 152 2 16 143 151,qX 153 140,qO 1 153 152] [[],[],[1],[1,2],[],[4],[4,5],[4,5,6],[4,5,6,7],[],[4,5,6,7,8,9],[4,5,6,7,8,9,10],[1,2,3,4,5,6,7,8,9,10,11],(rg 13),(rg 14)] []) .skip)) (.seq (.aa [qM 154 0,qM 155 0,qX 156 155,qF 157 14 156,qF 158 1 157,qL 159 158,o 160 (.call 135 [.t 154,.t 159] .share),qE 161 0 160,qE 162 1 160,qO 4 2 161,qM 3 162]) .ret)))))))))))))⟩
def KN:aq:=⟨1,79,[.cell 2 (some 4),.tmp 3],(.seq (.aa [o 2 (.alloc [.bool false,zi,zi,zi]),qY 3 false]) (.seq (.aT [qM 9 0,qX 10 9,qF 11 3 10,qF 12 2 11,qL 13 12,qM 14 0,qX 15 14,qF 16 14 15,qF 17 4 16,qL 18 17,qI 19 1 13 18,qM 4 19] [[],[0],[0,1],[0,1,2],(rg 4),[],[5],[5,6],[5,6,7],[5,6,7,8],(rg 10),(rg 11)] []) (.seq (.seq (.aa [qM 20 4,qX 21 20,qL 22 21,qN 23 22,qC 24 .eql 23 0]) (.cond (.t 24) (.seq (.aa [o 25 (.build [.bool false,zi,zi,zi] []),qO 4 2 25,qY 3 false]) .ret) .skip)) (.seq (.aa [qM 26 4,qX 27 26,qL 28 27,o 29 (.bL 2 (.t 28) (i64 0)),qG 30 2 29,o 5 (.alloc [zi,zi]),qO 2 5 30]) (.seq (.seq (.aa [qM 31 0,qX 32 31,qF 33 13 32,qL 34 33,qN 35 34,qZ 36 0]) (.block 0 (.loop (.seq (.aa [qB 37 .lss 36 35]) (.seq (.cond (.t 37) .skip (.exit 0)) (.seq (.block 1 (.seq (.aa [qI 38 1 34 36,qL 39 38,qM 7 39]) (.seq (.aa [qM 40 0,qX 41 40,qF 42 10 41,qF 43 1 42,qL 44 43,qM 45 7,qI 46 19 44 45,qG 47 19 46,o 8 (.alloc zL2),qO 19 8 47]) (.seq (.aa [qF 48 5 8,qL 49 48,qF 50 0 5,qL 51 50,qB 52 .eql 49 51]) (.cond (.t 52) (.seq (.aT [qM 53 0,qX 54 53,qF 55 33 54,qL 56 55,qF 57 3 8,qL 58 57,qF 59 1 5,qL 60 59,qI 61 1 56 58,qO 1 61 60] [[],[0],[0,1],[0,1,2],[],[4],[],[6],(rg 8),(rg 9)] []) (.seq (.aa [qM 62 4,qM 63 4,qX 64 63,qL 65 64,o 66 (.call 162 [.t 65,(i64 0),(i64 1)] .share),qX 67 62,qO 1 67 66]) (.seq (.aa [qM 68 0,qF 69 1 8,qL 70 69,o 71 (.call 135 [.t 68,.t 70] .share),qE 72 0 71,qE 73 1 71,qO 4 2 72,qM 3 73]) .ret))) .skip))))) (.aa [qC 74 .add 36 1,qM 36 74]))))))) (.seq (.aa [qM 75 0,o 76 (.call 161 [.t 75,(i64 5)] .share),qE 77 0 76,qE 78 1 76,qO 4 2 77,qM 3 78]) .ret))))))⟩
def KM:aq:=⟨2,19,[.cell 4 (some 4),.tmp 5],(.seq (.aa [o 4 (.alloc [.bool false,zi,zi,zi]),qY 5 false]) (.seq (.aT [qM 6 0,qX 7 6,qF 8 3 7,qF 9 0 8,qL 10 9,qM 11 0,qX 12 11,qF 13 7 12,qF 14 0 13,qL 15 14,qM 16 1,qI 17 1 10 15,qO 1 17 16] [[],[0],[0,1],[0,1,2],(rg 4),[],[5],[5,6],[5,6,7],[5,6,7,8],[],(rg 11),(rg 12)] []) (.seq (.aa [o 18 (.build [.bool false,zi,zi,zi] [(0,1,(.c (.bool true)))]),qO 4 4 18,qY 5 true]) .ret)))⟩
def KL:aq:=⟨1,32,[.tmp 2,.tmp 3],(.seq (.aa [o 1 (.box (.t 0)),o 2 (.mv (.c (.ak))),qY 3 false]) (.seq (.seq (.aa [qF 7 2 1,qL 8 7,qC 9 .eql 8 0]) (.cond (.t 9) (.seq (.aa [qF 10 4 1,qL 11 10,qF 12 5 1,qL 13 12,qF 14 6 1,qG 15 4 14,qF 16 10 1,qG 17 9 16,o 18 (.build zL1 [(0,1,(i64 7)),(2,1,.t 11),(3,1,.t 13),(4,4,.t 15),(8,9,.t 17)]),o 4 (.alloc zL1),qO 20 4 18]) (.seq (.aT [qG 19 20 4,oZ 20 (.aQ 1 zL1 [(0,20,.t 19)]),qF 21 3 1,qL 22 21,qC 23 .eql 22 0,qM 2 20,qM 3 23] [[],[0],[],[2],[2,3],[0,1],(rg 6)] [(1,3)]) .ret)) .skip)) (.seq (.aa [qG 25 19 1,qK 26 163 [25],qM 24 26,qE 27 0 24,qE 28 1 24,o 5 (.alloc zL1),qO 20 5 27,qM 6 28]) (.seq (.aa [qG 29 20 5,oZ 30 (.aQ 1 zL1 [(0,20,.t 29)]),qM 31 6,qM 2 30,qM 3 31]) .ret))))⟩
def KK:aq:=⟨1,8,[.tmp 2],(.seq (.aa [o 2 (.mv (.c (.ak)))]) (.seq (.seq (.aa [qM 3 0,o 4 (.eq .slice false (.t 3) (.c (.ak)))]) (.cond (.t 4) (.seq (.aa [o 2 (.mv (.c (.ak)))]) .ret) .skip)) (.seq (.aa [o 5 (.aQ 0 [] []),qM 6 0,qA 7 2 32 5 6,qM 2 7]) .ret)))⟩
def KJ:aq:=⟨1,34,[.tmp 2],(.seq (.aa [qY 2 false]) (.seq (.aa [o 3 (.alloc [.bool false,.bool false,.bool false,.bool false])]) (.seq (.seq (.aa [qM 6 0,qN 7 6,qZ 8 0]) (.block 0 (.loop (.seq (.aa [qB 9 .lss 8 7]) (.seq (.cond (.t 9) .skip (.exit 0)) (.seq (.block 1 (.seq (.aa [qI 10 19 6 8,qG 11 19 10,o 5 (.alloc zL2),qO 19 5 11]) (.seq (.seq (.aT [qF 12 2 5,qL 13 12,qC 14 .neq 13 4,qM 15 14,qFF 16 15 4 5,qLF 17 15 16,qMF 18 15 0,oF 19 15 (.bL 19 (.t 18) (i64 0)),qFF 20 15 4 19,qLF 21 15 20,qBF 22 15 .neq 17 21,qP 23 15 22,qM 24 23,qFF 25 24 5 5,qLF 26 24 25,oF 27 24 (.kO 4 1 (.t 3) (.t 26)),qLF 28 24 27,qP 29 24 28] [[],[0],[0,1],[0,1,2],(rg 4),(rg 5),(rg 4),[0,1,2,3,6],[0,1,2,3,6,7],[0,1,2,3,6,7,8],(rg 10),(rg 11),(rg 12),(rg 13),(rg 14),(rg 15),(rg 16),(rg 17)] []) (.cond (.t 29) (.seq (.aa [qY 2 false]) .ret) .skip)) (.aa [qF 30 5 5,qL 31 30,o 32 (.kO 4 1 (.t 3) (.t 31)),oN (.store 1 (.t 32) (.c (.bool true)))])))) (.aa [qC 33 .add 8 1,qM 8 33]))))))) (.seq (.aa [qY 2 true]) .ret))))⟩
def KI:aq:=⟨2,41,[.tmp 4],(.seq (.aa [o 2 (.box (.t 0)),o 3 (.box (.t 1)),qY 4 false]) (.seq (.aa [qF 6 10 2,qG 7 9 6,qK 8 109 [7],o 5 (.alloc zL3),qO 9 5 8]) (.seq (.aa [qF 9 2 2,qL 10 9,qC 11 .eql 10 2,qM 12 11,qFT 13 12 2 3,qLT 14 12 13,qCT 15 12 .eql 14 2,qQ 16 12 15,qM 17 16,qFT 18 17 0 5,qLT 19 17 18,qFT 20 17 10 3,qFT 21 17 0 20,qLT 22 17 21,qBT 23 17 .eql 19 22,qQ 24 17 23,qM 25 24,qFT 26 25 1 5,qGT 27 25 4 26,qFT 28 25 10 3,qFT 29 25 1 28,qGT 30 25 4 29,qKT 31 25 164 [27,30],qQ 32 25 31,qM 33 32,qFT 34 33 5 5,qGT 35 33 4 34,qFT 36 33 10 3,qFT 37 33 5 36,qGT 38 33 4 37,qKT 39 33 164 [35,38],qQ 40 33 39,qM 4 40]) .ret)))⟩
def KH:aq:=⟨2,9,[.tmp 4],(.seq (.aa [qY 4 false]) (.seq (.aa [qM 5 0,qM 6 1,qK 7 165 [5,6],qC 8 .geq 7 0,qM 4 8]) .ret))⟩
def KG:aq:=⟨1,22,[.tmp 2],(.seq (.aa [o 1 (.box (.t 0)),qY 2 false]) (.seq (.aa [qF 3 0 1,qL 4 3,qC 5 .eql 4 0,qM 6 5,qFT 7 6 1 1,qLT 8 6 7,qCT 9 6 .eql 8 0,qQ 10 6 9,qM 11 10,qFT 12 11 2 1,qLT 13 11 12,qCT 14 11 .eql 13 0,qQ 15 11 14,qM 16 15,qFT 17 16 3 1,qLT 18 16 17,qNT 19 16 18,qCT 20 16 .eql 19 0,qQ 21 16 20,qM 2 21]) .ret))⟩
def KF:aq:=⟨1,16,[.tmp 2],(.seq (.aa [o 1 (.box (.t 0)),qY 2 false]) (.seq (.aa [qF 3 0 1,qL 4 3,qC 5 .eql 4 0,qM 6 5,qFT 7 6 1 1,qGT 8 6 4 7,qKT 9 6 141 [8],qQ 10 6 9,qM 11 10,qFT 12 11 5 1,qGT 13 11 4 12,qKT 14 11 141 [13],qQ 15 11 14,qM 2 15]) .ret))⟩
def KE:aq:=⟨2,60,[.tmp 4],(.seq (.aa [o 2 (.box (.t 0)),qY 4 false]) (.seq (.seq (.aT [qF 7 3 2,qL 8 7,qN 9 8,qF 10 0 2,qL 11 10,qK 12 166 [11],qB 13 .neq 9 12] [[],[0],[0,1],[],[3],[3,4],(rg 6)] []) (.cond (.t 13) (.seq (.aa [qY 4 false]) .ret) .skip)) (.seq (.seq (.aa [qF 14 0 2,qL 15 14,qC 16 .neq 15 1,qM 17 16,qFT 18 17 1 2,qLT 19 17 18,qCT 20 17 .neq 19 0,qQ 21 17 20,qM 22 21,qFF 23 22 0 2,qLF 24 22 23,qCF 25 22 .neq 24 2,qMF 26 22 25,qFT 27 26 2 2,qLT 28 26 27,qCT 29 26 .neq 28 0,qQF 30 22 26 29,qP 31 22 30,qM 32 31,qFF 33 32 0 2,qLF 34 32 33,qCF 35 32 .eql 34 2,qMF 36 32 35,qFT 37 36 2 2,qLT 38 36 37,qMT 39 36 1,qCT 40 36 .sub 39 1,oT 41 36 (.call 81 [.t 38,(i64 0),.t 40] .borrow),qUT 42 36 41,qQF 43 32 36 42,qP 44 32 43]) (.cond (.t 44) (.seq (.aa [qY 4 false]) .ret) .skip)) (.seq (.seq (.aa [qF 45 3 2,qL 46 45,qN 47 46,qZ 48 0]) (.block 0 (.loop (.seq (.aa [qB 49 .lss 48 47]) (.seq (.cond (.t 49) .skip (.exit 0)) (.seq (.block 1 (.seq (.aa [qI 50 4 46 48,qG 51 4 50,o 6 (.alloc [zi,zi,zi,.ak]),qO 4 6 51]) (.seq (.aa [qG 52 4 6,qM 53 1,qK 54 143 [52,53],qU 55 54]) (.cond (.t 55) (.seq (.aa [qY 4 false]) .ret) .skip)))) (.aa [qC 56 .add 48 1,qM 48 56]))))))) (.seq (.aa [qF 57 1 2,qL 58 57,o 59 (.call 81 [.t 58,(i64 0),(i64 2147483647)] .borrow),qM 4 59]) .ret)))))⟩
def KD:aq:=⟨2,20,[.tmp 4],(.seq (.aa [o 2 (.box (.t 0)),qY 4 false]) (.seq (.aa [qF 5 0 2,qL 6 5,o 7 (.call 81 [.t 6,(i64 1),(i64 6)] .borrow),qM 8 7,qFT 9 8 1 2,qGT 10 8 4 9,qMT 11 8 1,qKT 12 8 143 [10,11],qQ 13 8 12,qM 14 13,qFT 15 14 5 2,qGT 16 14 4 15,qMT 17 14 1,qKT 18 14 143 [16,17],qQ 19 14 18,qM 4 19]) .ret))⟩
def KC:aq:=⟨3,27,[.tmp 6],(.seq (.aa [o 3 (.box (.t 0)),qY 6 false]) (.seq (.aT [qM 7 1,qF 8 0 3,qF 9 0 8,qL 10 9,qN 11 10,qC 12 .sub 11 1,o 13 (.call 81 [.t 7,(i64 0),.t 12] .borrow),qM 14 13,qMT 15 14 2,qFT 16 14 0 3,qFT 17 14 0 16,qLT 18 14 17,qMT 19 14 1,qIT 20 14 6 18 19,qGT 21 14 6 20,oT 22 14 (.cN (.t 15) [.t 21] .borrow),qFT 23 14 2 3,qLT 24 14 23,qBT 25 14 .eql 22 24,qQ 26 14 25,qM 6 26] [[],[],[1],[1,2],[1,2,3],[1,2,3,4],(rg 6),(rg 7),(rg 8),(rg 8),[0,1,2,3,4,5,6,7,9],[0,1,2,3,4,5,6,7,9,10],(rg 8),[0,1,2,3,4,5,6,7,9,10,11,12],[0,1,2,3,4,5,6,7,9,10,11,12,13],(rg 15),(rg 8),[0,1,2,3,4,5,6,7,16],(rg 18),(rg 19),(rg 20)] []) .ret))⟩
def KB:aq:=⟨1,5,[.tmp 2],(.seq (.aa [o 1 (.box (.t 0)),qZ 2 0]) (.seq (.aa [qF 3 2 1,qL 4 3,qM 2 4]) .ret))⟩
def KA:aq:=⟨3,17,[.tmp 6],(.seq (.aa [o 3 (.box (.t 0)),qY 6 false]) (.seq (.aa [qM 7 2,qF 8 0 3,qF 9 0 8,qL 10 9,qM 11 1,qI 12 6 10 11,qF 13 4 12,qL 14 13,qC 15 .sub 14 1,o 16 (.call 81 [.t 7,(i64 0),.t 15] .borrow),qM 6 16]) .ret))⟩
def Kz:aq:=⟨1,5,[.tmp 2],(.seq (.aa [o 1 (.box (.t 0)),qZ 2 0]) (.seq (.aa [qF 3 3 1,qL 4 3,qM 2 4]) .ret))⟩
def Ky:aq:=⟨3,51,[.tmp 6],(.seq (.aa [o 3 (.box (.t 0)),qY 6 false]) (.seq (.aa [o 7 (.alloc [.bool false,.bool false,.bool false,.bool false])]) (.seq (.seq (.aa [qM 10 2,qN 11 10,qZ 12 0]) (.block 0 (.loop (.seq (.aa [qB 13 .lss 12 11]) (.seq (.cond (.t 13) .skip (.exit 0)) (.seq (.block 1 (.seq (.aa [qI 14 3 10 12,qG 15 3 14,o 9 (.alloc [zi,zi,.ak]),qO 3 9 15]) (.seq (.seq (.aa [qG 16 4 3,qM 17 1,qF 18 0 9,qL 19 18,qK 20 147 [16,17,19],qU 21 20,qM 22 21,qFF 23 22 0 9,qLF 24 22 23,oF 25 22 (.kO 4 1 (.t 7) (.t 24)),qLF 26 22 25,qP 27 22 26,qM 28 27,qFF 29 28 1 9,qLF 30 28 29,qFF 31 28 3 3,qLF 32 28 31,qCF 33 28 .sub 32 1,oF 34 28 (.call 81 [.t 30,(i64 0),.t 33] .borrow),qUF 35 28 34,qP 36 28 35,qM 37 36,qGF 38 37 4 3,qFF 39 37 2 9,qLF 40 37 39,qKF 41 37 83 [38,40],qUF 42 37 41,qP 43 37 42]) (.cond (.t 43) (.seq (.aa [qY 6 false]) .ret) .skip)) (.aa [qF 44 0 9,qL 45 44,o 46 (.kO 4 1 (.t 7) (.t 45)),oN (.store 1 (.t 46) (.c (.bool true)))])))) (.aa [qC 47 .add 12 1,qM 12 47]))))))) (.seq (.aa [qM 48 2,qN 49 48,qC 50 .gtr 49 0,qM 6 50]) .ret))))⟩
def Kx:aq:=⟨4,76,[],(.seq (.aa [qM 10 1,qM 8 10]) (.block 0 (.loop (.block 1 (.seq (.aa [qM 11 8,o 12 (.bin .mul (i64 2) (.t 11)),qC 13 .add 12 1,qM 9 13]) (.seq (.seq (.aa [qM 14 9,qM 15 2,qB 16 .geq 14 15]) (.cond (.t 16) (.exit 0) .skip)) (.seq (.seq (.aT [qM 17 9,qC 18 .add 17 1,qM 19 2,qB 20 .lss 18 19,qM 21 20,qMT 22 21 0,qMT 23 21 3,qMT 24 21 9,qBT 25 21 .add 23 24,qIT 26 21 1 22 25,qLT 27 21 26,qMT 28 21 0,qMT 29 21 3,qMT 30 21 9,qBT 31 21 .add 29 30,qCT 32 21 .add 31 1,qIT 33 21 1 28 32,qLT 34 21 33,qKT 35 21 118 [27,34],qQ 36 21 35] [[],[0],[],[0,1,2],(rg 4),(rg 5),(rg 5),(rg 5),[0,1,2,3,4,6,7],(rg 9),(rg 10),(rg 5),(rg 5),(rg 5),[0,1,2,3,4,12,13],[0,1,2,3,4,12,13,14],[0,1,2,3,4,11,12,13,14,15],[0,1,2,3,4,11,12,13,14,15,16],(rg 18),(rg 19)] []) (.cond (.t 36) (.aa [qM 37 9,qC 38 .add 37 1,qM 9 38]) .skip)) (.seq (.seq (.aT [qM 39 0,qM 40 3,qM 41 8,qB 42 .add 40 41,qI 43 1 39 42,qL 44 43,qM 45 0,qM 46 3,qM 47 9,qB 48 .add 46 47,qI 49 1 45 48,qL 50 49,qK 51 118 [44,50],qU 52 51] [[],[],[],[1,2],(rg 4),(rg 5),[],[],[],[7,8],[6,7,8,9],[6,7,8,9,10],(rg 12),(rg 13)] []) (.cond (.t 52) .ret .skip)) (.seq (.aT [qM 53 0,qM 54 3,qM 55 8,qB 56 .add 54 55,qM 57 0,qM 58 3,qM 59 9,qB 60 .add 58 59,qM 61 0,qM 62 3,qM 63 9,qB 64 .add 62 63,qI 65 1 61 64,qL 66 65,qM 67 0,qM 68 3,qM 69 8,qB 70 .add 68 69,qI 71 1 67 70,qL 72 71,qI 73 1 53 56,qO 1 73 66,qI 74 1 57 60,qO 1 74 72] [[],[],[],[1,2],[],[],[],[5,6],[],[],[],[9,10],[8,9,10,11],[8,9,10,11,12],[],[],[],[15,16],[14,15,16,17],[14,15,16,17,18],[0,1,2,3,8,9,10,11,12,13,14,15,16,17,18,19],[0,1,2,3,8,9,10,11,12,13,14,15,16,17,18,19,20],(rg 22),(rg 23)] []) (.aa [qM 75 9,qM 8 75]))))))))))⟩
def Kw:aq:=⟨1,7,[.tmp 2],(.seq (.aa [o 2 (.mv (.c (.int .u64 0)))]) (.seq (.aa [qM 3 0,o 4 (.conv .u64 (.t 3)),qK 5 88 [4],o 6 (.bin .shl (.c (.int .u64 1)) (.t 5)),qM 2 6]) .ret))⟩
def Kv:aq:=⟨1,33,[.tmp 2],(.seq (.aa [o 2 (.mv (.c (.int .u64 0)))]) (.seq (.aT [qM 3 0,qX 4 3,qL 5 4,qM 6 0,qX 7 6,qL 8 7,o 9 (.bin .shl (.t 8) (.c (.int .u64 13))),qB 10 .xor 5 9,qX 11 3,qO 1 11 10] [[],[0],[0,1],[],[3],[3,4],[3,4,5],(rg 7),(rg 8),(rg 9)] []) (.seq (.aT [qM 12 0,qX 13 12,qL 14 13,qM 15 0,qX 16 15,qL 17 16,o 18 (.bin .shr (.t 17) (.c (.int .u64 7))),qB 19 .xor 14 18,qX 20 12,qO 1 20 19] [[],[0],[0,1],[],[3],[3,4],[3,4,5],(rg 7),(rg 8),(rg 9)] []) (.seq (.aT [qM 21 0,qX 22 21,qL 23 22,qM 24 0,qX 25 24,qL 26 25,o 27 (.bin .shl (.t 26) (.c (.int .u64 17))),qB 28 .xor 23 27,qX 29 21,qO 1 29 28] [[],[0],[0,1],[],[3],[3,4],[3,4,5],(rg 7),(rg 8),(rg 9)] []) (.seq (.aa [qM 30 0,qX 31 30,qL 32 31,qM 2 32]) .ret)))))⟩
def Ku:aq:=⟨3,15,[.tmp 6],(.seq (.aa [qZ 6 0]) (.seq (.aa [qM 7 0,qM 8 1,qC 9 .sub 8 1,qM 10 1,qM 11 1,qC 12 .add 11 1,qM 13 2,o 14 (.call 154 [.t 7,.t 9,.t 10,.t 12,.t 13] .share),qM 6 14]) .ret))⟩
def Kt:aq:=⟨5,36,[.tmp 10],(.seq (.aa [qZ 10 0]) (.seq (.aa [qM 12 0,qM 13 1,qM 14 2,qM 15 4,o 16 (.call 167 [.t 12,.t 13,.t 14,.t 15] .share),qM 11 16,qE 17 0 11,qE 18 1 11,qM 1 17,qM 2 18]) (.seq (.aa [qM 20 0,qM 21 2,qM 22 3,qM 23 4,o 24 (.call 167 [.t 20,.t 21,.t 22,.t 23] .share),qM 19 24,qE 25 0 19,qE 26 1 19,qM 2 25,qM 3 26]) (.seq (.aa [qM 28 0,qM 29 1,qM 30 2,qM 31 4,o 32 (.call 167 [.t 28,.t 29,.t 30,.t 31] .share),qM 27 32,qE 33 0 27,qE 34 1 27,qM 1 33,qM 2 34]) (.seq (.aa [qM 35 2,qM 10 35]) .ret)))))⟩
def Ks:aq:=⟨1,6,[.tmp 2],(.seq (.aa [qY 2 false]) (.seq (.aa [qM 3 0,qM 4 0,qB 5 .neq 3 4,qM 2 5]) .ret))⟩
def Kr:aq:=⟨2,19,[.cell 4 (some 4),.tmp 5],(.seq (.aa [o 4 (.alloc [.bool false,zi,zi,zi]),qY 5 false]) (.seq (.aT [qM 6 1,qM 7 0,qX 8 7,qF 9 7 8,qF 10 0 9,qL 11 10,qM 12 0,qX 13 12,qF 14 13 13,qL 15 14,o 16 (.bL 1 (.t 15) (i64 0)),qL 17 16,o 18 (.build [.bool false,zi,zi,zi] [(1,1,.t 6),(2,1,.t 11),(3,1,.t 17)]),qO 4 4 18,qY 5 true] [[],[],[1],[1,2],[1,2,3],[1,2,3,4],[],[6],[6,7],[6,7,8],[6,7,8,9],[6,7,8,9,10],(rg 12),(rg 13),(rg 14)] []) .ret))⟩
def Kq:aq:=⟨3,33,[.tmp 6],(.seq (.aa [o 6 (.mv (.c (.ak)))]) (.seq (.aa [qM 8 0,qM 9 1,qM 10 2,qM 11 0,qN 12 11,o 13 (.iR 2 (.t 8) (some (.t 9)) (some (.t 10)) (some (.t 12)))]) (.seq (.seq (.aa [qM 14 1,qM 15 2,qB 16 .eql 14 15]) (.cond (.t 16) (.seq (.aa [qM 17 0,qM 6 17]) .ret) .skip)) (.seq (.aa [qM 18 0,qN 19 18,qM 7 19]) (.seq (.aT [qM 20 0,qM 21 1,o 22 (.iR 2 (.t 20) none (some (.t 21)) none),qM 23 0,qM 24 2,o 25 (.iR 2 (.t 23) (some (.t 24)) none none),qA 26 2 16 22 25,qM 0 26] [[],[],[0,1],[],[],[3,4],(rg 6),(rg 7)] []) (.seq (.aa [qM 27 0,qM 28 0,qN 29 28,qM 30 7,o 31 (.iR 2 (.t 27) (some (.t 29)) (some (.t 30)) none),oN (.EU 2 [zi,zi] (.t 31))]) (.seq (.aa [qM 32 0,qM 6 32]) .ret)))))))⟩
def Kp:aq:=⟨1,45,[.cell 2 (some 20),.tmp 3],(.seq (.aa [o 1 (.box (.t 0)),o 2 (.alloc zL1),qY 3 false]) (.seq (.aa [qF 5 3 1,qL 6 5,qF 7 4 1,qL 8 7,qF 9 5 1,qL 10 9,qF 11 6 1,qG 12 4 11,qF 13 10 1,qG 14 9 13,o 15 (.build zL1 [(1,1,.t 6),(2,1,.t 8),(3,1,.t 10),(4,4,.t 12),(8,9,.t 14)]),o 4 (.alloc zL1),qO 20 4 15]) (.seq (.seq (.aa [qF 16 2 1,qL 17 16]) (.block 0 (.seq (.aa [qC 20 .eql 17 1,qM 19 20]) (.cond (.t 19) (.aa [qF 21 0 4,oN (.store 1 (.t 21) (i64 1))]) (.seq (.seq (.aa [qC 23 .eql 17 2,qM 22 23]) (.cond (.t 22) .skip (.aa [qC 24 .eql 17 5,qM 22 24]))) (.cond (.t 22) (.aa [qF 25 0 4,oN (.store 1 (.t 25) (i64 6))]) (.seq (.aa [qC 27 .eql 17 3,qM 26 27]) (.cond (.t 26) (.aa [qF 28 0 4,oN (.store 1 (.t 28) (i64 4))]) (.seq (.aa [qC 30 .eql 17 6,qM 29 30]) (.cond (.t 29) (.aa [qF 31 0 4,oN (.store 1 (.t 31) (i64 7))]) (.seq (.aa [qC 33 .eql 17 4,qM 32 33]) (.cond (.t 32) (.seq (.aa [qF 34 0 4,oN (.store 1 (.t 34) (i64 5))]) (.seq (.aa [qF 35 5 1,qL 36 35,qF 37 3 1,qL 38 37,o 39 (.build [zi,zi,.ak] [(0,1,.t 36),(1,1,.t 38)]),oZ 40 (.aQ 1 [zi,zi,.ak] [(0,3,.t 39)]),qF 41 19 4,qO 1 41 40]) (.aa [qF 42 1 4,oN (.store 1 (.t 42) (i64 0)),qF 43 3 4,oN (.store 1 (.t 43) (i64 0))]))) (.seq (.aa [qG 18 20 4,qO 20 2 18,qY 3 false]) .ret))))))))))))) (.seq (.aa [qG 44 20 4,qO 20 2 44,qY 3 true]) .ret))))⟩
def Ko:aq:=⟨2,31,[.tmp 4],(.seq (.aa [o 2 (.box (.t 0)),o 3 (.box (.t 1)),qY 4 false]) (.seq (.aa [qF 5 0 2,qL 6 5,qF 7 0 3,qL 8 7,qB 9 .eql 6 8,qM 10 9,qFT 11 10 1 2,qLT 12 10 11,qFT 13 10 1 3,qLT 14 10 13,qBT 15 10 .eql 12 14,qQ 16 10 15,qM 17 16,qFT 18 17 2 2,qLT 19 17 18,qFT 20 17 2 3,qLT 21 17 20,qBT 22 17 .eql 19 21,qQ 23 17 22,qM 24 23,qFT 25 24 3 2,qLT 26 24 25,qFT 27 24 3 3,qLT 28 24 27,oT 29 24 (.call 169 [.t 26,.t 28,(.c (.func 164))] .borrow),qQ 30 24 29,qM 4 30]) .ret))⟩
def Km:aq:=⟨2,19,[.tmp 4],(.seq (.aa [qZ 4 0]) (.seq (.seq (.aa [qM 6 0,qN 7 6,qZ 8 0]) (.block 0 (.loop (.seq (.aa [qB 9 .lss 8 7]) (.seq (.cond (.t 9) .skip (.exit 0)) (.seq (.block 1 (.seq (.aa [qM 10 8,qM 5 10]) (.seq (.aa [qM 11 1,qM 12 0,qM 13 5,qI 14 1 12 13,qL 15 14,qB 16 .eql 11 15]) (.cond (.t 16) (.seq (.aa [qM 17 5,qM 4 17]) .ret) .skip)))) (.aa [qC 18 .add 8 1,qM 8 18]))))))) (.seq (.aa [o 4 (.mv (i64 (-1)))]) .ret)))⟩
def Kl:aq:=⟨1,16,[.tmp 2],(.seq (.aa [qZ 2 0]) (.seq (.block 0 (.seq (.aa [qM 4 0,qC 5 .eql 4 1,qM 6 5,qMF 7 6 0,qCF 8 6 .eql 7 2,qP 9 6 8,qM 3 9]) (.cond (.t 3) (.seq (.aa [qZ 2 0]) .ret) (.seq (.aa [qM 11 0,qC 12 .eql 11 3,qM 10 12]) (.cond (.t 10) (.seq (.aa [qZ 2 1]) .ret) (.seq (.aa [qM 14 0,o 15 (.call 81 [.t 14,(i64 4),(i64 8)] .borrow),qM 13 15]) (.cond (.t 13) (.seq (.aa [qZ 2 2]) .ret) .skip))))))) (.seq (.aa [o 2 (.mv (i64 (-1)))]) .ret)))⟩
def Kk:aq:=⟨4,28,[.tmp 8,.tmp 9],(.seq (.aa [qZ 8 0,qZ 9 0]) (.seq (.seq (.aT [qM 10 0,qM 11 2,qI 12 1 10 11,qL 13 12,qM 14 0,qM 15 1,qI 16 1 14 15,qL 17 16,qK 18 118 [13,17]] [[],[],[0,1],[0,1,2],[],[],[4,5],[4,5,6],(rg 8)] []) (.cond (.t 18) (.seq (.aa [qM 19 3,qX 20 19,qL 21 20,qC 22 .add 21 1,qX 23 19,qO 1 23 22]) (.seq (.aa [qM 24 2,qM 25 1,qM 8 24,qM 9 25]) .ret)) .skip)) (.seq (.aa [qM 26 1,qM 27 2,qM 8 26,qM 9 27]) .ret)))⟩
def Kj:aq:=⟨3,32,[.tmp 6],(.seq (.aa [qY 6 false]) (.seq (.seq (.aa [qM 10 0,qN 11 10,qM 12 1,qN 13 12,qB 14 .neq 11 13]) (.cond (.t 14) (.seq (.aa [qY 6 false]) .ret) .skip)) (.seq (.seq (.aa [qM 15 0,qN 16 15,qZ 17 0]) (.block 0 (.loop (.seq (.aa [qB 18 .lss 17 16]) (.seq (.cond (.t 18) .skip (.exit 0)) (.seq (.block 1 (.seq (.aa [qM 19 17,qI 20 4 15 17,qG 21 4 20,o 8 (.alloc [zi,zi,zi,.ak]),qM 7 19,qO 4 8 21]) (.seq (.aa [qM 22 1,qM 23 7,qI 24 4 22 23,qG 25 4 24,o 9 (.alloc [zi,zi,zi,.ak]),qO 4 9 25]) (.seq (.aa [qM 26 2,qG 27 4 8,qG 28 4 9,o 29 (.cN (.t 26) [.t 27,.t 28] .borrow),qU 30 29]) (.cond (.t 30) (.seq (.aa [qY 6 false]) .ret) .skip))))) (.aa [qC 31 .add 17 1,qM 17 31]))))))) (.seq (.aa [qY 6 true]) .ret))))⟩
def prog:Map aq:=.node none (.node none (.node none (.node none (.node none (.node (some Oi) (.node (some N4) (.leaf) (.leaf)) (.leaf)) (.node none (.node (some No) (.node (some KE) (.leaf) (.leaf)) (.leaf)) (.node (some K6) (.leaf) (.leaf)))) (.node none (.node (some Oe) (.node none (.node (some KM) (.leaf) (.leaf)) (.leaf)) (.node (some Ld) (.node (some Kk) (.leaf) (.leaf)) (.leaf))) (.node none (.node (some NU) (.node (some Kw) (.leaf) (.leaf)) (.leaf)) (.node (some KU) (.leaf) (.leaf))))) (.node none (.node none (.node (some Nv) (.node none (.node (some KP) (.leaf) (.leaf)) (.leaf)) (.node (some NS) (.node (some Kp) (.leaf) (.leaf)) (.leaf))) (.node none (.node (some NY) (.node (some KA) (.leaf) (.leaf)) (.leaf)) (.node (some KZ) (.leaf) (.leaf)))) (.node none (.node (some Oc) (.node (some N2) (.node (some KI) (.leaf) (.leaf)) (.leaf)) (.node (some K_) (.leaf) (.leaf))) (.node (some N8) (.node none (.node (some Ks) (.leaf) (.leaf)) (.leaf)) (.leaf))))) (.node none (.node none (.node none (.node (some Oh) (.leaf) (.node none (.node (some Kr) (.leaf) (.leaf)) (.leaf))) (.node none (.node (some N0) (.node (some KC) (.leaf) (.leaf)) (.leaf)) (.node (some K4) (.leaf) (.leaf)))) (.node none (.node (some Od) (.node (some Ik) (.node (some KK) (.leaf) (.leaf)) (.leaf)) (.node (some Lb) (.node (some Kj) (.leaf) (.leaf)) (.leaf))) (.node (some N9) (.node none (.node (some Ku) (.leaf) (.leaf)) (.leaf)) (.node (some KS) (.leaf) (.leaf))))) (.node none (.node none (.node none (.node none (.node (some zX) (.leaf) (.leaf)) (.leaf)) (.node (some Lf) (.node (some Km) (.leaf) (.leaf)) (.leaf))) (.node (some Oa) (.node (some NW) (.node (some Ky) (.leaf) (.leaf)) (.leaf)) (.node (some KX) (.leaf) (.leaf)))) (.node none (.node none (.node (some Nq) (.node (some KG) (.leaf) (.leaf)) (.leaf)) (.node (some K8) (.leaf) (.leaf))) (.node (some N6) (.leaf) (.leaf)))))) (.node none (.node none (.node none (.node (some Il) (.leaf) (.node none (.node (some N1) (.node (some KD) (.leaf) (.leaf)) (.leaf)) (.node (some K5) (.leaf) (.leaf)))) (.node none (.node none (.node none (.node (some KL) (.leaf) (.leaf)) (.leaf)) (.node (some Lc) (.leaf) (.leaf))) (.node (some N_) (.node (some NT) (.node (some Kv) (.leaf) (.leaf)) (.leaf)) (.node (some KT) (.leaf) (.leaf))))) (.node none (.node none (.node none (.node none (.node (some KO) (.leaf) (.leaf)) (.leaf)) (.node (some Lg) (.node (some Ko) (.leaf) (.leaf)) (.leaf))) (.node (some Nu) (.node (some NX) (.node (some Kz) (.leaf) (.leaf)) (.leaf)) (.node (some KY) (.leaf) (.leaf)))) (.node none (.node none (.node (some Nr) (.node (some KH) (.leaf) (.leaf)) (.leaf)) (.node (some K9) (.leaf) (.leaf))) (.node (some N7) (.leaf) (.leaf))))) (.node none (.node none (.node none (.node none (.node none (.node (some KQ) (.leaf) (.leaf)) (.leaf)) (.node (some Ij) (.node (some Kq) (.leaf) (.leaf)) (.leaf))) (.node (some Ob) (.node (some NZ) (.node (some KB) (.leaf) (.leaf)) (.leaf)) (.node (some K3) (.leaf) (.leaf)))) (.node none (.node none (.node (some N3) (.node (some KJ) (.leaf) (.leaf)) (.leaf)) (.node (some La) (.leaf) (.leaf))) (.node (some Ns) (.node none (.node (some Kt) (.leaf) (.leaf)) (.leaf)) (.node (some KR) (.leaf) (.leaf))))) (.node none (.node (some Nw) (.node (some Og) (.node none (.node (some KN) (.leaf) (.leaf)) (.leaf)) (.node (some Le) (.node (some Kl) (.leaf) (.leaf)) (.leaf))) (.node (some Nt) (.node (some NV) (.node (some Kx) (.leaf) (.leaf)) (.leaf)) (.node (some KV) (.leaf) (.leaf)))) (.node none (.node none (.node (some Np) (.node (some KF) (.leaf) (.leaf)) (.leaf)) (.node (some K7) (.leaf) (.leaf))) (.node (some N5) (.leaf) (.leaf))))))
end Go.Ax.dR
namespace Go.Ax.V
theorem uJ:∀(cs:List TV) (n:Nat),oP cs n=if n<=cs.length then some (cs.take n) else none
 |cs,0=>by simp [oP]
 |[],n+1=>by simp [oP]
 |x::xs,n+1=>by
  simp only [oP,uJ xs n,Qa,Nat.add_le_add_iff_right,List.take_succ_cons];by_cases h:n<=xs.length
  ·rw [if_pos h,if_pos h]
  ·rw [if_neg h,if_neg h]
theorem AS:∀(cs:List TV) (off n:Nat),BG cs off n=if off+n<=cs.length then some ((cs.drop off).take n) else none
 |cs,0,n=>by simp [BG,uJ]
 |[],o+1,n=>by simp [BG]
 |x::xs,o+1,n=>by
  simp only [BG,AS xs o n,Qa,List.drop_succ_cons];by_cases h:o+n<=xs.length
  ·rw [if_pos h,if_pos (by omega)]
  ·rw [if_neg h,if_neg (by omega)]
theorem tW:∀(cells cs:List TV),oA cells cs=if cs.length<=cells.length then some (cs++cells.drop cs.length) else none
 |cells,[]=>by cases cells<;>simp [oA]
 |[],y::ys=>by simp [oA]
 |x::xs,y::ys=>by
  simp only [oA,tW xs ys,Qa,Nat.add_le_add_iff_right,List.drop_succ_cons,List.cons_append];by_cases h:ys.length<=xs.length
  ·rw [if_pos h,if_pos h]
  ·rw [if_neg h,if_neg h]
theorem xd:∀(cells:List TV) (off:Nat) (cs:List TV),tV cells off cs=if off+cs.length<=cells.length then some (cells.take off++cs++cells.drop (off+cs.length)) else none
 |cells,0,cs=>by cases cells<;>simp [tV,tW]
 |[],o+1,cs=>by simp [tV]
 |x::xs,o+1,cs=>by
  simp only [tV,xd xs o cs,Qa];by_cases h:o+cs.length<=xs.length
  ·rw [if_pos h,if_pos (by omega)];simp [show o+1+cs.length=o+cs.length+1 by omega]
  ·rw [if_neg h,if_neg (by omega)]
theorem Fp {cells cs:List TV} {off:Nat} (h:off+cs.length<=cells.length) (j:Nat) :
  (cells.take off++cs++cells.drop (off+cs.length))[j]?=if off<=j/\j < off+cs.length then cs[j - off]? else cells[j]?:=by
 have h1:(cells.take off).length=off:=by rw [P8];omega
 rw [List.append_assoc];by_cases ha:j < off
 ·rw [PW (by omega),if_neg (by omega),P0,if_pos ha]
 ·rw [PX (by omega),h1];by_cases hb:j < off+cs.length
  ·rw [PW (by omega),if_pos (by omega)]
  ·rw [PX (by omega),if_neg (by omega),P3];congr 1;omega
theorem AB {a:AV} (h:a.flat=true):a.one=true/\a.cells?=some [a]/\a.eN=true:=by cases a<;>first|exact⟨rfl,rfl,rfl⟩|cases h
theorem q9 {a:AV} (h:CA a=true):a.flat=true:=by cases a<;>first|rfl|cases h
theorem BJ {t:TV} {a:AV} (h:Can t a) (h1:t.one=true):a.flat=true:=by cases h<;>first|rfl|exact q9 (by assumption)|cases h1
theorem dK {v:TV} {cells:List AV}:ld v cells↔∃ts,bH v=some ts/\eT ts cells:=by
 constructor
 ·intro h;cases h with
  |one _ x h1 h=>
   refine⟨[v],(by cases v<;>first|rfl|cases h1),rfl,fun j t y ht hy=>?_⟩;cases j with
   |zero=>simp at ht hy;subst ht;subst hy;exact h
   |succ j=>simp at ht
  |a ts _ hl h=>exact⟨ts,rfl,hl,h⟩
 ·rintro⟨ts,h1,hl,h⟩;cases v with
  |a cs=>cases h1;exact .a _ _ hl h
  |tp vs=>cases h1
  |_=>
   cases h1
   match cells,hl with
   |[x],_=>exact .one _ _ rfl (h 0 _ _ rfl rfl)
def BR (ts:List TV) (cs:List AV):Prop:=eT ts cs/\∀x∈cs,AV.flat x=true
theorem oY {t:TV} {a:AV} {ts:List TV} (h:Can t a) (hc:bH t=some ts):∃as,a.cells?=some as/\BR ts as:=by
 have single:∀{t:TV} {a:AV},Can t a->t.one=true->BR [t] [a]:=fun h h1=>⟨⟨rfl,fun j u y hu hy=>by
  cases j with
  |zero=>simp at hu hy;subst hu;subst hy;exact h
  |succ j=>simp at hu⟩,fun x hx=>by simp at hx;subst hx;exact BJ h h1⟩
 cases h with
 |a ts as hl hf h=>cases hc;exact⟨as,rfl,⟨hl,h⟩,hf⟩
 |tp ts as hl hf h=>cases hc
 |i k n=>cases hc;exact⟨_,rfl,single (.i k n) rfl⟩
 |b x=>cases hc;exact⟨_,rfl,single (.b x) rfl⟩
 |s x=>cases hc;exact⟨_,rfl,single (.s x) rfl⟩
 |f n=>cases hc;exact⟨_,rfl,single (.f n) rfl⟩
 |np=>cases hc;exact⟨_,rfl,single .np rfl⟩
 |nil=>cases hc;exact⟨_,rfl,single .nil rfl⟩
 |b6 es cs n sz c hn hc' hz hf h=>cases hc;exact⟨_,rfl,single (.b6 es cs n sz c hn hc' hz hf h) rfl⟩
 |pZ x u hf h=>cases hc;exact⟨_,(AB (q9 hf)).2.1,single (.pZ a u hf h) rfl⟩
theorem fJ {v r:TV} {off:Nat} (h:ck v off=some r):∃ts,bH v=some ts/\ts[off]?=some r:=by
 cases v with
 |a cs=>exact⟨cs,rfl,h⟩
 |tp vs=>cases h
 |_=>cases off with
  |zero=>cases h;exact⟨_,rfl,rfl⟩
  |succ n=>cases h
theorem gp {v r:TV} {off n:Nat} (h:dr v off n=some r):∃ts,v=.a ts/\bH v=some ts/\off+n<=ts.length/\r=.a ((ts.drop off).take n):=by
 cases v with
 |a cs=>
  simp only [dr,AS] at h;by_cases hl:off+n<=cs.length
  ·rw [if_pos hl] at h;cases h;exact⟨cs,rfl,rfl,hl,rfl⟩
  ·rw [if_neg hl] at h;cases h
 |_=>cases h
theorem bP {v u x:TV} {off n:Nat} (h:dS v off n x=some u):∃ts xs us,bH v=some ts/\bH x=some xs/\xs.length=n/\bH u=some us/\us.length=ts.length/\off+n<=ts.length/\
  ∀j,us[j]?=if off<=j/\j < off+n then xs[j - off]? else ts[j]?:=by
 unfold dS at h;split at h
 ·cases h
 rename_i xs hx;simp only [cond_eq_ite,Qn] at h;split at h;rotate_left
 ·cases h
 rename_i hn;have one:∀{w:TV},bH v=some [w]->(if (Nat.beq off 0&&x.one)=true then some x else none)=some u->
   ∃ts xs us,bH v=some ts/\bH x=some xs/\xs.length=n/\bH u=some us/\us.length=ts.length/\off+n<=ts.length/\∀j,us[j]?=if off<=j/\j < off+n then xs[j - off]? else ts[j]?:=by
  intro w hv h;simp only [Qk,Qn] at h;split at h;rotate_left
  ·cases h
  rename_i hc;obtain⟨h0,h1⟩:=hc;have hu:=Qv h;subst hu;have hx1:xs=[x]:=by cases x<;>first|(simp only [bH,Option.some.injEq] at hx;exact hx.symm)|(simp [TV.one] at h1)
  subst hx1;simp at hn;subst hn;subst h0;refine⟨[w],[x],[x],hv,hx,rfl,hx,rfl,by simp,fun j=>?_⟩;cases j with
  |zero=>simp
  |succ j=>simp
 cases v with
 |a cs=>
  simp only [xd] at h;by_cases hl:off+xs.length<=cs.length
  ·rw [if_pos hl] at h;cases h;refine⟨cs,xs,_,rfl,hx,hn,rfl,?_,by omega,fun j=>?_⟩
   ·simp only [P7,P8,P9];omega
   ·rw [Fp hl,hn]
  ·rw [if_neg hl] at h;cases h
 |tp vs=>cases h
 |_=>exact one rfl h
theorem uR {ts:List TV} {cs:List AV} (h:eT ts cs) (off n:Nat):eT ((ts.drop off).take n) ((cs.drop off).take n):=by
 refine⟨by simp [h.1],fun j t x ht hx=>?_⟩;simp only [P0] at ht hx;split at ht
 ·rename_i hj;rw [if_pos hj] at hx;simp only [P3] at ht hx;exact h.2 _ _ _ ht hx
 ·cases ht
theorem fG {cs:List AV} (h:∀x∈cs,AV.flat x=true) (off n:Nat):∀x∈(cs.drop off).take n,AV.flat x=true:=
 fun x hx=>h x (List.mem_of_mem_drop (List.mem_of_mem_take hx))
theorem nG {v r:TV} {ts:List TV} {cs:List AV} {off:Nat} {sz:Option Nat} (hv:bH v=some ts) (hc:BR ts cs) (h:mN v off sz=some r) :
  ∃l a,cut cs off (bZ sz)=some l/\Ak sz l=some a/\Can r a:=by
 cases sz with
 |none=>
  obtain⟨ts',h1,h2⟩:=fJ h;rw [hv] at h1;cases h1;have hlt:off < ts.length:=by
   cases hh:ts[off]? with
   |none=>rw [hh] at h2;cases h2
   |some _=>exact(PV.1 hh).1
  have hlt':off < cs.length:=by rw [←hc.1.1];exact hlt
  have hx:cs[off]?=some cs[off]:=PU hlt';refine⟨[cs[off]],cs[off],?_,rfl,hc.1.2 _ _ _ h2 hx⟩;rw [cJ,bZ,if_pos (by omega)];rw [List.drop_eq_getElem_cons hlt'];rfl
 |some n=>
  obtain⟨ts',h0,h1,hl,rfl⟩:=gp h;rw [hv] at h1;cases h1;have hl':off+n<=cs.length:=by rw [←hc.1.1];exact hl
  refine⟨(cs.drop off).take n,.agg _,?_,rfl,?_⟩
  ·rw [cJ,bZ,if_pos hl']
  ·exact .a _ _ (uR hc.1 _ _).1 (fG hc.2 _ _) (uR hc.1 _ _).2
theorem gv {t:TV} {x a:AV} (h:nQ t=some x) (hc:Can t a):a=x:=by cases hc<;>first|(cases h;rfl)|cases h
theorem oO {r:AV} {t:TV} (h:AD r=some t):Can t r:=by cases r<;>first|(cases h;constructor)|cases h
theorem Es {op:BinOp} {x y r:TV} {a b:AV} (h:bF op x y=some r) (ha:Can x a) (hb:Can y b):∃c,yj op a b=some c/\Can r c:=by
 unfold bF at h;split at h
 ·rename_i x' hx;split at h
  ·rename_i y' hy;split at h
   ·rename_i c hc;rw [gv hx ha,gv hy hb];exact⟨c,hc,oO h⟩
   ·cases h
  ·cases h
 ·cases h
theorem E6 {op:UnOp} {x r:TV} {a:AV} (h:yu op x=some r) (ha:Can x a):∃c,GO op a=some c/\Can r c:=by
 unfold yu at h;split at h
 ·rename_i x' hx;split at h
  ·rename_i c hc;rw [gv hx ha];exact⟨c,hc,oO h⟩
  ·cases h
 ·cases h
theorem jN:∀{ts:List TV} {xs as:List AV},kS ts=some xs->eT ts as->as=xs
 |[],xs,as,h,hc=>by cases h;exact Qt.1 hc.1.symm
 |t::ts,xs,as,h,hc=>by
  simp only [kS] at h;split at h
  ·cases h
  rename_i x hx;split at h
  ·cases h
  rename_i l hl;cases h;cases as with
  |nil=>cases hc.1
  |cons a as=>rw [gv hx (hc.2 0 t a rfl rfl),jN hl ⟨Nat.succ.inj hc.1,fun j u y hu hy=>hc.2 (j+1) u y hu hy⟩]
end Go.Ax.V
namespace Go.Ax.V
theorem aZ (j i:Nat) (w:VV) (r:List (Nat×VV)):bq j ((i,w)::r)=if i=j then some w else bq j r:=by simp only [bq,cond_eq_ite,Qn]
theorem rN (off:Nat) (r:List (Nat×VV)) (j:Nat):∀l,bq j (nu off l r)=match (if off<=j then bq (j - off) l else none) with|some w=>some w|none=>bq j r
 |[]=>by simp only [nu,bq];split<;>simp_all
 |(i,w)::l=>by
  simp only [nu,aZ,rN off r j l];by_cases h:off<=j
  ·simp only [if_pos h];by_cases e:i=j - off
   ·rw [if_pos (by omega),if_pos e]
   ·rw [if_neg (by omega),if_neg e]
  ·simp only [if_neg h];rw [if_neg (by omega)]
theorem ey (off n j:Nat):∀l,bq j (iM off n l)=if off<=j/\j < off+n then none else bq j l
 |[]=>by simp [iM,bq]
 |(i,w)::l=>by
  simp only [iM,cond_eq_ite,Qk,Qo,Qp];by_cases h:off<=i/\i < off+n
  ·rw [if_pos h,ey off n j l,aZ];by_cases e:i=j
   ·subst e;rw [if_pos h,if_pos h]
   ·rw [if_neg e]
  ·rw [if_neg h,aZ,aZ,ey off n j l];by_cases e:i=j
   ·subst e;rw [if_pos rfl,if_neg h,if_pos rfl]
   ·rw [if_neg e,if_neg e]
theorem nr (off n j:Nat):∀l,bq j (kE off n l)=if j < n then bq (j+off) l else none
 |[]=>by simp [kE,bq]
 |(i,w)::l=>by
  simp only [kE,cond_eq_ite,Qk,Qo,Qp];by_cases h:off<=i/\i < off+n
  ·rw [if_pos h,aZ,nr off n j l,aZ];by_cases e:i - off=j
   ·rw [if_pos e,if_pos (by omega),if_pos (by omega)]
   ·rw [if_neg e];by_cases hj:j < n
    ·rw [if_pos hj,if_pos hj,if_neg (by omega)]
    ·rw [if_neg hj,if_neg hj]
  ·rw [if_neg h,nr off n j l,aZ];by_cases hj:j < n
   ·rw [if_pos hj,if_pos hj,if_neg (by omega)]
   ·rw [if_neg hj,if_neg hj]
inductive TN where
 |s (O:Nat)
 |i (O ver j:Nat)
instance:Coe Nat TN:=⟨TN.s⟩
def TN.base:TN->Nat
 |.s O=>O
 |.i O _ _=>O
abbrev aY:=TN->Option AV
def bY:AV->Option Nat
 |.ptr id _ _=>some id
 |.ref id _ _ _ _ _ _=>some id
 |_=>none
def uX (A:aY) (w:VV) (x:AV):Prop:=match w with
 |.bT=>x=.ak\/x=.b6 [] 0 (some 0)
 |.sl O=>A O=some x
 |.ow O v i=>A (.i O v i)=some x
 |_=>False
def EO (A:aY) (o:Option VV) (t:TV) (x:AV):Prop:=match o with
 |none=>Can t x/\x.flat=true
 |some w=>uX A w x
structure aU (A:aY) (v:TV) (ovs:List (Nat×VV)) (cs:List AV) (ts:List TV):Prop where
 cells:bH v=some ts
 len:ts.length=cs.length
 keys:∀j w,bq j ovs=some w->j < ts.length
 at_:∀(j:Nat) (t:TV) (x:AV),ts[j]?=some t->cs[j]?=some x->EO A (bq j ovs) t x
inductive VR (A:aY):VV->AV->Prop where
 |bad {a}:VR A .bad a
 |tr {v a} (h:Can v a):VR A (.tr v) a
 |bT:VR A .bT .ak
 |jL:VR A .bT (.b6 [] 0 (some 0))
 |ptr {O off:Nat} {id} (h:A O=some (.ptr id 0 0)):VR A (.ptr O off) (.ptr id 0 off)
 |pd {O off:Nat} {id} (h:A O=some (.ptr id 0 0)):VR A (.pd O off) (.ptr id 0 off)
 |sl {O:Nat} {a} (h:A O=some a):VR A (.sl O) a
 |ea {O i off:Nat} {id g b sz len cap ex} (h:A O=some (.ref id g b sz len cap ex)):VR A (.ea O i off) (.ptr id g (b+i*sz+off))
 |pt {v cs b off n} (hl:b+n<=cs.length) (hf:∀x∈cs,AV.flat x=true) (h:ld v ((cs.drop b).take n)):VR A (.pt v off) (.fh cs (b+off))
 |st {v ovs cs ts} (hv:v=.a ts) (h:aU A v ovs cs ts):VR A (.st v ovs) (.agg cs)
 |ow {O v i a} (h:A (.i O v i)=some a):VR A (.ow O v i) a
 |e2 {O v i k off id g b sz len cap ex} (h:A (.i O v i)=some (.ref id g b sz len cap ex)):VR A (.e2 O v i k off) (.ptr id g (b+k*sz+off))
 |gl {s io es cs} (hs:0 < s) (hio:io < s) (hl:cs.length=es.length*s) (hf:∀x∈cs,AV.flat x=true)
   (h:∀(j:Nat) (e:TV),es[j]?=some e->∃ts,bH e=some ts/\ts.length=s/\(∀(o:Nat) t x,o≠io->ts[o]?=some t->cs[j*s+o]?=some x->Can t x)/\
    ts[io]?=some (.l [])/\∀x,cs[j*s+io]?=some x->x=.ak\/x=.b6 [] 0 (some 0)):VR A (.gl s io es) (.b6 cs es.length (some es.length))
 |sa {O off n sz:Nat} {id cap} (hz:0 < sz) (h:A O=some (.ptr id 0 0)):VR A (.sa O off n sz) (.ref id 0 off sz n cap true)
structure we (sz:Nat) (es:List TV) (cs:List AV):Prop where
 len:cs.length=es.length*sz
 flat:∀x∈cs,AV.flat x=true
 el:∀(j:Nat) (e:TV),es[j]?=some e->ld e ((cs.drop (j*sz)).take sz)
def qe (H:ay) (sz:Nat) (es:List TV) (a:AV):Prop:=0 < sz/\((es=[]/\(a=.ak\/a=.b6 [] 0 (some 0)))\/
 ∃id g b cells,a=.ref id g b sz es.length es.length false/\H.get id=some (.row g cells)/\b<=cells.length/\we sz es (cells.drop b))
structure B0 (A:aY) (H:ay) (K s io iz ver:Nat) (hole:Option Nat) (es:List TV) (cs:List AV):Prop where
 len:cs.length=es.length*s
 el:∀(j:Nat) (e:TV),es[j]?=some e->∃ts,bH e=some ts/\ts.length=s/\(∀(o:Nat) t x,o≠io->ts[o]?=some t->cs[j*s+o]?=some x->Can t x/\x.flat=true)/\
  ∃x,cs[j*s+io]?=some x/\A (.i K ver j)=some x/\(hole≠some j->∃l,ts[io]?=some (.l l)/\qe H iz l x)
def OR (A:aY) (H:ay) (o:VO) (a:AV):Prop:=match o with
 |.ob v ovs=>∃id cs ts,a=.ptr id 0 0/\H.get id=some (.row 0 cs)/\aU A v ovs cs ts
 |.gr sz es=>qe H sz es a
 |.gn K s io iz ver hole es=>0 < s/\io < s/\0 < iz/\((es=[]/\(a=.ak\/a=.b6 [] 0 (some 0)))\/
   ∃id g b cells,a=.ref id g b s es.length es.length false/\H.get id=some (.row g cells)/\b<=cells.length/\B0 A H K s io iz ver hole es (cells.drop b))
def cY (A:aY) (o:VO) (a:AV) (id:Nat):Prop:=bY a=some id\/match o with
 |.gn K _ _ _ ver hole _=>∃j x,hole≠some j/\A (.i K ver j)=some x/\bY x=some id
 |_=>False
theorem cj {A:aY} {o:VO} {a:AV} {id:Nat} (h:o.pl=true):cY A o a id↔bY a=some id:=by cases o<;>first|(cases h;done)|simp [cY]
def fV (A:aY) (O:Nat) (a:AV) (o:VO):Prop:=match o with
 |.gn K _ _ _ ver hole es=>K=O/\(∀v j,ver < v->A (.i K v j)=none)/\(∀j x,A (.i K ver j)=some x->j < es.length)/\
   (∀j j' x x' id,hole≠some j->hole≠some j'->A (.i K ver j)=some x->A (.i K ver j')=some x'->bY x=some id->bY x'=some id->j=j')/\
   (∀j x id,hole≠some j->A (.i K ver j)=some x->bY x=some id->bY a≠some id)
 |_=>True
theorem mj {A:aY} {O:Nat} {o:VO} {a:AV} (h:o.pl=true):fV A O a o:=by cases o<;>first|(cases h;done)|trivial
structure R (A:aY) (V:aF) (st:St):Prop where
 env:∀t e,V.env.get t=some e->∃a,st.env.get t=some a/\((∀c bb,e.gd=some (c,bb)->c=.b bb)->VR A e.v a)
 heap:∀(O:Nat) o,V.H.get O=some o->∃a,A O=some a/\OR A st.H o a
 inj:∀(O O':Nat) o o' a a' id,V.H.get O=some o->V.H.get O'=some o'->A O=some a->A O'=some a'->cY A o a id->cY A o' a' id->O=O'
 used:∀n:TN,V.us.get n.base=none->A n=none
 one:∀n a,A n=some a->a.one=true
 fresh:∀id o,st.H.get id=some o->id < st.nx
 eK:∀(O:Nat) o a,V.H.get O=some o->A O=some a->fV A O a o
def b8 (V:aF) (A:aY) (id:Nat):Prop:=∃(O:Nat) (o:VO) (a:AV),V.H.get O=some o/\A O=some a/\cY A o a id
structure Fr (V:aF) (A:aY) (H:ay) (nx:Nat) (V':aF) (A':aY) (H':ay) (nx':Nat):Prop where
 le:nx<=nx'
 same:∀id,id < nx->¬b8 V A id->H'.get id=H.get id
 own:∀id,b8 V' A' id->b8 V A id\/nx<=id
theorem Fr.refl (V:aF) (A:aY) (H:ay) (nx:Nat):Fr V A H nx V A H nx:=⟨Qy _,fun _ _ _=>rfl,fun _ h=>.inl h⟩
theorem Fr.trans {V A H nx V1 A1 H1 oc V2 A2 H2 nx2} (h:Fr V A H nx V1 A1 H1 oc) (h':Fr V1 A1 H1 oc V2 A2 H2 nx2):Fr V A H nx V2 A2 H2 nx2 where
 le:=Qw h.le h'.le
 same id hid hn:=by rw [h'.same id (Qs hid h.le) (fun ho=>(h.own id ho).elim hn (fun hle=>by omega)),h.same id hid hn]
 own id ho:=(h'.own id ho).elim (fun h1=>h.own id h1) (fun hle=>.inr (Qw h.le hle))
theorem Fr.IA {V V':aF} {A:aY} {H:ay} {nx:Nat} (h:∀O o,V'.H.get O=some o->V.H.get O=some o):Fr V A H nx V' A H nx:=
 ⟨Qy _,fun _ _ _=>rfl,fun _ ⟨O,o,a,h1,h2,h3⟩=>.inl ⟨O,o,a,h O o h1,h2,h3⟩⟩
def act:G->Prop
 |none=>True
 |some (c,bb)=>c=.b bb
theorem uX.mono {A A':aY} (h:∀O a,A O=some a->A' O=some a) {w:VV} {x:AV} (hs:uX A w x):uX A' w x:=by cases w<;>first|exact hs|exact h _ _ hs
theorem aU.mono {A A':aY} (h:∀O a,A O=some a->A' O=some a) {v:TV} {ovs:List (Nat×VV)} {cs:List AV} {ts:List TV} (hc:aU A v ovs cs ts):aU A' v ovs cs ts:=
 ⟨hc.cells,hc.len,hc.keys,fun j t x ht hx=>by
  have:=hc.at_ j t x ht hx;unfold EO at this ⊢;split at this
  ·exact this
  ·exact uX.mono h this⟩
theorem VR.mono {A A':aY} (h:∀O a,A O=some a->A' O=some a) {w:VV} {x:AV} (hv:VR A w x):VR A' w x:=by
 cases hv with
 |bad=>exact .bad
 |tr h=>exact .tr h
 |bT=>exact .bT
 |jL=>exact .jL
 |ptr h1=>exact .ptr (h _ _ h1)
 |pd h1=>exact .pd (h _ _ h1)
 |sl h1=>exact .sl (h _ _ h1)
 |ea h1=>exact .ea (h _ _ h1)
 |pt hl hf h1=>exact .pt hl hf h1
 |st hv h1=>exact .st hv (h1.mono h)
 |ow h1=>exact .ow (h _ _ h1)
 |e2 h1=>exact .e2 (h _ _ h1)
 |gl h1 h2 h3 h4 h5=>exact .gl h1 h2 h3 h4 h5
 |sa hz h1=>exact .sa hz (h _ _ h1)
theorem qe.mono {H H':ay} {sz:Nat} {es:List TV} {a:AV} (hH:∀id,bY a=some id->H'.get id=H.get id) (ho:qe H sz es a):qe H' sz es a:=by obtain⟨hz,h1⟩:=ho;refine⟨hz,h1.imp id ?_⟩;rintro⟨id,g,b,cells,rfl,h2,h3,h4⟩;exact⟨id,g,b,cells,rfl,by rw [hH id rfl];exact h2,h3,h4⟩
theorem qe.there {H:ay} {sz:Nat} {es:List TV} {a:AV} (ho:qe H sz es a) {id:Nat} (hi:bY a=some id):∃ob,H.get id=some ob:=by
 obtain⟨hz,h1⟩:=ho;rcases h1 with ⟨_,rfl|rfl⟩|⟨id',g,b,cells,rfl,h2,_⟩
 ·cases hi
 ·cases hi
 ·cases hi;exact⟨_,h2⟩
theorem OR.mono {A A':aY} {H H':ay} (h:∀O a,A O=some a->A' O=some a) {o:VO} {a:AV} (hH:∀id,cY A o a id->H'.get id=H.get id) (ho:OR A H o a):OR A' H' o a:=by
 cases o with
 |ob v ovs=>obtain⟨id,cs,ts,rfl,h2,h3⟩:=ho;exact⟨id,cs,ts,rfl,by rw [hH id (.inl rfl)];exact h2,h3.mono h⟩
 |gr sz es=>exact qe.mono (fun id hi=>hH id (.inl hi)) ho
 |gn K s io iz ver hole es=>obtain⟨h1,h2,h3,h4⟩:=ho;refine⟨h1,h2,h3,h4.imp id ?_⟩;rintro⟨id,g,b,cells,rfl,h5,h6,h7⟩;refine⟨id,g,b,cells,rfl,by rw [hH id (.inl rfl)];exact h5,h6,h7.len,fun j e he=>?_⟩;obtain⟨ts,g1,g2,g3,x,g4,g5,g6⟩:=h7.el j e he;refine⟨ts,g1,g2,g3,x,g4,h _ _ g5,fun hn=>?_⟩;obtain⟨l,g7,g8⟩:=g6 hn;exact⟨l,g7,g8.mono fun id' hi=>hH id' (.inr ⟨j,x,hn,g5,hi⟩)⟩
theorem FE {A A':aY} (h:∀O a,A O=some a->A' O=some a) {o:VO} {a:AV} {id:Nat} (hi:cY A o a id):cY A' o a id:=by
 rcases hi with hi|hi
 ·exact .inl hi
 ·cases o with
  |gn K s io iz ver hole es=>obtain⟨j,x,h2,h3,h4⟩:=hi;exact .inr ⟨j,x,h2,h _ _ h3,h4⟩
  |_=>cases hi
theorem OR.there {A:aY} {H:ay} {O:Nat} {o:VO} {a:AV} (ho:OR A H o a) (hv:fV A O a o) {id:Nat} (hi:cY A o a id):∃ob,H.get id=some ob:=by
 cases o with
 |ob v ovs=>obtain⟨id',cs,ts,rfl,h2,h3⟩:=ho;rw [cj rfl] at hi;cases hi;exact⟨_,h2⟩
 |gr sz es=>exact qe.there ho ((cj rfl).1 hi)
 |gn K s io iz ver hole es=>
  obtain⟨_,_,_,ho⟩:=ho;obtain⟨_,_,qzs,_⟩:=hv;rcases ho with ⟨rfl,h0⟩|⟨id',g,b,cells,rfl,h5,h6,h7⟩
  ·rcases hi with hi|⟨j,x,_,h1,_⟩
   ·rcases h0 with rfl|rfl<;>cases hi
   ·have:=qzs j x h1;simp at this
  ·rcases hi with hi|⟨j,x,h2,h3,h4⟩
   ·cases hi;exact⟨_,h5⟩
   ·obtain⟨ts,g1,g2,g3,x',g4,g5,g6⟩:=h7.el j _ (PU (qzs j x h3));rw [h3] at g5;cases g5;obtain⟨l,_,g8⟩:=g6 h2;exact g8.there h4
theorem R.fe {A:aY} {V:aF} {st:St} (h:R A V st) {id:Nat} (ho:b8 V A id):id < st.nx:=by obtain⟨O,o,a,h1,h2,h3⟩:=ho;obtain⟨a',h4,h5⟩:=h.heap O o h1;rw [h2] at h4;cases h4;obtain⟨ob,h6⟩:=h5.there (h.eK O o a h1 h2) h3;exact h.fresh _ _ h6
structure ig (V V':aF):Prop where
 us:∀O,V'.us.get O=none->V.us.get O=none
 gn:∀K s io iz ver hole es,V'.H.get K=some (.gn K s io iz ver hole es)->V.us.get K=none\/∃s io iz v0 hole es,V.H.get K=some (.gn K s io iz v0 hole es)/\v0<=ver
theorem ig.refl (V:aF):ig V V:=⟨fun _ h=>h,fun K s io iz ver hole es h=>.inr ⟨s,io,iz,ver,hole,es,h,Qy _⟩⟩
theorem ig.trans {V V1 V2:aF} (h:ig V V1) (h':ig V1 V2):ig V V2:=by
 refine⟨fun O hO=>h.us O (h'.us O hO),fun K s io iz ver hole es hK=>?_⟩;rcases h'.gn K _ _ _ _ _ _ hK with h1|⟨s1,io1,iz1,v1,qzW,es1,h1,h2⟩
 ·exact .inl (h.us K h1)
 ·rcases h.gn K _ _ _ _ _ _ h1 with h3|⟨s2,io2,iz2,v2,qzV,es2,h3,h4⟩
  ·exact .inl h3
  ·exact .inr ⟨s2,io2,iz2,v2,qzV,es2,h3,Qw h4 h2⟩
theorem ig.IA {V V':aF} (hu:V'.us=V.us) (hH:∀O o,V'.H.get O=some o->V.H.get O=some o):ig V V':=
 ⟨fun O h=>by rw [←hu];exact h,fun K s io iz ver hole es h=>.inr ⟨s,io,iz,ver,hole,es,hH _ _ h,Qy _⟩⟩
theorem ig.set {V:aF} {O:Nat} {o:VO} (h:o.pl=true):ig V (bk V O o):=by
 refine⟨fun _ h=>h,fun K s io iz ver hole es hK=>?_⟩;simp only [bk,Map.au] at hK;split at hK
 ·cases hK;cases h
 ·exact .inr ⟨s,io,iz,ver,hole,es,hK,Qy _⟩
theorem ig.name {V:aF} {O:Nat} {o:VO} (h:V.us.get O=none):ig V {V with H:=V.H.put (some o) O,us:=V.us.put (some ()) O}:=by
 refine⟨fun O' hO=>?_,fun K s io iz ver hole es hK=>?_⟩
 ·simp only [Map.au] at hO;split at hO
  ·cases hO
  ·exact hO
 ·simp only [Map.au] at hK;split at hK
  ·rename_i e;subst e;exact .inl h
  ·exact .inr ⟨s,io,iz,ver,hole,es,hK,Qy _⟩
structure Ext (V:aF) (A:aY) (V':aF) (A':aY):Prop where
 mono:∀n x,A n=some x->A' n=some x
 new:∀n x,A' n=some x->A n=some x\/V.us.get n.base=none\/∃K v j s io iz ver hole es,n=.i K v j/\V.H.get K=some (.gn K s io iz ver hole es)/\ver < v
 ev:ig V V'
theorem Ext.refl (V:aF) (A:aY):Ext V A V A:=⟨fun _ _ h=>h,fun _ _ h=>.inl h,ig.refl V⟩
theorem Ext.xj {V V':aF} (A:aY) (h:ig V V'):Ext V A V' A:=⟨fun _ _ h=>h,fun _ _ h=>.inl h,h⟩
theorem Ext.trans {V V1 V2:aF} {A A1 A2:aY} (h:Ext V A V1 A1) (h':Ext V1 A1 V2 A2):Ext V A V2 A2:=by
 refine⟨fun n x hx=>h'.mono n x (h.mono n x hx),fun n x hx=>?_,h.ev.trans h'.ev⟩;rcases h'.new n x hx with h1|h1|⟨K,v,j,s,io,iz,ver,hole,es,rfl,h2,h3⟩
 ·exact h.new n x h1
 ·exact .inr (.inl (h.ev.us _ h1))
 ·rcases h.ev.gn K _ _ _ _ _ _ h2 with h4|⟨s1,io1,iz1,v1,qzW,es1,h4,h5⟩
  ·exact .inr (.inl h4)
  ·exact .inr (.inr ⟨K,v,j,s1,io1,iz1,v1,qzW,es1,rfl,h4,by omega⟩)
theorem fl:Can (.l []) (.b6 [] 0 (some 0)):=.b6 [] [] 0 1 _ rfl rfl (by omega) (fun x hx=>by cases hx) (fun j e h=>by simp at h)
theorem hU {v:AV} (h:c6 v=true):Can (s5 v) v/\v.flat=true:=by cases v<;>first|(cases h;done)|exact⟨by constructor,rfl⟩
theorem gy:∀l,(bV l).length=l.length
 |[]=>rfl
 |x::xs=>by simp [bV,gy xs]
theorem k6:∀(l:List AV) (j:Nat),(bV l)[j]?=l[j]?.map s5
 |[],j=>by simp [bV]
 |x::xs,0=>rfl
 |x::xs,j+1=>by simp [bV,k6 xs j]
theorem oE:∀(l:List AV) (i j:Nat),bq j (ff i l)=if i<=j then (match l[j - i]? with|some .ak=>some .bT|_=>none) else none
 |[],i,j=>by simp [ff,bq]
 |x::xs,i,j=>by
  have ih:=oE xs (i+1) j;have rest:(if i+1<=j then (match xs[j - (i+1)]? with|some .ak=>some VV.bT|_=>none) else none)=if i<=j then (if i=j then none else (match (x::xs)[j - i]? with|some .ak=>some .bT|_=>none)) else none:=by
   by_cases h:i+1<=j
   ·rw [if_pos h,if_pos (by omega),if_neg (by omega),show j - i=(j - (i+1))+1 by omega,List.getElem?_cons_succ]
   ·rw [if_neg h];by_cases h2:i<=j
    ·rw [if_pos h2,if_pos (by omega)]
    ·rw [if_neg h2]
  by_cases hx:x=.ak
  ·subst hx;simp only [ff,aZ,ih,rest];by_cases h:i<=j
   ·rw [if_pos h,if_pos h];by_cases e:i=j
    ·subst e;simp
    ·rw [if_neg e,if_neg e]
   ·rw [if_neg h,if_neg h,if_neg (by omega)]
  ·have:ff i (x::xs)=ff (i+1) xs:=by cases x<;>first|rfl|exact absurd rfl hx
   rw [this,ih,rest];by_cases h:i<=j
   ·rw [if_pos h,if_pos h];by_cases e:i=j
    ·subst e;rw [if_pos rfl];simp only [Nat.sub_self,List.getElem?_cons_zero];cases x<;>first|rfl|exact absurd rfl hx
    ·rw [if_neg e]
   ·rw [if_neg h,if_neg h]
theorem kX (A:aY) {cs:List AV} (h:bz c6 cs=true):aU A (.a (bV cs)) (ff 0 cs) cs (bV cs):=by
 refine⟨rfl,gy cs,fun j w hj=>?_,fun j t x ht hx=>?_⟩
 ·rw [oE,if_pos (Qx _)] at hj;rw [gy];cases hc:cs[j]? with
  |none=>simp [hc] at hj
  |some y=>exact(PV.1 hc).1
 ·rw [k6,hx] at ht;cases ht;rw [oE,if_pos (Qx _),Nat.sub_zero,hx];have:=hU (aJ.1 h x (P4 hx));cases x<;>first|exact this|exact .inl rfl
theorem vT (A:aY) {cs:List AV} (h:bz c6 cs=true) {ovs:List (Nat×VV)} (ho:∀j w,bq j ovs=some w->bq j (ff 0 cs)=some w):aU A (.a (bV cs)) ovs cs (bV cs):=by
 have h0:=kX A h;refine⟨rfl,gy cs,fun j w hj=>h0.keys j w (ho j w hj),fun j t x ht hx=>?_⟩;cases hj:bq j ovs with
 |some w=>have:=h0.at_ j t x ht hx;rw [ho j w hj] at this;exact this
 |none=>rw [k6,hx] at ht;cases ht;exact hU (aJ.1 h x (P4 hx))
theorem x3 {j:Nat} {w:VV}:∀(cs:List Nat) (l:List (Nat×VV)),bq j (Ej cs l)=some w->bq j l=some w
 |[],l,h=>h
 |c::cs,l,h=>by
  have:=x3 cs _ h;rw [ey] at this;split at this
  ·cases this
  ·exact this
theorem GQ {sh:Sh} {d:Option Nat} {l:List (Nat×VV)} {j:Nat} {w:VV} (h:bq j (LK sh d l)=some w):bq j l=some w:=by
 cases d with
 |none=>exact h
 |some d=>exact x3 _ _ h
theorem ya (A:aY) (v:AV):VR A (vS v) v:=by
 unfold vS;split
 ·exact .bT
 ·rename_i cs;rw [cond_eq_ite];split
  ·rename_i h;exact .st rfl (kX A h)
  ·exact .bad
 ·exact .bad
 ·rw [cond_eq_ite];split
  ·rename_i h;exact .tr (hU h).1
  ·exact .bad
section
variable {A:aY} {V:aF} {st:St} {g:G}
theorem vH {e:Env} {n:Nat} {a:AV} (h:e.get n=some a):ev e (.t n)=a:=by simp only [ev,h]
theorem bG (h:R A V st) (ha:act g) {x:aH} {k:VV->Prop} (hk:dz V g x k):∃w,VR A w (ev st.env x)/\k w:=by
 cases x with
 |c v=>exact⟨_,ya A v,hk⟩
 |t n=>
  simp only [dz] at hk;split at hk
  ·cases hk
  rename_i e he;obtain⟨a,h1,h2⟩:=h.env n e he;split at hk
  ·rename_i hg;exact⟨e.v,by rw [vH h1];exact h2 (fun c bb hc=>by rw [hg] at hc;cases hc),hk⟩
  ·rename_i q hq;split at hk
   ·cases hk
   rename_i p;obtain⟨rfl,hk⟩:=hk;exact⟨e.v,by rw [vH h1];exact h2 (fun c bb hc=>by rw [hq] at hc;cases hc;exact ha),hk⟩
theorem rV:∀(ovs:List (Nat×VV)) (ts:List TV) (u:TV),xm ovs (.a ts)=some u->
  ∃us,u=.a us/\us.length=ts.length/\∀j,us[j]?=(match bq j ovs with|some _=>(if j < ts.length then some (.l []) else none)|none=>ts[j]?)/\∀w,bq j ovs=some w->w=.bT
 |[],ts,u,h=>by cases h;exact⟨ts,rfl,rfl,fun j=>⟨rfl,fun w hw=>by cases hw⟩⟩
 |(off,w)::r,ts,u,h=>by
  unfold xm at h;split at h;rotate_left
  ·cases h
  split at h;rotate_left
  ·cases h
  rename_i u' hu';obtain⟨us,rfl,hl,ha⟩:=rV r ts u' hu';obtain⟨ts',xs,us',h1,h2,h3,h4,h5,h6,h7⟩:=bP h;cases h1;cases h2;have hu:u=.a us':=by
   cases u<;>first|(cases h4;rfl)|skip
   all_goals
    unfold dS at h;simp only [bH,cond_eq_ite] at h;split at h
    ·split at h<;>cases h
    ·cases h
  refine⟨us',hu,by rw [h5,hl],fun j=>?_⟩;rw [h7 j,aZ];by_cases e:off=j
  ·subst e;rw [if_pos (by omega),if_pos rfl,Nat.sub_self];refine⟨?_,fun w' hw'=>by cases hw';rfl⟩;simp only;rw [if_pos (by rw [←hl];omega)];rfl
  ·rw [if_neg (by omega),if_neg e];exact ha j
theorem DB {v u:TV} {ovs:List (Nat×VV)} {cs:List AV} {ts:List TV} (h:aU A v ovs cs ts) (hv:v=.a ts) (hu:xm ovs v=some u):Can u (.agg cs):=by
 subst hv;obtain⟨us,rfl,hl,ha⟩:=rV ovs ts u hu;have at_:∀(j:Nat) (t:TV) (x:AV),us[j]?=some t->cs[j]?=some x->Can t x/\x.flat=true:=by
  intro j t x ht hx;have hlt:j < ts.length:=by rw [h.len];exact(PV.1 hx).1
  have hc:=h.at_ j _ x (PU hlt) hx;obtain⟨h1,h2⟩:=ha j;rw [h1] at ht;cases ho:bq j ovs with
  |none=>rw [ho] at ht hc;simp only at ht;rw [PU hlt] at ht;cases ht;exact hc
  |some w=>
   rw [ho] at ht hc;simp only at ht;rw [if_pos hlt] at ht;cases ht;obtain rfl:=h2 w ho;rcases hc with rfl|rfl
   ·exact⟨.nil,rfl⟩
   ·exact⟨fl,rfl⟩
 refine .a _ _ (by rw [hl,h.len]) (fun x hx=>?_) (fun j t x ht hx=>(at_ j t x ht hx).1);obtain⟨j,hj⟩:=List.getElem?_of_mem hx;have hlt:j < us.length:=by rw [hl,h.len];exact(PV.1 hj).1
 exact(at_ j _ x (PU hlt) hj).2
theorem z5 {w:VV} {a:AV} (hv:VR A w a) {k:TV->Prop} (hk:z7 w k):∃v,Can v a/\k v:=by
 cases hv<;>first|(cases hk;done)|skip
 ·rename_i v hc;exact⟨v,hc,hk⟩
 ·exact⟨_,.nil,hk⟩
 ·exact⟨_,fl,hk⟩
 ·rename_i hv h;obtain⟨u,h1,h2⟩:=hk;exact⟨u,DB h hv h1,h2⟩
theorem bQ (h:R A V st) (ha:act g) {x:aH} {k:TV->Prop} (hk:ia V g x k):∃v,Can v (ev st.env x)/\k v:=by obtain⟨w,h1,h2⟩:=bG h ha hk;exact z5 h1 h2
theorem Dq (h:R A V st) (ha:act g) {x:Option aH} {k:Option TV->Prop} (hk:oC V g x k):∃v,k v/\(match x with|none=>v=none|some x=>∃u,v=some u/\Can u (ev st.env x)):=by
 cases x with
 |none=>exact⟨none,hk,rfl⟩
 |some x=>obtain⟨v,h1,h2⟩:=bQ h ha hk;exact⟨some v,h2,v,rfl,h1⟩
theorem wT (h:R A V st) (ha:act g):∀{xs:List aH} {k:List TV->Prop},CG V g xs k->∃vs,eT vs (xs.map (ev st.env))/\k vs
 |[],k,hk=>⟨[],⟨rfl,fun j t x ht=>by simp at ht⟩,hk⟩
 |x::xs,k,hk=>by
  obtain⟨v,h1,h2⟩:=bQ h ha hk;obtain⟨vs,h3,h4⟩:=wT h ha h2;refine⟨v::vs,⟨by simp [h3.1],fun j t y ht hy=>?_⟩,h4⟩;cases j with
  |zero=>simp at ht hy;subst ht;subst hy;exact h1
  |succ j=>simp at ht hy;exact h3.2 j t y ht (by simpa using hy)
end
theorem fP {A:aY} (hone:∀O a,A O=some a->a.one=true) {w:VV} {a:AV} (hv:VR A w a) {t:TV} {o:List (Nat×VV)} (hs:Ci w=some (t,o)) {ts:List TV} (hc:bH t=some ts) :
  ∃as,a.cells?=some as/\aU A t o as ts:=by
 have single:∀{w:VV} {x:AV},uX A w x->x.cells?=some [x]->aU A (.l []) [(0,w)] [x] [.l []]:=fun {w x} h1 h2=>
  ⟨rfl,rfl,(fun j u hj=>by
   rw [aZ] at hj;split at hj
   ·subst_vars;simp
   ·cases hj),(fun j u y hu hy=>by
   cases j with
   |zero=>simp at hu hy;subst hu;subst hy;rw [aZ,if_pos rfl];exact h1
   |succ j=>simp at hu)⟩
 cases hv<;>first|(cases hs;done)|skip
 ·rename_i v h;cases hs;obtain⟨as,h1,h2⟩:=oY h hc;exact⟨as,h1,hc,h2.1.1,fun j w hj=>by simp [bq] at hj,fun j u x hu hx=>⟨h2.1.2 j u x hu hx,h2.2 x (P4 hx)⟩⟩
 ·cases hs;cases hc;exact⟨_,rfl,single (.inl rfl) rfl⟩
 ·cases hs;cases hc;exact⟨_,rfl,single (.inr rfl) rfl⟩
 ·rename_i O h;cases hs;cases hc;have hc:a.cells?=some [a]:=by have:=hone _ _ h;cases a<;>first|rfl|cases this
  exact⟨_,hc,single (w:=.sl O) h hc⟩
 ·rename_i v ovs cs ts' hv' h;cases hs;have:=h.cells.symm.trans hc;cases this;exact⟨_,rfl,h⟩
 ·rename_i O v i h;cases hs;cases hc;have hc:a.cells?=some [a]:=by have:=hone _ _ h;cases a<;>first|rfl|cases this
  exact⟨_,hc,single (w:=.ow O v i) h hc⟩
theorem e8 {A:aY} {v u t:TV} {ovs o:List (Nat×VV)} {cs as:List AV} {vs ts:List TV} {off n:Nat} (hv:aU A v ovs cs vs) (ht:aU A t o as ts) (hp:dS v off n t=some u) :
  as.length=n/\∃cs' us,cO cs off as=some cs'/\aU A u (nu off o (iM off n ovs)) cs' us/\(∀l,v=.a l->∃l',u=.a l'):=by
 obtain⟨ts',xs,us,h1,h2,h3,h4,h5,h6,h7⟩:=bP hp;have e1:=hv.cells.symm.trans h1;cases e1;have e2:=ht.cells.symm.trans h2;cases e2;have hn:as.length=n:=by rw [←ht.len];exact h3
 have hov:cO cs off as=some (cs.take off++as++cs.drop (off+as.length)):=by rw [fN,if_pos (by rw [hn,←hv.len];exact h6)]
 obtain⟨hl',hat⟩:=dG hov;refine⟨hn,_,us,hov,⟨h4,by rw [h5,hl',hv.len],fun j w hj=>?_,fun j t' x ht' hx=>?_⟩,fun l e=>?_⟩
 ·rw [rN] at hj;rw [h5];by_cases ho:off<=j
  ·simp only [if_pos ho] at hj;cases hq:bq (j - off) o with
   |some w'=>have:=ht.keys _ _ hq;omega
   |none=>
    rw [hq,ey] at hj;simp only at hj;split at hj
    ·cases hj
    ·exact hv.keys _ _ hj
  ·simp only [if_neg ho,ey] at hj;split at hj
   ·cases hj
   ·exact hv.keys _ _ hj
 ·rw [h7] at ht';rw [hat,hn] at hx;rw [rN];by_cases hc:off<=j/\j < off+n
  ·rw [if_pos hc] at ht' hx;simp only [if_pos hc.1];have:=ht.at_ _ _ _ ht' hx;cases hq:bq (j - off) o with
   |some w'=>rw [hq] at this;exact this
   |none=>rw [hq] at this;simp only [ey,if_pos hc];exact this
  ·rw [if_neg hc] at ht' hx;have:=hv.at_ _ _ _ ht' hx;by_cases ho:off<=j
   ·simp only [if_pos ho];cases hq:bq (j - off) o with
    |some w'=>have:=ht.keys _ _ hq;omega
    |none=>simp only [ey,if_neg hc];exact this
   ·simp only [if_neg ho,ey,if_neg hc];exact this
 ·subst e;unfold dS at hp;simp only [h2,h3,cond_eq_ite,Qn,if_pos rfl] at hp;split at hp
  ·split at hp
   ·exact⟨_,(Qv hp).symm⟩
   ·cases hp
  ·rename_i hh;exact absurd (by first|rfl|trivial) hh
end Go.Ax.V
namespace Go.Ax.V
theorem ri {g:G} (ha:act g) {P k:TV->Prop} (h:CE g P k):∃v,P v/\k v:=by
 cases g with
 |none=>exact h
 |some p=>obtain⟨c,bb⟩:=p;obtain⟨v,h1,h2⟩:=h;have hc:c=.b bb:=ha;subst hc;refine⟨v,?_,h2⟩;unfold gV at h1;cases bb<;>exact h1
theorem jh {g:G} (ha:act g) {P:Option Nat} {k:Nat->Prop} (h:wQ g P k):∃n,P=some n/\k n:=by
 cases g with
 |none=>exact h
 |some p=>obtain⟨c,bb⟩:=p;obtain⟨n,h1,h2⟩:=h;exact⟨n,h1 ha,h2⟩
def Next (nt:Nat) (A:aY) (V:aF) (st:St) (d:Option Nat) (v:AV) (H':ay) (nx':Nat) (k:aF->Prop):Prop:=
 ∃e',rz nt st.env d v=some e'/\∃V' A',R A' V' ⟨e',H',nx'⟩/\Fr V A st.H st.nx V' A' H' nx'/\Ext V A V' A'/\k V'
theorem R.put {A:aY} {V:aF} {st:St} (h:R A V st) {d:Nat} {e:VE} {v:AV} (hv:(∀c bb,e.gd=some (c,bb)->c=.b bb)->VR A e.v v) :
  R A {V with env:=V.env.put (some e) d} ⟨st.env.put (some v) d,st.H,st.nx⟩ where
 env t e' he:=by
  simp only [Map.au] at he ⊢;split at he
  ·rename_i ht;subst ht;cases he;exact⟨v,by rw [if_pos rfl],hv⟩
  ·rename_i ht;rw [if_neg ht];exact h.env t e' he
 heap:=h.heap
 inj:=h.inj
 used:=h.used
 one:=h.one
 fresh:=h.fresh
 eK:=h.eK
theorem ji {nt:Nat} {A:aY} {V:aF} {st:St} {A1:aY} {V1:aF} {H':ay} {nx':Nat} {d:Option Nat} {g:G} {w:VV} {v:AV} {k:aF->Prop}
  (hR:R A1 V1 ⟨st.env,H',nx'⟩) (hF:Fr V A st.H st.nx V1 A1 H' nx') (hx:Ext V A V1 A1) (hv:act g->VR A1 w v) (h:cy nt V1 d g w k):Next nt A V st d v H' nx' k:=by
 cases d with
 |none=>exact⟨st.env,rfl,V1,A1,hR,hF,hx,h⟩
 |some d=>
  simp only [cy,cond_eq_ite] at h;split at h
  ·rename_i hd;refine⟨st.env.put (some v) d,by simp only [rz,cond_eq_ite,if_pos hd],_,A1,hR.put (e:=⟨g,w⟩) (fun hh=>hv ?_),⟨hF.le,hF.same,hF.own⟩,⟨hx.mono,hx.new,hx.ev.us,hx.ev.gn⟩,h⟩;cases g with
   |none=>trivial
   |some p=>exact hh _ _ rfl
  ·cases h
theorem ax {nt:Nat} {A:aY} {V:aF} {st:St} (hR:R A V st) {d:Option Nat} {g:G} {w:VV} {v:AV} {k:aF->Prop} (hv:act g->VR A w v) (h:cy nt V d g w k):Next nt A V st d v st.H st.nx k:=
 ji (A1:=A) (V1:=V) hR (Fr.refl _ _ _ _) (Ext.refl _ _) hv h
theorem aS {nt:Nat} {A:aY} {V:aF} {st:St} (hR:R A V st) {d:Option Nat} {g:G} (ha:act g) {P:Option TV} {k:aF->Prop} (h:di nt V d g P k) :
  ∃r,P=some r/\∀v,Can r v->Next nt A V st d v st.H st.nx k:=by
 obtain⟨r,h1,h2⟩:=ri ha h;exact⟨r,h1,fun v hv=>ax hR (fun _=>.tr hv) h2⟩
theorem R.sub {A:aY} {V V':aF} {st:St} (h:R A V st) (he:V'.env=V.env) (hu:V'.us=V.us) (hH:∀O o,V'.H.get O=some o->V.H.get O=some o):R A V' st where
 env t e hh:=h.env t e (by rw [←he];exact hh)
 heap O o hh:=h.heap O o (hH O o hh)
 inj O O' o o' a a' id h1 h2:=h.inj O O' o o' a a' id (hH _ _ h1) (hH _ _ h2)
 used O hh:=h.used O (by rw [←hu];exact hh)
 one:=h.one
 fresh:=h.fresh
 eK O o a ho ha:=h.eK O o a (hH _ _ ho) ha
theorem dh {V:aF} {O O':Nat} {o:VO} (h:(bx V O).H.get O'=some o):O'≠O/\V.H.get O'=some o:=by
 simp only [bx,Map.au] at h;split at h
 ·cases h
 ·rename_i hne;exact⟨hne,h⟩
theorem R.bx {A:aY} {V:aF} {st:St} (h:R A V st) (O:Nat):R A (bx V O) st:=
 h.sub rfl rfl (fun O' o hh=>(dh hh).2)
def jr (A:aY) (d:Nat) (a:AV) (inn:Nat->Option AV):aY
 |.s O=>if O=d then some a else A (.s O)
 |.i K v j=>if K=d then (if v=0 then inn j else none) else A (.i K v j)
theorem jQ {A:aY} {d:Nat} {a:AV} {inn:Nat->Option AV}:jr A d a inn (.s d)=some a:=if_pos rfl
theorem dQ {A:aY} {d:Nat} {a:AV} {inn:Nat->Option AV} {n:TN} (h:n.base≠d):jr A d a inn n=A n:=by cases n<;>exact if_neg h
theorem D6 {A:aY} {d:Nat} {a:AV} {inn:Nat->Option AV} {j:Nat}:jr A d a inn (.i d 0 j)=inn j:=by simp only [jr,if_pos]
theorem AF {A:aY} {d:Nat} {a:AV} {inn:Nat->Option AV} {v j:Nat} (hv:0 < v):jr A d a inn (.i d v j)=none:=by simp only [jr,if_pos,if_neg (show ¬v=0 by omega)]
theorem oR {A:aY} {d:Nat} {a:AV} {inn:Nat->Option AV} (h:∀n:TN,n.base=d->A n=none):∀O x,A O=some x->jr A d a inn O=some x:=fun O x hx=>by rw [dQ (fun he=>by rw [h O he] at hx;cases hx)];exact hx
theorem kT {A:aY} {d:Nat} {a:AV} {inn:Nat->Option AV} {O:Nat} {o:VO} {x:AV} {id:Nat} (hne:O≠d) (hv:fV A O x o):cY (jr A d a inn) o x id↔cY A o x id:=by
 cases o with
 |gn K s io iz ver hole es=>
  obtain⟨rfl,_⟩:=hv;have e:∀j,jr A d a inn (.i K ver j)=A (.i K ver j):=fun j=>dQ hne
  simp only [cY,e]
 |_=>exact Iff.rfl
theorem D5 {A:aY} {d:Nat} {a:AV} {inn:Nat->Option AV} {O:Nat} {o:VO} {x:AV} (hne:O≠d) (hv:fV A O x o):fV (jr A d a inn) O x o:=by
 cases o with
 |gn K s io iz ver hole es=>
  obtain⟨rfl,h1,h0,h2,h3⟩:=hv;have e:∀v j,jr A d a inn (.i K v j)=A (.i K v j):=fun v j=>dQ hne
  refine⟨rfl,fun v j hv=>by rw [e];exact h1 v j hv,fun j x=>by rw [e];exact h0 j x,fun j j' x x' id=>?_,fun j x id=>?_⟩
  ·rw [e,e];exact h2 j j' x x' id
  ·rw [e];exact h3 j x id
 |_=>trivial
theorem GF {A:aY} {V:aF} {e:Env} {H':ay} {nx':Nat} {d:Nat} {o:VO} {a:AV} {inn:Nat->Option AV} (qxp:∀t q,V.env.get t=some q->∃x,e.get t=some x/\((∀c bb,q.gd=some (c,bb)->c=.b bb)->VR A q.v x))
  (qz6:∀(O:Nat) o,V.H.get O=some o->∃x,A O=some x/\OR A H' o x)
  (hinj:∀(O O':Nat) o o' a a' id,V.H.get O=some o->V.H.get O'=some o'->A O=some a->A O'=some a'->cY A o a id->cY A o' a' id->O=O')
  (qzQ:∀n:TN,V.us.get n.base=none->A n=none) (hone:∀n a,A n=some a->a.one=true) (qxm:∀id ob,H'.get id=some ob->id < nx') (qxX:∀(O:Nat) o a,V.H.get O=some o->A O=some a->fV A O a o)
  (hus:V.us.get d=none) (h1:a.one=true) (hi1:∀j x,inn j=some x->x.one=true) (hO:OR (jr A d a inn) H' o a) (qjQ:fV (jr A d a inn) d a o)
  (hid:∀id,cY (jr A d a inn) o a id->¬b8 V A id):R (jr A d a inn) {V with H:=V.H.put (some o) d,us:=V.us.put (some ()) d} ⟨e,H',nx'⟩:=by
 have hnone:∀n:TN,n.base=d->A n=none:=fun n hn=>qzQ n (by rw [hn];exact hus)
 have hA':=oR (a:=a) (inn:=inn) hnone;have hnd:∀(O:Nat) o',V.H.get O=some o'->O≠d:=fun O o' ho he=>by obtain⟨x,hx,_⟩:=qz6 O o' ho;rw [hnone (.s O) he] at hx;cases hx
 refine⟨fun t q he=>?_,fun O o' ho=>?_,fun O O' o1 o2 a1 a2 id ho1 ho2 ha1 ha2 hi1 hi2=>?_,fun n hu=>?_,fun n x hx=>?_,qxm,fun O o' x ho hx=>?_⟩
 ·obtain⟨x,hx,hv⟩:=qxp t q he;exact⟨x,hx,fun hh=>(hv hh).mono hA'⟩
 ·simp only [Map.au] at ho;split at ho
  ·rename_i hd;subst hd;cases ho;exact⟨a,jQ,hO⟩
  ·obtain⟨x,hx,hor⟩:=qz6 O o' ho;exact⟨x,hA' _ _ hx,hor.mono hA' (fun _ _=>rfl)⟩
 ·simp only [Map.au] at ho1 ho2;by_cases e1:O=d
  ·by_cases e2:O'=d
   ·rw [e1,e2]
   ·subst e1;rw [if_neg e2] at ho2;rw [if_pos rfl] at ho1;cases ho1;have qjg:A O'=some a2:=by rwa [dQ (n:=.s O') e2] at ha2
    rw [jQ] at ha1;cases ha1;rw [kT e2 (qxX O' _ _ ho2 qjg)] at hi2;exact absurd ⟨O',_,a2,ho2,qjg,hi2⟩ (hid id hi1)
  ·rw [if_neg e1] at ho1;have qkg:A O=some a1:=by rwa [dQ (n:=.s O) e1] at ha1
   rw [kT e1 (qxX O _ _ ho1 qkg)] at hi1;by_cases e2:O'=d
   ·subst e2;rw [if_pos rfl] at ho2;cases ho2;rw [jQ] at ha2;cases ha2;exact absurd ⟨O,_,a1,ho1,qkg,hi1⟩ (hid id hi2)
   ·rw [if_neg e2] at ho2;have qjg:A O'=some a2:=by rwa [dQ (n:=.s O') e2] at ha2
    rw [kT e2 (qxX O' _ _ ho2 qjg)] at hi2;exact hinj O O' _ _ a1 a2 id ho1 ho2 qkg qjg hi1 hi2
 ·simp only [Map.au] at hu;split at hu
  ·cases hu
  ·rename_i hne;rw [dQ hne];exact qzQ n hu
 ·by_cases e:n.base=d
  ·cases n with
   |s O=>have e':O=d:=e;subst e';rw [jQ] at hx;cases hx;exact h1
   |i K v j=>
    have e':K=d:=e;subst e';simp only [jr,if_pos] at hx;split at hx
    ·exact hi1 j x hx
    ·cases hx
  ·rw [dQ e] at hx;exact hone n x hx
 ·simp only [Map.au] at ho;by_cases e:O=d
  ·subst e;rw [if_pos rfl] at ho;cases ho;rw [jQ] at hx;cases hx;exact qjQ
  ·rw [if_neg e] at ho;have hx':A O=some x:=by rwa [dQ (n:=.s O) e] at hx
   exact D5 e (qxX O o' x ho hx')
theorem ud {nt:Nat} {A:aY} {V0 V:aF} {st:St} {d:Option Nat} {g:G} {wf:Nat->VV} {o:VO} {k:aF->Prop} {a v:AV} {H':ay} {nx':Nat} {inn:Nat->Option AV}
  (hR:R A V st) (qxO:∀id,b8 V A id->b8 V0 A id) (h:fZ nt V d g wf o k) (hle:st.nx<=nx') (qxm:∀id ob,H'.get id=some ob->id < nx')
  (hkeep:∀id,b8 V A id->H'.get id=st.H.get id) (hsame:∀id,id < st.nx->¬b8 V0 A id->H'.get id=st.H.get id) (hi1:∀j x,inn j=some x->x.one=true)
  (hO:∀(A':aY) (dd:Nat),d=some dd->(∀O x,A O=some x->A' O=some x)->(∀j,A' (.i dd 0 j)=inn j)->(∀v j,0 < v->A' (.i dd v j)=none)->OR A' H' o a/\fV A' dd a o/\∀id,cY A' o a id->¬b8 V A id/\(b8 V0 A id\/st.nx<=id)) (h1:a.one=true)
  (hw:∀(A':aY) (O:Nat),A' O=some a->VR A' (wf O) v) (hev:ig V0 V):Next nt A V0 st d v H' nx' k:=by
 unfold fZ at h;split at h
 ·cases h
 split at h
 ·cases h
 rename_i d;split at h
 ·cases h
 rename_i hus;have hnone:∀n:TN,n.base=d->A n=none:=fun n hn=>hR.used n (by rw [hn];exact hus)
 have hA':=oR (a:=a) (inn:=inn) hnone;obtain⟨hO1,hO2,hO3⟩:=hO (jr A d a inn) d rfl hA' (fun j=>D6) (fun v j hv=>AF hv);have qz5:∀(O:Nat) o,V.H.get O=some o->∃x,A O=some x/\OR A H' o x:=fun O o' ho=>by obtain⟨x,hx,hor⟩:=hR.heap O o' ho;exact⟨x,hx,hor.mono (fun _ _ h=>h) (fun id hi=>hkeep id ⟨O,o',x,ho,hx,hi⟩)⟩
 refine ji (A1:=jr A d a inn) (V1:={V with H:=V.H.put (some o) d,us:=V.us.put (some ()) d}) (GF hR.env qz5 hR.inj hR.used hR.one qxm hR.eK hus h1 hi1 hO1 hO2 (fun id hi=>(hO3 id hi).1)) ?_ ⟨hA',fun n x hx=>?_,hev.trans (ig.name hus)⟩ (fun _=>hw _ d jQ) h
 ·refine⟨hle,hsame,fun id ⟨O,o',x,ho,hx,hi⟩=>?_⟩;simp only [Map.au] at ho;by_cases e:O=d
  ·subst e;rw [if_pos rfl] at ho;cases ho;rw [jQ] at hx;cases hx;exact(hO3 id hi).2
  ·rw [if_neg e] at ho;have hx':A O=some x:=by rwa [dQ (n:=.s O) e] at hx
   rw [kT e (hR.eK O _ _ ho hx')] at hi;exact .inl (qxO id ⟨O,o',x,ho,hx',hi⟩)
 ·by_cases e:n.base=d
  ·exact .inr (.inl (by rw [e];exact hev.us _ hus))
  ·exact .inl (by rwa [dQ e] at hx)
theorem mK {nt:Nat} {A:aY} {V0 V:aF} {st:St} {d:Option Nat} {g:G} {wf:Nat->VV} {o:VO} {k:aF->Prop} {a v:AV} {H':ay} {nx':Nat}
  (hR:R A V st) (qxO:∀id,b8 V A id->b8 V0 A id) (h:fZ nt V d g wf o k) (hle:st.nx<=nx') (qxm:∀id ob,H'.get id=some ob->id < nx')
  (hkeep:∀id,b8 V A id->H'.get id=st.H.get id) (hsame:∀id,id < st.nx->¬b8 V0 A id->H'.get id=st.H.get id)
  (hO:∀A':aY,(∀O x,A O=some x->A' O=some x)->OR A' H' o a) (h1:a.one=true) (hid:∀id,bY a=some id->¬b8 V A id/\(b8 V0 A id\/st.nx<=id))
  (hw:∀(A':aY) (O:Nat),A' O=some a->VR A' (wf O) v) (hpl:o.pl=true) (hev:ig V0 V):Next nt A V0 st d v H' nx' k:=
 ud (inn:=fun _=>none) hR qxO h hle qxm hkeep hsame (fun j x h=>by cases h) (fun A' dd _ h2 _ _=>⟨hO A' h2,mj hpl,fun id hi=>hid id ((cj hpl).1 hi)⟩) h1 hw hev
theorem uc {nt:Nat} {A:aY} {V0 V:aF} {st:St} {d:Option Nat} {g:G} {wf:Nat->VV} {o:VO} {k:aF->Prop} {a v:AV} {H':ay} {nx':Nat}
  (hR:R A V st) (hsub:∀O o,V.H.get O=some o->V0.H.get O=some o) (h:fZ nt V d g wf o k) (hle:st.nx<=nx') (qxm:∀id ob,H'.get id=some ob->id < nx')
  (hkeep:∀id,b8 V A id->H'.get id=st.H.get id) (hsame:∀id,id < st.nx->¬b8 V0 A id->H'.get id=st.H.get id)
  (hO:∀A':aY,(∀O x,A O=some x->A' O=some x)->OR A' H' o a) (h1:a.one=true) (hid:∀id,bY a=some id->¬b8 V A id/\(b8 V0 A id\/st.nx<=id))
  (hw:∀(A':aY) (O:Nat),A' O=some a->VR A' (wf O) v) (hpl:o.pl=true:=by rfl) (hu:V.us=V0.us:=by rfl):Next nt A V0 st d v H' nx' k:=
 mK hR (fun id ⟨O,o,a,h1,h2,h3⟩=>⟨O,o,a,hsub _ _ h1,h2,h3⟩) h hle qxm hkeep hsame hO h1 hid hw hpl (ig.IA hu hsub)
theorem gP {nt:Nat} {A:aY} {V:aF} {st:St} {d:Option Nat} {g:G} {wf:Nat->VV} {o:VO} {k:aF->Prop} {a v:AV} {ob:dU}
  (hR:R A V st) (h:fZ nt V d g wf o k) (hO:∀A':aY,(∀O x,A O=some x->A' O=some x)->OR A' (st.H.put (some ob) st.nx) o a) (h1:a.one=true) (hid:bY a=some st.nx)
  (hw:∀(A':aY) (O:Nat),A' O=some a->VR A' (wf O) v) (hpl:o.pl=true:=by rfl):Next nt A V st d v (st.H.put (some ob) st.nx) (st.nx+1) k:=by
 have hno:∀id,b8 V A id->id≠st.nx:=fun id ho he=>by have:=hR.fe ho;omega
 refine uc (V0:=V) hR (fun _ _ h=>h) h (Nat.le_succ _) (fun id o' hh=>?_) (fun id ho=>by rw [Map.au,if_neg (hno id ho)])
  (fun id hlt _=>by rw [Map.au,if_neg (by omega)]) hO h1 (fun id hi=>?_) hw hpl
 ·rw [Map.au] at hh;split at hh
  ·omega
  ·have:=hR.fresh _ _ hh;omega
 ·rw [hid] at hi;cases hi;exact⟨fun ho=>hno _ ho rfl,.inr (Qy _)⟩
theorem ng {A:aY} {V:aF} {st:St} (hR:R A V st) {O:Nat} {o0 o:VO} {a:AV} {id:Nat} {ob:dU} (hV:V.H.get O=some o0) (hA:A O=some a) (hi:cY A o0 a id)
  (hO:OR A (st.H.put (some ob) id) o a) (qxk:∀id,cY A o a id->cY A o0 a id) (qjQ:fV A O a o0->fV A O a o):R A (bk V O o) ⟨st.env,st.H.put (some ob) id,st.nx⟩/\Fr V A st.H st.nx (bk V O o) A (st.H.put (some ob) id) st.nx:=by
 have hown:b8 V A id:=⟨O,o0,a,hV,hA,hi⟩;have get':∀(O':Nat) o' x id',(bk V O o).H.get O'=some o'->A O'=some x->cY A o' x id'->∃o'',V.H.get O'=some o''/\cY A o'' x id':=fun O' o' x id' hh hx hi'=>by
  simp only [bk,Map.au] at hh;split at hh
  ·rename_i e;subst e;cases hh;rw [hA] at hx;cases hx;exact⟨_,hV,qxk _ hi'⟩
  ·exact⟨_,hh,hi'⟩
 refine⟨⟨hR.env,fun O' o' ho=>?_,fun O1 O2 o1 o2 a1 a2 id' ho1 ho2 h1 h2 i1 i2=>?_,hR.used,hR.one,fun id' o' hh=>?_,fun O' o' x ho hx=>?_⟩,⟨Qy _,fun id' _ hn=>?_,fun id' ⟨O',o',x,h1,h2,h3⟩=>?_⟩⟩
 ·simp only [bk,Map.au] at ho;by_cases e:O'=O
  ·subst e;rw [if_pos rfl] at ho;cases ho;exact⟨a,hA,hO⟩
  ·rw [if_neg e] at ho;obtain⟨x,hx,hor⟩:=hR.heap O' o' ho;refine⟨x,hx,hor.mono (fun _ _ h=>h) (fun id' hi'=>?_)⟩;rw [Map.au,if_neg];rintro rfl;exact e (hR.inj O' O _ _ x a _ ho hV hx hA hi' hi)
 ·obtain⟨p1,h3,h4⟩:=get' _ _ _ _ ho1 h1 i1;obtain⟨p2,h5,h6⟩:=get' _ _ _ _ ho2 h2 i2;exact hR.inj O1 O2 _ _ a1 a2 id' h3 h5 h1 h2 h4 h6
 ·have hh':(st.H.put (some ob) id).get id'=some o':=hh;rw [Map.au] at hh';split at hh'
  ·rename_i e;subst e;exact hR.fe hown
  ·exact hR.fresh _ _ hh'
 ·simp only [bk,Map.au] at ho;split at ho
  ·rename_i e;subst e;cases ho;rw [hA] at hx;cases hx;exact qjQ (hR.eK _ _ _ hV hA)
  ·exact hR.eK _ _ _ ho hx
 ·rw [Map.au,if_neg];rintro rfl;exact hn hown
 ·obtain⟨o'',h4,h5⟩:=get' _ _ _ _ h1 h2 h3;exact .inl ⟨O',o'',x,h4,h2,h5⟩
theorem kM {a:AV} (h:a.flat=true) (d:Nat) (H:ay):aP (d+1) H a=some a:=by cases a<;>first|rfl|cases h
theorem oG {cs:List AV} (h:∀x∈cs,AV.flat x=true) (d:Nat) (H:ay):cw (aP (d+1) H) cs=some cs:=by
 induction cs with
 |nil=>rfl
 |cons x cs ih=>rw [b7,kM (h x Qc),ih (fun y hy=>h y (Qd _ hy))]
theorem tU {a:AV} (h:a.eN=true):a.flat=true\/∃cs,a=.agg cs/\∀x∈cs,AV.flat x=true:=by cases a<;>first|exact .inr ⟨_,rfl,aJ.1 h⟩|exact .inl h
theorem wY {a:AV} (h:a.plain=true):a.eN=true\/∃cs,a=.dM cs/\∀x∈cs,AV.eN x=true:=by cases a<;>first|exact .inr ⟨_,rfl,aJ.1 h⟩|exact .inl h
theorem su {a:AV} (h:a.eN=true) (d:Nat) (H:ay):aP (d+2) H a=some a:=by
 rcases tU h with h|⟨cs,rfl,h'⟩
 ·exact kM h (d+1) H
 ·rw [eV,oG h']
theorem xy {cs:List AV} (h:∀x∈cs,AV.eN x=true) (d:Nat) (H:ay):cw (aP (d+2) H) cs=some cs:=by
 induction cs with
 |nil=>rfl
 |cons x cs ih=>rw [b7,su (h x Qc),ih (fun y hy=>h y (Qd _ hy))]
theorem gu {a:AV} (h:a.plain=true) (d:Nat) (H:ay):aP (d+3) H a=some a:=by
 rcases wY h with h|⟨cs,rfl,h'⟩
 ·exact su h (d+1) H
 ·rw [fy,xy h']
theorem fK {t:TV} {a:AV} (h:Can t a):a.plain=true:=by
 cases h with
 |a ts as hl hf h=>exact aJ.2 hf
 |tp ts as hl hf h=>exact aJ.2 hf
 |pZ x u hf h=>revert hf;cases a<;>intro hf<;>first|rfl|cases hf
 |_=>rfl
theorem vQ {sz:Nat} {es:List TV} {cs:List AV} (hz:0 < sz) (h:we sz es cs) (c:Option Nat):Can (.l es) (.b6 cs es.length c):=
 .b6 es cs es.length sz c rfl h.len hz h.flat h.el
theorem u9 {H:ay} {sz:Nat} {es:List TV} {a:AV} (h:qe H sz es a) (d:Nat):∃a',aP (d+2) H a=some a'/\Can (.l es) a'/\a'.flat=true/\(a.plain=true->a'=a)/\a.one=true:=by
 obtain⟨hz,h⟩:=h;rcases h with ⟨rfl,rfl|rfl⟩|⟨id,g,b,cells,rfl,hH,hb,he⟩
 ·exact⟨_,rfl,.nil,rfl,fun _=>rfl,rfl⟩
 ·exact⟨_,rfl,fl,rfl,fun _=>rfl,rfl⟩
 ·have hl:cells.length=b+es.length*sz:=by have:=he.len;rw [P9] at this;omega
  refine⟨.b6 (cells.drop b) es.length none,?_,vQ hz he _,rfl,(fun hp=>by cases hp),rfl⟩;rw [ei,hH];simp only [cond_eq_ite,Qn,if_pos];have:cut cells b (Nat.mul es.length sz)=some (cells.drop b):=by rw [cJ,if_pos (by show b+es.length*sz<=_;omega),Qu];rw [P9];show _<=es.length*sz;omega
  rw [this];simp only [oG he.flat]
theorem zv {a:AV} (h:a.flat=true):a.plain=true:=by cases a<;>first|rfl|cases h
theorem vr {f:AV->Option AV}:∀{cs:List AV} (P:Nat->AV->AV->Prop),(∀j x,cs[j]?=some x->∃y,f x=some y/\P j x y)->∃l,cw f cs=some l/\l.length=cs.length/\∀j x y,cs[j]?=some x->l[j]?=some y->P j x y
 |[],P,h=>⟨[],rfl,rfl,fun j x y hx=>by simp at hx⟩
 |x::cs,P,h=>by
  obtain⟨y,h1,h2⟩:=h 0 x rfl;obtain⟨l,h3,h4,h5⟩:=vr (f:=f) (cs:=cs) (fun j=>P (j+1)) (fun j x hx=>h (j+1) x hx);refine⟨y::l,by rw [b7,h1,h3],by simp [h4],fun j x' y' hx hy=>?_⟩;cases j with
  |zero=>simp at hx hy;subst hx;subst hy;exact h2
  |succ j=>exact h5 j x' y' (by simpa using hx) (by simpa using hy)
theorem D1 {A:aY} {H:ay} {K s io iz ver:Nat} {es:List TV} {a:AV} (h:OR A H (.gn K s io iz ver none es) a) (d:Nat):∃a',aP (d+3) H a=some a'/\Can (.l es) a'/\a'.flat=true/\(a.plain=true->a'=a):=by
 obtain⟨hs,hio,hiz,h⟩:=h;rcases h with ⟨rfl,rfl|rfl⟩|⟨id,g,b,cells,rfl,hH,hb,he⟩
 ·exact⟨_,rfl,.nil,rfl,fun _=>rfl⟩
 ·exact⟨_,rfl,fl,rfl,fun _=>rfl⟩
 ·have hl:cells.length=b+es.length*s:=by have:=he.len;rw [P9] at this;omega
  have cell:∀(q:Nat) x,(cells.drop b)[q]?=some x->∃(j o:Nat) (e:TV) (ts:List TV) (t:TV),q=j*s+o/\o < s/\es[j]?=some e/\bH e=some ts/\ts.length=s/\ts[o]?=some t/\∃y,aP (d+2) H x=some y/\Can t y/\y.flat=true:=by
   intro q x hq;have hlt:q < es.length*s:=by have:=(PV.1 hq).1;rw [he.len] at this;exact this
   have hj:q / s < es.length:=(Nat.div_lt_iff_lt_mul hs).2 hlt;have hqe:q=q / s*s+q % s:=by rw [Nat.mul_comm];exact(Nat.div_add_mod q s).symm
   obtain⟨ts,g1,g2,g3,x',g4,g5,g6⟩:=he.el (q / s) _ (PU hj);have ho:q % s < ts.length:=by rw [g2];exact Nat.mod_lt _ hs
   refine⟨q / s,q % s,_,ts,_,hqe,Nat.mod_lt _ hs,PU hj,g1,g2,PU ho,?_⟩;by_cases hoo:q % s=io
   ·obtain⟨l,g7,g8⟩:=g6 (by simp);rw [hqe,hoo,g4] at hq;cases hq;obtain⟨y,p1,p2,p3,_⟩:=u9 g8 d;refine⟨y,p1,?_,p3⟩;have e:ts[q % s]=.l l:=by
     have:=PU ho;have h2:ts[q % s]?=some (.l l):=by rw [hoo];exact g7
     rw [this] at h2;exact Qv h2
    rw [e];exact p2
   ·obtain⟨p1,p2⟩:=g3 (q % s) _ x hoo (PU ho) (by rw [←hqe];exact hq);exact⟨x,kM p2 (d+1) H,p1,p2⟩
  obtain⟨cs',g1,g2,g3⟩:=vr (f:=aP (d+2) H) (cs:=cells.drop b) (fun q x y=>∃(j o:Nat) (e:TV) (ts:List TV) (t:TV),q=j*s+o/\o < s/\es[j]?=some e/\bH e=some ts/\ts.length=s/\ts[o]?=some t/\Can t y/\y.flat=true) (fun q x hq=>by obtain⟨j,o,e,ts,t,h1,h2,h3,h4,h5,h6,y,h7,h8,h9⟩:=cell q x hq;exact⟨y,h7,j,o,e,ts,t,h1,h2,h3,h4,h5,h6,h8,h9⟩)
  have hlc:cs'.length=es.length*s:=by rw [g2,he.len]
  have at_:∀(q:Nat) y,cs'[q]?=some y->∃(j o:Nat) (e:TV) (ts:List TV) (t:TV),q=j*s+o/\o < s/\es[j]?=some e/\bH e=some ts/\ts.length=s/\ts[o]?=some t/\Can t y/\y.flat=true:=fun q y hy=>by
   have hlt:q < (cells.drop b).length:=by rw [←g2];exact(PV.1 hy).1
   exact g3 q _ y (PU hlt) hy
  refine⟨.b6 cs' es.length none,?_,.b6 _ _ _ s _ rfl hlc hs (fun x hx=>?_) (fun j e hj=>?_),rfl,fun hp=>by cases hp⟩
  ·rw [ei,hH];simp only [cond_eq_ite,Qn,if_pos];have:cut cells b (Nat.mul es.length s)=some (cells.drop b):=by rw [cJ,if_pos (by show b+es.length*s<=_;omega),Qu];rw [P9];show _<=es.length*s;omega
   rw [this];simp only [g1]
  ·obtain⟨q,hq⟩:=List.getElem?_of_mem hx;obtain⟨_,_,_,_,_,_,_,_,_,_,_,_,hf⟩:=at_ q x hq;exact hf
  ·obtain⟨ts,h1,h2,_⟩:=he.el j e hj;have hjl:=(PV.1 hj).1;have hle:j*s+s<=es.length*s:=by rw [←Nat.succ_mul];exact Nat.mul_le_mul_right s hjl
   refine dK.2 ⟨ts,h1,by rw [P8,P9,hlc,h2];omega,fun o t y ht hy=>?_⟩;have ho:o < s:=by rw [←h2];exact(PV.1 ht).1
   rw [P0,P3,if_pos ho] at hy;obtain⟨j',o',e',ts',t',p1,p2,p3,p4,p5,p6,p7,_⟩:=at_ _ y hy;have hjj:j=j':=by
    have e1:(j*s+o) / s=j:=by rw [Nat.mul_comm,Nat.mul_add_div hs,Nat.div_eq_of_lt ho,Nat.add_zero]
    have e2:(j'*s+o') / s=j':=by rw [Nat.mul_comm,Nat.mul_add_div hs,Nat.div_eq_of_lt p2,Nat.add_zero]
    rw [←e1,p1,e2]
   subst hjj;have hoo:o=o':=by omega
   subst hoo;rw [hj] at p3;cases p3;rw [h1] at p4;cases p4;rw [ht] at p6;cases p6;exact p7
theorem xI {es:List TV} {i io:Nat} {l:List TV} (h:qb es i io=some l):∃e,es[i]?=some e/\ck e io=some (.l l):=by
 unfold qb at h;split at h
 ·rename_i e he;split at h
  ·rename_i l' hl;cases h;exact⟨e,he,hl⟩
  ·cases h
 ·cases h
theorem Eo {e t:TV} {io:Nat} {ts:List TV} (hc:bH e=some ts) (h:ck e io=some t):ts[io]?=some t:=by
 cases e<;>first|(cases hc;done)|skip
 all_goals first
  |(cases hc;exact h)
  |(cases hc;cases io with
    |zero=>exact h
    |succ n=>cases h)
theorem cx {V:aF} {O v:Nat} {k:Nat->Nat->Nat->List TV->Prop} (h:FF V O v k):∃s io iz es,V.H.get O=some (.gn O s io iz v none es)/\k s io iz es:=by
 unfold FF at h;split at h
 ·rename_i K s io iz ver es ho;split at h
  ·rename_i hb;rw [Qk,Qn,Qn] at hb;obtain⟨rfl,rfl⟩:=hb;exact⟨s,io,iz,es,ho,h⟩
  ·cases h
 ·cases h
theorem oM {A:aY} {H:ay} {K s io iz ver:Nat} {hole:Option Nat} {es:List TV} {a:AV} {i:Nat} {l:List TV} (h:OR A H (.gn K s io iz ver hole es) a) (hi:qb es i io=some l) (hn:hole≠some i) {x:AV} (hx:A (.i K ver i)=some x):qe H iz l x:=by
 obtain⟨hs,hio,hiz,h⟩:=h;obtain⟨e,he,hc⟩:=xI hi;rcases h with ⟨rfl,_⟩|⟨id,g,b,cells,rfl,hH,hb,hg⟩
 ·simp at he
 ·obtain⟨ts,g1,g2,g3,x',g4,g5,g6⟩:=hg.el i e he;rw [hx] at g5;cases g5;obtain⟨l',p1,p2⟩:=g6 hn;rw [Eo g1 hc] at p1;cases p1;exact p2
theorem m9 {A:aY} {V:aF} {st:St} (h:R A V st) {w:VV} {x:AV} {k:List TV->Prop} (hv:uX A w x) (hk:pW V w k) (d:Nat) :
  ∃es a',aP (d+3) st.H x=some a'/\Can (.l es) a'/\a'.flat=true/\(x.plain=true->a'=x)/\k es:=by
 cases w<;>first|(cases hk;done)|skip
 ·refine⟨[],x,?_,?_,?_,fun _=>rfl,hk⟩<;>rcases hv with rfl|rfl<;>first|rfl|exact .nil|exact fl
 ·rename_i O;simp only [pW] at hk;split at hk
  ·rename_i sz es ho;obtain⟨a,h1,h2⟩:=h.heap O _ ho;have hv':A O=some x:=hv;rw [hv'] at h1;cases h1;obtain⟨a',h3,h4,h5,h6,_⟩:=u9 h2 (d+1);exact⟨es,a',h3,h4,h5,h6,hk⟩
  ·rename_i es ho;obtain⟨a,h1,h2⟩:=h.heap O _ ho;have hv':A O=some x:=hv;rw [hv'] at h1;cases h1;obtain⟨a',h3,h4,h5,h6⟩:=D1 h2 d;exact⟨es,a',h3,h4,h5,h6,hk⟩
  ·cases hk
 ·rename_i O v i;obtain⟨s,io,iz,es,ho,l,hl,hk⟩:=cx hk;obtain⟨a,h1,h2⟩:=h.heap O _ ho;obtain⟨a',h3,h4,h5,h6,_⟩:=u9 (oM h2 hl (by simp) hv) (d+1);exact⟨l,a',h3,h4,h5,h6,hk⟩
theorem m_ {V:aF} {w:VV} {k:List TV->Prop} (hk:pW V w k):∃es,k es:=by
 unfold pW at hk;split at hk
 ·split at hk
  ·exact⟨_,hk⟩
  ·exact⟨_,hk⟩
  ·cases hk
 ·obtain⟨_,_,_,_,_,l,_,hk⟩:=cx hk;exact⟨l,hk⟩
 ·exact⟨_,hk⟩
 ·cases hk
theorem Dg {l:List TV} {off n:Nat} {x u:TV} (h:dS (.a l) off n x=some u):∃l',u=.a l':=by
 unfold dS at h;split at h
 ·cases h
 ·rw [cond_eq_ite] at h;split at h
  ·simp only at h;split at h
   ·cases h;exact⟨_,rfl⟩
   ·cases h
  ·cases h
theorem wv {A:aY} {V:aF} {st:St} (h:R A V st) (d:Nat):∀(ovs:List (Nat×VV)) (P:Nat->Prop) (v:TV) (ts:List TV) (cs:List AV) (k:TV->Prop),bH v=some ts->ts.length=cs.length->
  (∀j t x,P j->ts[j]?=some t->cs[j]?=some x->match bq j ovs with|none=>True|some w=>uX A w x)->tn V ovs v k->
  ∃u us,bH u=some us/\us.length=ts.length/\k u/\(∀l,v=.a l->∃l',u=.a l')/\
   ∀j u' x,P j->us[j]?=some u'->cs[j]?=some x->match bq j ovs with|none=>ts[j]?=some u'|some w=>∃a',aP (d+3) st.H x=some a'/\Can u' a'/\a'.flat=true/\(x.plain=true->a'=x)
 |[],P,v,ts,cs,k,hc,hl,ho,hk=>⟨v,ts,hc,rfl,hk,fun l e=>⟨l,e⟩,fun j u' x _ hu hx=>hu⟩
 |(off,w)::r,P,v,ts,cs,k,hc,hl,ho,hk=>by
  obtain⟨u,us,h1,h2,h3,h4,h5⟩:=wv h d r (fun j=>P j/\j≠off) v ts cs _ hc hl (fun j t x hp ht hx=>by have:=ho j t x hp.1 ht hx;rwa [aZ,if_neg (Ne.symm hp.2)] at this) hk
  by_cases hoff:P off/\off < ts.length
  ·obtain⟨hP,hlt⟩:=hoff;have hx:cs[off]?=some (cs[off]'(by omega)):=PU _;have ht:ts[off]?=some ts[off]:=PU _;have hsl:=ho off _ _ hP ht hx;rw [aZ,if_pos rfl] at hsl;obtain⟨es,a',g1,g2,g3,g4,u',g5,g6⟩:=m9 h hsl h3 d;obtain⟨us0,xs,us',p1,p2,p3,p4,p5,p6,p7⟩:=bP g5;rw [h1] at p1;cases p1;cases p2;refine⟨u',us',p4,by omega,g6,fun l e=>?_,fun j q x hp hq hx'=>?_⟩
   ·obtain⟨l',rfl⟩:=h4 l e;exact Dg g5
   ·rw [p7] at hq;rw [aZ];by_cases e:off=j
    ·subst e;rw [if_pos (by omega)] at hq;simp at hq;rw [if_pos rfl];subst hq;rw [hx'] at hx;cases hx;exact⟨a',g1,g2,g3,g4⟩
    ·rw [if_neg (by omega)] at hq;rw [if_neg e];exact h5 j q x ⟨hp,Ne.symm e⟩ hq hx'
  ·obtain⟨es,u',g5,g6⟩:=m_ h3;obtain⟨us0,xs,us',p1,p2,p3,p4,p5,p6,p7⟩:=bP g5;rw [h1] at p1;cases p1;refine⟨u',us',p4,by omega,g6,fun l e=>?_,fun j q x hp hq hx'=>?_⟩
   ·obtain⟨l',rfl⟩:=h4 l e;exact Dg g5
   ·rw [p7] at hq;rw [aZ];by_cases e:off=j
    ·subst e;exact absurd ⟨hp,by have:=(PV.1 hx').1;omega⟩ hoff
    ·rw [if_neg (by omega)] at hq;rw [if_neg e];exact h5 j q x ⟨hp,Ne.symm e⟩ hq hx'
theorem oX {A:aY} {V:aF} {st:St} (h:R A V st) {v:TV} {ovs:List (Nat×VV)} {cs:List AV} {ts:List TV} {k:TV->Prop} (hc:aU A v ovs cs ts) (hk:tn V ovs v k) (d:Nat) :
  ∃u us cs',cw (aP (d+3) st.H) cs=some cs'/\bH u=some us/\BR us cs'/\k u/\(∀l,v=.a l->∃l',u=.a l')/\((∀x∈cs,AV.flat x=true)->cs'=cs):=by
 obtain⟨u,us,h1,h2,h3,h4,h5⟩:=wv h d ovs (fun _=>True) v ts cs k hc.cells hc.len (fun j t x _ ht hx=>by
  have:=hc.at_ j t x ht hx;unfold EO at this;cases ho:bq j ovs with
  |none=>trivial
  |some w=>rw [ho] at this;exact this) hk
 obtain⟨cs',g1,g2,g3⟩:=vr (f:=aP (d+3) st.H) (cs:=cs) (fun j x y=>∀u',us[j]?=some u'->Can u' y/\y.flat=true/\(x.flat=true->y=x)) (fun j x hx=>by
  have hlt:j < us.length:=by rw [h2,hc.len];exact(PV.1 hx).1
  have hu:us[j]?=some us[j]:=PU _;have hp:=h5 j _ x trivial hu hx;cases ho:bq j ovs with
  |none=>rw [ho] at hp;have hq:=hc.at_ j _ x hp hx;rw [ho] at hq;exact⟨x,kM hq.2 (d+2) st.H,fun u' hu'=>by rw [hu] at hu';cases hu';exact⟨hq.1,hq.2,fun _=>rfl⟩⟩
  |some w=>rw [ho] at hp;obtain⟨a',p1,p2,p3,p4⟩:=hp;exact⟨a',p1,fun u' hu'=>by rw [hu] at hu';cases hu';exact⟨p2,p3,fun hf=>p4 (zv hf)⟩⟩)
 have hlen:us.length=cs'.length:=by rw [g2,h2,hc.len]
 have both:∀j y,cs'[j]?=some y->∃x u',cs[j]?=some x/\us[j]?=some u':=fun j y hy=>by have hlt:=(PV.1 hy).1;exact⟨cs[j]'(by omega),us[j]'(by omega),PU _,PU _⟩
 refine⟨u,us,cs',g1,h1,⟨⟨hlen,fun j t y ht hy=>?_⟩,fun y hy=>?_⟩,h3,h4,fun hf=>?_⟩
 ·obtain⟨x,u',hx,hu⟩:=both j y hy;exact(g3 j x y hx hy t ht).1
 ·obtain⟨j,hj⟩:=List.getElem?_of_mem hy;obtain⟨x,u',hx,hu⟩:=both j y hj;exact(g3 j x y hx hj u' hu).2.1
 ·apply List.ext_getElem?;intro j;cases hy:cs'[j]? with
  |none=>rw [List.getElem?_eq_none_iff] at hy;exact(List.getElem?_eq_none_iff.2 (by omega)).symm
  |some y=>obtain⟨x,u',hx,hu⟩:=both j y hy;rw [hx,(g3 j x y hx hy u' hu).2.2 (hf x (P4 hx))]
theorem bO {i j z:Nat} (h:i < j):i*z+z<=j*z:=by have:(i+1)*z<=j*z:=Nat.mul_le_mul_right z h;rwa [Nat.add_mul,Nat.one_mul] at this
theorem uN {sz:Nat} {es xs:List TV} {cs ds:List AV} (h:we sz es cs) (h':we sz xs ds):we sz (es++xs) (cs++ds):=by
 refine⟨by rw [P7,P7,h.len,h'.len,Nat.add_mul],fun x hx=>(Qg.1 hx).elim (h.flat x) (h'.flat x),fun j e hj=>?_⟩;by_cases hlt:j < es.length
 ·rw [PW hlt] at hj;have:=bO (z:=sz) hlt;have:((cs++ds).drop (j*sz)).take sz=(cs.drop (j*sz)).take sz:=by rw [List.drop_append_of_le_length (by rw [h.len];omega),List.take_append_of_le_length (by rw [P9,h.len];omega)]
  rw [this];exact h.el j e hj
 ·rw [PX (by omega)] at hj;have e1:j*sz=cs.length+(j - es.length)*sz:=by rw [h.len,←Nat.add_mul];congr 1;omega
  have:((cs++ds).drop (j*sz))=ds.drop ((j - es.length)*sz):=by rw [e1,List.drop_append];simp
  rw [this];exact h'.el _ e hj
theorem Ib {A:aY} {v:TV} {cs:List AV} {ts:List TV} (hc:aU A v [] cs ts) {off n:Nat} (h:off+n<=ts.length):∀x∈(cs.drop off).take n,AV.flat x=true:=by
 intro x hx;obtain⟨j,hj⟩:=List.getElem?_of_mem hx;rw [P0] at hj;split at hj
 ·rw [P3] at hj;have hl:off+j < ts.length:=by omega
  exact((hc.at_ (off+j) _ x (PU hl) hj):Can _ x/\_).2
 ·cases hj
theorem FT {A:aY} {v:TV} {cs:List AV} {ts:List TV} (hc:aU A v [] cs ts) {off sz:Nat} {e:TV} (h:Ia v off sz=some e):off+sz<=ts.length/\ld e ((cs.drop off).take sz):=by
 have sub:∀{n:Nat},dr v off n=some e->off+n<=ts.length/\ld e ((cs.drop off).take n):=by
  intro n h;obtain⟨ts',rfl,h2,h3,rfl⟩:=gp h;have:=hc.cells.symm.trans h2;cases this;refine⟨h3,.a _ _ (by rw [P8,P8,P9,P9,hc.len]) (fun j t x ht hx=>?_)⟩;rw [P0] at ht hx;split at ht
  ·rw [if_pos ‹_›] at hx;rw [P3] at ht hx;exact((hc.at_ (off+j) t x ht hx):Can t x/\_).1
  ·cases ht
 unfold Ia at h;split at h
 ·split at h
  ·rename_i e' he;rw [cond_eq_ite] at h;split at h
   ·rename_i h1;cases h;obtain⟨ts',h2,h3⟩:=fJ he;have:=hc.cells.symm.trans h2;cases this;have hl:=(PV.1 h3).1;have hl':off < cs.length:=by rw [←hc.len];exact hl
    refine⟨by omega,?_⟩;rw [List.drop_eq_getElem_cons hl',List.take_succ_cons,List.take_zero];exact .one _ _ h1 ((hc.at_ off e _ h3 (PU hl')):Can e _/\_).1
   ·cases h
  ·cases h
 ·exact sub h
theorem Cs {A:aY} {v:TV} {cs:List AV} {ts:List TV} (hc:aU A v [] cs ts) {sz:Nat}:∀{n off:Nat} {es:List TV},I5 v off sz n=some es->es.length=n/\off+n*sz<=cs.length/\we sz es ((cs.drop off).take (n*sz))
 |0,off,es,h=>by
  unfold I5 at h;split at h
  ·rename_i u hu;cases h;obtain⟨ts',h1,h2,h3,_⟩:=gp hu;have:=hc.cells.symm.trans h2;cases this;refine⟨rfl,by rw [←hc.len];omega,?_⟩;rw [Nat.zero_mul,List.take_zero];exact⟨(by simp),(fun x hx=>by cases hx),(fun j e h=>by simp at h)⟩
  ·cases h
 |n+1,off,es,h=>by
  unfold I5 at h;split at h;rotate_left
  ·cases h
  rename_i e he;split at h;rotate_left
  ·cases h
  rename_i r hr;cases h;obtain⟨g1,g2,g3⟩:=Cs hc hr;obtain⟨k1,k2⟩:=FT hc he;have e0:(n+1)*sz=sz+n*sz:=by rw [Nat.add_mul,Nat.one_mul,Nat.add_comm]
  refine⟨by rw [Qa,g1],by rw [e0];omega,?_⟩;have e1:(cs.drop off).take ((n+1)*sz)=(cs.drop off).take sz++(cs.drop (off+sz)).take (n*sz):=by rw [e0,List.take_add,List.drop_drop]
  rw [e1];refine uN (es:=[e]) ⟨?_,Ib hc k1,fun j e' hj=>?_⟩ g3
  ·rw [P8,P9,←hc.len,P_,Nat.one_mul];omega
  ·cases j with
   |zero=>simp at hj;subst hj;rw [Nat.zero_mul,List.drop_zero,List.take_take,Nat.min_self];exact k2
   |succ j=>simp at hj
theorem x5 {A:aY} {sz:Nat}:∀{xs:List TV} {v u:TV} {cs ds:List AV} {ts:List TV} {off:Nat},aU A v [] cs ts->Ke v off sz xs=some u->we sz xs ds->∃cs' us,cO cs off ds=some cs'/\aU A u [] cs' us
 |[],v,u,cs,ds,ts,off,hc,h,hd=>by
  unfold Ke at h;split at h
  ·rename_i w hw;cases h;obtain⟨ts',h1,h2,h3,_⟩:=gp hw;have:=hc.cells.symm.trans h2;cases this;have hd0:ds=[]:=Qt.1 (by rw [hd.len];simp);subst hd0;refine⟨cs,ts,?_,hc⟩;rw [fN,if_pos (by rw [←hc.len];simpa using h3)];simp
  ·cases h
 |x::xs,v,u,cs,ds,ts,off,hc,h,hd=>by
  simp only [Ke] at h;split at h;rotate_left
  ·cases h
  rename_i v1 hv1;have hl:=hd.len;rw [Qa,Nat.add_mul,Nat.one_mul] at hl;obtain⟨tx,hx1,hx2⟩:=dK.1 (hd.el 0 x rfl);rw [Nat.zero_mul,List.drop_zero] at hx2;have hcx:aU A x [] (ds.take sz) tx:=⟨hx1,hx2.1,fun j w hj=>by simp [bq] at hj,fun j t y ht hy=>⟨hx2.2 j t y ht hy,hd.flat y (List.mem_of_mem_take (P4 hy))⟩⟩;obtain⟨hn,cs1,us1,h3,h4,_⟩:=e8 hc hcx hv1;have hd2:we sz xs (ds.drop sz):=⟨by rw [P9];omega,fun y hy=>hd.flat y (List.mem_of_mem_drop hy),fun j e he=>by have:=hd.el (j+1) e (by simpa using he);rwa [Nat.add_mul,Nat.one_mul,Nat.add_comm,←List.drop_drop] at this⟩
  obtain⟨cs2,us2,h5,h6⟩:=x5 (xs:=xs) (off:=off+sz) (ds:=ds.drop sz) h4 h hd2;refine⟨cs2,us2,?_,h6⟩;obtain⟨b1,_⟩:=cP h3;obtain⟨b2,_⟩:=cP h5;obtain⟨l1,a1⟩:=dG h3;obtain⟨l2,a2⟩:=dG h5;rw [P9] at b2;have hov:cO cs off ds=some (cs.take off++ds++cs.drop (off+ds.length)):=by rw [fN,if_pos (by omega)]
  obtain⟨l3,a3⟩:=dG hov;rw [hov];congr 1;refine List.ext_getElem? fun j=>?_
  rw [a3,a2,a1,hn,P9];by_cases q1:off+sz<=j/\j < off+sz+(ds.length - sz)
  ·rw [if_pos q1,if_pos (by omega),P3];congr 1;omega
  ·rw [if_neg q1];by_cases q2:off<=j/\j < off+sz
   ·rw [if_pos q2,if_pos (by omega),P0,if_pos (by omega)]
   ·rw [if_neg q2,if_neg (by omega)]
theorem m7 {A:aY} {V:aF} {st:St} (h:R A V st) {w:VV} {a:AV} {k:TV->Prop} (hv:VR A w a) (hk:Iz V w k) (d:Nat) :
  ∃t a',aP (d+4) st.H a=some a'/\Can t a'/\(a.plain=true->a'=a)/\k t:=by
 cases hv<;>first|(cases hk;done)|skip
 ·rename_i v hc;exact⟨v,a,gu (fK hc) (d+1) _,hc,fun _=>rfl,hk⟩
 ·exact⟨_,_,rfl,.nil,fun _=>rfl,hk⟩
 ·exact⟨_,_,rfl,fl,fun _=>rfl,hk⟩
 ·rename_i O hO;obtain⟨es,a',h1,h2,h3,h4,h5⟩:=m9 h (w:=.sl O) (x:=a) hO hk (d+1);exact⟨_,a',h1,h2,h4,h5⟩
 ·rename_i v ovs cs ts hv hc;obtain⟨u,us,cs',h1,h2,h3,h4,h5,h6⟩:=oX h hc hk d;obtain⟨l',rfl⟩:=h5 _ hv;cases h2;refine⟨_,.agg cs',by rw [eV,h1],.a _ _ h3.1.1 h3.2 h3.1.2,fun hp=>?_,h4⟩;rw [h6 (aJ.1 hp)]
 ·rename_i O v i hO;obtain⟨es,a',h1,h2,h3,h4,h5⟩:=m9 h (w:=.ow O v i) (x:=a) hO hk (d+1);exact⟨_,a',h1,h2,h4,h5⟩
 ·rename_i O off n sz id cap hz hO;simp only [Iz] at hk;split at hk;rotate_left
  ·cases hk
  rename_i v ovs ho;split at hk;rotate_left
  ·cases hk
  obtain⟨es,h1,h2⟩:=hk;obtain⟨z,hz',id',cs,ts,rfl,hH,hc⟩:=h.heap O _ ho;rw [hO] at hz';cases hz';obtain⟨g1,g2,g3⟩:=Cs hc h1;subst g1;refine⟨_,.b6 ((cs.drop off).take (es.length*sz)) es.length (some cap),?_,vQ hz g3 _,(fun hp=>by cases hp),h2⟩;rw [ei,hH];simp only [cond_eq_ite,Qn,if_pos];have:cut cs off (Nat.mul es.length sz)=some ((cs.drop off).take (es.length*sz)):=by rw [cJ];exact if_pos g2
  rw [this];simp only [oG g3.flat]
theorem xp:∀{ovs:List (Nat×VV)},ua ovs=true->∀j w,bq j ovs=some w->w=.bT
 |[],h,j,w,hj=>by simp [bq] at hj
 |(i,x)::r,h,j,w,hj=>by
  cases x<;>first|(cases h;done)|skip
  rw [aZ] at hj;split at hj
  ·cases hj;rfl
  ·exact xp (ovs:=r) h j w hj
theorem kW {A:aY} {v:TV} {ovs:List (Nat×VV)} {cs:List AV} {ts:List TV} (hc:aU A v ovs cs ts) (h:ua ovs=true):(AV.agg cs).plain=true:=by
 refine aJ.2 (fun x hx=>?_);obtain⟨j,hj⟩:=List.getElem?_of_mem hx;have hlt:j < ts.length:=by rw [hc.len];exact(PV.1 hj).1
 have:=hc.at_ j _ x (PU hlt) hj;cases ho:bq j ovs with
 |none=>rw [ho] at this;exact this.2
 |some w=>rw [ho] at this;have hw:=xp h j w ho;subst hw;rcases this with rfl|rfl<;>rfl
theorem uV {A:aY} {V:aF} {st:St} {g:G} (h:R A V st) (ha:act g):∀(xs:List aH) (k:Bool->List TV->Prop),k7 V g xs k->
  ∃p ts as',k p ts/\cw (aP deep st.H) (xs.map (ev st.env))=some as'/\eT ts as'/\(bz AV.plain (xs.map (ev st.env))=true->as'=xs.map (ev st.env))/\(p=true->bz AV.plain (xs.map (ev st.env))=true)
 |[],k,hk=>⟨true,[],[],hk,rfl,⟨rfl,fun j t x ht=>by simp at ht⟩,fun _=>rfl,fun _=>rfl⟩
 |x::xs,k,hk=>by
  obtain⟨w,hw,hk⟩:=bG h ha hk;have fin:∀(t:TV) (a':AV) (kk:Bool->List TV->Prop) (q:Bool),aP deep st.H (ev st.env x)=some a'->Can t a'->((ev st.env x).plain=true->a'=ev st.env x)->(q=true->(ev st.env x).plain=true)->
    k7 V g xs kk->(∀p vs,kk p vs->k (q&&p) (t::vs))->
    ∃p ts as',k p ts/\cw (aP deep st.H) ((x::xs).map (ev st.env))=some as'/\eT ts as'/\(bz AV.plain ((x::xs).map (ev st.env))=true->as'=(x::xs).map (ev st.env))/\(p=true->bz AV.plain ((x::xs).map (ev st.env))=true):=by
   intro t a' kk q h1 h2 h3 hq h4 h5;obtain⟨p,ts,as',g1,g2,g3,g4,g5⟩:=uV h ha xs kk h4;refine⟨q&&p,t::ts,a'::as',h5 _ _ g1,?_,⟨by simp [g3.1],fun j u y hu hy=>?_⟩,fun hp=>?_,fun hp=>?_⟩
   ·rw [List.map_cons,b7,h1,g2]
   ·cases j with
    |zero=>simp at hu hy;subst hu;subst hy;exact h2
    |succ j=>exact g3.2 j u y (by simpa using hu) (by simpa using hy)
   ·rw [List.map_cons] at hp ⊢;have hp':=aJ.1 hp;rw [h3 (hp' _ Qc),g4 (aJ.2 fun y hy=>hp' y (Qd _ hy))]
   ·rw [Qk] at hp;rw [List.map_cons,aJ];intro y hy;rcases Qf.1 hy with rfl|hy
    ·exact hq hp.1
    ·exact aJ.1 (g5 hp.2) y hy
  generalize ev st.env x=a at hw fin;have tree:∀{t:TV},Can t a->k7 V g xs (fun p vs=>k p (t::vs))->_:=fun {t} hc hk=>fin t a _ true (gu (fK hc) 27 _) hc (fun _=>rfl) (fun _=>fK hc) hk (fun p vs hh=>by rw [Bool.true_and];exact hh)
  cases hw with
  |tr hc=>exact tree hc hk
  |bT=>exact tree .nil hk
  |jL=>exact tree fl hk
  |sl hO=>obtain⟨t,a',h1,h2,h3,h4⟩:=m7 h (.sl hO) hk 26;exact fin t a' _ false h1 h2 h3 (fun hh=>by cases hh) h4 (fun p vs hh=>hh)
  |@st v ovs cs ts hv hc=>obtain⟨t,a',h1,h2,h3,h4⟩:=m7 h (.st hv hc) hk 26;exact fin t a' _ (ua ovs) h1 h2 h3 (fun hh=>kW hc hh) h4 (fun p vs hh=>hh)
  |ow hO=>obtain⟨t,a',h1,h2,h3,h4⟩:=m7 h (.ow hO) hk 26;exact fin t a' _ false h1 h2 h3 (fun hh=>by cases hh) h4 (fun p vs hh=>hh)
  |sa hz hO=>obtain⟨t,a',h1,h2,h3,h4⟩:=m7 h (.sa hz hO) hk 26;exact fin t a' _ false h1 h2 h3 (fun hh=>by cases hh) h4 (fun p vs hh=>hh)
  |_=>cases hk
end Go.Ax.V
namespace Go.Ax.V
section
variable {prog:Map aq} {cf:eI} {nt:Nat} {A:aY} {V:aF} {st:St} {d:Option Nat} {g:G} {k:aF->Prop}
def bM (cf:eI) (nt:Nat) (A:aY) (V:aF) (st:St) (d:Option Nat) (op:dV) (k:aF->Prop):Prop:=
 ∃v H' nx',fj cf op (ev st.env) st.H st.nx=some (v,H',nx')/\Next nt A V st d v H' nx' k
theorem aM {op:dV} {p:(aH->AV)->Option aO} {v:AV} (hk:kind op=.plan p) (hp:p (ev st.env)=some (.val v)) (h:Next nt A V st d v st.H st.nx k):bM cf nt A V st d op k:=
 ⟨v,st.H,st.nx,by simp only [fj,hk,hp,bS],h⟩
theorem qg {op:dV} {p:(aH->AV)->Option aO} {f:Nat->AV} {ob:dU} (hk:kind op=.plan p) (hp:p (ev st.env)=some (.new f ob)) (h:Next nt A V st d (f st.nx) (st.H.put (some ob) st.nx) (st.nx+1) k):bM cf nt A V st d op k:=
 ⟨_,_,_,by simp only [fj,hk,hp,bS],h⟩
theorem M4 (hR:R A V st) (ha:act g) {x:aH} (h:dz V g x fun w=>H8 nt V d g w k):bM cf nt A V st d (.mv x) k:=by
 obtain⟨w,hw,hk⟩:=bG hR ha h;refine aM rfl rfl ?_;generalize ev st.env x=a at hw;cases hw with
 |bad=>cases hk
 |tr hc=>
  cases g with
  |none=>exact ax hR (fun _=>.tr hc) hk
  |some p=>obtain⟨r,h1,h2⟩:=aS hR ha hk;cases h1;exact h2 _ hc
 |bT=>exact ax hR (fun _=>.bT) hk
 |jL=>exact ax hR (fun _=>.jL) hk
 |ptr h=>exact ax hR (fun _=>.ptr h) hk
 |pd h=>exact ax hR (fun _=>.pd h) hk
 |sl h=>exact ax hR (fun _=>.sl h) hk
 |ea h=>exact ax hR (fun _=>.ea h) hk
 |pt hl hf h=>exact ax hR (fun _=>.pt hl hf h) hk
 |st hv h=>exact ax hR (fun _=>.st hv h) hk
 |ow h=>exact ax hR (fun _=>.ow h) hk
 |e2 h=>exact ax hR (fun _=>.e2 h) hk
 |gl h1 h2 h3 h4 h5=>exact ax hR (fun _=>.gl h1 h2 h3 h4 h5) hk
 |sa hz h=>exact ax hR (fun _=>.sa hz h) hk
theorem yY {c a b r:TV} {x y z:AV} (h:c_ c a b=some r) (hc:Can c x) (ha:Can a y) (hb:Can b z):∃t,x=.bool t/\Can r (match t with|true=>y|false=>z):=by
 unfold c_ at h;split at h
 ·rename_i t;cases hc;exact⟨t,rfl,by cases t<;>(cases h;assumption)⟩
 ·cases h
theorem Hu (hR:R A V st) (ha:act g) {c a b:aH} (h:ia V g c fun c=>ia V g a fun a=>ia V g b fun b=>di nt V d g (c_ c a b) k):bM cf nt A V st d (.pick c a b) k:=by
 obtain⟨c',h1,h⟩:=bQ hR ha h;obtain⟨a',h2,h⟩:=bQ hR ha h;obtain⟨b',h3,h⟩:=bQ hR ha h;obtain⟨r,h4,h5⟩:=aS hR ha h;obtain⟨t,e,h6⟩:=yY h4 h1 h2 h3;cases t with
 |true=>exact aM rfl (by simp only [nj,e]) (h5 _ h6)
 |false=>exact aM rfl (by simp only [nj,e]) (h5 _ h6)
theorem Fz {sh:Sh} (hR:R A V st) {zero:List AV} (h:match bz c6 zero with
   |true=>fZ nt V d g (fun O=>.ptr O 0) (.ob (.a (bV zero)) (LK sh d (ff 0 zero))) k
   |false=>False):bM cf nt A V st d (.alloc zero) k:=by
 split at h
 ·rename_i hc;exact qg rfl rfl (gP hR h (fun A' hA=>⟨_,_,_,rfl,by rw [Map.au,if_pos rfl],vT A' hc (fun j w=>GQ)⟩) rfl rfl (fun A' O hO=>.ptr hO))
 ·cases h
theorem zm {v:TV} (h:v.ja=false):∃ts,bH v=some ts:=by cases v<;>first|exact⟨_,rfl⟩|cases h
theorem BH {A:aY} {v u:TV} {ovs:List (Nat×VV)} {cs:List AV} {ts:List TV} {c:Nat} (hc:aU A v ovs cs ts) (ho:bq c ovs=some .bT) (hp:dS v c 1 (.l [])=some u):∃us,aU A u (iM c 1 ovs) cs us:=by
 obtain⟨ts',xs,us,h1,h2,h3,h4,h5,h6,h7⟩:=bP hp;have e1:=hc.cells.symm.trans h1;cases e1;cases h2;refine⟨us,h4,h5.trans hc.len,fun j w hj=>?_,fun j t x ht hx=>?_⟩
 ·rw [ey] at hj;split at hj
  ·cases hj
  ·rw [h5];exact hc.keys j w hj
 ·rw [h7] at ht;rw [ey];by_cases hj:c<=j/\j < c+1
  ·rw [if_pos hj] at ht ⊢;have:j=c:=by omega
   subst this;simp at ht;subst ht;have hlt:j < ts.length:=hc.keys j _ ho;have:=hc.at_ j _ x (PU hlt) hx;rw [ho] at this;rcases this with rfl|rfl
   ·exact⟨.nil,rfl⟩
   ·exact⟨fl,rfl⟩
  ·rw [if_neg hj] at ht ⊢;exact hc.at_ j t x ht hx
theorem sZ:∀{l:List Nat} {v:TV} {ovs:List (Nat×VV)} {k:TV->List (Nat×VV)->Prop},zT l v ovs k->(∀v o,k v o->False)->False
 |[],v,ovs,k,hk,h=>h _ _ hk
 |c::l,v,ovs,k,hk,h=>by
  simp only [zT] at hk;split at hk
  ·obtain⟨u,_,hk⟩:=hk;exact sZ hk h
  ·cases hk
theorem yh {A:aY} {cs:List AV}:∀(l:List Nat) (v:TV) (ovs:List (Nat×VV)) (ts:List TV) (k:TV->List (Nat×VV)->Prop),aU A v ovs cs ts->zT l v ovs k->∃v' qx6 ts',aU A v' qx6 cs ts'/\k v' qx6
 |[],v,ovs,ts,k,h,hk=>⟨v,ovs,ts,h,hk⟩
 |c::l,v,ovs,ts,k,h,hk=>by
  simp only [zT] at hk;split at hk
  ·rename_i ho;obtain⟨u,hp,hk⟩:=hk;obtain⟨us,h'⟩:=BH h ho hp;exact yh l u _ us k h' hk
  ·cases hk
theorem JH {sh:Sh} (hR:R A V st) (ha:act g) {x:aH} (h:dz V g x fun w=>match Ci w with
  |some (v,o)=>v.ja=false/\zT (IV sh d) v o fun v o=>fZ nt V d g (fun O=>.ptr O 0) (.ob v o) k
  |none=>False):bM cf nt A V st d (.box x) k:=by
 obtain⟨w,hw,hk⟩:=bG hR ha h;split at hk
 ·rename_i v o hs;obtain⟨ht,hk⟩:=hk;obtain⟨ts,hts⟩:=zm ht;obtain⟨as,h1,h2⟩:=fP hR.one hw hs hts;obtain⟨v',o',ts',h3,hk⟩:=yh _ _ _ _ _ h2 hk;exact qg (f:=fun id=>.ptr id 0 0) (ob:=.row 0 as) rfl (by simp only [xb,h1]) (gP hR hk (fun A' hA=>⟨_,_,_,rfl,by rw [Map.au,if_pos rfl],h3.mono hA⟩) rfl rfl (fun A' O hO=>.ptr hO))
 ·cases hk
theorem jO (ρ:aH->AV) (p:Nat×Nat×aH) (r:List (Nat×Nat×aH)) (cells:List AV):fill ρ (p::r) cells=match (ρ p.2.2).cells? with
  |none=>none
  |some cs=>bif Nat.beq cs.length p.2.1 then match cO cells p.1 cs with
    |some cells=>fill ρ r cells
    |none=>none
   else none:=rfl
theorem rJ (hR:R A V st) (ha:act g):∀(parts:List (Nat×Nat×aH)) (v:TV) (ovs:List (Nat×VV)) (cs:List AV) (ts:List TV) (k:TV->List (Nat×VV)->Prop),aU A v ovs cs ts->v=.a ts->vj V g parts v ovs k->
  ∃v' qx6 cs' ts',fill (ev st.env) parts cs=some cs'/\aU A v' qx6 cs' ts'/\v'=.a ts'/\k v' qx6
 |[],v,ovs,cs,ts,k,hc,hv,hk=>⟨v,ovs,cs,ts,rfl,hc,hv,hk⟩
 |(off,n,x)::r,v,ovs,cs,ts,k,hc,hv,hk=>by
  obtain⟨w,hw,hk⟩:=bG hR ha hk;split at hk
  ·rename_i t o hs;obtain⟨u,hp,hk⟩:=hk;obtain⟨_,xs,_,_,hxs,_⟩:=bP hp;obtain⟨as,h1,h2⟩:=fP hR.one hw hs hxs;obtain⟨hn,cs',us,h3,h4,h5⟩:=e8 hc h2 hp;obtain⟨l',rfl⟩:=h5 _ hv;have:=h4.cells;cases this;obtain⟨v',qx6,cs'',ts',g1,g2,g3,g4⟩:=rJ hR ha r _ _ cs' _ k h4 rfl hk;refine⟨v',qx6,cs'',ts',?_,g2,g3,g4⟩;rw [jO];simp only [h1,cond_eq_ite,Qn,if_pos hn,h3,g1]
  ·cases hk
theorem Gg {v:TV} {ovs:List (Nat×VV)} {cs:List AV} {ts:List TV} (h:aU A v ovs cs ts) (hv:v=.a ts):VR A (HB v ovs) (.agg cs):=by
 cases ovs with
 |nil=>
  subst hv;refine .tr (.a _ _ h.len (fun x hx=>?_) (fun j t x ht hx=>(h.at_ j t x ht hx).1));obtain⟨j,hj⟩:=List.getElem?_of_mem hx;have hlt:j < ts.length:=by rw [h.len];exact(PV.1 hj).1
  exact(h.at_ j _ x (PU hlt) hj).2
 |cons p r=>exact .st hv h
theorem Fy (hR:R A V st) {zero:List AV} {parts:List (Nat×Nat×aH)} (h:match bz c6 zero with
   |true=>vj V none parts (.a (bV zero)) (ff 0 zero) fun v ovs=>cy nt V d none (HB v ovs) k
   |false=>False):bM cf nt A V st d (.build zero parts) k:=by
 split at h
 ·rename_i hc;obtain⟨v',qx6,cs',ts',h1,h2,h3,h4⟩:=rJ (g:=none) hR trivial parts _ _ zero _ _ (kX A hc) rfl h;exact aM rfl (by simp only [jJ,h1]) (ax hR (fun _=>Gg h2 h3) h4)
 ·cases h
theorem zO {v:TV} {cs:List AV} {ts:List TV} (h:aU A v [] cs ts):∀x∈cs,AV.flat x=true:=fun x hx=>by
 obtain⟨j,hj⟩:=List.getElem?_of_mem hx;have hlt:j < ts.length:=by rw [h.len];exact(PV.1 hj).1
 exact(h.at_ j _ x (PU hlt) hj).2
theorem yd {cs:List AV} (h:bz c6 cs=true):aU A (.a (bV cs)) [] cs (bV cs):=by refine⟨rfl,gy cs,fun j w hw=>(by cases hw),fun j t x ht hx=>?_⟩;have hm:x∈cs:=P4 hx;rw [k6,hx] at ht;cases ht;exact hU (aJ.1 h x hm)
theorem wU (hR:R A V st) (ha:act g):∀(parts:List (Nat×Nat×aH)) (k:List (Nat×Nat×TV)->Prop),CH V g parts k->
  ∃l,k l/\∀(v v':TV) (cs:List AV) (ts:List TV),aU A v [] cs ts->v=.a ts->rI l v=some v'->∃cs' ts',fill (ev st.env) parts cs=some cs'/\aU A v' [] cs' ts'/\v'=.a ts'
 |[],k,hk=>⟨[],hk,fun v v' cs ts hc hv hp=>by cases hp;exact⟨cs,ts,rfl,hc,hv⟩⟩
 |(off,n,x)::r,k,hk=>by
  obtain⟨t,ht,hk⟩:=bQ hR ha hk;obtain⟨l,hl,hf⟩:=wU hR ha r _ hk;refine⟨_,hl,fun v v' cs ts hc hv hp=>?_⟩;simp only [rI] at hp;split at hp
  ·rename_i u hu;obtain⟨_,xs,_,_,hxs,_⟩:=bP hu;obtain⟨as,h1,h2⟩:=fP hR.one (.tr ht) (w:=.tr t) rfl hxs;obtain⟨hn,cs',us,h3,h4,h5⟩:=e8 hc h2 hu;obtain⟨l',rfl⟩:=h5 _ hv;have:=h4.cells;cases this;obtain⟨cs'',ts',g1,g2,g3⟩:=hf _ v' cs' _ h4 rfl hp;refine⟨cs'',ts',?_,g2,g3⟩;rw [jO];simp only [h1,cond_eq_ite,Qn,if_pos hn,h3,g1]
  ·cases hp
theorem Dx (hR:R A V st) (ha:act g) {zero:List AV} {parts:List (Nat×Nat×aH)} (h:match bz c6 zero with
   |true=>CH V g parts fun l=>di nt V d g (rI l (.a (bV zero))) k
   |false=>False):bM cf nt A V st d (.build zero parts) k:=by
 split at h
 ·rename_i hc;obtain⟨l,hl,hf⟩:=wU hR ha parts _ h;obtain⟨v,h1,h2⟩:=aS hR ha hl;obtain⟨cs',ts',g1,g2,rfl⟩:=hf _ v zero _ (yd hc) rfl h1;refine aM rfl (by simp only [jJ,g1]) (h2 _ (.a _ _ g2.len (zO g2) (fun j t x ht hx=>(g2.at_ j t x ht hx).1)))
 ·cases h
theorem look_eq (H:ay) (nx:Nat) {id g off n:Nat} {cells cs:List AV} (hH:H.get id=some (.row g cells)) (hc:cut cells off n=some cs) (kk:List AV->Option dU->Option Out) (v:AV) (hk:kk cs none=some ⟨fun _=>v,none,none⟩) :
  bS (.look (some ⟨id,g,off,n⟩) none kk) H nx=some (v,H,nx):=by
 simp only [bS,dO,cM,hH,cond_eq_ite,Qn,if_pos,hc,fH,hk,om]
theorem Ck {op:dV} {p:(aH->AV)->Option aO} (hk:kind op=.plan p) {id gg off n:Nat} {cells cs:List AV} {kk:List AV->Option dU->Option Out} {v:AV} (hp:p (ev st.env)=some (.look (some ⟨id,gg,off,n⟩) none kk))
  (hH:st.H.get id=some (.row gg cells)) (hc:cut cells off n=some cs) (hkk:kk cs none=some ⟨fun _=>v,none,none⟩) (h:Next nt A V st d v st.H st.nx k):bM cf nt A V st d op k:=
 ⟨v,st.H,st.nx,by simp only [fj,hk,hp];exact look_eq _ _ hH hc _ _ hkk,h⟩
theorem eC {sz:Option Nat} {a:aH} {id gg off:Nat} {cells l:List AV} {v:AV} (he:ev st.env a=.ptr id gg off) (hH:st.H.get id=some (.row gg cells)) (hc:cut cells off (bZ sz)=some l) (hm:Ak sz l=some v)
  (h:Next nt A V st d v st.H st.nx k):bM cf nt A V st d (.load sz a) k:=
 Ck (cs:=l) (v:=v) (kk:=fun cs _=>match Ak sz cs with|some v=>some ⟨fun _=>v,none,none⟩|none=>none) rfl (by simp only [iJ,he];rfl) hH hc (by simp only [hm]) h
theorem kY {cs:List AV} {off:Nat} {x:AV} (h:cs[off]?=some x):cut cs off 1=some [x]:=by obtain⟨hlt,hx⟩:=PV.1 h;rw [cJ,if_pos (by omega),List.drop_eq_getElem_cons hlt,hx];rfl
theorem n4 {v:TV} {ovs:List (Nat×VV)} {cs:List AV} {ts:List TV} (hc:aU A v ovs cs ts) {off:Nat} {r:TV} (h:ck v off=some r) (ho:bq off ovs=none):∃x,cut cs off 1=some [x]/\Can r x/\x.flat=true:=by
 obtain⟨ts',h1,h2⟩:=fJ h;have:=hc.cells.symm.trans h1;cases this;have hlt:off < cs.length:=by rw [←hc.len];exact(PV.1 h2).1
 have hx:cs[off]?=some cs[off]:=PU hlt;have:=hc.at_ _ _ _ h2 hx;rw [ho] at this;exact⟨_,kY hx,this⟩
theorem qx {c:Option TV} {r:TV} (h:ej c=some r):∃t,c=some t/\∀x,Can t x->Can r x:=by
 cases c with
 |none=>cases h
 |some t=>
  cases t with
  |pZ y u=>cases h;exact⟨_,rfl,fun x hx=>by cases hx;assumption⟩
  |_=>cases h;exact⟨_,rfl,fun x hx=>hx⟩
theorem gw {v:TV} {ovs:List (Nat×VV)} {cs:List AV} {ts:List TV} (hc:aU A v ovs cs ts) {off n:Nat} {r:TV} (h:dr v off n=some r) :
  ∃l ls,cut cs off n=some l/\r=.a ls/\aU A r (kE off n ovs) l ls:=by
 obtain⟨ts',h0,h1,hl,rfl⟩:=gp h;have:=hc.cells.symm.trans h1;cases this;refine⟨(cs.drop off).take n,_,by rw [cJ,if_pos (by rw [←hc.len];exact hl)],rfl,⟨rfl,?_,fun j w hj=>?_,fun j t x ht hx=>?_⟩⟩
 ·have:=hc.len;simp [this]
 ·rw [nr] at hj;split at hj
  ·rename_i hj';have:=hc.keys _ _ hj;simp only [P8,P9];omega
  ·cases hj
 ·simp only [P0,P3] at ht hx;split at ht
  ·rename_i hj;rw [if_pos hj] at hx;rw [nr,if_pos hj,Nat.add_comm];exact hc.at_ _ _ _ ht hx
  ·cases ht
theorem qz {r:TV} {l:List AV} {ls:List TV} (h:aU A r [] l ls) (hr:r=.a ls):Can r (.agg l):=by have:=Gg h hr;cases this;assumption
theorem D0 {H:ay} {K s io iz ver:Nat} {hole:Option Nat} {es:List TV} {id g b z len cap:Nat} {ex:Bool} (h:OR A H (.gn K s io iz ver hole es) (.ref id g b z len cap ex)) :
  z=s/\len=es.length/\cap=es.length/\ex=false/\0 < s/\io < s/\0 < iz/\∃cells,H.get id=some (.row g cells)/\b<=cells.length/\B0 A H K s io iz ver hole es (cells.drop b):=by
 obtain⟨h1,h2,h3,h4⟩:=h;rcases h4 with ⟨_,e|e⟩|⟨id',g',b',cells,e,h5,h6,h7⟩
 ·cases e
 ·cases e
 ·cases e;exact⟨rfl,rfl,rfl,rfl,h1,h2,h3,cells,h5,h6,h7⟩
theorem sy {H:ay} {K s io iz ver:Nat} {hole:Option Nat} {es:List TV} {cs:List AV} (h:B0 A H K s io iz ver hole es cs) (hio:io < s) {i:Nat} {e:TV} (he:es[i]?=some e) :
  ∃ts,aU A e [(io,.ow K ver i)] ((cs.drop (i*s)).take s) ts/\ts.length=s:=by
 obtain⟨ts,g1,g2,g3,x,g4,g5,g6⟩:=h.el i e he;have hlt:=(PV.1 he).1;have hle:i*s+s<=es.length*s:=by rw [←Nat.succ_mul];exact Nat.mul_le_mul_right s hlt
 have qjV:∀(j:Nat),((cs.drop (i*s)).take s)[j]?=if j < s then cs[i*s+j]? else none:=fun j=>by rw [P0,P3]
 refine⟨ts,⟨g1,by rw [P8,P9,h.len,g2];omega,fun j w hj=>?_,fun j t y ht hy=>?_⟩,g2⟩
 ·rw [aZ] at hj;split at hj
  ·rename_i e';subst e';rw [g2];exact hio
  ·cases hj
 ·have hj:j < s:=by rw [←g2];exact(PV.1 ht).1
  rw [qjV,if_pos hj] at hy;rw [aZ];split
  ·rename_i e';subst e';rw [g4] at hy;cases hy;exact g5
  ·rename_i hne;exact g3 j t y (Ne.symm hne) ht hy
theorem sQ {cells l:List AV} {b i s n off m:Nat} (h3:cut (((cells.drop b).drop (i*s)).take s) off m=some l) (hlt:i < n) (hl:cells.length - b=n*s) (hb:b<=cells.length):cut cells (b+i*s+off) m=some l:=by
 obtain⟨h6,h7⟩:=fk h3;have h9:i*s+s<=n*s:=by have:(i+1)*s<=n*s:=Nat.mul_le_mul_right s hlt;rwa [Nat.add_mul,Nat.one_mul] at this
 have h8:off+m<=s:=by simp only [P8] at h6;omega
 rw [cJ,if_pos (by omega),h7];congr 1;simp only [List.drop_drop,List.drop_take,List.take_take];congr 1;omega
theorem CF {g:G} (ha:act g) {P:Option TV} {k:Prop} (h:Jk g P k):∃e,P=some e/\k:=by
 cases g with
 |none=>exact h
 |some q=>obtain⟨c,bb⟩:=q;obtain⟨e,h1,h2⟩:=h;exact⟨e,h1 ha,h2⟩
theorem BM {off n io:Nat} {w:VV} (h:mY off n io=true):kE off n [(io,w)]=[]:=by simp only [mY,Ql,Qo,Qp] at h;simp only [kE,cond_eq_ite,Qk,Qo,Qp];rw [if_neg (by omega)]
theorem DN {es:List TV} {i io j off:Nat} {sz:Option Nat} {r:TV} (h:M8 es i io j off sz=some r):∃l,qb es i io=some l/\yx l j off sz=some r:=by
 unfold M8 at h;split at h
 ·rename_i l hl;exact⟨l,hl,h⟩
 ·cases h
theorem I2 {H:ay} {z:Nat} {es:List TV} {id g b len cap:Nat} {ex:Bool} (hs:qe H z es (.ref id g b z len cap ex)) {i off:Nat} {sz:Option Nat} {r:TV} (h1:yx es i off sz=some r) :
  ∃cells l x,H.get id=some (.row g cells)/\cut cells (b+i*z+off) (bZ sz)=some l/\Ak sz l=some x/\Can r x:=by
 obtain⟨hz,hs⟩:=hs;rcases hs with ⟨_,e|e⟩|⟨id',g',b',cells,e,hH,hb,hE⟩
 ·cases e
 ·cases e
 ·cases e;unfold yx at h1;split at h1
  ·cases h1
  rename_i e1 he1;have hlt:i < es.length:=(PV.1 he1).1;obtain⟨ts,ht1,ht2⟩:=dK.1 (hE.el i e1 he1);obtain⟨l,x,h3,h4,h5⟩:=nG ht1 ⟨ht2,fG hE.flat _ _⟩ h1;have hl:=hE.len;rw [P9] at hl;exact⟨cells,l,x,hH,sQ h3 hlt hl hb,h4,h5⟩
theorem Cj {H:ay} {z:Nat} {es:List TV} {id g b z' len cap:Nat} {ex:Bool} (hs:qe H z es (.ref id g b z' len cap ex)):z'=z:=by rcases hs.2 with ⟨_,e|e⟩|⟨id',g',b',cells,e,_⟩<;>cases e;rfl
theorem Hw (hR:R A V st) (ha:act g) {sz:Option Nat} {a:aH} (h:dz V g a fun w=>gS nt V d g sz w k):bM cf nt A V st d (.load sz a) k:=by
 obtain⟨w,hw,hk⟩:=bG hR ha h;generalize he:ev st.env a=x at hw;cases hw<;>first|(cases hk;done)|skip
 ·rename_i O off id hO;simp only [gS] at hk;split at hk
  ·rename_i v ovs hv;obtain⟨y,hy,id',cs,ts,rfl,hH,hc⟩:=hR.heap O _ hv;rw [hO] at hy;cases hy;split at hk
   ·split at hk
    ·rename_i w hw;have hlt:=hc.keys _ _ hw;have hx:cs[off]?=some (cs[off]'(by rw [←hc.len];exact hlt)):=PU _;have hs:=hc.at_ off _ _ (PU hlt) hx;rw [hw] at hs;refine eC he hH (kY hx) rfl (ax hR (fun _=>?_) hk);cases w<;>first|(exact absurd hs (by intro hh;exact hh))|skip
     ·rcases hs with e|e
      ·rw [e];exact .bT
      ·rw [e];exact .jL
     ·exact .sl hs
     ·exact .ow hs
    ·rename_i ho;obtain⟨r,h1,h2⟩:=aS hR ha hk;obtain⟨t,h1',hun⟩:=qx h1;obtain⟨x,h3,h4,_⟩:=n4 hc h1' ho;exact eC he hH h3 rfl (h2 _ (hun _ h4))
   ·rename_i n;split at hk
    ·rename_i ho;obtain⟨r,h1,h2⟩:=aS hR ha hk;obtain⟨l,ls,h3,h4,h5⟩:=gw hc h1;rw [ho] at h5;exact eC he hH h3 rfl (h2 _ (qz h5 h4))
    ·rename_i p r ho;split at hk
     ·obtain⟨u,h1,h2⟩:=hk;obtain⟨l,ls,h3,h4,h5⟩:=gw hc h1;rw [ho] at h5;exact eC he hH h3 rfl (ax hR (fun _=>.st h4 h5) h2)
     ·cases hk
  ·cases hk
 ·rename_i O off id hO;simp only [gS] at hk;split at hk
  ·rename_i v ovs hv;split at hk;rotate_left
   ·cases hk
   obtain⟨y,hy,id',cs,ts,rfl,hH,hc⟩:=hR.heap O _ hv;rw [hO] at hy;cases hy;obtain⟨r,h1,h2⟩:=aS hR ha hk;have hf:BR ts cs:=by
    refine⟨⟨hc.len,fun j t x ht hx=>(hc.at_ j t x ht hx).1⟩,fun x hx=>?_⟩;obtain⟨j,hj⟩:=List.getElem?_of_mem hx;have hlt:j < ts.length:=by rw [hc.len];exact(PV.1 hj).1
    exact(hc.at_ j _ x (PU hlt) hj).2
   obtain⟨l,x,h3,h4,h5⟩:=nG hc.cells hf h1;exact eC he hH h3 h4 (h2 _ h5)
  ·cases hk
 ·rename_i O i off id gg b z len cap ex hO;simp only [gS] at hk;split at hk
  ·rename_i z' es hv;obtain⟨y,hy,hs⟩:=hR.heap O _ hv;rw [hO] at hy;cases hy;obtain⟨r,h1,h2⟩:=aS hR ha hk;obtain⟨hz,hs⟩:=hs;rcases hs with ⟨_,e|e⟩|⟨id',g',b',cells,e,hH,hb,hE⟩
   ·cases e
   ·cases e
   ·cases e;unfold yx at h1;split at h1
    ·cases h1
    rename_i e1 he1;have hlt:i < es.length:=(PV.1 he1).1;obtain⟨ts,ht1,ht2⟩:=dK.1 (hE.el i e1 he1);obtain⟨l,x,h3,h4,h5⟩:=nG ht1 ⟨ht2,fG hE.flat _ _⟩ h1;have hl:=hE.len;rw [P9] at hl;obtain⟨h6,h7⟩:=fk h3;have h8:off+bZ sz<=z:=by simp only [P8] at h6;omega
    have h9:i*z+z<=es.length*z:=by have:(i+1)*z<=es.length*z:=Nat.mul_le_mul_right z hlt;rwa [Nat.add_mul,Nat.one_mul] at this
    refine eC he hH (l:=l) ?_ h4 (h2 _ h5);rw [cJ,if_pos (by omega),h7];congr 1;simp only [List.drop_drop,List.drop_take,List.take_take];congr 1;omega
  ·rename_i K s io iz ver hole es hv;split at hk;rotate_left
   ·cases hk
   rename_i hK;rw [Qn] at hK;subst hK;obtain⟨y,hy,hs⟩:=hR.heap K _ hv;rw [hO] at hy;cases hy;obtain⟨rfl,rfl,rfl,rfl,p1,p2,p3,cells,hH,hb,hG⟩:=D0 hs;have hl:=hG.len;rw [P9] at hl;split at hk
   ·split at hk
    ·rename_i ho;rw [Qn] at ho;subst ho;split at hk;rotate_left
     ·cases hk
     obtain⟨e,he1,hk⟩:=CF ha hk;obtain⟨ts,g1,g2,g3,x,g4,g5,g6⟩:=hG.el i e he1;refine eC he hH (l:=[x]) ?_ rfl (ax hR (fun _=>.ow g5) hk);rw [P3] at g4;have:=kY g4;rw [←Nat.add_assoc] at this;exact this
    ·obtain⟨r,h1,h2⟩:=aS hR ha hk;rename_i ho;have ho':off≠io:=fun e=>by subst e;simp at ho
     unfold yx at h1;split at h1
     ·cases h1
     rename_i e1 he1;obtain⟨ts,hc,hts⟩:=sy hG p2 he1;obtain⟨x,h3,h4,_⟩:=n4 hc h1 (by rw [aZ,if_neg (Ne.symm ho')];rfl);exact eC he hH (sQ h3 (PV.1 he1).1 hl hb) rfl (h2 _ h4)
   ·rename_i n;split at hk;rotate_left
    ·cases hk
    rename_i hap;obtain⟨r,h1,h2⟩:=aS hR ha hk;unfold yx at h1;split at h1
    ·cases h1
    rename_i e1 he1;obtain⟨ts,hc,hts⟩:=sy hG p2 he1;obtain⟨l,ls,h3,h4,h5⟩:=gw hc h1;rw [BM hap] at h5;exact eC he hH (sQ h3 (PV.1 he1).1 hl hb) rfl (h2 _ (qz h5 h4))
  ·cases hk
 ·rename_i v cs b off n hl hf hcc;obtain⟨r,h1,h2⟩:=aS hR ha hk;obtain⟨ts,ht1,ht2⟩:=dK.1 hcc;obtain⟨l,x,h3,h4,h5⟩:=nG ht1 ⟨ht2,fG hf _ _⟩ h1;obtain⟨h6,h7⟩:=fk h3;have h8:off+bZ sz<=n:=by simp only [P8] at h6;omega
  have qxi:cut cs (b+off) (bZ sz)=some l:=by rw [cJ,if_pos (by omega),h7];congr 1;simp only [List.drop_drop,List.drop_take,List.take_take];congr 1;omega
  exact aM (v:=x) rfl (by simp only [iJ,he,qxi,h4,dI]) (h2 _ h5)
 ·rename_i O v i j off id gg b z len cap ex hA;obtain⟨s,io,iz,es,ho,hk⟩:=cx hk;obtain⟨y,hy,hs⟩:=hR.heap O _ ho;obtain⟨r,h1,h2⟩:=aS hR ha hk;obtain⟨l,hl,h1⟩:=DN h1;have hsl:=oM hs hl (by simp) hA;obtain rfl:=Cj hsl;obtain⟨cells,l',x,hH,h3,h4,h5⟩:=I2 hsl h1;exact eC he hH h3 h4 (h2 _ h5)
end
end Go.Ax.V
end
