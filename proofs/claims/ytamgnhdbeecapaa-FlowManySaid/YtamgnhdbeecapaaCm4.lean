/- Part 4 of the proof: Ax24, Ax25, Ax26, Ax27, V0, LmIR, V1, V2, V3, V4, V5. -/
import Derived.Test.YtamgnhdbeecapaaCm3
import Derived.LoopN
set_option linter.unusedSimpArgs false
set_option linter.unusedVariables false
noncomputable section
namespace Go.Ax
section
variable {cf:iy} {nt n0:Nat} {H:aU} {nx:Nat}
theorem Ej (hup:nw cf) {ao:aq} {st st1:St} {r:Rec} (hd:cq cf nt n0 ao st=some (st1,r)):st.nx<=st1.nx:=by
 have qxd:∀{f:Nat} {args:List AV} {m:Mode} {v:AV} {H':aU} {nx':Nat} {dW:List Rd} {cW:M4},dm cf n0 f args m st.H st.nx=some (v,H',nx',dW,cW)->st.nx<=nx':=by
  intro f args m v H' nx' dW cW h;cases m with
  |share=>
   simp only [dm] at h;split at h
   ·rename_i hc;cases h;exact hup _ _ _ _ _ _ _ hc
   ·cases h
  |borrow=>simp only [dm,cond_eq_ite] at h;split at h<;>split at h<;>first|(cases h;exact U3 _)|cases h
 unfold cq at hd;rw [cond_eq_ite] at hd;split at hd
 ·split at hd
  ·cases hd
  ·rename_i v H nx dW cW hE;split at hd
   ·cases hd
   ·cases hd;unfold gP at hE;rw [cond_eq_ite] at hE;split at hE
    ·split at hE
     ·split at hE
      ·cases hE
      ·split at hE
       ·cases hE;exact U3 _
       ·cases hE
     ·cases hE
    ·unfold o_ at hE;split at hE
     ·split at hE
      ·split at hE
       ·rename_i hrun;cases hE;exact rX hrun
       ·cases hE
      ·cases hE
     ·exact qxd hE
     ·split at hE
      ·exact qxd hE
      ·cases hE
 ·split at hd
  ·cases hd
  ·cases hd;exact U3 _
theorem xT (hup:nw cf):∀{al:List aq} {st st':St} {rs:List Rec},e8 cf nt n0 al st=some (st',rs)->st.nx<=st'.nx
 |[],st,st',rs,h=>by cases h;exact U3 _
 |ao::al,st,st',rs,h=>by
  simp only [e8] at h;split at h
  ·cases h
  ·rename_i st1 r h1;split at h
   ·cases h
   ·rename_i h2;cases h;exact U1 (Ej hup h1) (xT hup h2)
end
def vZ (ex:fW):Prop:=∀nt ac st x st',ex nt ac st=some (x,st')->st.nx<=st'.nx
theorem C7 {ex:fW} {cf:iy} (h1:vZ ex) (h2:nw cf):vZ (bp ex cf):=by
 intro nt ac st x st' h;unfold bp at h;split at h
 ·cases h;exact U3 _
 ·split at h
  ·rename_i hr;cases h;exact uU h2 hr
  ·cases h
 ·split at h
  ·rename_i hr;cases h;unfold eZ at hr;split at hr
   ·cases hr
   ·rename_i hrun;rw [cond_eq_ite] at hr;split at hr
    ·cases hr;exact xT h2 hrun
    ·cases hr
  ·cases h
 ·split at h
  ·rename_i hr;exact U1 (h1 _ _ _ _ _ hr) (h1 _ _ _ _ _ h)
  ·exact h1 _ _ _ _ _ h
 ·split at h
  ·exact h1 _ _ _ _ _ h
  ·exact h1 _ _ _ _ _ h
  ·cases h
 ·split at h
  ·rename_i hr;rw [cond_eq_ite] at h;split at h
   ·cases h;exact h1 _ _ _ _ _ hr
   ·cases h;exact h1 _ _ _ _ _ hr
  ·exact h1 _ _ _ _ _ h
 ·split at h
  ·rename_i hr;exact U1 (h1 _ _ _ _ _ hr) (h1 _ _ _ _ _ h)
  ·exact h1 _ _ _ _ _ h
 ·cases h;exact U3 _
 ·cases h;exact U3 _
theorem AU {l:List ny} {st:St} {v:AV} {H':aU} {nx':Nat} (h:kW l st=some (v,H',nx')):H'=st.H/\nx'=st.nx:=by
 unfold kW at h;split at h
 ·cases h;exact⟨rfl,rfl⟩
 ·cases h;exact⟨rfl,rfl⟩
 ·cases h
theorem F4 {prog:Map ak} {ex:fW} (h1:vZ ex):nw (kz prog ex):=by
 intro f args H nx v H' nx' h;unfold kz at h;split at h
 ·cases h
 ·rw [cond_eq_ite] at h;split at h
  ·split at h
   ·rename_i hr;obtain⟨_,rfl⟩:=AU h;exact h1 _ _ _ _ _ hr
   ·rename_i hr;obtain⟨_,rfl⟩:=AU h;exact h1 _ _ _ _ _ hr
   ·cases h
  ·cases h
theorem vl (prog:Map ak):∀k,vZ (interp prog k).code/\nw (interp prog k).fn
 |0=>⟨fun _ _ _ _ _ h=>(by cases h),fun _ _ _ _ _ _ _ h=>(by cases h)⟩
 |k+1=>by obtain⟨h1,h2⟩:=vl prog k;exact⟨C7 h1 h2,F4 h1⟩
def ff (P:Program):Code->c8->Bool
 |.skip,.skip=>true
 |.region _ ops draw,.aQ al=>!draw&&iV P ops ops.toList al
 |.region _ ops draw,.cj al ahead pairs=>draw&&E0 P ops al ahead pairs
 |.seq a b,.seq a' b'=>ff P a a'&&ff P b b'
 |.cond c a b,.cond c' a' b'=>bV c c'&&ff P a a'&&ff P b b'
 |.block id c,.block id' c'=>Nat.beq id id'&&ff P c c'
 |.loop c,.loop c'=>ff P c c'
 |.exit id,.exit id'=>Nat.beq id id'
 |.ret,.ret=>true
 |_,_=>false
def bY.Gd:bY->Exit
 |.normal=>.normal
 |.exit id=>.exit id
 |.ret=>.ret
def K7 (P:Program) (X:Code->(Exit->Act->World->Prop)->Act->World->Prop) (nt:Nat) (st:St) (x:bY) (st':St) (c:Code):Prop:=
 ∀(top:Nat) (φ:gW) (K:Nat->Prop) (w:World) (a:Act) (Q:Exit->Act->World->Prop),st'.nx<=top->ck top φ K st.H.get st.nx w->lO φ K w st.env a->a.tmps.size=nt->a.defers=[]->(∀a' w',Post top φ K st w nt st' a' w'->Q x.Gd a' w')->X c Q a w
def pX (P:Program) (ex:fW):Prop:=∀nt ac st x st',ex nt ac st=some (x,st')->∀c,ff P c ac=true->K7 P (fun c Q a w=>c.wp P Q a w) nt st x st' c
def BJ (P:Program) (ex:fW) (n:Nat):Prop:=∀nt ac st x st',ex nt (.loop ac) st=some (x,st')->∀c,ff P c ac=true->K7 P (fun c Q a w=>Code.rounds P c Q n a w) nt st x st' c
theorem E1 {P:Program} {ex:fW} {cf:iy} {n:Nat} (h1:pX P ex) (hu:vZ ex) (hl:BJ P ex n):BJ P (bp ex cf) (n+1):=by
 intro nt ac st x st' h c hm top φ K w a Q ht s he hs hd hQ;simp only [bp] at h;rw [rounds_succ];split at h
 ·rename_i st1 hr;have hle:=hu _ _ _ _ _ h;refine h1 nt ac st .normal st1 hr c hm top φ K w a _ (U1 hle ht) s he hs hd (fun a1 w1 hp=>?_);obtain⟨φ1,K1,g,q1,q2,q3⟩:=hp;exact hl nt ac st1 x st' h c hm top φ1 K1 w1 a1 Q ht g.j4 q1 q2 q3 (fun a' w' hp'=>hQ a' w' (hp'.trans g))
 ·rename_i hne;refine h1 nt ac st x st' h c hm top φ K w a _ ht s he hs hd (fun a1 w1 hp=>?_);cases x with
  |normal=>exact(hne _ h).elim
  |exit id=>exact hQ a1 w1 hp
  |ret=>exact hQ a1 w1 hp
theorem Ku {P:Program} {ex:fW} {cf:iy} {n:Nat} (xh:P.follows .mixedOrders=true) (h1:pX P ex) (hu:vZ ex) (hl:BJ P ex n) (hcf:mz P cf) (hup:nw cf):pX P (bp ex cf):=by
 intro nt ac st x st' h c hm top φ K w a Q ht s he hs hd hQ;cases ac with
 |skip=>
  cases c<;>first|cases hm|skip
  cases h;exact wp_skip (hQ a w ⟨φ,K,c7.refl s,he,hs,hd⟩)
 |aQ al=>
  cases c<;>first|cases hm|skip
  rename_i id ops draw;simp only [ff,UN,UP] at hm;obtain⟨rfl,hm⟩:=hm;simp only [bp] at h;split at h
  ·rename_i st1 hr;cases h;exact wp_region_list (OA hcf hup ops.toList al st st' a w φ K hm hr ht s he hs hd hQ)
  ·cases h
 |cj al ahead pairs=>
  cases c<;>first|cases hm|skip
  rename_i id ops draw;simp only [ff,UN] at hm;obtain⟨rfl,hm⟩:=hm;simp only [bp] at h;split at h
  ·rename_i st1 hr;cases h;exact Kq hcf hup xh hm hr ht s he hs hd hQ
  ·cases h
 |seq a1 b1=>
  cases c<;>first|cases hm|skip
  rename_i ca cb;simp only [ff,UN] at hm;simp only [bp] at h;refine wp_seq ?_;split at h
  ·rename_i st1 hr;have hle:=hu _ _ _ _ _ h;refine h1 nt a1 st .normal st1 hr ca hm.1 top φ K w a _ (U1 hle ht) s he hs hd (fun a1 w1 hp=>?_);obtain⟨φ1,K1,g,q1,q2,q3⟩:=hp;exact h1 nt b1 st1 x st' h cb hm.2 top φ1 K1 w1 a1 Q ht g.j4 q1 q2 q3 (fun a' w' hp'=>hQ a' w' (hp'.trans g))
  ·rename_i hne;refine h1 nt a1 st x st' h ca hm.1 top φ K w a _ ht s he hs hd (fun a1 w1 hp=>?_);cases x with
   |normal=>exact(hne _ h).elim
   |exit id=>exact hQ a1 w1 hp
   |ret=>exact hQ a1 w1 hp
 |cond c0 a1 b1=>
  cases c<;>first|cases hm|skip
  rename_i cc ca cb;simp only [ff,UN] at hm;simp only [bp] at h;have hr:=he.Qu _ _ hm.1.1;split at h
  ·rename_i hc;rw [hc] at hr;exact wp_cond_true (fc hr) (h1 nt a1 st x st' h ca hm.1.2 top φ K w a Q ht s he hs hd hQ)
  ·rename_i hc;rw [hc] at hr;exact wp_cond_false (fc hr) (h1 nt b1 st x st' h cb hm.2 top φ K w a Q ht s he hs hd hQ)
  ·cases h
 |block id c0=>
  cases c<;>first|cases hm|skip
  rename_i id' cc;simp only [ff,UN,UQ] at hm;obtain⟨rfl,hm⟩:=hm;simp only [bp] at h;refine wp_block ?_;split at h
  ·rename_i i st1 hr;rw [cond_eq_ite] at h;split at h
   ·rename_i hi;rw [UQ] at hi;cases h;refine h1 nt c0 st (.exit i) st' hr cc hm top φ K w a _ ht s he hs hd (fun a1 w1 hp=>?_);simp only [bY.Gd,Exit.inBlock,if_pos hi];exact hQ a1 w1 hp
   ·rename_i hi;rw [UQ] at hi;cases h;refine h1 nt c0 st (.exit i) st' hr cc hm top φ K w a _ ht s he hs hd (fun a1 w1 hp=>?_);simp only [bY.Gd,Exit.inBlock,if_neg hi];exact hQ a1 w1 hp
  ·rename_i hne;refine h1 nt c0 st x st' h cc hm top φ K w a _ ht s he hs hd (fun a1 w1 hp=>?_);cases x with
   |normal=>exact hQ a1 w1 hp
   |exit id=>exact(hne _ _ h).elim
   |ret=>exact hQ a1 w1 hp
 |loop c0=>
  cases c<;>first|cases hm|skip
  rename_i cc;exact wp_loop_rounds (n+1) (E1 (cf:=cf) h1 hu hl nt c0 st x st' h cc hm top φ K w a Q ht s he hs hd hQ)
 |exit id=>
  cases c<;>first|cases hm|skip
  simp only [ff,UQ] at hm;subst hm;cases h;exact wp_exit (hQ a w ⟨φ,K,c7.refl s,he,hs,hd⟩)
 |ret=>
  cases c<;>first|cases hm|skip
  cases h;exact wp_ret (hQ a w ⟨φ,K,c7.refl s,he,hs,hd⟩)
def Bj (P:Program):List ResultVar->List ny->Bool
 |[],[]=>true
 |.tmp t::l,.tmp t'::l'=>Nat.beq t t'&&Bj P l l'
 |.cell a t::l,.cell a' sz::l'=>Nat.beq a a'&&xy P t sz&&Bj P l l'
 |_,_=>false
def HY (P:Program) (fn:Func) (c:Code) (af:ak):Bool:=Nat.beq fn.ntmps af.nt&&Nat.ble af.params af.nt&&ff P c af.body&&Bj P fn.results.toList af.res
def uy (P:Program) (f:Nat) (af:ak):Prop:=(∃fn c,P.funcs[f]?=some fn/\fn.body=some c/\HY P fn c af=true)/\∀args w,(callFunc f args).run P w=.ok (.enter f args) w
theorem yu:∀(vs:List AV) (i:Nat) (e:Env) (t:Nat),ev (dO vs i e) (.t t)=if i<=t/\t < i+vs.length then vs.getD (t - i) dQ else ev e (.t t)
 |[],i,e,t=>by simp [dO];intro h1 h2;omega
 |v::vs,i,e,t=>by
  rw [dO,yu vs (i+1) _ t,Bq];by_cases h1:t=i
  ·subst h1;rw [if_neg (by omega),if_pos rfl,if_pos (by simp)];simp
  ·rw [if_neg h1];by_cases h2:i+1<=t/\t < i+1+vs.length
   ·rw [if_pos h2,if_pos (by simp;omega),show t - i=(t - (i+1))+1 by omega];simp
   ·rw [if_neg h2,if_neg (by simp;omega)]
section
variable {top:Nat} {P:Program} {φ:gW} {K:Nat->Prop} {w:World} {st:St} {a:Act}
def xY (tmps:Array Value):ResultVar->Sem Value
 |.tmp t=>pure (tmps.getD t undef)
 |.cell b t=>do loadVar t (←asAddr (tmps.getD b undef))
theorem DG (fn:Func) (tmps:Array Value):results fn tmps=(do let vs ←fn.results.mapM (xY tmps);pure (if h:vs.size=1 then vs[0] else .tuple vs)):=by rfl
theorem FL (s:ck top φ K st.H.get st.nx w) (he:lO φ K w st.env a):∀(l:List ResultVar) (l':List ny) (vs:List AV),Bj P l l'=true->fo (gi st.env st.H) l'=some vs->
  ∃Vs:List Value,(l.mapM (xY a.tmps)).run P w=.ok Vs w/\Vs.length=vs.length/\∀(j:Nat) (v:AV) (V:Value),vs[j]?=some v->Vs[j]?=some V->ax φ K w v V:=by
 intro l
 induction l with
 |nil=>
  intro l' vs hm hv;cases l' with
  |nil=>cases hv;exact⟨[],rfl,rfl,fun j v V h=>by simp at h⟩
  |cons _ _=>cases hm
 |cons r l ih=>
  intro l' vs hm hv;cases l' with
  |nil=>cases r<;>cases hm
  |cons r' l'=>
   rw [cx] at hv;cases h1:gi st.env st.H r' with
   |none=>rw [h1] at hv;cases hv
   |some v=>
    rw [h1] at hv;simp only at hv;cases h2:fo (gi st.env st.H) l' with
    |none=>rw [h2] at hv;cases hv
    |some vs'=>
     rw [h2] at hv;cases hv;have fin:∀V:Value,ax φ K w v V->Bj P l l'=true->(xY a.tmps r).run P w=.ok V w->
       ∃Vs:List Value,((r::l).mapM (xY a.tmps)).run P w=.ok Vs w/\Vs.length=(v::vs').length/\∀(j:Nat) (v':AV) (V':Value),(v::vs')[j]?=some v'->Vs[j]?=some V'->ax φ K w v' V':=by
      intro V hV hml hrun;obtain⟨Vs,q1,q2,q3⟩:=ih l' vs' hml h2;refine⟨V::Vs,?_,by simp [q2],fun j v' V' hj hJ=>?_⟩
      ·rw [List.mapM_cons,Sem.run_bind];rw [hrun];simp [q1]
      ·cases j with
       |zero=>simp at hj hJ;subst hj;subst hJ;exact hV
       |succ j=>exact q3 j v' V' (by simpa using hj) (by simpa using hJ)
     cases r with
     |tmp t=>
      cases r' with
      |cell _ _=>cases hm
      |tmp t'=>simp only [Bj,UN,UQ] at hm;obtain⟨rfl,hm⟩:=hm;cases h1;exact fin _ (he t) hm rfl
     |cell b t=>
      cases r' with
      |tmp _=>cases hm
      |cell b' sz=>
       simp only [Bj,UN,UQ] at hm;obtain⟨⟨rfl,htv⟩,hm⟩:=hm;simp only [gi] at h1;split at h1
       ·rename_i id g off hev;split at h1
        ·rename_i cs hcs;rw [Fb] at hcs;have hb:=he b;rw [hev] at hb;obtain⟨blk,base,hp1,hV⟩:=mV hb;obtain⟨b1,qxa,c,e,p1,p2,p3,p4,p5⟩:=jo s hcs;rw [hp1] at p1;cases p1;have hlen:=lJ c (base+off) (cP sz);have qxc:∀(j:Nat) (x:AV),cs[j]?=some x->x.one=true/\∃u,(sn c (base+off) (cP sz))[j]?=some u/\ax φ K w x u:=by
          intro j x hx;obtain⟨r1,u,r2,r3⟩:=p5 j x hx;have hj:j < cP sz:=by
           rcases Nat.lt_or_ge j cs.length with hj|hj
           ·omega
           ·rw [Ut hj] at hx;cases hx
          exact⟨r1,u,by rw [iX c _ _ j hj (by omega)];exact r2,r3⟩
         refine fin _ (AY s htv h1 _ (by rw [p4,hlen]) qxc) hm ?_;simp only [xY,hV,asAddr,Sem.run_bind,Sem.run_pure,Result.andThen_ok];refine oa htv blk (base+off) _ hlen (fun j hj=>?_);rw [nv p2,iX c _ _ j (by omega) (by omega)]
        ·cases h1
       ·cases h1
theorem xV (s:ck top φ K st.H.get st.nx w) (he:lO φ K w st.env a) {fn:Func} {l':List ny} (hm:Bj P fn.results.toList l'=true) {v:AV} {H':aU} {nx':Nat} (hv:kW l' st=some (v,H',nx')) :
  ∃V,(results fn a.tmps).run P w=.ok V w/\ax φ K w v V:=by
 unfold kW at hv;have key:∀vs,fo (gi st.env st.H) l'=some vs->∃Vs:List Value,Vs.length=vs.length/\(∀(j:Nat) (v:AV) (V:Value),vs[j]?=some v->Vs[j]?=some V->ax φ K w v V)/\(results fn a.tmps).run P w=.ok (if h:Vs.toArray.size=1 then Vs.toArray[0] else .tuple Vs.toArray) w:=by
  intro vs hvs;obtain⟨Vs,q1,q2,q3⟩:=FL s he fn.results.toList l' vs hm hvs;refine⟨Vs,q2,q3,?_⟩;have e:fn.results=fn.results.toList.toArray:=by simp
  rw [DG,e,List.mapM_toArray];simp [q1]
 split at hv
 ·rename_i v1 hvs;cases hv;obtain⟨Vs,q1,q2,q3⟩:=key _ hvs;cases Vs with
  |nil=>simp at q1
  |cons V Vs=>have hVs:Vs=[]:=List.eq_nil_of_length_eq_zero (by simpa using q1);subst hVs;exact⟨V,by rw [q3];rfl,q2 0 v V rfl rfl⟩
 ·rename_i vs hne hvs;cases hv;obtain⟨Vs,q1,q2,q3⟩:=key _ hvs;refine⟨.tuple Vs.toArray,?_,.iR vs Vs.toArray (by simp [q1]) (fun j a V ha hV=>q2 j a V ha (by simpa using hV))⟩;rw [q3,dif_neg];intro h1;cases vs with
  |nil=>simp at q1;simp [q1] at h1
  |cons v1 vs1=>
   cases vs1 with
   |nil=>exact hne v1 rfl
   |cons _ _=>simp at q1 h1;omega
 ·cases hv
end
theorem O_ {P:Program} {prog:Map ak} (qxP:∀f af,prog.get f=some af->uy P f af) {ex:fW} (h1:pX P ex):mz P (kz prog ex):=by
 intro f args H nx v H' nx' h;unfold kz at h;split at h
 ·cases h
 ·rename_i af haf;obtain⟨⟨fn,c,hf,hb,hm⟩,qxd⟩:=qxP f af haf;simp only [HY,UN,UQ,UR] at hm;obtain⟨⟨⟨hnt,hpn⟩,hmc⟩,hmr⟩:=hm;refine⟨qxd,?_⟩;rw [cond_eq_ite] at h;split at h
  ·rename_i hlen;rw [UQ] at hlen;intro top φ K w cargs ht s ha;have hsz:(cargs++Array.replicate (fn.ntmps - cargs.size) undef).size=af.nt:=by have:=ha.1;simp;omega
   have qxq:lO φ K w (dO args 0 .leaf) {tmps:=cargs++Array.replicate (fn.ntmps - cargs.size) undef,defers:=[]}:=by
    intro t;rw [yu];simp only [U2,true_and,Nat.zero_add,Nat.sub_zero];by_cases hlt:t < args.length
    ·rw [if_pos hlt];have hc:t < cargs.size:=by have:=ha.1;omega
     have h2:=ha.2 t _ _ (Un hlt) (Array.getElem?_eq_getElem hc);have e1:args.getD t dQ=args[t]:=by simp [hlt]
     have e2:(cargs++Array.replicate (fn.ntmps - cargs.size) undef).getD t undef=cargs[t]:=by rw [Array.getD_eq_getD_getElem?,Array.getElem?_append_left hc,Array.getElem?_eq_getElem hc];rfl
     rw [e1,e2];exact h2
    ·rw [if_neg hlt];have e2:(cargs++Array.replicate (fn.ntmps - cargs.size) undef).getD t undef=undef:=by rw [Array.getD_eq_getD_getElem?,Array.getElem?_append_right (by have:=ha.1;omega),Array.getElem?_replicate];split<;>rfl
     rw [e2];exact p9
   have fin:∀(x:bY) (st:St),ex af.nt af.body ⟨dO args 0 .leaf,H,nx⟩=some (x,st)->(x=.normal\/x=.ret)->kW af.res st=some (v,H',nx')->Calls P f cargs w (M8 (Ends top φ K H.get nx w v H'.get nx')):=by
    intro x st hr hx hres;obtain⟨rfl,rfl⟩:=AU hres;refine calls_of_wp hf hb ?_;refine h1 af.nt af.body _ x st hr c hmc top φ K w _ _ ht s qxq hsz rfl (fun a' w' hp=>?_);obtain⟨φ',K',g,qxy,hs',hd'⟩:=hp;obtain⟨V,hV1,hV2⟩:=xV (P:=P) (fn:=fn) g.j4 qxy hmr hres;have hb:a'.defers=[]/\∃V,(results fn a'.tmps).run P w'=.ok V w'/\M8 (Ends top φ K H.get nx w v st.H.get st.nx) (.returned V) w':=⟨hd',V,hV1,φ',K',g,hV2⟩;rcases hx with rfl|rfl
    ·exact hb
    ·exact hb
   split at h
   ·rename_i st hr;exact fin .normal st hr (.inl rfl) h
   ·rename_i st hr;exact fin .ret st hr (.inr rfl) h
   ·cases h
  ·cases h
theorem vm {P:Program} (xh:P.follows .mixedOrders=true) {prog:Map ak} (qxP:∀f af,prog.get f=some af->uy P f af):∀k,pX P (interp prog k).code/\BJ P (interp prog k).code k/\mz P (interp prog k).fn
 |0=>⟨fun _ _ _ _ _ h=>(by cases h),fun _ _ _ _ _ h=>(by cases h),fun _ _ _ _ _ _ _ h=>(by cases h)⟩
 |k+1=>by obtain⟨h1,h2,h3⟩:=vm xh qxP k;obtain⟨u1,u2⟩:=vl prog k;exact⟨Ku xh h1 u1 h2 h3 u2,E1 h1 u1 h2,O_ qxP h1⟩
end Go.Ax
namespace Go.Ax
theorem Bo {W W':World} (e:Ext (fun _=>False) W W'):RowKit.Grown W W':=by
 refine⟨⟨e.os,e.output,fun i hi=>?_⟩,e.fz,e.size⟩;rw [e.same i hi (fun h=>h)];cases h:W.heap[i]? with
 |none=>rfl
 |some ob=>
  cases ob with
  |cells c t fr=>exact⟨rfl,rfl,rfl,fun _ _=>rfl⟩
  |map es clk=>exact .inr ⟨rfl,rfl⟩
  |_=>rfl
def isTrue:Option (AV×aU×Nat)->Bool
 |some (.bool b,_,_)=>b
 |_=>false
theorem CL {r:Option (AV×aU×Nat)} (h:isTrue r=true):∃H nx,r=some (.bool true,H,nx):=by
 unfold isTrue at h;split at h
 ·subst h;exact⟨_,_,rfl⟩
 ·cases h
theorem IN {φ:gW} {K:Nat->Prop} {w:World} {a:AV} {V:Value} (h:ax φ K w a V):zd φ K w [a] #[V]:=
 ⟨rfl,fun j b U hb hU=>by
  cases j with
  |zero=>simp at hb hU;subst hb;subst hU;exact h
  |succ j=>simp at hb⟩
def mF (P:Program) (fn:Func) (af:ak):Bool:=match fn.body with|some c=>HY P fn c af|none=>false
theorem DT {P:Program} {f:Nat} {fn:Func} {af:ak} (hf:P.funcs[f]?=some fn) (hm:mF P fn af=true) (qxd:∀args w,(callFunc f args).run P w=.ok (.enter f args) w):uy P f af:=by
 unfold mF at hm;split at hm
 ·rename_i c hc;exact⟨⟨fn,c,hf,hc,hm⟩,qxd⟩
 ·cases hm
def KH (M:Nat->ak->Prop):Map ak->(Nat->Nat)->Prop
 |.leaf,_=>True
 |.node v l r,p=>(match v with|some af=>M (p 0) af|none=>True)/\KH M l (fun k=>p (2*k+1))/\KH M r (fun k=>p (2*k+2))
theorem uv {M:Nat->ak->Prop}:∀(m:Map ak) (p:Nat->Nat),KH M m p->∀i af,m.get i=some af->M (p i) af
 |.leaf,p,_,i,af,h=>by cases h
 |.node v l r,p,h,i,af,hg=>by
  obtain⟨h1,h2,h3⟩:=h;rw [Map.cQ] at hg;by_cases h0:i=0
  ·subst h0;simp at hg;subst hg;exact h1
  ·rw [if_neg h0] at hg;split at hg
   ·have:=uv l _ h2 _ af hg;rwa [show 2*(i / 2)+1=i by omega] at this
   ·have:=uv r _ h3 _ af hg;rwa [show 2*(i / 2 - 1)+2=i by omega] at this
end Go.Ax
namespace Go.Ax
open Classical
def Ev {α:Type} (X:Nat->Option α) (r:α):Prop:=∃k0,∀k,k0<=k->X k=some r
theorem Ev.const {α:Type} {x:Option α} {r:α} (h:x=some r):Ev (fun _=>x) r:=⟨0,fun _ _=>h⟩
theorem Ev.bind {α β:Type} {X:Nat->Option α} {Y:Nat->α->Option β} {a:α} {b:β} (h1:Ev X a) (h2:Ev (fun k=>Y k a) b):Ev (fun k=>match X k with|some x=>Y k x|none=>none) b:=by obtain⟨k1,h1⟩:=h1;obtain⟨k2,h2⟩:=h2;exact⟨max k1 k2,fun k hk=>by simp only [h1 k (by omega)];exact h2 k (by omega)⟩
theorem Ev.map {α β:Type} {X:Nat->Option α} (f:Option α->Option β) {a:α} {b:β} (h1:Ev X a) (h2:f (some a)=some b):Ev (fun k=>f (X k)) b:=by obtain⟨k1,h1⟩:=h1;exact⟨k1,fun k hk=>by show f (X k)=some b;rw [h1 k hk];exact h2⟩
theorem Ev.uniq {α:Type} {X:Nat->Option α} {a b:α} (h1:Ev X a) (h2:Ev X b):a=b:=by obtain⟨k1,h1⟩:=h1;obtain⟨k2,h2⟩:=h2;have e1:=h1 (max k1 k2) (by omega);have e2:=h2 (max k1 k2) (by omega);rw [e1] at e2;exact U0 e2
theorem Ev.congr {α:Type} {X Y:Nat->Option α} {a:α} (h:Ev X a) (e:∀k,Y k=X k):Ev Y a:=by obtain⟨k1,h1⟩:=h;exact⟨k1,fun k hk=>by rw [e];exact h1 k hk⟩
def vX (cfk:Nat->iy) (cf:iy):Prop:=∀f args H nx r,cf f args H nx=some r->Ev (fun k=>cfk k f args H nx) r
def zc (exk:Nat->fW) (ex:fW):Prop:=∀nt c st r,ex nt c st=some r->Ev (fun k=>exk k nt c st) r
section
variable {cfk:Nat->iy} {cf:iy} {nt n0:Nat}
theorem qv (h:vX cfk cf) {f:Nat} {args:List AV} {m:Mode} {H:aU} {nx:Nat} {r:AV×aU×Nat} (hd:cR cf f args m H nx=some r):Ev (fun k=>cR (cfk k) f args m H nx) r:=by
 cases m with
 |share=>exact h _ _ _ _ _ hd
 |borrow=>
  simp only [cR,cond_eq_ite] at hd ⊢;split at hd
  ·rename_i hp;simp only [if_pos hp];cases hc:cf f args .leaf 0 with
   |none=>rw [hc] at hd;cases hd
   |some q=>
    rw [hc] at hd
    (obtain⟨k1,e1⟩:=h _ _ _ _ _ hc;exact⟨k1,fun k hk=>by simp only [e1 k hk];exact hd⟩)
  ·rename_i hp;simp only [if_neg hp];split at hd
   ·cases hd
   ·rename_i as has;cases hc:cf f as .leaf 0 with
    |none=>rw [hc] at hd;cases hd
    |some q=>
     rw [hc] at hd
     (obtain⟨k1,e1⟩:=h _ _ _ _ _ hc;exact⟨k1,fun k hk=>by simp only [e1 k hk];exact hd⟩)
theorem Ks (h:vX cfk cf) {o:aq} {ρ:aR->AV} {H:aU} {nx:Nat} {r:AV×aU×Nat} (hd:nW cf o ρ H nx=some r):Ev (fun k=>nW (cfk k) o ρ H nx) r:=by
 simp only [nW,cond_eq_ite] at hd ⊢;by_cases hz:o.fz=true
 ·simp only [if_pos hz] at hd ⊢;exact Ev.const hd
 ·simp only [if_neg hz] at hd ⊢;simp only [iO] at hd ⊢;cases hk:kind o.op with
  |plan p=>rw [hk] at hd;exact Ev.const hd
  |call f args m=>rw [hk] at hd;exact qv h hd
  |eP f args m=>rw [hk] at hd;simp only at hd ⊢;cases hf:ρ f<;>rw [hf] at hd<;>first|cases hd|exact qv h hd
theorem GY (h:vX cfk cf) {o:aq} {st st':St} (hd:dV cf nt o st=some st'):Ev (fun k=>dV (cfk k) nt o st) st':=by
 simp only [dV,cond_eq_ite] at hd ⊢;by_cases hw:wanted st.env o.gd=true
 ·simp only [if_pos hw] at hd ⊢;cases hf:nW cf o (ev st.env) st.H st.nx with
  |none=>rw [hf] at hd;cases hd
  |some q=>
   rw [hf] at hd
   (obtain⟨k1,e1⟩:=Ks h hf;exact⟨k1,fun k hk=>by simp only [e1 k hk];exact hd⟩)
 ·simp only [if_neg hw] at hd ⊢;exact Ev.const hd
theorem FJ (h:vX cfk cf):∀{l:List aq} {st st':St},eY cf nt l st=some st'->Ev (fun k=>eY (cfk k) nt l st) st':=by
 intro l
 induction l with
 |nil=>intro st st' hd;exact Ev.const hd
 |cons o l ih=>
  intro st st' hd;rw [fQ] at hd;split at hd
  ·rename_i st1 h1;exact(Ev.bind (Y:=fun k st=>eY (cfk k) nt l st) (GY h h1) (ih hd)).congr (fun k=>by rw [fQ];cases dV (cfk k) nt o st<;>rfl)
  ·cases hd
theorem yW (h:vX cfk cf) {f:Nat} {args:List AV} {m:Mode} {H:aU} {nx:Nat} {r:Qp} (hd:dm cf n0 f args m H nx=some r):Ev (fun k=>dm (cfk k) n0 f args m H nx) r:=by
 cases m with
 |share=>
  simp only [dm] at hd ⊢;cases hc:cf f args (H.upto fun i=>Nat.blt i n0) nx with
  |none=>rw [hc] at hd;cases hd
  |some q=>
   rw [hc] at hd
   (obtain⟨k1,e1⟩:=h _ _ _ _ _ hc;exact⟨k1,fun k hk=>by simp only [e1 k hk];exact hd⟩)
 |borrow=>
  simp only [dm,cond_eq_ite] at hd ⊢;by_cases hp:cz AV.plain args=true
  ·simp only [if_pos hp] at hd ⊢;cases hc:cR cf f args .borrow H nx with
   |none=>rw [hc] at hd;cases hd
   |some q=>
    rw [hc] at hd
    (obtain⟨k1,e1⟩:=qv h hc;exact⟨k1,fun k hk=>by simp only [e1 k hk];exact hd⟩)
  ·simp only [if_neg hp] at hd ⊢;cases hc:cR cf f args .borrow (H.upto fun i=>Nat.blt i n0) nx with
   |none=>rw [hc] at hd;cases hd
   |some q=>
    rw [hc] at hd
    (obtain⟨k1,e1⟩:=qv h hc;exact⟨k1,fun k hk=>by simp only [e1 k hk];exact hd⟩)
theorem Iy (h:vX cfk cf) {o:aq} {ρ:aR->AV} {H:aU} {nx:Nat} {r:Qp} (hd:gP cf n0 o ρ H nx=some r):Ev (fun k=>gP (cfk k) n0 o ρ H nx) r:=by
 simp only [gP,cond_eq_ite] at hd ⊢;by_cases hz:o.fz=true
 ·simp only [if_pos hz] at hd ⊢;exact Ev.const hd
 ·simp only [if_neg hz] at hd ⊢;simp only [o_] at hd ⊢;cases hk:kind o.op with
  |plan p=>rw [hk] at hd;exact Ev.const hd
  |call f args m=>rw [hk] at hd;exact yW h hd
  |eP f args m=>rw [hk] at hd;simp only at hd ⊢;cases hf:ρ f<;>rw [hf] at hd<;>first|cases hd|exact yW h hd
theorem Ek (h:vX cfk cf) {o:aq} {st:St} {r:St×Rec} (hd:cq cf nt n0 o st=some r):Ev (fun k=>cq (cfk k) nt n0 o st) r:=by
 simp only [cq,cond_eq_ite] at hd ⊢;by_cases hw:wanted st.env o.gd=true
 ·simp only [if_pos hw] at hd ⊢;cases hf:gP cf n0 o (ev st.env) st.H st.nx with
  |none=>rw [hf] at hd;cases hd
  |some q=>
   rw [hf] at hd
   (obtain⟨k1,e1⟩:=Iy h hf;exact⟨k1,fun k hk=>by simp only [e1 k hk];exact hd⟩)
 ·simp only [if_neg hw] at hd ⊢;exact Ev.const hd
theorem DD (h:vX cfk cf):∀{l:List aq} {st:St} {r:St×List Rec},e8 cf nt n0 l st=some r->Ev (fun k=>e8 (cfk k) nt n0 l st) r:=by
 intro l
 induction l with
 |nil=>intro st r hd;exact Ev.const hd
 |cons o l ih=>
  intro st r hd;simp only [e8] at hd ⊢;split at hd
  ·cases hd
  ·rename_i st1 r1 h1;split at hd
   ·cases hd
   ·rename_i st2 l2 h2;obtain⟨k1,e1⟩:=Ek (cfk:=cfk) h h1;obtain⟨k2,e2⟩:=ih h2;exact⟨max k1 k2,fun k hk=>by simp only [e1 k (by omega),e2 k (by omega)];exact hd⟩
theorem DC (h:vX cfk cf) {ops:List aq} {ahead:List (List Nat)} {pairs:List (Nat×Nat)} {st st':St} (hd:eZ cf nt ops ahead pairs st=some st'):Ev (fun k=>eZ (cfk k) nt ops ahead pairs st) st':=by
 simp only [eZ] at hd ⊢;cases hr:e8 cf nt st.nx ops st with
 |none=>rw [hr] at hd;cases hd
 |some q=>
  rw [hr] at hd
  (obtain⟨k1,e1⟩:=DD h hr;exact⟨k1,fun k hk=>by simp only [e1 k hk];exact hd⟩)
theorem wP {exk:Nat->fW} {ex:fW} (h:vX cfk cf) (hc:zc exk ex):zc (fun k=>bp (exk k) (cfk k)) (bp ex cf):=by
 intro nt c st r hd;cases c with
 |skip=>exact Ev.const hd
 |exit id=>exact Ev.const hd
 |ret=>exact Ev.const hd
 |aQ ops=>
  simp only [bp] at hd ⊢;cases hr:eY cf nt ops st with
  |none=>rw [hr] at hd;cases hd
  |some q=>rw [hr] at hd;(obtain⟨k1,e1⟩:=FJ h hr;exact⟨k1,fun k hk=>by simp only [e1 k hk];exact hd⟩)
 |cj ops ahead pairs=>
  simp only [bp] at hd ⊢;cases hr:eZ cf nt ops ahead pairs st with
  |none=>rw [hr] at hd;cases hd
  |some q=>rw [hr] at hd;(obtain⟨k1,e1⟩:=DC h hr;exact⟨k1,fun k hk=>by simp only [e1 k hk];exact hd⟩)
 |seq a b=>
  simp only [bp] at hd ⊢;split at hd
  ·rename_i st1 h1;obtain⟨k1,e1⟩:=hc _ _ _ _ h1;obtain⟨k2,e2⟩:=hc _ _ _ _ hd;exact⟨max k1 k2,fun k hk=>by simp only [e1 k (by omega)];exact e2 k (by omega)⟩
  ·rename_i hne;obtain⟨k1,e1⟩:=hc _ _ _ _ hd;refine⟨k1,fun k hk=>?_⟩;simp only [e1 k hk];split
   ·rename_i st1 heq;cases heq;exact absurd hd (hne st1)
   ·rfl
 |cond c a b=>
  simp only [bp] at hd ⊢;split at hd
  ·exact hc _ _ _ _ hd
  ·exact hc _ _ _ _ hd
  ·cases hd
 |block id c=>
  simp only [bp] at hd ⊢;split at hd
  ·rename_i i st1 h1;obtain⟨k1,e1⟩:=hc _ _ _ _ h1;exact⟨k1,fun k hk=>by simp only [e1 k hk];exact hd⟩
  ·rename_i hne;obtain⟨k1,e1⟩:=hc _ _ _ _ hd;refine⟨k1,fun k hk=>?_⟩;simp only [e1 k hk];split
   ·rename_i i st1 heq;cases heq;exact absurd hd (hne i st1)
   ·rfl
 |loop c=>
  simp only [bp] at hd ⊢;split at hd
  ·rename_i st1 h1;obtain⟨k1,e1⟩:=hc _ _ _ _ h1;obtain⟨k2,e2⟩:=hc _ _ _ _ hd;exact⟨max k1 k2,fun k hk=>by simp only [e1 k (by omega)];exact e2 k (by omega)⟩
  ·rename_i hne;obtain⟨k1,e1⟩:=hc _ _ _ _ hd;refine⟨k1,fun k hk=>?_⟩;simp only [e1 k hk];split
   ·rename_i st1 heq;cases heq;exact absurd hd (hne st1)
   ·rfl
theorem Ao {prog:Map ak} {exk:Nat->fW} {ex:fW} (hc:zc exk ex):vX (fun k=>kz prog (exk k)) (kz prog ex):=by
 intro f args H nx r hd;simp only [kz] at hd ⊢;split at hd
 ·cases hd
 ·rename_i af haf;simp only [cond_eq_ite] at hd ⊢;split at hd
  ·rename_i hl;simp only [if_pos hl];cases hr:ex af.nt af.body ⟨dO args 0 .leaf,H,nx⟩ with
   |none=>rw [hr] at hd;cases hd
   |some q=>
    rw [hr] at hd
    (obtain⟨k1,e1⟩:=hc _ _ _ _ hr;exact⟨k1,fun k hk=>by simp only [e1 k hk];exact hd⟩)
  ·cases hd
end
def a_ (prog:Map ak):iy:=fun f args H nx=>if h:∃r,Ev (fun k=>(interp prog k).fn f args H nx) r then some (Classical.choose h) else none
def bn (prog:Map ak):fW:=fun nt c st=>if h:∃r,Ev (fun k=>(interp prog k).code nt c st) r then some (Classical.choose h) else none
theorem xS (prog:Map ak):vX (fun k=>(interp prog k).fn) (a_ prog):=by
 intro f args H nx r h;unfold a_ at h;split at h
 ·rename_i hh;cases h;exact Classical.choose_spec hh
 ·cases h
theorem mU (prog:Map ak):zc (fun k=>(interp prog k).code) (bn prog):=by
 intro nt c st r h;unfold bn at h;split at h
 ·rename_i hh;cases h;exact Classical.choose_spec hh
 ·cases h
theorem G0 {prog:Map ak} {f:Nat} {args:List AV} {H:aU} {nx:Nat} {r:AV×aU×Nat} (h:Ev (fun k=>(interp prog k).fn f args H nx) r):a_ prog f args H nx=some r:=by have hh:∃r,Ev (fun k=>(interp prog k).fn f args H nx) r:=⟨r,h⟩;unfold a_;rw [dif_pos hh];exact congrArg some (Ev.uniq (Classical.choose_spec hh) h)
theorem DE {prog:Map ak} {nt:Nat} {c:c8} {st:St} {r:bY×St} (h:Ev (fun k=>(interp prog k).code nt c st) r):bn prog nt c st=some r:=by have hh:∃r,Ev (fun k=>(interp prog k).code nt c st) r:=⟨r,h⟩;unfold bn;rw [dif_pos hh];exact congrArg some (Ev.uniq (Classical.choose_spec hh) h)
theorem Fe {α:Type} {X:Nat->Option α} {r:α} (h:Ev (fun k=>X (k+1)) r):Ev X r:=by obtain⟨k0,h⟩:=h;exact⟨k0+1,fun k hk=>by have h1:X (k - 1+1)=some r:=h (k - 1) (by omega);rwa [show k - 1+1=k by omega] at h1⟩
theorem e_ {prog:Map ak} {nt:Nat} {c:c8} {st:St} {r:bY×St} (h:bp (bn prog) (a_ prog) nt c st=some r):bn prog nt c st=some r:=
 DE (Fe (X:=fun k=>(interp prog k).code nt c st) (wP (xS prog) (mU prog) nt c st r h))
theorem DA {prog:Map ak} {f:Nat} {args:List AV} {H:aU} {nx:Nat} {r:AV×aU×Nat} (h:kz prog (bn prog) f args H nx=some r):a_ prog f args H nx=some r:=
 G0 (Fe (X:=fun k=>(interp prog k).fn f args H nx) (Ao (mU prog) f args H nx r h))
theorem GZ {P:Program} {prog:Map ak} (h:∀k,mz P (interp prog k).fn):mz P (a_ prog):=by intro f args H nx v H' nx' hr;obtain⟨k0,hk⟩:=xS prog f args H nx _ hr;exact h k0 f args H nx v H' nx' (hk k0 (U3 _))
end Go.Ax
namespace Go.Ax
def qt (cf:iy) (lf:fW) (nt:Nat) (c:c8):St->Option (bY×St):=
 c8.rec (motive:=fun _=>St->Option (bY×St))
  (fun st=>some (.normal,st))
  (fun ops st=>match eY cf nt ops st with|some st=>some (.normal,st)|none=>none)
  (fun ops ahead pairs st=>match eZ cf nt ops ahead pairs st with|some st=>some (.normal,st)|none=>none)
  (fun _ _ ea eb st=>match ea st with|some (.normal,st)=>eb st|r=>r)
  (fun c _ _ ea eb st=>match ev st.env c with|.bool true=>ea st|.bool false=>eb st|_=>none)
  (fun id _ ec st=>match ec st with|some (.exit i,st)=>bif Nat.beq i id then some (.normal,st) else some (.exit i,st)|r=>r)
  (fun c _ st=>lf nt (.loop c) st)
  (fun id st=>some (.exit id,st))
  (fun st=>some (.ret,st)) c
section
variable {prog:Map ak} {cf:iy} {lf:fW} {nt:Nat}
theorem xl (prog:Map ak) (nt:Nat):∀(c:c8) (st:St) (r:bY×St),qt (a_ prog) (bn prog) nt c st=some r->bn prog nt c st=some r:=by
 intro c
 induction c with
 |skip=>intro st r h;exact e_ h
 |aQ ops=>intro st r h;exact e_ h
 |cj ops ahead pairs=>intro st r h;exact e_ h
 |exit id=>intro st r h;exact e_ h
 |ret=>intro st r h;exact e_ h
 |loop c ih=>intro st r h;exact h
 |seq a b iha ihb=>
  intro st r h;refine e_ ?_;change (match qt (a_ prog) (bn prog) nt a st with|some (.normal,st)=>qt (a_ prog) (bn prog) nt b st|r=>r)=some r at h;simp only [bp];split at h
  ·rename_i st1 h1;rw [iha _ _ h1];exact ihb _ _ h
  ·rename_i hne;rw [iha _ _ h];split
   ·rename_i st1 heq;cases heq;exact absurd h (hne st1)
   ·rfl
 |cond c a b iha ihb=>
  intro st r h;refine e_ ?_;change (match ev st.env c with|.bool true=>qt (a_ prog) (bn prog) nt a st|.bool false=>qt (a_ prog) (bn prog) nt b st|_=>none)=some r at h;simp only [bp];split at h
  ·rename_i hc;rw [hc];exact iha _ _ h
  ·rename_i hc;rw [hc];exact ihb _ _ h
  ·cases h
 |block id c ih=>
  intro st r h;refine e_ ?_;change (match qt (a_ prog) (bn prog) nt c st with|some (.exit i,st)=>bif Nat.beq i id then some (.normal,st) else some (.exit i,st)|r=>r)=some r at h;simp only [bp];split at h
  ·rename_i i st1 h1;rw [ih _ _ h1];exact h
  ·rename_i hne;rw [ih _ _ h];split
   ·rename_i i st1 heq;cases heq;exact absurd h (hne i st1)
   ·rfl
def WC (cf:iy) (lf:fW) (nt:Nat) (c:c8) (st:St) (Q:bY->St->Prop):Prop:=∃x st',qt cf lf nt c st=some (x,st')/\Q x st'
def WR (cf:iy) (nt:Nat) (ops:List aq) (st:St) (Q:St->Prop):Prop:=∃st',eY cf nt ops st=some st'/\Q st'
theorem Jf {st:St} {Q:bY->St->Prop} (h:Q .normal st):WC cf lf nt .skip st Q:=⟨_,_,rfl,h⟩
theorem Jh {id:Nat} {st:St} {Q:bY->St->Prop} (h:Q (.exit id) st):WC cf lf nt (.exit id) st Q:=⟨_,_,rfl,h⟩
theorem K9 {st:St} {Q:bY->St->Prop} (h:Q .ret st):WC cf lf nt .ret st Q:=⟨_,_,rfl,h⟩
theorem K_ {ops:List aq} {st:St} {Q:bY->St->Prop} (h:WR cf nt ops st (Q .normal)):WC cf lf nt (.aQ ops) st Q:=by obtain⟨st',h1,h2⟩:=h;refine⟨.normal,st',?_,h2⟩;show (match eY cf nt ops st with|some st=>some (bY.normal,st)|none=>none)=_;rw [h1]
theorem Ji {ops:List aq} {ahead:List (List Nat)} {pairs:List (Nat×Nat)} {st st':St} {Q:bY->St->Prop} (h1:eZ cf nt ops ahead pairs st=some st') (h2:Q .normal st'):WC cf lf nt (.cj ops ahead pairs) st Q:=by refine⟨.normal,st',?_,h2⟩;show (match eZ cf nt ops ahead pairs st with|some st=>some (bY.normal,st)|none=>none)=_;rw [h1]
def N3 (cf:iy) (lf:fW) (nt:Nat) (b:c8) (Q:bY->St->Prop):bY->St->Prop
 |.normal,st=>WC cf lf nt b st Q
 |x,st=>Q x st
theorem K8 {a b:c8} {st:St} {Q:bY->St->Prop} (h:WC cf lf nt a st (N3 cf lf nt b Q)):WC cf lf nt (.seq a b) st Q:=by
 obtain⟨x,st1,h1,h2⟩:=h;have e:qt cf lf nt (.seq a b) st=(match qt cf lf nt a st with|some (.normal,st)=>qt cf lf nt b st|r=>r):=rfl;cases x with
 |normal=>obtain⟨x',st',h3,h4⟩:=h2;exact⟨x',st',by rw [e,h1];exact h3,h4⟩
 |exit id=>exact⟨_,st1,by rw [e,h1],h2⟩
 |ret=>exact⟨_,st1,by rw [e,h1],h2⟩
theorem AH {c:aR} {a b:c8} {st:St} {Q:bY->St->Prop} (hc:ev st.env c=.bool true) (h:WC cf lf nt a st Q):WC cf lf nt (.cond c a b) st Q:=by obtain⟨x,st1,h1,h2⟩:=h;refine⟨x,st1,?_,h2⟩;show (match ev st.env c with|.bool true=>qt cf lf nt a st|.bool false=>qt cf lf nt b st|_=>none)=_;rw [hc];exact h1
theorem ze {c:aR} {a b:c8} {st:St} {Q:bY->St->Prop} (hc:ev st.env c=.bool false) (h:WC cf lf nt b st Q):WC cf lf nt (.cond c a b) st Q:=by obtain⟨x,st1,h1,h2⟩:=h;refine⟨x,st1,?_,h2⟩;show (match ev st.env c with|.bool true=>qt cf lf nt a st|.bool false=>qt cf lf nt b st|_=>none)=_;rw [hc];exact h1
def Es (id:Nat) (Q:bY->St->Prop):bY->St->Prop
 |.exit i,st=>if i=id then Q .normal st else Q (.exit i) st
 |x,st=>Q x st
theorem Gz {id:Nat} {c:c8} {st:St} {Q:bY->St->Prop} (h:WC cf lf nt c st (Es id Q)):WC cf lf nt (.block id c) st Q:=by
 obtain⟨x,st1,h1,h2⟩:=h;have e:qt cf lf nt (.block id c) st=(match qt cf lf nt c st with|some (.exit i,st)=>bif Nat.beq i id then some (.normal,st) else some (.exit i,st)|r=>r):=rfl;cases x with
 |normal=>exact⟨_,st1,by rw [e,h1],h2⟩
 |ret=>exact⟨_,st1,by rw [e,h1],h2⟩
 |exit i=>
  simp only [Es] at h2;by_cases hi:i=id
  ·rw [if_pos hi] at h2;exact⟨.normal,st1,by rw [e,h1];simp [hi],h2⟩
  ·rw [if_neg hi] at h2;have:Nat.beq i id=false:=by
    cases hb:Nat.beq i id with
    |false=>rfl
    |true=>rw [UQ] at hb;exact absurd hb hi
   exact⟨.exit i,st1,by rw [e,h1];simp [this],h2⟩
theorem pZ {c:c8} {st:St} {Q Q':bY->St->Prop} (h:WC cf lf nt c st Q) (hq:∀x st',Q x st'->Q' x st'):WC cf lf nt c st Q':=
 let ⟨x,st',h1,h2⟩:=h;⟨x,st',h1,hq _ _ h2⟩
end
theorem Jg {prog:Map ak} {nt:Nat} {c:c8} {Q:bY->St->Prop} {α:Type} (I:α->St->Prop) (μ:α->Nat)
  (round:∀a st,I a st->WC (a_ prog) (bn prog) nt c st (fun x st'=>match x with|.normal=>∃a',μ a' < μ a/\I a' st'|x=>Q x st')) :
  ∀a st,I a st->WC (a_ prog) (bn prog) nt (.loop c) st Q:=by
 have key:∀n a st,μ a=n->I a st->∃x st',bn prog nt (.loop c) st=some (x,st')/\Q x st':=by
  intro n
  induction n using Nat.strongRecOn with
  |_ n ih=>
   intro a st hn hI;obtain⟨x,st1,h1,h2⟩:=round a st hI;have h1':=xl prog nt _ _ _ h1;cases x with
   |normal=>obtain⟨a',hlt,hI'⟩:=h2;obtain⟨x',st',h3,h4⟩:=ih (μ a') (by omega) a' st1 rfl hI';exact⟨x',st',e_ (by simp only [bp,h1'];exact h3),h4⟩
   |exit id=>exact⟨_,st1,e_ (by simp only [bp,h1']),h2⟩
   |ret=>exact⟨_,st1,e_ (by simp only [bp,h1']),h2⟩
 intro a st hI;obtain⟨x,st',h1,h2⟩:=key _ a st rfl hI;exact⟨x,st',h1,h2⟩
theorem D9 {prog:Map ak} {f:Nat} {af:ak} (hf:prog.get f=some af) {args:List AV} (ha:args.length=af.params) {H:aU} {nx:Nat} {r:AV×aU×Nat->Prop}
  (h:WC (a_ prog) (bn prog) af.nt af.body ⟨dO args 0 .leaf,H,nx⟩ (fun x st=>(x=.normal\/x=.ret)/\∃v,kW af.res st=some v/\r v)):∃v,a_ prog f args H nx=some v/\r v:=by
 obtain⟨x,st,h1,hx,v,h2,h3⟩:=h;refine⟨v,DA ?_,h3⟩;have h1':=xl prog _ _ _ _ h1;simp only [kz,hf,cond_eq_ite,UQ,if_pos ha,h1'];rcases hx with rfl|rfl<;>exact h2
end Go.Ax
namespace Go.Ax.V
inductive TV where
 |i (k:IntKind) (n:Int)
 |b (b:Bool)
 |s (s:ByteArray)
 |f (n:Nat)
 |np
 |l (es:List TV)
 |a (cs:List TV)
 |tp (vs:List TV)
 |A8 (x:AV) (u:TV)
 deriving Inhabited
abbrev iT:TV:=.tp []
def TV.gw:TV->Bool
 |.tp _=>true
 |_=>false
def TV.one:TV->Bool
 |.a _=>false
 |.tp _=>false
 |_=>true
def TV.ED:TV->Bool
 |.a cs=>cz (fun c=>match c with|.l _=>false|.a _=>false|.tp _=>false|.A8 _ _=>false|_=>true) cs
 |.l _=>false
 |.tp _=>false
 |.A8 _ _=>false
 |_=>true
def TV.FI:TV->Bool
 |.tp vs=>cz TV.ED vs
 |v=>v.ED
def LH:AV->Bool
 |.ei _ _ _=>true
 |.ay=>true
 |_=>false
mutual
inductive Can:TV->AV->Prop where
 |i (k:IntKind) (n:Int):Can (.i k n) (.int k n)
 |b (x:Bool):Can (.b x) (.bool x)
 |s (x:ByteArray):Can (.s x) (.str x)
 |f (n:Nat):Can (.f n) (.func n)
 |np:Can .np .qR
 |nil:Can (.l []) .ay
 |ei (es:List TV) (cs:List AV) (n sz:Nat) (c:Option Nat) (hn:es.length=n) (hc:cs.length=n*sz) (hz:0 < sz) (hf:∀x∈cs,AV.flat x=true)
   (h:∀(j:Nat) (e:TV),es[j]?=some e->uz e ((cs.drop (j*sz)).take sz)):Can (.l es) (.ei cs n c)
 |a (ts:List TV) (as:List AV) (hl:ts.length=as.length) (hf:∀x∈as,AV.flat x=true) (h:∀(j:Nat) (t:TV) (x:AV),ts[j]?=some t->as[j]?=some x->Can t x):Can (.a ts) (.agg as)
 |tp (ts:List TV) (as:List AV) (hl:ts.length=as.length) (hf:∀x∈as,AV.iS x=true) (h:∀(j:Nat) (t:TV) (x:AV),ts[j]?=some t->as[j]?=some x->Can t x):Can (.tp ts) (.iR as)
 |A8 (x:AV) (u:TV) (hf:LH x=true) (h:Can u x):Can (.A8 x u) x
inductive uz:TV->List AV->Prop where
 |one (e:TV) (x:AV) (h1:e.one=true) (h:Can e x):uz e [x]
 |a (ts:List TV) (as:List AV) (hl:ts.length=as.length) (h:∀(j:Nat) (t:TV) (x:AV),ts[j]?=some t->as[j]?=some x->Can t x):uz (.a ts) as
end
def b_:TV->Option (List TV)
 |.a cs=>some cs
 |.tp _=>none
 |v=>some [v]
def ej (v:TV) (off:Nat):Option TV:=match v with
 |.a cs=>cs[off]?
 |.tp _=>none
 |v=>match off with
  |0=>some v
  |_+1=>none
def k4:Option TV->Option TV
 |some (.A8 _ u)=>some u
 |r=>r
def vv:List TV->Nat->Option (List TV)
 |_,0=>some []
 |[],_+1=>none
 |x::xs,n+1=>match vv xs n with
  |some l=>some (x::l)
  |none=>none
def Gc:List TV->Nat->Nat->Option (List TV)
 |cs,0,n=>vv cs n
 |[],_+1,_=>none
 |_::xs,o+1,n=>Gc xs o n
def u9:List TV->List TV->Option (List TV)
 |cells,[]=>some cells
 |[],_::_=>none
 |_::xs,y::ys=>match u9 xs ys with
  |some l=>some (y::l)
  |none=>none
def zZ:List TV->Nat->List TV->Option (List TV)
 |cells,0,cs=>u9 cells cs
 |[],_+1,_=>none
 |x::xs,o+1,cs=>match zZ xs o cs with
  |some l=>some (x::l)
  |none=>none
def b9 (v:TV) (off n:Nat):Option TV:=match v with
 |.a cs=>match Gc cs off n with
  |some l=>some (.a l)
  |none=>none
 |_=>none
def bf (v:TV) (off n:Nat) (x:TV):Option TV:=match b_ x with
 |none=>none
 |some xs=>bif Nat.beq xs.length n then match v with
   |.a cs=>match zZ cs off xs with
    |some l=>some (.a l)
    |none=>none
   |.tp _=>none
   |_=>bif Nat.beq off 0&&x.one then some x else none
  else none
def zn (v:TV) (off:Nat):Option Nat->Option TV
 |none=>ej v off
 |some n=>b9 v off n
def Pa (v:TV) (off:Nat) (sz:Option Nat):Option TV:=match v with
 |.a _=>zn v off sz
 |_=>none
def oD:TV->Option (List TV)
 |.l es=>some es
 |_=>none
def Bl:TV->Option TV
 |.l es=>some (.i .i64 es.length)
 |_=>none
def N7:TV->Option TV
 |.s x=>some (.i .i64 x.size)
 |_=>none
def lY (i:TV) (n:Nat):Option Nat:=match i with
 |.i _ m=>H9 m n
 |_=>none
def D5 (v i:TV):Option TV:=match v with
 |.l es=>match lY i es.length with
  |some k=>es[k]?
  |none=>none
 |_=>none
def jw (i:Nat):TV->Option TV
 |.tp vs=>vs[i]?
 |_=>none
def IL (x:Option TV) (other y:Nat):Option Nat:=match x with
 |none=>some other
 |some (.i _ i)=>MA i y
 |some _=>none
def Gh (lo hi:Option TV) (n:Nat):Option (Nat×Nat):=match IL hi n n with
 |none=>none
 |some h=>match IL lo 0 h with
  |none=>none
  |some l=>some (l,h)
def Qr (v:TV) (lo hi:Option TV):Option TV:=match v with
 |.l es=>match Gh lo hi es.length with
  |some (l,h)=>some (.l ((es.drop l).take (h - l)))
  |none=>none
 |_=>none
def Dw (v:TV) (lo hi:Option TV):Option TV:=match v with
 |.s x=>match Gh lo hi x.size with
  |some (l,h)=>some (.s (x.extract l h))
  |none=>none
 |_=>none
def oK (v i:TV):Option TV:=match v with
 |.s x=>match i with
  |.i _ (.ofNat i)=>match x[i]? with
   |some b=>some (.i .u8 b.toNat)
   |none=>none
  |_=>none
 |_=>none
def jT (bytes:Nat) (es xs:List TV):Option (List TV):=
 bif Nat.ble ((es.length+xs.length)*bytes) most&&Nat.ble (es.length+xs.length) most then some (es++xs) else none
def fR (c a b:TV):Option TV:=match c with
 |.b x=>match x with
  |true=>some a
  |false=>some b
 |_=>none
def ua:TV->Option AV
 |.i k n=>some (.int k n)
 |.b x=>some (.bool x)
 |.s x=>some (.str x)
 |.f n=>some (.func n)
 |.np=>some .qR
 |_=>none
def Fa:AV->Option TV
 |.int k n=>some (.i k n)
 |.bool x=>some (.b x)
 |.str x=>some (.s x)
 |.func n=>some (.f n)
 |.qR=>some .np
 |_=>none
def b7 (op:BinOp) (x y:TV):Option TV:=match ua x with
 |some x=>match ua y with
  |some y=>match Dc op x y with
   |some r=>Fa r
   |none=>none
  |none=>none
 |none=>none
def v_ (op:UnOp) (x:TV):Option TV:=match ua x with
 |some x=>match Lf op x with
  |some r=>Fa r
  |none=>none
 |none=>none
def gy (k:IntKind):TV->Option TV
 |.i _ n=>some (.i k (f_ k n))
 |_=>none
def oR:List TV->Option (List AV)
 |[]=>some []
 |x::xs=>match ua x with
  |none=>none
  |some a=>match oR xs with
   |none=>none
   |some l=>some (a::l)
def HR (mx:Bool) (xs:List TV):Option TV:=match oR xs with
 |some (v::vs)=>match Ng mx v vs with
  |some r=>Fa r
  |none=>none
 |_=>none
def Pe (t:Dn) (neg:Bool) (x y:TV):Option TV:=match t with
 |.one l=>match ua x with
  |some x=>match ua y with
   |some y=>match Iv l x y with
    |some b=>some (.b (match neg with|true=>!b|false=>b))
    |none=>none
   |none=>none
  |none=>none
 |.agg ls=>match x with
  |.a xs=>match y with
   |.a ys=>match oR xs with
    |some xs=>match oR ys with
     |some ys=>match Dl ls xs ys with
      |some b=>some (.b (match neg with|true=>!b|false=>b))
      |none=>none
     |none=>none
    |none=>none
   |_=>none
  |_=>none
 |.slice=>none
def L0 (bytes:Nat):TV->Option Nat
 |.i k m=>match MA m most with
  |some m=>bif Jc k .i64&&Nat.ble (Nat.mul m bytes) most then some m else none
  |none=>none
 |_=>none
def jt (es:List TV) (k off n:Nat) (x:TV):Option (List TV):=match es[k]? with
 |none=>none
 |some e=>match bf e off n x with
  |some e'=>some (es.set k e')
  |none=>none
def sS (es:List TV) (k off:Nat) (sz:Option Nat):Option TV:=match es[k]? with
 |none=>none
 |some e=>zn e off sz
inductive VV where
 |bad
 |tr (v:TV)
 |bX
 |ptr (O off:Nat)
 |pd (O off:Nat)
 |sl (O:Nat)
 |ea (O i off:Nat)
 |pt (v:TV) (off:Nat)
 |st (v:TV) (ovs:List (Nat×VV))
 |ow (O ver i:Nat)
 |e2 (O ver i k off:Nat)
 |gl (s io:Nat) (es:List TV)
 |sa (O off n sz:Nat)
 deriving Inhabited
inductive VO where
 |ob (v:TV) (ovs:List (Nat×VV))
 |gr (sz:Nat) (es:List TV)
 |gn (K s io iz ver:Nat) (hole:Option Nat) (es:List TV)
def VO.pl:VO->Bool
 |.gn ..=>false
 |_=>true
structure VE where
 gd:Option (TV×Bool)
 v:VV
structure au where
 env:Map VE
 H:Map VO
 us:Map Unit
def y9:AV->TV
 |.int k n=>.i k n
 |.bool x=>.b x
 |.str x=>.s x
 |.func n=>.f n
 |.ay=>.l []
 |_=>.np
def cS:List AV->List TV
 |[]=>[]
 |x::xs=>y9 x::cS xs
def ia:Nat->List AV->List (Nat×VV)
 |_,[]=>[]
 |i,x::xs=>match x with
  |.ay=>(i,.bX)::ia (i+1) xs
  |_=>ia (i+1) xs
def er:AV->Bool
 |.int ..=>true
 |.bool _=>true
 |.str _=>true
 |.func _=>true
 |.ay=>true
 |.qR=>true
 |_=>false
def BC (v:AV):VV:=match v with
 |.ay=>.bX
 |.agg cs=>bif cz er cs then .st (.a (cS cs)) (ia 0 cs) else .bad
 |.iR _=>.bad
 |v=>bif er v then .tr (y9 v) else .bad
def Ey (sz:Nat) (zero:List AV):TV:=match sz with
 |1=>match zero with
  |[x]=>y9 x
  |_=>.a (cS zero)
 |_=>.a (cS zero)
def bU (off:Nat):List (Nat×VV)->Option VV
 |[]=>none
 |(i,x)::r=>bif Nat.beq i off then some x else bU off r
def lz (off n:Nat):List (Nat×VV)->List (Nat×VV)
 |[]=>[]
 |(i,x)::r=>bif Nat.ble off i&&Nat.blt i (off+n) then (i - off,x)::lz off n r else lz off n r
def lA (off n:Nat):List (Nat×VV)->List (Nat×VV)
 |[]=>[]
 |(i,x)::r=>bif Nat.ble off i&&Nat.blt i (off+n) then lA off n r else (i,x)::lA off n r
def tv (off:Nat):List (Nat×VV)->List (Nat×VV)->List (Nat×VV)
 |[],r=>r
 |(i,x)::l,r=>(i+off,x)::tv off l r
def L1 (v:TV):List (Nat×VV)->VV
 |[]=>.tr v
 |p::r=>.st v (p::r)
def GH:VV->Option (TV×List (Nat×VV))
 |.tr v=>some (v,[])
 |.bX=>some (.l [],[(0,.bX)])
 |.sl O=>some (.l [],[(0,.sl O)])
 |.ow O v i=>some (.l [],[(0,.ow O v i)])
 |.st v o=>some (v,o)
 |_=>none
abbrev G:=Option (TV×Bool)
def eT (V:au) (g:G) (x:aR) (k:VV->Prop):Prop:=match x with
 |.c v=>k (BC v)
 |.t n=>match V.env.get n with
  |none=>False
  |some e=>match e.gd with
   |none=>k e.v
   |some q=>match g with
    |none=>False
    |some p=>p=q/\k e.v
def kn:List (Nat×VV)->TV->Option TV
 |[],v=>some v
 |(off,w)::r,v=>match w with
  |.bX=>(match kn r v with
   |some u=>bf u off 1 (.l [])
   |none=>none)
  |_=>none
def BX (w:VV) (k:TV->Prop):Prop:=match w with
 |.tr v=>k v
 |.bX=>k (.l [])
 |.st v ovs=>∃u,kn ovs v=some u/\k u
 |_=>False
def j7 (V:au) (g:G) (x:aR) (k:TV->Prop):Prop:=eT V g x fun w=>BX w k
def su (es:List TV) (i io:Nat):Option (List TV):=match es[i]? with
 |some e=>(match ej e io with
  |some (.l l)=>some l
  |_=>none)
 |none=>none
def J2 (V:au) (O v:Nat) (k:Nat->Nat->Nat->List TV->Prop):Prop:=match V.H.get O with
 |some (.gn K s io iz ver none es)=>(match Nat.beq K O&&Nat.beq ver v with
  |true=>k s io iz es
  |false=>False)
 |_=>False
def wR (V:au) (w:VV) (k:List TV->Prop):Prop:=match w with
 |.sl O=>match V.H.get O with
  |some (.gr _ es)=>k es
  |some (.gn _ _ _ _ _ none es)=>k es
  |_=>False
 |.ow O v i=>J2 V O v fun _ io _ es=>∃l,su es i io=some l/\k l
 |.bX=>k []
 |_=>False
def zf (V:au):List (Nat×VV)->TV->(TV->Prop)->Prop
 |[],v,k=>k v
 |(off,w)::r,v,k=>zf V r v fun u=>wR V w fun es=>∃u',bf u off 1 (.l es)=some u'/\k u'
def Mw (v:TV) (off:Nat):Nat->Option TV
 |1=>(match ej v off with
  |some e=>bif e.one then some e else none
  |none=>none)
 |n=>b9 v off n
def Oe (v:TV) (off sz:Nat):Nat->Option (List TV)
 |0=>(match b9 v off 0 with
  |some _=>some []
  |none=>none)
 |n+1=>match Mw v off sz with
  |some e=>(match Oe v (off+sz) sz n with
   |some r=>some (e::r)
   |none=>none)
  |none=>none
def Pf (v:TV) (off sz:Nat):List TV->Option TV
 |[]=>(match b9 v off 0 with
  |some _=>some v
  |none=>none)
 |x::xs=>match bf v off sz x with
  |some u=>Pf u (off+sz) sz xs
  |none=>none
def Nb (V:au) (w:VV) (k:TV->Prop):Prop:=match w with
 |.tr v=>k v
 |.bX=>k (.l [])
 |.sl O=>wR V (.sl O) fun es=>k (.l es)
 |.st v ovs=>zf V ovs v k
 |.ow O v i=>wR V (.ow O v i) fun es=>k (.l es)
 |.sa O off n sz=>(match V.H.get O with
  |some (.ob v ovs)=>(match ovs with
   |[]=>∃es,Oe v off sz n=some es/\k (.l es)
   |_::_=>False)
  |_=>False)
 |_=>False
def va (V:au) (g:G) (x:Option aR) (k:Option TV->Prop):Prop:=match x with
 |none=>k none
 |some x=>j7 V g x fun v=>k (some v)
def Hg (V:au) (g:G):List aR->(List TV->Prop)->Prop
 |[],k=>k []
 |x::xs,k=>j7 V g x fun v=>Hg V g xs fun vs=>k (v::vs)
def gV (c:TV) (bb:Bool) (P:TV->Prop) (v:TV):Prop:=match c with
 |.b x=>match x == bb with
  |true=>P v
  |false=>v=iT
 |_=>v=iT
def G7 (g:G) (P:TV->Prop) (k:TV->Prop):Prop:=match g with
 |none=>∃v,P v/\k v
 |some (c,bb)=>∃v,gV c bb P v/\k v
def dh (nt:Nat) (V:au) (d:Option Nat) (g:G) (w:VV) (k:au->Prop):Prop:=match d with
 |none=>k V
 |some d=>bif Nat.blt d nt then k {V with env:=V.env.put (some ⟨g,w⟩) d} else False
def eU (nt:Nat) (V:au) (d:Option Nat) (g:G) (P:Option TV) (k:au->Prop):Prop:=G7 g (fun v=>P=some v) fun v=>dh nt V d none (.tr v) k
def jv (nt:Nat) (V:au) (d:Option Nat) (g:G) (w:Nat->VV) (o:VO) (k:au->Prop):Prop:=match g with
 |some _=>False
 |none=>match d with
  |none=>False
  |some d=>match V.us.get d with
   |some _=>False
   |none=>dh nt {V with H:=V.H.put (some o) d,us:=V.us.put (some ()) d} (some d) none (w d) k
def A9 (V:au) (g:G):List (Nat×Nat×aR)->TV->List (Nat×VV)->(TV->List (Nat×VV)->Prop)->Prop
 |[],v,ovs,k=>k v ovs
 |(off,n,x)::r,v,ovs,k=>eT V g x fun w=>match GH w with
  |some (t,o)=>∃u,bf v off n t=some u/\A9 V g r u (tv off o (lA off n ovs)) k
  |none=>False
def nr (V:au):VV->au
 |.sl O=>{V with H:=V.H.put none O}
 |_=>V
def nu (V:au):List (Nat×VV)->au
 |[]=>V
 |(_,w)::r=>nu (nr V w) r
def lE (n:Nat) (v:TV):Prop:=match b_ v with
 |some l=>l.length=n
 |none=>False
def JV:List (Nat×VV)->Bool
 |[]=>true
 |(_,.ow ..)::_=>false
 |_::r=>JV r
def kS (V:au) (g:G) (fz:Bool) (sz:Nat):Nat->List (Nat×Nat×aR)->(List TV->au->Prop)->Prop
 |_,[],k=>k [] V
 |j,(off,n,x)::r,k=>(Nat.beq off (j*sz)&&Nat.beq n sz)=true/\eT V g x fun w=>match w with
  |.tr t=>lE n t/\kS V g fz sz (j+1) r fun ts V'=>k (t::ts) V'
  |.bX=>n=1/\kS V g fz sz (j+1) r fun ts V'=>k (.l []::ts) V'
  |.sl O=>fz=true/\n=1/\wR V (.sl O) fun es=>kS (nr V (.sl O)) g fz sz (j+1) r fun ts V'=>k (.l es::ts) V'
  |.st t o=>(fz&&JV o)=true/\zf V o t fun t=>lE n t/\kS (nu V o) g fz sz (j+1) r fun ts V'=>k (t::ts) V'
  |_=>False
def pY (ts:List TV) (as:List AV):Prop:=ts.length=as.length/\∀(j:Nat) (t:TV) (x:AV),ts[j]?=some t->as[j]?=some x->Can t x
def VS (prog:Map ak) (f:Nat) (ts:List TV) (Q:TV->Prop):Prop:=
 ∀as,pY ts as->∃v H nx,a_ prog f as .leaf 0=some (v,H,nx)/\∃a,bk deep H v=some a/\∃r,Can r a/\Q r
theorem VS.mono {prog:Map ak} {f:Nat} {ts:List TV} {Q Q':TV->Prop} (h:VS prog f ts Q) (hq:∀r,Q r->Q' r):VS prog f ts Q':=
 fun as ha=>let ⟨v,H,nx,h1,a,h2,r,h3,h4⟩:=h as ha;⟨v,H,nx,h1,a,h2,r,h3,hq r h4⟩
def Qi (prog:Map ak) (f:Nat) (ts:List TV) (Q:TV->Prop):Prop:=
 ∀as,pY ts as->∃v H nx,a_ prog f as .leaf 0=some (v,H,nx)/\own deep H v=true/\∃a,bk deep H v=some a/\∃r,Can r a/\Q r
theorem Qi.mono {prog:Map ak} {f:Nat} {ts:List TV} {Q Q':TV->Prop} (h:Qi prog f ts Q) (hq:∀r,Q r->Q' r):Qi prog f ts Q':=
 fun as ha=>let ⟨v,H,nx,h1,h0,a,h2,r,h3,h4⟩:=h as ha;⟨v,H,nx,h1,h0,a,h2,r,h3,hq r h4⟩
def z7:List (Nat×VV)->Bool
 |[]=>true
 |(_,.bX)::r=>z7 r
 |_::_=>false
def pV (V:au) (g:G):List aR->(Bool->List TV->Prop)->Prop
 |[],k=>k true []
 |x::xs,k=>eT V g x fun w=>match w with
  |.tr v=>pV V g xs fun p vs=>k p (v::vs)
  |.bX=>pV V g xs fun p vs=>k p (.l []::vs)
  |.st v ovs=>zf V ovs v fun v=>pV V g xs fun p vs=>k (z7 ovs&&p) (v::vs)
  |w=>Nb V w fun v=>pV V g xs fun _ vs=>k false (v::vs)
def uR (n:Nat):List TV->Prop
 |[]=>True
 |e::_=>lE n e
def bu (V:au) (O:Nat) (o:VO):au:={V with H:=V.H.put (some o) O}
def JC (N:Nat) (w:VV) (m:Map VE):Map VE:=
 Map.rec (motive:=fun _=>Map VE) .leaf (fun v _ _ l r=>.node (match v with
  |none=>none
  |some e=>match e.v with
   |.sl M=>Bool.rec (some e) (some ⟨e.gd,w⟩) (Nat.beq M N)
   |_=>some e) l r) m
def Cj (V:au) (N:Nat) (w:VV):au:={V with env:=JC N w V.env}
def bT (V:au) (O:Nat):au:={V with H:=V.H.put none O}
def pos (n:Nat) (p:Prop):Prop:=bif Nat.blt 0 n then p else False
def same (a b:Nat) (p:Prop):Prop:=bif Nat.beq a b then p else False
def Cd (g:G) (P:Option Nat) (k:Nat->Prop):Prop:=match g with
 |none=>∃n,P=some n/\k n
 |some (c,bb)=>∃n,(c=.b bb->P=some n)/\k n
def lZ:Option aR->Bool
 |some (.c (.int _ (.ofNat 0)))=>true
 |_=>false
def c9 (V:au) (x:aR):VV:=match x with
 |.c v=>BC v
 |.t n=>match V.env.get n with
  |some e=>e.v
  |none=>.bad
def qS (n:Nat):List Nat->Bool
 |[]=>false
 |m::l=>Nat.beq n m||qS n l
inductive vY where
 |tr (t:Nat)
 |sl (t sz:Nat)
 |pt (t O off:Nat)
 |ob (O:Nat) (offs:List (Nat×Nat))
 |st (t:Nat) (offs:List (Nat×Nat))
 |ps (t t0:Nat)
def JL:List (Nat×Nat)->Type->Type
 |[],R=>R
 |_::l,R=>List TV->JL l R
def JT:List vY->Type->Type
 |[],R=>R
 |.tr _::J,R=>TV->JT J R
 |.sl _ _::J,R=>List TV->JT J R
 |.pt _ _ _::J,R=>JT J R
 |.ob _ offs::J,R=>TV->JL offs (JT J R)
 |.st _ offs::J,R=>TV->JL offs (JT J R)
 |.ps _ _::J,R=>JT J R
def AK (O off:Nat):Nat:=1024+32*O+off
def je (V:au) (t:Nat) (w:VV):au:={V with env:=V.env.put (some ⟨none,w⟩) t}
def Im:Nat:=1073741824
def F1 (sz:Nat):Nat:=sz / 1048576 % 1024
def J3 (sz:Nat):Nat:=sz / 1024 % 1024
def Ja (sz:Nat):Nat:=sz % 1024
def lI (t sz:Nat) (es:List TV):VO:=match Nat.blt sz Im with
 |true=>.gr sz es
 |false=>.gn t (F1 sz) (J3 sz) (Ja sz) 0 none es
def gp (sz:Nat):Bool:=match Nat.blt sz Im with
 |true=>Nat.blt 0 sz
 |false=>Nat.blt 0 (F1 sz)&&(Nat.blt (J3 sz) (F1 sz)&&Nat.blt 0 (Ja sz))
def FZ (sz s io iz:Nat):Bool:=!Nat.blt sz Im&&(Nat.beq s (F1 sz)&&(Nat.beq io (J3 sz)&&Nat.beq iz (Ja sz)))
def j3 (V:au) (sz:Nat) (w:VV) (k:List TV->au->Prop):Prop:=match w with
 |.sl O=>match V.H.get O with
  |some (.gr z es)=>(match Nat.blt z Im with
   |true=>same z sz (k es (bT V O))
   |false=>False)
  |some (.gn _ s io iz _ none es)=>(match FZ sz s io iz with
   |true=>k es (bT V O)
   |false=>False)
  |_=>False
 |.bX=>k [] V
 |_=>False
def k6 {R:Type} (V:au) (ovs:List (Nat×VV)):(offs:List (Nat×Nat))->JL offs R->(R->au->Prop)->Prop
 |[],I,k=>k I V
 |(off,sz)::offs,I,k=>match bU off ovs with
  |some w=>j3 V sz w fun es V'=>k6 V' ovs offs (I es) k
  |none=>False
def ey (i:Nat):List (Nat×Nat)->Bool
 |[]=>false
 |(j,_)::l=>Nat.beq i j||ey i l
def oE:List (Nat×VV)->List (Nat×Nat)->Bool
 |[],_=>true
 |(i,_)::r,l=>ey i l&&oE r l
def nT:(J:List vY)->au->JT J Prop->Prop
 |[],_,I=>I
 |.tr t::J,V,I=>j7 V none (.t t) fun v=>nT J V (I v)
 |.sl t sz::J,V,I=>eT V none (.t t) fun w=>j3 V sz w fun es V'=>nT J V' (I es)
 |.pt t O off::J,V,I=>eT V none (.t t) fun w=>match w with
  |.ptr O' off'=>same O' O (same off' off (nT J V I))
  |_=>False
 |.ob O offs::J,V,I=>match V.H.get O with
  |some (.ob v ovs)=>match oE ovs offs with
   |true=>k6 (R:=JT J Prop) (bT V O) ovs offs (I v) fun I V'=>nT J V' I
   |false=>False
  |_=>False
 |.st t offs::J,V,I=>eT V none (.t t) fun w=>match w with
  |.st v ovs=>(match oE ovs offs with
   |true=>k6 (R:=JT J Prop) V ovs offs (I v) fun I V'=>nT J V' I
   |false=>False)
  |_=>False
 |.ps t t0::J,V,I=>eT V none (.t t0) fun w0=>eT V none (.t t) fun w=>match w0 with
  |.sl O=>(match w with
   |.sl O'=>same O' O (nT J V I)
   |_=>False)
  |_=>False
def oV:vY->Bool
 |.sl _ sz=>gp sz
 |.ob _ offs=>offs.all fun p=>gp p.2
 |.st _ offs=>offs.all fun p=>gp p.2
 |_=>true
def tQ (V:au) (O:Nat) (o:VO) (k:au->Prop):Prop:=match V.us.get O with
 |some _=>False
 |none=>k {V with H:=V.H.put (some o) O,us:=V.us.put (some ()) O}
def lu (O:Nat):List (Nat×Nat)->List (Nat×VV)
 |[]=>[]
 |(off,_)::l=>(off,.sl (AK O off))::lu O l
def IW {R:Type} (O:Nat):(offs:List (Nat×Nat))->au->JL offs R->(R->au->Prop)->Prop
 |[],V,I,k=>k I V
 |(off,sz)::offs,V,I,k=>∀es:List TV,tQ V (AK O off) (lI (AK O off) sz es) fun V'=>IW O offs V' (I es) k
def gU:(J:List vY)->au->JT J Prop->(au->Prop)->Prop
 |[],V,I,k=>I->k V
 |.tr t::J,V,I,k=>∀v:TV,gU J (je V t (.tr v)) (I v) k
 |.sl t sz::J,V,I,k=>∀es:List TV,tQ V t (lI t sz es) fun V'=>gU J (je V' t (.sl t)) (I es) k
 |.pt t O off::J,V,I,k=>match V.H.get O with
  |some (.ob _ _)=>gU J (je V t (.ptr O off)) I k
  |_=>False
 |.ob O offs::J,V,I,k=>∀v:TV,IW (R:=JT J Prop) O offs V (I v) fun I V'=>tQ V' O (.ob v (lu O offs)) fun V''=>gU J V'' I k
 |.st t offs::J,V,I,k=>∀v:TV,IW (R:=JT J Prop) t offs V (I v) fun I V'=>gU J (je V' t (.st v (lu t offs))) I k
 |.ps t t0::J,V,I,k=>match V.env.get t0 with
  |some e=>(match e.gd with
   |none=>(match e.v with
    |.sl O=>gU J (je V t (.sl O)) I k
    |_=>False)
   |some _=>False)
  |none=>False
def V0:au:=⟨.leaf,.leaf,.leaf⟩
def od (V:au) (ovs:List (Nat×VV)):List (Nat×Nat)->au
 |[]=>V
 |(off,_)::l=>match bU off ovs with
  |some w=>od (nr V w) ovs l
  |none=>od V ovs l
def jm:List vY->au->au
 |[],V=>V
 |.tr _::J,V=>jm J V
 |.sl t _::J,V=>jm J (nr V (c9 V (.t t)))
 |.pt _ _ _::J,V=>jm J V
 |.ob O offs::J,V=>match V.H.get O with
  |some (.ob _ ovs)=>jm J (od (bT V O) ovs offs)
  |_=>V
 |.st t offs::J,V=>match c9 V (.t t) with
  |.st _ ovs=>jm J (od V ovs offs)
  |_=>V
 |.ps _ _::J,V=>jm J V
def jz (V:au) (O:Nat) (o:VO):au:={V with H:=V.H.put (some o) O,us:=V.us.put (some ()) O}
def Qw {R:Type} (O:Nat):(offs:List (Nat×Nat))->au->(au->R)->JL offs R
 |[],V,k=>k V
 |(off,sz)::l,V,k=>fun es:List TV=>Qw O l (jz V (AK O off) (lI (AK O off) sz es)) k
def KS:(J:List vY)->au->(au->Prop)->JT J Prop
 |[],V,k=>k V
 |.tr t::J,V,k=>fun v:TV=>KS J (je V t (.tr v)) k
 |.sl t sz::J,V,k=>fun es:List TV=>KS J (je (jz V t (lI t sz es)) t (.sl t)) k
 |.pt t O off::J,V,k=>KS J (je V t (.ptr O off)) k
 |.ob O offs::J,V,k=>fun v:TV=>Qw (R:=JT J Prop) O offs V fun V'=>KS J (jz V' O (.ob v (lu O offs))) k
 |.st t offs::J,V,k=>fun v:TV=>Qw (R:=JT J Prop) t offs V fun V'=>KS J (je V' t (.st v (lu t offs))) k
 |.ps _ _::J,V,k=>KS J V k
def oQ (us:Map Unit) (O:Nat):Bool:=match us.get O with
 |some _=>false
 |none=>true
def OG (O:Nat):List (Nat×Nat)->Map Unit->Option (Map Unit)
 |[],us=>some us
 |(off,_)::l,us=>bif oQ us (AK O off) then OG O l (us.put (some ()) (AK O off)) else none
def FR:List vY->Map Unit->List Nat->Bool
 |[],_,_=>true
 |.tr _::J,us,obs=>FR J us obs
 |.sl t _::J,us,obs=>oQ us t&&FR J (us.put (some ()) t) obs
 |.pt _ O _::J,us,obs=>qS O obs&&FR J us obs
 |.ob O offs::J,us,obs=>match OG O offs us with
  |some us=>oQ us O&&FR J (us.put (some ()) O) (O::obs)
  |none=>false
 |.st t offs::J,us,obs=>match OG t offs us with
  |some us=>FR J us obs
  |none=>false
 |.ps _ _::_,_,_=>false
inductive PK where
 |tr
 |ob (offs:List (Nat×Nat))
 |sl (sz:Nat)
inductive RK where
 |tr
 |sl (sz:Nat)
 |st (offs:List (Nat×Nat))
structure TC where
 ks:List PK
 rk:RK
def oH:List PK->Nat->List vY
 |[],_=>[]
 |.tr::ks,i=>.tr i::oH ks (i+1)
 |.ob offs::ks,i=>.ob i offs::.pt i i 0::oH ks (i+1)
 |.sl sz::ks,i=>.sl i sz::oH ks (i+1)
def Me (np:Nat):RK->List vY
 |.tr=>[.tr np]
 |.sl sz=>[.sl np sz]
 |.st offs=>[.st np offs]
def en (np:Nat) (rk:RK):List PK->Nat->List vY
 |[],_=>Me np rk
 |.tr::ks,i=>en np rk ks (i+1)
 |.ob offs::ks,i=>.ob i offs::.pt i i 0::en np rk ks (i+1)
 |.sl sz::ks,i=>.sl i sz::en np rk ks (i+1)
inductive M_ where
 |ob (O d:Nat)
 |pt
 |sl (O:Nat)
 |res (d:Nat)
def di (d:Nat):List PK->List VV->Option (List M_)
 |[],[]=>some [.res d]
 |.tr::ks,_::ws=>di d ks ws
 |.ob _::ks,.ptr O 0::ws=>match di d ks ws with
  |some l=>some (.ob O d::.pt::l)
  |none=>none
 |.sl _::ks,.sl O::ws=>match di d ks ws with
  |some l=>some (.sl O::l)
  |none=>none
 |_,_=>none
def ru (d off:Nat):Nat:=65536+64*d+off
abbrev q9 (d:Nat):Nat:=d+1048576
def wT (d:Nat):List (Nat×Nat)->List (Nat×VV)
 |[]=>[]
 |(off,_)::l=>(off,.sl (ru d off))::wT d l
def IC {R:Type} (d:Nat):(offs:List (Nat×Nat))->au->(au->R)->JL offs R
 |[],V,k=>k V
 |(off,sz)::l,V,k=>fun es:List TV=>IC d l (jz V (ru d off) (lI (ru d off) sz es)) k
def OT {R:Type} (r:R):(offs:List (Nat×Nat))->JL offs R
 |[]=>r
 |_::l=>fun _:List TV=>OT r l
def Gu:(J:List vY)->JT J Prop
 |[]=>False
 |.tr _::J=>fun _:TV=>Gu J
 |.sl _ _::J=>fun _:List TV=>Gu J
 |.pt _ _ _::J=>Gu J
 |.ob _ offs::J=>fun _:TV=>OT (R:=JT J Prop) (Gu J) offs
 |.st _ offs::J=>fun _:TV=>OT (R:=JT J Prop) (Gu J) offs
 |.ps _ _::J=>Gu J
def yZ:(J:List vY)->List M_->au->(au->Prop)->JT J Prop
 |[],_,V,k=>k V
 |.tr _::J,ims,V,k=>fun v:TV=>match ims with
  |.res d::ims=>yZ J ims (je V d (.tr v)) k
  |_=>Gu J
 |.pt _ _ _::J,ims,V,k=>match ims with
  |.pt::ims=>yZ J ims V k
  |_=>Gu J
 |.sl _ sz::J,ims,V,k=>fun es:List TV=>match ims with
  |.sl O::ims=>yZ J ims (bu V O (.gr sz es)) k
  |.res d::ims=>yZ J ims (je (jz V d (lI d sz es)) d (.sl d)) k
  |_=>Gu J
 |.ob _ offs::J,ims,V,k=>fun v:TV=>match ims with
  |.ob O d::ims=>IC (R:=JT J Prop) d offs V fun V'=>yZ J ims (bu V' O (.ob v (wT d offs))) k
  |_=>OT (R:=JT J Prop) (Gu J) offs
 |.st _ offs::J,ims,V,k=>fun v:TV=>match ims with
  |.res d::ims=>IC (R:=JT J Prop) (q9 d) offs V fun V'=>yZ J ims (je V' d (.st v (wT (q9 d) offs))) k
  |_=>OT (R:=JT J Prop) (Gu J) offs
 |.ps _ _::J,_,_,_=>Gu J
def DO (d:Nat):List (Nat×Nat)->Map Unit->Option (Map Unit)
 |[],us=>some us
 |(off,_)::l,us=>bif oQ us (ru d off) then DO d l (us.put (some ()) (ru d off)) else none
def HJ (nt:Nat):List vY->List M_->Map Unit->Bool
 |[],_,_=>true
 |.tr _::J,ims,us=>match ims with
  |.res d::ims=>Nat.blt d nt&&HJ nt J ims us
  |_=>false
 |.pt _ _ _::J,ims,us=>match ims with
  |.pt::ims=>HJ nt J ims us
  |_=>false
 |.sl _ sz::J,ims,us=>match ims with
  |.sl _::ims=>Nat.blt sz Im&&HJ nt J ims us
  |.res d::ims=>Nat.blt d nt&&(oQ us d&&HJ nt J ims (us.put (some ()) d))
  |_=>false
 |.ob _ offs::J,ims,us=>match ims with
  |.ob _ d::ims=>match DO d offs us with
   |some us=>HJ nt J ims us
   |none=>false
  |_=>false
 |.st _ offs::J,ims,us=>match ims with
  |.res d::ims=>Nat.blt d nt&&(match DO (q9 d) offs us with
   |some us=>HJ nt J ims us
   |none=>false)
  |_=>false
 |.ps _ _::_,_,_=>false
structure Sh where
 sg:Nat->Option TC
 vs:(f np:Nat)->(Jin Jout:List vY)->JT Jout Prop->JT Jin Prop
 inl:Nat->Option (au->List VV->(VV->au->Prop)->Prop)
 tc:Nat->List Nat
 gc:Nat->Nat
 pn:Nat->List (Nat×Nat)
 fr:Nat->Bool
def JE (V:au):List aR->(List VV->Prop)->Prop
 |[],k=>k []
 |x::xs,k=>eT V none x fun w=>JE V xs fun ws=>k (w::ws)
def Gt:(ks:List PK)->(i:Nat)->List VV->au->JT (oH ks i) Prop->Prop
 |[],_,ws,_,I=>match ws with
  |[]=>I
  |_::_=>False
 |.tr::ks,i,ws,V,I=>match ws with
  |w::ws=>BX w fun v=>Gt ks (i+1) ws V (I v)
  |[]=>False
 |.ob offs::ks,i,ws,V,I=>match ws with
  |.ptr O 0::ws=>(match V.H.get O with
   |some (.ob v ovs)=>match oE ovs offs with
    |true=>k6 (R:=JT (.pt i i 0::oH ks (i+1)) Prop) (bT V O) ovs offs (I v) fun I V'=>Gt ks (i+1) ws V' I
    |false=>False
   |_=>False)
  |_=>False
 |.sl sz::ks,i,ws,V,I=>match ws with
  |.sl O::ws=>j3 V sz (.sl O) fun es V'=>Gt ks (i+1) ws V' (I es)
  |_=>False
def iQ:List PK->List VV->au->au
 |[],_,V=>V
 |.tr::ks,ws,V=>match ws with
  |_::ws=>iQ ks ws V
  |[]=>V
 |.ob offs::ks,ws,V=>match ws with
  |.ptr O 0::ws=>(match V.H.get O with
   |some (.ob _ ovs)=>iQ ks ws (od (bT V O) ovs offs)
   |_=>V)
  |_=>V
 |.sl _::ks,ws,V=>match ws with
  |.sl O::ws=>iQ ks ws (nr V (.sl O))
  |_=>V
def xj (sh:Sh) (nt:Nat) (V:au) (d:Option Nat) (f:Nat) (args:List aR) (k:au->Prop):Prop:=match d with
 |none=>False
 |some d=>match sh.inl f with
  |some T=>JE V args fun ws=>T V ws fun w V'=>dh nt V' (some d) none w k
  |none=>match sh.sg f with
  |none=>False
  |some sg=>JE V args fun ws=>match di d sg.ks ws with
   |none=>False
   |some ims=>match ((oH sg.ks 0).all oV&&(en sg.ks.length sg.rk sg.ks 0).all oV)&&(FR (oH sg.ks 0) .leaf []&&HJ nt (en sg.ks.length sg.rk sg.ks 0) ims V.us) with
    |false=>False
    |true=>Gt sg.ks 0 ws V (sh.vs f sg.ks.length (oH sg.ks 0) (en sg.ks.length sg.rk sg.ks 0)
      (yZ (en sg.ks.length sg.rk sg.ks 0) ims {iQ sg.ks ws V with env:=V.env.put none d} k))
section
variable (sh:Sh) (prog:Map ak) (nt:Nat)
def Oz (g:G) (P:Option TV) (k:Prop):Prop:=match g with
 |none=>∃e,P=some e/\k
 |some (c,bb)=>∃e,(c=.b bb->P=some e)/\k
def Sq (es:List TV) (i io j off:Nat) (sz:Option Nat):Option TV:=match su es i io with
 |some l=>sS l j off sz
 |none=>none
def Mc (es:List TV) (i io:Nat):Option TV:=match su es i io with
 |some l=>some (.i .i64 l.length)
 |none=>none
def Sr (es:List TV) (i io:Nat) (j:TV):Option Nat:=match su es i io with
 |some l=>lY j l.length
 |none=>none
def sP (off n io:Nat):Bool:=Nat.ble (off+n) io||Nat.blt io off
def kP (V:au) (d:Option Nat) (g:G) (sz:Option Nat) (w:VV) (k:au->Prop):Prop:=match w with
 |.ptr O off=>match V.H.get O with
  |some (.ob v ovs)=>match sz with
   |none=>match bU off ovs with
    |some w=>dh nt V d g w k
    |none=>eU nt V d g (k4 (ej v off)) k
   |some n=>match lz off n ovs with
    |[]=>eU nt V d g (b9 v off n) k
    |p::r=>match g with
     |none=>∃u,b9 v off n=some u/\dh nt V d none (.st u (p::r)) k
     |some _=>False
  |_=>False
 |.pd O off=>match V.H.get O with
  |some (.ob v ovs)=>match ovs with
   |[]=>eU nt V d g (zn v off sz) k
   |_::_=>False
  |_=>False
 |.pt v off=>eU nt V d g (zn v off sz) k
 |.ea O i off=>match V.H.get O with
  |some (.gr _ es)=>eU nt V d g (sS es i off sz) k
  |some (.gn K _ io _ ver hole es)=>(match Nat.beq K O with
   |true=>(match sz with
    |none=>(match Nat.beq off io with
     |true=>(match hole with
      |none=>Oz g es[i]? (dh nt V d g (.ow O ver i) k)
      |some _=>False)
     |false=>eU nt V d g (sS es i off none) k)
    |some n=>(match sP off n io with
     |true=>eU nt V d g (sS es i off (some n)) k
     |false=>False))
   |false=>False)
  |_=>False
 |.e2 O v i j off=>J2 V O v fun _ io _ es=>eU nt V d g (Sq es i io j off sz) k
 |_=>False
def KX (h:Option Nat) (i:Nat) (k:Prop):Prop:=match h with
 |none=>k
 |some j=>j=i/\k
def jS (V:au) (sz:Nat) (w x:VV) (k:au->Prop):Prop:=match w with
 |.ptr O off=>match V.H.get O with
  |some (.ob v ovs)=>match GH x with
   |some (t,o)=>∃u,bf v off sz t=some u/\k (bu V O (.ob u (tv off o (lA off sz ovs))))
   |none=>False
  |_=>False
 |.pd O off=>match V.H.get O with
  |some (.ob v ovs)=>match ovs with
   |[]=>match x with
    |.tr t=>∃u,bf v off sz t=some u/\k (bu V O (.ob u []))
    |_=>False
   |_::_=>False
  |_=>False
 |.ea O i off=>match V.H.get O with
  |some (.gr z es)=>match x with
   |.tr t=>∃es',jt es i off sz t=some es'/\k (bu V O (.gr z es'))
   |_=>False
  |some (.gn K s io iz ver hole es)=>(match Nat.beq K O with
   |true=>(match x with
    |.tr t=>(match sP off sz io with
     |true=>∃es',jt es i off sz t=some es'/\k (bu V O (.gn K s io iz ver hole es'))
     |false=>False)
    |.sl N=>(match Nat.beq sz 1&&(Nat.beq off io&&!Nat.beq N O) with
     |true=>(match V.H.get N with
      |some (.gr z l)=>(match Nat.beq z iz with
       |true=>KX hole i (∃es',jt es i io 1 (.l l)=some es'/\k (bu (bT (Cj V N (.ow O (ver+1) i)) N) O (.gn K s io iz (ver+1) none es')))
       |false=>False)
      |_=>False)
     |false=>False)
    |_=>False)
   |false=>False)
  |_=>False
 |.e2 O v i j off=>J2 V O v fun s io iz es=>BX x fun t=>∃l,su es i io=some l/\∃l',jt l j off sz t=some l'/\∃es',jt es i io 1 (.l l')=some es'/\k (bu V O (.gn O s io iz v none es'))
 |_=>False
def CW (V:au) (d:Option Nat) (g:G) (off:Nat) (sz:Option Nat) (w:VV) (k:au->Prop):Prop:=match w with
 |.tr v=>eU nt V d g (Pa v off sz) k
 |.st v ovs=>match sz with
  |none=>match bU off ovs with
   |some w=>dh nt V d g w k
   |none=>eU nt V d g (ej v off) k
  |some n=>match lz off n ovs with
   |[]=>eU nt V d g (b9 v off n) k
   |p::r=>match g with
    |none=>∃u,b9 v off n=some u/\dh nt V d none (.st u (p::r)) k
    |some _=>False
 |_=>False
def Bu (V:au) (d:Option Nat) (g:G) (off:Nat) (w:VV) (k:au->Prop):Prop:=match w with
 |.ptr O o=>dh nt V d g (.ptr O (o+off)) k
 |.pd O o=>dh nt V d g (.pd O (o+off)) k
 |.pt v o=>dh nt V d g (.pt v (o+off)) k
 |.ea O i o=>dh nt V d g (.ea O i (o+off)) k
 |.e2 O v i j o=>dh nt V d g (.e2 O v i j (o+off)) k
 |_=>False
def Fj (V:au) (d:Option Nat) (g:G) (sz:Nat) (w:VV) (i:TV) (k:au->Prop):Prop:=pos sz <| match w with
 |.tr v=>G7 g (fun e=>D5 v i=some e/\lE sz e) fun e=>dh nt V d g (.pt e 0) k
 |.sl O=>match V.H.get O with
  |some (.gr z es)=>same z sz (Cd g (lY i es.length) fun n=>dh nt V d g (.ea O n 0) k)
  |some (.gn _ s _ _ _ _ es)=>same s sz (Cd g (lY i es.length) fun n=>dh nt V d g (.ea O n 0) k)
  |_=>False
 |.ow O v j=>J2 V O v fun _ io iz es=>same iz sz (Cd g (Sr es j io i) fun n=>dh nt V d g (.e2 O v j n 0) k)
 |_=>False
def Eg (V:au) (d:Option Nat) (g:G) (len sz:Nat) (w:VV) (i:TV) (k:au->Prop):Prop:=match w with
 |.ptr O o=>Cd g (lY i len) fun n=>dh nt V d g (.pd O (o+n*sz)) k
 |.pd O o=>Cd g (lY i len) fun n=>dh nt V d g (.pd O (o+n*sz)) k
 |.pt v o=>Cd g (lY i len) fun n=>dh nt V d g (.pt v (o+n*sz)) k
 |_=>False
def Fh (V:au) (d:Option Nat) (g:G) (str:Bool) (w:VV) (k:au->Prop):Prop:=match str with
 |true=>match w with
  |.tr v=>eU nt V d g (N7 v) k
  |_=>False
 |false=>match w with
  |.tr v=>eU nt V d g (Bl v) k
  |.bX=>eU nt V d g (some (.i .i64 0)) k
  |.sl O=>match V.H.get O with
   |some (.gr _ es)=>eU nt V d g (some (.i .i64 es.length)) k
   |some (.gn _ _ _ _ _ _ es)=>eU nt V d g (some (.i .i64 es.length)) k
   |_=>False
  |.ow O v j=>J2 V O v fun _ io _ es=>eU nt V d g (Mc es j io) k
  |_=>False
def Du (V:au) (sz:Nat) (w:VV) (k:List TV->Prop):Prop:=match w with
 |.tr v=>∃xs,oD v=some xs/\uR sz xs/\k xs
 |.bX=>k []
 |.sl P=>match V.H.get P with
  |some (.gr z es)=>same z sz (k es)
  |_=>False
 |_=>False
def Bw (V:au) (d:Option Nat) (g:G) (s io bytes:Nat) (w:VV) (xs:List TV) (k:au->Prop):Prop:=match d with
 |none=>False
 |some dd=>match w with
  |.bX=>(match FZ (sh.gc dd) s io (Ja (sh.gc dd))&&Nat.blt 0 (Ja (sh.gc dd)) with
   |true=>∃l,jT bytes [] xs=some l/\jv nt V d g .sl (.gn dd s io (Ja (sh.gc dd)) 0 none l) k
   |false=>False)
  |.sl O=>(match V.H.get O with
   |some (.gn _ s' io' iz _ none es)=>(match Nat.beq s' s&&Nat.beq io' io with
    |true=>∃l,jT bytes es xs=some l/\jv nt (bT V O) d g .sl (.gn dd s io iz 0 none l) k
    |false=>False)
   |_=>False)
  |_=>False
def Aq (V:au) (d:Option Nat) (g:G) (sz bytes:Nat) (w x:VV) (k:au->Prop):Prop:=match x with
 |.gl s io xs=>same s sz (Bw sh nt V d g s io bytes w xs k)
 |x=>pos sz <| Du V sz x fun xs=>match w with
 |.bX=>∃l,jT bytes [] xs=some l/\jv nt V d g .sl (.gr sz l) k
 |.sl O=>match V.H.get O with
  |some (.gr z es)=>same z sz (∃l,jT bytes es xs=some l/\jv nt (bT V O) d g .sl (.gr sz l) k)
  |_=>False
 |.ow O v i=>J2 V O v fun s io iz es=>same iz sz (∃l0,su es i io=some l0/\∃l,jT bytes l0 xs=some l/\jv nt (bu V O (.gn O s io iz v (some i) es)) d g .sl (.gr sz l) k)
 |_=>False
def Ee (V:au) (d:Option Nat) (g:G) (sz:Nat) (w:VV) (lo hi mx:Option aR) (k:au->Prop):Prop:=pos sz <| match w with
 |.sl O=>match V.H.get O with
  |some (.gr z es)=>match hi with
   |none=>match mx with
    |none=>same z sz (va V none lo fun l=>∃m,IL l 0 es.length=some m/\jv nt (bT V O) d g .sl (.gr sz (es.drop m)) k)
    |some _=>False
   |some _=>False
  |_=>False
 |.tr v=>match mx with
  |none=>va V g lo fun l=>va V g hi fun h=>G7 g (fun r=>Qr v l h=some r/\(∀es,v=.l es->uR sz es)) fun r=>dh nt V d none (.tr r) k
  |some m=>match lZ hi&&lZ mx&&lo.isNone&&g.isNone with
   |true=>∃l,oD v=some l/\uR sz l/\dh nt V d none .bX k
   |false=>False
 |.bX=>match lZ hi&&lZ mx&&lo.isNone with
  |true=>dh nt V d g .bX k
  |false=>False
 |_=>False
def nk (V:au) (d:Option Nat) (len sz:Nat) (w:VV) (hi:Option aR) (k:au->Prop):Prop:=match w with
 |.ptr O off=>(match V.H.get O with
  |some (.ob v _)=>∃u,b9 v off (len*sz)=some u/\va V none hi fun h=>∃m,IL h len len=some m/\dh nt V d none (.sa O off m sz) k
  |_=>False)
 |.pd O off=>(match V.H.get O with
  |some (.ob v _)=>∃u,b9 v off (len*sz)=some u/\va V none hi fun h=>∃m,IL h len len=some m/\dh nt V d none (.sa O off m sz) k
  |_=>False)
 |_=>False
def CX (V:au) (d:Option Nat) (sz:Nat) (w x:VV) (k:au->Prop):Prop:=match w with
 |.sa O off n z=>same z sz (match V.H.get O with
  |some (.ob v ovs)=>(match ovs with
   |[]=>Du V sz x fun xs=>∃u,Pf v off sz (xs.take n)=some u/\dh nt (bu V O (.ob u [])) d none (.tr (.i .i64 ((min xs.length n:Nat):Int))) k
   |_::_=>False)
  |_=>False)
 |_=>False
def IA:List Nat->List (Nat×VV)->List (Nat×VV)
 |[],l=>l
 |c::cs,l=>IA cs (lA c 1 l)
def N4 (d:Option Nat):List Nat:=match d with
 |some d=>sh.tc d
 |none=>[]
def Er:List Nat->TV->List (Nat×VV)->(TV->List (Nat×VV)->Prop)->Prop
 |[],v,o,k=>k v o
 |c::cs,v,o,k=>match bU c o with
  |some .bX=>∃u,bf v c 1 (.l [])=some u/\Er cs u (lA c 1 o) k
  |_=>False
def Q4 (d:Option Nat) (l:List (Nat×VV)):List (Nat×VV):=match d with
 |some d=>IA (sh.tc d) l
 |none=>l
def qz (p:Bool) (r:TV):Prop:=match p with
 |true=>True
 |false=>r.FI=true
def yR (V:au) (d:Option Nat) (g:G) (f:Nat) (args:List aR) (k:au->Prop):Prop:=
 pV V g args fun p ts=>match g with
  |none=>(match p||!(sh.fr f) with
   |true=>VS prog f ts fun r=>qz p r/\dh nt V d none (.tr r) k
   |false=>Qi prog f ts fun r=>dh nt V d none (.tr r) k)
  |some (c,bb)=>∃r,gV c bb (fun r=>VS prog f ts fun r'=>r'=r/\qz p r) r/\dh nt V d none (.tr r) k
def Mt (V:au) (d:Option Nat) (g:G) (w:VV) (k:au->Prop):Prop:=match w with
 |.tr v=>(match g with|none=>dh nt V d none (.tr v) k|some _=>eU nt V d g (some v) k)
 |.bad=>False
 |w=>dh nt V d g w k
def Bt (V:au) (d:Option Nat) (g:G) (w:VV) (k:au->Prop):Prop:=match w with
 |.ptr ..=>dh nt V d g w k
 |.pd ..=>dh nt V d g w k
 |.pt ..=>dh nt V d g w k
 |.ea ..=>dh nt V d g w k
 |_=>False
def Mu (V:au) (d:Option Nat) (s io:Nat) (w:VV) (k:au->Prop):Prop:=match w with
 |.bX=>(match Nat.beq s 1&&Nat.beq io 0 with
  |true=>dh nt V d none (.gl 1 0 [.l []]) k
  |false=>False)
 |.st t ovs=>(match ovs with
  |[(o,.bX)]=>(match Nat.beq o io&&Nat.blt io s with
   |true=>lE s t/\∃u,bf t io 1 (.l [])=some u/\dh nt V d none (.gl s io [u]) k
   |false=>False)
  |_=>False)
 |_=>False
def Ss (d:Option Nat):Option Nat:=match d with
 |some d=>(match sh.gc d with
  |0=>none
  |c+1=>some (c+1))
 |none=>none
def Fi (V:au) (d:Option Nat) (g:G) (fz:Bool) (len:Nat) (zero:List AV) (parts:List (Nat×Nat×aR)) (k:au->Prop):Prop:=match g with
 |none=>match len with
  |0=>(match parts with|[]=>(match zero with|[]=>(match fz with|false=>dh nt V d none .bX k|true=>False)|_::_=>False)|_::_=>False)
  |n+1=>pos (zero.length / len) (same ((zero.length / len)*len) zero.length (kS V none fz (zero.length / len) 0 parts fun ts V'=>same ts.length len (dh nt V' d none (.tr (.l ts)) k)))
 |some _=>False
def wN (V:au) (d:Option Nat) (g:G) (fz:Bool) (len:Nat) (zero:List AV) (parts:List (Nat×Nat×aR)) (k:au->Prop):Prop:=match Ss sh d with
 |none=>Fi nt V d g fz len zero parts k
 |some c=>match g with
  |none=>(match parts with
   |[(off,n,x)]=>(match Nat.beq len 1&&(Nat.beq off 0&&(Nat.beq n (F1 c)&&Nat.beq zero.length n)) with
    |true=>eT V none x fun w=>Mu nt V d (F1 c) (J3 c) w k
    |false=>False)
   |_=>False)
  |some _=>False
def u6:List (Nat×Nat×TV)->TV->Option TV
 |[],v=>some v
 |(off,n,t)::r,v=>match bf v off n t with
  |some u=>u6 r u
  |none=>none
def Hi (V:au) (g:G):List (Nat×Nat×aR)->(List (Nat×Nat×TV)->Prop)->Prop
 |[],k=>k []
 |(off,n,x)::r,k=>j7 V g x fun t=>Hi V g r fun l=>k ((off,n,t)::l)
def Ic:aR->Bool
 |.c .ay=>true
 |_=>false
def qT (V:au) (d:Option Nat) (g:G) (op:fO) (k:au->Prop):Prop:=match op with
 |.mv x=>eT V g x fun w=>Mt nt V d g w k
 |.pick c a b=>j7 V g c fun c=>j7 V g a fun a=>j7 V g b fun b=>eU nt V d g (fR c a b) k
 |.alloc zero=>match cz er zero with
  |true=>jv nt V d g (fun O=>.ptr O 0) (.ob (.a (cS zero)) (Q4 sh d (ia 0 zero))) k
  |false=>False
 |.box x=>eT V g x fun w=>match GH w with
  |some (v,o)=>v.gw=false/\Er (N4 sh d) v o fun v o=>jv nt V d g (fun O=>.ptr O 0) (.ob v o) k
  |none=>False
 |.build zero parts=>match g with
  |none=>(match cz er zero with
   |true=>A9 V none parts (.a (cS zero)) (ia 0 zero) fun v ovs=>dh nt V d none (L1 v ovs) k
   |false=>False)
  |some q=>(match cz er zero with
   |true=>Hi V (some q) parts fun l=>eU nt V d (some q) (u6 l (.a (cS zero))) k
   |false=>False)
 |.jd es len zero parts=>match g with
  |none=>pos es (kS V none false es 0 parts fun ts V'=>same ts.length len (same zero.length (ts.length*es) (jv nt V' d none .sl (.gr es ts) k)))
  |some _=>False
 |.b6 len zero parts=>wN sh nt V d g false len zero parts k
 |.load sz a=>eT V g a fun w=>kP nt V d g sz w k
 |.store sz a x=>match g with
  |none=>match d with
   |none=>eT V none a fun w=>eT V none x fun x=>jS V sz w x k
   |some _=>False
  |some _=>False
 |.lW x=>eT V g x fun w=>Bt nt V d g w k
 |.bin op x y=>j7 V g x fun x=>j7 V g y fun y=>eU nt V d g (b7 op x y) k
 |.eq t neg x y=>match t with
  |.slice=>(match g with
   |none=>(match Ic y with
    |true=>j7 V none x fun x=>∃es:List TV,oD x=some es/\∀b:Bool,(es≠[]->b=neg)->dh nt V d none (.tr (.b b)) k
    |false=>False)
   |some _=>False)
  |t=>j7 V g x fun x=>j7 V g y fun y=>eU nt V d g (Pe t neg x y) k
 |.un op x=>j7 V g x fun x=>eU nt V d g (v_ op x) k
 |.conv c x=>j7 V g x fun x=>eU nt V d g (gy c x) k
 |.vg es bytes zero n=>pos es <| match g with
  |none=>(match cz er zero&&Nat.beq zero.length es with
   |true=>j7 V none n fun n=>∃m,L0 bytes n=some m/\jv nt V d none .sl (.gr es (List.replicate m (Ey es zero))) k
   |false=>False)
  |some _=>False
 |.nO x lo hi=>j7 V g x fun x=>va V g lo fun lo=>va V g hi fun hi=>eU nt V d g (Dw x lo hi) k
 |.n_ es x lo hi mx=>eT V g x fun w=>Ee nt V d g es w lo hi mx k
 |.k9 len es x lo hi mx=>pos es <| match g with
  |none=>(match lo with
   |none=>(match mx with
    |none=>eT V none x fun w=>nk nt V d len es w hi k
    |some _=>False)
   |some _=>False)
  |some _=>False
 |.Gv es w x=>pos es <| match g with
  |none=>eT V none w fun w=>eT V none x fun x=>CX nt V d es w x k
  |some _=>False
 |.kO off x=>eT V g x fun w=>Bu nt V d g off w k
 |.F5 off sz x=>eT V g x fun w=>CW nt V d g off sz w k
 |.dP es x i=>eT V g x fun w=>j7 V g i fun i=>Fj nt V d g es w i k
 |.oM len es x i=>eT V g x fun w=>j7 V g i fun i=>Eg nt V d g len es w i k
 |.idx x i=>j7 V g x fun x=>j7 V g i fun i=>eU nt V d g (oK x i) k
 |.ext i x=>j7 V g x fun x=>eU nt V d g (jw i x) k
 |.app es bytes s x=>eT V g s fun w=>eT V g x fun x=>Aq sh nt V d g es bytes w x k
 |.len str x=>eT V g x fun w=>Fh nt V d g str w k
 |.DR mx xs=>Hg V g xs fun xs=>eU nt V d g (HR mx xs) k
 |.call f args .borrow=>yR sh prog nt V d g f args k
 |.call f args .share=>match g with
  |none=>xj sh nt V d f args k
  |some _=>False
 |.eP f args .borrow=>j7 V g f fun f=>match g with
  |none=>∃n,f=.f n/\yR sh prog nt V d none n args k
  |some (c,bb)=>∃n,(c=.b bb->f=.f n)/\yR sh prog nt V d (some (c,bb)) n args k
 |_=>False
def Kd (V:au) (o:aq) (k:au->Prop):Prop:=match o.gd with
 |none=>match o.fz with
  |true=>(match o.op with
   |.b6 len zero parts=>wN sh nt V o.dst none true len zero parts k
   |_=>False)
  |false=>qT sh prog nt V o.dst none o.op k
 |some (n,bb)=>match o.fz with
  |true=>False
  |false=>j7 V none (.t n) fun c=>qT sh prog nt V o.dst (some (c,bb)) o.op k
def Ms:List aq->au->(au->Prop)->Prop
 |[],V,k=>k V
 |o::l,V,k=>Kd sh prog nt V o fun V=>Ms l V k
structure Dj where
 rd:List Nat
 wr:List Nat
 src:List Nat
def u_:List (Nat×VV)->List Nat
 |[]=>[]
 |(_,.sl O)::r=>O::u_ r
 |(_,.ow O _ _)::r=>O::u_ r
 |_::r=>u_ r
def cV:VV->List Nat
 |.sl O=>[O]
 |.st _ ovs=>u_ ovs
 |.ow O _ _=>[O]
 |_=>[]
def g_:VV->List Nat
 |.ptr O _=>[O]
 |.pd O _=>[O]
 |.ea O _ _=>[O]
 |.e2 O _ _ _ _=>[O]
 |_=>[]
def AR:VV->List Nat
 |.sa O _ _ _=>[O]
 |_=>[]
def Mf:VV->Bool
 |.tr _=>true
 |.bX=>true
 |.st _ ovs=>z7 ovs
 |_=>false
def uQ (V:au):List aR->Bool
 |[]=>true
 |x::xs=>Mf (c9 V x)&&uQ V xs
def fS (V:au):List (Nat×Nat×aR)->List Nat
 |[]=>[]
 |(_,_,x)::r=>cV (c9 V x)++fS V r
def Bp (V:au) (o:aq):Option Dj:=match o.op with
 |.load _ a=>some ⟨g_ (c9 V a),[],[]⟩
 |.store _ a _=>some ⟨g_ (c9 V a),g_ (c9 V a),[]⟩
 |.app _ _ s x=>some ⟨cV (c9 V s)++cV (c9 V x),cV (c9 V s),cV (c9 V s)⟩
 |.n_ _ x _ _ _=>some ⟨[],[],cV (c9 V x)⟩
 |.b6 _ _ parts=>match o.fz with
  |true=>some ⟨fS V parts,fS V parts,[]⟩
  |false=>some ⟨[],[],[]⟩
 |.call _ args .borrow=>match uQ V args with
  |true=>some ⟨[],[],[]⟩
  |false=>none
 |.eP _ args .borrow=>match uQ V args with
  |true=>some ⟨[],[],[]⟩
  |false=>none
 |.call _ _ .share=>none
 |.eP _ _ .share=>none
 |.k9 _ _ x _ _ _=>some ⟨g_ (c9 V x),[],[]⟩
 |.Gv _ w x=>some ⟨AR (c9 V w)++cV (c9 V x),AR (c9 V w),[]⟩
 |.Kw ..=>none
 |.q_ ..=>none
 |.Bh ..=>none
 |.zm ..=>none
 |_=>some ⟨[],[],[]⟩
def ee (T:Nat):List (Nat×Nat×List Nat)->Nat×List Nat
 |[]=>(T,[])
 |(T',x)::l=>bif Nat.beq T' T then x else ee T l
def Jo:List Nat->List Nat->Bool
 |[],_=>true
 |n::l,m=>qS n m&&Jo l m
def Aw:List Nat->List Nat->Bool
 |[],_=>true
 |n::l,m=>!qS n m&&Aw l m
def k_ (info:List (Nat×Nat×List Nat)):List Nat->List Nat
 |[]=>[]
 |T::l=>(ee T info).1::k_ info l
def mh (info:List (Nat×Nat×List Nat)) (ah:List Nat):List Nat->Bool
 |[]=>true
 |T::l=>Jo (ee T info).2 ah&&mh info ah l
def zp {α:Type} (m:Map α):(Nat->Bool)->Bool:=
 Map.rec (motive:=fun _=>(Nat->Bool)->Bool) (fun _=>true)
  (fun v _ _ l r p=>(match v with|none=>true|some _=>p 0)&&(l (fun k=>p (Nat.succ (Nat.mul 2 k)))&&r (fun k=>p (Nat.succ (Nat.succ (Nat.mul 2 k)))))) m
def Tl (d:Option Nat) (T:Nat):Bool:=match d with
 |some d=>Nat.beq d T
 |none=>false
def l9 (V:au) (T:Nat):Bool:=match V.H.get T with
 |some _=>true
 |none=>false
def E5:Option VO->Option VO->Bool
 |some (.gn _ _ _ _ _ none _),some (.gn _ _ _ _ _ (some _) _)=>false
 |_,_=>true
def GR (x y:Option VO) (k:Prop):Prop:=match x with
 |some (.gn K _ _ _ v h _)=>(match y with
  |some (.gn K' _ _ _ v' h' _)=>(match Nat.beq K K'&&Nat.beq v v' with
   |true=>(match h with
    |none=>k
    |some j=>(match h' with
     |some j'=>j=j'/\k
     |none=>False))
   |false=>False)
  |some _=>False
  |none=>k)
 |some _=>(match y with
  |some (.gn ..)=>False
  |_=>k)
 |none=>k
def Gk {α:Type} (m:Map α):(Nat->Prop->Prop)->Prop->Prop:=
 Map.rec (motive:=fun _=>(Nat->Prop->Prop)->Prop->Prop) (fun _ k=>k)
  (fun v _ _ l r f k=>(match v with|none=>fun k=>k|some _=>f 0) (l (fun i=>f (Nat.succ (Nat.mul 2 i))) (r (fun i=>f (Nat.succ (Nat.succ (Nat.mul 2 i)))) k))) m
def FC (l:List aq) (V V':au) (k:Prop):Prop:=match l with
 |[]=>k
 |_::_=>Gk V'.H (fun T=>GR (V.H.get T) (V'.H.get T)) k
def zO (d:Option Nat) (i:Nat) (V V':au) (f:Dj) (info:List (Nat×Nat×List Nat)):Option (List (Nat×Nat×List Nat)):=
 match zp V'.H fun T=>l9 V T||Tl d T with
 |false=>none
 |true=>match d with
  |none=>some info
  |some d=>match l9 V' d&&!l9 V d with
   |false=>some info
   |true=>match zp V.H fun T=>qS T f.src||(l9 V' T&&E5 (V.H.get T) (V'.H.get T)) with
    |false=>none
    |true=>match f.src with
     |[]=>some ((d,d,[i])::info)
     |[O]=>some ((d,(ee O info).1,i::(ee O info).2)::info)
     |_=>none
def A_ (feet:List (List Nat×List Nat)):List (Nat×Nat)->Bool
 |[]=>true
 |(i,j)::l=>(match feet[i]? with
  |some a=>match feet[j]? with
   |some b=>Aw a.2 b.1&&(Aw b.2 a.1&&Aw a.2 b.2)
   |none=>false
  |none=>false)&&A_ feet l
def LZ (d:Nat):List PK->RK->List Nat
 |[],rk=>(match rk with
  |.tr=>[]
  |.sl _=>[d]
  |.st offs=>offs.map (fun p=>ru (q9 d) p.1))
 |k::ks,rk=>(match k with
  |.ob offs=>offs.map (fun p=>ru d p.1)++LZ d ks rk
  |_=>LZ d ks rk)
def gb:List (Nat×Nat×List Nat)->au->au
 |[],V=>V
 |(T,_)::l,V=>gb l (bT V T)
def mm (V:au):List (Nat×Nat×List Nat)->au->au
 |[],W=>W
 |(T,_)::l,W=>mm V l (match W.H.get T with
  |some _=>W
  |none=>match V.H.get T with
   |some o=>(match o.pl with
    |true=>bu W T o
    |false=>W)
   |none=>W)
def wu (i:Nat):List Nat->List (Nat×Nat×List Nat)->List (Nat×Nat×List Nat)
 |[],l=>l
 |T::r,l=>(T,T,[i])::wu i r l
def JX (d f:Nat):List Nat:=match sh.inl f with
 |some _=>[]
 |none=>match sh.sg f with
  |some sg=>LZ d sg.ks sg.rk
  |none=>[]
def AG (V:au) (o:aq):Option (List Nat):=match o.gd with
 |some _=>none
 |none=>match o.fz with
  |true=>none
  |false=>match o.op with
   |.call f args .share=>(match o.dst with
    |some d=>some (JX sh d f)
    |none=>none)
   |.call _ args .borrow=>(match uQ V args with
    |true=>none
    |false=>some [])
   |_=>none
def CD (V:au):List Nat->Bool
 |[]=>true
 |T::l=>(match V.H.get T with|some _=>false|none=>true)&&CD V l
inductive iP where
 |sl (N:Nat)
 |tr (c:Option TV)
def Bm (v:TV) (ovs:List (Nat×VV)):Nat->Nat->Option (List iP)
 |_,0=>some []
 |off,n+1=>match Bm v ovs (off+1) n with
  |none=>none
  |some l=>match bU off ovs with
   |some (.sl N)=>some (.sl N::l)
   |some _=>none
   |none=>some (.tr (ej v off)::l)
def cellOf (V:au) (o:aq):Option (Nat×Nat×List iP):=match o.gd with
 |some _=>none
 |none=>match o.fz with
  |true=>none
  |false=>match o.op with
   |.load sz (.t a)=>(match V.env.get a with
    |some ⟨none,.ptr O off⟩=>(match V.H.get O with
     |some (.ob v ovs)=>(match Bm v ovs off (cP sz) with
      |some (k::ks)=>some (O,off,k::ks)
      |_=>none)
     |_=>none)
    |_=>none)
   |_=>none
def TV.uniq:TV->Bool
 |.i _ _=>true
 |.b _=>true
 |.s _=>true
 |.A8 _ _=>true
 |_=>false
def FY (v:TV) (ovs:List (Nat×VV)):Nat->List iP->Prop->Prop
 |_,[],k=>k
 |off,key::l,k=>match key with
  |.sl N=>(match bU off ovs with
   |some (.sl N')=>(match Nat.beq N N' with
    |true=>FY v ovs (off+1) l k
    |false=>False)
   |_=>False)
  |.tr c=>(match bU off ovs with
   |none=>(∃t,TV.uniq t=true/\c=some t/\ej v off=some t)/\FY v ovs (off+1) l k
   |some _=>False)
def Md (V:au) (O off:Nat) (key:List iP) (k:Prop):Prop:=match V.H.get O with
 |some (.ob v ovs)=>FY v ovs off key k
 |_=>False
def CT (i:Nat):List (Nat×Nat×Nat×List iP)->Option (Nat×Nat×List iP)
 |[]=>none
 |(c,p)::l=>match Nat.beq c i with
  |true=>some p
  |false=>CT i l
def tU (V:au) (cl:List (Nat×Nat×Nat×List iP)) (i:Nat):List (Nat×Nat)->Prop->Prop
 |[],k=>k
 |(a,b)::l,k=>match Nat.beq a i with
  |true=>False
  |false=>match Nat.beq b i with
   |false=>tU V cl i l k
   |true=>match CT a cl with
    |none=>False
    |some (O,off,key)=>Md V O off key (tU V cl i l k)
def DQ {α:Type}:List α->Bool
 |[]=>true
 |_::_=>false
def E9 (V V':au) (feet:List (List Nat×List Nat)):Bool:=
 zp V.H fun O=>((match V.H.get O with|some o=>o.pl|none=>false)&&l9 V' O)||cz (fun f=>!qS O f.1&&!qS O f.2) feet
def Kz (V:au) (o:aq) (i:Nat) (pairs:List (Nat×Nat)) (cl:List (Nat×Nat×Nat×List iP)):List (Nat×Nat×Nat×List iP):=match pairs with
 |[]=>cl
 |_::_=>match cellOf V o with
  |some p=>(i,p)::cl
  |none=>cl
def Kf (ahead:List (List Nat)) (pairs:List (Nat×Nat)):List aq->Nat->au->List (Nat×Nat×List Nat)->List (List Nat×List Nat)->List (Nat×Nat×Nat×List iP)->(au->Prop)->Prop
 |[],i,V,_,feet,_,k=>match Nat.beq ahead.length i&&A_ feet pairs with
  |true=>k V
  |false=>False
 |o::l,i,V,info,feet,cl,k=>match AG sh V o with
  |some ns=>(match CD V ns&&(DQ pairs||!DQ l) with
    |true=>tU V cl i pairs (Kd sh prog nt (gb info V) o fun V'=>(match (zp V'.H fun T=>l9 (gb info V) T||qS T ns)&&(DQ pairs||E9 (gb info V) V' feet) with
     |true=>FC l (gb info V) V' (tU (mm V info V') cl i pairs (Kf ahead pairs l (i+1) (mm V info V') (wu i ns info) (feet++[([],[])]) cl k))
     |false=>False))
    |false=>False)
  |none=>Kd sh prog nt V o fun V'=>match Bp V o with
   |none=>False
   |some f=>match ahead[i]? with
    |none=>False
    |some ah=>match mh info ah (f.rd++f.wr) with
     |false=>False
     |true=>match zO o.dst i V V' f info with
      |none=>False
      |some info'=>FC l V V' (Kf ahead pairs l (i+1) V' info' (feet++[(k_ info f.rd,k_ info f.wr)]) (Kz V o i pairs cl) k)
def TV.Uh:TV->Bool
 |.l _=>true
 |_=>false
def JF:List (Nat×Nat)->au->(au->Prop)->Prop
 |[],V,k=>k V
 |(O,off)::l,V,k=>match V.H.get O with
  |some (.ob v ovs)=>(match bU off ovs with
   |none=>∃t,k4 (ej v off)=some t/\t.Uh=true/\∀x:AV,∃v',bf v off 1 (.A8 x t)=some v'/\JF l (bu V O (.ob v' ovs)) k
   |some _=>False)
  |_=>False
def Mq:List aq->Nat
 |⟨some d,_,_,_⟩::_=>d
 |_=>0
inductive bh where
 |skip
 |aQ (ops:List aq)
 |cj (ops:List aq) (ahead:List (List Nat)) (pairs:List (Nat×Nat))
 |seq (a b:bh)
 |cond (c:aR) (a b:bh)
 |block (id:Nat) (c:bh)
 |loop (J:List vY) (c:bh)
 |exit (id:Nat)
 |ret
 |join (J:List vY) (c:bh)
def bh.code:bh->c8
 |.skip=>.skip
 |.aQ ops=>.aQ ops
 |.cj ops ahead pairs=>.cj ops ahead pairs
 |.seq a b=>.seq a.code b.code
 |.cond c a b=>.cond c a.code b.code
 |.block id c=>.block id c.code
 |.loop _ c=>.loop c.code
 |.exit id=>.exit id
 |.ret=>.ret
 |.join _ c=>c.code
def aW (c:TV) (a b:Prop):Prop:=match c with
 |.b x=>(match x with|true=>a|false=>b)
 |_=>False
def wV:bh->au->(bY->au->Prop)->Prop
 |.skip,V,k=>k .normal V
 |.aQ ops,V,k=>Ms sh prog nt ops V (k .normal)
 |.cj ops ahead pairs,V,k=>JF (sh.pn (Mq ops)) V fun V=>Kf sh prog nt ahead pairs ops 0 V [] [] [] (k .normal)
 |.seq a b,V,k=>wV a V fun x V=>match x with
  |.normal=>wV b V k
  |x=>k x V
 |.cond c a b,V,k=>j7 V none c fun c=>aW c (wV a V k) (wV b V k)
 |.block id c,V,k=>wV c V fun x V=>match x with
  |.exit i=>bif Nat.beq i id then k .normal V else k (.exit i) V
  |x=>k x V
 |.loop J c,V,k=>∃I:Nat->JT J Prop,(∃n,nT J V (I n))/\∀n,gU J V0 (I n) fun V=>wV c V fun x V=>match x with
  |.normal=>∃m,m < n/\nT J V (I m)
  |x=>k x V
 |.exit id,V,k=>k (.exit id) V
 |.ret,V,k=>k .ret V
 |.join J c,V,k=>∃I:JT J Prop,(wV c V fun x V=>match x with
  |.normal=>nT J V I
  |x=>k x V)/\gU J V0 I (k .normal)
end
def Ig:List TV->Nat->au->au
 |[],_,V=>V
 |v::vs,i,V=>Ig vs (i+1) (je V i (.tr v))
def w8 (V:au) (r:ny) (k:TV->Prop):Prop:=match r with
 |.tmp t=>eT V none (.t t) fun w=>Nb V w k
 |.cell t sz=>eT V none (.t t) fun w=>match w with
  |.ptr O off=>(match V.H.get O with
   |some (.ob v ovs)=>match sz with
    |none=>(match bU off ovs with
     |some w=>wR V w fun es=>k (.l es)
     |none=>∃u,ej v off=some u/\k u)
    |some n=>∃u,b9 v off n=some u/\zf V (lz off n ovs) u k
   |_=>False)
  |_=>False
def uY (V:au):List ny->(List TV->Prop)->Prop
 |[],k=>k []
 |r::rs,k=>w8 V r fun v=>uY V rs fun vs=>k (v::vs)
def eg:List TV->Prop
 |[]=>True
 |t::r=>t.gw=false/\eg r
def lP (rs:List TV):Prop:=match rs with
 |[_]=>True
 |rs=>eg rs
def FD:List TV->TV
 |[v]=>v
 |vs=>.tp vs
def Pd (sh:Sh) (prog:Map ak) (af:ak) (vc:bh) (ts:List TV) (Q:TV->Prop):Prop:=
 wV sh prog af.nt vc (Ig ts 0 V0) fun x V=>(match x with|.exit _=>False|_=>True)/\uY V af.res fun rs=>lP rs/\Q (FD rs)
end Go.Ax.V
namespace Go.Ax.ek
open Go Go.Ax Go.Ax.V
abbrev LO:=List aq
abbrev oT (d t:Nat) (op:fO):aq:=⟨some d,op,some (t,true),false⟩
abbrev oF (d t:Nat) (op:fO):aq:=⟨some d,op,some (t,false),false⟩
abbrev oN (op:fO):aq:=⟨none,op,none,false⟩
abbrev zi:AV:=.int .i64 0
abbrev qM (d a:Nat):aq:=o d (.mv (.t a))
abbrev qMT (d g a:Nat):aq:=oT d g (.mv (.t a))
abbrev qMF (d g a:Nat):aq:=oF d g (.mv (.t a))
abbrev qZ (d a:Nat):aq:=o d (.mv (i64 a))
abbrev qL (d a:Nat):aq:=o d (.load none (.t a))
abbrev qLT (d g a:Nat):aq:=oT d g (.load none (.t a))
abbrev qLF (d g a:Nat):aq:=oF d g (.load none (.t a))
abbrev qG (d a b:Nat):aq:=o d (.load (some a) (.t b))
abbrev qGT (d g a b:Nat):aq:=oT d g (.load (some a) (.t b))
abbrev qGF (d g a b:Nat):aq:=oF d g (.load (some a) (.t b))
abbrev qF (d a b:Nat):aq:=o d (.kO a (.t b))
abbrev qFT (d g a b:Nat):aq:=oT d g (.kO a (.t b))
abbrev qFF (d g a b:Nat):aq:=oF d g (.kO a (.t b))
abbrev qI (d a b c:Nat):aq:=o d (.dP a (.t b) (.t c))
abbrev qIT (d g a b c:Nat):aq:=oT d g (.dP a (.t b) (.t c))
abbrev qN (d a:Nat):aq:=o d (.len false (.t a))
abbrev qNT (d g a:Nat):aq:=oT d g (.len false (.t a))
abbrev qNF (d g a:Nat):aq:=oF d g (.len false (.t a))
abbrev qU (d a:Nat):aq:=o d (.un .not (.t a))
abbrev qUT (d g a:Nat):aq:=oT d g (.un .not (.t a))
abbrev qUF (d g a:Nat):aq:=oF d g (.un .not (.t a))
abbrev qP (d a b:Nat):aq:=o d (.pick (.t a) (.c (.bool true)) (.t b))
abbrev qQ (d a b:Nat):aq:=o d (.pick (.t a) (.t b) (.c (.bool false)))
abbrev qQF (d g a b:Nat):aq:=oF d g (.pick (.t a) (.t b) (.c (.bool false)))
abbrev qE (d a b:Nat):aq:=o d (.ext a (.t b))
abbrev qX (d a:Nat):aq:=o d (.lW (.t a))
abbrev qB (d:Nat) (p:BinOp) (a b:Nat):aq:=o d (.bin p (.t a) (.t b))
abbrev qC (d:Nat) (p:BinOp) (a b:Nat):aq:=o d (.bin p (.t a) (i64 b))
abbrev qK (d f:Nat) (l:List Nat):aq:=o d (.call f (l.map .t) .borrow)
abbrev qBT (d g:Nat) (p:BinOp) (a b:Nat):aq:=oT d g (.bin p (.t a) (.t b))
abbrev qCT (d g:Nat) (p:BinOp) (a b:Nat):aq:=oT d g (.bin p (.t a) (i64 b))
abbrev qKT (d g f:Nat) (l:List Nat):aq:=oT d g (.call f (l.map .t) .borrow)
abbrev qBF (d g:Nat) (p:BinOp) (a b:Nat):aq:=oF d g (.bin p (.t a) (.t b))
abbrev qCF (d g:Nat) (p:BinOp) (a b:Nat):aq:=oF d g (.bin p (.t a) (i64 b))
abbrev qKF (d g f:Nat) (l:List Nat):aq:=oF d g (.call f (l.map .t) .borrow)
abbrev qY (d:Nat) (b:Bool):aq:=o d (.mv (.c (.bool b)))
abbrev qO (s a b:Nat):aq:=oN (.store s (.t a) (.t b))
abbrev qA (d s y a b:Nat):aq:=o d (.app s y (.t a) (.t b))
abbrev oZ (d:Nat) (p:fO):aq:=⟨some d,p,none,true⟩
abbrev xA (a e:Nat):c8:=.cond (.t a) .skip (.exit e)
abbrev zL0:List AV:=[zi,zi,zi,zi,zi,zi,zi,.ay,zi,zi,zi,zi,.ay,zi,zi,zi,.ay,.ay,.ay,.ay]
abbrev zL1:List AV:=[zi,zi,zi,zi,zi,zi,zi,zi,zi,.ay,zi,zi,zi,zi,.ay,zi,zi,zi,.ay]
abbrev zL2:List AV:=[zi,zi,zi,zi,.ay,zi,zi,zi,.ay]
abbrev zL3:List AV:=[zi,zi,zi,zi,zi,.ay]
abbrev rg:Nat->List Nat:=List.range
abbrev qs (l:LO) (c:bh):bh:=.seq (.aQ l) c
abbrev jJ0:List vY:=[.sl 0 1,.tr 1,.tr 10,.tr 11]
abbrev jJ3:List vY:=[.sl 0 1,.tr 1,.tr 9,.tr 10]
abbrev jJ9:List vY:=[.sl 0 1,.tr 1,.tr 2,.tr 7,.tr 8]
abbrev tB0:ByteArray:=⟨#[0,1,2,2,3,3,3,3,4,4,4,4,4,4,4,4,5,5,5,5,5,5,5,5,5,5,5,5,5,5,5,5,6,6,6,6,6,6,6,6,6,6,6,6,6,6,6,6,6,6,6,6,6,6,6,6,6,6,6,6,6,6,6,6,7,7,7,7,7,7,7,7,7,7,7,7,7,7,7,7,7,7,7,7,7,7,7,7,7,7,7,7,7,7,7,7,7,7,7,7,7,7,7,7,7,7,7,7,7,7,7,7,7,7,7,7,7,7,7,7,7,7,7,7,7,7,7,7,8,8,8,8,8,8,8,8,8,8,8,8,8,8,8,8,8,8,8,8,8,8,8,8,8,8,8,8,8,8,8,8,8,8,8,8,8,8,8,8,8,8,8,8,8,8,8,8,8,8,8,8,8,8,8,8,8,8,8,8,8,8,8,8,8,8,8,8,8,8,8,8,8,8,8,8,8,8,8,8,8,8,8,8,8,8,8,8,8,8,8,8,8,8,8,8,8,8,8,8,8,8,8,8,8,8,8,8,8,8,8,8,8,8,8,8,8,8,8,8,8,8,8,8,8,8,8,8]⟩
def EP:LO:=[qY 2 false]
def EO:LO:=[qM 8 0,o 9 (.conv .u64 (.t 8)),o 10 (.bin .rem (.t 9) (.c (.int .u64 10))),o 11 (.conv .i64 (.t 10)),o 12 (.bin .add (i64 395) (.t 11)),qM 3 12]
def EN:LO:=[o 13 (.build [zi,.ay] [(0,1,(i64 1))]),o 14 (.jd 2 1 [zi,.ay] [(0,2,.t 13)]),o 15 (.build [.ay,.ay] [(1,1,.t 14)]),o 4 (.alloc [.ay,.ay]),qO 2 4 15]
def EM:LO:=[qZ 5 0]
def Hq:LO:=[qM 16 5,qM 17 3,qB 18 .lss 16 17]
def EL:LO:=[o 21 (.alloc [.bool false]),oN (.store 1 (.t 21) (.c (.bool true))),oN (.store 1 (.t 21) (.c (.bool false))),qL 22 21]
def Pm:List (List Nat):=[[],[0],[0],[0,1,2]]
def Hp:LO:=[qF 23 1 4,qL 24 23,o 25 (.dP 2 (.t 24) (i64 0)),qF 26 1 25,qL 27 26,o 28 (.build zL0 [(0,1,(i64 7))]),qN 29 27,oZ 30 (.b6 1 zL0 [(0,20,(.c (.agg zL0)))]),qA 31 20 256 27 30,o 32 (.dP 2 (.t 24) (i64 0)),qF 33 1 32,qO 1 33 31]
def Ho:LO:=[qI 34 20 31 29,qO 20 34 28]
def Hl:LO:=[qF 35 1 4,qL 36 35,qF 37 1 4,qL 38 37,o 39 (.dP 2 (.t 38) (i64 0)),qF 40 1 39,qL 41 40,o 42 (.build zL0 [(0,1,(i64 7))]),oZ 43 (.b6 1 zL0 [(0,20,.t 42)]),qA 44 20 256 41 43,o 45 (.dP 2 (.t 36) (i64 0)),qF 46 1 45,qO 1 46 44]
def IM:List (List Nat):=[[],[0],[],[2],[2,3],[2,3,4],[2,3,4,5],[],[7],[2,3,4,5,6,7,8],(rg 10),(rg 11),(rg 12)]
def zW:LO:=[qM 19 5,qC 20 .add 19 1,qM 5 20]
def O0:c8:=.seq (.seq (.aQ Hq) (xA 18 0)) (.seq (.block 1 (.seq (.cj EL Pm [(1,2)]) (.cond (.t 22) (.seq (.aQ Hp) (.aQ Ho)) (.cj Hl IM [(1,8),(3,8),(6,8),(1,9)])))) (.aQ zW))
def LL:LO:=[qG 48 2 4,qK 49 43 [48],qM 47 49,qE 50 0 47,qE 51 1 47,o 6 (.alloc [.ay,.ay,.ay]),qO 3 6 50,qM 7 51]
def Ht:LO:=[qM 52 3,qC 53 .gtr 52 400]
def Hs:LO:=[o 54 (.call 46 [] .borrow),qM 55 54,qMT 56 55 7,qCT 57 55 .eql 56 10,qQ 58 55 57,qM 59 58,qFT 60 59 1 6,qLT 61 59 60,qNT 62 59 61,qCT 63 59 .eql 62 0,qQ 64 59 63,qM 2 64]
def Hr:LO:=[o 65 (.call 46 [] .borrow),qM 66 65,qMT 67 66 7,qCT 68 66 .eql 67 0,qQ 69 66 68,qM 70 69,qFT 71 70 1 6,qLT 72 70 71,qNT 73 70 72,qCT 74 70 .eql 73 1,qQ 75 70 74,qM 76 75,qFT 77 76 1 6,qLT 78 76 77,oT 79 76 (.dP 3 (.t 78) (i64 0)),qFT 80 76 1 79,qLT 81 76 80,qNT 82 76 81,qMT 83 76 3,qBT 84 76 .eql 82 83,qQ 85 76 84,qM 86 85,qFT 87 86 1 6,qLT 88 86 87,oT 89 86 (.dP 3 (.t 88) (i64 0)),qFT 90 86 0 89,qLT 91 86 90,qMT 92 86 3,qCT 93 86 .add 92 1,qBT 94 86 .eql 91 93,qQ 95 86 94,qM 2 95]
def Uk:c8:=.seq (.aQ EP) (.seq (.aQ EO) (.seq (.aQ EN) (.seq (.seq (.aQ EM) (.block 0 (.loop O0))) (.seq (.aQ LL) (.seq (.seq (.aQ Ht) (.cond (.t 53) (.seq (.aQ Hs) .ret) .skip)) (.seq (.aQ Hr) .ret))))))
def Qx:ak:=⟨1,96,[.tmp 2],Uk⟩
def Ti:bh:=qs [qZ 2 0] (.seq (qs [qM 3 0] (.block 0 (qs [qC 5 .eql 3 1,qM 4 5] (.cond (.t 4) (qs [qZ 2 2] .ret) (qs [qC 7 .eql 3 2,qM 6 7] (.cond (.t 6) (qs [qZ 2 1] .ret) (qs [qC 9 .eql 3 3,qM 8 9] (.cond (.t 8) (qs [qZ 2 6] .ret) (qs [qC 11 .eql 3 4,qM 10 11] (.cond (.t 10) (qs [qZ 2 5] .ret) (qs [qC 13 .eql 3 5,qM 12 13] (.cond (.t 12) (qs [qZ 2 4] .ret) (qs [qC 15 .eql 3 6,qM 14 15] (.cond (.t 14) (qs [qZ 2 3] .ret) .skip)))))))))))))) (qs [qZ 2 0] .ret))
def SY:ak:=⟨1,16,[.tmp 2],Ti.code⟩
def Th:bh:=qs [o 1 (.box (.t 0)),o 2 (.alloc [.ay,.ay,.ay]),qZ 3 0] (.seq (qs [qG 8 2 1,qK 9 60 [8],qU 10 9] (.cond (.t 10) (qs [o 11 (.build [.ay,.ay,.ay] []),qO 3 2 11,qZ 3 1] .ret) .skip)) (qs [qF 12 0 1,qL 13 12,qK 14 61 [13],o 15 (.build [.ay,.ay,.ay] [(0,1,.t 14)]),o 4 (.alloc [.ay,.ay,.ay]),qO 3 4 15] (.seq (qs [qF 16 1 1,qL 17 16,qN 18 17,qZ 19 0] (.block 0 (.loop [.ob 2 [(0,6),(1,3),(2,1)],.ob 4 [(1,3),(2,1)],.pt 2 2 0,.pt 4 4 0,.tr 17,.tr 18,.tr 19] (qs [qB 20 .lss 19 18] (.seq (.cond (.t 20) .skip (.exit 0)) (.seq (.block 1 (qs [qI 21 2 17 19,qG 22 2 21,o 6 (.alloc [zi,.ay]),qO 2 6 22] (qs [o 23 (.build [zi,.ay,.ay] [(0,1,(i64 2))]),o 7 (.alloc [zi,.ay,.ay]),qO 3 7 23] (qs [qF 24 1 6,qL 25 24,o 26 (.call 62 [.t 7,.t 25,(i64 0),(i64 1)] .share)] (.seq (qs [qF 27 1 7,qL 28 27,qN 29 28,qC 30 .gtr 29 400] (.cond (.t 30) (qs [o 31 (.build [.ay,.ay,.ay] []),qO 3 2 31,qZ 3 10] .ret) .skip)) (qs [qF 32 2 7,qL 33 32,o 34 (.call 63 [.t 33] .share)] (.cj [qF 35 1 4,qL 36 35,qG 37 3 7,oZ 38 (.b6 1 [zi,.ay,.ay] [(0,3,.t 37)]),qA 39 3 56 36 38,qF 40 2 4,qL 41 40,qF 42 0 6,qL 43 42,o 44 (.b6 1 [zi] [(0,1,.t 43)]),qA 45 1 8 41 44,qF 46 1 4,qO 1 46 39,qF 47 2 4,qO 1 47 45] [[],[0],[],[2],(rg 4),[],[5],[],[7],[7,8],(rg 10),(rg 7),(rg 12),(rg 13),(rg 14)] [(1,3),(3,6),(4,6),(3,8),(4,8)]))))))) (.aQ [qC 48 .add 19 1,qM 19 48]))))))) (qs [qG 49 3 4,qO 3 2 49,qZ 3 0] .ret))))
def SX:ak:=⟨1,50,[.cell 2 (some 3),.tmp 3],Th.code⟩
def Ts:ak:=⟨0,57,[.tmp 0],(.seq (.aQ [qY 0 false]) (.seq (.aQ [o 4 (.build [zi,zi,zi,.ay] [(0,1,(i64 1)),(1,1,(i64 3))]),o 5 (.build zL0 [(0,1,(i64 1)),(4,4,.t 4)]),oZ 6 (.b6 1 zL0 [(0,20,.t 5)]),o 7 (.build [zi,.ay] [(0,1,(i64 1)),(1,1,.t 6)]),oZ 8 (.b6 1 [zi,.ay] [(0,2,.t 7)]),o 9 (.build [.ay,.ay] [(1,1,.t 8)]),qK 10 43 [9],qM 3 10,qE 11 0 3,qE 12 1 3,o 1 (.alloc [.ay,.ay,.ay]),qO 3 1 11,qM 2 12]) (.seq (.aQ [qM 13 2,qC 14 .eql 13 0,qM 15 14,qFT 16 15 1 1,qLT 17 15 16,qNT 18 15 17,qCT 19 15 .eql 18 1,qQ 20 15 19,qM 21 20,qFT 22 21 1 1,qLT 23 21 22,oT 24 21 (.dP 3 (.t 23) (i64 0)),qFT 25 21 0 24,qLT 26 21 25,qCT 27 21 .eql 26 2,qQ 28 21 27,qM 29 28,qFT 30 29 1 1,qLT 31 29 30,oT 32 29 (.dP 3 (.t 31) (i64 0)),qFT 33 29 1 32,qLT 34 29 33,qNT 35 29 34,qCT 36 29 .eql 35 1,qQ 37 29 36,qM 38 37,qFT 39 38 1 1,qLT 40 38 39,oT 41 38 (.dP 3 (.t 40) (i64 0)),qFT 42 38 1 41,qLT 43 38 42,oT 44 38 (.dP 19 (.t 43) (i64 0)),qFT 45 38 1 44,qLT 46 38 45,qCT 47 38 .eql 46 1,qQ 48 38 47,qM 49 48,qGT 50 49 3 1,qKT 51 49 53 [50],qQ 52 49 51,qM 53 52,oT 54 53 (.call 41 [(i64 3)] .borrow),qCT 55 53 .eql 54 6,qQ 56 53 55,qM 0 56]) .ret)))⟩
def Tr:ak:=⟨2,26,[.tmp 4],(.seq (.aQ [o 2 (.box (.t 0)),o 4 (.mv (.c (.ay)))]) (.seq (.aQ [o 5 (.mv (.c (.ay)))]) (.seq (.seq (.aQ [qF 8 1 2,qL 9 8,qN 10 9,qZ 11 0]) (.block 0 (.loop (.seq (.aQ [qB 12 .lss 11 10]) (.seq (.cond (.t 12) .skip (.exit 0)) (.seq (.block 1 (.seq (.aQ [qM 13 11,qI 14 19 9 11,qG 15 19 14,o 7 (.alloc zL1),qM 6 13,qO 19 7 15]) (.seq (.aQ [qF 16 0 7,qL 17 16,qM 18 1,qB 19 .eql 17 18]) (.cond (.t 19) (.aQ [qM 20 5,qM 21 6,o 22 (.b6 1 [zi] [(0,1,.t 21)]),qA 23 1 8 20 22,qM 5 23]) .skip)))) (.aQ [qC 24 .add 11 1,qM 11 24]))))))) (.seq (.aQ [qM 25 5,qM 4 25]) .ret))))⟩
def Tq:ak:=⟨1,34,[.tmp 2],(.seq (.aQ [o 1 (.box (.t 0)),qY 2 false]) (.seq (.aQ [qG 6 3 1,qK 7 74 [6],o 3 (.alloc [.ay,.ay]),qO 2 3 7]) (.seq (.seq (.aQ [qF 8 1 1,qL 9 8,qN 10 9,qF 11 2 1,qL 12 11,qN 13 12,qB 14 .neq 10 13,qM 15 14,qGF 16 15 2 3,qKF 17 15 60 [16],qUF 18 15 17,qP 19 15 18]) (.cond (.t 19) (.seq (.aQ [qY 2 false]) .ret) .skip)) (.seq (.seq (.aQ [qF 20 1 1,qL 21 20,qN 22 21,qZ 23 0]) (.block 0 (.loop (.seq (.aQ [qB 24 .lss 23 22]) (.seq (.cond (.t 24) .skip (.exit 0)) (.seq (.block 1 (.seq (.aQ [qM 25 23,qI 26 3 21 23,qG 27 3 26,o 5 (.alloc [zi,.ay,.ay]),qM 4 25,qO 3 5 27]) (.seq (.aQ [qG 28 2 3,qM 29 4,qG 30 3 5,qK 31 75 [28,29,30],qU 32 31]) (.cond (.t 32) (.seq (.aQ [qY 2 false]) .ret) .skip)))) (.aQ [qC 33 .add 23 1,qM 23 33]))))))) (.seq (.aQ [qY 2 true]) .ret)))))⟩
def Tg:bh:=qs [o 2 (.mv (.c (.ay)))] (.seq (qs [qM 3 0,o 4 (.eq .slice false (.t 3) (.c (.ay)))] (.cond (.t 4) (qs [o 2 (.mv (.c (.ay)))] .ret) .skip)) (qs [o 5 (.b6 0 [] []),qM 6 0,qA 7 1 8 5 6,qM 2 7] .ret))
def SW:ak:=⟨1,8,[.tmp 2],Tg.code⟩
def Tf:bh:=qs [o 1 (.box (.t 0)),qY 2 false] (.seq (qs [qF 7 0 1,qL 8 7,qN 9 8,qC 10 .gtr 9 4,qM 11 10,qFF 12 11 1 1,qLF 13 11 12,qNF 14 11 13,oF 15 11 (.call 81 [.t 14,(i64 1),(i64 4)] .borrow),qUF 16 11 15,qP 17 11 16] (.cond (.t 17) (qs [qY 2 false] .ret) .skip)) (.seq (qs [qF 18 0 1,qL 19 18,qN 20 19,qZ 21 0] (.block 0 (.loop [.ob 1 [],.pt 1 1 0,.tr 19,.tr 20,.tr 21] (qs [qB 22 .lss 21 20] (.seq (.cond (.t 22) .skip (.exit 0)) (.seq (.block 1 (qs [qI 23 6 19 21,qG 24 6 23,o 4 (.alloc zL3),qO 6 4 24] (qs [qG 25 6 4,qF 26 1 1,qL 27 26,qN 28 27,qK 29 82 [25,28],qU 30 29] (.cond (.t 30) (qs [qY 2 false] .ret) .skip)))) (.aQ [qC 31 .add 21 1,qM 21 31]))))))) (.seq (qs [qF 32 1 1,qL 33 32,qN 34 33,qZ 35 0] (.block 2 (.loop [.ob 1 [],.pt 1 1 0,.tr 33,.tr 34,.tr 35] (qs [qB 36 .lss 35 34] (.seq (.cond (.t 36) .skip (.exit 2)) (.seq (.block 3 (qs [qM 37 35,qI 38 2 33 35,qG 39 2 38,o 6 (.alloc [zi,.ay]),qM 5 37,qO 2 6 39] (qs [qF 40 0 6,qL 41 40,o 42 (.call 81 [.t 41,(i64 0),(i64 6)] .borrow),qU 43 42,qM 44 43,qGF 45 44 2 1,qMF 46 44 5,qFF 47 44 0 6,qLF 48 44 47,oF 49 44 (.build [.ay,.ay,zi,zi] [(0,2,.t 45),(2,1,.t 46),(3,1,.t 48)]),qFF 50 44 1 6,qLF 51 44 50,qKF 52 44 83 [49,51],qUF 53 44 52,qP 54 44 53] (.cond (.t 54) (qs [qY 2 false] .ret) .skip)))) (.aQ [qC 55 .add 35 1,qM 35 55]))))))) (qs [qY 2 true] .ret))))
def SV:ak:=⟨1,56,[.tmp 2],Tf.code⟩
def Te:bh:=qs [o 2 (.mv (.c (.ay)))] (qs [o 3 (.mv (.c (.ay)))] (.seq (qs [qM 9 0,qN 10 9,qZ 11 0] (.block 0 (.loop [.sl 3 6,.tr 9,.tr 10,.tr 11] (qs [qB 12 .lss 11 10] (.seq (.cond (.t 12) .skip (.exit 0)) (.seq (.block 1 (qs [qI 13 6 9 11,qG 14 6 13,o 5 (.alloc zL3),qO 6 5 14] (qs [qF 15 5 5,qL 16 15,qM 6 16] (qs [qF 17 5 5,oN (.store 1 (.t 17) (.c (.ay)))] (.seq (qs [qM 18 6,qN 19 18,qZ 20 0] (.block 2 (.loop [.ob 5 [(5,1)],.sl 3 6,.pt 5 5 0,.tr 9,.tr 10,.tr 11,.tr 18,.tr 19,.tr 20] (qs [qB 21 .lss 20 19] (.seq (.cond (.t 21) .skip (.exit 2)) (.seq (.block 3 (qs [qI 22 1 18 20,qL 23 22,qM 8 23] (.cj [qF 24 5 5,qL 25 24,qM 26 8,qK 27 56 [26],oZ 28 (.b6 1 [.ay] [(0,1,.t 27)]),qA 29 1 24 25 28,qF 30 5 5,qO 1 30 29] [[],[0],[],[2],[2,3],(rg 5),(rg 6),(rg 7)] [(1,4)]))) (.aQ [qC 31 .add 20 1,qM 20 31]))))))) (.aQ [qM 32 3,qG 33 6 5,oZ 34 (.b6 1 zL3 [(0,6,.t 33)]),qA 35 6 64 32 34,qM 3 35])))))) (.aQ [qC 36 .add 11 1,qM 11 36]))))))) (qs [qM 37 3,qM 2 37] .ret)))
def SU:ak:=⟨1,38,[.tmp 2],Te.code⟩
def Td:bh:=.seq (qs [qM 11 1,qN 12 11,qC 13 .eql 12 0] (.cond (.t 13) (qs [qM 14 0,qM 15 2,qM 16 3,o 17 (.build zL1 [(0,1,.t 15),(1,1,.t 16)]),o 18 (.call 84 [.t 14,.t 17] .share)] .ret) .skip)) (.seq (qs [qM 19 1,qM 20 1,qN 21 20,qC 22 .sub 21 1,o 23 (.n_ 20 (.t 19) none (some (.t 22)) none),qN 24 23,qZ 25 0] (.block 0 (.loop [.ob 0 [(1,19),(2,1)],.pt 0 0 0,.tr 1,.tr 2,.tr 3,.tr 23,.tr 24,.tr 25] (qs [qB 26 .lss 25 24] (.seq (.cond (.t 26) .skip (.exit 0)) (.seq (.block 1 (qs [qI 27 20 23 25,qG 28 20 27,o 9 (.alloc zL0),qO 20 9 28] (qs [qM 29 0,o 30 (.call 85 [.t 29] .share),qM 10 30] (qs [qM 31 0,qG 32 20 9,qM 33 2,qM 34 10,o 35 (.call 86 [.t 31,.t 32,.t 33,.t 34] .share)] (.aQ [qM 36 10,qM 2 36]))))) (.aQ [qC 37 .add 25 1,qM 25 37]))))))) (.aQ [qM 38 0,qM 39 1,qM 40 1,qN 41 40,qC 42 .sub 41 1,qI 43 20 39 42,qG 44 20 43,qM 45 2,qM 46 3,o 47 (.call 86 [.t 38,.t 44,.t 45,.t 46] .share)]))
def SS:ak:=⟨4,48,[],Td.code⟩
def Tc:bh:=qs [qM 3 0,qN 4 3,qM 2 4] (.aQ [qM 5 0,qM 6 2,qM 7 2,o 8 (.conv .u64 (.t 7)),qK 9 88 [8],o 10 (.call 87 [.t 5,(i64 0),.t 6,.t 9] .share)])
def SR:ak:=⟨1,11,[],Tc.code⟩
def Tp:ak:=⟨1,25,[.cell 2 (some 2)],(.seq (.aQ [o 1 (.box (.t 0)),o 2 (.alloc [.ay,.ay])]) (.seq (.aQ [qF 6 0 1,qL 7 6,o 8 (.build [.ay,.ay] [(0,1,.t 7)]),o 3 (.alloc [.ay,.ay]),qO 2 3 8]) (.seq (.seq (.aQ [qF 9 2 1,qL 10 9,qN 11 10,qZ 12 0]) (.block 0 (.loop (.seq (.aQ [qB 13 .lss 12 11]) (.seq (.cond (.t 13) .skip (.exit 0)) (.seq (.block 1 (.seq (.aQ [qI 14 1 10 12,qL 15 14,qM 5 15]) (.aQ [qF 16 1 3,qL 17 16,qM 18 5,o 19 (.build [zi,.ay] [(0,1,.t 18)]),oZ 20 (.b6 1 [zi,.ay] [(0,2,.t 19)]),qA 21 2 32 17 20,qF 22 1 3,qO 1 22 21]))) (.aQ [qC 23 .add 12 1,qM 12 23]))))))) (.seq (.aQ [qG 24 2 3,qO 2 2 24]) .ret))))⟩
def Tn:ak:=⟨3,56,[.tmp 6],(.seq (.aQ [o 3 (.box (.t 0)),o 5 (.box (.t 2)),qY 6 false]) (.seq (.seq (.aQ [qF 10 0 5,qL 11 10,qC 12 .lss 11 2,qM 13 12,qFF 14 13 0 5,qLF 15 13 14,qCF 16 13 .gtr 15 802,qP 17 13 16,qM 18 17,qFF 19 18 1 5,qLF 20 18 19,qNF 21 18 20,qCF 22 18 .gtr 21 400,qP 23 18 22,qM 24 23,qGF 25 24 3 5,qKF 26 24 99 [25],qUF 27 24 26,qP 28 24 27]) (.cond (.t 28) (.seq (.aQ [qY 6 false]) .ret) .skip)) (.seq (.seq (.aQ [qF 29 1 5,qL 30 29,qN 31 30,qZ 32 0]) (.block 0 (.loop (.seq (.aQ [qB 33 .lss 32 31]) (.seq (.cond (.t 33) .skip (.exit 0)) (.seq (.block 1 (.seq (.aQ [qI 34 19 30 32,qG 35 19 34,o 8 (.alloc zL1),qO 19 8 35]) (.seq (.aQ [qG 36 2 3,qM 37 1,qG 38 3 5,qG 39 19 8,qK 40 100 [36,37,38,39],qU 41 40]) (.cond (.t 41) (.seq (.aQ [qY 6 false]) .ret) .skip)))) (.aQ [qC 42 .add 32 1,qM 32 42]))))))) (.seq (.seq (.aQ [qF 43 0 5,qL 44 43,qZ 45 0]) (.block 2 (.loop (.seq (.aQ [qB 46 .lss 45 44]) (.seq (.cond (.t 46) .skip (.exit 2)) (.seq (.block 3 (.seq (.aQ [qM 47 45,qM 9 47]) (.seq (.aQ [qG 48 3 5,qM 49 9,qK 50 101 [48,49],qU 51 50]) (.cond (.t 51) (.seq (.aQ [qY 6 false]) .ret) .skip)))) (.aQ [qC 52 .add 45 1,qM 45 52]))))))) (.seq (.aQ [qG 53 3 5,qK 54 102 [53],qU 55 54,qM 6 55]) .ret)))))⟩
def Tb:bh:=qs [qY 6 false] (qs [qM 7 0,qM 8 1,qB 9 .geq 7 8,qM 10 9,qMT 11 10 0,qMT 12 10 2,qBT 13 10 .leq 11 12,qQ 14 10 13,qM 6 14] .ret)
def SQ:ak:=⟨3,15,[.tmp 6],Tb.code⟩
def Ta:bh:=qs [o 2 (.box (.t 0)),qY 4 false] (qs [qF 6 0 2,qL 7 6,o 8 (.call 81 [.t 7,(i64 0),(i64 2)] .borrow),qM 9 8,qFT 10 9 1 2,qLT 11 9 10,oT 12 9 (.call 81 [.t 11,(i64 1),(i64 16)] .borrow),qQ 13 9 12,qM 14 13,qFT 15 14 4 2,qLT 16 14 15,oT 17 14 (.call 81 [.t 16,(i64 1),(i64 4)] .borrow),qQ 18 14 17,qM 5 18] (qs [qM 19 5,qM 20 19,qFT 21 20 2 2,qLT 22 20 21,qMT 23 20 1,qCT 24 20 .sub 23 1,oT 25 20 (.call 81 [.t 22,(i64 0),.t 24] .borrow),qQ 26 20 25,qM 27 26,qFT 28 27 3 2,qLT 29 27 28,qMT 30 27 1,qCT 31 27 .sub 30 1,oT 32 27 (.call 81 [.t 29,(i64 0),.t 31] .borrow),qQ 33 27 32,qM 34 33,qFT 35 34 2 2,qLT 36 34 35,qFT 37 34 3 2,qLT 38 34 37,qBT 39 34 .neq 36 38,qQ 40 34 39,qM 41 40,qGT 42 41 6 2,qKT 43 41 104 [42],qQ 44 41 43,qM 4 44] .ret))
def SP:ak:=⟨2,45,[.tmp 4],Ta.code⟩
def S_:bh:=qs [o 2 (.box (.t 0)),qY 4 false] (.seq (qs [qM 7 1,qN 8 7,qZ 9 0] (.block 0 (.loop [.ob 2 [],.pt 2 2 0,.tr 7,.tr 8,.tr 9] (qs [qB 10 .lss 9 8] (.seq (.cond (.t 10) .skip (.exit 0)) (.seq (.block 1 (qs [qI 11 20 7 9,qG 12 20 11,o 6 (.alloc zL0),qO 20 6 12] (qs [qG 13 4 2,qG 14 20 6,qK 15 105 [13,14],qU 16 15] (.cond (.t 16) (qs [qY 4 false] .ret) .skip)))) (.aQ [qC 17 .add 9 1,qM 9 17]))))))) (qs [qY 4 true] .ret))
def SO:ak:=⟨2,18,[.tmp 4],S_.code⟩
def S9:bh:=qs [o 3 (.box (.t 1))] (.cj [qM 4 0,qM 5 0,qX 6 5,qF 7 1 6,qL 8 7,qG 9 19 3,oZ 10 (.b6 1 zL1 [(0,19,.t 9)]),qA 11 19 200 8 10,qX 12 4,qF 13 1 12,qO 1 13 11] [[],[],[1],[1,2],[1,2,3],[],[5],[1,2,3,4,5,6],(rg 8),(rg 9),(rg 10)] [(4,6)])
def SN:ak:=⟨2,14,[],S9.code⟩
def S8:bh:=qs [qZ 2 0] (qs [qM 3 0,qX 4 3,qF 5 0 4,qL 6 5,qC 7 .add 6 1,qX 8 3,qF 9 0 8,qO 1 9 7] (qs [qM 10 0,qX 11 10,qF 12 0 11,qL 13 12,qC 14 .sub 13 1,qM 2 14] .ret))
def SM:ak:=⟨1,15,[.tmp 2],S8.code⟩
def S7:bh:=qs [o 5 (.box (.t 1))] (qs [qF 8 0 5,qL 9 8] (.block 0 (qs [qC 11 .eql 9 1,qM 10 11] (.cond (.t 10) (.cj [qM 12 0,qM 13 2,qM 14 3,qF 15 1 5,qL 16 15,qF 17 4 5,qG 18 4 17,qK 19 106 [18],o 20 (.build zL1 [(0,1,.t 13),(1,1,.t 14),(2,1,(i64 1)),(3,1,.t 16),(6,4,.t 19)]),o 21 (.call 84 [.t 12,.t 20] .share)] [[],[],[],[],[3],[],[5],[5,6],[1,2,3,4,5,6,7],(rg 9)] []) (qs [qC 23 .eql 9 4,qM 22 23] (.cond (.t 22) (.cj [qM 24 0,qM 25 2,qM 26 3,qF 27 2 5,qL 28 27,qF 29 3 5,qL 30 29,qF 31 4 5,qG 32 4 31,qK 33 106 [32],o 34 (.build zL1 [(0,1,.t 25),(1,1,.t 26),(2,1,(i64 3)),(4,1,.t 28),(5,1,.t 30),(6,4,.t 33)]),o 35 (.call 84 [.t 24,.t 34] .share)] [[],[],[],[],[3],[],[5],[],[7],[7,8],[1,2,3,4,5,6,7,8,9],(rg 11)] []) (qs [qC 37 .eql 9 6,qM 36 37] (.cond (.t 36) (.aQ [qM 38 0,qM 39 2,qM 40 3,qF 41 8 5,qG 42 9 41,qK 43 107 [42],o 44 (.build zL1 [(0,1,.t 39),(1,1,.t 40),(2,1,(i64 5)),(10,9,.t 43)]),o 45 (.call 84 [.t 38,.t 44] .share)]) (qs [qC 47 .eql 9 7,qM 46 47] (.cond (.t 46) (.aQ [qM 48 0,qM 49 2,qM 50 3,qF 51 1 5,qL 52 51,o 53 (.build zL1 [(0,1,.t 49),(1,1,.t 50),(2,1,(i64 6)),(3,1,.t 52)]),o 54 (.call 84 [.t 48,.t 53] .share)]) (qs [qC 56 .eql 9 2,qM 55 56] (.cond (.t 55) (.seq (.cj [qM 57 0,qF 58 8 5,qG 59 9 58,qK 60 107 [59],qF 61 17 5,qL 62 61,qM 63 2,qM 64 3,o 65 (.call 108 [.t 57,.t 60,.t 62,.t 63,.t 64] .share)] [[],[],[1],[1,2],[],[4],[],[],(rg 8)] []) (.cj [qM 66 0,qF 67 8 5,qG 68 9 67,qK 69 109 [68],qF 70 18 5,qL 71 70,qM 72 2,qM 73 3,o 74 (.call 108 [.t 66,.t 69,.t 71,.t 72,.t 73] .share)] [[],[],[1],[1,2],[],[4],[],[],(rg 8)] [])) (qs [qC 76 .eql 9 3,qM 75 76] (.cond (.t 75) (.aQ [qM 77 0,qG 78 20 5,qM 79 2,qM 80 3,o 81 (.call 110 [.t 77,.t 78,.t 79,.t 80] .share)]) (qs [qC 83 .eql 9 5,qM 82 83] (.cond (.t 82) (.aQ [qM 84 0,qG 85 20 5,qM 86 2,qM 87 3,o 88 (.call 111 [.t 84,.t 85,.t 86,.t 87] .share)]) .skip))))))))))))))))
def SL:ak:=⟨4,89,[],S7.code⟩
def S6:bh:=qs [qY 8 true] (qs [qY 9 true] (.block 0 (.loop [.sl 0 1,.tr 1,.tr 2,.tr 3,.tr 8,.tr 9] (.block 1 (qs [qM 19 2,qM 20 1,qB 21 .sub 19 20,qM 10 21] (.seq (qs [qM 22 10,qC 23 .leq 22 12] (.cond (.t 23) (qs [qM 24 0,qM 25 1,qM 26 2,o 27 (.call 112 [.t 24,.t 25,.t 26] .share)] .ret) .skip)) (.seq (qs [qM 28 3,qC 29 .eql 28 0] (.cond (.t 29) (qs [qM 30 0,qM 31 1,qM 32 2,o 33 (.call 113 [.t 30,.t 31,.t 32] .share)] .ret) .skip)) (.seq (qs [qM 34 8,qU 35 34] (.cond (.t 35) (qs [qM 36 0,qM 37 1,qM 38 2,o 39 (.call 114 [.t 36,.t 37,.t 38] .share)] (.aQ [qM 40 3,qC 41 .sub 40 1,qM 3 41])) .skip)) (qs [qM 43 0,qM 44 1,qM 45 2,o 46 (.call 115 [.t 43,.t 44,.t 45] .share),qM 42 46,qE 47 0 42,qE 48 1 42,qM 11 47,qM 12 48] (.seq (qs [qM 49 12,qC 50 .eql 49 2] (.cond (.t 50) (qs [qM 51 0,qM 52 1,qM 53 2,o 54 (.call 116 [.t 51,.t 52,.t 53] .share)] (qs [qM 55 2,qC 56 .sub 55 1,qM 57 11,qM 58 1,qB 59 .sub 57 58,qB 60 .sub 56 59,qM 11 60] (.aQ [qZ 12 1]))) .skip)) (.seq (qs [qM 61 8,qM 62 61,qMT 63 62 9,qQ 64 62 63,qM 65 64,qMT 66 65 12,qCT 67 65 .eql 66 1,qQ 68 65 67] (.cond (.t 68) (qs [qM 69 0,qM 70 1,qM 71 2,o 72 (.call 117 [.t 69,.t 70,.t 71] .share)] (.cond (.t 72) .ret .skip)) .skip)) (.seq (.seq (.cj [qM 73 1,qC 74 .gtr 73 0,qM 75 74,qMT 76 75 0,qMT 77 75 1,qCT 78 75 .sub 77 1,qIT 79 75 1 76 78,qLT 80 75 79,qMT 81 75 0,qMT 82 75 11,qIT 83 75 1 81 82,qLT 84 75 83,qKT 85 75 118 [80,84],qUT 86 75 85,qQ 87 75 86] [[],[0],[0,1],[0,1,2],[0,1,2],[0,1,2,4],(rg 6),(rg 7),[0,1,2],[0,1,2],[0,1,2,8,9],[0,1,2,8,9,10],(rg 12),(rg 13),(rg 14)] []) (.cond (.t 87) (qs [qM 88 0,qM 89 1,qM 90 2,qM 91 11,o 92 (.call 119 [.t 88,.t 89,.t 90,.t 91] .share),qM 13 92] (qs [qM 93 13,qM 1 93] (.exit 1))) .skip)) (qs [qM 95 0,qM 96 1,qM 97 2,qM 98 11,o 99 (.call 120 [.t 95,.t 96,.t 97,.t 98] .share),qM 94 99,qE 100 0 94,qE 101 1 94,qM 14 100,qM 15 101] (qs [qM 102 15,qM 9 102] (qs [qM 103 14,qM 104 1,qB 105 .sub 103 104,qM 106 2,qM 107 14,qB 108 .sub 106 107,qM 16 105,qM 17 108] (qs [qM 109 10,qC 110 .quo 109 8,qM 18 110] (qs [qM 111 16,qM 112 17,qB 113 .lss 111 112] (.cond (.t 113) (qs [qM 114 16,qM 115 18,qB 116 .geq 114 115,qM 8 116] (qs [qM 117 0,qM 118 1,qM 119 14,qM 120 3,o 121 (.call 87 [.t 117,.t 118,.t 119,.t 120] .share)] (.aQ [qM 122 14,qC 123 .add 122 1,qM 1 123]))) (qs [qM 124 17,qM 125 18,qB 126 .geq 124 125,qM 8 126] (qs [qM 127 0,qM 128 14,qC 129 .add 128 1,qM 130 2,qM 131 3,o 132 (.call 87 [.t 127,.t 129,.t 130,.t 131] .share)] (.aQ [qM 133 14,qM 2 133])))))))))))))))))))))
def SK:ak:=⟨4,134,[],S6.code⟩
def S5:bh:=qs [qZ 2 0] (.seq (.cond (.c (.bool false)) (qs [qM 3 0,o 4 (.conv .u32 (.t 3)),qK 5 121 [4],qM 2 5] .ret) .skip) (qs [qM 6 0,qK 7 122 [6],qM 2 7] .ret))
def SJ:ak:=⟨1,8,[.tmp 2],S5.code⟩
def Tm:ak:=⟨1,36,[.tmp 2],(.seq (.aQ [o 1 (.box (.t 0)),qY 2 false]) (.seq (.seq (.aQ [qF 5 2 1,qL 6 5,qN 7 6,qZ 8 0]) (.block 0 (.loop (.seq (.aQ [qB 9 .lss 8 7]) (.seq (.cond (.t 9) .skip (.exit 0)) (.seq (.block 1 (.seq (.aQ [qM 10 8,qI 11 1 6 8,qL 12 11,qM 3 10,qM 4 12]) (.seq (.aQ [qM 13 4,qC 14 .lss 13 0,qM 15 14,qMF 16 15 4,qFF 17 15 0 1,qLF 18 15 17,qBF 19 15 .geq 16 18,qP 20 15 19,qM 21 20,qMF 22 21 3,qCF 23 21 .gtr 22 0,qMF 24 21 23,qFT 25 24 2 1,qLT 26 24 25,qMT 27 24 3,qCT 28 24 .sub 27 1,qIT 29 24 1 26 28,qLT 30 24 29,qMT 31 24 4,qBT 32 24 .geq 30 31,qQF 33 21 24 32,qP 34 21 33]) (.cond (.t 34) (.seq (.aQ [qY 2 false]) .ret) .skip)))) (.aQ [qC 35 .add 8 1,qM 8 35]))))))) (.seq (.aQ [qY 2 true]) .ret)))⟩
def PW:ak:=⟨4,67,[.tmp 8],(.seq (.aQ [o 4 (.box (.t 0)),o 6 (.box (.t 2)),o 7 (.box (.t 3)),qY 8 false]) (.seq (.seq (.aQ [qF 12 0 7,qL 13 12,qC 14 .lss 13 0,qM 15 14,qFF 16 15 0 7,qLF 17 15 16,qFF 18 15 0 6,qLF 19 15 18,qBF 20 15 .geq 17 19,qP 21 15 20,qM 22 21,qFF 23 22 1 7,qLF 24 22 23,qCF 25 22 .lss 24 0,qP 26 22 25,qM 27 26,qFF 28 27 1 7,qLF 29 27 28,qFF 30 27 0 6,qLF 31 27 30,qBF 32 27 .geq 29 31,qP 33 27 32]) (.cond (.t 33) (.seq (.aQ [qY 8 false]) .ret) .skip)) (.seq (.aQ [qG 35 19 7,qK 36 136 [35],qM 34 36,qE 37 0 34,qE 38 1 34,qM 9 37,qM 10 38]) (.seq (.seq (.aQ [qM 39 10,qU 40 39]) (.cond (.t 40) (.seq (.aQ [qY 8 false]) .ret) .skip)) (.seq (.aQ [qF 41 1 4,qL 42 41,o 43 (.call 137 [.t 42] .share),qM 11 43]) (.seq (.aQ [qM 44 11,qM 45 1,qM 46 9,qI 47 2 44 45,qF 48 1 47,qO 1 48 46]) (.seq (.seq (.aQ [qF 49 2 7,qL 50 49,qC 51 .eql 50 0]) (.cond (.t 51) (.aQ [qM 52 11,qM 53 1,qM 54 11,qM 55 1,qI 56 2 54 55,qF 57 0 56,qL 58 57,o 59 (.DR true [.t 58,(i64 1)]),qI 60 2 52 53,qF 61 0 60,qO 1 61 59]) .skip)) (.seq (.aQ [qF 62 0 4,qL 63 62,qM 64 11,o 65 (.build [.ay,.ay] [(0,1,.t 63),(1,1,.t 64)]),qK 66 60 [65],qM 8 66]) .ret))))))))⟩
def PV:ak:=⟨2,63,[.tmp 4],(.seq (.aQ [o 2 (.box (.t 0)),qY 4 false]) (.seq (.aQ [o 5 (.mv (.c (.ay)))]) (.seq (.seq (.aQ [qG 8 3 2,qM 9 1,qK 10 50 [8,9],qN 11 10,qZ 12 0]) (.block 0 (.loop (.seq (.aQ [qB 13 .lss 12 11]) (.seq (.cond (.t 13) .skip (.exit 0)) (.seq (.block 1 (.seq (.aQ [qI 14 1 10 12,qL 15 14,qM 7 15]) (.aQ [qM 16 5,qF 17 1 2,qL 18 17,qM 19 7,qI 20 19 18 19,qG 21 19 20,oZ 22 (.b6 1 zL1 [(0,19,.t 21)]),qA 23 19 200 16 22,qM 5 23]))) (.aQ [qC 24 .add 12 1,qM 12 24]))))))) (.seq (.block 2 (.seq (.aQ [qM 26 5,qN 27 26,qC 28 .eql 27 0,qM 25 28]) (.cond (.t 25) (.seq (.aQ [qM 29 1,qC 30 .eql 29 1,qM 4 30]) .ret) (.seq (.aQ [qM 32 1,qC 33 .eql 32 1,qM 31 33]) (.cond (.t 31) (.seq (.aQ [qY 4 false]) .ret) (.seq (.aQ [qM 35 5,o 36 (.dP 19 (.t 35) (i64 0)),qF 37 2 36,qL 38 37,qC 39 .eql 38 4,qM 34 39]) (.cond (.t 34) (.seq (.aQ [qM 40 5,qK 41 138 [40],qM 4 41]) .ret) (.seq (.aQ [qM 43 5,o 44 (.dP 19 (.t 43) (i64 0)),qF 45 2 44,qL 46 45,qC 47 .eql 46 2,qM 42 47]) (.cond (.t 42) (.seq (.cj [qM 48 5,qN 49 48,qC 50 .eql 49 2,qM 51 50,qMT 52 51 5,oT 53 51 (.dP 19 (.t 52) (i64 0)),qGT 54 51 19 53,qMT 55 51 5,oT 56 51 (.dP 19 (.t 55) (i64 1)),qGT 57 51 19 56,qKT 58 51 139 [54,57],qQ 59 51 58,qM 4 59] [[],[0],[0,1],[0,1,2],(rg 4),(rg 5),(rg 6),(rg 4),[0,1,2,3,7],[0,1,2,3,7,8],(rg 10),(rg 11),(rg 12)] []) .ret) .skip))))))))) (.seq (.aQ [qM 60 5,qN 61 60,qC 62 .eql 61 1,qM 4 62]) .ret)))))⟩
def PU:ak:=⟨1,100,[.tmp 2],(.seq (.aQ [o 1 (.box (.t 0)),qY 2 false]) (.seq (.aQ [qF 14 0 1,qL 15 14,o 16 (.vg 1 8 [zi] (.t 15)),qM 3 16]) (.seq (.seq (.aQ [qF 17 1 1,qL 18 17,qN 19 18,qZ 20 0]) (.block 0 (.loop (.seq (.aQ [qB 21 .lss 20 19]) (.seq (.cond (.t 21) .skip (.exit 0)) (.seq (.block 1 (.seq (.aQ [qI 22 19 18 20,qG 23 19 22,o 5 (.alloc zL1),qO 19 5 23]) (.seq (.aQ [qF 24 2 1,qL 25 24,qF 26 0 5,qL 27 26,qK 28 140 [25,27],qU 29 28]) (.cond (.t 29) (.aQ [qM 30 3,qF 31 1 5,qL 32 31,qI 33 1 30 32,qL 34 33,qC 35 .add 34 1,qI 36 1 30 32,qO 1 36 35]) .skip)))) (.aQ [qC 37 .add 20 1,qM 20 37]))))))) (.seq (.aQ [o 6 (.mv (.c (.ay)))]) (.seq (.aQ [qZ 7 0]) (.seq (.seq (.aQ [qM 38 3,qN 39 38,qZ 40 0]) (.block 2 (.loop (.seq (.aQ [qB 41 .lss 40 39]) (.seq (.cond (.t 41) .skip (.exit 2)) (.seq (.block 3 (.seq (.aQ [qM 42 40,qI 43 1 38 40,qL 44 43,qM 8 42,qM 9 44]) (.seq (.aQ [qM 45 9,qC 46 .eql 45 0]) (.cond (.t 46) (.aQ [qM 47 6,qM 48 8,o 49 (.b6 1 [zi] [(0,1,.t 48)]),qA 50 1 8 47 49,qM 6 50]) .skip)))) (.aQ [qC 51 .add 40 1,qM 40 51]))))))) (.seq (.block 4 (.loop (.seq (.seq (.aQ [qM 52 6,qN 53 52,qC 54 .gtr 53 0]) (.cond (.t 54) .skip (.exit 4))) (.block 5 (.seq (.aQ [qM 55 6,o 56 (.dP 1 (.t 55) (i64 0)),qL 57 56,qM 10 57]) (.seq (.aQ [qM 58 6,o 59 (.n_ 1 (.t 58) (some (i64 1)) none none),qM 6 59]) (.seq (.aQ [qM 60 7,qC 61 .add 60 1,qM 7 61]) (.seq (.seq (.aQ [qF 62 2 1,qL 63 62,qM 64 10,qK 65 140 [63,64]]) (.cond (.t 65) (.exit 5) .skip)) (.seq (.aQ [qG 66 3 1,qM 67 10,qK 68 50 [66,67],qN 69 68,qZ 70 0]) (.block 6 (.loop (.seq (.aQ [qB 71 .lss 70 69]) (.seq (.cond (.t 71) .skip (.exit 6)) (.seq (.block 7 (.seq (.aQ [qI 72 1 68 70,qL 73 72,qM 12 73]) (.seq (.aQ [qF 74 1 1,qL 75 74,qM 76 12,qI 77 19 75 76,qF 78 1 77,qL 79 78,qM 13 79]) (.seq (.aQ [qM 80 3,qM 81 13,qI 82 1 80 81,qL 83 82,qC 84 .sub 83 1,qI 85 1 80 81,qO 1 85 84]) (.seq (.aQ [qM 86 3,qM 87 13,qI 88 1 86 87,qL 89 88,qC 90 .eql 89 0]) (.cond (.t 90) (.aQ [qM 91 6,qM 92 13,o 93 (.b6 1 [zi] [(0,1,.t 92)]),qA 94 1 8 91 93,qM 6 94]) .skip)))))) (.aQ [qC 95 .add 70 1,qM 70 95]))))))))))))))) (.seq (.aQ [qM 96 7,qF 97 0 1,qL 98 97,qB 99 .lss 96 98,qM 2 99]) .ret))))))))⟩
def N1:bh:=qs [o 1 (.box (.t 0)),qY 2 false] (qs [qZ 3 0] (.seq (qs [qF 8 5 1,qL 9 8,qN 10 9,qZ 11 0] (.block 0 (.loop [.ob 1 [],.pt 1 1 0,.tr 3,.tr 9,.tr 10,.tr 11] (qs [qB 12 .lss 11 10] (.seq (.cond (.t 12) .skip (.exit 0)) (.seq (.block 1 (qs [qM 13 11,qI 14 1 9 11,qL 15 14,qM 4 13,qM 5 15] (.seq (qs [qM 16 5,qN 17 16,qF 18 4 1,qL 19 18,qB 20 .neq 17 19] (.cond (.t 20) (qs [qY 2 false] .ret) .skip)) (qs [qM 21 5,qN 22 21,qZ 23 0] (.block 2 (.loop [.ob 1 [],.pt 1 1 0,.tr 3,.tr 4,.tr 9,.tr 10,.tr 11,.tr 21,.tr 22,.tr 23] (qs [qB 24 .lss 23 22] (.seq (.cond (.t 24) .skip (.exit 2)) (.seq (.block 3 (qs [qI 25 1 21 23,qL 26 25,qM 7 26] (.seq (qs [qM 27 7,qF 28 5 1,qL 29 28,qN 30 29,qC 31 .sub 30 1,o 32 (.call 81 [.t 27,(i64 (-1)),.t 31] .borrow),qU 33 32] (.cond (.t 33) (qs [qY 2 false] .ret) .skip)) (qs [qM 34 7,o 35 (.bin .neq (.t 34) (i64 (-1)))] (.cond (.t 35) (.aQ [qM 36 3,qM 37 4,qM 38 7,o 39 (.DR true [.t 36,.t 37,.t 38]),qM 3 39]) .skip))))) (.aQ [qC 40 .add 23 1,qM 23 40])))))))))) (.aQ [qC 41 .add 11 1,qM 11 41]))))))) (qs [qF 42 5 1,qL 43 42,qN 44 43,qC 45 .eql 44 0,qM 46 45,qMF 47 46 3,qFF 48 46 5 1,qLF 49 46 48,qNF 50 46 49,qCF 51 46 .sub 50 1,qBF 52 46 .eql 47 51,qMF 53 46 52,qFT 54 53 5 1,qLT 55 53 54,qNT 56 53 55,qCT 57 53 .leq 56 8,qQF 58 46 53 57,qP 59 46 58,qM 2 59] .ret)))
def MV:ak:=⟨1,60,[.tmp 2],N1.code⟩
def N0:bh:=qs [o 2 (.box (.t 0)),o 3 (.box (.t 1)),qY 4 false] (.seq (.cj [qF 12 4 3,qG 13 4 12,qK 14 141 [13],qF 15 8 3,qG 16 9 15,qK 17 142 [16],qM 5 14,qM 6 17] [[],[0],[0,1],[],[3],(rg 5),(rg 6),(rg 7)] []) (.seq (.cj [qF 18 17 3,qL 19 18,qN 20 19,qC 21 .eql 20 0,qF 22 19 3,qL 23 22,qN 24 23,qC 25 .eql 24 0,qM 7 21,qM 8 25] [[],[0],[0,1],[0,1,2],[],[4],[4,5],[4,5,6],(rg 4),(rg 9)] []) (.seq (.cj [qF 26 18 3,qL 27 26,qN 28 27,qC 29 .eql 28 0,qF 30 1 3,qL 31 30,qC 32 .eql 31 0,qM 9 29,qM 10 32] [[],[0],[0,1],[0,1,2],[],[4],[4,5],(rg 4),(rg 8)] []) (qs [qF 33 2 3,qL 34 33,qC 35 .eql 34 0,qM 36 35,qFT 37 36 3 3,qLT 38 36 37,qCT 39 36 .eql 38 0,qQ 40 36 39,qM 11 40] (.seq (qs [qF 41 0 3,qL 42 41] (.block 0 (qs [qC 44 .eql 42 1,qM 43 44] (.cond (.t 43) (qs [qM 45 6,qM 46 45,qMT 47 46 7,qQ 48 46 47,qM 49 48,qMT 50 49 9,qQ 51 49 50,qM 52 51,qMT 53 52 8,qQ 54 52 53,qM 55 54,qMT 56 55 11,qQ 57 55 56,qM 58 57,qFT 59 58 1 3,qLT 60 58 59,qFT 61 58 3 2,qLT 62 58 61,qCT 63 58 .sub 62 1,oT 64 58 (.call 81 [.t 60,(i64 0),.t 63] .borrow),qQ 65 58 64,qM 66 65,qFT 67 66 4 3,qGT 68 66 4 67,qFT 69 66 3 2,qLT 70 66 69,qKT 71 66 143 [68,70],qQ 72 66 71,qM 4 72] .ret) (qs [qC 74 .eql 42 7,qM 73 74] (.cond (.t 73) (qs [qM 75 5,qM 76 75,qMT 77 76 6,qQ 78 76 77,qM 79 78,qMT 80 79 7,qQ 81 79 80,qM 82 81,qMT 83 82 9,qQ 84 82 83,qM 85 84,qMT 86 85 8,qQ 87 85 86,qM 88 87,qMT 89 88 11,qQ 90 88 89,qM 91 90,qFT 92 91 1 3,qLT 93 91 92,qFT 94 91 3 2,qLT 95 91 94,qCT 96 91 .sub 95 1,oT 97 91 (.call 81 [.t 93,(i64 0),.t 96] .borrow),qQ 98 91 97,qM 4 98] .ret) (qs [qC 100 .eql 42 6,qM 99 100] (.cond (.t 99) (qs [qM 101 5,qM 102 101,qMT 103 102 7,qQ 104 102 103,qM 105 104,qMT 106 105 9,qQ 107 105 106,qM 108 107,qMT 109 108 8,qQ 110 108 109,qM 111 110,qMT 112 111 11,qQ 113 111 112,qM 114 113,qMT 115 114 10,qQ 116 114 115,qM 117 116,qFT 118 117 8 3,qGT 119 117 9 118,qFT 120 117 3 2,qLT 121 117 120,qKT 122 117 144 [119,121],qQ 123 117 122,qM 4 123] .ret) (qs [qC 125 .eql 42 3,qM 124 125] (.cond (.t 124) (qs [qM 126 5,qM 127 126,qMT 128 127 9,qQ 129 127 128,qM 130 129,qMT 131 130 8,qQ 132 130 131,qM 133 132,qMT 134 133 11,qQ 135 133 134,qM 136 135,qMT 137 136 10,qQ 138 136 137,qM 139 138,qFT 140 139 8 3,qGT 141 139 9 140,qFT 142 139 3 2,qLT 143 139 142,qKT 144 139 144 [141,143],qQ 145 139 144,qM 146 145,qGT 147 146 4 2,qFT 148 146 17 3,qLT 149 146 148,qKT 150 146 83 [147,149],qQ 151 146 150,qM 4 151] .ret) (qs [qC 153 .eql 42 2,qM 152 153] (.cond (.t 152) (qs [qM 154 5,qM 155 154,qMT 156 155 8,qQ 157 155 156,qM 158 157,qMT 159 158 11,qQ 160 158 159,qM 161 160,qMT 162 161 10,qQ 163 161 162,qM 164 163,qFT 165 164 8 3,qGT 166 164 9 165,qFT 167 164 3 2,qLT 168 164 167,qKT 169 164 144 [166,168],qQ 170 164 169,qM 171 170,qGT 172 171 4 2,qFT 173 171 17 3,qLT 174 171 173,qKT 175 171 83 [172,174],qQ 176 171 175,qM 177 176,qGT 178 177 4 2,qFT 179 177 18 3,qLT 180 177 179,qKT 181 177 83 [178,180],qQ 182 177 181,qM 4 182] .ret) (qs [qC 184 .eql 42 4,qM 183 184] (.cond (.t 183) (qs [qM 185 6,qM 186 185,qMT 187 186 7,qQ 188 186 187,qM 189 188,qMT 190 189 9,qQ 191 189 190,qM 192 191,qMT 193 192 8,qQ 194 192 193,qM 195 194,qMT 196 195 10,qQ 197 195 196,qM 198 197,qGT 199 198 4 2,qFT 200 198 2 3,qLT 201 198 200,oT 202 198 (.call 145 [.t 199,.t 201,(.c (.func 146))] .borrow),qQ 203 198 202,qM 204 203,qGT 205 204 4 2,qFT 206 204 2 3,qLT 207 204 206,qFT 208 204 3 3,qLT 209 204 208,qKT 210 204 147 [205,207,209],qQ 211 204 210,qM 212 211,qFT 213 212 4 3,qGT 214 212 4 213,qFT 215 212 3 2,qLT 216 212 215,qKT 217 212 143 [214,216],qQ 218 212 217,qM 4 218] .ret) (qs [qC 220 .eql 42 5,qM 219 220] (.cond (.t 219) (qs [qM 221 5,qM 222 221,qMT 223 222 6,qQ 224 222 223,qM 225 224,qMT 226 225 7,qQ 227 225 226,qM 228 227,qMT 229 228 9,qQ 230 228 229,qM 231 230,qMT 232 231 10,qQ 233 231 232,qM 234 233,qFT 235 234 3 3,qLT 236 234 235,qCT 237 234 .eql 236 0,qQ 238 234 237,qM 239 238,qGT 240 239 4 2,qFT 241 239 2 3,qLT 242 239 241,oT 243 239 (.call 145 [.t 240,.t 242,(.c (.func 148))] .borrow),qQ 244 239 243,qM 245 244,qGT 246 245 4 2,qFT 247 245 2 3,qLT 248 245 247,qFT 249 245 19 3,qLT 250 245 249,qKT 251 245 149 [246,248,250],qQ 252 245 251,qM 4 252] .ret) .skip)))))))))))))))) (qs [qY 4 false] .ret))))))
def MU:ak:=⟨2,253,[.tmp 4],N0.code⟩
def NZ:bh:=qs [o 1 (.box (.t 0)),o 2 (.alloc [zi,zi,zi,.ay])] (qs [qF 6 3 1,qL 7 6,qM 3 7] (qs [qF 8 3 1,oN (.store 1 (.t 8) (.c (.ay)))] (.seq (qs [qM 9 3,qN 10 9,qZ 11 0] (.block 0 (.loop [.ob 1 [(3,4)],.ob 2 [(3,4)],.pt 1 1 0,.pt 2 2 0,.tr 9,.tr 10,.tr 11] (qs [qB 12 .lss 11 10] (.seq (.cond (.t 12) .skip (.exit 0)) (.seq (.block 1 (qs [qI 13 4 9 11,qG 14 4 13,o 5 (.alloc [zi,zi,zi,.ay]),qO 4 5 14] (.cj [qF 15 3 1,qL 16 15,qG 17 4 5,qK 18 106 [17],oZ 19 (.b6 1 [zi,zi,zi,.ay] [(0,4,.t 18)]),qA 20 4 48 16 19,qF 21 3 1,qO 1 21 20] [[],[0],[],[2],[2,3],(rg 5),(rg 6),(rg 7)] [(1,4)]))) (.aQ [qC 22 .add 11 1,qM 11 22]))))))) (qs [qG 23 4 1,qO 4 2 23] .ret))))
def MT:ak:=⟨1,24,[.cell 2 (some 4)],NZ.code⟩
def NY:bh:=qs [o 1 (.box (.t 0)),o 2 (.alloc zL2)] (.seq (.cj [qF 3 0 1,qL 4 3,qF 5 1 1,qG 6 4 5,qK 7 106 [6],qF 8 5 1,qG 9 4 8,qK 10 106 [9],o 11 (.build zL2 [(0,1,.t 4),(1,4,.t 7),(5,4,.t 10)]),qO 9 2 11] [[],[0],[],[2],[2,3],[],[5],[2,3,4,5,6],(rg 8),(rg 9)] []) .ret)
def MS:ak:=⟨1,12,[.cell 2 (some 9)],NY.code⟩
def NX:bh:=qs [o 6 (.box (.t 1))] (qs [qM 11 0,o 12 (.call 85 [.t 11] .share),qM 10 12] (qs [qM 13 0,qM 14 3,qM 15 10,qG 16 9 6,o 17 (.build zL1 [(0,1,.t 14),(1,1,.t 15),(2,1,(i64 2)),(10,9,.t 16)]),o 18 (.call 84 [.t 13,.t 17] .share)] (.aQ [qM 19 0,qM 20 2,qM 21 10,qM 22 4,o 23 (.call 62 [.t 19,.t 20,.t 21,.t 22] .share)])))
def MR:ak:=⟨5,24,[],NX.code⟩
def NW:bh:=qs [o 1 (.box (.t 0)),o 2 (.alloc zL2)] (qs [qG 4 9 1,qK 5 107 [4],o 3 (.alloc zL2),qO 9 3 5] (qs [qF 6 0 1,qL 7 6,qK 8 41 [7],qF 9 0 3,qO 1 9 8] (qs [qG 10 9 3,qO 9 2 10] .ret)))
def MQ:ak:=⟨1,11,[.cell 2 (some 9)],NW.code⟩
def NV:bh:=qs [o 5 (.box (.t 1))] (qs [qM 9 0,qM 10 0,qX 11 10,qF 12 2 11,qL 13 12,qM 14 2,o 15 (.b6 1 [zi] [(0,1,.t 14)]),qA 16 1 8 13 15,qX 17 9,qF 18 2 17,qO 1 18 16] (qs [qM 19 0,o 20 (.call 85 [.t 19] .share),qM 8 20] (qs [qM 21 0,qM 22 2,qM 23 8,qF 24 8 5,qG 25 9 24,qK 26 107 [25],o 27 (.build zL1 [(0,1,.t 22),(1,1,.t 23),(2,1,(i64 2)),(10,9,.t 26)]),o 28 (.call 84 [.t 21,.t 27] .share)] (qs [qM 29 0,qM 30 2,qM 31 3,qF 32 8 5,qG 33 9 32,qK 34 109 [33],o 35 (.build zL1 [(0,1,.t 30),(1,1,.t 31),(2,1,(i64 2)),(10,9,.t 34)]),o 36 (.call 84 [.t 29,.t 35] .share)] (.aQ [qM 37 0,qF 38 17 5,qL 39 38,qM 40 8,qM 41 2,o 42 (.call 62 [.t 37,.t 39,.t 40,.t 41] .share)])))))
def MP:ak:=⟨4,43,[],NV.code⟩
def NU:bh:=qs [o 5 (.box (.t 1))] (qs [qF 11 19 5,qL 12 11,qN 13 12,qZ 14 0] (.block 0 (.loop [.ob 0 [(1,19),(2,1)],.ob 5 [],.pt 0 0 0,.tr 2,.tr 3,.pt 5 5 0,.tr 12,.tr 13,.tr 14] (qs [qB 15 .lss 14 13] (.seq (.cond (.t 15) .skip (.exit 0)) (.seq (.block 1 (qs [qI 16 3 12 14,qG 17 3 16,o 9 (.alloc [zi,zi,.ay]),qO 3 9 17] (qs [qM 18 0,o 19 (.call 85 [.t 18] .share),qM 10 19] (qs [qM 20 0,qM 21 2,qM 22 10,qF 23 2 5,qL 24 23,qF 25 0 9,qL 26 25,qF 27 1 9,qL 28 27,o 29 (.build zL1 [(0,1,.t 21),(1,1,.t 22),(2,1,(i64 4)),(4,1,.t 24),(5,1,.t 26),(3,1,.t 28)]),o 30 (.call 84 [.t 20,.t 29] .share)] (.aQ [qM 31 0,qF 32 2 9,qL 33 32,qM 34 10,qM 35 3,o 36 (.call 62 [.t 31,.t 33,.t 34,.t 35] .share)]))))) (.aQ [qC 37 .add 14 1,qM 14 37])))))))
def MO:ak:=⟨4,38,[],NU.code⟩
def NT:bh:=qs [qM 8 1,qC 9 .add 8 1,qM 6 9] (.block 0 (.loop [.sl 0 1,.tr 1,.tr 2,.tr 6] (.seq (qs [qM 10 6,qM 11 2,qB 12 .lss 10 11] (.cond (.t 12) .skip (.exit 0))) (.seq (.block 1 (qs [qM 15 6,qM 7 15] (.block 2 (.loop [.sl 0 1,.tr 1,.tr 2,.tr 6,.tr 7] (.seq (.seq (.cj [qM 16 7,qM 17 1,qB 18 .gtr 16 17,qM 19 18,qMT 20 19 0,qMT 21 19 7,qIT 22 19 1 20 21,qLT 23 19 22,qMT 24 19 0,qMT 25 19 7,qCT 26 19 .sub 25 1,qIT 27 19 1 24 26,qLT 28 19 27,qKT 29 19 118 [23,28],qQ 30 19 29] [[],[],[0,1],[0,1,2],(rg 4),(rg 4),(rg 6),(rg 7),(rg 4),(rg 4),[0,1,2,3,9],[0,1,2,3,8,9,10],[0,1,2,3,8,9,10,11],(rg 13),(rg 14)] []) (.cond (.t 30) .skip (.exit 2))) (.seq (.block 3 (.cj [qM 33 0,qM 34 7,qM 35 0,qM 36 7,qC 37 .sub 36 1,qM 38 0,qM 39 7,qC 40 .sub 39 1,qI 41 1 38 40,qL 42 41,qM 43 0,qM 44 7,qI 45 1 43 44,qL 46 45,qI 47 1 33 34,qO 1 47 42,qI 48 1 35 37,qO 1 48 46] [[],[],[],[],[3],[],[],[6],[5,6,7],[5,6,7,8],[],[],[10,11],[10,11,12],[0,1,5,6,7,8,9,10,11,12,13],[0,1,5,6,7,8,9,10,11,12,13,14],(rg 16),(rg 17)] [])) (.aQ [qM 31 7,qC 32 .sub 31 1,qM 7 32]))))))) (.aQ [qM 13 6,qC 14 .add 13 1,qM 6 14])))))
def MN:ak:=⟨3,49,[],NT.code⟩
def Q3:bh:=qs [qM 11 1,qM 6 11] (qs [qZ 7 0] (qs [qM 12 2,qM 13 1,qB 14 .sub 12 13,qM 8 14] (.seq (qs [qM 15 8,qC 16 .sub 15 1,qC 17 .quo 16 2,qM 9 17] (.block 0 (.loop [.sl 0 1,.tr 6,.tr 7,.tr 8,.tr 9] (.seq (qs [qM 18 9,qC 19 .geq 18 0] (.cond (.t 19) .skip (.exit 0))) (.seq (.block 1 (.aQ [qM 22 0,qM 23 9,qM 24 8,qM 25 6,o 26 (.call 150 [.t 22,.t 23,.t 24,.t 25] .share)])) (.aQ [qM 20 9,qC 21 .sub 20 1,qM 9 21])))))) (qs [qM 27 8,qC 28 .sub 27 1,qM 10 28] (.block 2 (.loop [.sl 0 1,.tr 6,.tr 7,.tr 10] (.seq (qs [qM 29 10,qC 30 .geq 29 0] (.cond (.t 30) .skip (.exit 2))) (.seq (.block 3 (.seq (.cj [qM 33 0,qM 34 6,qM 35 0,qM 36 6,qM 37 10,qB 38 .add 36 37,qM 39 0,qM 40 6,qM 41 10,qB 42 .add 40 41,qI 43 1 39 42,qL 44 43,qM 45 0,qM 46 6,qI 47 1 45 46,qL 48 47,qI 49 1 33 34,qO 1 49 44,qI 50 1 35 38,qO 1 50 48] [[],[],[],[],[],[3,4],[],[],[],[7,8],[6,7,8,9],[6,7,8,9,10],[],[],[12,13],[12,13,14],[0,1,6,7,8,9,10,11,12,13,14,15],[0,1,6,7,8,9,10,11,12,13,14,15,16],(rg 18),(rg 19)] []) (.aQ [qM 51 0,qM 52 7,qM 53 10,qM 54 6,o 55 (.call 150 [.t 51,.t 52,.t 53,.t 54] .share)]))) (.aQ [qM 31 10,qC 32 .sub 31 1,qM 10 32])))))))))
def PT:ak:=⟨3,56,[],Q3.code⟩
def Q2:bh:=qs [qM 11 2,qM 12 1,qB 13 .sub 11 12,qM 6 13] (qs [qM 14 6,qC 15 .geq 14 8] (.cond (.t 15) (qs [qM 16 6,o 17 (.conv .u64 (.t 16)),o 7 (.alloc [.int .u64 0]),qO 1 7 17] (qs [qM 18 6,qK 19 151 [18],qM 8 19] (qs [qM 20 1,qM 21 6,qC 22 .quo 21 4,qC 23 .mul 22 2,qB 24 .add 20 23,qC 25 .sub 24 1,qM 9 25] (.block 0 (.loop [.ob 7 [],.sl 0 1,.tr 1,.tr 6,.pt 7 7 0,.tr 8,.tr 9] (.seq (qs [qM 26 9,qM 27 1,qM 28 6,qC 29 .quo 28 4,qC 30 .mul 29 2,qB 31 .add 27 30,qC 32 .add 31 1,qB 33 .leq 26 32] (.cond (.t 33) .skip (.exit 0))) (.seq (.block 1 (qs [o 36 (.call 152 [.t 7] .share),qM 37 8,o 38 (.bin .sub (.t 37) (.c (.int .u64 1))),qB 39 .and 36 38,o 40 (.conv .i64 (.t 39)),qM 10 40] (.seq (qs [qM 41 10,qM 42 6,qB 43 .geq 41 42] (.cond (.t 43) (.aQ [qM 44 10,qM 45 6,qB 46 .sub 44 45,qM 10 46]) .skip)) (.cj [qM 47 0,qM 48 9,qM 49 0,qM 50 1,qM 51 10,qB 52 .add 50 51,qM 53 0,qM 54 1,qM 55 10,qB 56 .add 54 55,qI 57 1 53 56,qL 58 57,qM 59 0,qM 60 9,qI 61 1 59 60,qL 62 61,qI 63 1 47 48,qO 1 63 58,qI 64 1 49 52,qO 1 64 62] [[],[],[],[],[],[3,4],[],[],[],[7,8],[6,7,8,9],[6,7,8,9,10],[],[],[12,13],[12,13,14],[0,1,6,7,8,9,10,11,12,13,14,15],[0,1,6,7,8,9,10,11,12,13,14,15,16],(rg 18),(rg 19)] [])))) (.aQ [qM 34 9,qC 35 .add 34 1,qM 9 35])))))))) .skip))
def PS:ak:=⟨3,65,[],Q2.code⟩
def Q1:bh:=qs [qZ 6 0,qZ 7 0] (qs [qM 13 2,qM 14 1,qB 15 .sub 13 14,qM 8 15] (qs [o 9 (.alloc [zi])] (qs [qM 16 1,qM 17 8,qC 18 .quo 17 4,qC 19 .mul 18 1,qB 20 .add 16 19,qM 10 20] (qs [qM 21 1,qM 22 8,qC 23 .quo 22 4,qC 24 .mul 23 2,qB 25 .add 21 24,qM 11 25] (qs [qM 26 1,qM 27 8,qC 28 .quo 27 4,qC 29 .mul 28 3,qB 30 .add 26 29,qM 12 30] (.seq (qs [qM 31 8,qC 32 .geq 31 8] (.cond (.t 32) (.seq (qs [qM 33 8,qC 34 .geq 33 50] (.cond (.t 34) (qs [qM 35 0,qM 36 10,o 37 (.call 153 [.t 35,.t 36,.t 9] .share),qM 10 37] (qs [qM 38 0,qM 39 11,o 40 (.call 153 [.t 38,.t 39,.t 9] .share),qM 11 40] (.aQ [qM 41 0,qM 42 12,o 43 (.call 153 [.t 41,.t 42,.t 9] .share),qM 12 43]))) .skip)) (.aQ [qM 44 0,qM 45 10,qM 46 11,qM 47 12,o 48 (.call 154 [.t 44,.t 45,.t 46,.t 47,.t 9] .share),qM 11 48])) .skip)) (qs [qL 49 9] (.block 0 (qs [qC 52 .eql 49 0,qM 51 52] (.cond (.t 51) (qs [qM 53 11,qM 6 53,qZ 7 1] .ret) (qs [qC 55 .eql 49 12,qM 54 55] (.cond (.t 54) (qs [qM 56 11,qM 6 56,qZ 7 2] .ret) (qs [qM 50 11,qM 6 50,qZ 7 0] .ret)))))))))))))
def PR:ak:=⟨3,57,[.tmp 6,.tmp 7],Q1.code⟩
def Q0:bh:=qs [qM 8 1,qM 6 8] (qs [qM 9 2,qC 10 .sub 9 1,qM 7 10] (.block 0 (.loop [.sl 0 1,.tr 6,.tr 7] (.seq (qs [qM 11 6,qM 12 7,qB 13 .lss 11 12] (.cond (.t 13) .skip (.exit 0))) (.block 1 (.seq (.cj [qM 14 0,qM 15 6,qM 16 0,qM 17 7,qM 18 0,qM 19 7,qI 20 1 18 19,qL 21 20,qM 22 0,qM 23 6,qI 24 1 22 23,qL 25 24,qI 26 1 14 15,qO 1 26 21,qI 27 1 16 17,qO 1 27 25] [[],[],[],[],[],[],[4,5],[4,5,6],[],[],[8,9],[8,9,10],[0,1,4,5,6,7,8,9,10,11],[0,1,4,5,6,7,8,9,10,11,12],(rg 14),(rg 15)] []) (qs [qM 28 6,qC 29 .add 28 1,qM 6 29] (.aQ [qM 30 7,qC 31 .sub 30 1,qM 7 31]))))))))
def PO:ak:=⟨3,32,[],Q0.code⟩
def QZ:bh:=qs [qY 6 false] (qs [qM 11 1,qC 12 .add 11 1,qM 7 12] (.seq (qs [qZ 8 0] (.block 0 (.loop jJ9 (.seq (qs [qM 13 8,qC 14 .lss 13 5] (.cond (.t 14) .skip (.exit 0))) (.seq (.block 1 (.seq (.block 2 (.loop jJ9 (.seq (.seq (.cj [qM 17 7,qM 18 2,qB 19 .lss 17 18,qM 20 19,qMT 21 20 0,qMT 22 20 7,qIT 23 20 1 21 22,qLT 24 20 23,qMT 25 20 0,qMT 26 20 7,qCT 27 20 .sub 26 1,qIT 28 20 1 25 27,qLT 29 20 28,qKT 30 20 118 [24,29],qUT 31 20 30,qQ 32 20 31] [[],[],[0,1],[0,1,2],(rg 4),(rg 4),(rg 6),(rg 7),(rg 4),(rg 4),[0,1,2,3,9],[0,1,2,3,8,9,10],[0,1,2,3,8,9,10,11],(rg 13),(rg 14),(rg 15)] []) (.cond (.t 32) .skip (.exit 2))) (.block 3 (.aQ [qM 33 7,qC 34 .add 33 1,qM 7 34]))))) (.seq (qs [qM 35 7,qM 36 2,qB 37 .eql 35 36] (.cond (.t 37) (qs [qY 6 true] .ret) .skip)) (.seq (qs [qM 38 2,qM 39 1,qB 40 .sub 38 39,qC 41 .lss 40 50] (.cond (.t 41) (qs [qY 6 false] .ret) .skip)) (.seq (.cj [qM 42 0,qM 43 7,qM 44 0,qM 45 7,qC 46 .sub 45 1,qM 47 0,qM 48 7,qC 49 .sub 48 1,qI 50 1 47 49,qL 51 50,qM 52 0,qM 53 7,qI 54 1 52 53,qL 55 54,qI 56 1 42 43,qO 1 56 51,qI 57 1 44 46,qO 1 57 55] [[],[],[],[],[3],[],[],[6],[5,6,7],[5,6,7,8],[],[],[10,11],[10,11,12],[0,1,5,6,7,8,9,10,11,12,13],[0,1,5,6,7,8,9,10,11,12,13,14],(rg 16),(rg 17)] []) (.seq (qs [qM 58 7,qM 59 1,qB 60 .sub 58 59,qC 61 .geq 60 2] (.cond (.t 61) (qs [qM 62 7,qC 63 .sub 62 1,qM 9 63] (.block 4 (.loop [.sl 0 1,.tr 1,.tr 2,.tr 7,.tr 8,.tr 9] (.seq (qs [qM 64 9,qC 65 .geq 64 1] (.cond (.t 65) .skip (.exit 4))) (.seq (.block 5 (.seq (.seq (.cj [qM 68 0,qM 69 9,qI 70 1 68 69,qL 71 70,qM 72 0,qM 73 9,qC 74 .sub 73 1,qI 75 1 72 74,qL 76 75,qK 77 118 [71,76],qU 78 77] [[],[],[0,1],[0,1,2],[],[],[5],[4,5,6],[4,5,6,7],(rg 9),(rg 10)] []) (.cond (.t 78) (.exit 4) .skip)) (.cj [qM 79 0,qM 80 9,qM 81 0,qM 82 9,qC 83 .sub 82 1,qM 84 0,qM 85 9,qC 86 .sub 85 1,qI 87 1 84 86,qL 88 87,qM 89 0,qM 90 9,qI 91 1 89 90,qL 92 91,qI 93 1 79 80,qO 1 93 88,qI 94 1 81 83,qO 1 94 92] [[],[],[],[],[3],[],[],[6],[5,6,7],[5,6,7,8],[],[],[10,11],[10,11,12],[0,1,5,6,7,8,9,10,11,12,13],[0,1,5,6,7,8,9,10,11,12,13,14],(rg 16),(rg 17)] []))) (.aQ [qM 66 9,qC 67 .sub 66 1,qM 9 67])))))) .skip)) (qs [qM 95 2,qM 96 7,qB 97 .sub 95 96,qC 98 .geq 97 2] (.cond (.t 98) (qs [qM 99 7,qC 100 .add 99 1,qM 10 100] (.block 6 (.loop [.sl 0 1,.tr 1,.tr 2,.tr 7,.tr 8,.tr 10] (.seq (qs [qM 101 10,qM 102 2,qB 103 .lss 101 102] (.cond (.t 103) .skip (.exit 6))) (.seq (.block 7 (.seq (.seq (.cj [qM 106 0,qM 107 10,qI 108 1 106 107,qL 109 108,qM 110 0,qM 111 10,qC 112 .sub 111 1,qI 113 1 110 112,qL 114 113,qK 115 118 [109,114],qU 116 115] [[],[],[0,1],[0,1,2],[],[],[5],[4,5,6],[4,5,6,7],(rg 9),(rg 10)] []) (.cond (.t 116) (.exit 6) .skip)) (.cj [qM 117 0,qM 118 10,qM 119 0,qM 120 10,qC 121 .sub 120 1,qM 122 0,qM 123 10,qC 124 .sub 123 1,qI 125 1 122 124,qL 126 125,qM 127 0,qM 128 10,qI 129 1 127 128,qL 130 129,qI 131 1 117 118,qO 1 131 126,qI 132 1 119 121,qO 1 132 130] [[],[],[],[],[3],[],[],[6],[5,6,7],[5,6,7,8],[],[],[10,11],[10,11,12],[0,1,5,6,7,8,9,10,11,12,13],[0,1,5,6,7,8,9,10,11,12,13,14],(rg 16),(rg 17)] []))) (.aQ [qM 104 10,qC 105 .add 104 1,qM 10 105])))))) .skip)))))))) (.aQ [qM 15 8,qC 16 .add 15 1,qM 8 16])))))) (qs [qY 6 false] .ret)))
def PN:ak:=⟨3,133,[.tmp 6],QZ.code⟩
def QY:bh:=qs [qY 4 false] (qs [qM 5 0,qK 6 155 [5],qM 7 6,qMT 8 7 1,qKT 9 7 155 [8],qUT 10 7 9,qQ 11 7 10,qM 12 11,qMF 13 12 0,qMF 14 12 1,qBF 15 12 .lss 13 14,qP 16 12 15,qM 4 16] .ret)
def PM:ak:=⟨2,17,[.tmp 4],QY.code⟩
def QX:bh:=qs [qZ 8 0] (.seq (.cj [qM 11 0,qM 12 1,qM 13 0,qM 14 3,qM 15 0,qM 16 3,qI 17 1 15 16,qL 18 17,qM 19 0,qM 20 1,qI 21 1 19 20,qL 22 21,qI 23 1 11 12,qO 1 23 18,qI 24 1 13 14,qO 1 24 22] [[],[],[],[],[],[],[4,5],[4,5,6],[],[],[8,9],[8,9,10],[0,1,4,5,6,7,8,9,10,11],[0,1,4,5,6,7,8,9,10,11,12],(rg 14),(rg 15)] []) (qs [qM 25 1,qC 26 .add 25 1,qM 27 2,qC 28 .sub 27 1,qM 9 26,qM 10 28] (.seq (.block 0 (.loop jJ3 (.block 1 (.seq (.block 2 (.loop jJ3 (.seq (.seq (.cj [qM 29 9,qM 30 10,qB 31 .leq 29 30,qM 32 31,qMT 33 32 0,qMT 34 32 1,qIT 35 32 1 33 34,qLT 36 32 35,qMT 37 32 0,qMT 38 32 9,qIT 39 32 1 37 38,qLT 40 32 39,qKT 41 32 118 [36,40],qUT 42 32 41,qQ 43 32 42] [[],[],[0,1],[0,1,2],(rg 4),(rg 4),(rg 6),(rg 7),(rg 4),(rg 4),[0,1,2,3,8,9],[0,1,2,3,8,9,10],(rg 12),(rg 13),(rg 14)] []) (.cond (.t 43) .skip (.exit 2))) (.block 3 (.aQ [qM 44 9,qC 45 .add 44 1,qM 9 45]))))) (.seq (.block 4 (.loop jJ3 (.seq (.seq (.cj [qM 46 9,qM 47 10,qB 48 .leq 46 47,qM 49 48,qMT 50 49 0,qMT 51 49 1,qIT 52 49 1 50 51,qLT 53 49 52,qMT 54 49 0,qMT 55 49 10,qIT 56 49 1 54 55,qLT 57 49 56,qKT 58 49 118 [53,57],qQ 59 49 58] [[],[],[0,1],[0,1,2],(rg 4),(rg 4),(rg 6),(rg 7),(rg 4),(rg 4),[0,1,2,3,8,9],[0,1,2,3,8,9,10],(rg 12),(rg 13)] []) (.cond (.t 59) .skip (.exit 4))) (.block 5 (.aQ [qM 60 10,qC 61 .sub 60 1,qM 10 61]))))) (.seq (qs [qM 62 9,qM 63 10,qB 64 .gtr 62 63] (.cond (.t 64) (.exit 0) .skip)) (.seq (.cj [qM 65 0,qM 66 9,qM 67 0,qM 68 10,qM 69 0,qM 70 10,qI 71 1 69 70,qL 72 71,qM 73 0,qM 74 9,qI 75 1 73 74,qL 76 75,qI 77 1 65 66,qO 1 77 72,qI 78 1 67 68,qO 1 78 76] [[],[],[],[],[],[],[4,5],[4,5,6],[],[],[8,9],[8,9,10],[0,1,4,5,6,7,8,9,10,11],[0,1,4,5,6,7,8,9,10,11,12],(rg 14),(rg 15)] []) (qs [qM 79 9,qC 80 .add 79 1,qM 9 80] (.aQ [qM 81 10,qC 82 .sub 81 1,qM 10 82]))))))))) (qs [qM 83 9,qM 8 83] .ret))))
def PL:ak:=⟨4,84,[.tmp 8],QX.code⟩
def QW:bh:=qs [qZ 8 0,qY 9 false] (.seq (.cj [qM 12 0,qM 13 1,qM 14 0,qM 15 3,qM 16 0,qM 17 3,qI 18 1 16 17,qL 19 18,qM 20 0,qM 21 1,qI 22 1 20 21,qL 23 22,qI 24 1 12 13,qO 1 24 19,qI 25 1 14 15,qO 1 25 23] [[],[],[],[],[],[],[4,5],[4,5,6],[],[],[8,9],[8,9,10],[0,1,4,5,6,7,8,9,10,11],[0,1,4,5,6,7,8,9,10,11,12],(rg 14),(rg 15)] []) (qs [qM 26 1,qC 27 .add 26 1,qM 28 2,qC 29 .sub 28 1,qM 10 27,qM 11 29] (.seq (.block 0 (.loop jJ0 (.seq (.seq (.cj [qM 30 10,qM 31 11,qB 32 .leq 30 31,qM 33 32,qMT 34 33 0,qMT 35 33 10,qIT 36 33 1 34 35,qLT 37 33 36,qMT 38 33 0,qMT 39 33 1,qIT 40 33 1 38 39,qLT 41 33 40,qKT 42 33 118 [37,41],qQ 43 33 42] [[],[],[0,1],[0,1,2],(rg 4),(rg 4),(rg 6),(rg 7),(rg 4),(rg 4),[0,1,2,3,8,9],[0,1,2,3,8,9,10],(rg 12),(rg 13)] []) (.cond (.t 43) .skip (.exit 0))) (.block 1 (.aQ [qM 44 10,qC 45 .add 44 1,qM 10 45]))))) (.seq (.block 2 (.loop jJ0 (.seq (.seq (.cj [qM 46 10,qM 47 11,qB 48 .leq 46 47,qM 49 48,qMT 50 49 0,qMT 51 49 11,qIT 52 49 1 50 51,qLT 53 49 52,qMT 54 49 0,qMT 55 49 1,qIT 56 49 1 54 55,qLT 57 49 56,qKT 58 49 118 [53,57],qUT 59 49 58,qQ 60 49 59] [[],[],[0,1],[0,1,2],(rg 4),(rg 4),(rg 6),(rg 7),(rg 4),(rg 4),[0,1,2,3,8,9],[0,1,2,3,8,9,10],(rg 12),(rg 13),(rg 14)] []) (.cond (.t 60) .skip (.exit 2))) (.block 3 (.aQ [qM 61 11,qC 62 .sub 61 1,qM 11 62]))))) (.seq (qs [qM 63 10,qM 64 11,qB 65 .gtr 63 64] (.cond (.t 65) (.seq (.cj [qM 66 0,qM 67 11,qM 68 0,qM 69 1,qM 70 0,qM 71 1,qI 72 1 70 71,qL 73 72,qM 74 0,qM 75 11,qI 76 1 74 75,qL 77 76,qI 78 1 66 67,qO 1 78 73,qI 79 1 68 69,qO 1 79 77] [[],[],[],[],[],[],[4,5],[4,5,6],[],[],[8,9],[8,9,10],[0,1,4,5,6,7,8,9,10,11],[0,1,4,5,6,7,8,9,10,11,12],(rg 14),(rg 15)] []) (qs [qM 80 11,qM 8 80,qY 9 true] .ret)) .skip)) (.seq (.cj [qM 81 0,qM 82 10,qM 83 0,qM 84 11,qM 85 0,qM 86 11,qI 87 1 85 86,qL 88 87,qM 89 0,qM 90 10,qI 91 1 89 90,qL 92 91,qI 93 1 81 82,qO 1 93 88,qI 94 1 83 84,qO 1 94 92] [[],[],[],[],[],[],[4,5],[4,5,6],[],[],[8,9],[8,9,10],[0,1,4,5,6,7,8,9,10,11],[0,1,4,5,6,7,8,9,10,11,12],(rg 14),(rg 15)] []) (qs [qM 95 10,qC 96 .add 95 1,qM 10 96] (qs [qM 97 11,qC 98 .sub 97 1,qM 11 98] (.seq (.block 4 (.loop jJ0 (.block 5 (.seq (.block 6 (.loop jJ0 (.seq (.seq (.cj [qM 99 10,qM 100 11,qB 101 .leq 99 100,qM 102 101,qMT 103 102 0,qMT 104 102 10,qIT 105 102 1 103 104,qLT 106 102 105,qMT 107 102 0,qMT 108 102 1,qIT 109 102 1 107 108,qLT 110 102 109,qKT 111 102 118 [106,110],qQ 112 102 111] [[],[],[0,1],[0,1,2],(rg 4),(rg 4),(rg 6),(rg 7),(rg 4),(rg 4),[0,1,2,3,8,9],[0,1,2,3,8,9,10],(rg 12),(rg 13)] []) (.cond (.t 112) .skip (.exit 6))) (.block 7 (.aQ [qM 113 10,qC 114 .add 113 1,qM 10 114]))))) (.seq (.block 8 (.loop jJ0 (.seq (.seq (.cj [qM 115 10,qM 116 11,qB 117 .leq 115 116,qM 118 117,qMT 119 118 0,qMT 120 118 11,qIT 121 118 1 119 120,qLT 122 118 121,qMT 123 118 0,qMT 124 118 1,qIT 125 118 1 123 124,qLT 126 118 125,qKT 127 118 118 [122,126],qUT 128 118 127,qQ 129 118 128] [[],[],[0,1],[0,1,2],(rg 4),(rg 4),(rg 6),(rg 7),(rg 4),(rg 4),[0,1,2,3,8,9],[0,1,2,3,8,9,10],(rg 12),(rg 13),(rg 14)] []) (.cond (.t 129) .skip (.exit 8))) (.block 9 (.aQ [qM 130 11,qC 131 .sub 130 1,qM 11 131]))))) (.seq (qs [qM 132 10,qM 133 11,qB 134 .gtr 132 133] (.cond (.t 134) (.exit 4) .skip)) (.seq (.cj [qM 135 0,qM 136 10,qM 137 0,qM 138 11,qM 139 0,qM 140 11,qI 141 1 139 140,qL 142 141,qM 143 0,qM 144 10,qI 145 1 143 144,qL 146 145,qI 147 1 135 136,qO 1 147 142,qI 148 1 137 138,qO 1 148 146] [[],[],[],[],[],[],[4,5],[4,5,6],[],[],[8,9],[8,9,10],[0,1,4,5,6,7,8,9,10,11],[0,1,4,5,6,7,8,9,10,11,12],(rg 14),(rg 15)] []) (qs [qM 149 10,qC 150 .add 149 1,qM 10 150] (.aQ [qM 151 11,qC 152 .sub 151 1,qM 11 152]))))))))) (.seq (.cj [qM 153 0,qM 154 11,qM 155 0,qM 156 1,qM 157 0,qM 158 1,qI 159 1 157 158,qL 160 159,qM 161 0,qM 162 11,qI 163 1 161 162,qL 164 163,qI 165 1 153 154,qO 1 165 160,qI 166 1 155 156,qO 1 166 164] [[],[],[],[],[],[],[4,5],[4,5,6],[],[],[8,9],[8,9,10],[0,1,4,5,6,7,8,9,10,11],[0,1,4,5,6,7,8,9,10,11,12],(rg 14),(rg 15)] []) (qs [qM 167 11,qM 8 167,qY 9 false] .ret)))))))))))
def PJ:ak:=⟨4,168,[.tmp 8,.tmp 9],QW.code⟩
def PI:ak:=⟨1,19,[.tmp 2],(.seq (.aQ [qZ 2 0]) (.seq (.seq (.aQ [qM 3 0,o 4 (.bin .geq (.t 3) (.c (.int .u32 65536)))]) (.cond (.t 4) (.seq (.aQ [qM 5 0,o 6 (.bin .shr (.t 5) (.c (.int .u64 16))),qM 0 6]) (.aQ [qZ 2 16])) .skip)) (.seq (.seq (.aQ [qM 7 0,o 8 (.bin .geq (.t 7) (.c (.int .u32 256)))]) (.cond (.t 8) (.seq (.aQ [qM 9 0,o 10 (.bin .shr (.t 9) (.c (.int .u64 8))),qM 0 10]) (.aQ [qM 11 2,qC 12 .add 11 8,qM 2 12])) .skip)) (.seq (.aQ [qM 13 2,qM 14 0,o 15 (.conv .u8 (.t 14)),o 16 (.idx (.c (.str tB0)) (.t 15)),o 17 (.conv .i64 (.t 16)),qB 18 .add 13 17,qM 2 18]) .ret))))⟩
def NS:bh:=qs [qZ 2 0] (.seq (qs [qM 3 0,o 4 (.bin .geq (.t 3) (.c (.int .u64 4294967296)))] (.cond (.t 4) (qs [qM 5 0,o 6 (.bin .shr (.t 5) (.c (.int .u64 32))),qM 0 6] (.aQ [qZ 2 32])) .skip)) (.seq (qs [qM 7 0,o 8 (.bin .geq (.t 7) (.c (.int .u64 65536)))] (.cond (.t 8) (qs [qM 9 0,o 10 (.bin .shr (.t 9) (.c (.int .u64 16))),qM 0 10] (.aQ [qM 11 2,qC 12 .add 11 16,qM 2 12])) .skip)) (.seq (qs [qM 13 0,o 14 (.bin .geq (.t 13) (.c (.int .u64 256)))] (.cond (.t 14) (qs [qM 15 0,o 16 (.bin .shr (.t 15) (.c (.int .u64 8))),qM 0 16] (.aQ [qM 17 2,qC 18 .add 17 8,qM 2 18])) .skip)) (qs [qM 19 2,qM 20 0,o 21 (.conv .u8 (.t 20)),o 22 (.idx (.c (.str tB0)) (.t 21)),o 23 (.conv .i64 (.t 22)),qB 24 .add 19 23,qM 2 24] .ret))))
def MM:ak:=⟨1,25,[.tmp 2],NS.code⟩
def PG:ak:=⟨1,32,[.tmp 2,.tmp 3],(.seq (.aQ [o 1 (.box (.t 0)),o 2 (.mv (.c (.ay))),qY 3 false]) (.seq (.seq (.aQ [qF 7 2 1,qL 8 7,qC 9 .eql 8 0]) (.cond (.t 9) (.seq (.aQ [qF 10 4 1,qL 11 10,qF 12 5 1,qL 13 12,qF 14 6 1,qG 15 4 14,qF 16 10 1,qG 17 9 16,o 18 (.build zL0 [(0,1,(i64 7)),(2,1,.t 11),(3,1,.t 13),(4,4,.t 15),(8,9,.t 17)]),o 4 (.alloc zL0),qO 20 4 18]) (.seq (.cj [qG 19 20 4,oZ 20 (.b6 1 zL0 [(0,20,.t 19)]),qF 21 3 1,qL 22 21,qC 23 .eql 22 0,qM 2 20,qM 3 23] [[],[0],[],[2],[2,3],[0,1],(rg 6)] [(1,3)]) .ret)) .skip)) (.seq (.aQ [qG 25 19 1,qK 26 163 [25],qM 24 26,qE 27 0 24,qE 28 1 24,o 5 (.alloc zL0),qO 20 5 27,qM 6 28]) (.seq (.aQ [qG 29 20 5,oZ 30 (.b6 1 zL0 [(0,20,.t 29)]),qM 31 6,qM 2 30,qM 3 31]) .ret))))⟩
def PF:ak:=⟨1,8,[.tmp 2],(.seq (.aQ [o 2 (.mv (.c (.ay)))]) (.seq (.seq (.aQ [qM 3 0,o 4 (.eq .slice false (.t 3) (.c (.ay)))]) (.cond (.t 4) (.seq (.aQ [o 2 (.mv (.c (.ay)))]) .ret) .skip)) (.seq (.aQ [o 5 (.b6 0 [] []),qM 6 0,qA 7 2 32 5 6,qM 2 7]) .ret)))⟩
def PE:ak:=⟨1,34,[.tmp 2],(.seq (.aQ [qY 2 false]) (.seq (.aQ [o 3 (.alloc [.bool false,.bool false,.bool false,.bool false])]) (.seq (.seq (.aQ [qM 6 0,qN 7 6,qZ 8 0]) (.block 0 (.loop (.seq (.aQ [qB 9 .lss 8 7]) (.seq (.cond (.t 9) .skip (.exit 0)) (.seq (.block 1 (.seq (.aQ [qI 10 19 6 8,qG 11 19 10,o 5 (.alloc zL1),qO 19 5 11]) (.seq (.seq (.cj [qF 12 2 5,qL 13 12,qC 14 .neq 13 4,qM 15 14,qFF 16 15 4 5,qLF 17 15 16,qMF 18 15 0,oF 19 15 (.dP 19 (.t 18) (i64 0)),qFF 20 15 4 19,qLF 21 15 20,qBF 22 15 .neq 17 21,qP 23 15 22,qM 24 23,qFF 25 24 5 5,qLF 26 24 25,oF 27 24 (.oM 4 1 (.t 3) (.t 26)),qLF 28 24 27,qP 29 24 28] [[],[0],[0,1],[0,1,2],(rg 4),(rg 5),(rg 4),[0,1,2,3,6],[0,1,2,3,6,7],[0,1,2,3,6,7,8],(rg 10),(rg 11),(rg 12),(rg 13),(rg 14),(rg 15),(rg 16),(rg 17)] []) (.cond (.t 29) (.seq (.aQ [qY 2 false]) .ret) .skip)) (.aQ [qF 30 5 5,qL 31 30,o 32 (.oM 4 1 (.t 3) (.t 31)),oN (.store 1 (.t 32) (.c (.bool true)))])))) (.aQ [qC 33 .add 8 1,qM 8 33]))))))) (.seq (.aQ [qY 2 true]) .ret))))⟩
def PD:ak:=⟨2,41,[.tmp 4],(.seq (.aQ [o 2 (.box (.t 0)),o 3 (.box (.t 1)),qY 4 false]) (.seq (.aQ [qF 6 10 2,qG 7 9 6,qK 8 109 [7],o 5 (.alloc zL2),qO 9 5 8]) (.seq (.aQ [qF 9 2 2,qL 10 9,qC 11 .eql 10 2,qM 12 11,qFT 13 12 2 3,qLT 14 12 13,qCT 15 12 .eql 14 2,qQ 16 12 15,qM 17 16,qFT 18 17 0 5,qLT 19 17 18,qFT 20 17 10 3,qFT 21 17 0 20,qLT 22 17 21,qBT 23 17 .eql 19 22,qQ 24 17 23,qM 25 24,qFT 26 25 1 5,qGT 27 25 4 26,qFT 28 25 10 3,qFT 29 25 1 28,qGT 30 25 4 29,qKT 31 25 164 [27,30],qQ 32 25 31,qM 33 32,qFT 34 33 5 5,qGT 35 33 4 34,qFT 36 33 10 3,qFT 37 33 5 36,qGT 38 33 4 37,qKT 39 33 164 [35,38],qQ 40 33 39,qM 4 40]) .ret)))⟩
def PC:ak:=⟨2,9,[.tmp 4],(.seq (.aQ [qY 4 false]) (.seq (.aQ [qM 5 0,qM 6 1,qK 7 165 [5,6],qC 8 .geq 7 0,qM 4 8]) .ret))⟩
def NR:bh:=qs [o 1 (.box (.t 0)),qY 2 false] (qs [qF 3 0 1,qL 4 3,qC 5 .eql 4 0,qM 6 5,qFT 7 6 1 1,qLT 8 6 7,qCT 9 6 .eql 8 0,qQ 10 6 9,qM 11 10,qFT 12 11 2 1,qLT 13 11 12,qCT 14 11 .eql 13 0,qQ 15 11 14,qM 16 15,qFT 17 16 3 1,qLT 18 16 17,qNT 19 16 18,qCT 20 16 .eql 19 0,qQ 21 16 20,qM 2 21] .ret)
def ML:ak:=⟨1,22,[.tmp 2],NR.code⟩
def NQ:bh:=qs [o 1 (.box (.t 0)),qY 2 false] (qs [qF 3 0 1,qL 4 3,qC 5 .eql 4 0,qM 6 5,qFT 7 6 1 1,qGT 8 6 4 7,qKT 9 6 141 [8],qQ 10 6 9,qM 11 10,qFT 12 11 5 1,qGT 13 11 4 12,qKT 14 11 141 [13],qQ 15 11 14,qM 2 15] .ret)
def MK:ak:=⟨1,16,[.tmp 2],NQ.code⟩
def NP:bh:=qs [o 2 (.box (.t 0)),qY 4 false] (.seq (.seq (.cj [qF 7 3 2,qL 8 7,qN 9 8,qF 10 0 2,qL 11 10,qK 12 166 [11],qB 13 .neq 9 12] [[],[0],[0,1],[],[3],[3,4],(rg 6)] []) (.cond (.t 13) (qs [qY 4 false] .ret) .skip)) (.seq (qs [qF 14 0 2,qL 15 14,qC 16 .neq 15 1,qM 17 16,qFT 18 17 1 2,qLT 19 17 18,qCT 20 17 .neq 19 0,qQ 21 17 20,qM 22 21,qFF 23 22 0 2,qLF 24 22 23,qCF 25 22 .neq 24 2,qMF 26 22 25,qFT 27 26 2 2,qLT 28 26 27,qCT 29 26 .neq 28 0,qQF 30 22 26 29,qP 31 22 30,qM 32 31,qFF 33 32 0 2,qLF 34 32 33,qCF 35 32 .eql 34 2,qMF 36 32 35,qFT 37 36 2 2,qLT 38 36 37,qMT 39 36 1,qCT 40 36 .sub 39 1,oT 41 36 (.call 81 [.t 38,(i64 0),.t 40] .borrow),qUT 42 36 41,qQF 43 32 36 42,qP 44 32 43] (.cond (.t 44) (qs [qY 4 false] .ret) .skip)) (.seq (qs [qF 45 3 2,qL 46 45,qN 47 46,qZ 48 0] (.block 0 (.loop [.ob 2 [],.tr 1,.pt 2 2 0,.tr 46,.tr 47,.tr 48] (qs [qB 49 .lss 48 47] (.seq (.cond (.t 49) .skip (.exit 0)) (.seq (.block 1 (qs [qI 50 4 46 48,qG 51 4 50,o 6 (.alloc [zi,zi,zi,.ay]),qO 4 6 51] (qs [qG 52 4 6,qM 53 1,qK 54 143 [52,53],qU 55 54] (.cond (.t 55) (qs [qY 4 false] .ret) .skip)))) (.aQ [qC 56 .add 48 1,qM 48 56]))))))) (qs [qF 57 1 2,qL 58 57,o 59 (.call 81 [.t 58,(i64 0),(i64 2147483647)] .borrow),qM 4 59] .ret))))
def MJ:ak:=⟨2,60,[.tmp 4],NP.code⟩
def NO:bh:=qs [o 2 (.box (.t 0)),qY 4 false] (qs [qF 5 0 2,qL 6 5,o 7 (.call 81 [.t 6,(i64 1),(i64 6)] .borrow),qM 8 7,qFT 9 8 1 2,qGT 10 8 4 9,qMT 11 8 1,qKT 12 8 143 [10,11],qQ 13 8 12,qM 14 13,qFT 15 14 5 2,qGT 16 14 4 15,qMT 17 14 1,qKT 18 14 143 [16,17],qQ 19 14 18,qM 4 19] .ret)
def MI:ak:=⟨2,20,[.tmp 4],NO.code⟩
def NN:bh:=qs [o 3 (.box (.t 0)),qY 6 false] (.seq (.cj [qM 7 1,qF 8 0 3,qF 9 0 8,qL 10 9,qN 11 10,qC 12 .sub 11 1,o 13 (.call 81 [.t 7,(i64 0),.t 12] .borrow),qM 14 13,qMT 15 14 2,qFT 16 14 0 3,qFT 17 14 0 16,qLT 18 14 17,qMT 19 14 1,qIT 20 14 6 18 19,qGT 21 14 6 20,oT 22 14 (.eP (.t 15) [.t 21] .borrow),qFT 23 14 2 3,qLT 24 14 23,qBT 25 14 .eql 22 24,qQ 26 14 25,qM 6 26] [[],[],[1],[1,2],[1,2,3],[1,2,3,4],(rg 6),(rg 7),(rg 8),(rg 8),[0,1,2,3,4,5,6,7,9],[0,1,2,3,4,5,6,7,9,10],(rg 8),[0,1,2,3,4,5,6,7,9,10,11,12],[0,1,2,3,4,5,6,7,9,10,11,12,13],(rg 15),(rg 8),[0,1,2,3,4,5,6,7,16],(rg 18),(rg 19),(rg 20)] []) .ret)
def MH:ak:=⟨3,27,[.tmp 6],NN.code⟩
def NM:bh:=qs [o 1 (.box (.t 0)),qZ 2 0] (qs [qF 3 2 1,qL 4 3,qM 2 4] .ret)
def MG:ak:=⟨1,5,[.tmp 2],NM.code⟩
def NL:bh:=qs [o 3 (.box (.t 0)),qY 6 false] (qs [qM 7 2,qF 8 0 3,qF 9 0 8,qL 10 9,qM 11 1,qI 12 6 10 11,qF 13 4 12,qL 14 13,qC 15 .sub 14 1,o 16 (.call 81 [.t 7,(i64 0),.t 15] .borrow),qM 6 16] .ret)
def MF:ak:=⟨3,17,[.tmp 6],NL.code⟩
def NK:bh:=qs [o 1 (.box (.t 0)),qZ 2 0] (qs [qF 3 3 1,qL 4 3,qM 2 4] .ret)
def ME:ak:=⟨1,5,[.tmp 2],NK.code⟩
def NJ:bh:=qs [o 3 (.box (.t 0)),qY 6 false] (qs [o 7 (.alloc [.bool false,.bool false,.bool false,.bool false])] (.seq (qs [qM 10 2,qN 11 10,qZ 12 0] (.block 0 (.loop [.ob 3 [],.ob 7 [],.tr 1,.tr 2,.pt 3 3 0,.pt 7 7 0,.tr 10,.tr 11,.tr 12] (qs [qB 13 .lss 12 11] (.seq (.cond (.t 13) .skip (.exit 0)) (.seq (.block 1 (qs [qI 14 3 10 12,qG 15 3 14,o 9 (.alloc [zi,zi,.ay]),qO 3 9 15] (.seq (qs [qG 16 4 3,qM 17 1,qF 18 0 9,qL 19 18,qK 20 147 [16,17,19],qU 21 20,qM 22 21,qFF 23 22 0 9,qLF 24 22 23,oF 25 22 (.oM 4 1 (.t 7) (.t 24)),qLF 26 22 25,qP 27 22 26,qM 28 27,qFF 29 28 1 9,qLF 30 28 29,qFF 31 28 3 3,qLF 32 28 31,qCF 33 28 .sub 32 1,oF 34 28 (.call 81 [.t 30,(i64 0),.t 33] .borrow),qUF 35 28 34,qP 36 28 35,qM 37 36,qGF 38 37 4 3,qFF 39 37 2 9,qLF 40 37 39,qKF 41 37 83 [38,40],qUF 42 37 41,qP 43 37 42] (.cond (.t 43) (qs [qY 6 false] .ret) .skip)) (.aQ [qF 44 0 9,qL 45 44,o 46 (.oM 4 1 (.t 7) (.t 45)),oN (.store 1 (.t 46) (.c (.bool true)))])))) (.aQ [qC 47 .add 12 1,qM 12 47]))))))) (qs [qM 48 2,qN 49 48,qC 50 .gtr 49 0,qM 6 50] .ret)))
def MD:ak:=⟨3,51,[.tmp 6],NJ.code⟩
def PB:ak:=⟨4,76,[],(.seq (.aQ [qM 10 1,qM 8 10]) (.block 0 (.loop (.block 1 (.seq (.aQ [qM 11 8,o 12 (.bin .mul (i64 2) (.t 11)),qC 13 .add 12 1,qM 9 13]) (.seq (.seq (.aQ [qM 14 9,qM 15 2,qB 16 .geq 14 15]) (.cond (.t 16) (.exit 0) .skip)) (.seq (.seq (.cj [qM 17 9,qC 18 .add 17 1,qM 19 2,qB 20 .lss 18 19,qM 21 20,qMT 22 21 0,qMT 23 21 3,qMT 24 21 9,qBT 25 21 .add 23 24,qIT 26 21 1 22 25,qLT 27 21 26,qMT 28 21 0,qMT 29 21 3,qMT 30 21 9,qBT 31 21 .add 29 30,qCT 32 21 .add 31 1,qIT 33 21 1 28 32,qLT 34 21 33,qKT 35 21 118 [27,34],qQ 36 21 35] [[],[0],[],[0,1,2],(rg 4),(rg 5),(rg 5),(rg 5),[0,1,2,3,4,6,7],(rg 9),(rg 10),(rg 5),(rg 5),(rg 5),[0,1,2,3,4,12,13],[0,1,2,3,4,12,13,14],[0,1,2,3,4,11,12,13,14,15],[0,1,2,3,4,11,12,13,14,15,16],(rg 18),(rg 19)] []) (.cond (.t 36) (.aQ [qM 37 9,qC 38 .add 37 1,qM 9 38]) .skip)) (.seq (.seq (.cj [qM 39 0,qM 40 3,qM 41 8,qB 42 .add 40 41,qI 43 1 39 42,qL 44 43,qM 45 0,qM 46 3,qM 47 9,qB 48 .add 46 47,qI 49 1 45 48,qL 50 49,qK 51 118 [44,50],qU 52 51] [[],[],[],[1,2],(rg 4),(rg 5),[],[],[],[7,8],[6,7,8,9],[6,7,8,9,10],(rg 12),(rg 13)] []) (.cond (.t 52) .ret .skip)) (.seq (.cj [qM 53 0,qM 54 3,qM 55 8,qB 56 .add 54 55,qM 57 0,qM 58 3,qM 59 9,qB 60 .add 58 59,qM 61 0,qM 62 3,qM 63 9,qB 64 .add 62 63,qI 65 1 61 64,qL 66 65,qM 67 0,qM 68 3,qM 69 8,qB 70 .add 68 69,qI 71 1 67 70,qL 72 71,qI 73 1 53 56,qO 1 73 66,qI 74 1 57 60,qO 1 74 72] [[],[],[],[1,2],[],[],[],[5,6],[],[],[],[9,10],[8,9,10,11],[8,9,10,11,12],[],[],[],[15,16],[14,15,16,17],[14,15,16,17,18],[0,1,2,3,8,9,10,11,12,13,14,15,16,17,18,19],[0,1,2,3,8,9,10,11,12,13,14,15,16,17,18,19,20],(rg 22),(rg 23)] []) (.aQ [qM 75 9,qM 8 75]))))))))))⟩
def PA:ak:=⟨1,7,[.tmp 2],(.seq (.aQ [o 2 (.mv (.c (.int .u64 0)))]) (.seq (.aQ [qM 3 0,o 4 (.conv .u64 (.t 3)),qK 5 88 [4],o 6 (.bin .shl (.c (.int .u64 1)) (.t 5)),qM 2 6]) .ret))⟩
def Pz:ak:=⟨1,33,[.tmp 2],(.seq (.aQ [o 2 (.mv (.c (.int .u64 0)))]) (.seq (.cj [qM 3 0,qX 4 3,qL 5 4,qM 6 0,qX 7 6,qL 8 7,o 9 (.bin .shl (.t 8) (.c (.int .u64 13))),qB 10 .xor 5 9,qX 11 3,qO 1 11 10] [[],[0],[0,1],[],[3],[3,4],[3,4,5],(rg 7),(rg 8),(rg 9)] []) (.seq (.cj [qM 12 0,qX 13 12,qL 14 13,qM 15 0,qX 16 15,qL 17 16,o 18 (.bin .shr (.t 17) (.c (.int .u64 7))),qB 19 .xor 14 18,qX 20 12,qO 1 20 19] [[],[0],[0,1],[],[3],[3,4],[3,4,5],(rg 7),(rg 8),(rg 9)] []) (.seq (.cj [qM 21 0,qX 22 21,qL 23 22,qM 24 0,qX 25 24,qL 26 25,o 27 (.bin .shl (.t 26) (.c (.int .u64 17))),qB 28 .xor 23 27,qX 29 21,qO 1 29 28] [[],[0],[0,1],[],[3],[3,4],[3,4,5],(rg 7),(rg 8),(rg 9)] []) (.seq (.aQ [qM 30 0,qX 31 30,qL 32 31,qM 2 32]) .ret)))))⟩
def Py:ak:=⟨3,15,[.tmp 6],(.seq (.aQ [qZ 6 0]) (.seq (.aQ [qM 7 0,qM 8 1,qC 9 .sub 8 1,qM 10 1,qM 11 1,qC 12 .add 11 1,qM 13 2,o 14 (.call 154 [.t 7,.t 9,.t 10,.t 12,.t 13] .share),qM 6 14]) .ret))⟩
def Px:ak:=⟨5,36,[.tmp 10],(.seq (.aQ [qZ 10 0]) (.seq (.aQ [qM 12 0,qM 13 1,qM 14 2,qM 15 4,o 16 (.call 167 [.t 12,.t 13,.t 14,.t 15] .share),qM 11 16,qE 17 0 11,qE 18 1 11,qM 1 17,qM 2 18]) (.seq (.aQ [qM 20 0,qM 21 2,qM 22 3,qM 23 4,o 24 (.call 167 [.t 20,.t 21,.t 22,.t 23] .share),qM 19 24,qE 25 0 19,qE 26 1 19,qM 2 25,qM 3 26]) (.seq (.aQ [qM 28 0,qM 29 1,qM 30 2,qM 31 4,o 32 (.call 167 [.t 28,.t 29,.t 30,.t 31] .share),qM 27 32,qE 33 0 27,qE 34 1 27,qM 1 33,qM 2 34]) (.seq (.aQ [qM 35 2,qM 10 35]) .ret)))))⟩
def QV:bh:=qs [qY 2 false] (qs [qM 3 0,qM 4 0,qB 5 .neq 3 4,qM 2 5] .ret)
def Pw:ak:=⟨1,6,[.tmp 2],QV.code⟩
def Pv:ak:=⟨1,45,[.cell 2 (some 20),.tmp 3],(.seq (.aQ [o 1 (.box (.t 0)),o 2 (.alloc zL0),qY 3 false]) (.seq (.aQ [qF 5 3 1,qL 6 5,qF 7 4 1,qL 8 7,qF 9 5 1,qL 10 9,qF 11 6 1,qG 12 4 11,qF 13 10 1,qG 14 9 13,o 15 (.build zL0 [(1,1,.t 6),(2,1,.t 8),(3,1,.t 10),(4,4,.t 12),(8,9,.t 14)]),o 4 (.alloc zL0),qO 20 4 15]) (.seq (.seq (.aQ [qF 16 2 1,qL 17 16]) (.block 0 (.seq (.aQ [qC 20 .eql 17 1,qM 19 20]) (.cond (.t 19) (.aQ [qF 21 0 4,oN (.store 1 (.t 21) (i64 1))]) (.seq (.seq (.aQ [qC 23 .eql 17 2,qM 22 23]) (.cond (.t 22) .skip (.aQ [qC 24 .eql 17 5,qM 22 24]))) (.cond (.t 22) (.aQ [qF 25 0 4,oN (.store 1 (.t 25) (i64 6))]) (.seq (.aQ [qC 27 .eql 17 3,qM 26 27]) (.cond (.t 26) (.aQ [qF 28 0 4,oN (.store 1 (.t 28) (i64 4))]) (.seq (.aQ [qC 30 .eql 17 6,qM 29 30]) (.cond (.t 29) (.aQ [qF 31 0 4,oN (.store 1 (.t 31) (i64 7))]) (.seq (.aQ [qC 33 .eql 17 4,qM 32 33]) (.cond (.t 32) (.seq (.aQ [qF 34 0 4,oN (.store 1 (.t 34) (i64 5))]) (.seq (.aQ [qF 35 5 1,qL 36 35,qF 37 3 1,qL 38 37,o 39 (.build [zi,zi,.ay] [(0,1,.t 36),(1,1,.t 38)]),oZ 40 (.b6 1 [zi,zi,.ay] [(0,3,.t 39)]),qF 41 19 4,qO 1 41 40]) (.aQ [qF 42 1 4,oN (.store 1 (.t 42) (i64 0)),qF 43 3 4,oN (.store 1 (.t 43) (i64 0))]))) (.seq (.aQ [qG 18 20 4,qO 20 2 18,qY 3 false]) .ret))))))))))))) (.seq (.aQ [qG 44 20 4,qO 20 2 44,qY 3 true]) .ret))))⟩
def Pu:ak:=⟨2,31,[.tmp 4],(.seq (.aQ [o 2 (.box (.t 0)),o 3 (.box (.t 1)),qY 4 false]) (.seq (.aQ [qF 5 0 2,qL 6 5,qF 7 0 3,qL 8 7,qB 9 .eql 6 8,qM 10 9,qFT 11 10 1 2,qLT 12 10 11,qFT 13 10 1 3,qLT 14 10 13,qBT 15 10 .eql 12 14,qQ 16 10 15,qM 17 16,qFT 18 17 2 2,qLT 19 17 18,qFT 20 17 2 3,qLT 21 17 20,qBT 22 17 .eql 19 21,qQ 23 17 22,qM 24 23,qFT 25 24 3 2,qLT 26 24 25,qFT 27 24 3 3,qLT 28 24 27,oT 29 24 (.call 169 [.t 26,.t 28,(.c (.func 164))] .borrow),qQ 30 24 29,qM 4 30]) .ret))⟩
def Pt:ak:=⟨2,19,[.tmp 4],(.seq (.aQ [qZ 4 0]) (.seq (.seq (.aQ [qM 6 0,qN 7 6,qZ 8 0]) (.block 0 (.loop (.seq (.aQ [qB 9 .lss 8 7]) (.seq (.cond (.t 9) .skip (.exit 0)) (.seq (.block 1 (.seq (.aQ [qM 10 8,qM 5 10]) (.seq (.aQ [qM 11 1,qM 12 0,qM 13 5,qI 14 1 12 13,qL 15 14,qB 16 .eql 11 15]) (.cond (.t 16) (.seq (.aQ [qM 17 5,qM 4 17]) .ret) .skip)))) (.aQ [qC 18 .add 8 1,qM 8 18]))))))) (.seq (.aQ [o 4 (.mv (i64 (-1)))]) .ret)))⟩
def NI:bh:=qs [qZ 2 0] (.seq (.block 0 (qs [qM 4 0,qC 5 .eql 4 1,qM 6 5,qMF 7 6 0,qCF 8 6 .eql 7 2,qP 9 6 8,qM 3 9] (.cond (.t 3) (qs [qZ 2 0] .ret) (qs [qM 11 0,qC 12 .eql 11 3,qM 10 12] (.cond (.t 10) (qs [qZ 2 1] .ret) (qs [qM 14 0,o 15 (.call 81 [.t 14,(i64 4),(i64 8)] .borrow),qM 13 15] (.cond (.t 13) (qs [qZ 2 2] .ret) .skip))))))) (qs [o 2 (.mv (i64 (-1)))] .ret))
def MC:ak:=⟨1,16,[.tmp 2],NI.code⟩
def Pq:ak:=⟨4,28,[.tmp 8,.tmp 9],(.seq (.aQ [qZ 8 0,qZ 9 0]) (.seq (.seq (.cj [qM 10 0,qM 11 2,qI 12 1 10 11,qL 13 12,qM 14 0,qM 15 1,qI 16 1 14 15,qL 17 16,qK 18 118 [13,17]] [[],[],[0,1],[0,1,2],[],[],[4,5],[4,5,6],(rg 8)] []) (.cond (.t 18) (.seq (.aQ [qM 19 3,qX 20 19,qL 21 20,qC 22 .add 21 1,qX 23 19,qO 1 23 22]) (.seq (.aQ [qM 24 2,qM 25 1,qM 8 24,qM 9 25]) .ret)) .skip)) (.seq (.aQ [qM 26 1,qM 27 2,qM 8 26,qM 9 27]) .ret)))⟩
def Pp:ak:=⟨3,32,[.tmp 6],(.seq (.aQ [qY 6 false]) (.seq (.seq (.aQ [qM 10 0,qN 11 10,qM 12 1,qN 13 12,qB 14 .neq 11 13]) (.cond (.t 14) (.seq (.aQ [qY 6 false]) .ret) .skip)) (.seq (.seq (.aQ [qM 15 0,qN 16 15,qZ 17 0]) (.block 0 (.loop (.seq (.aQ [qB 18 .lss 17 16]) (.seq (.cond (.t 18) .skip (.exit 0)) (.seq (.block 1 (.seq (.aQ [qM 19 17,qI 20 4 15 17,qG 21 4 20,o 8 (.alloc [zi,zi,zi,.ay]),qM 7 19,qO 4 8 21]) (.seq (.aQ [qM 22 1,qM 23 7,qI 24 4 22 23,qG 25 4 24,o 9 (.alloc [zi,zi,zi,.ay]),qO 4 9 25]) (.seq (.aQ [qM 26 2,qG 27 4 8,qG 28 4 9,o 29 (.eP (.t 26) [.t 27,.t 28] .borrow),qU 30 29]) (.cond (.t 30) (.seq (.aQ [qY 6 false]) .ret) .skip))))) (.aQ [qC 31 .add 17 1,qM 17 31]))))))) (.seq (.aQ [qY 6 true]) .ret))))⟩
def DI:LO:=[o 21 (.alloc [.bool false]),oN (.store 1 (.t 21) (.c (.bool false))),oN (.store 1 (.t 21) (.c (.bool true))),qL 22 21]
def A5:LO:=[qG 48 2 4]
def AZ:LO:=[qK 49 43 [48],qM 47 49,qE 50 0 47,qE 51 1 47,o 6 (.alloc [.ay,.ay,.ay]),qO 3 6 50,qM 7 51]
def prog:Map ak:=.node none (.node none (.node none (.node none (.node none (.node none (.node (some SR) (.leaf) (.leaf)) (.leaf)) (.node none (.node none (.node (some MJ) (.leaf) (.leaf)) (.leaf)) (.node (some MO) (.leaf) (.leaf)))) (.node none (.node none (.leaf) (.node none (.node (some Pq) (.leaf) (.leaf)) (.leaf))) (.node none (.node (some SK) (.node (some PA) (.leaf) (.leaf)) (.leaf)) (.node (some PL) (.leaf) (.leaf))))) (.node none (.node none (.node none (.leaf) (.node (some Tm) (.node (some Pv) (.leaf) (.leaf)) (.leaf))) (.node none (.node (some SO) (.node (some MF) (.leaf) (.leaf)) (.leaf)) (.node (some PR) (.leaf) (.leaf)))) (.node none (.node (some SX) (.node (some Tn) (.node (some PD) (.leaf) (.leaf)) (.leaf)) (.node (some MS) (.leaf) (.leaf))) (.node none (.node none (.node (some Pw) (.leaf) (.leaf)) (.leaf)) (.leaf))))) (.node none (.node none (.node none (.leaf) (.node none (.node (some SQ) (.node (some MH) (.leaf) (.leaf)) (.leaf)) (.node (some PT) (.leaf) (.leaf)))) (.node none (.node (some SY) (.node none (.node (some PF) (.leaf) (.leaf)) (.leaf)) (.node (some MU) (.node (some Pp) (.leaf) (.leaf)) (.leaf))) (.node none (.node none (.node (some Py) (.leaf) (.leaf)) (.leaf)) (.node (some PI) (.leaf) (.leaf))))) (.node none (.node none (.node none (.leaf) (.node (some PV) (.node (some Pt) (.leaf) (.leaf)) (.leaf))) (.node (some Tq) (.node (some SM) (.node (some MD) (.leaf) (.leaf)) (.leaf)) (.node (some PN) (.leaf) (.leaf)))) (.node none (.node none (.node none (.node (some ML) (.leaf) (.leaf)) (.leaf)) (.node (some MQ) (.leaf) (.leaf))) (.node (some SU) (.leaf) (.leaf)))))) (.node none (.node none (.node none (.node none (.leaf) (.node none (.node none (.node (some MI) (.leaf) (.leaf)) (.leaf)) (.node (some MN) (.leaf) (.leaf)))) (.node none (.node none (.node none (.node (some PG) (.leaf) (.leaf)) (.leaf)) (.node (some MV) (.leaf) (.leaf))) (.node (some SW) (.node (some SJ) (.node (some Pz) (.leaf) (.leaf)) (.leaf)) (.node (some PJ) (.leaf) (.leaf))))) (.node none (.node none (.node none (.leaf) (.node (some PW) (.node (some Pu) (.leaf) (.leaf)) (.leaf))) (.node none (.node (some SN) (.node (some ME) (.leaf) (.leaf)) (.leaf)) (.node (some PO) (.leaf) (.leaf)))) (.node none (.node none (.node none (.node (some PC) (.leaf) (.leaf)) (.leaf)) (.node (some MR) (.leaf) (.leaf))) (.node (some SV) (.leaf) (.leaf))))) (.node none (.node none (.node none (.leaf) (.node (some Tr) (.node (some SP) (.node (some MG) (.leaf) (.leaf)) (.leaf)) (.node (some PS) (.leaf) (.leaf)))) (.node none (.node none (.node (some Tp) (.node (some PE) (.leaf) (.leaf)) (.leaf)) (.node (some MT) (.leaf) (.leaf))) (.node none (.node none (.node (some Px) (.leaf) (.leaf)) (.leaf)) (.node (some MM) (.leaf) (.leaf))))) (.node none (.node none (.node none (.leaf) (.node (some PU) (.node (some MC) (.leaf) (.leaf)) (.leaf))) (.node none (.node (some SL) (.node (some PB) (.leaf) (.leaf)) (.leaf)) (.node (some PM) (.leaf) (.leaf)))) (.node none (.node (some Ts) (.node none (.node (some MK) (.leaf) (.leaf)) (.leaf)) (.node (some MP) (.leaf) (.leaf))) (.node (some SS) (.leaf) (.leaf))))))
end Go.Ax.ek
namespace Go.Ax.V
theorem Ap:∀(cs:List TV) (n:Nat),vv cs n=if n<=cs.length then some (cs.take n) else none
 |cs,0=>by simp [vv]
 |[],n+1=>by simp [vv]
 |x::xs,n+1=>by
  simp only [vv,Ap xs n,UD,Nat.add_le_add_iff_right,List.take_succ_cons];by_cases h:n<=xs.length
  ·rw [if_pos h,if_pos h]
  ·rw [if_neg h,if_neg h]
theorem Fo:∀(cs:List TV) (off n:Nat),Gc cs off n=if off+n<=cs.length then some ((cs.drop off).take n) else none
 |cs,0,n=>by simp [Gc,Ap]
 |[],o+1,n=>by simp [Gc]
 |x::xs,o+1,n=>by
  simp only [Gc,Fo xs o n,UD,List.drop_succ_cons];by_cases h:o+n<=xs.length
  ·rw [if_pos h,if_pos (by omega)]
  ·rw [if_neg h,if_neg (by omega)]
theorem z0:∀(cells cs:List TV),u9 cells cs=if cs.length<=cells.length then some (cs++cells.drop cs.length) else none
 |cells,[]=>by cases cells<;>simp [u9]
 |[],y::ys=>by simp [u9]
 |x::xs,y::ys=>by
  simp only [u9,z0 xs ys,UD,Nat.add_le_add_iff_right,List.drop_succ_cons,List.cons_append];by_cases h:ys.length<=xs.length
  ·rw [if_pos h,if_pos h]
  ·rw [if_neg h,if_neg h]
theorem Cw:∀(cells:List TV) (off:Nat) (cs:List TV),zZ cells off cs=if off+cs.length<=cells.length then some (cells.take off++cs++cells.drop (off+cs.length)) else none
 |cells,0,cs=>by cases cells<;>simp [zZ,z0]
 |[],o+1,cs=>by simp [zZ]
 |x::xs,o+1,cs=>by
  simp only [zZ,Cw xs o cs,UD];by_cases h:o+cs.length<=xs.length
  ·rw [if_pos h,if_pos (by omega)];simp [show o+1+cs.length=o+cs.length+1 by omega]
  ·rw [if_neg h,if_neg (by omega)]
theorem JI {cells cs:List TV} {off:Nat} (h:off+cs.length<=cells.length) (j:Nat) :
  (cells.take off++cs++cells.drop (off+cs.length))[j]?=if off<=j/\j < off+cs.length then cs[j - off]? else cells[j]?:=by
 have h1:(cells.take off).length=off:=by rw [UA];omega
 rw [List.append_assoc];by_cases ha:j < off
 ·rw [Uq (by omega),if_neg (by omega),Uu,if_pos ha]
 ·rw [Ur (by omega),h1];by_cases hb:j < off+cs.length
  ·rw [Uq (by omega),if_pos (by omega)]
  ·rw [Ur (by omega),if_neg (by omega),Uv];congr 1;omega
theorem E_ {a:AV} (h:a.flat=true):a.one=true/\a.cells?=some [a]/\a.iS=true:=by cases a<;>first|exact⟨rfl,rfl,rfl⟩|cases h
theorem xU {a:AV} (h:LH a=true):a.flat=true:=by cases a<;>first|rfl|cases h
theorem Gg {t:TV} {a:AV} (h:Can t a) (h1:t.one=true):a.flat=true:=by cases h<;>first|rfl|exact xU (by assumption)|cases h1
theorem fj {v:TV} {cells:List AV}:uz v cells↔∃ts,b_ v=some ts/\pY ts cells:=by
 constructor
 ·intro h;cases h with
  |one _ x h1 h=>
   refine⟨[v],(by cases v<;>first|rfl|cases h1),rfl,fun j t y ht hy=>?_⟩;cases j with
   |zero=>simp at ht hy;subst ht;subst hy;exact h
   |succ j=>simp at ht
  |a ts _ hl h=>exact⟨ts,rfl,hl,h⟩
 ·rintro⟨ts,h1,hl,h⟩;cases v with
  |a cs=>cases h1;exact .a _ _ hl h
  |tp vs=>cases h1
  |_=>
   cases h1
   match cells,hl with
   |[x],_=>exact .one _ _ rfl (h 0 _ _ rfl rfl)
def Gq (ts:List TV) (cs:List AV):Prop:=pY ts cs/\∀x∈cs,AV.flat x=true
theorem vR {t:TV} {a:AV} {ts:List TV} (h:Can t a) (hc:b_ t=some ts):∃as,a.cells?=some as/\Gq ts as:=by
 have single:∀{t:TV} {a:AV},Can t a->t.one=true->Gq [t] [a]:=fun h h1=>⟨⟨rfl,fun j u y hu hy=>by
  cases j with
  |zero=>simp at hu hy;subst hu;subst hy;exact h
  |succ j=>simp at hu⟩,fun x hx=>by simp at hx;subst hx;exact Gg h h1⟩
 cases h with
 |a ts as hl hf h=>cases hc;exact⟨as,rfl,⟨hl,h⟩,hf⟩
 |tp ts as hl hf h=>cases hc
 |i k n=>cases hc;exact⟨_,rfl,single (.i k n) rfl⟩
 |b x=>cases hc;exact⟨_,rfl,single (.b x) rfl⟩
 |s x=>cases hc;exact⟨_,rfl,single (.s x) rfl⟩
 |f n=>cases hc;exact⟨_,rfl,single (.f n) rfl⟩
 |np=>cases hc;exact⟨_,rfl,single .np rfl⟩
 |nil=>cases hc;exact⟨_,rfl,single .nil rfl⟩
 |ei es cs n sz c hn hc' hz hf h=>cases hc;exact⟨_,rfl,single (.ei es cs n sz c hn hc' hz hf h) rfl⟩
 |A8 x u hf h=>cases hc;exact⟨_,(E_ (xU hf)).2.1,single (.A8 a u hf h) rfl⟩
theorem jb {v r:TV} {off:Nat} (h:ej v off=some r):∃ts,b_ v=some ts/\ts[off]?=some r:=by
 cases v with
 |a cs=>exact⟨cs,rfl,h⟩
 |tp vs=>cases h
 |_=>cases off with
  |zero=>cases h;exact⟨_,rfl,rfl⟩
  |succ n=>cases h
theorem jV {v r:TV} {off n:Nat} (h:b9 v off n=some r):∃ts,v=.a ts/\b_ v=some ts/\off+n<=ts.length/\r=.a ((ts.drop off).take n):=by
 cases v with
 |a cs=>
  simp only [b9,Fo] at h;by_cases hl:off+n<=cs.length
  ·rw [if_pos hl] at h;cases h;exact⟨cs,rfl,rfl,hl,rfl⟩
  ·rw [if_neg hl] at h;cases h
 |_=>cases h
theorem cu {v u x:TV} {off n:Nat} (h:bf v off n x=some u):∃ts xs us,b_ v=some ts/\b_ x=some xs/\xs.length=n/\b_ u=some us/\us.length=ts.length/\off+n<=ts.length/\
  ∀j,us[j]?=if off<=j/\j < off+n then xs[j - off]? else ts[j]?:=by
 unfold bf at h;split at h
 ·cases h
 rename_i xs hx;simp only [cond_eq_ite,UQ] at h;split at h;rotate_left
 ·cases h
 rename_i hn;have one:∀{w:TV},b_ v=some [w]->(if (Nat.beq off 0&&x.one)=true then some x else none)=some u->
   ∃ts xs us,b_ v=some ts/\b_ x=some xs/\xs.length=n/\b_ u=some us/\us.length=ts.length/\off+n<=ts.length/\∀j,us[j]?=if off<=j/\j < off+n then xs[j - off]? else ts[j]?:=by
  intro w hv h;simp only [UN,UQ] at h;split at h;rotate_left
  ·cases h
  rename_i hc;obtain⟨h0,h1⟩:=hc;have hu:=U0 h;subst hu;have hx1:xs=[x]:=by cases x<;>first|(simp only [b_,Option.some.injEq] at hx;exact hx.symm)|(simp [TV.one] at h1)
  subst hx1;simp at hn;subst hn;subst h0;refine⟨[w],[x],[x],hv,hx,rfl,hx,rfl,by simp,fun j=>?_⟩;cases j with
  |zero=>simp
  |succ j=>simp
 cases v with
 |a cs=>
  simp only [Cw] at h;by_cases hl:off+xs.length<=cs.length
  ·rw [if_pos hl] at h;cases h;refine⟨cs,xs,_,rfl,hx,hn,rfl,?_,by omega,fun j=>?_⟩
   ·simp only [Uz,UA,UB];omega
   ·rw [JI hl,hn]
  ·rw [if_neg hl] at h;cases h
 |tp vs=>cases h
 |_=>exact one rfl h
theorem Ay {ts:List TV} {cs:List AV} (h:pY ts cs) (off n:Nat):pY ((ts.drop off).take n) ((cs.drop off).take n):=by
 refine⟨by simp [h.1],fun j t x ht hx=>?_⟩;simp only [Uu] at ht hx;split at ht
 ·rename_i hj;rw [if_pos hj] at hx;simp only [Uv] at ht hx;exact h.2 _ _ _ ht hx
 ·cases ht
theorem iZ {cs:List AV} (h:∀x∈cs,AV.flat x=true) (off n:Nat):∀x∈(cs.drop off).take n,AV.flat x=true:=
 fun x hx=>h x (List.mem_of_mem_drop (List.mem_of_mem_take hx))
theorem tS {v r:TV} {ts:List TV} {cs:List AV} {off:Nat} {sz:Option Nat} (hv:b_ v=some ts) (hc:Gq ts cs) (h:zn v off sz=some r) :
  ∃l a,cut cs off (cP sz)=some l/\DS sz l=some a/\Can r a:=by
 cases sz with
 |none=>
  obtain⟨ts',h1,h2⟩:=jb h;rw [hv] at h1;cases h1;have hlt:off < ts.length:=by
   cases hh:ts[off]? with
   |none=>rw [hh] at h2;cases h2
   |some _=>exact(Uo.1 hh).1
  have hlt':off < cs.length:=by rw [←hc.1.1];exact hlt
  have hx:cs[off]?=some cs[off]:=Un hlt';refine⟨[cs[off]],cs[off],?_,rfl,hc.1.2 _ _ _ h2 hx⟩;rw [dy,cP,if_pos (by omega)];rw [List.drop_eq_getElem_cons hlt'];rfl
 |some n=>
  obtain⟨ts',h0,h1,hl,rfl⟩:=jV h;rw [hv] at h1;cases h1;have hl':off+n<=cs.length:=by rw [←hc.1.1];exact hl
  refine⟨(cs.drop off).take n,.agg _,?_,rfl,?_⟩
  ·rw [dy,cP,if_pos hl']
  ·exact .a _ _ (Ay hc.1 _ _).1 (iZ hc.2 _ _) (Ay hc.1 _ _).2
theorem jZ {t:TV} {x a:AV} (h:ua t=some x) (hc:Can t a):a=x:=by cases hc<;>first|(cases h;rfl)|cases h
theorem vu {r:AV} {t:TV} (h:Fa r=some t):Can t r:=by cases r<;>first|(cases h;constructor)|cases h
theorem IJ {op:BinOp} {x y r:TV} {a b:AV} (h:b7 op x y=some r) (ha:Can x a) (hb:Can y b):∃c,Dc op a b=some c/\Can r c:=by
 unfold b7 at h;split at h
 ·rename_i x' hx;split at h
  ·rename_i y' hy;split at h
   ·rename_i c hc;rw [jZ hx ha,jZ hy hb];exact⟨c,hc,vu h⟩
   ·cases h
  ·cases h
 ·cases h
theorem Jk {op:UnOp} {x r:TV} {a:AV} (h:v_ op x=some r) (ha:Can x a):∃c,Lf op a=some c/\Can r c:=by
 unfold v_ at h;split at h
 ·rename_i x' hx;split at h
  ·rename_i c hc;rw [jZ hx ha];exact⟨c,hc,vu h⟩
  ·cases h
 ·cases h
theorem ng:∀{ts:List TV} {xs as:List AV},oR ts=some xs->pY ts as->as=xs
 |[],xs,as,h,hc=>by cases h;exact UY.1 hc.1.symm
 |t::ts,xs,as,h,hc=>by
  simp only [oR] at h;split at h
  ·cases h
  rename_i x hx;split at h
  ·cases h
  rename_i l hl;cases h;cases as with
  |nil=>cases hc.1
  |cons a as=>rw [jZ hx (hc.2 0 t a rfl rfl),ng hl ⟨Nat.succ.inj hc.1,fun j u y hu hy=>hc.2 (j+1) u y hu hy⟩]
end Go.Ax.V
namespace Go.Ax.V
theorem bQ (j i:Nat) (w:VV) (r:List (Nat×VV)):bU j ((i,w)::r)=if i=j then some w else bU j r:=by simp only [bU,cond_eq_ite,UQ]
theorem yc (off:Nat) (r:List (Nat×VV)) (j:Nat):∀l,bU j (tv off l r)=match (if off<=j then bU (j - off) l else none) with|some w=>some w|none=>bU j r
 |[]=>by simp only [tv,bU];split<;>simp_all
 |(i,w)::l=>by
  simp only [tv,bQ,yc off r j l];by_cases h:off<=j
  ·simp only [if_pos h];by_cases e:i=j - off
   ·rw [if_pos (by omega),if_pos e]
   ·rw [if_neg (by omega),if_neg e]
  ·simp only [if_neg h];rw [if_neg (by omega)]
theorem gu (off n j:Nat):∀l,bU j (lA off n l)=if off<=j/\j < off+n then none else bU j l
 |[]=>by simp [lA,bU]
 |(i,w)::l=>by
  simp only [lA,cond_eq_ite,UN,UR,US];by_cases h:off<=i/\i < off+n
  ·rw [if_pos h,gu off n j l,bQ];by_cases e:i=j
   ·subst e;rw [if_pos h,if_pos h]
   ·rw [if_neg e]
  ·rw [if_neg h,bQ,bQ,gu off n j l];by_cases e:i=j
   ·subst e;rw [if_pos rfl,if_neg h,if_pos rfl]
   ·rw [if_neg e,if_neg e]
theorem tu (off n j:Nat):∀l,bU j (lz off n l)=if j < n then bU (j+off) l else none
 |[]=>by simp [lz,bU]
 |(i,w)::l=>by
  simp only [lz,cond_eq_ite,UN,UR,US];by_cases h:off<=i/\i < off+n
  ·rw [if_pos h,bQ,tu off n j l,bQ];by_cases e:i - off=j
   ·rw [if_pos e,if_pos (by omega),if_pos (by omega)]
   ·rw [if_neg e];by_cases hj:j < n
    ·rw [if_pos hj,if_pos hj,if_neg (by omega)]
    ·rw [if_neg hj,if_neg hj]
  ·rw [if_neg h,tu off n j l,bQ];by_cases hj:j < n
   ·rw [if_pos hj,if_pos hj,if_neg (by omega)]
   ·rw [if_neg hj,if_neg hj]
inductive TN where
 |s (O:Nat)
 |i (O ver j:Nat)
instance:Coe Nat TN:=⟨TN.s⟩
def TN.base:TN->Nat
 |.s O=>O
 |.i O _ _=>O
abbrev bt:=TN->Option AV
def cX:AV->Option Nat
 |.ptr id _ _=>some id
 |.ref id _ _ _ _ _ _=>some id
 |_=>none
def AE (A:bt) (w:VV) (x:AV):Prop:=match w with
 |.bX=>x=.ay\/x=.ei [] 0 (some 0)
 |.sl O=>A O=some x
 |.ow O v i=>A (.i O v i)=some x
 |_=>False
def I9 (A:bt) (o:Option VV) (t:TV) (x:AV):Prop:=match o with
 |none=>Can t x/\x.flat=true
 |some w=>AE A w x
structure bq (A:bt) (v:TV) (ovs:List (Nat×VV)) (cs:List AV) (ts:List TV):Prop where
 cells:b_ v=some ts
 len:ts.length=cs.length
 keys:∀j w,bU j ovs=some w->j < ts.length
 at_:∀(j:Nat) (t:TV) (x:AV),ts[j]?=some t->cs[j]?=some x->I9 A (bU j ovs) t x
inductive VR (A:bt):VV->AV->Prop where
 |bad {a}:VR A .bad a
 |tr {v a} (h:Can v a):VR A (.tr v) a
 |bX:VR A .bX .ay
 |m_:VR A .bX (.ei [] 0 (some 0))
 |ptr {O off:Nat} {id} (h:A O=some (.ptr id 0 0)):VR A (.ptr O off) (.ptr id 0 off)
 |pd {O off:Nat} {id} (h:A O=some (.ptr id 0 0)):VR A (.pd O off) (.ptr id 0 off)
 |sl {O:Nat} {a} (h:A O=some a):VR A (.sl O) a
 |ea {O i off:Nat} {id g b sz len cap ex} (h:A O=some (.ref id g b sz len cap ex)):VR A (.ea O i off) (.ptr id g (b+i*sz+off))
 |pt {v cs b off n} (hl:b+n<=cs.length) (hf:∀x∈cs,AV.flat x=true) (h:uz v ((cs.drop b).take n)):VR A (.pt v off) (.ic cs (b+off))
 |st {v ovs cs ts} (hv:v=.a ts) (h:bq A v ovs cs ts):VR A (.st v ovs) (.agg cs)
 |ow {O v i a} (h:A (.i O v i)=some a):VR A (.ow O v i) a
 |e2 {O v i k off id g b sz len cap ex} (h:A (.i O v i)=some (.ref id g b sz len cap ex)):VR A (.e2 O v i k off) (.ptr id g (b+k*sz+off))
 |gl {s io es cs} (hs:0 < s) (hio:io < s) (hl:cs.length=es.length*s) (hf:∀x∈cs,AV.flat x=true)
   (h:∀(j:Nat) (e:TV),es[j]?=some e->∃ts,b_ e=some ts/\ts.length=s/\(∀(o:Nat) t x,o≠io->ts[o]?=some t->cs[j*s+o]?=some x->Can t x)/\
    ts[io]?=some (.l [])/\∀x,cs[j*s+io]?=some x->x=.ay\/x=.ei [] 0 (some 0)):VR A (.gl s io es) (.ei cs es.length (some es.length))
 |sa {O off n sz:Nat} {id cap} (hz:0 < sz) (h:A O=some (.ptr id 0 0)):VR A (.sa O off n sz) (.ref id 0 off sz n cap true)
structure BK (sz:Nat) (es:List TV) (cs:List AV):Prop where
 len:cs.length=es.length*sz
 flat:∀x∈cs,AV.flat x=true
 el:∀(j:Nat) (e:TV),es[j]?=some e->uz e ((cs.drop (j*sz)).take sz)
def wX (H:aU) (sz:Nat) (es:List TV) (a:AV):Prop:=0 < sz/\((es=[]/\(a=.ay\/a=.ei [] 0 (some 0)))\/
 ∃id g b cells,a=.ref id g b sz es.length es.length false/\H.get id=some (.row g cells)/\b<=cells.length/\BK sz es (cells.drop b))
structure Gp (A:bt) (H:aU) (K s io iz ver:Nat) (hole:Option Nat) (es:List TV) (cs:List AV):Prop where
 len:cs.length=es.length*s
 el:∀(j:Nat) (e:TV),es[j]?=some e->∃ts,b_ e=some ts/\ts.length=s/\(∀(o:Nat) t x,o≠io->ts[o]?=some t->cs[j*s+o]?=some x->Can t x/\x.flat=true)/\
  ∃x,cs[j*s+io]?=some x/\A (.i K ver j)=some x/\(hole≠some j->∃l,ts[io]?=some (.l l)/\wX H iz l x)
def OR (A:bt) (H:aU) (o:VO) (a:AV):Prop:=match o with
 |.ob v ovs=>∃id cs ts,a=.ptr id 0 0/\H.get id=some (.row 0 cs)/\bq A v ovs cs ts
 |.gr sz es=>wX H sz es a
 |.gn K s io iz ver hole es=>0 < s/\io < s/\0 < iz/\((es=[]/\(a=.ay\/a=.ei [] 0 (some 0)))\/
   ∃id g b cells,a=.ref id g b s es.length es.length false/\H.get id=some (.row g cells)/\b<=cells.length/\Gp A H K s io iz ver hole es (cells.drop b))
def dX (A:bt) (o:VO) (a:AV) (id:Nat):Prop:=cX a=some id\/match o with
 |.gn K _ _ _ ver hole _=>∃j x,hole≠some j/\A (.i K ver j)=some x/\cX x=some id
 |_=>False
theorem dj {A:bt} {o:VO} {a:AV} {id:Nat} (h:o.pl=true):dX A o a id↔cX a=some id:=by cases o<;>first|(cases h;done)|simp [dX]
def jq (A:bt) (O:Nat) (a:AV) (o:VO):Prop:=match o with
 |.gn K _ _ _ ver hole es=>K=O/\(∀v j,ver < v->A (.i K v j)=none)/\(∀j x,A (.i K ver j)=some x->j < es.length)/\
   (∀j j' x x' id,hole≠some j->hole≠some j'->A (.i K ver j)=some x->A (.i K ver j')=some x'->cX x=some id->cX x'=some id->j=j')/\
   (∀j x id,hole≠some j->A (.i K ver j)=some x->cX x=some id->cX a≠some id)
 |_=>True
theorem uP {A:bt} {O:Nat} {o:VO} {a:AV} (h:o.pl=true):jq A O a o:=by cases o<;>first|(cases h;done)|trivial
structure R (A:bt) (V:au) (st:St):Prop where
 env:∀t e,V.env.get t=some e->∃a,st.env.get t=some a/\((∀c bb,e.gd=some (c,bb)->c=.b bb)->VR A e.v a)
 heap:∀(O:Nat) o,V.H.get O=some o->∃a,A O=some a/\OR A st.H o a
 inj:∀(O O':Nat) o o' a a' id,V.H.get O=some o->V.H.get O'=some o'->A O=some a->A O'=some a'->dX A o a id->dX A o' a' id->O=O'
 used:∀n:TN,V.us.get n.base=none->A n=none
 one:∀n a,A n=some a->a.one=true
 fresh:∀id o,st.H.get id=some o->id < st.nx
 gh:∀(O:Nat) o a,V.H.get O=some o->A O=some a->jq A O a o
def cY (V:au) (A:bt) (id:Nat):Prop:=∃(O:Nat) (o:VO) (a:AV),V.H.get O=some o/\A O=some a/\dX A o a id
structure Fr (V:au) (A:bt) (H:aU) (nx:Nat) (V':au) (A':bt) (H':aU) (nx':Nat):Prop where
 le:nx<=nx'
 same:∀id,id < nx->¬cY V A id->H'.get id=H.get id
 own:∀id,cY V' A' id->cY V A id\/nx<=id
theorem Fr.refl (V:au) (A:bt) (H:aU) (nx:Nat):Fr V A H nx V A H nx:=⟨U3 _,fun _ _ _=>rfl,fun _ h=>.inl h⟩
theorem Fr.trans {V A H nx V1 A1 H1 uN V2 A2 H2 nx2} (h:Fr V A H nx V1 A1 H1 uN) (h':Fr V1 A1 H1 uN V2 A2 H2 nx2):Fr V A H nx V2 A2 H2 nx2 where
 le:=U1 h.le h'.le
 same id hid hn:=by rw [h'.same id (UX hid h.le) (fun ho=>(h.own id ho).elim hn (fun hle=>by omega)),h.same id hid hn]
 own id ho:=(h'.own id ho).elim (fun h1=>h.own id h1) (fun hle=>.inr (U1 h.le hle))
theorem Fr.Nd {V V':au} {A:bt} {H:aU} {nx:Nat} (h:∀O o,V'.H.get O=some o->V.H.get O=some o):Fr V A H nx V' A H nx:=
 ⟨U3 _,fun _ _ _=>rfl,fun _ ⟨O,o,a,h1,h2,h3⟩=>.inl ⟨O,o,a,h O o h1,h2,h3⟩⟩
def act:G->Prop
 |none=>True
 |some (c,bb)=>c=.b bb
theorem AE.mono {A A':bt} (h:∀O a,A O=some a->A' O=some a) {w:VV} {x:AV} (hs:AE A w x):AE A' w x:=by cases w<;>first|exact hs|exact h _ _ hs
theorem bq.mono {A A':bt} (h:∀O a,A O=some a->A' O=some a) {v:TV} {ovs:List (Nat×VV)} {cs:List AV} {ts:List TV} (hc:bq A v ovs cs ts):bq A' v ovs cs ts:=
 ⟨hc.cells,hc.len,hc.keys,fun j t x ht hx=>by
  have:=hc.at_ j t x ht hx;unfold I9 at this ⊢;split at this
  ·exact this
  ·exact AE.mono h this⟩
theorem VR.mono {A A':bt} (h:∀O a,A O=some a->A' O=some a) {w:VV} {x:AV} (hv:VR A w x):VR A' w x:=by
 cases hv with
 |bad=>exact .bad
 |tr h=>exact .tr h
 |bX=>exact .bX
 |m_=>exact .m_
 |ptr h1=>exact .ptr (h _ _ h1)
 |pd h1=>exact .pd (h _ _ h1)
 |sl h1=>exact .sl (h _ _ h1)
 |ea h1=>exact .ea (h _ _ h1)
 |pt hl hf h1=>exact .pt hl hf h1
 |st hv h1=>exact .st hv (h1.mono h)
 |ow h1=>exact .ow (h _ _ h1)
 |e2 h1=>exact .e2 (h _ _ h1)
 |gl h1 h2 h3 h4 h5=>exact .gl h1 h2 h3 h4 h5
 |sa hz h1=>exact .sa hz (h _ _ h1)
theorem wX.mono {H H':aU} {sz:Nat} {es:List TV} {a:AV} (hH:∀id,cX a=some id->H'.get id=H.get id) (ho:wX H sz es a):wX H' sz es a:=by obtain⟨hz,h1⟩:=ho;refine⟨hz,h1.imp id ?_⟩;rintro⟨id,g,b,cells,rfl,h2,h3,h4⟩;exact⟨id,g,b,cells,rfl,by rw [hH id rfl];exact h2,h3,h4⟩
theorem wX.there {H:aU} {sz:Nat} {es:List TV} {a:AV} (ho:wX H sz es a) {id:Nat} (hi:cX a=some id):∃ob,H.get id=some ob:=by
 obtain⟨hz,h1⟩:=ho;rcases h1 with ⟨_,rfl|rfl⟩|⟨id',g,b,cells,rfl,h2,_⟩
 ·cases hi
 ·cases hi
 ·cases hi;exact⟨_,h2⟩
theorem OR.mono {A A':bt} {H H':aU} (h:∀O a,A O=some a->A' O=some a) {o:VO} {a:AV} (hH:∀id,dX A o a id->H'.get id=H.get id) (ho:OR A H o a):OR A' H' o a:=by
 cases o with
 |ob v ovs=>obtain⟨id,cs,ts,rfl,h2,h3⟩:=ho;exact⟨id,cs,ts,rfl,by rw [hH id (.inl rfl)];exact h2,h3.mono h⟩
 |gr sz es=>exact wX.mono (fun id hi=>hH id (.inl hi)) ho
 |gn K s io iz ver hole es=>obtain⟨h1,h2,h3,h4⟩:=ho;refine⟨h1,h2,h3,h4.imp id ?_⟩;rintro⟨id,g,b,cells,rfl,h5,h6,h7⟩;refine⟨id,g,b,cells,rfl,by rw [hH id (.inl rfl)];exact h5,h6,h7.len,fun j e he=>?_⟩;obtain⟨ts,g1,g2,g3,x,g4,g5,g6⟩:=h7.el j e he;refine⟨ts,g1,g2,g3,x,g4,h _ _ g5,fun hn=>?_⟩;obtain⟨l,g7,g8⟩:=g6 hn;exact⟨l,g7,g8.mono fun id' hi=>hH id' (.inr ⟨j,x,hn,g5,hi⟩)⟩
theorem J1 {A A':bt} (h:∀O a,A O=some a->A' O=some a) {o:VO} {a:AV} {id:Nat} (hi:dX A o a id):dX A' o a id:=by
 rcases hi with hi|hi
 ·exact .inl hi
 ·cases o with
  |gn K s io iz ver hole es=>obtain⟨j,x,h2,h3,h4⟩:=hi;exact .inr ⟨j,x,h2,h _ _ h3,h4⟩
  |_=>cases hi
theorem OR.there {A:bt} {H:aU} {O:Nat} {o:VO} {a:AV} (ho:OR A H o a) (hv:jq A O a o) {id:Nat} (hi:dX A o a id):∃ob,H.get id=some ob:=by
 cases o with
 |ob v ovs=>obtain⟨id',cs,ts,rfl,h2,h3⟩:=ho;rw [dj rfl] at hi;cases hi;exact⟨_,h2⟩
 |gr sz es=>exact wX.there ho ((dj rfl).1 hi)
 |gn K s io iz ver hole es=>
  obtain⟨_,_,_,ho⟩:=ho;obtain⟨_,_,qjr,_⟩:=hv;rcases ho with ⟨rfl,h0⟩|⟨id',g,b,cells,rfl,h5,h6,h7⟩
  ·rcases hi with hi|⟨j,x,_,h1,_⟩
   ·rcases h0 with rfl|rfl<;>cases hi
   ·have:=qjr j x h1;simp at this
  ·rcases hi with hi|⟨j,x,h2,h3,h4⟩
   ·cases hi;exact⟨_,h5⟩
   ·obtain⟨ts,g1,g2,g3,x',g4,g5,g6⟩:=h7.el j _ (Un (qjr j x h3));rw [h3] at g5;cases g5;obtain⟨l,_,g8⟩:=g6 h2;exact g8.there h4
theorem R.h_ {A:bt} {V:au} {st:St} (h:R A V st) {id:Nat} (ho:cY V A id):id < st.nx:=by obtain⟨O,o,a,h1,h2,h3⟩:=ho;obtain⟨a',h4,h5⟩:=h.heap O o h1;rw [h2] at h4;cases h4;obtain⟨ob,h6⟩:=h5.there (h.gh O o a h1 h2) h3;exact h.fresh _ _ h6
structure kX (V V':au):Prop where
 us:∀O,V'.us.get O=none->V.us.get O=none
 gn:∀K s io iz ver hole es,V'.H.get K=some (.gn K s io iz ver hole es)->V.us.get K=none\/∃s io iz v0 hole es,V.H.get K=some (.gn K s io iz v0 hole es)/\v0<=ver
theorem kX.refl (V:au):kX V V:=⟨fun _ h=>h,fun K s io iz ver hole es h=>.inr ⟨s,io,iz,ver,hole,es,h,U3 _⟩⟩
theorem kX.trans {V V1 V2:au} (h:kX V V1) (h':kX V1 V2):kX V V2:=by
 refine⟨fun O hO=>h.us O (h'.us O hO),fun K s io iz ver hole es hK=>?_⟩;rcases h'.gn K _ _ _ _ _ _ hK with h1|⟨s1,io1,iz1,v1,qzk,es1,h1,h2⟩
 ·exact .inl (h.us K h1)
 ·rcases h.gn K _ _ _ _ _ _ h1 with h3|⟨s2,io2,iz2,v2,qzj,es2,h3,h4⟩
  ·exact .inl h3
  ·exact .inr ⟨s2,io2,iz2,v2,qzj,es2,h3,U1 h4 h2⟩
theorem kX.Nd {V V':au} (hu:V'.us=V.us) (hH:∀O o,V'.H.get O=some o->V.H.get O=some o):kX V V':=
 ⟨fun O h=>by rw [←hu];exact h,fun K s io iz ver hole es h=>.inr ⟨s,io,iz,ver,hole,es,hH _ _ h,U3 _⟩⟩
theorem kX.set {V:au} {O:Nat} {o:VO} (h:o.pl=true):kX V (bu V O o):=by
 refine⟨fun _ h=>h,fun K s io iz ver hole es hK=>?_⟩;simp only [bu,Map.aa] at hK;split at hK
 ·cases hK;cases h
 ·exact .inr ⟨s,io,iz,ver,hole,es,hK,U3 _⟩
theorem kX.name {V:au} {O:Nat} {o:VO} (h:V.us.get O=none):kX V {V with H:=V.H.put (some o) O,us:=V.us.put (some ()) O}:=by
 refine⟨fun O' hO=>?_,fun K s io iz ver hole es hK=>?_⟩
 ·simp only [Map.aa] at hO;split at hO
  ·cases hO
  ·exact hO
 ·simp only [Map.aa] at hK;split at hK
  ·rename_i e;subst e;exact .inl h
  ·exact .inr ⟨s,io,iz,ver,hole,es,hK,U3 _⟩
structure Ext (V:au) (A:bt) (V':au) (A':bt):Prop where
 mono:∀n x,A n=some x->A' n=some x
 new:∀n x,A' n=some x->A n=some x\/V.us.get n.base=none\/∃K v j s io iz ver hole es,n=.i K v j/\V.H.get K=some (.gn K s io iz ver hole es)/\ver < v
 ev:kX V V'
theorem Ext.refl (V:au) (A:bt):Ext V A V A:=⟨fun _ _ h=>h,fun _ _ h=>.inl h,kX.refl V⟩
theorem Ext.CB {V V':au} (A:bt) (h:kX V V'):Ext V A V' A:=⟨fun _ _ h=>h,fun _ _ h=>.inl h,h⟩
theorem Ext.trans {V V1 V2:au} {A A1 A2:bt} (h:Ext V A V1 A1) (h':Ext V1 A1 V2 A2):Ext V A V2 A2:=by
 refine⟨fun n x hx=>h'.mono n x (h.mono n x hx),fun n x hx=>?_,h.ev.trans h'.ev⟩;rcases h'.new n x hx with h1|h1|⟨K,v,j,s,io,iz,ver,hole,es,rfl,h2,h3⟩
 ·exact h.new n x h1
 ·exact .inr (.inl (h.ev.us _ h1))
 ·rcases h.ev.gn K _ _ _ _ _ _ h2 with h4|⟨s1,io1,iz1,v1,qzk,es1,h4,h5⟩
  ·exact .inr (.inl h4)
  ·exact .inr (.inr ⟨K,v,j,s1,io1,iz1,v1,qzk,es1,rfl,h4,by omega⟩)
theorem iw:Can (.l []) (.ei [] 0 (some 0)):=.ei [] [] 0 1 _ rfl rfl (by omega) (fun x hx=>by cases hx) (fun j e h=>by simp at h)
theorem kU {v:AV} (h:er v=true):Can (y9 v) v/\v.flat=true:=by cases v<;>first|(cases h;done)|exact⟨by constructor,rfl⟩
theorem j0:∀l,(cS l).length=l.length
 |[]=>rfl
 |x::xs=>by simp [cS,j0 xs]
theorem pU:∀(l:List AV) (j:Nat),(cS l)[j]?=l[j]?.map y9
 |[],j=>by simp [cS]
 |x::xs,0=>rfl
 |x::xs,j+1=>by simp [cS,pU xs j]
theorem vf:∀(l:List AV) (i j:Nat),bU j (ia i l)=if i<=j then (match l[j - i]? with|some .ay=>some .bX|_=>none) else none
 |[],i,j=>by simp [ia,bU]
 |x::xs,i,j=>by
  have ih:=vf xs (i+1) j;have rest:(if i+1<=j then (match xs[j - (i+1)]? with|some .ay=>some VV.bX|_=>none) else none)=if i<=j then (if i=j then none else (match (x::xs)[j - i]? with|some .ay=>some .bX|_=>none)) else none:=by
   by_cases h:i+1<=j
   ·rw [if_pos h,if_pos (by omega),if_neg (by omega),show j - i=(j - (i+1))+1 by omega,List.getElem?_cons_succ]
   ·rw [if_neg h];by_cases h2:i<=j
    ·rw [if_pos h2,if_pos (by omega)]
    ·rw [if_neg h2]
  by_cases hx:x=.ay
  ·subst hx;simp only [ia,bQ,ih,rest];by_cases h:i<=j
   ·rw [if_pos h,if_pos h];by_cases e:i=j
    ·subst e;simp
    ·rw [if_neg e,if_neg e]
   ·rw [if_neg h,if_neg h,if_neg (by omega)]
  ·have:ia i (x::xs)=ia (i+1) xs:=by cases x<;>first|rfl|exact absurd rfl hx
   rw [this,ih,rest];by_cases h:i<=j
   ·rw [if_pos h,if_pos h];by_cases e:i=j
    ·subst e;rw [if_pos rfl];simp only [Nat.sub_self,List.getElem?_cons_zero];cases x<;>first|rfl|exact absurd rfl hx
    ·rw [if_neg e]
   ·rw [if_neg h,if_neg h]
theorem pP (A:bt) {cs:List AV} (h:cz er cs=true):bq A (.a (cS cs)) (ia 0 cs) cs (cS cs):=by
 refine⟨rfl,j0 cs,fun j w hj=>?_,fun j t x ht hx=>?_⟩
 ·rw [vf,if_pos (U2 _)] at hj;rw [j0];cases hc:cs[j]? with
  |none=>simp [hc] at hj
  |some y=>exact(Uo.1 hc).1
 ·rw [pU,hx] at ht;cases ht;rw [vf,if_pos (U2 _),Nat.sub_zero,hx];have:=kU (aX.1 h x (Uw hx));cases x<;>first|exact this|exact .inl rfl
theorem BD (A:bt) {cs:List AV} (h:cz er cs=true) {ovs:List (Nat×VV)} (ho:∀j w,bU j ovs=some w->bU j (ia 0 cs)=some w):bq A (.a (cS cs)) ovs cs (cS cs):=by
 have h0:=pP A h;refine⟨rfl,j0 cs,fun j w hj=>h0.keys j w (ho j w hj),fun j t x ht hx=>?_⟩;cases hj:bU j ovs with
 |some w=>have:=h0.at_ j t x ht hx;rw [ho j w hj] at this;exact this
 |none=>rw [pU,hx] at ht;cases ht;exact kU (aX.1 h x (Uw hx))
theorem C2 {j:Nat} {w:VV}:∀(cs:List Nat) (l:List (Nat×VV)),bU j (IA cs l)=some w->bU j l=some w
 |[],l,h=>h
 |c::cs,l,h=>by
  have:=C2 cs _ h;rw [gu] at this;split at this
  ·cases this
  ·exact this
theorem Li {sh:Sh} {d:Option Nat} {l:List (Nat×VV)} {j:Nat} {w:VV} (h:bU j (Q4 sh d l)=some w):bU j l=some w:=by
 cases d with
 |none=>exact h
 |some d=>exact C2 _ _ h
theorem C6 (A:bt) (v:AV):VR A (BC v) v:=by
 unfold BC;split
 ·exact .bX
 ·rename_i cs;rw [cond_eq_ite];split
  ·rename_i h;exact .st rfl (pP A h)
  ·exact .bad
 ·exact .bad
 ·rw [cond_eq_ite];split
  ·rename_i h;exact .tr (kU h).1
  ·exact .bad
section
variable {A:bt} {V:au} {st:St} {g:G}
theorem Br {e:Env} {n:Nat} {a:AV} (h:e.get n=some a):ev e (.t n)=a:=by simp only [ev,h]
theorem b8 (h:R A V st) (ha:act g) {x:aR} {k:VV->Prop} (hk:eT V g x k):∃w,VR A w (ev st.env x)/\k w:=by
 cases x with
 |c v=>exact⟨_,C6 A v,hk⟩
 |t n=>
  simp only [eT] at hk;split at hk
  ·cases hk
  rename_i e he;obtain⟨a,h1,h2⟩:=h.env n e he;split at hk
  ·rename_i hg;exact⟨e.v,by rw [Br h1];exact h2 (fun c bb hc=>by rw [hg] at hc;cases hc),hk⟩
  ·rename_i q hq;split at hk
   ·cases hk
   rename_i p;obtain⟨rfl,hk⟩:=hk;exact⟨e.v,by rw [Br h1];exact h2 (fun c bb hc=>by rw [hq] at hc;cases hc;exact ha),hk⟩
theorem yf:∀(ovs:List (Nat×VV)) (ts:List TV) (u:TV),kn ovs (.a ts)=some u->
  ∃us,u=.a us/\us.length=ts.length/\∀j,us[j]?=(match bU j ovs with|some _=>(if j < ts.length then some (.l []) else none)|none=>ts[j]?)/\∀w,bU j ovs=some w->w=.bX
 |[],ts,u,h=>by cases h;exact⟨ts,rfl,rfl,fun j=>⟨rfl,fun w hw=>by cases hw⟩⟩
 |(off,w)::r,ts,u,h=>by
  unfold kn at h;split at h;rotate_left
  ·cases h
  split at h;rotate_left
  ·cases h
  rename_i u' hu';obtain⟨us,rfl,hl,ha⟩:=yf r ts u' hu';obtain⟨ts',xs,us',h1,h2,h3,h4,h5,h6,h7⟩:=cu h;cases h1;cases h2;have hu:u=.a us':=by
   cases u<;>first|(cases h4;rfl)|skip
   all_goals
    unfold bf at h;simp only [b_,cond_eq_ite] at h;split at h
    ·split at h<;>cases h
    ·cases h
  refine⟨us',hu,by rw [h5,hl],fun j=>?_⟩;rw [h7 j,bQ];by_cases e:off=j
  ·subst e;rw [if_pos (by omega),if_pos rfl,Nat.sub_self];refine⟨?_,fun w' hw'=>by cases hw';rfl⟩;simp only;rw [if_pos (by rw [←hl];omega)];rfl
  ·rw [if_neg (by omega),if_neg e];exact ha j
theorem HP {v u:TV} {ovs:List (Nat×VV)} {cs:List AV} {ts:List TV} (h:bq A v ovs cs ts) (hv:v=.a ts) (hu:kn ovs v=some u):Can u (.agg cs):=by
 subst hv;obtain⟨us,rfl,hl,ha⟩:=yf ovs ts u hu;have at_:∀(j:Nat) (t:TV) (x:AV),us[j]?=some t->cs[j]?=some x->Can t x/\x.flat=true:=by
  intro j t x ht hx;have hlt:j < ts.length:=by rw [h.len];exact(Uo.1 hx).1
  have hc:=h.at_ j _ x (Un hlt) hx;obtain⟨h1,h2⟩:=ha j;rw [h1] at ht;cases ho:bU j ovs with
  |none=>rw [ho] at ht hc;simp only at ht;rw [Un hlt] at ht;cases ht;exact hc
  |some w=>
   rw [ho] at ht hc;simp only at ht;rw [if_pos hlt] at ht;cases ht;obtain rfl:=h2 w ho;rcases hc with rfl|rfl
   ·exact⟨.nil,rfl⟩
   ·exact⟨iw,rfl⟩
 refine .a _ _ (by rw [hl,h.len]) (fun x hx=>?_) (fun j t x ht hx=>(at_ j t x ht hx).1);obtain⟨j,hj⟩:=List.getElem?_of_mem hx;have hlt:j < us.length:=by rw [hl,h.len];exact(Uo.1 hj).1
 exact(at_ j _ x (Un hlt) hj).2
theorem AJ {w:VV} {a:AV} (hv:VR A w a) {k:TV->Prop} (hk:BX w k):∃v,Can v a/\k v:=by
 cases hv<;>first|(cases hk;done)|skip
 ·rename_i v hc;exact⟨v,hc,hk⟩
 ·exact⟨_,.nil,hk⟩
 ·exact⟨_,iw,hk⟩
 ·rename_i hv h;obtain⟨u,h1,h2⟩:=hk;exact⟨u,HP h hv h1,h2⟩
theorem cm (h:R A V st) (ha:act g) {x:aR} {k:TV->Prop} (hk:j7 V g x k):∃v,Can v (ev st.env x)/\k v:=by obtain⟨w,h1,h2⟩:=b8 h ha hk;exact AJ h1 h2
theorem HD (h:R A V st) (ha:act g) {x:Option aR} {k:Option TV->Prop} (hk:va V g x k):∃v,k v/\(match x with|none=>v=none|some x=>∃u,v=some u/\Can u (ev st.env x)):=by
 cases x with
 |none=>exact⟨none,hk,rfl⟩
 |some x=>obtain⟨v,h1,h2⟩:=cm h ha hk;exact⟨some v,h2,v,rfl,h1⟩
theorem Ck (h:R A V st) (ha:act g):∀{xs:List aR} {k:List TV->Prop},Hg V g xs k->∃vs,pY vs (xs.map (ev st.env))/\k vs
 |[],k,hk=>⟨[],⟨rfl,fun j t x ht=>by simp at ht⟩,hk⟩
 |x::xs,k,hk=>by
  obtain⟨v,h1,h2⟩:=cm h ha hk;obtain⟨vs,h3,h4⟩:=Ck h ha h2;refine⟨v::vs,⟨by simp [h3.1],fun j t y ht hy=>?_⟩,h4⟩;cases j with
  |zero=>simp at ht hy;subst ht;subst hy;exact h1
  |succ j=>simp at ht hy;exact h3.2 j t y ht (by simpa using hy)
end
theorem jj {A:bt} (hone:∀O a,A O=some a->a.one=true) {w:VV} {a:AV} (hv:VR A w a) {t:TV} {o:List (Nat×VV)} (hs:GH w=some (t,o)) {ts:List TV} (hc:b_ t=some ts) :
  ∃as,a.cells?=some as/\bq A t o as ts:=by
 have single:∀{w:VV} {x:AV},AE A w x->x.cells?=some [x]->bq A (.l []) [(0,w)] [x] [.l []]:=fun {w x} h1 h2=>
  ⟨rfl,rfl,(fun j u hj=>by
   rw [bQ] at hj;split at hj
   ·subst_vars;simp
   ·cases hj),(fun j u y hu hy=>by
   cases j with
   |zero=>simp at hu hy;subst hu;subst hy;rw [bQ,if_pos rfl];exact h1
   |succ j=>simp at hu)⟩
 cases hv<;>first|(cases hs;done)|skip
 ·rename_i v h;cases hs;obtain⟨as,h1,h2⟩:=vR h hc;exact⟨as,h1,hc,h2.1.1,fun j w hj=>by simp [bU] at hj,fun j u x hu hx=>⟨h2.1.2 j u x hu hx,h2.2 x (Uw hx)⟩⟩
 ·cases hs;cases hc;exact⟨_,rfl,single (.inl rfl) rfl⟩
 ·cases hs;cases hc;exact⟨_,rfl,single (.inr rfl) rfl⟩
 ·rename_i O h;cases hs;cases hc;have hc:a.cells?=some [a]:=by have:=hone _ _ h;cases a<;>first|rfl|cases this
  exact⟨_,hc,single (w:=.sl O) h hc⟩
 ·rename_i v ovs cs ts' hv' h;cases hs;have:=h.cells.symm.trans hc;cases this;exact⟨_,rfl,h⟩
 ·rename_i O v i h;cases hs;cases hc;have hc:a.cells?=some [a]:=by have:=hone _ _ h;cases a<;>first|rfl|cases this
  exact⟨_,hc,single (w:=.ow O v i) h hc⟩
theorem gR {A:bt} {v u t:TV} {ovs o:List (Nat×VV)} {cs as:List AV} {vs ts:List TV} {off n:Nat} (hv:bq A v ovs cs vs) (ht:bq A t o as ts) (hp:bf v off n t=some u) :
  as.length=n/\∃cs' us,dz cs off as=some cs'/\bq A u (tv off o (lA off n ovs)) cs' us/\(∀l,v=.a l->∃l',u=.a l'):=by
 obtain⟨ts',xs,us,h1,h2,h3,h4,h5,h6,h7⟩:=cu hp;have e1:=hv.cells.symm.trans h1;cases e1;have e2:=ht.cells.symm.trans h2;cases e2;have hn:as.length=n:=by rw [←ht.len];exact h3
 have hov:dz cs off as=some (cs.take off++as++cs.drop (off+as.length)):=by rw [jg,if_pos (by rw [hn,←hv.len];exact h6)]
 obtain⟨hl',hat⟩:=e9 hov;refine⟨hn,_,us,hov,⟨h4,by rw [h5,hl',hv.len],fun j w hj=>?_,fun j t' x ht' hx=>?_⟩,fun l e=>?_⟩
 ·rw [yc] at hj;rw [h5];by_cases ho:off<=j
  ·simp only [if_pos ho] at hj;cases hq:bU (j - off) o with
   |some w'=>have:=ht.keys _ _ hq;omega
   |none=>
    rw [hq,gu] at hj;simp only at hj;split at hj
    ·cases hj
    ·exact hv.keys _ _ hj
  ·simp only [if_neg ho,gu] at hj;split at hj
   ·cases hj
   ·exact hv.keys _ _ hj
 ·rw [h7] at ht';rw [hat,hn] at hx;rw [yc];by_cases hc:off<=j/\j < off+n
  ·rw [if_pos hc] at ht' hx;simp only [if_pos hc.1];have:=ht.at_ _ _ _ ht' hx;cases hq:bU (j - off) o with
   |some w'=>rw [hq] at this;exact this
   |none=>rw [hq] at this;simp only [gu,if_pos hc];exact this
  ·rw [if_neg hc] at ht' hx;have:=hv.at_ _ _ _ ht' hx;by_cases ho:off<=j
   ·simp only [if_pos ho];cases hq:bU (j - off) o with
    |some w'=>have:=ht.keys _ _ hq;omega
    |none=>simp only [gu,if_neg hc];exact this
   ·simp only [if_neg ho,gu,if_neg hc];exact this
 ·subst e;unfold bf at hp;simp only [h2,h3,cond_eq_ite,UQ,if_pos rfl] at hp;split at hp
  ·split at hp
   ·exact⟨_,(U0 hp).symm⟩
   ·cases hp
  ·rename_i hh;exact absurd (by first|rfl|trivial) hh
end Go.Ax.V
namespace Go.Ax.V
theorem xX {g:G} (ha:act g) {P k:TV->Prop} (h:G7 g P k):∃v,P v/\k v:=by
 cases g with
 |none=>exact h
 |some p=>obtain⟨c,bb⟩:=p;obtain⟨v,h1,h2⟩:=h;have hc:c=.b bb:=ha;subst hc;refine⟨v,?_,h2⟩;unfold gV at h1;cases bb<;>exact h1
theorem lU {g:G} (ha:act g) {P:Option Nat} {k:Nat->Prop} (h:Cd g P k):∃n,P=some n/\k n:=by
 cases g with
 |none=>exact h
 |some p=>obtain⟨c,bb⟩:=p;obtain⟨n,h1,h2⟩:=h;exact⟨n,h1 ha,h2⟩
def Next (nt:Nat) (A:bt) (V:au) (st:St) (d:Option Nat) (v:AV) (H':aU) (nx':Nat) (k:au->Prop):Prop:=
 ∃e',u5 nt st.env d v=some e'/\∃V' A',R A' V' ⟨e',H',nx'⟩/\Fr V A st.H st.nx V' A' H' nx'/\Ext V A V' A'/\k V'
theorem R.put {A:bt} {V:au} {st:St} (h:R A V st) {d:Nat} {e:VE} {v:AV} (hv:(∀c bb,e.gd=some (c,bb)->c=.b bb)->VR A e.v v) :
  R A {V with env:=V.env.put (some e) d} ⟨st.env.put (some v) d,st.H,st.nx⟩ where
 env t e' he:=by
  simp only [Map.aa] at he ⊢;split at he
  ·rename_i ht;subst ht;cases he;exact⟨v,by rw [if_pos rfl],hv⟩
  ·rename_i ht;rw [if_neg ht];exact h.env t e' he
 heap:=h.heap
 inj:=h.inj
 used:=h.used
 one:=h.one
 fresh:=h.fresh
 gh:=h.gh
theorem lV {nt:Nat} {A:bt} {V:au} {st:St} {A1:bt} {V1:au} {H':aU} {nx':Nat} {d:Option Nat} {g:G} {w:VV} {v:AV} {k:au->Prop}
  (hR:R A1 V1 ⟨st.env,H',nx'⟩) (hF:Fr V A st.H st.nx V1 A1 H' nx') (hx:Ext V A V1 A1) (hv:act g->VR A1 w v) (h:dh nt V1 d g w k):Next nt A V st d v H' nx' k:=by
 cases d with
 |none=>exact⟨st.env,rfl,V1,A1,hR,hF,hx,h⟩
 |some d=>
  simp only [dh,cond_eq_ite] at h;split at h
  ·rename_i hd;refine⟨st.env.put (some v) d,by simp only [u5,cond_eq_ite,if_pos hd],_,A1,hR.put (e:=⟨g,w⟩) (fun hh=>hv ?_),⟨hF.le,hF.same,hF.own⟩,⟨hx.mono,hx.new,hx.ev.us,hx.ev.gn⟩,h⟩;cases g with
   |none=>trivial
   |some p=>exact hh _ _ rfl
  ·cases h
theorem av {nt:Nat} {A:bt} {V:au} {st:St} (hR:R A V st) {d:Option Nat} {g:G} {w:VV} {v:AV} {k:au->Prop} (hv:act g->VR A w v) (h:dh nt V d g w k):Next nt A V st d v st.H st.nx k:=
 lV (A1:=A) (V1:=V) hR (Fr.refl _ _ _ _) (Ext.refl _ _) hv h
theorem bl {nt:Nat} {A:bt} {V:au} {st:St} (hR:R A V st) {d:Option Nat} {g:G} (ha:act g) {P:Option TV} {k:au->Prop} (h:eU nt V d g P k) :
  ∃r,P=some r/\∀v,Can r v->Next nt A V st d v st.H st.nx k:=by
 obtain⟨r,h1,h2⟩:=xX ha h;exact⟨r,h1,fun v hv=>av hR (fun _=>.tr hv) h2⟩
theorem R.sub {A:bt} {V V':au} {st:St} (h:R A V st) (he:V'.env=V.env) (hu:V'.us=V.us) (hH:∀O o,V'.H.get O=some o->V.H.get O=some o):R A V' st where
 env t e hh:=h.env t e (by rw [←he];exact hh)
 heap O o hh:=h.heap O o (hH O o hh)
 inj O O' o o' a a' id h1 h2:=h.inj O O' o o' a a' id (hH _ _ h1) (hH _ _ h2)
 used O hh:=h.used O (by rw [←hu];exact hh)
 one:=h.one
 fresh:=h.fresh
 gh O o a ho ha:=h.gh O o a (hH _ _ ho) ha
theorem eO {V:au} {O O':Nat} {o:VO} (h:(bT V O).H.get O'=some o):O'≠O/\V.H.get O'=some o:=by
 simp only [bT,Map.aa] at h;split at h
 ·cases h
 ·rename_i hne;exact⟨hne,h⟩
theorem R.bT {A:bt} {V:au} {st:St} (h:R A V st) (O:Nat):R A (bT V O) st:=
 h.sub rfl rfl (fun O' o hh=>(eO hh).2)
def mb (A:bt) (d:Nat) (a:AV) (inn:Nat->Option AV):bt
 |.s O=>if O=d then some a else A (.s O)
 |.i K v j=>if K=d then (if v=0 then inn j else none) else A (.i K v j)
theorem nj {A:bt} {d:Nat} {a:AV} {inn:Nat->Option AV}:mb A d a inn (.s d)=some a:=if_pos rfl
theorem fy {A:bt} {d:Nat} {a:AV} {inn:Nat->Option AV} {n:TN} (h:n.base≠d):mb A d a inn n=A n:=by cases n<;>exact if_neg h
theorem Iq {A:bt} {d:Nat} {a:AV} {inn:Nat->Option AV} {j:Nat}:mb A d a inn (.i d 0 j)=inn j:=by simp only [mb,if_pos]
theorem Fc {A:bt} {d:Nat} {a:AV} {inn:Nat->Option AV} {v j:Nat} (hv:0 < v):mb A d a inn (.i d v j)=none:=by simp only [mb,if_pos,if_neg (show ¬v=0 by omega)]
theorem vz {A:bt} {d:Nat} {a:AV} {inn:Nat->Option AV} (h:∀n:TN,n.base=d->A n=none):∀O x,A O=some x->mb A d a inn O=some x:=fun O x hx=>by rw [fy (fun he=>by rw [h O he] at hx;cases hx)];exact hx
theorem oS {A:bt} {d:Nat} {a:AV} {inn:Nat->Option AV} {O:Nat} {o:VO} {x:AV} {id:Nat} (hne:O≠d) (hv:jq A O x o):dX (mb A d a inn) o x id↔dX A o x id:=by
 cases o with
 |gn K s io iz ver hole es=>
  obtain⟨rfl,_⟩:=hv;have e:∀j,mb A d a inn (.i K ver j)=A (.i K ver j):=fun j=>fy hne
  simp only [dX,e]
 |_=>exact Iff.rfl
theorem Ip {A:bt} {d:Nat} {a:AV} {inn:Nat->Option AV} {O:Nat} {o:VO} {x:AV} (hne:O≠d) (hv:jq A O x o):jq (mb A d a inn) O x o:=by
 cases o with
 |gn K s io iz ver hole es=>
  obtain⟨rfl,h1,h0,h2,h3⟩:=hv;have e:∀v j,mb A d a inn (.i K v j)=A (.i K v j):=fun v j=>fy hne
  refine⟨rfl,fun v j hv=>by rw [e];exact h1 v j hv,fun j x=>by rw [e];exact h0 j x,fun j j' x x' id=>?_,fun j x id=>?_⟩
  ·rw [e,e];exact h2 j j' x x' id
  ·rw [e];exact h3 j x id
 |_=>trivial
theorem KZ {A:bt} {V:au} {e:Env} {H':aU} {nx':Nat} {d:Nat} {o:VO} {a:AV} {inn:Nat->Option AV} (qxq:∀t q,V.env.get t=some q->∃x,e.get t=some x/\((∀c bb,q.gd=some (c,bb)->c=.b bb)->VR A q.v x))
  (qzu:∀(O:Nat) o,V.H.get O=some o->∃x,A O=some x/\OR A H' o x)
  (hinj:∀(O O':Nat) o o' a a' id,V.H.get O=some o->V.H.get O'=some o'->A O=some a->A O'=some a'->dX A o a id->dX A o' a' id->O=O')
  (qzd:∀n:TN,V.us.get n.base=none->A n=none) (hone:∀n a,A n=some a->a.one=true) (qxn:∀id ob,H'.get id=some ob->id < nx') (qxM:∀(O:Nat) o a,V.H.get O=some o->A O=some a->jq A O a o)
  (hus:V.us.get d=none) (h1:a.one=true) (hi1:∀j x,inn j=some x->x.one=true) (hO:OR (mb A d a inn) H' o a) (qzN:jq (mb A d a inn) d a o)
  (hid:∀id,dX (mb A d a inn) o a id->¬cY V A id):R (mb A d a inn) {V with H:=V.H.put (some o) d,us:=V.us.put (some ()) d} ⟨e,H',nx'⟩:=by
 have hnone:∀n:TN,n.base=d->A n=none:=fun n hn=>qzd n (by rw [hn];exact hus)
 have hA':=vz (a:=a) (inn:=inn) hnone;have hnd:∀(O:Nat) o',V.H.get O=some o'->O≠d:=fun O o' ho he=>by obtain⟨x,hx,_⟩:=qzu O o' ho;rw [hnone (.s O) he] at hx;cases hx
 refine⟨fun t q he=>?_,fun O o' ho=>?_,fun O O' o1 o2 a1 a2 id ho1 ho2 ha1 ha2 hi1 hi2=>?_,fun n hu=>?_,fun n x hx=>?_,qxn,fun O o' x ho hx=>?_⟩
 ·obtain⟨x,hx,hv⟩:=qxq t q he;exact⟨x,hx,fun hh=>(hv hh).mono hA'⟩
 ·simp only [Map.aa] at ho;split at ho
  ·rename_i hd;subst hd;cases ho;exact⟨a,nj,hO⟩
  ·obtain⟨x,hx,hor⟩:=qzu O o' ho;exact⟨x,hA' _ _ hx,hor.mono hA' (fun _ _=>rfl)⟩
 ·simp only [Map.aa] at ho1 ho2;by_cases e1:O=d
  ·by_cases e2:O'=d
   ·rw [e1,e2]
   ·subst e1;rw [if_neg e2] at ho2;rw [if_pos rfl] at ho1;cases ho1;have qzC:A O'=some a2:=by rwa [fy (n:=.s O') e2] at ha2
    rw [nj] at ha1;cases ha1;rw [oS e2 (qxM O' _ _ ho2 qzC)] at hi2;exact absurd ⟨O',_,a2,ho2,qzC,hi2⟩ (hid id hi1)
  ·rw [if_neg e1] at ho1;have qjf:A O=some a1:=by rwa [fy (n:=.s O) e1] at ha1
   rw [oS e1 (qxM O _ _ ho1 qjf)] at hi1;by_cases e2:O'=d
   ·subst e2;rw [if_pos rfl] at ho2;cases ho2;rw [nj] at ha2;cases ha2;exact absurd ⟨O,_,a1,ho1,qjf,hi1⟩ (hid id hi2)
   ·rw [if_neg e2] at ho2;have qzC:A O'=some a2:=by rwa [fy (n:=.s O') e2] at ha2
    rw [oS e2 (qxM O' _ _ ho2 qzC)] at hi2;exact hinj O O' _ _ a1 a2 id ho1 ho2 qjf qzC hi1 hi2
 ·simp only [Map.aa] at hu;split at hu
  ·cases hu
  ·rename_i hne;rw [fy hne];exact qzd n hu
 ·by_cases e:n.base=d
  ·cases n with
   |s O=>have e':O=d:=e;subst e';rw [nj] at hx;cases hx;exact h1
   |i K v j=>
    have e':K=d:=e;subst e';simp only [mb,if_pos] at hx;split at hx
    ·exact hi1 j x hx
    ·cases hx
  ·rw [fy e] at hx;exact hone n x hx
 ·simp only [Map.aa] at ho;by_cases e:O=d
  ·subst e;rw [if_pos rfl] at ho;cases ho;rw [nj] at hx;cases hx;exact qzN
  ·rw [if_neg e] at ho;have hx':A O=some x:=by rwa [fy (n:=.s O) e] at hx
   exact Ip e (qxM O o' x ho hx')
theorem z9 {nt:Nat} {A:bt} {V0 V:au} {st:St} {d:Option Nat} {g:G} {wf:Nat->VV} {o:VO} {k:au->Prop} {a v:AV} {H':aU} {nx':Nat} {inn:Nat->Option AV}
  (hR:R A V st) (qxJ:∀id,cY V A id->cY V0 A id) (h:jv nt V d g wf o k) (hle:st.nx<=nx') (qxn:∀id ob,H'.get id=some ob->id < nx')
  (hkeep:∀id,cY V A id->H'.get id=st.H.get id) (hsame:∀id,id < st.nx->¬cY V0 A id->H'.get id=st.H.get id) (hi1:∀j x,inn j=some x->x.one=true)
  (hO:∀(A':bt) (dd:Nat),d=some dd->(∀O x,A O=some x->A' O=some x)->(∀j,A' (.i dd 0 j)=inn j)->(∀v j,0 < v->A' (.i dd v j)=none)->OR A' H' o a/\jq A' dd a o/\∀id,dX A' o a id->¬cY V A id/\(cY V0 A id\/st.nx<=id)) (h1:a.one=true)
  (hw:∀(A':bt) (O:Nat),A' O=some a->VR A' (wf O) v) (hev:kX V0 V):Next nt A V0 st d v H' nx' k:=by
 unfold jv at h;split at h
 ·cases h
 split at h
 ·cases h
 rename_i d;split at h
 ·cases h
 rename_i hus;have hnone:∀n:TN,n.base=d->A n=none:=fun n hn=>hR.used n (by rw [hn];exact hus)
 have hA':=vz (a:=a) (inn:=inn) hnone;obtain⟨hO1,hO2,hO3⟩:=hO (mb A d a inn) d rfl hA' (fun j=>Iq) (fun v j hv=>Fc hv);have qzt:∀(O:Nat) o,V.H.get O=some o->∃x,A O=some x/\OR A H' o x:=fun O o' ho=>by obtain⟨x,hx,hor⟩:=hR.heap O o' ho;exact⟨x,hx,hor.mono (fun _ _ h=>h) (fun id hi=>hkeep id ⟨O,o',x,ho,hx,hi⟩)⟩
 refine lV (A1:=mb A d a inn) (V1:={V with H:=V.H.put (some o) d,us:=V.us.put (some ()) d}) (KZ hR.env qzt hR.inj hR.used hR.one qxn hR.gh hus h1 hi1 hO1 hO2 (fun id hi=>(hO3 id hi).1)) ?_ ⟨hA',fun n x hx=>?_,hev.trans (kX.name hus)⟩ (fun _=>hw _ d nj) h
 ·refine⟨hle,hsame,fun id ⟨O,o',x,ho,hx,hi⟩=>?_⟩;simp only [Map.aa] at ho;by_cases e:O=d
  ·subst e;rw [if_pos rfl] at ho;cases ho;rw [nj] at hx;cases hx;exact(hO3 id hi).2
  ·rw [if_neg e] at ho;have hx':A O=some x:=by rwa [fy (n:=.s O) e] at hx
   rw [oS e (hR.gh O _ _ ho hx')] at hi;exact .inl (qxJ id ⟨O,o',x,ho,hx',hi⟩)
 ·by_cases e:n.base=d
  ·exact .inr (.inl (by rw [e];exact hev.us _ hus))
  ·exact .inl (by rwa [fy e] at hx)
theorem sk {nt:Nat} {A:bt} {V0 V:au} {st:St} {d:Option Nat} {g:G} {wf:Nat->VV} {o:VO} {k:au->Prop} {a v:AV} {H':aU} {nx':Nat}
  (hR:R A V st) (qxJ:∀id,cY V A id->cY V0 A id) (h:jv nt V d g wf o k) (hle:st.nx<=nx') (qxn:∀id ob,H'.get id=some ob->id < nx')
  (hkeep:∀id,cY V A id->H'.get id=st.H.get id) (hsame:∀id,id < st.nx->¬cY V0 A id->H'.get id=st.H.get id)
  (hO:∀A':bt,(∀O x,A O=some x->A' O=some x)->OR A' H' o a) (h1:a.one=true) (hid:∀id,cX a=some id->¬cY V A id/\(cY V0 A id\/st.nx<=id))
  (hw:∀(A':bt) (O:Nat),A' O=some a->VR A' (wf O) v) (hpl:o.pl=true) (hev:kX V0 V):Next nt A V0 st d v H' nx' k:=
 z9 (inn:=fun _=>none) hR qxJ h hle qxn hkeep hsame (fun j x h=>by cases h) (fun A' dd _ h2 _ _=>⟨hO A' h2,uP hpl,fun id hi=>hid id ((dj hpl).1 hi)⟩) h1 hw hev
theorem z8 {nt:Nat} {A:bt} {V0 V:au} {st:St} {d:Option Nat} {g:G} {wf:Nat->VV} {o:VO} {k:au->Prop} {a v:AV} {H':aU} {nx':Nat}
  (hR:R A V st) (hsub:∀O o,V.H.get O=some o->V0.H.get O=some o) (h:jv nt V d g wf o k) (hle:st.nx<=nx') (qxn:∀id ob,H'.get id=some ob->id < nx')
  (hkeep:∀id,cY V A id->H'.get id=st.H.get id) (hsame:∀id,id < st.nx->¬cY V0 A id->H'.get id=st.H.get id)
  (hO:∀A':bt,(∀O x,A O=some x->A' O=some x)->OR A' H' o a) (h1:a.one=true) (hid:∀id,cX a=some id->¬cY V A id/\(cY V0 A id\/st.nx<=id))
  (hw:∀(A':bt) (O:Nat),A' O=some a->VR A' (wf O) v) (hpl:o.pl=true:=by rfl) (hu:V.us=V0.us:=by rfl):Next nt A V0 st d v H' nx' k:=
 sk hR (fun id ⟨O,o,a,h1,h2,h3⟩=>⟨O,o,a,hsub _ _ h1,h2,h3⟩) h hle qxn hkeep hsame hO h1 hid hw hpl (kX.Nd hu hsub)
theorem ku {nt:Nat} {A:bt} {V:au} {st:St} {d:Option Nat} {g:G} {wf:Nat->VV} {o:VO} {k:au->Prop} {a v:AV} {ob:fZ}
  (hR:R A V st) (h:jv nt V d g wf o k) (hO:∀A':bt,(∀O x,A O=some x->A' O=some x)->OR A' (st.H.put (some ob) st.nx) o a) (h1:a.one=true) (hid:cX a=some st.nx)
  (hw:∀(A':bt) (O:Nat),A' O=some a->VR A' (wf O) v) (hpl:o.pl=true:=by rfl):Next nt A V st d v (st.H.put (some ob) st.nx) (st.nx+1) k:=by
 have hno:∀id,cY V A id->id≠st.nx:=fun id ho he=>by have:=hR.h_ ho;omega
 refine z8 (V0:=V) hR (fun _ _ h=>h) h (Nat.le_succ _) (fun id o' hh=>?_) (fun id ho=>by rw [Map.aa,if_neg (hno id ho)])
  (fun id hlt _=>by rw [Map.aa,if_neg (by omega)]) hO h1 (fun id hi=>?_) hw hpl
 ·rw [Map.aa] at hh;split at hh
  ·omega
  ·have:=hR.fresh _ _ hh;omega
 ·rw [hid] at hi;cases hi;exact⟨fun ho=>hno _ ho rfl,.inr (U3 _)⟩
theorem s9 {A:bt} {V:au} {st:St} (hR:R A V st) {O:Nat} {o0 o:VO} {a:AV} {id:Nat} {ob:fZ} (hV:V.H.get O=some o0) (hA:A O=some a) (hi:dX A o0 a id)
  (hO:OR A (st.H.put (some ob) id) o a) (qxl:∀id,dX A o a id->dX A o0 a id) (qzN:jq A O a o0->jq A O a o):R A (bu V O o) ⟨st.env,st.H.put (some ob) id,st.nx⟩/\Fr V A st.H st.nx (bu V O o) A (st.H.put (some ob) id) st.nx:=by
 have hown:cY V A id:=⟨O,o0,a,hV,hA,hi⟩;have get':∀(O':Nat) o' x id',(bu V O o).H.get O'=some o'->A O'=some x->dX A o' x id'->∃o'',V.H.get O'=some o''/\dX A o'' x id':=fun O' o' x id' hh hx hi'=>by
  simp only [bu,Map.aa] at hh;split at hh
  ·rename_i e;subst e;cases hh;rw [hA] at hx;cases hx;exact⟨_,hV,qxl _ hi'⟩
  ·exact⟨_,hh,hi'⟩
 refine⟨⟨hR.env,fun O' o' ho=>?_,fun O1 O2 o1 o2 a1 a2 id' ho1 ho2 h1 h2 i1 i2=>?_,hR.used,hR.one,fun id' o' hh=>?_,fun O' o' x ho hx=>?_⟩,⟨U3 _,fun id' _ hn=>?_,fun id' ⟨O',o',x,h1,h2,h3⟩=>?_⟩⟩
 ·simp only [bu,Map.aa] at ho;by_cases e:O'=O
  ·subst e;rw [if_pos rfl] at ho;cases ho;exact⟨a,hA,hO⟩
  ·rw [if_neg e] at ho;obtain⟨x,hx,hor⟩:=hR.heap O' o' ho;refine⟨x,hx,hor.mono (fun _ _ h=>h) (fun id' hi'=>?_)⟩;rw [Map.aa,if_neg];rintro rfl;exact e (hR.inj O' O _ _ x a _ ho hV hx hA hi' hi)
 ·obtain⟨p1,h3,h4⟩:=get' _ _ _ _ ho1 h1 i1;obtain⟨p2,h5,h6⟩:=get' _ _ _ _ ho2 h2 i2;exact hR.inj O1 O2 _ _ a1 a2 id' h3 h5 h1 h2 h4 h6
 ·have hh':(st.H.put (some ob) id).get id'=some o':=hh;rw [Map.aa] at hh';split at hh'
  ·rename_i e;subst e;exact hR.h_ hown
  ·exact hR.fresh _ _ hh'
 ·simp only [bu,Map.aa] at ho;split at ho
  ·rename_i e;subst e;cases ho;rw [hA] at hx;cases hx;exact qzN (hR.gh _ _ _ hV hA)
  ·exact hR.gh _ _ _ ho hx
 ·rw [Map.aa,if_neg];rintro rfl;exact hn hown
 ·obtain⟨o'',h4,h5⟩:=get' _ _ _ _ h1 h2 h3;exact .inl ⟨O',o'',x,h4,h2,h5⟩
theorem oJ {a:AV} (h:a.flat=true) (d:Nat) (H:aU):bk (d+1) H a=some a:=by cases a<;>first|rfl|cases h
theorem vh {cs:List AV} (h:∀x∈cs,AV.flat x=true) (d:Nat) (H:aU):fo (bk (d+1) H) cs=some cs:=by
 induction cs with
 |nil=>rfl
 |cons x cs ih=>rw [cx,oJ (h x UG),ih (fun y hy=>h y (UH _ hy))]
theorem zY {a:AV} (h:a.iS=true):a.flat=true\/∃cs,a=.agg cs/\∀x∈cs,AV.flat x=true:=by cases a<;>first|exact .inr ⟨_,rfl,aX.1 h⟩|exact .inl h
theorem Cp {a:AV} (h:a.plain=true):a.iS=true\/∃cs,a=.iR cs/\∀x∈cs,AV.iS x=true:=by cases a<;>first|exact .inr ⟨_,rfl,aX.1 h⟩|exact .inl h
theorem yx {a:AV} (h:a.iS=true) (d:Nat) (H:aU):bk (d+2) H a=some a:=by
 rcases zY h with h|⟨cs,rfl,h'⟩
 ·exact oJ h (d+1) H
 ·rw [gI,vh h']
theorem CG {cs:List AV} (h:∀x∈cs,AV.iS x=true) (d:Nat) (H:aU):fo (bk (d+2) H) cs=some cs:=by
 induction cs with
 |nil=>rfl
 |cons x cs ih=>rw [cx,yx (h x UG),ih (fun y hy=>h y (UH _ hy))]
theorem jY {a:AV} (h:a.plain=true) (d:Nat) (H:aU):bk (d+3) H a=some a:=by
 rcases Cp h with h|⟨cs,rfl,h'⟩
 ·exact yx h (d+1) H
 ·rw [jU,CG h']
theorem jc {t:TV} {a:AV} (h:Can t a):a.plain=true:=by
 cases h with
 |a ts as hl hf h=>exact aX.2 hf
 |tp ts as hl hf h=>exact aX.2 hf
 |A8 x u hf h=>revert hf;cases a<;>intro hf<;>first|rfl|cases hf
 |_=>rfl
theorem BA {sz:Nat} {es:List TV} {cs:List AV} (hz:0 < sz) (h:BK sz es cs) (c:Option Nat):Can (.l es) (.ei cs es.length c):=
 .ei es cs es.length sz c rfl h.len hz h.flat h.el
theorem AM {H:aU} {sz:Nat} {es:List TV} {a:AV} (h:wX H sz es a) (d:Nat):∃a',bk (d+2) H a=some a'/\Can (.l es) a'/\a'.flat=true/\(a.plain=true->a'=a)/\a.one=true:=by
 obtain⟨hz,h⟩:=h;rcases h with ⟨rfl,rfl|rfl⟩|⟨id,g,b,cells,rfl,hH,hb,he⟩
 ·exact⟨_,rfl,.nil,rfl,fun _=>rfl,rfl⟩
 ·exact⟨_,rfl,iw,rfl,fun _=>rfl,rfl⟩
 ·have hl:cells.length=b+es.length*sz:=by have:=he.len;rw [UB] at this;omega
  refine⟨.ei (cells.drop b) es.length none,?_,BA hz he _,rfl,(fun hp=>by cases hp),rfl⟩;rw [gH,hH];simp only [cond_eq_ite,UQ,if_pos];have:cut cells b (Nat.mul es.length sz)=some (cells.drop b):=by rw [dy,if_pos (by show b+es.length*sz<=_;omega),UZ];rw [UB];show _<=es.length*sz;omega
  rw [this];simp only [vh he.flat]
theorem D_ {a:AV} (h:a.flat=true):a.plain=true:=by cases a<;>first|rfl|cases h
theorem Bi {f:AV->Option AV}:∀{cs:List AV} (P:Nat->AV->AV->Prop),(∀j x,cs[j]?=some x->∃y,f x=some y/\P j x y)->∃l,fo f cs=some l/\l.length=cs.length/\∀j x y,cs[j]?=some x->l[j]?=some y->P j x y
 |[],P,h=>⟨[],rfl,rfl,fun j x y hx=>by simp at hx⟩
 |x::cs,P,h=>by
  obtain⟨y,h1,h2⟩:=h 0 x rfl;obtain⟨l,h3,h4,h5⟩:=Bi (f:=f) (cs:=cs) (fun j=>P (j+1)) (fun j x hx=>h (j+1) x hx);refine⟨y::l,by rw [cx,h1,h3],by simp [h4],fun j x' y' hx hy=>?_⟩;cases j with
  |zero=>simp at hx hy;subst hx;subst hy;exact h2
  |succ j=>exact h5 j x' y' (by simpa using hx) (by simpa using hy)
theorem Il {A:bt} {H:aU} {K s io iz ver:Nat} {es:List TV} {a:AV} (h:OR A H (.gn K s io iz ver none es) a) (d:Nat):∃a',bk (d+3) H a=some a'/\Can (.l es) a'/\a'.flat=true/\(a.plain=true->a'=a):=by
 obtain⟨hs,hio,hiz,h⟩:=h;rcases h with ⟨rfl,rfl|rfl⟩|⟨id,g,b,cells,rfl,hH,hb,he⟩
 ·exact⟨_,rfl,.nil,rfl,fun _=>rfl⟩
 ·exact⟨_,rfl,iw,rfl,fun _=>rfl⟩
 ·have hl:cells.length=b+es.length*s:=by have:=he.len;rw [UB] at this;omega
  have cell:∀(q:Nat) x,(cells.drop b)[q]?=some x->∃(j o:Nat) (e:TV) (ts:List TV) (t:TV),q=j*s+o/\o < s/\es[j]?=some e/\b_ e=some ts/\ts.length=s/\ts[o]?=some t/\∃y,bk (d+2) H x=some y/\Can t y/\y.flat=true:=by
   intro q x hq;have hlt:q < es.length*s:=by have:=(Uo.1 hq).1;rw [he.len] at this;exact this
   have hj:q / s < es.length:=(Nat.div_lt_iff_lt_mul hs).2 hlt;have hqe:q=q / s*s+q % s:=by rw [Nat.mul_comm];exact(Nat.div_add_mod q s).symm
   obtain⟨ts,g1,g2,g3,x',g4,g5,g6⟩:=he.el (q / s) _ (Un hj);have ho:q % s < ts.length:=by rw [g2];exact Nat.mod_lt _ hs
   refine⟨q / s,q % s,_,ts,_,hqe,Nat.mod_lt _ hs,Un hj,g1,g2,Un ho,?_⟩;by_cases hoo:q % s=io
   ·obtain⟨l,g7,g8⟩:=g6 (by simp);rw [hqe,hoo,g4] at hq;cases hq;obtain⟨y,p1,p2,p3,_⟩:=AM g8 d;refine⟨y,p1,?_,p3⟩;have e:ts[q % s]=.l l:=by
     have:=Un ho;have h2:ts[q % s]?=some (.l l):=by rw [hoo];exact g7
     rw [this] at h2;exact U0 h2
    rw [e];exact p2
   ·obtain⟨p1,p2⟩:=g3 (q % s) _ x hoo (Un ho) (by rw [←hqe];exact hq);exact⟨x,oJ p2 (d+1) H,p1,p2⟩
  obtain⟨cs',g1,g2,g3⟩:=Bi (f:=bk (d+2) H) (cs:=cells.drop b) (fun q x y=>∃(j o:Nat) (e:TV) (ts:List TV) (t:TV),q=j*s+o/\o < s/\es[j]?=some e/\b_ e=some ts/\ts.length=s/\ts[o]?=some t/\Can t y/\y.flat=true) (fun q x hq=>by obtain⟨j,o,e,ts,t,h1,h2,h3,h4,h5,h6,y,h7,h8,h9⟩:=cell q x hq;exact⟨y,h7,j,o,e,ts,t,h1,h2,h3,h4,h5,h6,h8,h9⟩)
  have hlc:cs'.length=es.length*s:=by rw [g2,he.len]
  have at_:∀(q:Nat) y,cs'[q]?=some y->∃(j o:Nat) (e:TV) (ts:List TV) (t:TV),q=j*s+o/\o < s/\es[j]?=some e/\b_ e=some ts/\ts.length=s/\ts[o]?=some t/\Can t y/\y.flat=true:=fun q y hy=>by
   have hlt:q < (cells.drop b).length:=by rw [←g2];exact(Uo.1 hy).1
   exact g3 q _ y (Un hlt) hy
  refine⟨.ei cs' es.length none,?_,.ei _ _ _ s _ rfl hlc hs (fun x hx=>?_) (fun j e hj=>?_),rfl,fun hp=>by cases hp⟩
  ·rw [gH,hH];simp only [cond_eq_ite,UQ,if_pos];have:cut cells b (Nat.mul es.length s)=some (cells.drop b):=by rw [dy,if_pos (by show b+es.length*s<=_;omega),UZ];rw [UB];show _<=es.length*s;omega
   rw [this];simp only [g1]
  ·obtain⟨q,hq⟩:=List.getElem?_of_mem hx;obtain⟨_,_,_,_,_,_,_,_,_,_,_,_,hf⟩:=at_ q x hq;exact hf
  ·obtain⟨ts,h1,h2,_⟩:=he.el j e hj;have hjl:=(Uo.1 hj).1;have hle:j*s+s<=es.length*s:=by rw [←Nat.succ_mul];exact Nat.mul_le_mul_right s hjl
   refine fj.2 ⟨ts,h1,by rw [UA,UB,hlc,h2];omega,fun o t y ht hy=>?_⟩;have ho:o < s:=by rw [←h2];exact(Uo.1 ht).1
   rw [Uu,Uv,if_pos ho] at hy;obtain⟨j',o',e',ts',t',p1,p2,p3,p4,p5,p6,p7,_⟩:=at_ _ y hy;have hjj:j=j':=by
    have e1:(j*s+o) / s=j:=by rw [Nat.mul_comm,Nat.mul_add_div hs,Nat.div_eq_of_lt ho,Nat.add_zero]
    have e2:(j'*s+o') / s=j':=by rw [Nat.mul_comm,Nat.mul_add_div hs,Nat.div_eq_of_lt p2,Nat.add_zero]
    rw [←e1,p1,e2]
   subst hjj;have hoo:o=o':=by omega
   subst hoo;rw [hj] at p3;cases p3;rw [h1] at p4;cases p4;rw [ht] at p6;cases p6;exact p7
theorem CM {es:List TV} {i io:Nat} {l:List TV} (h:su es i io=some l):∃e,es[i]?=some e/\ej e io=some (.l l):=by
 unfold su at h;split at h
 ·rename_i e he;split at h
  ·rename_i l' hl;cases h;exact⟨e,he,hl⟩
  ·cases h
 ·cases h
theorem IF {e t:TV} {io:Nat} {ts:List TV} (hc:b_ e=some ts) (h:ej e io=some t):ts[io]?=some t:=by
 cases e<;>first|(cases hc;done)|skip
 all_goals first
  |(cases hc;exact h)
  |(cases hc;cases io with
    |zero=>exact h
    |succ n=>cases h)
theorem de {V:au} {O v:Nat} {k:Nat->Nat->Nat->List TV->Prop} (h:J2 V O v k):∃s io iz es,V.H.get O=some (.gn O s io iz v none es)/\k s io iz es:=by
 unfold J2 at h;split at h
 ·rename_i K s io iz ver es ho;split at h
  ·rename_i hb;rw [UN,UQ,UQ] at hb;obtain⟨rfl,rfl⟩:=hb;exact⟨s,io,iz,es,ho,h⟩
  ·cases h
 ·cases h
theorem vt {A:bt} {H:aU} {K s io iz ver:Nat} {hole:Option Nat} {es:List TV} {a:AV} {i:Nat} {l:List TV} (h:OR A H (.gn K s io iz ver hole es) a) (hi:su es i io=some l) (hn:hole≠some i) {x:AV} (hx:A (.i K ver i)=some x):wX H iz l x:=by
 obtain⟨hs,hio,hiz,h⟩:=h;obtain⟨e,he,hc⟩:=CM hi;rcases h with ⟨rfl,_⟩|⟨id,g,b,cells,rfl,hH,hb,hg⟩
 ·simp at he
 ·obtain⟨ts,g1,g2,g3,x',g4,g5,g6⟩:=hg.el i e he;rw [hx] at g5;cases g5;obtain⟨l',p1,p2⟩:=g6 hn;rw [IF g1 hc] at p1;cases p1;exact p2
theorem s7 {A:bt} {V:au} {st:St} (h:R A V st) {w:VV} {x:AV} {k:List TV->Prop} (hv:AE A w x) (hk:wR V w k) (d:Nat) :
  ∃es a',bk (d+3) st.H x=some a'/\Can (.l es) a'/\a'.flat=true/\(x.plain=true->a'=x)/\k es:=by
 cases w<;>first|(cases hk;done)|skip
 ·refine⟨[],x,?_,?_,?_,fun _=>rfl,hk⟩<;>rcases hv with rfl|rfl<;>first|rfl|exact .nil|exact iw
 ·rename_i O;simp only [wR] at hk;split at hk
  ·rename_i sz es ho;obtain⟨a,h1,h2⟩:=h.heap O _ ho;have hv':A O=some x:=hv;rw [hv'] at h1;cases h1;obtain⟨a',h3,h4,h5,h6,_⟩:=AM h2 (d+1);exact⟨es,a',h3,h4,h5,h6,hk⟩
  ·rename_i es ho;obtain⟨a,h1,h2⟩:=h.heap O _ ho;have hv':A O=some x:=hv;rw [hv'] at h1;cases h1;obtain⟨a',h3,h4,h5,h6⟩:=Il h2 d;exact⟨es,a',h3,h4,h5,h6,hk⟩
  ·cases hk
 ·rename_i O v i;obtain⟨s,io,iz,es,ho,l,hl,hk⟩:=de hk;obtain⟨a,h1,h2⟩:=h.heap O _ ho;obtain⟨a',h3,h4,h5,h6,_⟩:=AM (vt h2 hl (by simp) hv) (d+1);exact⟨l,a',h3,h4,h5,h6,hk⟩
theorem s8 {V:au} {w:VV} {k:List TV->Prop} (hk:wR V w k):∃es,k es:=by
 unfold wR at hk;split at hk
 ·split at hk
  ·exact⟨_,hk⟩
  ·exact⟨_,hk⟩
  ·cases hk
 ·obtain⟨_,_,_,_,_,l,_,hk⟩:=de hk;exact⟨l,hk⟩
 ·exact⟨_,hk⟩
 ·cases hk
theorem Hw {l:List TV} {off n:Nat} {x u:TV} (h:bf (.a l) off n x=some u):∃l',u=.a l':=by
 unfold bf at h;split at h
 ·cases h
 ·rw [cond_eq_ite] at h;split at h
  ·simp only at h;split at h
   ·cases h;exact⟨_,rfl⟩
   ·cases h
  ·cases h
theorem BY {A:bt} {V:au} {st:St} (h:R A V st) (d:Nat):∀(ovs:List (Nat×VV)) (P:Nat->Prop) (v:TV) (ts:List TV) (cs:List AV) (k:TV->Prop),b_ v=some ts->ts.length=cs.length->
  (∀j t x,P j->ts[j]?=some t->cs[j]?=some x->match bU j ovs with|none=>True|some w=>AE A w x)->zf V ovs v k->
  ∃u us,b_ u=some us/\us.length=ts.length/\k u/\(∀l,v=.a l->∃l',u=.a l')/\
   ∀j u' x,P j->us[j]?=some u'->cs[j]?=some x->match bU j ovs with|none=>ts[j]?=some u'|some w=>∃a',bk (d+3) st.H x=some a'/\Can u' a'/\a'.flat=true/\(x.plain=true->a'=x)
 |[],P,v,ts,cs,k,hc,hl,ho,hk=>⟨v,ts,hc,rfl,hk,fun l e=>⟨l,e⟩,fun j u' x _ hu hx=>hu⟩
 |(off,w)::r,P,v,ts,cs,k,hc,hl,ho,hk=>by
  obtain⟨u,us,h1,h2,h3,h4,h5⟩:=BY h d r (fun j=>P j/\j≠off) v ts cs _ hc hl (fun j t x hp ht hx=>by have:=ho j t x hp.1 ht hx;rwa [bQ,if_neg (Ne.symm hp.2)] at this) hk
  by_cases hoff:P off/\off < ts.length
  ·obtain⟨hP,hlt⟩:=hoff;have hx:cs[off]?=some (cs[off]'(by omega)):=Un _;have ht:ts[off]?=some ts[off]:=Un _;have hsl:=ho off _ _ hP ht hx;rw [bQ,if_pos rfl] at hsl;obtain⟨es,a',g1,g2,g3,g4,u',g5,g6⟩:=s7 h hsl h3 d;obtain⟨us0,xs,us',p1,p2,p3,p4,p5,p6,p7⟩:=cu g5;rw [h1] at p1;cases p1;cases p2;refine⟨u',us',p4,by omega,g6,fun l e=>?_,fun j q x hp hq hx'=>?_⟩
   ·obtain⟨l',rfl⟩:=h4 l e;exact Hw g5
   ·rw [p7] at hq;rw [bQ];by_cases e:off=j
    ·subst e;rw [if_pos (by omega)] at hq;simp at hq;rw [if_pos rfl];subst hq;rw [hx'] at hx;cases hx;exact⟨a',g1,g2,g3,g4⟩
    ·rw [if_neg (by omega)] at hq;rw [if_neg e];exact h5 j q x ⟨hp,Ne.symm e⟩ hq hx'
  ·obtain⟨es,u',g5,g6⟩:=s8 h3;obtain⟨us0,xs,us',p1,p2,p3,p4,p5,p6,p7⟩:=cu g5;rw [h1] at p1;cases p1;refine⟨u',us',p4,by omega,g6,fun l e=>?_,fun j q x hp hq hx'=>?_⟩
   ·obtain⟨l',rfl⟩:=h4 l e;exact Hw g5
   ·rw [p7] at hq;rw [bQ];by_cases e:off=j
    ·subst e;exact absurd ⟨hp,by have:=(Uo.1 hx').1;omega⟩ hoff
    ·rw [if_neg (by omega)] at hq;rw [if_neg e];exact h5 j q x ⟨hp,Ne.symm e⟩ hq hx'
theorem vQ {A:bt} {V:au} {st:St} (h:R A V st) {v:TV} {ovs:List (Nat×VV)} {cs:List AV} {ts:List TV} {k:TV->Prop} (hc:bq A v ovs cs ts) (hk:zf V ovs v k) (d:Nat) :
  ∃u us cs',fo (bk (d+3) st.H) cs=some cs'/\b_ u=some us/\Gq us cs'/\k u/\(∀l,v=.a l->∃l',u=.a l')/\((∀x∈cs,AV.flat x=true)->cs'=cs):=by
 obtain⟨u,us,h1,h2,h3,h4,h5⟩:=BY h d ovs (fun _=>True) v ts cs k hc.cells hc.len (fun j t x _ ht hx=>by
  have:=hc.at_ j t x ht hx;unfold I9 at this;cases ho:bU j ovs with
  |none=>trivial
  |some w=>rw [ho] at this;exact this) hk
 obtain⟨cs',g1,g2,g3⟩:=Bi (f:=bk (d+3) st.H) (cs:=cs) (fun j x y=>∀u',us[j]?=some u'->Can u' y/\y.flat=true/\(x.flat=true->y=x)) (fun j x hx=>by
  have hlt:j < us.length:=by rw [h2,hc.len];exact(Uo.1 hx).1
  have hu:us[j]?=some us[j]:=Un _;have hp:=h5 j _ x trivial hu hx;cases ho:bU j ovs with
  |none=>rw [ho] at hp;have hq:=hc.at_ j _ x hp hx;rw [ho] at hq;exact⟨x,oJ hq.2 (d+2) st.H,fun u' hu'=>by rw [hu] at hu';cases hu';exact⟨hq.1,hq.2,fun _=>rfl⟩⟩
  |some w=>rw [ho] at hp;obtain⟨a',p1,p2,p3,p4⟩:=hp;exact⟨a',p1,fun u' hu'=>by rw [hu] at hu';cases hu';exact⟨p2,p3,fun hf=>p4 (D_ hf)⟩⟩)
 have hlen:us.length=cs'.length:=by rw [g2,h2,hc.len]
 have both:∀j y,cs'[j]?=some y->∃x u',cs[j]?=some x/\us[j]?=some u':=fun j y hy=>by have hlt:=(Uo.1 hy).1;exact⟨cs[j]'(by omega),us[j]'(by omega),Un _,Un _⟩
 refine⟨u,us,cs',g1,h1,⟨⟨hlen,fun j t y ht hy=>?_⟩,fun y hy=>?_⟩,h3,h4,fun hf=>?_⟩
 ·obtain⟨x,u',hx,hu⟩:=both j y hy;exact(g3 j x y hx hy t ht).1
 ·obtain⟨j,hj⟩:=List.getElem?_of_mem hy;obtain⟨x,u',hx,hu⟩:=both j y hj;exact(g3 j x y hx hj u' hu).2.1
 ·apply List.ext_getElem?;intro j;cases hy:cs'[j]? with
  |none=>rw [List.getElem?_eq_none_iff] at hy;exact(List.getElem?_eq_none_iff.2 (by omega)).symm
  |some y=>obtain⟨x,u',hx,hu⟩:=both j y hy;rw [hx,(g3 j x y hx hy u' hu).2.2 (hf x (Uw hx))]
theorem ct {i j z:Nat} (h:i < j):i*z+z<=j*z:=by have:(i+1)*z<=j*z:=Nat.mul_le_mul_right z h;rwa [Nat.add_mul,Nat.one_mul] at this
theorem At {sz:Nat} {es xs:List TV} {cs ds:List AV} (h:BK sz es cs) (h':BK sz xs ds):BK sz (es++xs) (cs++ds):=by
 refine⟨by rw [Uz,Uz,h.len,h'.len,Nat.add_mul],fun x hx=>(UJ.1 hx).elim (h.flat x) (h'.flat x),fun j e hj=>?_⟩;by_cases hlt:j < es.length
 ·rw [Uq hlt] at hj;have:=ct (z:=sz) hlt;have:((cs++ds).drop (j*sz)).take sz=(cs.drop (j*sz)).take sz:=by rw [List.drop_append_of_le_length (by rw [h.len];omega),List.take_append_of_le_length (by rw [UB,h.len];omega)]
  rw [this];exact h.el j e hj
 ·rw [Ur (by omega)] at hj;have e1:j*sz=cs.length+(j - es.length)*sz:=by rw [h.len,←Nat.add_mul];congr 1;omega
  have:((cs++ds).drop (j*sz))=ds.drop ((j - es.length)*sz):=by rw [e1,List.drop_append];simp
  rw [this];exact h'.el _ e hj
theorem Mx {A:bt} {v:TV} {cs:List AV} {ts:List TV} (hc:bq A v [] cs ts) {off n:Nat} (h:off+n<=ts.length):∀x∈(cs.drop off).take n,AV.flat x=true:=by
 intro x hx;obtain⟨j,hj⟩:=List.getElem?_of_mem hx;rw [Uu] at hj;split at hj
 ·rw [Uv] at hj;have hl:off+j < ts.length:=by omega
  exact((hc.at_ (off+j) _ x (Un hl) hj):Can _ x/\_).2
 ·cases hj
theorem Ko {A:bt} {v:TV} {cs:List AV} {ts:List TV} (hc:bq A v [] cs ts) {off sz:Nat} {e:TV} (h:Mw v off sz=some e):off+sz<=ts.length/\uz e ((cs.drop off).take sz):=by
 have sub:∀{n:Nat},b9 v off n=some e->off+n<=ts.length/\uz e ((cs.drop off).take n):=by
  intro n h;obtain⟨ts',rfl,h2,h3,rfl⟩:=jV h;have:=hc.cells.symm.trans h2;cases this;refine⟨h3,.a _ _ (by rw [UA,UA,UB,UB,hc.len]) (fun j t x ht hx=>?_)⟩;rw [Uu] at ht hx;split at ht
  ·rw [if_pos ‹_›] at hx;rw [Uv] at ht hx;exact((hc.at_ (off+j) t x ht hx):Can t x/\_).1
  ·cases ht
 unfold Mw at h;split at h
 ·split at h
  ·rename_i e' he;rw [cond_eq_ite] at h;split at h
   ·rename_i h1;cases h;obtain⟨ts',h2,h3⟩:=jb he;have:=hc.cells.symm.trans h2;cases this;have hl:=(Uo.1 h3).1;have hl':off < cs.length:=by rw [←hc.len];exact hl
    refine⟨by omega,?_⟩;rw [List.drop_eq_getElem_cons hl',List.take_succ_cons,List.take_zero];exact .one _ _ h1 ((hc.at_ off e _ h3 (Un hl')):Can e _/\_).1
   ·cases h
  ·cases h
 ·exact sub h
theorem GU {A:bt} {v:TV} {cs:List AV} {ts:List TV} (hc:bq A v [] cs ts) {sz:Nat}:∀{n off:Nat} {es:List TV},Oe v off sz n=some es->es.length=n/\off+n*sz<=cs.length/\BK sz es ((cs.drop off).take (n*sz))
 |0,off,es,h=>by
  unfold Oe at h;split at h
  ·rename_i u hu;cases h;obtain⟨ts',h1,h2,h3,_⟩:=jV hu;have:=hc.cells.symm.trans h2;cases this;refine⟨rfl,by rw [←hc.len];omega,?_⟩;rw [Nat.zero_mul,List.take_zero];exact⟨(by simp),(fun x hx=>by cases hx),(fun j e h=>by simp at h)⟩
  ·cases h
 |n+1,off,es,h=>by
  unfold Oe at h;split at h;rotate_left
  ·cases h
  rename_i e he;split at h;rotate_left
  ·cases h
  rename_i r hr;cases h;obtain⟨g1,g2,g3⟩:=GU hc hr;obtain⟨k1,k2⟩:=Ko hc he;have e0:(n+1)*sz=sz+n*sz:=by rw [Nat.add_mul,Nat.one_mul,Nat.add_comm]
  refine⟨by rw [UD,g1],by rw [e0];omega,?_⟩;have e1:(cs.drop off).take ((n+1)*sz)=(cs.drop off).take sz++(cs.drop (off+sz)).take (n*sz):=by rw [e0,List.take_add,List.drop_drop]
  rw [e1];refine At (es:=[e]) ⟨?_,Mx hc k1,fun j e' hj=>?_⟩ g3
  ·rw [UA,UB,←hc.len,UC,Nat.one_mul];omega
  ·cases j with
   |zero=>simp at hj;subst hj;rw [Nat.zero_mul,List.drop_zero,List.take_take,Nat.min_self];exact k2
   |succ j=>simp at hj
theorem C4 {A:bt} {sz:Nat}:∀{xs:List TV} {v u:TV} {cs ds:List AV} {ts:List TV} {off:Nat},bq A v [] cs ts->Pf v off sz xs=some u->BK sz xs ds->∃cs' us,dz cs off ds=some cs'/\bq A u [] cs' us
 |[],v,u,cs,ds,ts,off,hc,h,hd=>by
  unfold Pf at h;split at h
  ·rename_i w hw;cases h;obtain⟨ts',h1,h2,h3,_⟩:=jV hw;have:=hc.cells.symm.trans h2;cases this;have hd0:ds=[]:=UY.1 (by rw [hd.len];simp);subst hd0;refine⟨cs,ts,?_,hc⟩;rw [jg,if_pos (by rw [←hc.len];simpa using h3)];simp
  ·cases h
 |x::xs,v,u,cs,ds,ts,off,hc,h,hd=>by
  simp only [Pf] at h;split at h;rotate_left
  ·cases h
  rename_i v1 hv1;have hl:=hd.len;rw [UD,Nat.add_mul,Nat.one_mul] at hl;obtain⟨tx,hx1,hx2⟩:=fj.1 (hd.el 0 x rfl);rw [Nat.zero_mul,List.drop_zero] at hx2;have hcx:bq A x [] (ds.take sz) tx:=⟨hx1,hx2.1,fun j w hj=>by simp [bU] at hj,fun j t y ht hy=>⟨hx2.2 j t y ht hy,hd.flat y (List.mem_of_mem_take (Uw hy))⟩⟩;obtain⟨hn,cs1,us1,h3,h4,_⟩:=gR hc hcx hv1;have hd2:BK sz xs (ds.drop sz):=⟨by rw [UB];omega,fun y hy=>hd.flat y (List.mem_of_mem_drop hy),fun j e he=>by have:=hd.el (j+1) e (by simpa using he);rwa [Nat.add_mul,Nat.one_mul,Nat.add_comm,←List.drop_drop] at this⟩
  obtain⟨cs2,us2,h5,h6⟩:=C4 (xs:=xs) (off:=off+sz) (ds:=ds.drop sz) h4 h hd2;refine⟨cs2,us2,?_,h6⟩;obtain⟨b1,_⟩:=dR h3;obtain⟨b2,_⟩:=dR h5;obtain⟨l1,a1⟩:=e9 h3;obtain⟨l2,a2⟩:=e9 h5;rw [UB] at b2;have hov:dz cs off ds=some (cs.take off++ds++cs.drop (off+ds.length)):=by rw [jg,if_pos (by omega)]
  obtain⟨l3,a3⟩:=e9 hov;rw [hov];congr 1;refine List.ext_getElem? fun j=>?_
  rw [a3,a2,a1,hn,UB];by_cases q1:off+sz<=j/\j < off+sz+(ds.length - sz)
  ·rw [if_pos q1,if_pos (by omega),Uv];congr 1;omega
  ·rw [if_neg q1];by_cases q2:off<=j/\j < off+sz
   ·rw [if_pos q2,if_pos (by omega),Uu,if_pos (by omega)]
   ·rw [if_neg q2,if_neg (by omega)]
theorem sX {A:bt} {V:au} {st:St} (h:R A V st) {w:VV} {a:AV} {k:TV->Prop} (hv:VR A w a) (hk:Nb V w k) (d:Nat) :
  ∃t a',bk (d+4) st.H a=some a'/\Can t a'/\(a.plain=true->a'=a)/\k t:=by
 cases hv<;>first|(cases hk;done)|skip
 ·rename_i v hc;exact⟨v,a,jY (jc hc) (d+1) _,hc,fun _=>rfl,hk⟩
 ·exact⟨_,_,rfl,.nil,fun _=>rfl,hk⟩
 ·exact⟨_,_,rfl,iw,fun _=>rfl,hk⟩
 ·rename_i O hO;obtain⟨es,a',h1,h2,h3,h4,h5⟩:=s7 h (w:=.sl O) (x:=a) hO hk (d+1);exact⟨_,a',h1,h2,h4,h5⟩
 ·rename_i v ovs cs ts hv hc;obtain⟨u,us,cs',h1,h2,h3,h4,h5,h6⟩:=vQ h hc hk d;obtain⟨l',rfl⟩:=h5 _ hv;cases h2;refine⟨_,.agg cs',by rw [gI,h1],.a _ _ h3.1.1 h3.2 h3.1.2,fun hp=>?_,h4⟩;rw [h6 (aX.1 hp)]
 ·rename_i O v i hO;obtain⟨es,a',h1,h2,h3,h4,h5⟩:=s7 h (w:=.ow O v i) (x:=a) hO hk (d+1);exact⟨_,a',h1,h2,h4,h5⟩
 ·rename_i O off n sz id cap hz hO;simp only [Nb] at hk;split at hk;rotate_left
  ·cases hk
  rename_i v ovs ho;split at hk;rotate_left
  ·cases hk
  obtain⟨es,h1,h2⟩:=hk;obtain⟨z,hz',id',cs,ts,rfl,hH,hc⟩:=h.heap O _ ho;rw [hO] at hz';cases hz';obtain⟨g1,g2,g3⟩:=GU hc h1;subst g1;refine⟨_,.ei ((cs.drop off).take (es.length*sz)) es.length (some cap),?_,BA hz g3 _,(fun hp=>by cases hp),h2⟩;rw [gH,hH];simp only [cond_eq_ite,UQ,if_pos];have:cut cs off (Nat.mul es.length sz)=some ((cs.drop off).take (es.length*sz)):=by rw [dy];exact if_pos g2
  rw [this];simp only [vh g3.flat]
theorem CE:∀{ovs:List (Nat×VV)},z7 ovs=true->∀j w,bU j ovs=some w->w=.bX
 |[],h,j,w,hj=>by simp [bU] at hj
 |(i,x)::r,h,j,w,hj=>by
  cases x<;>first|(cases h;done)|skip
  rw [bQ] at hj;split at hj
  ·cases hj;rfl
  ·exact CE (ovs:=r) h j w hj
theorem pq {A:bt} {v:TV} {ovs:List (Nat×VV)} {cs:List AV} {ts:List TV} (hc:bq A v ovs cs ts) (h:z7 ovs=true):(AV.agg cs).plain=true:=by
 refine aX.2 (fun x hx=>?_);obtain⟨j,hj⟩:=List.getElem?_of_mem hx;have hlt:j < ts.length:=by rw [hc.len];exact(Uo.1 hj).1
 have:=hc.at_ j _ x (Un hlt) hj;cases ho:bU j ovs with
 |none=>rw [ho] at this;exact this.2
 |some w=>rw [ho] at this;have hw:=CE h j w ho;subst hw;rcases this with rfl|rfl<;>rfl
theorem AB {A:bt} {V:au} {st:St} {g:G} (h:R A V st) (ha:act g):∀(xs:List aR) (k:Bool->List TV->Prop),pV V g xs k->
  ∃p ts as',k p ts/\fo (bk deep st.H) (xs.map (ev st.env))=some as'/\pY ts as'/\(cz AV.plain (xs.map (ev st.env))=true->as'=xs.map (ev st.env))/\(p=true->cz AV.plain (xs.map (ev st.env))=true)
 |[],k,hk=>⟨true,[],[],hk,rfl,⟨rfl,fun j t x ht=>by simp at ht⟩,fun _=>rfl,fun _=>rfl⟩
 |x::xs,k,hk=>by
  obtain⟨w,hw,hk⟩:=b8 h ha hk;have fin:∀(t:TV) (a':AV) (kk:Bool->List TV->Prop) (q:Bool),bk deep st.H (ev st.env x)=some a'->Can t a'->((ev st.env x).plain=true->a'=ev st.env x)->(q=true->(ev st.env x).plain=true)->
    pV V g xs kk->(∀p vs,kk p vs->k (q&&p) (t::vs))->
    ∃p ts as',k p ts/\fo (bk deep st.H) ((x::xs).map (ev st.env))=some as'/\pY ts as'/\(cz AV.plain ((x::xs).map (ev st.env))=true->as'=(x::xs).map (ev st.env))/\(p=true->cz AV.plain ((x::xs).map (ev st.env))=true):=by
   intro t a' kk q h1 h2 h3 hq h4 h5;obtain⟨p,ts,as',g1,g2,g3,g4,g5⟩:=AB h ha xs kk h4;refine⟨q&&p,t::ts,a'::as',h5 _ _ g1,?_,⟨by simp [g3.1],fun j u y hu hy=>?_⟩,fun hp=>?_,fun hp=>?_⟩
   ·rw [List.map_cons,cx,h1,g2]
   ·cases j with
    |zero=>simp at hu hy;subst hu;subst hy;exact h2
    |succ j=>exact g3.2 j u y (by simpa using hu) (by simpa using hy)
   ·rw [List.map_cons] at hp ⊢;have hp':=aX.1 hp;rw [h3 (hp' _ UG),g4 (aX.2 fun y hy=>hp' y (UH _ hy))]
   ·rw [UN] at hp;rw [List.map_cons,aX];intro y hy;rcases UI.1 hy with rfl|hy
    ·exact hq hp.1
    ·exact aX.1 (g5 hp.2) y hy
  generalize ev st.env x=a at hw fin;have tree:∀{t:TV},Can t a->pV V g xs (fun p vs=>k p (t::vs))->_:=fun {t} hc hk=>fin t a _ true (jY (jc hc) 27 _) hc (fun _=>rfl) (fun _=>jc hc) hk (fun p vs hh=>by rw [Bool.true_and];exact hh)
  cases hw with
  |tr hc=>exact tree hc hk
  |bX=>exact tree .nil hk
  |m_=>exact tree iw hk
  |sl hO=>obtain⟨t,a',h1,h2,h3,h4⟩:=sX h (.sl hO) hk 26;exact fin t a' _ false h1 h2 h3 (fun hh=>by cases hh) h4 (fun p vs hh=>hh)
  |@st v ovs cs ts hv hc=>obtain⟨t,a',h1,h2,h3,h4⟩:=sX h (.st hv hc) hk 26;exact fin t a' _ (z7 ovs) h1 h2 h3 (fun hh=>pq hc hh) h4 (fun p vs hh=>hh)
  |ow hO=>obtain⟨t,a',h1,h2,h3,h4⟩:=sX h (.ow hO) hk 26;exact fin t a' _ false h1 h2 h3 (fun hh=>by cases hh) h4 (fun p vs hh=>hh)
  |sa hz hO=>obtain⟨t,a',h1,h2,h3,h4⟩:=sX h (.sa hz hO) hk 26;exact fin t a' _ false h1 h2 h3 (fun hh=>by cases hh) h4 (fun p vs hh=>hh)
  |_=>cases hk
end Go.Ax.V
namespace Go.Ax.V
section
variable {prog:Map ak} {cf:iy} {nt:Nat} {A:bt} {V:au} {st:St} {d:Option Nat} {g:G} {k:au->Prop}
def ck (cf:iy) (nt:Nat) (A:bt) (V:au) (st:St) (d:Option Nat) (op:fO) (k:au->Prop):Prop:=
 ∃v H' nx',iO cf op (ev st.env) st.H st.nx=some (v,H',nx')/\Next nt A V st d v H' nx' k
theorem aZ {op:fO} {p:(aR->AV)->Option bg} {v:AV} (hk:kind op=.plan p) (hp:p (ev st.env)=some (.val v)) (h:Next nt A V st d v st.H st.nx k):ck cf nt A V st d op k:=
 ⟨v,st.H,st.nx,by simp only [iO,hk,hp,cO],h⟩
theorem wZ {op:fO} {p:(aR->AV)->Option bg} {f:Nat->AV} {ob:fZ} (hk:kind op=.plan p) (hp:p (ev st.env)=some (.new f ob)) (h:Next nt A V st d (f st.nx) (st.H.put (some ob) st.nx) (st.nx+1) k):ck cf nt A V st d op k:=
 ⟨_,_,_,by simp only [iO,hk,hp,cO],h⟩
theorem Sk (hR:R A V st) (ha:act g) {x:aR} (h:eT V g x fun w=>Mt nt V d g w k):ck cf nt A V st d (.mv x) k:=by
 obtain⟨w,hw,hk⟩:=b8 hR ha h;refine aZ rfl rfl ?_;generalize ev st.env x=a at hw;cases hw with
 |bad=>cases hk
 |tr hc=>
  cases g with
  |none=>exact av hR (fun _=>.tr hc) hk
  |some p=>obtain⟨r,h1,h2⟩:=bl hR ha hk;cases h1;exact h2 _ hc
 |bX=>exact av hR (fun _=>.bX) hk
 |m_=>exact av hR (fun _=>.m_) hk
 |ptr h=>exact av hR (fun _=>.ptr h) hk
 |pd h=>exact av hR (fun _=>.pd h) hk
 |sl h=>exact av hR (fun _=>.sl h) hk
 |ea h=>exact av hR (fun _=>.ea h) hk
 |pt hl hf h=>exact av hR (fun _=>.pt hl hf h) hk
 |st hv h=>exact av hR (fun _=>.st hv h) hk
 |ow h=>exact av hR (fun _=>.ow h) hk
 |e2 h=>exact av hR (fun _=>.e2 h) hk
 |gl h1 h2 h3 h4 h5=>exact av hR (fun _=>.gl h1 h2 h3 h4 h5) hk
 |sa hz h=>exact av hR (fun _=>.sa hz h) hk
theorem DK {c a b r:TV} {x y z:AV} (h:fR c a b=some r) (hc:Can c x) (ha:Can a y) (hb:Can b z):∃t,x=.bool t/\Can r (match t with|true=>y|false=>z):=by
 unfold fR at h;split at h
 ·rename_i t;cases hc;exact⟨t,rfl,by cases t<;>(cases h;assumption)⟩
 ·cases h
theorem LR (hR:R A V st) (ha:act g) {c a b:aR} (h:j7 V g c fun c=>j7 V g a fun a=>j7 V g b fun b=>eU nt V d g (fR c a b) k):ck cf nt A V st d (.pick c a b) k:=by
 obtain⟨c',h1,h⟩:=cm hR ha h;obtain⟨a',h2,h⟩:=cm hR ha h;obtain⟨b',h3,h⟩:=cm hR ha h;obtain⟨r,h4,h5⟩:=bl hR ha h;obtain⟨t,e,h6⟩:=DK h4 h1 h2 h3;cases t with
 |true=>exact aZ rfl (by simp only [tj,e]) (h5 _ h6)
 |false=>exact aZ rfl (by simp only [tj,e]) (h5 _ h6)
theorem JU {sh:Sh} (hR:R A V st) {zero:List AV} (h:match cz er zero with
   |true=>jv nt V d g (fun O=>.ptr O 0) (.ob (.a (cS zero)) (Q4 sh d (ia 0 zero))) k
   |false=>False):ck cf nt A V st d (.alloc zero) k:=by
 split at h
 ·rename_i hc;exact wZ rfl rfl (ku hR h (fun A' hA=>⟨_,_,_,rfl,by rw [Map.aa,if_pos rfl],BD A' hc (fun j w=>Li)⟩) rfl rfl (fun A' O hO=>.ptr hO))
 ·cases h
theorem D4 {v:TV} (h:v.gw=false):∃ts,b_ v=some ts:=by cases v<;>first|exact⟨_,rfl⟩|cases h
theorem Ge {A:bt} {v u:TV} {ovs:List (Nat×VV)} {cs:List AV} {ts:List TV} {c:Nat} (hc:bq A v ovs cs ts) (ho:bU c ovs=some .bX) (hp:bf v c 1 (.l [])=some u):∃us,bq A u (lA c 1 ovs) cs us:=by
 obtain⟨ts',xs,us,h1,h2,h3,h4,h5,h6,h7⟩:=cu hp;have e1:=hc.cells.symm.trans h1;cases e1;cases h2;refine⟨us,h4,h5.trans hc.len,fun j w hj=>?_,fun j t x ht hx=>?_⟩
 ·rw [gu] at hj;split at hj
  ·cases hj
  ·rw [h5];exact hc.keys j w hj
 ·rw [h7] at ht;rw [gu];by_cases hj:c<=j/\j < c+1
  ·rw [if_pos hj] at ht ⊢;have:j=c:=by omega
   subst this;simp at ht;subst ht;have hlt:j < ts.length:=hc.keys j _ ho;have:=hc.at_ j _ x (Un hlt) hx;rw [ho] at this;rcases this with rfl|rfl
   ·exact⟨.nil,rfl⟩
   ·exact⟨iw,rfl⟩
  ·rw [if_neg hj] at ht ⊢;exact hc.at_ j t x ht hx
theorem y8:∀{l:List Nat} {v:TV} {ovs:List (Nat×VV)} {k:TV->List (Nat×VV)->Prop},Er l v ovs k->(∀v o,k v o->False)->False
 |[],v,ovs,k,hk,h=>h _ _ hk
 |c::l,v,ovs,k,hk,h=>by
  simp only [Er] at hk;split at hk
  ·obtain⟨u,_,hk⟩:=hk;exact y8 hk h
  ·cases hk
theorem Db {A:bt} {cs:List AV}:∀(l:List Nat) (v:TV) (ovs:List (Nat×VV)) (ts:List TV) (k:TV->List (Nat×VV)->Prop),bq A v ovs cs ts->Er l v ovs k->∃v' qxT ts',bq A v' qxT cs ts'/\k v' qxT
 |[],v,ovs,ts,k,h,hk=>⟨v,ovs,ts,h,hk⟩
 |c::l,v,ovs,ts,k,h,hk=>by
  simp only [Er] at hk;split at hk
  ·rename_i ho;obtain⟨u,hp,hk⟩:=hk;obtain⟨us,h'⟩:=Ge h ho hp;exact Db l u _ us k h' hk
  ·cases hk
theorem OP {sh:Sh} (hR:R A V st) (ha:act g) {x:aR} (h:eT V g x fun w=>match GH w with
  |some (v,o)=>v.gw=false/\Er (N4 sh d) v o fun v o=>jv nt V d g (fun O=>.ptr O 0) (.ob v o) k
  |none=>False):ck cf nt A V st d (.box x) k:=by
 obtain⟨w,hw,hk⟩:=b8 hR ha h;split at hk
 ·rename_i v o hs;obtain⟨ht,hk⟩:=hk;obtain⟨ts,hts⟩:=D4 ht;obtain⟨as,h1,h2⟩:=jj hR.one hw hs hts;obtain⟨v',o',ts',h3,hk⟩:=Db _ _ _ _ _ h2 hk;exact wZ (f:=fun id=>.ptr id 0 0) (ob:=.row 0 as) rfl (by simp only [Cv,h1]) (ku hR hk (fun A' hA=>⟨_,_,_,rfl,by rw [Map.aa,if_pos rfl],h3.mono hA⟩) rfl rfl (fun A' O hO=>.ptr hO))
 ·cases hk
theorem nh (ρ:aR->AV) (p:Nat×Nat×aR) (r:List (Nat×Nat×aR)) (cells:List AV):fill ρ (p::r) cells=match (ρ p.2.2).cells? with
  |none=>none
  |some cs=>bif Nat.beq cs.length p.2.1 then match dz cells p.1 cs with
    |some cells=>fill ρ r cells
    |none=>none
   else none:=rfl
theorem ya (hR:R A V st) (ha:act g):∀(parts:List (Nat×Nat×aR)) (v:TV) (ovs:List (Nat×VV)) (cs:List AV) (ts:List TV) (k:TV->List (Nat×VV)->Prop),bq A v ovs cs ts->v=.a ts->A9 V g parts v ovs k->
  ∃v' qxT cs' ts',fill (ev st.env) parts cs=some cs'/\bq A v' qxT cs' ts'/\v'=.a ts'/\k v' qxT
 |[],v,ovs,cs,ts,k,hc,hv,hk=>⟨v,ovs,cs,ts,rfl,hc,hv,hk⟩
 |(off,n,x)::r,v,ovs,cs,ts,k,hc,hv,hk=>by
  obtain⟨w,hw,hk⟩:=b8 hR ha hk;split at hk
  ·rename_i t o hs;obtain⟨u,hp,hk⟩:=hk;obtain⟨_,xs,_,_,hxs,_⟩:=cu hp;obtain⟨as,h1,h2⟩:=jj hR.one hw hs hxs;obtain⟨hn,cs',us,h3,h4,h5⟩:=gR hc h2 hp;obtain⟨l',rfl⟩:=h5 _ hv;have:=h4.cells;cases this;obtain⟨v',qxT,cs'',ts',g1,g2,g3,g4⟩:=ya hR ha r _ _ cs' _ k h4 rfl hk;refine⟨v',qxT,cs'',ts',?_,g2,g3,g4⟩;rw [nh];simp only [h1,cond_eq_ite,UQ,if_pos hn,h3,g1]
  ·cases hk
theorem KL {v:TV} {ovs:List (Nat×VV)} {cs:List AV} {ts:List TV} (h:bq A v ovs cs ts) (hv:v=.a ts):VR A (L1 v ovs) (.agg cs):=by
 cases ovs with
 |nil=>
  subst hv;refine .tr (.a _ _ h.len (fun x hx=>?_) (fun j t x ht hx=>(h.at_ j t x ht hx).1));obtain⟨j,hj⟩:=List.getElem?_of_mem hx;have hlt:j < ts.length:=by rw [h.len];exact(Uo.1 hj).1
  exact(h.at_ j _ x (Un hlt) hj).2
 |cons p r=>exact .st hv h
theorem JS (hR:R A V st) {zero:List AV} {parts:List (Nat×Nat×aR)} (h:match cz er zero with
   |true=>A9 V none parts (.a (cS zero)) (ia 0 zero) fun v ovs=>dh nt V d none (L1 v ovs) k
   |false=>False):ck cf nt A V st d (.build zero parts) k:=by
 split at h
 ·rename_i hc;obtain⟨v',qxT,cs',ts',h1,h2,h3,h4⟩:=ya (g:=none) hR trivial parts _ _ zero _ _ (pP A hc) rfl h;exact aZ rfl (by simp only [mZ,h1]) (av hR (fun _=>KL h2 h3) h4)
 ·cases h
theorem En {v:TV} {cs:List AV} {ts:List TV} (h:bq A v [] cs ts):∀x∈cs,AV.flat x=true:=fun x hx=>by
 obtain⟨j,hj⟩:=List.getElem?_of_mem hx;have hlt:j < ts.length:=by rw [h.len];exact(Uo.1 hj).1
 exact(h.at_ j _ x (Un hlt) hj).2
theorem C9 {cs:List AV} (h:cz er cs=true):bq A (.a (cS cs)) [] cs (cS cs):=by refine⟨rfl,j0 cs,fun j w hw=>(by cases hw),fun j t x ht hx=>?_⟩;have hm:x∈cs:=Uw hx;rw [pU,hx] at ht;cases ht;exact kU (aX.1 h x hm)
theorem Cl (hR:R A V st) (ha:act g):∀(parts:List (Nat×Nat×aR)) (k:List (Nat×Nat×TV)->Prop),Hi V g parts k->
  ∃l,k l/\∀(v v':TV) (cs:List AV) (ts:List TV),bq A v [] cs ts->v=.a ts->u6 l v=some v'->∃cs' ts',fill (ev st.env) parts cs=some cs'/\bq A v' [] cs' ts'/\v'=.a ts'
 |[],k,hk=>⟨[],hk,fun v v' cs ts hc hv hp=>by cases hp;exact⟨cs,ts,rfl,hc,hv⟩⟩
 |(off,n,x)::r,k,hk=>by
  obtain⟨t,ht,hk⟩:=cm hR ha hk;obtain⟨l,hl,hf⟩:=Cl hR ha r _ hk;refine⟨_,hl,fun v v' cs ts hc hv hp=>?_⟩;simp only [u6] at hp;split at hp
  ·rename_i u hu;obtain⟨_,xs,_,_,hxs,_⟩:=cu hu;obtain⟨as,h1,h2⟩:=jj hR.one (.tr ht) (w:=.tr t) rfl hxs;obtain⟨hn,cs',us,h3,h4,h5⟩:=gR hc h2 hu;obtain⟨l',rfl⟩:=h5 _ hv;have:=h4.cells;cases this;obtain⟨cs'',ts',g1,g2,g3⟩:=hf _ v' cs' _ h4 rfl hp;refine⟨cs'',ts',?_,g2,g3⟩;rw [nh];simp only [h1,cond_eq_ite,UQ,if_pos hn,h3,g1]
  ·cases hp
theorem HM (hR:R A V st) (ha:act g) {zero:List AV} {parts:List (Nat×Nat×aR)} (h:match cz er zero with
   |true=>Hi V g parts fun l=>eU nt V d g (u6 l (.a (cS zero))) k
   |false=>False):ck cf nt A V st d (.build zero parts) k:=by
 split at h
 ·rename_i hc;obtain⟨l,hl,hf⟩:=Cl hR ha parts _ h;obtain⟨v,h1,h2⟩:=bl hR ha hl;obtain⟨cs',ts',g1,g2,rfl⟩:=hf _ v zero _ (C9 hc) rfl h1;refine aZ rfl (by simp only [mZ,g1]) (h2 _ (.a _ _ g2.len (En g2) (fun j t x ht hx=>(g2.at_ j t x ht hx).1)))
 ·cases h
theorem look_eq (H:aU) (nx:Nat) {id g off n:Nat} {cells cs:List AV} (hH:H.get id=some (.row g cells)) (hc:cut cells off n=some cs) (kk:List AV->Option fZ->Option Out) (v:AV) (hk:kk cs none=some ⟨fun _=>v,none,none⟩) :
  cO (.look (some ⟨id,g,off,n⟩) none kk) H nx=some (v,H,nx):=by
 simp only [cO,fq,dr,hH,cond_eq_ite,UQ,if_pos,hc,i_,hk,uT]
theorem GM {op:fO} {p:(aR->AV)->Option bg} (hk:kind op=.plan p) {id gg off n:Nat} {cells cs:List AV} {kk:List AV->Option fZ->Option Out} {v:AV} (hp:p (ev st.env)=some (.look (some ⟨id,gg,off,n⟩) none kk))
  (hH:st.H.get id=some (.row gg cells)) (hc:cut cells off n=some cs) (hkk:kk cs none=some ⟨fun _=>v,none,none⟩) (h:Next nt A V st d v st.H st.nx k):ck cf nt A V st d op k:=
 ⟨v,st.H,st.nx,by simp only [iO,hk,hp];exact look_eq _ _ hH hc _ _ hkk,h⟩
theorem gv {sz:Option Nat} {a:aR} {id gg off:Nat} {cells l:List AV} {v:AV} (he:ev st.env a=.ptr id gg off) (hH:st.H.get id=some (.row gg cells)) (hc:cut cells off (cP sz)=some l) (hm:DS sz l=some v)
  (h:Next nt A V st d v st.H st.nx k):ck cf nt A V st d (.load sz a) k:=
 GM (cs:=l) (v:=v) (kk:=fun cs _=>match DS sz cs with|some v=>some ⟨fun _=>v,none,none⟩|none=>none) rfl (by simp only [lp,he];rfl) hH hc (by simp only [hm]) h
theorem pQ {cs:List AV} {off:Nat} {x:AV} (h:cs[off]?=some x):cut cs off 1=some [x]:=by obtain⟨hlt,hx⟩:=Uo.1 h;rw [dy,if_pos (by omega),List.drop_eq_getElem_cons hlt,hx];rfl
theorem pz {v:TV} {ovs:List (Nat×VV)} {cs:List AV} {ts:List TV} (hc:bq A v ovs cs ts) {off:Nat} {r:TV} (h:ej v off=some r) (ho:bU off ovs=none):∃x,cut cs off 1=some [x]/\Can r x/\x.flat=true:=by
 obtain⟨ts',h1,h2⟩:=jb h;have:=hc.cells.symm.trans h1;cases this;have hlt:off < cs.length:=by rw [←hc.len];exact(Uo.1 h2).1
 have hx:cs[off]?=some cs[off]:=Un hlt;have:=hc.at_ _ _ _ h2 hx;rw [ho] at this;exact⟨_,pQ hx,this⟩
theorem xx {c:Option TV} {r:TV} (h:k4 c=some r):∃t,c=some t/\∀x,Can t x->Can r x:=by
 cases c with
 |none=>cases h
 |some t=>
  cases t with
  |A8 y u=>cases h;exact⟨_,rfl,fun x hx=>by cases hx;assumption⟩
  |_=>cases h;exact⟨_,rfl,fun x hx=>hx⟩
theorem gQ {v:TV} {ovs:List (Nat×VV)} {cs:List AV} {ts:List TV} (hc:bq A v ovs cs ts) {off n:Nat} {r:TV} (h:b9 v off n=some r) :
  ∃l ls,cut cs off n=some l/\r=.a ls/\bq A r (lz off n ovs) l ls:=by
 obtain⟨ts',h0,h1,hl,rfl⟩:=jV h;have:=hc.cells.symm.trans h1;cases this;refine⟨(cs.drop off).take n,_,by rw [dy,if_pos (by rw [←hc.len];exact hl)],rfl,⟨rfl,?_,fun j w hj=>?_,fun j t x ht hx=>?_⟩⟩
 ·have:=hc.len;simp [this]
 ·rw [tu] at hj;split at hj
  ·rename_i hj';have:=hc.keys _ _ hj;simp only [UA,UB];omega
  ·cases hj
 ·simp only [Uu,Uv] at ht hx;split at ht
  ·rename_i hj;rw [if_pos hj] at hx;rw [tu,if_pos hj,Nat.add_comm];exact hc.at_ _ _ _ ht hx
  ·cases ht
theorem s6 {r:TV} {l:List AV} {ls:List TV} (h:bq A r [] l ls) (hr:r=.a ls):Can r (.agg l):=by have:=KL h hr;cases this;assumption
theorem Ik {H:aU} {K s io iz ver:Nat} {hole:Option Nat} {es:List TV} {id g b z len cap:Nat} {ex:Bool} (h:OR A H (.gn K s io iz ver hole es) (.ref id g b z len cap ex)) :
  z=s/\len=es.length/\cap=es.length/\ex=false/\0 < s/\io < s/\0 < iz/\∃cells,H.get id=some (.row g cells)/\b<=cells.length/\Gp A H K s io iz ver hole es (cells.drop b):=by
 obtain⟨h1,h2,h3,h4⟩:=h;rcases h4 with ⟨_,e|e⟩|⟨id',g',b',cells,e,h5,h6,h7⟩
 ·cases e
 ·cases e
 ·cases e;exact⟨rfl,rfl,rfl,rfl,h1,h2,h3,cells,h5,h6,h7⟩
theorem yO {H:aU} {K s io iz ver:Nat} {hole:Option Nat} {es:List TV} {cs:List AV} (h:Gp A H K s io iz ver hole es cs) (hio:io < s) {i:Nat} {e:TV} (he:es[i]?=some e) :
  ∃ts,bq A e [(io,.ow K ver i)] ((cs.drop (i*s)).take s) ts/\ts.length=s:=by
 obtain⟨ts,g1,g2,g3,x,g4,g5,g6⟩:=h.el i e he;have hlt:=(Uo.1 he).1;have hle:i*s+s<=es.length*s:=by rw [←Nat.succ_mul];exact Nat.mul_le_mul_right s hlt
 have qzT:∀(j:Nat),((cs.drop (i*s)).take s)[j]?=if j < s then cs[i*s+j]? else none:=fun j=>by rw [Uu,Uv]
 refine⟨ts,⟨g1,by rw [UA,UB,h.len,g2];omega,fun j w hj=>?_,fun j t y ht hy=>?_⟩,g2⟩
 ·rw [bQ] at hj;split at hj
  ·rename_i e';subst e';rw [g2];exact hio
  ·cases hj
 ·have hj:j < s:=by rw [←g2];exact(Uo.1 ht).1
  rw [qzT,if_pos hj] at hy;rw [bQ];split
  ·rename_i e';subst e';rw [g4] at hy;cases hy;exact g5
  ·rename_i hne;exact g3 j t y (Ne.symm hne) ht hy
theorem yY {cells l:List AV} {b i s n off m:Nat} (h3:cut (((cells.drop b).drop (i*s)).take s) off m=some l) (hlt:i < n) (hl:cells.length - b=n*s) (hb:b<=cells.length):cut cells (b+i*s+off) m=some l:=by
 obtain⟨h6,h7⟩:=iu h3;have h9:i*s+s<=n*s:=by have:(i+1)*s<=n*s:=Nat.mul_le_mul_right s hlt;rwa [Nat.add_mul,Nat.one_mul] at this
 have h8:off+m<=s:=by simp only [UA] at h6;omega
 rw [dy,if_pos (by omega),h7];congr 1;simp only [List.drop_drop,List.drop_take,List.take_take];congr 1;omega
theorem G_ {g:G} (ha:act g) {P:Option TV} {k:Prop} (h:Oz g P k):∃e,P=some e/\k:=by
 cases g with
 |none=>exact h
 |some q=>obtain⟨c,bb⟩:=q;obtain⟨e,h1,h2⟩:=h;exact⟨e,h1 ha,h2⟩
theorem Gj {off n io:Nat} {w:VV} (h:sP off n io=true):lz off n [(io,w)]=[]:=by simp only [sP,UO,UR,US] at h;simp only [lz,cond_eq_ite,UN,UR,US];rw [if_neg (by omega)]
theorem H7 {es:List TV} {i io j off:Nat} {sz:Option Nat} {r:TV} (h:Sq es i io j off sz=some r):∃l,su es i io=some l/\sS l j off sz=some r:=by
 unfold Sq at h;split at h
 ·rename_i l hl;exact⟨l,hl,h⟩
 ·cases h
theorem N9 {H:aU} {z:Nat} {es:List TV} {id g b len cap:Nat} {ex:Bool} (hs:wX H z es (.ref id g b z len cap ex)) {i off:Nat} {sz:Option Nat} {r:TV} (h1:sS es i off sz=some r) :
  ∃cells l x,H.get id=some (.row g cells)/\cut cells (b+i*z+off) (cP sz)=some l/\DS sz l=some x/\Can r x:=by
 obtain⟨hz,hs⟩:=hs;rcases hs with ⟨_,e|e⟩|⟨id',g',b',cells,e,hH,hb,hE⟩
 ·cases e
 ·cases e
 ·cases e;unfold sS at h1;split at h1
  ·cases h1
  rename_i e1 he1;have hlt:i < es.length:=(Uo.1 he1).1;obtain⟨ts,ht1,ht2⟩:=fj.1 (hE.el i e1 he1);obtain⟨l,x,h3,h4,h5⟩:=tS ht1 ⟨ht2,iZ hE.flat _ _⟩ h1;have hl:=hE.len;rw [UB] at hl;exact⟨cells,l,x,hH,yY h3 hlt hl hb,h4,h5⟩
theorem GK {H:aU} {z:Nat} {es:List TV} {id g b z' len cap:Nat} {ex:Bool} (hs:wX H z es (.ref id g b z' len cap ex)):z'=z:=by rcases hs.2 with ⟨_,e|e⟩|⟨id',g',b',cells,e,_⟩<;>cases e;rfl
theorem LU (hR:R A V st) (ha:act g) {sz:Option Nat} {a:aR} (h:eT V g a fun w=>kP nt V d g sz w k):ck cf nt A V st d (.load sz a) k:=by
 obtain⟨w,hw,hk⟩:=b8 hR ha h;generalize he:ev st.env a=x at hw;cases hw<;>first|(cases hk;done)|skip
 ·rename_i O off id hO;simp only [kP] at hk;split at hk
  ·rename_i v ovs hv;obtain⟨y,hy,id',cs,ts,rfl,hH,hc⟩:=hR.heap O _ hv;rw [hO] at hy;cases hy;split at hk
   ·split at hk
    ·rename_i w hw;have hlt:=hc.keys _ _ hw;have hx:cs[off]?=some (cs[off]'(by rw [←hc.len];exact hlt)):=Un _;have hs:=hc.at_ off _ _ (Un hlt) hx;rw [hw] at hs;refine gv he hH (pQ hx) rfl (av hR (fun _=>?_) hk);cases w<;>first|(exact absurd hs (by intro hh;exact hh))|skip
     ·rcases hs with e|e
      ·rw [e];exact .bX
      ·rw [e];exact .m_
     ·exact .sl hs
     ·exact .ow hs
    ·rename_i ho;obtain⟨r,h1,h2⟩:=bl hR ha hk;obtain⟨t,h1',hun⟩:=xx h1;obtain⟨x,h3,h4,_⟩:=pz hc h1' ho;exact gv he hH h3 rfl (h2 _ (hun _ h4))
   ·rename_i n;split at hk
    ·rename_i ho;obtain⟨r,h1,h2⟩:=bl hR ha hk;obtain⟨l,ls,h3,h4,h5⟩:=gQ hc h1;rw [ho] at h5;exact gv he hH h3 rfl (h2 _ (s6 h5 h4))
    ·rename_i p r ho;split at hk
     ·obtain⟨u,h1,h2⟩:=hk;obtain⟨l,ls,h3,h4,h5⟩:=gQ hc h1;rw [ho] at h5;exact gv he hH h3 rfl (av hR (fun _=>.st h4 h5) h2)
     ·cases hk
  ·cases hk
 ·rename_i O off id hO;simp only [kP] at hk;split at hk
  ·rename_i v ovs hv;split at hk;rotate_left
   ·cases hk
   obtain⟨y,hy,id',cs,ts,rfl,hH,hc⟩:=hR.heap O _ hv;rw [hO] at hy;cases hy;obtain⟨r,h1,h2⟩:=bl hR ha hk;have hf:Gq ts cs:=by
    refine⟨⟨hc.len,fun j t x ht hx=>(hc.at_ j t x ht hx).1⟩,fun x hx=>?_⟩;obtain⟨j,hj⟩:=List.getElem?_of_mem hx;have hlt:j < ts.length:=by rw [hc.len];exact(Uo.1 hj).1
    exact(hc.at_ j _ x (Un hlt) hj).2
   obtain⟨l,x,h3,h4,h5⟩:=tS hc.cells hf h1;exact gv he hH h3 h4 (h2 _ h5)
  ·cases hk
 ·rename_i O i off id gg b z len cap ex hO;simp only [kP] at hk;split at hk
  ·rename_i z' es hv;obtain⟨y,hy,hs⟩:=hR.heap O _ hv;rw [hO] at hy;cases hy;obtain⟨r,h1,h2⟩:=bl hR ha hk;obtain⟨hz,hs⟩:=hs;rcases hs with ⟨_,e|e⟩|⟨id',g',b',cells,e,hH,hb,hE⟩
   ·cases e
   ·cases e
   ·cases e;unfold sS at h1;split at h1
    ·cases h1
    rename_i e1 he1;have hlt:i < es.length:=(Uo.1 he1).1;obtain⟨ts,ht1,ht2⟩:=fj.1 (hE.el i e1 he1);obtain⟨l,x,h3,h4,h5⟩:=tS ht1 ⟨ht2,iZ hE.flat _ _⟩ h1;have hl:=hE.len;rw [UB] at hl;obtain⟨h6,h7⟩:=iu h3;have h8:off+cP sz<=z:=by simp only [UA] at h6;omega
    have h9:i*z+z<=es.length*z:=by have:(i+1)*z<=es.length*z:=Nat.mul_le_mul_right z hlt;rwa [Nat.add_mul,Nat.one_mul] at this
    refine gv he hH (l:=l) ?_ h4 (h2 _ h5);rw [dy,if_pos (by omega),h7];congr 1;simp only [List.drop_drop,List.drop_take,List.take_take];congr 1;omega
  ·rename_i K s io iz ver hole es hv;split at hk;rotate_left
   ·cases hk
   rename_i hK;rw [UQ] at hK;subst hK;obtain⟨y,hy,hs⟩:=hR.heap K _ hv;rw [hO] at hy;cases hy;obtain⟨rfl,rfl,rfl,rfl,p1,p2,p3,cells,hH,hb,hG⟩:=Ik hs;have hl:=hG.len;rw [UB] at hl;split at hk
   ·split at hk
    ·rename_i ho;rw [UQ] at ho;subst ho;split at hk;rotate_left
     ·cases hk
     obtain⟨e,he1,hk⟩:=G_ ha hk;obtain⟨ts,g1,g2,g3,x,g4,g5,g6⟩:=hG.el i e he1;refine gv he hH (l:=[x]) ?_ rfl (av hR (fun _=>.ow g5) hk);rw [Uv] at g4;have:=pQ g4;rw [←Nat.add_assoc] at this;exact this
    ·obtain⟨r,h1,h2⟩:=bl hR ha hk;rename_i ho;have ho':off≠io:=fun e=>by subst e;simp at ho
     unfold sS at h1;split at h1
     ·cases h1
     rename_i e1 he1;obtain⟨ts,hc,hts⟩:=yO hG p2 he1;obtain⟨x,h3,h4,_⟩:=pz hc h1 (by rw [bQ,if_neg (Ne.symm ho')];rfl);exact gv he hH (yY h3 (Uo.1 he1).1 hl hb) rfl (h2 _ h4)
   ·rename_i n;split at hk;rotate_left
    ·cases hk
    rename_i hap;obtain⟨r,h1,h2⟩:=bl hR ha hk;unfold sS at h1;split at h1
    ·cases h1
    rename_i e1 he1;obtain⟨ts,hc,hts⟩:=yO hG p2 he1;obtain⟨l,ls,h3,h4,h5⟩:=gQ hc h1;rw [Gj hap] at h5;exact gv he hH (yY h3 (Uo.1 he1).1 hl hb) rfl (h2 _ (s6 h5 h4))
  ·cases hk
 ·rename_i v cs b off n hl hf hcc;obtain⟨r,h1,h2⟩:=bl hR ha hk;obtain⟨ts,ht1,ht2⟩:=fj.1 hcc;obtain⟨l,x,h3,h4,h5⟩:=tS ht1 ⟨ht2,iZ hf _ _⟩ h1;obtain⟨h6,h7⟩:=iu h3;have h8:off+cP sz<=n:=by simp only [UA] at h6;omega
  have qxj:cut cs (b+off) (cP sz)=some l:=by rw [dy,if_pos (by omega),h7];congr 1;simp only [List.drop_drop,List.drop_take,List.take_take];congr 1;omega
  exact aZ (v:=x) rfl (by simp only [lp,he,qxj,h4,fe]) (h2 _ h5)
 ·rename_i O v i j off id gg b z len cap ex hA;obtain⟨s,io,iz,es,ho,hk⟩:=de hk;obtain⟨y,hy,hs⟩:=hR.heap O _ ho;obtain⟨r,h1,h2⟩:=bl hR ha hk;obtain⟨l,hl,h1⟩:=H7 h1;have hsl:=vt hs hl (by simp) hA;obtain rfl:=GK hsl;obtain⟨cells,l',x,hH,h3,h4,h5⟩:=N9 hsl h1;exact gv he hH h3 h4 (h2 _ h5)
end
end Go.Ax.V
namespace Go.Ax.V
section
variable {prog:Map ak} {cf:iy} {nt:Nat} {A:bt} {V:au} {st:St} {d:Option Nat} {g:G} {k:au->Prop}
theorem jP {α:Type} (l:List α) (a n j:Nat):((l.drop a).take n)[j]?=if j < n then l[a+j]? else none:=by rw [Uu,Uv]
theorem Iw {z:Nat} {es:List TV} {row row' ce':List AV} {i:Nat} {e e':TV} (hE:BK z es row) (hi:es[i]?=some e) (hc:uz e' ce') (hl:ce'.length=z) (hf:∀x∈ce',AV.flat x=true)
  (hl':row'.length=row.length) (hr:∀j,row'[j]?=if i*z<=j/\j < i*z+z then ce'[j - i*z]? else row[j]?):BK z (es.set i e') row':=by
 have hlt:i < es.length:=(Uo.1 hi).1;refine⟨by rw [hl',hE.len,UE],fun x hx=>?_,fun j e1 hj=>?_⟩
 ·obtain⟨q,hq⟩:=List.getElem?_of_mem hx;rw [hr] at hq;split at hq
  ·exact hf x (Uw hq)
  ·exact hE.flat x (Uw hq)
 ·rw [List.getElem?_set] at hj;by_cases e:i=j
  ·subst e;rw [if_pos rfl,if_pos hlt] at hj;cases hj;have:(row'.drop (i*z)).take z=ce':=by
    apply List.ext_getElem?;intro q;rw [jP];by_cases hq:q < z
    ·rw [if_pos hq,hr,if_pos ⟨by omega,by omega⟩];congr 1;omega
    ·rw [if_neg hq];exact(List.getElem?_eq_none_iff.2 (by omega)).symm
   rw [this];exact hc
  ·rw [if_neg e] at hj;have:(row'.drop (j*z)).take z=(row.drop (j*z)).take z:=by
    apply List.ext_getElem?;intro q;rw [jP,jP];by_cases hq:q < z
    ·rw [if_pos hq,if_pos hq,hr,if_neg];rintro⟨h1,h2⟩;rcases Nat.lt_or_gt_of_ne e with h|h
     ·have:=ct (z:=z) h;omega
     ·have:=ct (z:=z) h;omega
    ·rw [if_neg hq,if_neg hq]
   rw [this];exact hE.el j e1 hj
theorem N8 {H:aU} {z:Nat} {es es':List TV} {id g b len cap:Nat} {ex:Bool} (hs:wX H z es (.ref id g b z len cap ex)) {i off sz:Nat} {t:TV} {as:List AV} {xs:List TV} {A:bt} (hp:jt es i off sz t=some es') (hx:bq A t [] as xs) :
  as.length=sz/\∃cells cells',H.get id=some (.row g cells)/\dz cells (b+i*z+off) as=some cells'/\wX (H.put (some (.row g cells')) id) z es' (.ref id g b z len cap ex):=by
 obtain⟨hz,hs⟩:=hs;rcases hs with ⟨_,e|e⟩|⟨id',g',b',cells,e,hH,hb,hE⟩
 ·cases e
 ·cases e
 ·cases e;unfold jt at hp;split at hp
  ·cases hp
  rename_i e1 he1;split at hp
  ·rename_i e1' hp';cases hp;have hlt:i < es.length:=(Uo.1 he1).1;obtain⟨ts,ht1,ht2⟩:=fj.1 (hE.el i e1 he1);have hce:bq A e1 [] (((cells.drop b).drop (i*z)).take z) ts:=⟨ht1,ht2.1,fun j w hj=>by simp [bU] at hj,fun j t x ht hx=>⟨ht2.2 j t x ht hx,iZ hE.flat _ _ x (Uw hx)⟩⟩;obtain⟨hn,ce',us,h3,h4,h5⟩:=gR hce hx hp';obtain⟨hov,hat⟩:=e9 h3;obtain⟨hb1,_⟩:=dR h3;have hl:=hE.len;rw [UB] at hl;have h9:=ct (z:=z) hlt;have hz':(((cells.drop b).drop (i*z)).take z).length=z:=by simp only [UA,UB];omega
   rw [hz'] at hb1 hov;have qxC:dz cells (b+i*z+off) as=some (cells.take (b+i*z+off)++as++cells.drop (b+i*z+off+as.length)):=by rw [jg,if_pos (by omega)]
   obtain⟨hl2,qxX⟩:=e9 qxC;refine⟨hn,cells,_,hH,qxC,hz,.inr ⟨id,g,b,_,by simp only [UE],by rw [Map.aa,if_pos rfl],by omega,?_⟩⟩;refine Iw (ce':=ce') hE he1 (fj.2 ⟨us,h4.cells,h4.len,fun j t x ht hx=>((h4.at_ j t x ht hx):Can t x/\_).1⟩) hov (fun x hx=>?_) (by simp only [UB];omega) (fun j=>?_)
   ·obtain⟨q,hq⟩:=List.getElem?_of_mem hx;have hlq:q < us.length:=by rw [h4.len];exact(Uo.1 hq).1
    exact((h4.at_ q _ x (Un hlq) hq):Can _ x/\_).2
   ·rw [Uv,qxX,Uv];by_cases hj:i*z<=j/\j < i*z+z
    ·rw [if_pos hj,hat,jP,Uv];by_cases hq:off<=j - i*z/\j - i*z < off+as.length
     ·rw [if_pos hq,if_pos (by omega)];congr 1;omega
     ·rw [if_neg hq,if_neg (by omega),if_pos (by omega)];congr 1;omega
    ·rw [if_neg hj,if_neg (by omega)]
  ·cases hp
theorem O7 {A:bt} {H:aU} {K s io iz ver:Nat} {hole:Option Nat} {es es':List TV} {b:Nat} {cells as:List AV} {xs:List TV} {i off sz:Nat} {t:TV} (hio:io < s) (hb:b<=cells.length) (hG:Gp A H K s io iz ver hole es (cells.drop b)) (hap:sP off sz io=true)
  (hp:jt es i off sz t=some es') (hx:bq A t [] as xs):as.length=sz/\es'.length=es.length/\∃cells',dz cells (b+i*s+off) as=some cells'/\b<=cells'.length/\Gp A H K s io iz ver hole es' (cells'.drop b):=by
 unfold jt at hp;split at hp
 ·cases hp
 rename_i e1 he1;split at hp;rotate_left
 ·cases hp
 rename_i e1' hp';cases hp;have hlt:i < es.length:=(Uo.1 he1).1;obtain⟨ts,hce,hts⟩:=yO hG hio he1;obtain⟨hn,ce',us,h3,h4,h5⟩:=gR hce hx hp';rw [tv] at h4;have qxj:lA off sz [(io,VV.ow K ver i)]=[(io,VV.ow K ver i)]:=by simp only [sP,UO,UR,US] at hap;simp only [lA,cond_eq_ite,UN,UR,US];rw [if_neg (by omega)]
 rw [qxj] at h4;obtain⟨hov,hat⟩:=e9 h3;obtain⟨hb1,_⟩:=dR h3;have hl:=hG.len;rw [UB] at hl;have h9:=ct (z:=s) hlt;have hz':(((cells.drop b).drop (i*s)).take s).length=s:=by simp only [UA,UB];omega
 rw [hz'] at hb1 hov;have qxC:dz cells (b+i*s+off) as=some (cells.take (b+i*s+off)++as++cells.drop (b+i*s+off+as.length)):=by rw [jg,if_pos (by omega)]
 obtain⟨hl2,qxX⟩:=e9 qxC;have hcell:∀q,(List.drop b (cells.take (b+i*s+off)++as++cells.drop (b+i*s+off+as.length)))[q]?=if i*s<=q/\q < i*s+s then ce'[q - i*s]? else (cells.drop b)[q]?:=by
  intro q;rw [Uv,qxX,Uv];by_cases hj:i*s<=q/\q < i*s+s
  ·rw [if_pos hj,hat,jP,Uv];by_cases hq:off<=q - i*s/\q - i*s < off+as.length
   ·rw [if_pos hq,if_pos (by omega)];congr 1;omega
   ·rw [if_neg hq,if_neg (by omega),if_pos (by omega)];congr 1;omega
  ·rw [if_neg hj,if_neg (by omega)]
 refine⟨hn,by rw [UE],_,qxC,by omega,by rw [UB,UE];omega,fun j e he=>?_⟩;rw [List.getElem?_set] at he;by_cases hij:i=j
 ·subst hij;rw [if_pos rfl,if_pos hlt] at he;cases he;have hus:us.length=s:=by rw [h4.len];exact hov
  have qju:∀o,o < s->(List.drop b (cells.take (b+i*s+off)++as++cells.drop (b+i*s+off+as.length)))[i*s+o]?=ce'[o]?:=fun o ho=>by rw [hcell,if_pos (by omega)];congr 1;omega
  refine⟨us,h4.cells,hus,fun o t x hne ht hxx=>?_,?_⟩
  ·have ho:o < s:=by rw [←hus];exact(Uo.1 ht).1
   rw [qju o ho] at hxx;have:=h4.at_ o t x ht hxx;rw [bQ,if_neg (Ne.symm hne)] at this;exact this
  ·obtain⟨ts0,g1,g2,g3,x,g4,g5,g6⟩:=hG.el i e1 he1;have qjA:ts0=ts:=by have:=hce.cells;rw [g1] at this;cases this;rfl
   subst qjA;obtain⟨ts1,xs1,us1,q1,q2,q3,q4,q5,q6,q7⟩:=cu hp';rw [g1] at q1;cases q1;rw [h4.cells] at q4;cases q4;have hoff:¬(off<=io/\io < off+sz):=by simp only [sP,UO,UR,US] at hap;omega
   refine⟨x,?_,g5,fun hn=>?_⟩
   ·rw [qju io hio,hat,if_neg (by rw [hn];exact hoff),jP,if_pos hio];exact g4
   ·obtain⟨l,g7,g8⟩:=g6 hn;exact⟨l,by rw [q7,if_neg hoff];exact g7,g8⟩
 ·rw [if_neg hij] at he;obtain⟨ts0,g1,g2,g3,x,g4,g5,g6⟩:=hG.el j e he;have hne:∀o,o < s->¬(i*s<=j*s+o/\j*s+o < i*s+s):=fun o ho=>by
   rcases Nat.lt_or_gt_of_ne hij with h|h
   ·have:=ct (z:=s) h;omega
   ·have:=ct (z:=s) h;omega
  refine⟨ts0,g1,g2,fun o t y h1 h2 h3=>?_,x,?_,g5,g6⟩
  ·have ho:o < s:=by rw [←g2];exact(Uo.1 h2).1
   rw [hcell,if_neg (hne o ho)] at h3;exact g3 o t y h1 h2 h3
  ·rw [hcell,if_neg (hne io hio)];exact g4
theorem Gp.mono {A A':bt} {H H':aU} {K s io iz ver qzF:Nat} {hole:Option Nat} {es:List TV} {cs:List AV} (h:Gp A H K s io iz ver hole es cs) (hA:∀j x,A (.i K ver j)=some x->A' (.i K qzF j)=some x)
  (hH:∀j x id,hole≠some j->A (.i K ver j)=some x->cX x=some id->H'.get id=H.get id):Gp A' H' K s io iz qzF hole es cs:=by
 refine⟨h.len,fun j e he=>?_⟩;obtain⟨ts,g1,g2,g3,x,g4,g5,g6⟩:=h.el j e he;refine⟨ts,g1,g2,g3,x,g4,hA j x g5,fun hn=>?_⟩;obtain⟨l,g7,g8⟩:=g6 hn;exact⟨l,g7,g8.mono fun id hi=>hH j x id hn g5 hi⟩
theorem kX.Lv {V:au} {O s io iz ver v0:Nat} {hole qzl:Option Nat} {es es0:List TV} (h:V.H.get O=some (.gn O s io iz v0 qzl es0)) (hv:v0<=ver):kX V (bu V O (.gn O s io iz ver hole es)):=by
 refine⟨fun _ h=>h,fun K s' io' iz' qzF qzm es' hK=>?_⟩;simp only [bu,Map.aa] at hK;split at hK
 ·cases hK;exact .inr ⟨s,io,iz,v0,qzl,es0,h,hv⟩
 ·exact .inr ⟨s',io',iz',qzF,qzm,es',hK,U3 _⟩
theorem Mg {A:bt} {H H':aU} {O s io iz ver:Nat} {es es':List TV} {id g b:Nat} {cs:List AV} {i:Nat} {l l':List TV} (hG:Gp A H O s io iz ver none es cs) (hl:su es i io=some l) (hp:jt es i io 1 (.l l')=some es') {x:AV} (hx:A (.i O ver i)=some x)
  (hs:wX H' iz l' x) (hH:∀j y id,j≠i->A (.i O ver j)=some y->cX y=some id->H'.get id=H.get id):es'.length=es.length/\Gp A H' O s io iz ver none es' cs:=by
 unfold jt at hp;split at hp
 ·cases hp
 rename_i e1 he1;split at hp;rotate_left
 ·cases hp
 rename_i e1' hp';cases hp;have hlt:i < es.length:=(Uo.1 he1).1;refine⟨by rw [UE],by rw [hG.len,UE],fun j e he=>?_⟩;rw [List.getElem?_set] at he;by_cases hij:i=j
 ·subst hij;rw [if_pos rfl,if_pos hlt] at he;cases he;obtain⟨ts,g1,g2,g3,y,g4,g5,g6⟩:=hG.el i e1 he1;rw [hx] at g5;cases g5;obtain⟨ts1,xs1,us1,q1,q2,q3,q4,q5,q6,q7⟩:=cu hp';rw [g1] at q1;cases q1;cases q2;refine⟨us1,q4,by rw [q5,g2],fun o t z hne ht hz=>?_,x,g4,hx,fun _=>⟨l',?_,hs⟩⟩
  ·rw [q7,if_neg (by omega)] at ht;exact g3 o t z hne ht hz
  ·rw [q7,if_pos (by omega),Nat.sub_self];rfl
 ·rw [if_neg hij] at he;obtain⟨ts,g1,g2,g3,y,g4,g5,g6⟩:=hG.el j e he;refine⟨ts,g1,g2,g3,y,g4,g5,fun hn=>?_⟩;obtain⟨l2,g7,g8⟩:=g6 hn;exact⟨l2,g7,g8.mono fun id hi=>hH j y id (Ne.symm hij) g5 hi⟩
def xw (A:bt) (K ver i:Nat) (x:AV):bt
 |.s O=>A (.s O)
 |.i K' v j=>if K'=K/\v=ver+1 then (if j=i then some x else A (.i K ver j)) else A (.i K' v j)
theorem mP {A:bt} {K ver i:Nat} {x:AV} {K' v j:Nat} (h:¬(K'=K/\v=ver+1)):xw A K ver i x (.i K' v j)=A (.i K' v j):=if_neg h
theorem kZ {A:bt} {K ver i:Nat} {x:AV} {j:Nat}:xw A K ver i x (.i K (ver+1) j)=if j=i then some x else A (.i K ver j):=if_pos ⟨rfl,rfl⟩
theorem BU {A:bt} {K ver i:Nat} {x:AV} {O:Nat} {o:VO} {y:AV} {id:Nat} (hne:O≠K) (hv:jq A O y o):dX (xw A K ver i x) o y id↔dX A o y id:=by
 cases o with
 |gn K' s io iz v hole es=>
  obtain⟨rfl,_⟩:=hv;have e:∀j,xw A K ver i x (.i K' v j)=A (.i K' v j):=fun j=>mP (fun h=>hne h.1)
  simp only [dX,e]
 |_=>exact Iff.rfl
theorem MB {A:bt} {V:au} {st:St} (hR:R A V st) {K N s io iz ver:Nat} {hole:Option Nat} {es es' l:List TV} {id g b:Nat} {cells:List AV} {i:Nat} {x:AV} (hv:V.H.get K=some (.gn K s io iz ver hole es)) (hA:A K=some (.ref id g b s es.length es.length false))
  (hH:st.H.get id=some (.row g cells)) (hb:b<=cells.length) (hG:Gp A st.H K s io iz ver hole es (cells.drop b)) (q1:0 < s) (q2:io < s) (q3:0 < iz) (hN:V.H.get N=some (.gr iz l)) (hx:A N=some x) (hNK:N≠K) (hho:hole=none\/hole=some i)
  (hp:jt es i io 1 (.l l)=some es'):∃cells',dz cells (b+i*s+io) [x]=some cells'/\R (xw A K ver i x) (bu (bT V N) K (.gn K s io iz (ver+1) none es')) ⟨st.env,st.H.put (some (.row g cells')) id,st.nx⟩/\
   Fr V A st.H st.nx (bu (bT V N) K (.gn K s io iz (ver+1) none es')) (xw A K ver i x) (st.H.put (some (.row g cells')) id) st.nx/\Ext V A (bu (bT V N) K (.gn K s io iz (ver+1) none es')) (xw A K ver i x):=by
 obtain⟨_,hv1,hv0,hv2,hv3⟩:=hR.gh K _ _ hv hA;have hol:∀j,j≠i->hole≠some j:=fun j hj he=>by rcases hho with h|h<;>rw [h] at he<;>cases he;exact hj rfl
 obtain⟨y,hy,hsN⟩:=hR.heap N _ hN;rw [hx] at hy;cases hy;have idN:∀id',cX x=some id'->dX A (.gr iz l) x id':=fun id' h=>.inl h
 have idK:dX A (.gn K s io iz ver hole es) (.ref id g b s es.length es.length false) id:=.inl rfl;have xne:∀id',cX x=some id'->id'≠id:=fun id' h he=>by subst he;exact hNK (hR.inj N K _ _ _ _ id' hN hv hx hA (idN _ h) idK)
 unfold jt at hp;split at hp
 ·cases hp
 rename_i e1 he1;split at hp;rotate_left
 ·cases hp
 rename_i e1' hp';cases hp;have hlt:i < es.length:=(Uo.1 he1).1;have hl:=hG.len;rw [UB] at hl;have h9:=ct (z:=s) hlt;have qxC:dz cells (b+i*s+io) [x]=some (cells.take (b+i*s+io)++[x]++cells.drop (b+i*s+io+1)):=by rw [jg,if_pos (by simp only [UC];omega)];rfl
 obtain⟨hl2,qxX⟩:=e9 qxC;generalize cells.take (b+i*s+io)++[x]++cells.drop (b+i*s+io+1)=cells' at qxC hl2 qxX;have hcell:∀q,(cells'.drop b)[q]?=if q=i*s+io then some x else (cells.drop b)[q]?:=by
  intro q;rw [Uv,qxX,Uv];simp only [UC];by_cases hq:q=i*s+io
  ·subst hq;rw [if_pos rfl,if_pos (by omega),show b+(i*s+io) - (b+i*s+io)=0 by omega];rfl
  ·rw [if_neg hq,if_neg (by omega)]
 have hmono:∀n y,A n=some y->xw A K ver i x n=some y:=fun n y hn=>by
  cases n with
  |s O=>exact hn
  |i K' v j=>
   by_cases he:K'=K/\v=ver+1
   ·obtain⟨rfl,rfl⟩:=he;rw [hv1 (ver+1) j (by omega)] at hn;cases hn
   ·rw [mP he];exact hn
 have qxc:∀id',id'≠id->(st.H.put (some (.row g cells')) id).get id'=st.H.get id':=fun id' h=>by rw [Map.aa,if_neg h]
 have hlen':(es.set i e1').length=es.length:=UE;have idsNew:∀id',dX (xw A K ver i x) (.gn K s io iz (ver+1) none (es.set i e1')) (.ref id g b s es.length es.length false) id'->dX A (.gn K s io iz ver hole es) (.ref id g b s es.length es.length false) id'\/cX x=some id':=by
  rintro id' (h|⟨j,y,h1,h2,h3⟩)
  ·exact .inl (.inl h)
  ·rw [kZ] at h2;split at h2
   ·cases h2;exact .inr h3
   ·rename_i hji;exact .inl (.inr ⟨j,y,hol j hji,h2,h3⟩)
 have get':∀(O':Nat) o',(bu (bT V N) K (.gn K s io iz (ver+1) none (es.set i e1'))).H.get O'=some o'->(O'=K/\o'=.gn K s io iz (ver+1) none (es.set i e1'))\/(O'≠K/\O'≠N/\V.H.get O'=some o'):=fun O' o' h=>by
  simp only [bu,Map.aa] at h;split at h
  ·rename_i e;cases h;exact .inl ⟨e,rfl⟩
  ·rename_i e;obtain⟨h1,h2⟩:=eO h;exact .inr ⟨e,h1,h2⟩
 refine⟨cells',qxC,⟨fun t e he=>?_,fun O' o' ho=>?_,fun O1 O2 o1 o2 a1 a2 id' ho1 ho2 ha1 ha2 hi1 hi2=>?_,fun n hn=>?_,fun n y hn=>?_,fun id' ob hh=>?_,fun O' o' y ho hy=>?_⟩,⟨U3 _,fun id' _ hn=>?_,fun id' ⟨O',o',y,h1,h2,h3⟩=>?_⟩,⟨hmono,fun n y hn=>?_,?_⟩⟩
 ·obtain⟨a,h1,h2⟩:=hR.env t e he;exact⟨a,h1,fun hh=>(h2 hh).mono hmono⟩
 ·rcases get' O' o' ho with ⟨rfl,rfl⟩|⟨hne,qzX,h⟩
  ·refine⟨_,hA,q1,q2,q3,.inr ⟨id,g,b,cells',by rw [hlen'],by rw [Map.aa,if_pos rfl],by omega,by rw [UB,hlen'];omega,fun j e he=>?_⟩⟩;rw [List.getElem?_set] at he;by_cases hij:i=j
   ·subst hij;rw [if_pos rfl,if_pos hlt] at he;cases he;obtain⟨ts,g1,g2,g3,y,g4,g5,g6⟩:=hG.el i e1 he1;obtain⟨ts1,xs1,us1,p1,p2,p3,p4,p5,p6,p7⟩:=cu hp';rw [g1] at p1;cases p1;cases p2;refine⟨us1,p4,by rw [p5,g2],fun o t z hno ht hz=>?_,x,by rw [hcell,if_pos rfl],by rw [kZ,if_pos rfl],fun _=>⟨l,?_,wX.mono (fun id' hi=>qxc id' (xne id' hi)) (show wX st.H iz l x from hsN)⟩⟩
    ·rw [p7,if_neg (by omega)] at ht;rw [hcell,if_neg (by omega)] at hz;exact g3 o t z hno ht hz
    ·rw [p7,if_pos (by omega),Nat.sub_self];rfl
   ·rw [if_neg hij] at he;obtain⟨ts,g1,g2,g3,y,g4,g5,g6⟩:=hG.el j e he;have hne:∀o,o < s->j*s+o≠i*s+io:=fun o ho=>by
     rcases Nat.lt_or_gt_of_ne hij with h|h
     ·have:=ct (z:=s) h;omega
     ·have:=ct (z:=s) h;omega
    refine⟨ts,g1,g2,fun o t z hno ht hz=>?_,y,by rw [hcell,if_neg (hne io q2)];exact g4,by rw [kZ,if_neg (Ne.symm hij)];exact g5,fun _=>?_⟩
    ·have ho:o < s:=by rw [←g2];exact(Uo.1 ht).1
     rw [hcell,if_neg (hne o ho)] at hz;exact g3 o t z hno ht hz
    ·obtain⟨l2,g7,g8⟩:=g6 (hol j (Ne.symm hij));exact⟨l2,g7,g8.mono fun id' hi=>qxc id' (fun he=>hv3 j y id' (hol j (Ne.symm hij)) g5 hi (by rw [he];rfl))⟩
  ·obtain⟨a,h1,h2⟩:=hR.heap O' o' h;refine⟨a,hmono _ _ h1,h2.mono hmono (fun id' hi=>qxc id' (fun he=>?_))⟩;subst he;exact hne (hR.inj O' K _ _ _ _ id' h hv h1 hA hi idK)
 ·have sh:∀{O':Nat} {o':VO} {a':AV},(bu (bT V N) K (.gn K s io iz (ver+1) none (es.set i e1'))).H.get O'=some o'->A O'=some a'->dX (xw A K ver i x) o' a' id'->∃(P:Nat) (p:VO) (ap:AV),V.H.get P=some p/\A P=some ap/\dX A p ap id'/\(P=O'\/(P=N/\O'=K)):=by
   intro O' o' a' ho ha hi;rcases get' O' o' ho with ⟨rfl,rfl⟩|⟨hne,qzX,h⟩
   ·rw [hA] at ha;cases ha;rcases idsNew _ hi with h|h
    ·exact⟨_,_,_,hv,hA,h,.inl rfl⟩
    ·exact⟨_,_,_,hN,hx,idN _ h,.inr ⟨rfl,rfl⟩⟩
   ·exact⟨O',o',a',h,ha,(BU hne (hR.gh O' _ _ h ha)).1 hi,.inl rfl⟩
  obtain⟨P1,p1,x1,r1,r2,r3,r4⟩:=sh ho1 ha1 hi1;obtain⟨P2,p2,x2,t1,t2,t3,t4⟩:=sh ho2 ha2 hi2;have hPP:=hR.inj P1 P2 _ _ _ _ id' r1 t1 r2 t2 r3 t3;have notN:∀{O':Nat} {o':VO},(bu (bT V N) K (.gn K s io iz (ver+1) none (es.set i e1'))).H.get O'=some o'->O'≠N:=fun {O' o'} h he=>by
   rcases get' O' o' h with ⟨h1,_⟩|⟨_,h1,_⟩
   ·exact hNK (he▸h1)
   ·exact h1 he
  rcases r4 with rfl|⟨rfl,rfl⟩
  ·rcases t4 with rfl|⟨rfl,rfl⟩
   ·exact hPP
   ·exact absurd hPP (notN ho1)
  ·rcases t4 with rfl|⟨h1,h2⟩
   ·exact absurd hPP.symm (notN ho2)
   ·exact h2.symm
 ·have hn':V.us.get n.base=none:=hn;have h0:=hR.used n hn';cases n with
  |s O=>exact h0
  |i K' v j=>
   rw [mP]
   ·exact h0
   ·rintro⟨rfl,rfl⟩;have:=hR.used (.s K') hn';rw [hA] at this;cases this
 ·cases n with
  |s O=>exact hR.one _ _ hn
  |i K' v j=>
   by_cases he:K'=K/\v=ver+1
   ·obtain⟨rfl,rfl⟩:=he;rw [kZ] at hn;split at hn
    ·cases hn;exact hR.one _ _ hx
    ·exact hR.one _ _ hn
   ·rw [mP he] at hn;exact hR.one _ _ hn
 ·have hh':(st.H.put (some (.row g cells')) id).get id'=some ob:=hh;rw [Map.aa] at hh';split at hh'
  ·rename_i e;subst e;exact hR.fresh _ _ hH
  ·exact hR.fresh _ _ hh'
 ·rcases get' O' o' ho with ⟨rfl,rfl⟩|⟨hne,qzX,h⟩
  ·have hy':A O'=some y:=hy;rw [hA] at hy';cases hy';refine⟨rfl,fun v j hvv=>?_,fun j y hy=>?_,fun j j' y y' id' _ _ h1 h2 h3 h4=>?_,fun j y id' _ h1 h2=>?_⟩
   ·rw [mP (fun h=>by omega)];exact hv1 v j (by omega)
   ·rw [kZ] at hy;split at hy
    ·rename_i e;subst e;rw [hlen'];exact hlt
    ·rw [hlen'];exact hv0 j y hy
   ·rw [kZ] at h1 h2;split at h1
    ·cases h1;split at h2
     ·rename_i e1 e2;rw [e1,e2]
     ·rename_i e1 e2;exact absurd (hR.inj N O' _ _ _ _ id' hN hv hx hA (idN _ h3) (.inr ⟨j',y',hol j' e2,h2,h4⟩)) hNK
    ·split at h2
     ·cases h2;rename_i e1 e2;exact absurd (hR.inj N O' _ _ _ _ id' hN hv hx hA (idN _ h4) (.inr ⟨j,y,hol j e1,h1,h3⟩)) hNK
     ·rename_i e1 e2;exact hv2 j j' y y' id' (hol j e1) (hol j' e2) h1 h2 h3 h4
   ·rw [kZ] at h1;split at h1
    ·cases h1;intro h;cases h;exact xne _ h2 rfl
    ·rename_i e1;exact hv3 j y id' (hol j e1) h1 h2
  ·have hk:=hR.gh O' o' y h hy;cases o' with
   |gn K' s' io' iz' v' qzm es2=>
    obtain⟨rfl,k1,k0,k2,k3⟩:=hk;have e:∀v j,xw A K ver i x (.i K' v j)=A (.i K' v j):=fun v j=>mP (fun h=>hne h.1)
    refine⟨rfl,fun v j hv=>by rw [e];exact k1 v j hv,fun j x=>by rw [e];exact k0 j x,fun j j' x x' id=>?_,fun j x id=>?_⟩
    ·rw [e,e];exact k2 j j' x x' id
    ·rw [e];exact k3 j x id
   |_=>trivial
 ·exact qxc id' (fun he=>hn (he▸⟨K,_,_,hv,hA,idK⟩))
 ·left;rcases get' O' o' h1 with ⟨rfl,rfl⟩|⟨hne,qzX,h⟩
  ·have h2':A O'=some y:=h2;rw [hA] at h2';cases h2';rcases idsNew _ h3 with h|h
   ·exact⟨O',_,_,hv,hA,h⟩
   ·exact⟨N,_,_,hN,hx,idN _ h⟩
  ·exact⟨O',o',y,h,h2,(BU hne (hR.gh O' _ _ h h2)).1 h3⟩
 ·cases n with
  |s O=>exact .inl hn
  |i K' v j=>
   by_cases he:K'=K/\v=ver+1
   ·obtain⟨rfl,rfl⟩:=he;exact .inr (.inr ⟨K',ver+1,j,s,io,iz,ver,hole,es,rfl,hv,by omega⟩)
   ·rw [mP he] at hn;exact .inl hn
 ·refine⟨fun _ h=>h,fun K2 s2 io2 iz2 v2 h2 es2 hK=>?_⟩;rcases get' K2 _ hK with ⟨rfl,e⟩|⟨_,_,h⟩
  ·cases e;exact .inr ⟨s,io,iz,ver,hole,es,hv,by omega⟩
  ·exact .inr ⟨s2,io2,iz2,v2,h2,es2,h,U3 _⟩
theorem Hf {N:Nat} {w:VV}:∀(m:Map VE) (t:Nat) (e:VE),(JC N w m).get t=some e->∃e0,m.get t=some e0/\(e=e0\/e0.v=.sl N/\e=⟨e0.gd,w⟩):=by
 intro m
 induction m with
 |leaf=>intro t e h;cases h
 |node v l r ihl ihr=>
  intro t e h;have h':(Map.node (match v with
   |none=>none
   |some e=>match e.v with
    |.sl M=>Bool.rec (some e) (some ⟨e.gd,w⟩) (Nat.beq M N)
    |_=>some e) (JC N w l) (JC N w r)).get t=some e:=h
  rw [Map.cQ] at h' ⊢;split at h'
  ·rename_i h0;rw [if_pos h0];cases v with
   |none=>cases h'
   |some e0=>
    refine⟨e0,rfl,?_⟩;obtain⟨gd,v⟩:=e0;cases v with
    |sl M=>
     have h2:(Bool.rec (some ⟨gd,.sl M⟩) (some ⟨gd,w⟩) (Nat.beq M N):Option VE)=some e:=h';rw [uo] at h2;split at h2
     ·rename_i hb;rw [UQ] at hb;subst hb;cases h2;exact .inr ⟨rfl,rfl⟩
     ·cases h2;exact .inl rfl
    |_=>cases h';exact .inl rfl
  ·rename_i h0;rw [if_neg h0];split at h'
   ·rename_i h1;rw [if_pos h1];exact ihl _ _ h'
   ·rename_i h1;rw [if_neg h1];exact ihr _ _ h'
theorem JB {A:bt} {V:au} {st:St} {N K v i:Nat} {o:VO} (hR:R A (bu (bT V N) K o) st) (hA:∀a,A N=some a->A (.i K v i)=some a):R A (bu (bT (Cj V N (.ow K v i)) N) K o) st:=by
 refine⟨fun t e he=>?_,hR.heap,hR.inj,hR.used,hR.one,hR.fresh,hR.gh⟩;obtain⟨e0,h1,h2⟩:=Hf V.env t e he;obtain⟨a,h3,h4⟩:=hR.env t e0 h1;refine⟨a,h3,fun hg=>?_⟩;rcases h2 with rfl|⟨h2,rfl⟩
 ·exact h4 hg
 ·have h5:=h4 hg;rw [h2] at h5;cases h5 with
  |sl h=>exact .ow (hA a h)
theorem He {A A':bt} {V V':au} {H H':aU} {nx nx' N K:Nat} {o:VO} {w:VV} (h:Fr V A H nx (bu (bT V' N) K o) A' H' nx'):Fr V A H nx (bu (bT (Cj V' N w) N) K o) A' H' nx':=⟨h.le,h.same,h.own⟩
theorem FM {A A':bt} {V V':au} {N K:Nat} {o:VO} {w:VV} (h:Ext V A (bu (bT V' N) K o) A'):Ext V A (bu (bT (Cj V' N w) N) K o) A':=⟨h.mono,h.new,⟨h.ev.us,h.ev.gn⟩⟩
theorem qc {cf:iy} {sz:Nat} {a x:aR} {id gg off:Nat} {cells cells' as:List AV} (he:ev st.env a=.ptr id gg off) (hx:(ev st.env x).cells?=some as) (hn:as.length=sz)
  (hH:st.H.get id=some (.row gg cells)) (ho:dz cells off as=some cells'):iO cf (.store sz a x) (ev st.env) st.H st.nx=some (dQ,st.H.put (some (.row gg cells')) id,st.nx):=by
 have hp:kind (.store sz a x)=.plan fun ρ=>lF ρ sz a x:=rfl
 simp only [iO,hp,lF,he,hx,cond_eq_ite,UQ,if_pos hn,cO,fq,dr,i_,hH,uX,if_pos,ho,uT]
theorem JM (hR:R A V st) {sz:Nat} {a x:aR} (h:eT V none a fun w=>eT V none x fun x=>jS V sz w x k):ck cf nt A V st none (.store sz a x) k:=by
 obtain⟨w,hw,h⟩:=b8 (g:=none) hR trivial h;obtain⟨y,hy,hk⟩:=b8 (g:=none) hR trivial h;generalize he:ev st.env a=p at hw;have done:∀(o:VO) {O:Nat} {o0:VO} {id gg off:Nat} {pa:AV} {cells cells' as:List AV},V.H.get O=some o0->A O=some pa->cX pa=some id->o0.pl=true->o.pl=true->ev st.env a=.ptr id gg off->(ev st.env x).cells?=some as->as.length=sz->
   st.H.get id=some (.row gg cells)->dz cells off as=some cells'->OR A (st.H.put (some (.row gg cells')) id) o pa->k (bu V O o)->ck cf nt A V st none (.store sz a x) k:=by
  intro o O o0 id gg off pa cells cells' as h1 h2 h3 p0 p1 h4 h5 h6 h7 h8 h9 h10;obtain⟨g1,g2⟩:=s9 hR h1 h2 ((dj p0).2 h3) h9 (fun id hi=>(dj p0).2 ((dj p1).1 hi)) (fun _=>uP p1);exact⟨_,_,_,qc h4 h5 h6 h7 h8,st.env,rfl,_,A,g1,g2,Ext.CB _ (kX.set p1),h10⟩
 cases hw<;>first|(cases hk;done)|skip
 ·rename_i O off id hO;simp only [jS] at hk;split at hk
  ·rename_i v ovs hv;split at hk
   ·rename_i t o hs;obtain⟨u,hp,hk⟩:=hk;obtain⟨z,hz,id',cs,ts,rfl,hH,hc⟩:=hR.heap O _ hv;rw [hO] at hz;cases hz;obtain⟨_,xs,_,_,hxs,_⟩:=cu hp;obtain⟨as,h1,h2⟩:=jj hR.one hy hs hxs;obtain⟨hn,cs',us,h3,h4,h5⟩:=gR hc h2 hp;exact done (.ob u (tv off o (lA off sz ovs))) hv hO rfl rfl rfl he h1 hn hH h3 ⟨_,cs',us,rfl,by rw [Map.aa,if_pos rfl],h4⟩ hk
   ·cases hk
  ·cases hk
 ·rename_i O off id hO;simp only [jS] at hk;split at hk
  ·rename_i v ovs hv;split at hk;rotate_left
   ·cases hk
   split at hk
   ·rename_i t;obtain⟨u,hp,hk⟩:=hk;obtain⟨z,hz,id',cs,ts,rfl,hH,hc⟩:=hR.heap O _ hv;rw [hO] at hz;cases hz;obtain⟨_,xs,_,_,hxs,_⟩:=cu hp;obtain⟨as,h1,h2⟩:=jj hR.one hy rfl hxs;obtain⟨hn,cs',us,h3,h4,h5⟩:=gR hc h2 hp;exact done (.ob u []) hv hO rfl rfl rfl he h1 hn hH h3 ⟨_,cs',us,rfl,by rw [Map.aa,if_pos rfl],h4⟩ hk
   ·cases hk
  ·cases hk
 ·rename_i O i off id gg b z len cap ex hO;simp only [jS] at hk;split at hk
  ·rename_i z' es hv;split at hk
   ·rename_i t;obtain⟨es',hp,hk⟩:=hk;obtain⟨y',hy',hs⟩:=hR.heap O _ hv;rw [hO] at hy';cases hy';obtain⟨hz,hs⟩:=hs;rcases hs with ⟨_,e|e⟩|⟨id',g',b',cells,e,hH,hb,hE⟩
    ·cases e
    ·cases e
    ·cases e;unfold jt at hp;split at hp
     ·cases hp
     rename_i e1 he1;split at hp
     ·rename_i e1' hp';cases hp;have hlt:i < es.length:=(Uo.1 he1).1;obtain⟨ts,ht1,ht2⟩:=fj.1 (hE.el i e1 he1);obtain⟨_,xs,_,_,hxs,_⟩:=cu hp';obtain⟨as,h1,h2⟩:=jj hR.one hy rfl hxs;have hce:bq A e1 [] (((cells.drop b).drop (i*z)).take z) ts:=⟨ht1,ht2.1,fun j w hj=>by simp [bU] at hj,fun j t x ht hx=>⟨ht2.2 j t x ht hx,iZ hE.flat _ _ x (Uw hx)⟩⟩;obtain⟨hn,ce',us,h3,h4,h5⟩:=gR hce h2 hp';obtain⟨hov,hat⟩:=e9 h3;obtain⟨hb1,_⟩:=dR h3;have hl:=hE.len;rw [UB] at hl;have h9:=ct (z:=z) hlt;have hz':(((cells.drop b).drop (i*z)).take z).length=z:=by simp only [UA,UB];omega
      rw [hz'] at hb1 hov;have qxC:dz cells (b+i*z+off) as=some (cells.take (b+i*z+off)++as++cells.drop (b+i*z+off+as.length)):=by rw [jg,if_pos (by omega)]
      obtain⟨hl2,qxX⟩:=e9 qxC;refine done (.gr z (es.set i e1')) hv hO rfl rfl rfl he h1 hn hH qxC ⟨hz,.inr ⟨id,gg,b,_,by simp only [UE],by rw [Map.aa,if_pos rfl],by omega,?_⟩⟩ hk;refine Iw (ce':=ce') hE he1 (fj.2 ⟨us,h4.cells,h4.len,fun j t x ht hx=>((h4.at_ j t x ht hx):Can t x/\_).1⟩) hov (fun x hx=>?_) (by simp only [UB];omega) (fun j=>?_)
      ·obtain⟨q,hq⟩:=List.getElem?_of_mem hx;have hlq:q < us.length:=by rw [h4.len];exact(Uo.1 hq).1
       exact((h4.at_ q _ x (Un hlq) hq):Can _ x/\_).2
      ·rw [Uv,qxX,Uv];by_cases hj:i*z<=j/\j < i*z+z
       ·rw [if_pos hj,hat,jP,Uv];by_cases hq:off<=j - i*z/\j - i*z < off+as.length
        ·rw [if_pos hq,if_pos (by omega)];congr 1;omega
        ·rw [if_neg hq,if_neg (by omega),if_pos (by omega)];congr 1;omega
       ·rw [if_neg hj,if_neg (by omega)]
     ·cases hp
   ·cases hk
  ·rename_i K s io iz ver hole es hv;split at hk;rotate_left
   ·cases hk
   rename_i hK;rw [UQ] at hK;subst hK;obtain⟨z',hz',hs⟩:=hR.heap K _ hv;rw [hO] at hz';cases hz';obtain⟨rfl,rfl,rfl,rfl,p1,p2,p3,cells,hH,hb,hG⟩:=Ik hs;obtain⟨_,hv1,hv0,hv2,hv3⟩:=hR.gh K _ _ hv hO;split at hk
   ·rename_i t;split at hk;rotate_left
    ·cases hk
    rename_i hap;obtain⟨es',hp,hk⟩:=hk;have hp0:=hp;unfold jt at hp0;split at hp0
    ·cases hp0
    split at hp0;rotate_left
    ·cases hp0
    rename_i hp';obtain⟨_,xs,_,_,hxs,_⟩:=cu hp';obtain⟨as,h1,h2⟩:=jj hR.one hy rfl hxs;obtain⟨hn,hlen,cells',h3,hb',hG'⟩:=O7 p2 hb hG hap hp h2;have hid:dX A (.gn K z io iz ver hole es) (.ref id gg b z es.length es.length false) id:=.inl rfl;obtain⟨g1,g2⟩:=s9 (o:=.gn K z io iz ver hole es') (ob:=.row gg cells') hR hv hO hid ⟨p1,p2,p3,.inr ⟨id,gg,b,cells',by rw [hlen],by rw [Map.aa,if_pos rfl],hb',hG'.mono (fun j x h=>h) (fun j x id' hn' hx hi=>by rw [Map.aa,if_neg];rintro rfl;exact hv3 j x id' hn' hx hi rfl)⟩⟩ (fun id hi=>hi) (fun hvk=>⟨rfl,hv1,fun j x hx=>by rw [hlen];exact hv0 j x hx,hv2,hv3⟩)
    exact⟨_,_,_,qc he h1 hn hH h3,st.env,rfl,_,A,g1,g2,Ext.CB _ (kX.Lv hv (U3 _)),hk⟩
   ·rename_i N;split at hk;rotate_left
    ·cases hk
    rename_i hsz;simp only [UN,UQ,UP] at hsz;obtain⟨rfl,rfl,hNK⟩:=hsz;have hNK:N≠K:=by rintro rfl;simp at hNK
    split at hk;rotate_left
    ·cases hk
    rename_i z' l hN;split at hk;rotate_left
    ·cases hk
    rename_i hz';rw [UQ] at hz';subst hz';have hho:(hole=none\/hole=some i)/\∃es',jt es i off 1 (.l l)=some es'/\k (bu (bT (Cj V N (.ow K (ver+1) i)) N) K (.gn K z off z' (ver+1) none es')):=by
     unfold KX at hk;split at hk
     ·exact⟨.inl rfl,hk⟩
     ·obtain⟨rfl,hk⟩:=hk;exact⟨.inr rfl,hk⟩
    clear hk;obtain⟨hho,es',hp,hk⟩:=hho;have hyN:A N=some (ev st.env x):=by cases hy;assumption
    obtain⟨cells',h3,g1,g2,g3⟩:=MB hR hv hO hH hb hG p1 p2 p3 hN hyN hNK hho hp;have hone:=hR.one _ _ hyN;have hcs:(ev st.env x).cells?=some [ev st.env x]:=by cases hq:ev st.env x<;>rw [hq] at hone<;>first|rfl|cases hone
    exact⟨_,_,_,qc he hcs rfl hH h3,st.env,rfl,_,_,JB g1 (fun a ha=>by rw [kZ,if_pos rfl];exact hyN.symm.trans ha),He g2,FM g3,hk⟩
   ·cases hk
  ·cases hk
 ·rename_i O v i j off id gg b z len cap ex hA;obtain⟨s,io,iz,es,ho,hk⟩:=de hk;obtain⟨t,hcan,l,hl,l',hp,es',hp2,hk⟩:=AJ hy hk;replace hy:=VR.tr (A:=A) hcan;obtain⟨a0,ha0,hs⟩:=hR.heap O _ ho;obtain⟨_,hv1,hv0,hv2,hv3⟩:=hR.gh O _ _ ho ha0;have hsl:=vt hs hl (by simp) hA;obtain rfl:=GK hsl;have hp0:=hp;unfold jt at hp0;split at hp0
  ·cases hp0
  split at hp0;rotate_left
  ·cases hp0
  rename_i hp';obtain⟨_,xs,_,_,hxs,_⟩:=cu hp';obtain⟨as,h1,h2⟩:=jj hR.one hy rfl hxs;obtain⟨hn,cells,cells',hH,h3,qze⟩:=N8 hsl hp h2;have hid:dX A (.gn O s io z v none es) a0 id:=.inr ⟨i,_,by simp,hA,rfl⟩;have hne:∀q y id',q≠i->A (.i O v q)=some y->cX y=some id'->(st.H.put (some (.row gg cells')) id).get id'=st.H.get id':=fun q y id' hq hqy hi=>by rw [Map.aa,if_neg];rintro rfl;exact hq (hv2 q i y _ id' (by simp) (by simp) hqy hA hi rfl)
  obtain⟨q1,q2,q3,hs⟩:=hs;rcases hs with ⟨rfl,_⟩|⟨id0,g0,b0,qzD,rfl,hH0,hb0,hG⟩
  ·obtain⟨e,he',_⟩:=CM hl;simp at he'
  ·obtain⟨hlen,hG'⟩:=Mg (id:=id) (g:=gg) (b:=b) hG hl hp2 hA qze hne;obtain⟨g1,g2⟩:=s9 (o:=.gn O s io z v none es') (ob:=.row gg cells') hR ho ha0 hid ⟨q1,q2,q3,.inr ⟨id0,g0,b0,qzD,by rw [hlen],by
     rw [Map.aa,if_neg]
     ·exact hH0
     ·rintro rfl;exact hv3 i _ _ (by simp) hA rfl rfl,hb0,hG'⟩⟩ (fun id hi=>hi) (fun hvk=>⟨rfl,hv1,fun j x hx=>by rw [hlen];exact hv0 j x hx,hv2,hv3⟩)
   exact⟨_,_,_,qc he h1 hn hH h3,st.env,rfl,_,A,g1,g2,Ext.CB _ (kX.Lv ho (U3 _)),hk⟩
end
end Go.Ax.V
end
