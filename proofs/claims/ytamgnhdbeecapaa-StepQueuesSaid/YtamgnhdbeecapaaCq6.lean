/- Part 6 of the proof: V19, V20. -/
import Derived.Test.YtamgnhdbeecapaaCq5
set_option linter.unusedSimpArgs false
set_option linter.unusedVariables false
noncomputable section
namespace Go.Ax.V
def chunks (sz:Nat) (n:Nat):List AV->List (List AV):=
 Nat.rec (motive:=fun _=>List AV->List (List AV)) (fun _=>[]) (fun _ ih cs=>cs.take sz::ih (cs.drop sz)) n
theorem sU (sz:Nat):∀(n:Nat) (cs:List AV) (j:Nat),(chunks sz n cs)[j]?=if j < n then some ((cs.drop (j*sz)).take sz) else none
 |0,cs,j=>rfl
 |n+1,cs,0=>by show some (cs.take sz)=_;simp
 |n+1,cs,j+1=>by show (chunks sz n (cs.drop sz))[j]?=_;rw [sU sz n _ j,List.drop_drop,Nat.succ_mul,Nat.add_comm (j*sz) sz];simp only [Nat.add_lt_add_iff_right]
theorem sS (sz:Nat):∀(n:Nat) (cs:List AV),(chunks sz n cs).length=n
 |0,_=>rfl
 |n+1,cs=>congrArg (·+ 1) (sS sz n (cs.drop sz))
def NR (ih:AV->TV):List AV->TV
 |[x]=>ih x
 |cs=>.a (cs.map ih)
def BS (len n:Nat):Nat:=match n with
 |0=>1
 |n+1=>len / (n+1)
def B9 (d:Nat):AV->TV:=
 Nat.rec (motive:=fun _=>AV->TV) (fun _=>.np) (fun _ ih v=>match v with
  |.bool b=>.b b
  |.int k n=>.i k n
  |.str s=>.s s
  |.func f=>.f f
  |.ak=>.l []
  |.b6 cs n _=>.l ((chunks (BS cs.length n) n cs).map (NR ih))
  |.agg cs=>.a (cs.map ih)
  |.dM cs=>.tp (cs.map ih)
  |_=>.np) d
def pQ (d:Nat):AV->Bool:=
 Nat.rec (motive:=fun _=>AV->Bool) (fun _=>false) (fun _ ih v=>match v with
  |.bool _=>true
  |.int _ _=>true
  |.str _=>true
  |.func _=>true
  |.ak=>true
  |.jj=>true
  |.b6 cs n _=>Nat.beq cs.length (n*BS cs.length n)&&(Nat.blt 0 (BS cs.length n)&&(bz AV.flat cs&&bz ih cs))
  |.agg cs=>bz AV.flat cs&&bz ih cs
  |.dM cs=>bz AV.eN cs&&bz ih cs
  |_=>false) d
theorem E8 {d:Nat} {x:AV} (hf:x.flat=true):(B9 d x).one=true:=by
 cases d with
 |zero=>rfl
 |succ d=>cases x<;>first|rfl|cases hf
theorem sW {f:AV->TV} {cs:List AV} (h:∀x∈cs,Can (f x) x):∀(j:Nat) (t:TV) (x:AV),(cs.map f)[j]?=some t->cs[j]?=some x->Can t x:=by intro j t x ht hx;rw [PY,hx] at ht;cases ht;exact h x (P4 hx)
theorem sX:∀(d:Nat) (v:AV),pQ d v=true->Can (B9 d v) v
 |0,v,h=>by cases h
 |d+1,v,h=>by
  cases v with
  |bool b=>exact .b b
  |int k n=>exact .i k n
  |str s=>exact .s s
  |func f=>exact .f f
  |ak=>exact .nil
  |jj=>exact .np
  |b6 cs n c=>
   have h':(Nat.beq cs.length (n*BS cs.length n)&&(Nat.blt 0 (BS cs.length n)&&(bz AV.flat cs&&bz (pQ d) cs)))=true:=h;simp only [Qk] at h';obtain⟨h1,h2,h3,h4⟩:=h';have e1:=Nat.eq_of_beq_eq_true h1;have e2:0 < BS cs.length n:=Qp.mp h2;have e3:=aJ.1 h3;have e4:=aJ.1 h4;show Can (.l ((chunks (BS cs.length n) n cs).map (NR (B9 d)))) _;refine .b6 _ cs n (BS cs.length n) c (by rw [P6,sS]) e1 e2 e3 (fun j e he=>?_);rw [PY,sU] at he;split at he
   ·simp only [Option.map_some,Option.some.injEq] at he;subst he;have hm:∀x∈(cs.drop (j*BS cs.length n)).take (BS cs.length n),x∈cs:=fun x hx=>List.mem_of_mem_drop (List.mem_of_mem_take hx)
    generalize (cs.drop (j*BS cs.length n)).take (BS cs.length n)=bs at hm ⊢;have gen:∀bs:List AV,(∀x∈bs,x∈cs)->ld (.a (bs.map (B9 d))) bs:=fun bs hb=>.a _ _ (P6 _) (sW fun x hx=>sX d x (e4 x (hb x hx)))
    match bs,hm with
    |[],hm=>exact gen [] hm
    |[x],hm=>exact .one _ _ (E8 (e3 x (hm x (Qh.2 rfl)))) (sX d x (e4 x (hm x (Qh.2 rfl))))
    |x::y::r,hm=>exact gen _ hm
   ·cases he
  |agg cs=>have h':(bz AV.flat cs&&bz (pQ d) cs)=true:=h;simp only [Qk] at h';exact .a _ cs (P6 _) (aJ.1 h'.1) (sW fun x hx=>sX d x (aJ.1 h'.2 x hx))
  |dM cs=>have h':(bz AV.eN cs&&bz (pQ d) cs)=true:=h;simp only [Qk] at h';exact .tp _ cs (P6 _) (aJ.1 h'.1) (sW fun x hx=>sX d x (aJ.1 h'.2 x hx))
  |_=>cases h
theorem F8 {x:AV} {u:TV} (hr:CA x=true) (hg:pQ 20 x=true) (he:B9 20 x=u):Can (.pZ x u) x:=.pZ x u hr (he▸sX 20 x hg)
def H6 (d:Nat):TV->Option AV:=
 Nat.rec (motive:=fun _=>TV->Option AV) (fun _=>none) (fun _ ih t=>match t with
  |.i k n=>some (.int k n)
  |.b x=>some (.bool x)
  |.s x=>some (.str x)
  |.f n=>some (.func n)
  |.np=>some .jj
  |.pZ x _=>some x
  |.a ts=>(match cw ih ts with|some cs=>some (.agg cs)|none=>none)
  |.tp ts=>(match cw ih ts with|some cs=>some (.dM cs)|none=>none)
  |.l _=>none) d
theorem uK {f:TV->Option AV}:∀{ts:List TV} {cs as:List AV},(∀t a a',f t=some a->Can t a'->a'=a)->cw f ts=some cs->ts.length=as.length->(∀(j:Nat) (t:TV) (x:AV),ts[j]?=some t->as[j]?=some x->Can t x)->as=cs
 |[],cs,as,hf,h,hl,hc=>by cases h;exact Qt.1 hl.symm
 |t::ts,cs,[],hf,h,hl,hc=>by cases hl
 |t::ts,cs,a::as,hf,h,hl,hc=>by
  rw [b7] at h;cases h1:f t with
  |none=>rw [h1] at h;cases h
  |some x=>
   cases h2:cw f ts with
   |none=>rw [h1,h2] at h;cases h
   |some xs=>rw [h1,h2] at h;cases h;rw [hf t x a h1 (hc 0 t a rfl rfl),uK hf h2 (Nat.succ.inj hl) fun j u y hu hy=>hc (j+1) u y hu hy]
theorem oS:∀(d:Nat) (t:TV) (a a':AV),H6 d t=some a->Can t a'->a'=a
 |0,t,a,a',h,_=>by cases h
 |d+1,t,a,a',h,hc=>by
  cases hc with
  |i k n=>cases h;rfl
  |b x=>cases h;rfl
  |s x=>cases h;rfl
  |f n=>cases h;rfl
  |np=>cases h;rfl
  |nil=>cases h
  |b6=>cases h
  |a ts as hl hf hx=>
   have h':(match cw (H6 d) ts with|some cs=>some (AV.agg cs)|none=>none)=some a:=h;cases h1:cw (H6 d) ts with
   |none=>rw [h1] at h';cases h'
   |some cs=>rw [h1] at h';cases h';rw [uK (oS d) h1 hl hx]
  |tp ts as hl hf hx=>
   have h':(match cw (H6 d) ts with|some cs=>some (AV.dM cs)|none=>none)=some a:=h;cases h1:cw (H6 d) ts with
   |none=>rw [h1] at h';cases h'
   |some cs=>rw [h1] at h';cases h';rw [uK (oS d) h1 hl hx]
  |pZ x u hf hx=>cases h;rfl
def fQ (prog:Map aq) (k f:Nat) (args:List AV):Option AV:=match (interp prog k).fn f args .leaf 0 with
 |some (v,H,_)=>aP deep H v
 |none=>none
theorem j9 {prog:Map aq} {k f:Nat} {ts:List TV} {args:List AV} {a:AV} {r:TV} {Q:TV->Prop} (he:cw (H6 9) ts=some args) (h:fQ prog k f args=some a) (hc:Can r a) (hq:Q r):VS prog f ts Q:=by
 intro as ha;have e:as=args:=uK (oS 9) he ha.1 ha.2;subst e;unfold fQ at h;cases h1:(interp prog k).fn f as .leaf 0 with
 |none=>rw [h1] at h;cases h
 |some p=>obtain⟨v,H,nx⟩:=p;rw [h1] at h;exact⟨v,H,nx,l7 h1,a,h,r,hc,hq⟩
section
variable {sh:Sh} {prog:Map aq} {nt:Nat}
def gi (lo:List (Nat×TV×Nat)):List (Nat×TV)->aF
 |[]=>List.rec (motive:=fun _=>aF) V0 (fun p _ V=>⟨V.env.put (some ⟨none,.ptr p.1 0⟩) p.1,V.H.put (some (.ob p.2.1 [])) p.1,V.us.put (some ()) p.1⟩) lo
 |(t,v)::l=>fL (gi lo l) t (.tr v)
def Jx (v:Option dU) (b:Bool):Bool:=match v with
 |none=>true
 |some _=>b
def y6 (m:ay):(Nat->Bool)->Bool:=
 Map.rec (motive:=fun _=>(Nat->Bool)->Bool) (fun _=>true)
  (fun v _ _ l r p=>Bool.rec false (Bool.rec false (r fun k=>p (Nat.succ (Nat.succ (Nat.mul 2 k)))) (l fun k=>p (Nat.succ (Nat.mul 2 k)))) (Jx v (p 0))) m
theorem Dt (m:ay):∀(p:Nat->Bool) (i:Nat) (o:dU),y6 m p=true->m.get i=some o->p i=true:=by
 induction m with
 |leaf=>intro p i o _ h;cases h
 |node v l r ihl ihr=>
  intro p i o h hg;have h':(Bool.rec false (Bool.rec false (y6 r fun k=>p (Nat.succ (Nat.succ (Nat.mul 2 k)))) (y6 l fun k=>p (Nat.succ (Nat.mul 2 k)))) (Jx v (p 0)):Bool)=true:=h;rw [o6] at h';split at h';rotate_left
  ·cases h'
  rename_i h0;rw [o6] at h';split at h';rotate_left
  ·cases h'
  rename_i h1;rw [Map.b5] at hg;by_cases hi:i=0
  ·subst hi;rw [if_pos rfl] at hg;rw [hg] at h0;exact h0
  ·rw [if_neg hi] at hg;by_cases hi1:i % 2=1
   ·rw [if_pos hi1] at hg;have:=ihl _ _ _ h1 hg;have e:Nat.succ (Nat.mul 2 (i / 2))=i:=by simp only [Nat.succ_eq_add_one,Nat.mul_eq];omega
    rw [e] at this;exact this
   ·rw [if_neg hi1] at hg;have:=ihr _ _ _ h' hg;have e:Nat.succ (Nat.succ (Nat.mul 2 (i / 2 - 1)))=i:=by simp only [Nat.succ_eq_add_one,Nat.mul_eq];omega
    rw [e] at this;exact this
theorem zk (p:Nat×TV×Nat) (lo:List (Nat×TV×Nat)):gi (p::lo) []=⟨(gi lo []).env.put (some ⟨none,.ptr p.1 0⟩) p.1,(gi lo []).H.put (some (.ob p.2.1 [])) p.1,(gi lo []).us.put (some ()) p.1⟩:=rfl
theorem xE {lo:List (Nat×TV×Nat)}:∀{l:List (Nat×TV)} {t:Nat} {e:VE},(gi lo l).env.get t=some e->(∃v,(t,v)∈l/\e=⟨none,.tr v⟩)\/∃v id,(t,v,id)∈lo/\e=⟨none,.ptr t 0⟩
 |[],t,e,h=>by
  refine .inr ?_
  induction lo with
  |nil=>cases h
  |cons p lo ih=>
   rw [zk] at h;have h':((gi lo []).env.put (some ⟨none,.ptr p.1 0⟩) p.1).get t=some e:=h;rw [Map.au] at h';split at h'
   ·rename_i e1;subst e1;cases h';exact⟨p.2.1,p.2.2,Qc,rfl⟩
   ·obtain⟨v,id,h1,h2⟩:=ih h';exact⟨v,id,Qd _ h1,h2⟩
 |(u,v)::l,t,e,h=>by
  have h':((gi lo l).env.put (some ⟨none,.tr v⟩) u).get t=some e:=h;rw [Map.au] at h';split at h'
  ·rename_i e1;subst e1;cases h';exact .inl ⟨v,Qc,rfl⟩
  ·rcases xE h' with ⟨v',h1,h2⟩|h
   ·exact .inl ⟨v',Qd _ h1,h2⟩
   ·exact .inr h
theorem si {lo:List (Nat×TV×Nat)}:∀{l:List (Nat×TV)} {O:Nat} {o:VO},(gi lo l).H.get O=some o->∃v id,(O,v,id)∈lo/\o=.ob v []
 |[],O,o,h=>by
  induction lo with
  |nil=>cases h
  |cons p lo ih=>
   rw [zk] at h;have h':((gi lo []).H.put (some (.ob p.2.1 [])) p.1).get O=some o:=h;rw [Map.au] at h';split at h'
   ·rename_i e1;subst e1;cases h';exact⟨p.2.1,p.2.2,Qc,rfl⟩
   ·obtain⟨v,id,h1,h2⟩:=ih h';exact⟨v,id,Qd _ h1,h2⟩
 |(u,v)::l,O,o,h=>si (l:=l) h
theorem Ap {lo:List (Nat×TV×Nat)}:∀{l:List (Nat×TV)} {O:Nat},(gi lo l).us.get O=none->∀p∈lo,p.1≠O
 |[],O,h=>by
  induction lo with
  |nil=>intro p hp;cases hp
  |cons q lo ih=>
   rw [zk] at h;have h':((gi lo []).us.put (some ()) q.1).get O=none:=h;rw [Map.au] at h';split at h'
   ·cases h'
   ·rename_i e1;intro p hp;rcases Qf.1 hp with rfl|hp
    ·exact fun e=>e1 e.symm
    ·exact ih h' p hp
 |(u,v)::l,O,h=>Ap (l:=l) h
def mg:List (Nat×TV×Nat)->Nat->Option AV
 |[],_=>none
 |p::lo,O=>if p.1=O then some (.ptr p.2.2 0 0) else mg lo O
theorem uk:∀{lo:List (Nat×TV×Nat)} {O:Nat} {a:AV},mg lo O=some a->∃v id,(O,v,id)∈lo/\a=.ptr id 0 0
 |p::lo,O,a,h=>by
  unfold mg at h;split at h
  ·rename_i e1;subst e1;cases h;exact⟨p.2.1,p.2.2,Qc,rfl⟩
  ·obtain⟨v,id,h1,h2⟩:=uk h;exact⟨v,id,Qd _ h1,h2⟩
theorem kH:∀{lo:List (Nat×TV×Nat)},(lo.map (·.1)).Nodup->∀p∈lo,mg lo p.1=some (.ptr p.2.2 0 0)
 |q::lo,hn,p,hp=>by
  rw [List.map_cons,List.nodup_cons] at hn;unfold mg;rcases Qf.1 hp with rfl|hp
  ·rw [if_pos rfl]
  ·rw [if_neg (fun (e:q.1=p.1)=>hn.1 (by rw [e];exact List.mem_map_of_mem (f:=fun p=>p.1) hp))];exact kH hn.2 p hp
theorem um:∀{lo:List (Nat×TV×Nat)} {O:Nat},(∀p∈lo,p.1≠O)->mg lo O=none
 |[],O,_=>rfl
 |p::lo,O,h=>by unfold mg;rw [if_neg (h p Qc)];exact um fun q hq=>h q (Qd _ hq)
def Ca (lo:List (Nat×TV×Nat)):aY:=fun n=>match n with
 |.s O=>mg lo O
 |.i _ _ _=>none
theorem Bn {lo:List (Nat×TV×Nat)} (h2:(lo.map (fun p=>p.2.2)).Nodup):∀p∈lo,∀q∈lo,p.2.2=q.2.2->p=q:=by
 induction lo with
 |nil=>intro p hp;cases hp
 |cons r lo ih=>
  rw [List.map_cons,List.nodup_cons] at h2;intro p hp q hq e;rcases Qf.1 hp with rfl|hp'<;>rcases Qf.1 hq with rfl|hq'
  ·rfl
  ·exact absurd (by rw [e];exact List.mem_map_of_mem (f:=fun p=>p.2.2) hq') h2.1
  ·exact absurd (by rw [←e];exact List.mem_map_of_mem (f:=fun p=>p.2.2) hp') h2.1
  ·exact ih h2.2 p hp' q hq' e
theorem HO {lo:List (Nat×TV×Nat)} {l:List (Nat×TV)} {st:St} (hl:∀p∈l,∃a,st.env.get p.1=some a/\Can p.2 a) (ho:∀p∈lo,st.env.get p.1=some (.ptr p.2.2 0 0)/\∃ts cs,p.2.1=.a ts/\st.H.get p.2.2=some (.row 0 cs)/\Can (.a ts) (.agg cs))
  (hn1:(lo.map (·.1)).Nodup) (hn2:(lo.map (fun p=>p.2.2)).Nodup) (hf:y6 st.H (fun i=>Nat.blt i st.nx)=true):R (Ca lo) (gi lo l) st:=by
 refine⟨fun t e he=>?_,fun O o ho'=>?_,fun O O' o o' a a' id h1 h2 h3 h4 h5 h6=>?_,fun n hn=>?_,fun n a ha=>?_,fun id o ho'=>?_,fun O o a ho' ha=>?_⟩
 ·rcases xE he with ⟨v,h1,rfl⟩|⟨v,id,h1,rfl⟩
  ·obtain⟨a,h2,h3⟩:=hl _ h1;exact⟨a,h2,fun _=>.tr h3⟩
  ·exact⟨_,(ho _ h1).1,fun _=>.ptr (kH hn1 _ h1)⟩
 ·obtain⟨v,id,h1,rfl⟩:=si ho';refine⟨_,kH hn1 _ h1,?_⟩;obtain⟨_,ts,cs,h2,h3,h4⟩:=ho _ h1;have h2':v=.a ts:=h2;subst h2';cases h4 with
  |a _ _ g1 g2 g3=>exact⟨id,cs,ts,rfl,h3,rfl,g1,fun j w h=>(by cases h),fun j t x ht hx=>⟨g3 j t x ht hx,g2 x (P4 hx)⟩⟩
 ·obtain⟨v,i1,m1,rfl⟩:=si h1;obtain⟨v',i2,m2,rfl⟩:=si h2;rw [show Ca lo O=mg lo O from rfl,kH hn1 _ m1] at h3;rw [show Ca lo O'=mg lo O' from rfl,kH hn1 _ m2] at h4;cases h3;cases h4;have e1:=(cj (A:=Ca lo) (o:=.ob v []) rfl).1 h5;have e2:=(cj (A:=Ca lo) (o:=.ob v' []) rfl).1 h6;have e3:i1=id:=by injection e1
  have e4:i2=id:=by injection e2
  have:=Bn hn2 _ m1 _ m2 (e3.trans e4.symm);exact congrArg Prod.fst this
 ·cases n with
  |s O=>exact um (Ap hn)
  |i _ _ _=>rfl
 ·cases n with
  |s O=>obtain⟨v,id,_,rfl⟩:=uk ha;rfl
  |i _ _ _=>cases ha
 ·exact Qp.mp (Dt st.H _ id o hf ho')
 ·obtain⟨v,id,_,rfl⟩:=si ho';exact mj rfl
def cT (ex:dm) (nt:Nat):List bR->St->Option St
 |[],st=>some st
 |c::l,st=>match ex nt c st with
  |some (.normal,st)=>cT ex nt l st
  |_=>none
def Cm:List bR->bR->bR
 |[],c=>c
 |a::l,c=>.seq a (Cm l c)
theorem qS {k:Nat} {suf:bR} {r:bJ×St}:∀{l:List bR} {st st1:St},cT (interp prog k).code nt l st=some st1->bh prog nt suf st1=some r->bh prog nt (Cm l suf) st=some r
 |[],st,st1,h,h2=>by cases h;exact h2
 |c::l,st,st1,h,h2=>by
  unfold cT at h;split at h
  ·rename_i st2 h3;obtain⟨k0,hk⟩:=(jM prog k).2 nt c st _ h3;refine c9 ?_;show (match bh prog nt c st with|some (.normal,st)=>bh prog nt (Cm l suf) st|r=>r)=some r;have e:bh prog nt c st=some (.normal,st2):=hk k0 (Qy _);rw [e];exact qS h h2
  ·cases h
theorem FR {A:aY} {V:aF} {st:St} {r:pq} {Q:TV->Prop} (g1:R A V st) (g4:yV V [r] fun rs=>eU rs/\Q (yF rs)):∃v,ko [r] st=some v/\∃a,aP deep v.2.1 v.1=some a/\∃t,Can t a/\Q t:=by obtain⟨v,t,a,h1,h2,h3,h4⟩:=rm g1 (k:=fun v=>eU [v]/\Q (yF [v])) g4 26;exact⟨(v,st.H,st.nx),by unfold ko;simp only [b7,h1];rfl,a,h2,t,h3,h4.2⟩
theorem HP {f k:Nat} {af:aq} {l:List bR} {vc:cm} {args:List AV} {st:St} {lo:List (Nat×TV×Nat)} {live:List (Nat×TV)} {r:pq} (hf:prog.get f=some af) (ha:args.length=af.params) (hb:af.body=Cm l vc.code) (hr:af.res=[r])
  (hok:vc.ok=true) (hsh:n9 prog sh) (hpre:∀x,bh prog af.nt vc.code st=some x->bh prog af.nt af.body ⟨cI args 0 .leaf,.leaf,0⟩=some x) (hl:∀p∈live,∃a,st.env.get p.1=some a/\Can p.2 a) (ho:∀p∈lo,st.env.get p.1=some (.ptr p.2.2 0 0)/\∃ts cs,p.2.1=.a ts/\st.H.get p.2.2=some (.row 0 cs)/\Can (.a ts) (.agg cs))
  (hn1:(lo.map (·.1)).Nodup) (hn2:(lo.map (fun p=>p.2.2)).Nodup) (hold:y6 st.H (fun i=>Nat.blt i st.nx)=true)
  (h:BX sh prog af.nt vc (gi lo live) fun x V=>(match x with|.exit _=>False|_=>True)/\yV V [r] fun rs=>eU rs/\yF rs=.b true):isTrue (aN prog f args .leaf 0)=true:=by
 obtain⟨x,st',h1,V',A',g1,_,g3,g4⟩:=AM hsh (nt:=af.nt) vc _ _ _ _ hok (HO hl ho hn1 hn2 hold) h;have h2:=hpre _ (vM prog _ _ _ _ h1);obtain⟨v,p1,a,p2,t,p3,rfl⟩:=FR (Q:=fun t=>t=.b true) g1 g4;cases p3;have e:=nM (d:=29) p2 (fun _ _ _ h=>by cases h) (fun _ h=>by cases h) (fun _ h=>by cases h);have e2:aN prog f args .leaf 0=some v:=by
  refine yP ?_;simp only [gQ,hf,cond_eq_ite,Qn,if_pos ha,h2];rw [hr];cases x with
  |exit i=>cases g3
  |normal=>exact p1
  |ret=>exact p1
 rw [e2];obtain⟨v1,v2,v3⟩:=v;have e':v1=.bool true:=e;rw [e'];rfl
end
end Go.Ax.V
namespace Go.Ax.V
structure eF where
 f:Nat
 args:List AV
 H:ay
 nx:Nat
def eF.of (q:eF) (cf:eI):Option (AV×ay×Nat):=cf q.f q.args q.H q.nx
def lT (f:Nat) (args:List AV) (m:Mode) (H:ay) (nx:Nat):List eF:=match m with
 |.share=>[⟨f,args,H,nx⟩]
 |.borrow=>bif bz AV.plain args then [⟨f,args,.leaf,0⟩] else match cw (aP deep H) args with
  |none=>[]
  |some as=>[⟨f,as,.leaf,0⟩]
def vU (n0 f:Nat) (args:List AV) (m:Mode) (H:ay) (nx:Nat):List eF:=match m with
 |.share=>[⟨f,args,H.upto fun i=>Nat.blt i n0,nx⟩]
 |.borrow=>bif bz AV.plain args then lT f args .borrow H nx else lT f args .borrow (H.upto fun i=>Nat.blt i n0) nx
def uU (k:Nat->List AV->Mode->ay->Nat->List eF) (o:av) (st:St):List eF:=match kind o.op with
 |.plan _=>[]
 |.call f args m=>k f (args.map (ev st.env)) m st.H st.nx
 |.cN f args m=>match ev st.env f with
  |.func g=>k g (args.map (ev st.env)) m st.H st.nx
  |_=>[]
def zV (cf:eI) (nt:Nat):List av->St->List eF
 |[],_=>[]
 |o::l,st=>uU lT o st++(match er cf nt o st with
  |some st=>zV cf nt l st
  |none=>[])
def vV (cf:eI) (nt n0:Nat):List av->St->List eF
 |[],_=>[]
 |o::l,st=>uU (vU n0) o st++(match bE cf nt n0 o st with
  |some (st,_)=>vV cf nt n0 l st
  |none=>[])
def ym (cf:eI) (lf:dm) (nt:Nat) (c:bR):St->List eF:=
 bR.rec (motive:=fun _=>St->List eF)
  (fun _=>[]) (fun ops st=>zV cf nt ops st) (fun ops _ _ st=>vV cf nt st.nx ops st)
  (fun a _ ea eb st=>ea st++(match ic cf lf nt a st with|some (.normal,st)=>eb st|_=>[]))
  (fun c _ _ ea eb st=>match ev st.env c with|.bool true=>ea st|.bool false=>eb st|_=>[])
  (fun _ _ ec st=>ec st) (fun _ _ _=>[]) (fun _ _=>[]) (fun _=>[]) c
section
variable {c1 c2:eI} {lf:dm} {nt n0:Nat}
theorem lQ {f:Nat} {args:List AV} {m:Mode} {H:ay} {nx:Nat} (h:∀q∈lT f args m H nx,q.of c1=q.of c2):bK c1 f args m H nx=bK c2 f args m H nx:=by
 cases m with
 |share=>exact h ⟨f,args,H,nx⟩ (Qh.2 rfl)
 |borrow=>
  unfold bK;unfold lT at h;cases hp:bz AV.plain args with
  |true=>rw [hp] at h;have e:c1 f args .leaf 0=c2 f args .leaf 0:=h ⟨f,args,.leaf,0⟩ (Qh.2 rfl);simp only [cond_true,e]
  |false=>
   rw [hp] at h;simp only [cond_false] at h ⊢;cases hm:cw (aP deep H) args with
   |none=>rfl
   |some as=>rw [hm] at h;have e:c1 f as .leaf 0=c2 f as .leaf 0:=h ⟨f,as,.leaf,0⟩ (Qh.2 rfl);simp only [e]
theorem sO {f:Nat} {args:List AV} {m:Mode} {H:ay} {nx:Nat} (h:∀q∈vU n0 f args m H nx,q.of c1=q.of c2):bU c1 n0 f args m H nx=bU c2 n0 f args m H nx:=by
 cases m with
 |share=>have e:c1 f args (H.upto fun i=>Nat.blt i n0) nx=c2 f args (H.upto fun i=>Nat.blt i n0) nx:=h ⟨f,args,H.upto fun i=>Nat.blt i n0,nx⟩ (Qh.2 rfl);simp only [bU,e]
 |borrow=>
  unfold bU;unfold vU at h;cases hp:bz AV.plain args with
  |true=>rw [hp] at h;simp only [cond_true] at h ⊢;rw [lQ h]
  |false=>rw [hp] at h;simp only [cond_false] at h ⊢;rw [lQ h]
theorem Cx {o:av} {st:St} (h:∀q∈uU lT o st,q.of c1=q.of c2):er c1 nt o st=er c2 nt o st:=by
 have e:jb c1 o (ev st.env) st.H st.nx=jb c2 o (ev st.env) st.H st.nx:=by
  unfold jb fj;unfold uU at h;cases o.fz with
  |true=>rfl
  |false=>
   simp only [cond_false];cases hk:kind o.op with
   |plan p=>rfl
   |call f args m=>rw [hk] at h;exact lQ h
   |cN f args m=>rw [hk] at h;simp only at h ⊢;cases hf:ev st.env f<;>rw [hf] at h<;>first|rfl|exact lQ h
 unfold er;rw [e]
theorem zL {o:av} {st:St} (h:∀q∈uU (vU n0) o st,q.of c1=q.of c2):bE c1 nt n0 o st=bE c2 nt n0 o st:=by
 have e:ee c1 n0 o (ev st.env) st.H st.nx=ee c2 n0 o (ev st.env) st.H st.nx:=by
  unfold ee j3;unfold uU at h;cases o.fz with
  |true=>rfl
  |false=>
   simp only [cond_false];cases hk:kind o.op with
   |plan p=>rfl
   |call f args m=>rw [hk] at h;exact sO h
   |cN f args m=>rw [hk] at h;simp only at h ⊢;cases hf:ev st.env f<;>rw [hf] at h<;>first|rfl|exact sO h
 unfold bE;rw [e]
theorem tQ:∀{l:List av} {st:St},(∀q∈zV c2 nt l st,q.of c1=q.of c2)->dy c1 nt l st=dy c2 nt l st
 |[],st,_=>rfl
 |o::l,st,h=>by
  rw [dX,dX,Cx fun q hq=>h q (List.mem_append_left _ hq)];cases hr:er c2 nt o st with
  |none=>rfl
  |some st1=>
   refine tQ fun q hq=>h q (List.mem_append_right _ ?_)
   rw [hr];exact hq
theorem qW:∀{l:List av} {st:St},(∀q∈vV c2 nt n0 l st,q.of c1=q.of c2)->cZ c1 nt n0 l st=cZ c2 nt n0 l st
 |[],st,_=>rfl
 |o::l,st,h=>by
  unfold cZ;rw [zL fun q hq=>h q (List.mem_append_left _ hq)];cases hr:bE c2 nt n0 o st with
  |none=>rfl
  |some p=>obtain⟨st1,r⟩:=p;simp only;rw [qW fun q hq=>h q (List.mem_append_right _ (by rw [hr];exact hq))]
theorem H_:∀(c:bR) (st:St),(∀q∈ym c2 lf nt c st,q.of c1=q.of c2)->ic c1 lf nt c st=ic c2 lf nt c st:=by
 intro c
 induction c with
 |skip=>intro st h;rfl
 |aa ops=>intro st h;show (match dy c1 nt ops st with|some st=>some (bJ.normal,st)|none=>none)=_;rw [tQ h];rfl
 |aT ops ahead pairs=>
  intro st h;have e:b_ c1 nt ops ahead pairs st=b_ c2 nt ops ahead pairs st:=by unfold b_;rw [qW h]
  show (match b_ c1 nt ops ahead pairs st with|some st=>some (bJ.normal,st)|none=>none)=_;rw [e];rfl
 |seq a b iha ihb=>
  intro st h;have h':∀q∈ym c2 lf nt a st++(match ic c2 lf nt a st with|some (.normal,st)=>ym c2 lf nt b st|_=>[]),q.of c1=q.of c2:=h;show (match ic c1 lf nt a st with|some (.normal,st)=>ic c1 lf nt b st|r=>r)=(match ic c2 lf nt a st with|some (.normal,st)=>ic c2 lf nt b st|r=>r);rw [iha st fun q hq=>h' q (List.mem_append_left _ hq)];cases hr:ic c2 lf nt a st with
  |none=>rfl
  |some p=>
   obtain⟨x,st1⟩:=p;cases x with
   |normal=>exact ihb st1 fun q hq=>h' q (List.mem_append_right _ (by rw [hr];exact hq))
   |exit i=>rfl
   |ret=>rfl
 |cond c a b iha ihb=>
  intro st h;have h':∀q∈(match ev st.env c with|.bool true=>ym c2 lf nt a st|.bool false=>ym c2 lf nt b st|_=>[]),q.of c1=q.of c2:=h;show (match ev st.env c with|.bool true=>ic c1 lf nt a st|.bool false=>ic c1 lf nt b st|_=>none)=(match ev st.env c with|.bool true=>ic c2 lf nt a st|.bool false=>ic c2 lf nt b st|_=>none);cases hc:ev st.env c with
  |bool t=>
   rw [hc] at h';cases t with
   |true=>exact iha st h'
   |false=>exact ihb st h'
  |_=>rfl
 |block id c ih=>intro st h;show (match ic c1 lf nt c st with|some (.exit i,st)=>bif Nat.beq i id then some (bJ.normal,st) else some (bJ.exit i,st)|r=>r)=_;rw [ih st h];rfl
 |loop c ih=>intro st h;rfl
 |exit id=>intro st h;rfl
 |ret=>intro st h;rfl
end
theorem D7 {prog:Map aq} {cf:eI} {lf:dm} {nt:Nat} (h1:mZ (fun _=>aN prog) cf) (h2:pg (fun _=>bh prog) lf):∀(c:bR) (st:St) (r:bJ×St),ic cf lf nt c st=some r->ic (aN prog) (bh prog) nt c st=some r:=by
 have ev1:∀{α:Type} {x:Option α} {r:α},Ev (fun _=>x) r->x=some r:=fun ⟨k,hk⟩=>hk k (Qy _)
 intro c
 induction c with
 |skip=>intro st r h;exact h
 |aa ops=>
  intro st r h;change (match dy cf nt ops st with|some st=>some (bJ.normal,st)|none=>none)=some r at h;show (match dy (aN prog) nt ops st with|some st=>some (bJ.normal,st)|none=>none)=some r;cases hr:dy cf nt ops st with
  |none=>rw [hr] at h;cases h
  |some st1=>rw [hr] at h;rw [ev1 (tP (cfk:=fun _=>aN prog) h1 hr)];exact h
 |aT ops ahead pairs=>
  intro st r h;change (match b_ cf nt ops ahead pairs st with|some st=>some (bJ.normal,st)|none=>none)=some r at h;show (match b_ (aN prog) nt ops ahead pairs st with|some st=>some (bJ.normal,st)|none=>none)=some r;cases hr:b_ cf nt ops ahead pairs st with
  |none=>rw [hr] at h;cases h
  |some st1=>rw [hr] at h;rw [ev1 (qT (cfk:=fun _=>aN prog) h1 hr)];exact h
 |seq a b iha ihb=>
  intro st r h;change (match ic cf lf nt a st with|some (.normal,st)=>ic cf lf nt b st|r=>r)=some r at h;show (match ic (aN prog) (bh prog) nt a st with|some (.normal,st)=>ic (aN prog) (bh prog) nt b st|r=>r)=some r;cases hr:ic cf lf nt a st with
  |none=>rw [hr] at h;cases h
  |some p=>
   obtain⟨x,st1⟩:=p;rw [hr] at h;rw [iha _ _ hr];cases x with
   |normal=>exact ihb _ _ h
   |exit i=>exact h
   |ret=>exact h
 |cond c a b iha ihb=>
  intro st r h;change (match ev st.env c with|.bool true=>ic cf lf nt a st|.bool false=>ic cf lf nt b st|_=>none)=some r at h;show (match ev st.env c with|.bool true=>ic (aN prog) (bh prog) nt a st|.bool false=>ic (aN prog) (bh prog) nt b st|_=>none)=some r;cases hc:ev st.env c with
  |bool t=>
   rw [hc] at h;cases t with
   |true=>exact iha st r h
   |false=>exact ihb st r h
  |_=>rw [hc] at h;cases h
 |block id c ih=>
  intro st r h;change (match ic cf lf nt c st with|some (.exit i,st)=>bif Nat.beq i id then some (.normal,st) else some (.exit i,st)|r=>r)=some r at h;show (match ic (aN prog) (bh prog) nt c st with|some (.exit i,st)=>bif Nat.beq i id then some (.normal,st) else some (.exit i,st)|r=>r)=some r;cases hr:ic cf lf nt c st with
  |none=>rw [hr] at h;cases h
  |some p=>rw [hr] at h;rw [ih _ _ hr];exact h
 |loop c ih=>intro st r h;exact ev1 (h2 nt (.loop c) st r h)
 |exit id=>intro st r h;exact h
 |ret=>intro st r h;exact h
def BU (prog:Map aq) (k g:Nat) (ans:AV×ay×Nat):eI:=fun f args H nx=>bif Nat.beq f g then some ans else (interp prog k).fn f args H nx
def EA (g:Nat) (l:List eF):List eF:=List.rec (motive:=fun _=>List eF) [] (fun q _ ih=>bif Nat.beq q.f g then q::ih else ih) l
theorem yl {g:Nat}:∀{l:List eF} {q:eF},q∈l->q.f=g->q∈EA g l
 |x::l,q,h,e=>by
  show q∈(bif Nat.beq x.f g then x::EA g l else EA g l);rcases Qf.1 h with rfl|h
  ·rw [show Nat.beq q.f g=true from (Qn).mpr e];exact Qc
  ·have:=yl h e;cases Nat.beq x.f g with
   |true=>exact Qd _ this
   |false=>exact this
theorem GC {prog:Map aq} {k f g:Nat} {af:aq} {args X:List AV} {H HX:ay} {nx nX:Nat} {ans r:AV×ay×Nat} {x:bJ} {st:St} (hf:prog.get f=some af) (ha:args.length=af.params)
  (hX:aN prog g X HX nX=some ans) (qzt:EA g (ym (BU prog k g ans) (interp prog k).code af.nt af.body ⟨cI args 0 .leaf,H,nx⟩)=[⟨g,X,HX,nX⟩])
  (hrun:ic (BU prog k g ans) (interp prog k).code af.nt af.body ⟨cI args 0 .leaf,H,nx⟩=some (x,st)) (hx:x=.normal\/x=.ret) (hr:ko af.res st=some r):aN prog f args H nx=some r:=by
 classical
 have good:∀q∈ym (BU prog k g ans) (interp prog k).code af.nt af.body ⟨cI args 0 .leaf,H,nx⟩,∀y,q.of (BU prog k g ans)=some y->q.of (aN prog)=some y:=by
  intro q hq y hy;unfold eF.of BU at hy;by_cases e:q.f=g
  ·have:=yl hq e;rw [qzt,Qh] at this;subst this;rw [show Nat.beq g g=true from (Qn).mpr rfl] at hy;cases hy;exact hX
  ·rw [show Nat.beq q.f g=false from by cases h:Nat.beq q.f g with|false=>rfl|true=>exact absurd ((Qn).mp h) e] at hy;exact l7 hy
 let cfD:eI:=fun f args H nx=>if ∀y,BU prog k g ans f args H nx=some y->aN prog f args H nx=some y then BU prog k g ans f args H nx else none
 have hD:mZ (fun _=>aN prog) cfD:=by
  intro f args H nx y hy;have hy':(if ∀y,BU prog k g ans f args H nx=some y->aN prog f args H nx=some y then BU prog k g ans f args H nx else none)=some y:=hy;split at hy'
  ·rename_i hg;exact Ev.const (hg y hy')
  ·cases hy'
 have e:=H_ (c1:=cfD) (c2:=BU prog k g ans) (lf:=(interp prog k).code) (nt:=af.nt) af.body ⟨cI args 0 .leaf,H,nx⟩ (fun q hq=>if_pos (good q hq));have h1:=D7 hD (jM prog k).2 af.body _ _ (e.trans hrun);obtain⟨v,h2,rfl⟩:=sE (r:=fun v=>v=r) hf ha ⟨x,st,h1,hx,r,hr,rfl⟩;exact h2
def iQ (prog:Map aq) (k g:Nat) (ans:AV×ay×Nat) (af:aq) (args:List AV) (H:ay) (nx:Nat):Option (AV×ay×Nat):=
 match ic (BU prog k g ans) (interp prog k).code af.nt af.body ⟨cI args 0 .leaf,H,nx⟩ with
 |some (.normal,st)=>ko af.res st
 |some (.ret,st)=>ko af.res st
 |_=>none
def jW (prog:Map aq) (k g:Nat) (ans:AV×ay×Nat) (af:aq) (args:List AV) (H:ay) (nx:Nat):List eF:=
 EA g (ym (BU prog k g ans) (interp prog k).code af.nt af.body ⟨cI args 0 .leaf,H,nx⟩)
def Na:List eF->eF
 |[]=>⟨0,[],.leaf,0⟩
 |q::_=>q
theorem zu {prog:Map aq} {k f g:Nat} {af:aq} {args:List AV} {H:ay} {nx:Nat} {q:eF} {ans r:AV×ay×Nat} (hf:prog.get f=some af) (ha:args.length=af.params)
  (hX:aN prog g q.args q.H q.nx=some ans) (hg:q.f=g) (qzt:jW prog k g ans af args H nx=[q]) (hres:iQ prog k g ans af args H nx=some r):aN prog f args H nx=some r:=by
 unfold iQ at hres;split at hres
 ·rename_i st h;exact GC hf ha hX (by rw [←hg];rw [←hg] at qzt;exact qzt) h (.inl rfl) hres
 ·rename_i st h;exact GC hf ha hX (by rw [←hg];rw [←hg] at qzt;exact qzt) h (.inr rfl) hres
 ·cases hres
theorem E4 {prog:Map aq} {f:Nat} {ts:List TV} {args:List AV} {v a:AV} {H:ay} {nx:Nat} {r:TV} {Q:TV->Prop} (he:cw (H6 9) ts=some args) (h:aN prog f args .leaf 0=some (v,H,nx)) (hi:aP deep H v=some a) (hc:Can r a) (hq:Q r):VS prog f ts Q:=by intro as ha;have e:as=args:=uK (oS 9) he ha.1 ha.2;subst e;exact⟨v,H,nx,h,a,hi,r,hc,hq⟩
theorem rO {α:Type} {x:Option α} {d:α} (h:x.isSome=true):x=some (x.getD d):=by obtain⟨y,rfl⟩:=Option.isSome_iff_exists.1 h;rfl
end Go.Ax.V
end
