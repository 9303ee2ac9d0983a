/- Part 6 of the proof: V19, V20. -/
import Derived.Test.YtamgnhdbeecapaaCa5
set_option linter.unusedSimpArgs false
set_option linter.unusedVariables false
noncomputable section
namespace Go.Ax.V
def chunks (sz:Nat) (n:Nat):List AV->List (List AV):=
 Nat.rec (motive:=fun _=>List AV->List (List AV)) (fun _=>[]) (fun _ ih cs=>cs.take sz::ih (cs.drop sz)) n
theorem sL (sz:Nat):∀(n:Nat) (cs:List AV) (j:Nat),(chunks sz n cs)[j]?=if j < n then some ((cs.drop (j*sz)).take sz) else none
 |0,cs,j=>rfl
 |n+1,cs,0=>by show some (cs.take sz)=_;simp
 |n+1,cs,j+1=>by show (chunks sz n (cs.drop sz))[j]?=_;rw [sL sz n _ j,List.drop_drop,Nat.succ_mul,Nat.add_comm (j*sz) sz];simp only [Nat.add_lt_add_iff_right]
theorem sK (sz:Nat):∀(n:Nat) (cs:List AV),(chunks sz n cs).length=n
 |0,_=>rfl
 |n+1,cs=>congrArg (·+ 1) (sK sz n (cs.drop sz))
def MU (ih:AV->TV):List AV->TV
 |[x]=>ih x
 |cs=>.a (cs.map ih)
def BD (len n:Nat):Nat:=match n with
 |0=>1
 |n+1=>len / (n+1)
def AR (d:Nat):AV->TV:=
 Nat.rec (motive:=fun _=>AV->TV) (fun _=>.np) (fun _ ih v=>match v with
  |.bool b=>.b b
  |.int k n=>.i k n
  |.str s=>.s s
  |.func f=>.f f
  |.ak=>.l []
  |.b5 cs n _=>.l ((chunks (BD cs.length n) n cs).map (MU ih))
  |.agg cs=>.a (cs.map ih)
  |.dL cs=>.tp (cs.map ih)
  |_=>.np) d
def r_ (d:Nat):AV->Bool:=
 Nat.rec (motive:=fun _=>AV->Bool) (fun _=>false) (fun _ ih v=>match v with
  |.bool _=>true
  |.int _ _=>true
  |.str _=>true
  |.func _=>true
  |.ak=>true
  |.jm=>true
  |.b5 cs n _=>Nat.beq cs.length (n*BD cs.length n)&&(Nat.blt 0 (BD cs.length n)&&(bx AV.flat cs&&bx ih cs))
  |.agg cs=>bx AV.flat cs&&bx ih cs
  |.dL cs=>bx AV.eJ cs&&bx ih cs
  |_=>false) d
theorem Ep {d:Nat} {x:AV} (hf:x.flat=true):(AR d x).one=true:=by
 cases d with
 |zero=>rfl
 |succ d=>cases x<;>first|rfl|cases hf
theorem sM {f:AV->TV} {cs:List AV} (h:∀x∈cs,Can (f x) x):∀(j:Nat) (t:TV) (x:AV),(cs.map f)[j]?=some t->cs[j]?=some x->Can t x:=by intro j t x ht hx;rw [Oz,hx] at ht;cases ht;exact h x (OD hx)
theorem nV:∀(d:Nat) (v:AV),r_ d v=true->Can (AR d v) v
 |0,v,h=>by cases h
 |d+1,v,h=>by
  cases v with
  |bool b=>exact .b b
  |int k n=>exact .i k n
  |str s=>exact .s s
  |func f=>exact .f f
  |ak=>exact .nil
  |jm=>exact .np
  |b5 cs n c=>
   have h':(Nat.beq cs.length (n*BD cs.length n)&&(Nat.blt 0 (BD cs.length n)&&(bx AV.flat cs&&bx (r_ d) cs)))=true:=h;simp only [OV] at h';obtain⟨h1,h2,h3,h4⟩:=h';have e1:=Nat.eq_of_beq_eq_true h1;have e2:0 < BD cs.length n:=O0.mp h2;have e3:=aJ.1 h3;have e4:=aJ.1 h4;show Can (.l ((chunks (BD cs.length n) n cs).map (MU (AR d)))) _;refine .b5 _ cs n (BD cs.length n) c (by rw [OG,sK]) e1 e2 e3 (fun j e he=>?_);rw [Oz,sL] at he;split at he
   ·simp only [Option.map_some,Option.some.injEq] at he;subst he;have hm:∀x∈(cs.drop (j*BD cs.length n)).take (BD cs.length n),x∈cs:=fun x hx=>List.mem_of_mem_drop (List.mem_of_mem_take hx)
    generalize (cs.drop (j*BD cs.length n)).take (BD cs.length n)=bs at hm ⊢;have gen:∀bs:List AV,(∀x∈bs,x∈cs)->k9 (.a (bs.map (AR d))) bs:=fun bs hb=>.a _ _ (OG _) (sM fun x hx=>nV d x (e4 x (hb x hx)))
    match bs,hm with
    |[],hm=>exact gen [] hm
    |[x],hm=>exact .one _ _ (Ep (e3 x (hm x (OS.2 rfl)))) (nV d x (e4 x (hm x (OS.2 rfl))))
    |x::y::r,hm=>exact gen _ hm
   ·cases he
  |agg cs=>have h':(bx AV.flat cs&&bx (r_ d) cs)=true:=h;simp only [OV] at h';exact .a _ cs (OG _) (aJ.1 h'.1) (sM fun x hx=>nV d x (aJ.1 h'.2 x hx))
  |dL cs=>have h':(bx AV.eJ cs&&bx (r_ d) cs)=true:=h;simp only [OV] at h';exact .tp _ cs (OG _) (aJ.1 h'.1) (sM fun x hx=>nV d x (aJ.1 h'.2 x hx))
  |_=>cases h
theorem Fu {x:AV} {u:TV} (hr:Ck x=true) (hg:r_ 20 x=true) (he:AR 20 x=u):Can (.pW x u) x:=.pW x u hr (he▸nV 20 x hg)
def Hg (d:Nat):TV->Option AV:=
 Nat.rec (motive:=fun _=>TV->Option AV) (fun _=>none) (fun _ ih t=>match t with
  |.i k n=>some (.int k n)
  |.b x=>some (.bool x)
  |.s x=>some (.str x)
  |.f n=>some (.func n)
  |.np=>some .jm
  |.pW x _=>some x
  |.a ts=>(match cr ih ts with|some cs=>some (.agg cs)|none=>none)
  |.tp ts=>(match cr ih ts with|some cs=>some (.dL cs)|none=>none)
  |.l _=>none) d
theorem ux {f:TV->Option AV}:∀{ts:List TV} {cs as:List AV},(∀t a a',f t=some a->Can t a'->a'=a)->cr f ts=some cs->ts.length=as.length->(∀(j:Nat) (t:TV) (x:AV),ts[j]?=some t->as[j]?=some x->Can t x)->as=cs
 |[],cs,as,hf,h,hl,hc=>by cases h;exact O6.1 hl.symm
 |t::ts,cs,[],hf,h,hl,hc=>by cases hl
 |t::ts,cs,a::as,hf,h,hl,hc=>by
  rw [bZ] at h;cases h1:f t with
  |none=>rw [h1] at h;cases h
  |some x=>
   cases h2:cr f ts with
   |none=>rw [h1,h2] at h;cases h
   |some xs=>rw [h1,h2] at h;cases h;rw [hf t x a h1 (hc 0 t a rfl rfl),ux hf h2 (Nat.succ.inj hl) fun j u y hu hy=>hc (j+1) u y hu hy]
theorem oP:∀(d:Nat) (t:TV) (a a':AV),Hg d t=some a->Can t a'->a'=a
 |0,t,a,a',h,_=>by cases h
 |d+1,t,a,a',h,hc=>by
  cases hc with
  |i k n=>cases h;rfl
  |b x=>cases h;rfl
  |s x=>cases h;rfl
  |f n=>cases h;rfl
  |np=>cases h;rfl
  |nil=>cases h
  |b5=>cases h
  |a ts as hl hf hx=>
   have h':(match cr (Hg d) ts with|some cs=>some (AV.agg cs)|none=>none)=some a:=h;cases h1:cr (Hg d) ts with
   |none=>rw [h1] at h';cases h'
   |some cs=>rw [h1] at h';cases h';rw [ux (oP d) h1 hl hx]
  |tp ts as hl hf hx=>
   have h':(match cr (Hg d) ts with|some cs=>some (AV.dL cs)|none=>none)=some a:=h;cases h1:cr (Hg d) ts with
   |none=>rw [h1] at h';cases h'
   |some cs=>rw [h1] at h';cases h';rw [ux (oP d) h1 hl hx]
  |pW x u hf hx=>cases h;rfl
def u7 (prog:Map aq) (k f:Nat) (args:List AV):Option AV:=match (interp prog k).fn f args .leaf 0 with
 |some (v,H,_)=>aN deep H v
 |none=>none
theorem mc {prog:Map aq} {k f:Nat} {ts:List TV} {args:List AV} {a:AV} {r:TV} {Q:TV->Prop} (he:cr (Hg 9) ts=some args) (h:u7 prog k f args=some a) (hc:Can r a) (hq:Q r):VS prog f ts Q:=by
 intro as ha;have e:as=args:=ux (oP 9) he ha.1 ha.2;subst e;unfold u7 at h;cases h1:(interp prog k).fn f as .leaf 0 with
 |none=>rw [h1] at h;cases h
 |some p=>obtain⟨v,H,nx⟩:=p;rw [h1] at h;exact⟨v,H,nx,lZ h1,a,h,r,hc,hq⟩
section
variable {sh:Sh} {prog:Map aq} {nt:Nat}
def gm (lo:List (Nat×TV×Nat)):List (Nat×TV)->aF
 |[]=>List.rec (motive:=fun _=>aF) V0 (fun p _ V=>⟨V.env.put (some ⟨none,.ptr p.1 0⟩) p.1,V.H.put (some (.ob p.2.1 [])) p.1,V.us.put (some ()) p.1⟩) lo
 |(t,v)::l=>fN (gm lo l) t (.tr v)
def IQ (v:Option dN) (b:Bool):Bool:=match v with
 |none=>true
 |some _=>b
def yT (m:av):(Nat->Bool)->Bool:=
 Map.rec (motive:=fun _=>(Nat->Bool)->Bool) (fun _=>true)
  (fun v _ _ l r p=>Bool.rec false (Bool.rec false (r fun k=>p (Nat.succ (Nat.succ (Nat.mul 2 k)))) (l fun k=>p (Nat.succ (Nat.mul 2 k)))) (IQ v (p 0))) m
theorem CU (m:av):∀(p:Nat->Bool) (i:Nat) (o:dN),yT m p=true->m.get i=some o->p i=true:=by
 induction m with
 |leaf=>intro p i o _ h;cases h
 |node v l r ihl ihr=>
  intro p i o h hg;have h':(Bool.rec false (Bool.rec false (yT r fun k=>p (Nat.succ (Nat.succ (Nat.mul 2 k)))) (yT l fun k=>p (Nat.succ (Nat.mul 2 k)))) (IQ v (p 0)):Bool)=true:=h;rw [oW] at h';split at h';rotate_left
  ·cases h'
  rename_i h0;rw [oW] at h';split at h';rotate_left
  ·cases h'
  rename_i h1;rw [Map.bX] at hg;by_cases hi:i=0
  ·subst hi;rw [if_pos rfl] at hg;rw [hg] at h0;exact h0
  ·rw [if_neg hi] at hg;by_cases hi1:i % 2=1
   ·rw [if_pos hi1] at hg;have:=ihl _ _ _ h1 hg;have e:Nat.succ (Nat.mul 2 (i / 2))=i:=by simp only [Nat.succ_eq_add_one,Nat.mul_eq];omega
    rw [e] at this;exact this
   ·rw [if_neg hi1] at hg;have:=ihr _ _ _ h' hg;have e:Nat.succ (Nat.succ (Nat.mul 2 (i / 2 - 1)))=i:=by simp only [Nat.succ_eq_add_one,Nat.mul_eq];omega
    rw [e] at this;exact this
theorem y8 (p:Nat×TV×Nat) (lo:List (Nat×TV×Nat)):gm (p::lo) []=⟨(gm lo []).env.put (some ⟨none,.ptr p.1 0⟩) p.1,(gm lo []).H.put (some (.ob p.2.1 [])) p.1,(gm lo []).us.put (some ()) p.1⟩:=rfl
theorem xl {lo:List (Nat×TV×Nat)}:∀{l:List (Nat×TV)} {t:Nat} {e:VE},(gm lo l).env.get t=some e->(∃v,(t,v)∈l/\e=⟨none,.tr v⟩)\/∃v id,(t,v,id)∈lo/\e=⟨none,.ptr t 0⟩
 |[],t,e,h=>by
  refine .inr ?_
  induction lo with
  |nil=>cases h
  |cons p lo ih=>
   rw [y8] at h;have h':((gm lo []).env.put (some ⟨none,.ptr p.1 0⟩) p.1).get t=some e:=h;rw [Map.au] at h';split at h'
   ·rename_i e1;subst e1;cases h';exact⟨p.2.1,p.2.2,ON,rfl⟩
   ·obtain⟨v,id,h1,h2⟩:=ih h';exact⟨v,id,OO _ h1,h2⟩
 |(u,v)::l,t,e,h=>by
  have h':((gm lo l).env.put (some ⟨none,.tr v⟩) u).get t=some e:=h;rw [Map.au] at h';split at h'
  ·rename_i e1;subst e1;cases h';exact .inl ⟨v,ON,rfl⟩
  ·rcases xl h' with ⟨v',h1,h2⟩|h
   ·exact .inl ⟨v',OO _ h1,h2⟩
   ·exact .inr h
theorem rU {lo:List (Nat×TV×Nat)}:∀{l:List (Nat×TV)} {O:Nat} {o:VO},(gm lo l).H.get O=some o->∃v id,(O,v,id)∈lo/\o=.ob v []
 |[],O,o,h=>by
  induction lo with
  |nil=>cases h
  |cons p lo ih=>
   rw [y8] at h;have h':((gm lo []).H.put (some (.ob p.2.1 [])) p.1).get O=some o:=h;rw [Map.au] at h';split at h'
   ·rename_i e1;subst e1;cases h';exact⟨p.2.1,p.2.2,ON,rfl⟩
   ·obtain⟨v,id,h1,h2⟩:=ih h';exact⟨v,id,OO _ h1,h2⟩
 |(u,v)::l,O,o,h=>rU (l:=l) h
theorem z_ {lo:List (Nat×TV×Nat)}:∀{l:List (Nat×TV)} {O:Nat},(gm lo l).us.get O=none->∀p∈lo,p.1≠O
 |[],O,h=>by
  induction lo with
  |nil=>intro p hp;cases hp
  |cons q lo ih=>
   rw [y8] at h;have h':((gm lo []).us.put (some ()) q.1).get O=none:=h;rw [Map.au] at h';split at h'
   ·cases h'
   ·rename_i e1;intro p hp;rcases OP.1 hp with rfl|hp
    ·exact fun e=>e1 e.symm
    ·exact ih h' p hp
 |(u,v)::l,O,h=>z_ (l:=l) h
def l_:List (Nat×TV×Nat)->Nat->Option AV
 |[],_=>none
 |p::lo,O=>if p.1=O then some (.ptr p.2.2 0 0) else l_ lo O
theorem ua:∀{lo:List (Nat×TV×Nat)} {O:Nat} {a:AV},l_ lo O=some a->∃v id,(O,v,id)∈lo/\a=.ptr id 0 0
 |p::lo,O,a,h=>by
  unfold l_ at h;split at h
  ·rename_i e1;subst e1;cases h;exact⟨p.2.1,p.2.2,ON,rfl⟩
  ·obtain⟨v,id,h1,h2⟩:=ua h;exact⟨v,id,OO _ h1,h2⟩
theorem kH:∀{lo:List (Nat×TV×Nat)},(lo.map (·.1)).Nodup->∀p∈lo,l_ lo p.1=some (.ptr p.2.2 0 0)
 |q::lo,hn,p,hp=>by
  rw [List.map_cons,List.nodup_cons] at hn;unfold l_;rcases OP.1 hp with rfl|hp
  ·rw [if_pos rfl]
  ·rw [if_neg (fun (e:q.1=p.1)=>hn.1 (by rw [e];exact List.mem_map_of_mem (f:=fun p=>p.1) hp))];exact kH hn.2 p hp
theorem uc:∀{lo:List (Nat×TV×Nat)} {O:Nat},(∀p∈lo,p.1≠O)->l_ lo O=none
 |[],O,_=>rfl
 |p::lo,O,h=>by unfold l_;rw [if_neg (h p ON)];exact uc fun q hq=>h q (OO _ hq)
def BY (lo:List (Nat×TV×Nat)):aX:=fun n=>match n with
 |.s O=>l_ lo O
 |.i _ _ _=>none
theorem A_ {lo:List (Nat×TV×Nat)} (h2:(lo.map (fun p=>p.2.2)).Nodup):∀p∈lo,∀q∈lo,p.2.2=q.2.2->p=q:=by
 induction lo with
 |nil=>intro p hp;cases hp
 |cons r lo ih=>
  rw [List.map_cons,List.nodup_cons] at h2;intro p hp q hq e;rcases OP.1 hp with rfl|hp'<;>rcases OP.1 hq with rfl|hq'
  ·rfl
  ·exact absurd (by rw [e];exact List.mem_map_of_mem (f:=fun p=>p.2.2) hq') h2.1
  ·exact absurd (by rw [←e];exact List.mem_map_of_mem (f:=fun p=>p.2.2) hp') h2.1
  ·exact ih h2.2 p hp' q hq' e
theorem GX {lo:List (Nat×TV×Nat)} {l:List (Nat×TV)} {st:St} (hl:∀p∈l,∃a,st.env.get p.1=some a/\Can p.2 a) (ho:∀p∈lo,st.env.get p.1=some (.ptr p.2.2 0 0)/\∃ts cs,p.2.1=.a ts/\st.H.get p.2.2=some (.row 0 cs)/\Can (.a ts) (.agg cs))
  (hn1:(lo.map (·.1)).Nodup) (hn2:(lo.map (fun p=>p.2.2)).Nodup) (hf:yT st.H (fun i=>Nat.blt i st.nx)=true):R (BY lo) (gm lo l) st:=by
 refine⟨fun t e he=>?_,fun O o ho'=>?_,fun O O' o o' a a' id h1 h2 h3 h4 h5 h6=>?_,fun n hn=>?_,fun n a ha=>?_,fun id o ho'=>?_,fun O o a ho' ha=>?_⟩
 ·rcases xl he with ⟨v,h1,rfl⟩|⟨v,id,h1,rfl⟩
  ·obtain⟨a,h2,h3⟩:=hl _ h1;exact⟨a,h2,fun _=>.tr h3⟩
  ·exact⟨_,(ho _ h1).1,fun _=>.ptr (kH hn1 _ h1)⟩
 ·obtain⟨v,id,h1,rfl⟩:=rU ho';refine⟨_,kH hn1 _ h1,?_⟩;obtain⟨_,ts,cs,h2,h3,h4⟩:=ho _ h1;have h2':v=.a ts:=h2;subst h2';cases h4 with
  |a _ _ g1 g2 g3=>exact⟨id,cs,ts,rfl,h3,rfl,g1,fun j w h=>(by cases h),fun j t x ht hx=>⟨g3 j t x ht hx,g2 x (OD hx)⟩⟩
 ·obtain⟨v,i1,m1,rfl⟩:=rU h1;obtain⟨v',i2,m2,rfl⟩:=rU h2;rw [show BY lo O=l_ lo O from rfl,kH hn1 _ m1] at h3;rw [show BY lo O'=l_ lo O' from rfl,kH hn1 _ m2] at h4;cases h3;cases h4;have e1:=(b9 (A:=BY lo) (o:=.ob v []) rfl).1 h5;have e2:=(b9 (A:=BY lo) (o:=.ob v' []) rfl).1 h6;have e3:i1=id:=by injection e1
  have e4:i2=id:=by injection e2
  have:=A_ hn2 _ m1 _ m2 (e3.trans e4.symm);exact congrArg Prod.fst this
 ·cases n with
  |s O=>exact uc (z_ hn)
  |i _ _ _=>rfl
 ·cases n with
  |s O=>obtain⟨v,id,_,rfl⟩:=ua ha;rfl
  |i _ _ _=>cases ha
 ·exact O0.mp (CU st.H _ id o hf ho')
 ·obtain⟨v,id,_,rfl⟩:=rU ho';exact mg rfl
def u6 (ex:dj) (nt:Nat):List bY->St->Option St
 |[],st=>some st
 |c::l,st=>match ex nt c st with
  |some (.normal,st)=>u6 ex nt l st
  |_=>none
def Et:List bY->bY->bY
 |[],c=>c
 |a::l,c=>.seq a (Et l c)
theorem wm {k:Nat} {suf:bY} {r:bG×St}:∀{l:List bY} {st st1:St},u6 (interp prog k).code nt l st=some st1->bg prog nt suf st1=some r->bg prog nt (Et l suf) st=some r
 |[],st,st1,h,h2=>by cases h;exact h2
 |c::l,st,st1,h,h2=>by
  unfold u6 at h;split at h
  ·rename_i st2 h3;obtain⟨k0,hk⟩:=(jQ prog k).2 nt c st _ h3;refine c8 ?_;show (match bg prog nt c st with|some (.normal,st)=>bg prog nt (Et l suf) st|r=>r)=some r;have e:bg prog nt c st=some (.normal,st2):=hk k0 (Pa _);rw [e];exact wm h h2
  ·cases h
theorem Fe {A:aX} {V:aF} {st:St} {r:pg} {Q:TV->Prop} (g1:R A V st) (g4:yL V [r] fun rs=>gH rs/\Q (yo rs)):∃v,ko [r] st=some v/\∃a,aN deep v.2.1 v.1=some a/\∃t,Can t a/\Q t:=by obtain⟨v,t,a,h1,h2,h3,h4⟩:=q8 g1 (k:=fun v=>gH [v]/\Q (yo [v])) g4 26;exact⟨(v,st.H,st.nx),by unfold ko;simp only [bZ,h1];rfl,a,h2,t,h3,h4.2⟩
theorem GY {f k:Nat} {af:aq} {l:List bY} {vc:b_} {args:List AV} {st:St} {lo:List (Nat×TV×Nat)} {live:List (Nat×TV)} {r:pg} (hf:prog.get f=some af) (ha:args.length=af.params) (hb:af.body=Et l vc.code) (hr:af.res=[r])
  (hok:vc.ok=true) (hsh:n5 prog sh) (hpre:∀x,bg prog af.nt vc.code st=some x->bg prog af.nt af.body ⟨cJ args 0 .leaf,.leaf,0⟩=some x) (hl:∀p∈live,∃a,st.env.get p.1=some a/\Can p.2 a) (ho:∀p∈lo,st.env.get p.1=some (.ptr p.2.2 0 0)/\∃ts cs,p.2.1=.a ts/\st.H.get p.2.2=some (.row 0 cs)/\Can (.a ts) (.agg cs))
  (hn1:(lo.map (·.1)).Nodup) (hn2:(lo.map (fun p=>p.2.2)).Nodup) (hold:yT st.H (fun i=>Nat.blt i st.nx)=true)
  (h:BJ sh prog af.nt vc (gm lo live) fun x V=>(match x with|.exit _=>False|_=>True)/\yL V [r] fun rs=>gH rs/\yo rs=.b true):isTrue (aM prog f args .leaf 0)=true:=by
 obtain⟨x,st',h1,V',A',g1,_,g3,g4⟩:=Av hsh (nt:=af.nt) vc _ _ _ _ hok (GX hl ho hn1 hn2 hold) h;have h2:=hpre _ (vF prog _ _ _ _ h1);obtain⟨v,p1,a,p2,t,p3,rfl⟩:=Fe (Q:=fun t=>t=.b true) g1 g4;cases p3;have e:=nH (d:=29) p2 (fun _ _ _ h=>by cases h) (fun _ h=>by cases h) (fun _ h=>by cases h);have e2:aM prog f args .leaf 0=some v:=by
  refine yF ?_;simp only [gY,hf,cond_eq_ite,OY,if_pos ha,h2];rw [hr];cases x with
  |exit i=>cases g3
  |normal=>exact p1
  |ret=>exact p1
 rw [e2];obtain⟨v1,v2,v3⟩:=v;have e':v1=.bool true:=e;rw [e'];rfl
end
end Go.Ax.V
namespace Go.Ax.V
structure fO where
 f:Nat
 args:List AV
 H:av
 nx:Nat
def fO.of (q:fO) (cf:eF):Option (AV×av×Nat):=cf q.f q.args q.H q.nx
def lR (f:Nat) (args:List AV) (m:Mode) (H:av) (nx:Nat):List fO:=match m with
 |.share=>[⟨f,args,H,nx⟩]
 |.borrow=>bif bx AV.plain args then [⟨f,args,.leaf,0⟩] else match cr (aN deep H) args with
  |none=>[]
  |some as=>[⟨f,as,.leaf,0⟩]
def vP (n0 f:Nat) (args:List AV) (m:Mode) (H:av) (nx:Nat):List fO:=match m with
 |.share=>[⟨f,args,H.upto fun i=>Nat.blt i n0,nx⟩]
 |.borrow=>bif bx AV.plain args then lR f args .borrow H nx else lR f args .borrow (H.upto fun i=>Nat.blt i n0) nx
def uL (k:Nat->List AV->Mode->av->Nat->List fO) (o:ax) (st:St):List fO:=match kind o.op with
 |.plan _=>[]
 |.call f args m=>k f (args.map (ev st.env)) m st.H st.nx
 |.cM f args m=>match ev st.env f with
  |.func g=>k g (args.map (ev st.env)) m st.H st.nx
  |_=>[]
def zG (cf:eF) (nt:Nat):List ax->St->List fO
 |[],_=>[]
 |o::l,st=>uL lR o st++(match eo cf nt o st with
  |some st=>zG cf nt l st
  |none=>[])
def vQ (cf:eF) (nt n0:Nat):List ax->St->List fO
 |[],_=>[]
 |o::l,st=>uL (vP n0) o st++(match bz cf nt n0 o st with
  |some (st,_)=>vQ cf nt n0 l st
  |none=>[])
def yc (cf:eF) (lf:dj) (nt:Nat) (c:bY):St->List fO:=
 bY.rec (motive:=fun _=>St->List fO)
  (fun _=>[]) (fun ops st=>zG cf nt ops st) (fun ops _ _ st=>vQ cf nt st.nx ops st)
  (fun a _ ea eb st=>ea st++(match iw cf lf nt a st with|some (.normal,st)=>eb st|_=>[]))
  (fun c _ _ ea eb st=>match ev st.env c with|.bool true=>ea st|.bool false=>eb st|_=>[])
  (fun _ _ ec st=>ec st) (fun _ _ _=>[]) (fun _ _=>[]) (fun _=>[]) c
section
variable {c1 c2:eF} {lf:dj} {nt n0:Nat}
theorem lO {f:Nat} {args:List AV} {m:Mode} {H:av} {nx:Nat} (h:∀q∈lR f args m H nx,q.of c1=q.of c2):bH c1 f args m H nx=bH c2 f args m H nx:=by
 cases m with
 |share=>exact h ⟨f,args,H,nx⟩ (OS.2 rfl)
 |borrow=>
  unfold bH;unfold lR at h;cases hp:bx AV.plain args with
  |true=>rw [hp] at h;have e:c1 f args .leaf 0=c2 f args .leaf 0:=h ⟨f,args,.leaf,0⟩ (OS.2 rfl);simp only [cond_true,e]
  |false=>
   rw [hp] at h;simp only [cond_false] at h ⊢;cases hm:cr (aN deep H) args with
   |none=>rfl
   |some as=>rw [hm] at h;have e:c1 f as .leaf 0=c2 f as .leaf 0:=h ⟨f,as,.leaf,0⟩ (OS.2 rfl);simp only [e]
theorem sF {f:Nat} {args:List AV} {m:Mode} {H:av} {nx:Nat} (h:∀q∈vP n0 f args m H nx,q.of c1=q.of c2):bR c1 n0 f args m H nx=bR c2 n0 f args m H nx:=by
 cases m with
 |share=>have e:c1 f args (H.upto fun i=>Nat.blt i n0) nx=c2 f args (H.upto fun i=>Nat.blt i n0) nx:=h ⟨f,args,H.upto fun i=>Nat.blt i n0,nx⟩ (OS.2 rfl);simp only [bR,e]
 |borrow=>
  unfold bR;unfold vP at h;cases hp:bx AV.plain args with
  |true=>rw [hp] at h;simp only [cond_true] at h ⊢;rw [lO h]
  |false=>rw [hp] at h;simp only [cond_false] at h ⊢;rw [lO h]
theorem Ce {o:ax} {st:St} (h:∀q∈uL lR o st,q.of c1=q.of c2):eo c1 nt o st=eo c2 nt o st:=by
 have e:je c1 o (ev st.env) st.H st.nx=je c2 o (ev st.env) st.H st.nx:=by
  unfold je fk;unfold uL at h;cases o.fz with
  |true=>rfl
  |false=>
   simp only [cond_false];cases hk:kind o.op with
   |plan p=>rfl
   |call f args m=>rw [hk] at h;exact lO h
   |cM f args m=>rw [hk] at h;simp only at h ⊢;cases hf:ev st.env f<;>rw [hf] at h<;>first|rfl|exact lO h
 unfold eo;rw [e]
theorem zq {o:ax} {st:St} (h:∀q∈uL (vP n0) o st,q.of c1=q.of c2):bz c1 nt n0 o st=bz c2 nt n0 o st:=by
 have e:dZ c1 n0 o (ev st.env) st.H st.nx=dZ c2 n0 o (ev st.env) st.H st.nx:=by
  unfold dZ j5;unfold uL at h;cases o.fz with
  |true=>rfl
  |false=>
   simp only [cond_false];cases hk:kind o.op with
   |plan p=>rfl
   |call f args m=>rw [hk] at h;exact sF h
   |cM f args m=>rw [hk] at h;simp only at h ⊢;cases hf:ev st.env f<;>rw [hf] at h<;>first|rfl|exact sF h
 unfold bz;rw [e]
theorem tG:∀{l:List ax} {st:St},(∀q∈zG c2 nt l st,q.of c1=q.of c2)->dr c1 nt l st=dr c2 nt l st
 |[],st,_=>rfl
 |o::l,st,h=>by
  rw [dU,dU,Ce fun q hq=>h q (List.mem_append_left _ hq)];cases hr:eo c2 nt o st with
  |none=>rfl
  |some st1=>
   refine tG fun q hq=>h q (List.mem_append_right _ ?_)
   rw [hr];exact hq
theorem qJ:∀{l:List ax} {st:St},(∀q∈vQ c2 nt n0 l st,q.of c1=q.of c2)->cZ c1 nt n0 l st=cZ c2 nt n0 l st
 |[],st,_=>rfl
 |o::l,st,h=>by
  unfold cZ;rw [zq fun q hq=>h q (List.mem_append_left _ hq)];cases hr:bz c2 nt n0 o st with
  |none=>rfl
  |some p=>obtain⟨st1,r⟩:=p;simp only;rw [qJ fun q hq=>h q (List.mem_append_right _ (by rw [hr];exact hq))]
theorem Ho:∀(c:bY) (st:St),(∀q∈yc c2 lf nt c st,q.of c1=q.of c2)->iw c1 lf nt c st=iw c2 lf nt c st:=by
 intro c
 induction c with
 |skip=>intro st h;rfl
 |aa ops=>intro st h;show (match dr c1 nt ops st with|some st=>some (bG.normal,st)|none=>none)=_;rw [tG h];rfl
 |aT ops ahead pairs=>
  intro st h;have e:b7 c1 nt ops ahead pairs st=b7 c2 nt ops ahead pairs st:=by unfold b7;rw [qJ h]
  show (match b7 c1 nt ops ahead pairs st with|some st=>some (bG.normal,st)|none=>none)=_;rw [e];rfl
 |seq a b iha ihb=>
  intro st h;have h':∀q∈yc c2 lf nt a st++(match iw c2 lf nt a st with|some (.normal,st)=>yc c2 lf nt b st|_=>[]),q.of c1=q.of c2:=h;show (match iw c1 lf nt a st with|some (.normal,st)=>iw c1 lf nt b st|r=>r)=(match iw c2 lf nt a st with|some (.normal,st)=>iw c2 lf nt b st|r=>r);rw [iha st fun q hq=>h' q (List.mem_append_left _ hq)];cases hr:iw c2 lf nt a st with
  |none=>rfl
  |some p=>
   obtain⟨x,st1⟩:=p;cases x with
   |normal=>exact ihb st1 fun q hq=>h' q (List.mem_append_right _ (by rw [hr];exact hq))
   |exit i=>rfl
   |ret=>rfl
 |cond c a b iha ihb=>
  intro st h;have h':∀q∈(match ev st.env c with|.bool true=>yc c2 lf nt a st|.bool false=>yc c2 lf nt b st|_=>[]),q.of c1=q.of c2:=h;show (match ev st.env c with|.bool true=>iw c1 lf nt a st|.bool false=>iw c1 lf nt b st|_=>none)=(match ev st.env c with|.bool true=>iw c2 lf nt a st|.bool false=>iw c2 lf nt b st|_=>none);cases hc:ev st.env c with
  |bool t=>
   rw [hc] at h';cases t with
   |true=>exact iha st h'
   |false=>exact ihb st h'
  |_=>rfl
 |block id c ih=>intro st h;show (match iw c1 lf nt c st with|some (.exit i,st)=>bif Nat.beq i id then some (bG.normal,st) else some (bG.exit i,st)|r=>r)=_;rw [ih st h];rfl
 |loop c ih=>intro st h;rfl
 |exit id=>intro st h;rfl
 |ret=>intro st h;rfl
end
theorem Dw {prog:Map aq} {cf:eF} {lf:dj} {nt:Nat} (h1:mV (fun _=>aM prog) cf) (h2:pe (fun _=>bg prog) lf):∀(c:bY) (st:St) (r:bG×St),iw cf lf nt c st=some r->iw (aM prog) (bg prog) nt c st=some r:=by
 have ev1:∀{α:Type} {x:Option α} {r:α},Ev (fun _=>x) r->x=some r:=fun ⟨k,hk⟩=>hk k (Pa _)
 intro c
 induction c with
 |skip=>intro st r h;exact h
 |aa ops=>
  intro st r h;change (match dr cf nt ops st with|some st=>some (bG.normal,st)|none=>none)=some r at h;show (match dr (aM prog) nt ops st with|some st=>some (bG.normal,st)|none=>none)=some r;cases hr:dr cf nt ops st with
  |none=>rw [hr] at h;cases h
  |some st1=>rw [hr] at h;rw [ev1 (tF (cfk:=fun _=>aM prog) h1 hr)];exact h
 |aT ops ahead pairs=>
  intro st r h;change (match b7 cf nt ops ahead pairs st with|some st=>some (bG.normal,st)|none=>none)=some r at h;show (match b7 (aM prog) nt ops ahead pairs st with|some st=>some (bG.normal,st)|none=>none)=some r;cases hr:b7 cf nt ops ahead pairs st with
  |none=>rw [hr] at h;cases h
  |some st1=>rw [hr] at h;rw [ev1 (qz (cfk:=fun _=>aM prog) h1 hr)];exact h
 |seq a b iha ihb=>
  intro st r h;change (match iw cf lf nt a st with|some (.normal,st)=>iw cf lf nt b st|r=>r)=some r at h;show (match iw (aM prog) (bg prog) nt a st with|some (.normal,st)=>iw (aM prog) (bg prog) nt b st|r=>r)=some r;cases hr:iw cf lf nt a st with
  |none=>rw [hr] at h;cases h
  |some p=>
   obtain⟨x,st1⟩:=p;rw [hr] at h;rw [iha _ _ hr];cases x with
   |normal=>exact ihb _ _ h
   |exit i=>exact h
   |ret=>exact h
 |cond c a b iha ihb=>
  intro st r h;change (match ev st.env c with|.bool true=>iw cf lf nt a st|.bool false=>iw cf lf nt b st|_=>none)=some r at h;show (match ev st.env c with|.bool true=>iw (aM prog) (bg prog) nt a st|.bool false=>iw (aM prog) (bg prog) nt b st|_=>none)=some r;cases hc:ev st.env c with
  |bool t=>
   rw [hc] at h;cases t with
   |true=>exact iha st r h
   |false=>exact ihb st r h
  |_=>rw [hc] at h;cases h
 |block id c ih=>
  intro st r h;change (match iw cf lf nt c st with|some (.exit i,st)=>bif Nat.beq i id then some (.normal,st) else some (.exit i,st)|r=>r)=some r at h;show (match iw (aM prog) (bg prog) nt c st with|some (.exit i,st)=>bif Nat.beq i id then some (.normal,st) else some (.exit i,st)|r=>r)=some r;cases hr:iw cf lf nt c st with
  |none=>rw [hr] at h;cases h
  |some p=>rw [hr] at h;rw [ih _ _ hr];exact h
 |loop c ih=>intro st r h;exact ev1 (h2 nt (.loop c) st r h)
 |exit id=>intro st r h;exact h
 |ret=>intro st r h;exact h
def BF (prog:Map aq) (k g:Nat) (ans:AV×av×Nat):eF:=fun f args H nx=>bif Nat.beq f g then some ans else (interp prog k).fn f args H nx
def DT (g:Nat) (l:List fO):List fO:=List.rec (motive:=fun _=>List fO) [] (fun q _ ih=>bif Nat.beq q.f g then q::ih else ih) l
theorem yb {g:Nat}:∀{l:List fO} {q:fO},q∈l->q.f=g->q∈DT g l
 |x::l,q,h,e=>by
  show q∈(bif Nat.beq x.f g then x::DT g l else DT g l);rcases OP.1 h with rfl|h
  ·rw [show Nat.beq q.f g=true from (OY).mpr e];exact ON
  ·have:=yb h e;cases Nat.beq x.f g with
   |true=>exact OO _ this
   |false=>exact this
theorem FX {prog:Map aq} {k f g:Nat} {af:aq} {args X:List AV} {H HX:av} {nx nX:Nat} {ans r:AV×av×Nat} {x:bG} {st:St} (hf:prog.get f=some af) (ha:args.length=af.params)
  (hX:aM prog g X HX nX=some ans) (qzg:DT g (yc (BF prog k g ans) (interp prog k).code af.nt af.body ⟨cJ args 0 .leaf,H,nx⟩)=[⟨g,X,HX,nX⟩])
  (hrun:iw (BF prog k g ans) (interp prog k).code af.nt af.body ⟨cJ args 0 .leaf,H,nx⟩=some (x,st)) (hx:x=.normal\/x=.ret) (hr:ko af.res st=some r):aM prog f args H nx=some r:=by
 classical
 have good:∀q∈yc (BF prog k g ans) (interp prog k).code af.nt af.body ⟨cJ args 0 .leaf,H,nx⟩,∀y,q.of (BF prog k g ans)=some y->q.of (aM prog)=some y:=by
  intro q hq y hy;unfold fO.of BF at hy;by_cases e:q.f=g
  ·have:=yb hq e;rw [qzg,OS] at this;subst this;rw [show Nat.beq g g=true from (OY).mpr rfl] at hy;cases hy;exact hX
  ·rw [show Nat.beq q.f g=false from by cases h:Nat.beq q.f g with|false=>rfl|true=>exact absurd ((OY).mp h) e] at hy;exact lZ hy
 let cfD:eF:=fun f args H nx=>if ∀y,BF prog k g ans f args H nx=some y->aM prog f args H nx=some y then BF prog k g ans f args H nx else none
 have hD:mV (fun _=>aM prog) cfD:=by
  intro f args H nx y hy;have hy':(if ∀y,BF prog k g ans f args H nx=some y->aM prog f args H nx=some y then BF prog k g ans f args H nx else none)=some y:=hy;split at hy'
  ·rename_i hg;exact Ev.const (hg y hy')
  ·cases hy'
 have e:=Ho (c1:=cfD) (c2:=BF prog k g ans) (lf:=(interp prog k).code) (nt:=af.nt) af.body ⟨cJ args 0 .leaf,H,nx⟩ (fun q hq=>if_pos (good q hq));have h1:=Dw hD (jQ prog k).2 af.body _ _ (e.trans hrun);obtain⟨v,h2,rfl⟩:=sk (r:=fun v=>v=r) hf ha ⟨x,st,h1,hx,r,hr,rfl⟩;exact h2
def fo (prog:Map aq) (k g:Nat) (ans:AV×av×Nat) (af:aq) (args:List AV) (H:av) (nx:Nat):Option (AV×av×Nat):=
 match iw (BF prog k g ans) (interp prog k).code af.nt af.body ⟨cJ args 0 .leaf,H,nx⟩ with
 |some (.normal,st)=>ko af.res st
 |some (.ret,st)=>ko af.res st
 |_=>none
def fR (prog:Map aq) (k g:Nat) (ans:AV×av×Nat) (af:aq) (args:List AV) (H:av) (nx:Nat):List fO:=
 DT g (yc (BF prog k g ans) (interp prog k).code af.nt af.body ⟨cJ args 0 .leaf,H,nx⟩)
def Mo:List fO->fO
 |[]=>⟨0,[],.leaf,0⟩
 |q::_=>q
theorem oJ {prog:Map aq} {k f g:Nat} {af:aq} {args:List AV} {H:av} {nx:Nat} {q:fO} {ans r:AV×av×Nat} (hf:prog.get f=some af) (ha:args.length=af.params)
  (hX:aM prog g q.args q.H q.nx=some ans) (hg:q.f=g) (qzg:fR prog k g ans af args H nx=[q]) (hres:fo prog k g ans af args H nx=some r):aM prog f args H nx=some r:=by
 unfold fo at hres;split at hres
 ·rename_i st h;exact FX hf ha hX (by rw [←hg];rw [←hg] at qzg;exact qzg) h (.inl rfl) hres
 ·rename_i st h;exact FX hf ha hX (by rw [←hg];rw [←hg] at qzg;exact qzg) h (.inr rfl) hres
 ·cases hres
theorem zK {prog:Map aq} {f:Nat} {ts:List TV} {args:List AV} {v a:AV} {H:av} {nx:Nat} {r:TV} {Q:TV->Prop} (he:cr (Hg 9) ts=some args) (h:aM prog f args .leaf 0=some (v,H,nx)) (hi:aN deep H v=some a) (hc:Can r a) (hq:Q r):VS prog f ts Q:=by intro as ha;have e:as=args:=ux (oP 9) he ha.1 ha.2;subst e;exact⟨v,H,nx,h,a,hi,r,hc,hq⟩
theorem jl {α:Type} {x:Option α} {d:α} (h:x.isSome=true):x=some (x.getD d):=by obtain⟨y,rfl⟩:=Option.isSome_iff_exists.1 h;rfl
end Go.Ax.V
end
