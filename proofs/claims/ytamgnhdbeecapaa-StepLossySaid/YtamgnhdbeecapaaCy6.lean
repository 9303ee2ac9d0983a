/- Part 6 of the proof: V19, LyYa, V18. -/
import Derived.Test.YtamgnhdbeecapaaCy5
set_option linter.unusedSimpArgs false
set_option linter.unusedVariables false
noncomputable section
namespace Go.Ax.V
def chunks (sz:Nat) (n:Nat):List AV->List (List AV):=
 Nat.rec (motive:=fun _=>List AV->List (List AV)) (fun _=>[]) (fun _ ih cs=>cs.take sz::ih (cs.drop sz)) n
theorem pQ (sz:Nat):∀(n:Nat) (cs:List AV) (j:Nat),(chunks sz n cs)[j]?=if j < n then some ((cs.drop (j*sz)).take sz) else none
 |0,cs,j=>rfl
 |n+1,cs,0=>by show some (cs.take sz)=_;simp
 |n+1,cs,j+1=>by show (chunks sz n (cs.drop sz))[j]?=_;rw [pQ sz n _ j,List.drop_drop,Nat.succ_mul,Nat.add_comm (j*sz) sz];simp only [Nat.add_lt_add_iff_right]
theorem pP (sz:Nat):∀(n:Nat) (cs:List AV),(chunks sz n cs).length=n
 |0,_=>rfl
 |n+1,cs=>congrArg (·+ 1) (pP sz n (cs.drop sz))
def Je (ih:AV->TV):List AV->TV
 |[x]=>ih x
 |cs=>.a (cs.map ih)
def y7 (len n:Nat):Nat:=match n with
 |0=>1
 |n+1=>len / (n+1)
def B3 (d:Nat):AV->TV:=
 Nat.rec (motive:=fun _=>AV->TV) (fun _=>.np) (fun _ ih v=>match v with
  |.bool b=>.b b
  |.int k n=>.i k n
  |.str s=>.s s
  |.func f=>.f f
  |.ak=>.l []
  |.bO cs n _=>.l ((chunks (y7 cs.length n) n cs).map (Je ih))
  |.agg cs=>.a (cs.map ih)
  |.dc cs=>.tp (cs.map ih)
  |_=>.np) d
def o_ (d:Nat):AV->Bool:=
 Nat.rec (motive:=fun _=>AV->Bool) (fun _=>false) (fun _ ih v=>match v with
  |.bool _=>true
  |.int _ _=>true
  |.str _=>true
  |.func _=>true
  |.ak=>true
  |.iM=>true
  |.bO cs n _=>Nat.beq cs.length (n*y7 cs.length n)&&(Nat.blt 0 (y7 cs.length n)&&(bn AV.flat cs&&bn ih cs))
  |.agg cs=>bn AV.flat cs&&bn ih cs
  |.dc cs=>bn AV.dP cs&&bn ih cs
  |_=>false) d
theorem B2 {d:Nat} {x:AV} (hf:x.flat=true):(B3 d x).one=true:=by
 cases d with
 |zero=>rfl
 |succ d=>cases x<;>first|rfl|cases hf
theorem pR {f:AV->TV} {cs:List AV} (h:∀x∈cs,Can (f x) x):∀(j:Nat) (t:TV) (x:AV),(cs.map f)[j]?=some t->cs[j]?=some x->Can t x:=by intro j t x ht hx;rw [K4,hx] at ht;cases ht;exact h x (K8 hx)
theorem vl:∀(d:Nat) (v:AV),o_ d v=true->Can (B3 d v) v
 |0,v,h=>by cases h
 |d+1,v,h=>by
  cases v with
  |bool b=>exact .b b
  |int k n=>exact .i k n
  |str s=>exact .s s
  |func f=>exact .f f
  |ak=>exact .nil
  |iM=>exact .np
  |bO cs n c=>
   have h':(Nat.beq cs.length (n*y7 cs.length n)&&(Nat.blt 0 (y7 cs.length n)&&(bn AV.flat cs&&bn (o_ d) cs)))=true:=h;simp only [Lm] at h';obtain⟨h1,h2,h3,h4⟩:=h';have e1:=Nat.eq_of_beq_eq_true h1;have e2:0 < y7 cs.length n:=Ls.mp h2;have e3:=aF.1 h3;have e4:=aF.1 h4;show Can (.l ((chunks (y7 cs.length n) n cs).map (Je (B3 d)))) _;refine .bO _ cs n (y7 cs.length n) c (by rw [K9,pP]) e1 e2 e3 (fun j e he=>?_);rw [K4,pQ] at he;split at he
   ·simp only [Option.map_some,Option.some.injEq] at he;subst he;have hm:∀x∈(cs.drop (j*y7 cs.length n)).take (y7 cs.length n),x∈cs:=fun x hx=>List.mem_of_mem_drop (List.mem_of_mem_take hx)
    generalize (cs.drop (j*y7 cs.length n)).take (y7 cs.length n)=bs at hm ⊢;have gen:∀bs:List AV,(∀x∈bs,x∈cs)->jS (.a (bs.map (B3 d))) bs:=fun bs hb=>.a _ _ (K9 _) (pR fun x hx=>vl d x (e4 x (hb x hx)))
    match bs,hm with
    |[],hm=>exact gen [] hm
    |[x],hm=>exact .one _ _ (B2 (e3 x (hm x (Lj.2 rfl)))) (vl d x (e4 x (hm x (Lj.2 rfl))))
    |x::y::r,hm=>exact gen _ hm
   ·cases he
  |agg cs=>have h':(bn AV.flat cs&&bn (o_ d) cs)=true:=h;simp only [Lm] at h';exact .a _ cs (K9 _) (aF.1 h'.1) (pR fun x hx=>vl d x (aF.1 h'.2 x hx))
  |dc cs=>have h':(bn AV.dP cs&&bn (o_ d) cs)=true:=h;simp only [Lm] at h';exact .tp _ cs (K9 _) (aF.1 h'.1) (pR fun x hx=>vl d x (aF.1 h'.2 x hx))
  |_=>cases h
theorem CW {x:AV} {u:TV} (hr:zO x=true) (hg:o_ 20 x=true) (he:B3 20 x=u):Can (.nM x u) x:=.nM x u hr (he▸vl 20 x hg)
def EM (d:Nat):TV->Option AV:=
 Nat.rec (motive:=fun _=>TV->Option AV) (fun _=>none) (fun _ ih t=>match t with
  |.i k n=>some (.int k n)
  |.b x=>some (.bool x)
  |.s x=>some (.str x)
  |.f n=>some (.func n)
  |.np=>some .iM
  |.nM x _=>some x
  |.a ts=>(match ck ih ts with|some cs=>some (.agg cs)|none=>none)
  |.tp ts=>(match ck ih ts with|some cs=>some (.dc cs)|none=>none)
  |.l _=>none) d
theorem xS {f:TV->Option AV}:∀{ts:List TV} {cs as:List AV},(∀t a a',f t=some a->Can t a'->a'=a)->ck f ts=some cs->ts.length=as.length->(∀(j:Nat) (t:TV) (x:AV),ts[j]?=some t->as[j]?=some x->Can t x)->as=cs
 |[],cs,as,hf,h,hl,hc=>by cases h;exact Lw.1 hl.symm
 |t::ts,cs,[],hf,h,hl,hc=>by cases hl
 |t::ts,cs,a::as,hf,h,hl,hc=>by
  rw [b6] at h;cases h1:f t with
  |none=>rw [h1] at h;cases h
  |some x=>
   cases h2:ck f ts with
   |none=>rw [h1,h2] at h;cases h
   |some xs=>rw [h1,h2] at h;cases h;rw [hf t x a h1 (hc 0 t a rfl rfl),xS hf h2 (Nat.succ.inj hl) fun j u y hu hy=>hc (j+1) u y hu hy]
theorem wM:∀(d:Nat) (t:TV) (a a':AV),EM d t=some a->Can t a'->a'=a
 |0,t,a,a',h,_=>by cases h
 |d+1,t,a,a',h,hc=>by
  cases hc with
  |i k n=>cases h;rfl
  |b x=>cases h;rfl
  |s x=>cases h;rfl
  |f n=>cases h;rfl
  |np=>cases h;rfl
  |nil=>cases h
  |bO=>cases h
  |a ts as hl hf hx=>
   have h':(match ck (EM d) ts with|some cs=>some (AV.agg cs)|none=>none)=some a:=h;cases h1:ck (EM d) ts with
   |none=>rw [h1] at h';cases h'
   |some cs=>rw [h1] at h';cases h';rw [xS (wM d) h1 hl hx]
  |tp ts as hl hf hx=>
   have h':(match ck (EM d) ts with|some cs=>some (AV.dc cs)|none=>none)=some a:=h;cases h1:ck (EM d) ts with
   |none=>rw [h1] at h';cases h'
   |some cs=>rw [h1] at h';cases h';rw [xS (wM d) h1 hl hx]
  |nM x u hf hx=>cases h;rfl
def gL (prog:Map aq) (k f:Nat) (args:List AV):Option AV:=match (interp prog k).fn f args .leaf 0 with
 |some (v,H,_)=>aL deep H v
 |none=>none
theorem n9 {prog:Map aq} {k f:Nat} {ts:List TV} {args:List AV} {a:AV} {r:TV} {Q:TV->Prop} (he:ck (EM 9) ts=some args) (h:gL prog k f args=some a) (hc:Can r a) (hq:Q r):VS prog f ts Q:=by
 intro as ha;have e:as=args:=xS (wM 9) he ha.1 ha.2;subst e;unfold gL at h;cases h1:(interp prog k).fn f as .leaf 0 with
 |none=>rw [h1] at h;cases h
 |some p=>obtain⟨v,H,nx⟩:=p;rw [h1] at h;exact⟨v,H,nx,qg h1,a,h,r,hc,hq⟩
section
variable {sh:Sh} {prog:Map aq} {nt:Nat}
def fm (lo:List (Nat×TV×Nat)):List (Nat×TV)->ay
 |[]=>List.rec (motive:=fun _=>ay) V0 (fun p _ V=>⟨V.env.put (some ⟨none,.ptr p.1 0⟩) p.1,V.H.put (some (.ob p.2.1 [])) p.1,V.us.put (some ()) p.1⟩) lo
 |(t,v)::l=>eO (fm lo l) t (.tr v)
def Ft (v:Option c9) (b:Bool):Bool:=match v with
 |none=>true
 |some _=>b
def v9 (m:aE):(Nat->Bool)->Bool:=
 Map.rec (motive:=fun _=>(Nat->Bool)->Bool) (fun _=>true)
  (fun v _ _ l r p=>Bool.rec false (Bool.rec false (r fun k=>p (Nat.succ (Nat.succ (Nat.mul 2 k)))) (l fun k=>p (Nat.succ (Nat.mul 2 k)))) (Ft v (p 0))) m
theorem Av (m:aE):∀(p:Nat->Bool) (i:Nat) (o:c9),v9 m p=true->m.get i=some o->p i=true:=by
 induction m with
 |leaf=>intro p i o _ h;cases h
 |node v l r ihl ihr=>
  intro p i o h hg;have h':(Bool.rec false (Bool.rec false (v9 r fun k=>p (Nat.succ (Nat.succ (Nat.mul 2 k)))) (v9 l fun k=>p (Nat.succ (Nat.mul 2 k)))) (Ft v (p 0)):Bool)=true:=h;rw [m8] at h';split at h';rotate_left
  ·cases h'
  rename_i h0;rw [m8] at h';split at h';rotate_left
  ·cases h'
  rename_i h1;rw [Map.bL] at hg;by_cases hi:i=0
  ·subst hi;rw [if_pos rfl] at hg;rw [hg] at h0;exact h0
  ·rw [if_neg hi] at hg;by_cases hi1:i % 2=1
   ·rw [if_pos hi1] at hg;have:=ihl _ _ _ h1 hg;have e:Nat.succ (Nat.mul 2 (i / 2))=i:=by simp only [Nat.succ_eq_add_one,Nat.mul_eq];omega
    rw [e] at this;exact this
   ·rw [if_neg hi1] at hg;have:=ihr _ _ _ h' hg;have e:Nat.succ (Nat.succ (Nat.mul 2 (i / 2 - 1)))=i:=by simp only [Nat.succ_eq_add_one,Nat.mul_eq];omega
    rw [e] at this;exact this
theorem wC (p:Nat×TV×Nat) (lo:List (Nat×TV×Nat)):fm (p::lo) []=⟨(fm lo []).env.put (some ⟨none,.ptr p.1 0⟩) p.1,(fm lo []).H.put (some (.ob p.2.1 [])) p.1,(fm lo []).us.put (some ()) p.1⟩:=rfl
theorem uJ {lo:List (Nat×TV×Nat)}:∀{l:List (Nat×TV)} {t:Nat} {e:VE},(fm lo l).env.get t=some e->(∃v,(t,v)∈l/\e=⟨none,.tr v⟩)\/∃v id,(t,v,id)∈lo/\e=⟨none,.ptr t 0⟩
 |[],t,e,h=>by
  refine .inr ?_
  induction lo with
  |nil=>cases h
  |cons p lo ih=>
   rw [wC] at h;have h':((fm lo []).env.put (some ⟨none,.ptr p.1 0⟩) p.1).get t=some e:=h;rw [Map.au] at h';split at h'
   ·rename_i e1;subst e1;cases h';exact⟨p.2.1,p.2.2,Lf,rfl⟩
   ·obtain⟨v,id,h1,h2⟩:=ih h';exact⟨v,id,Lg _ h1,h2⟩
 |(u,v)::l,t,e,h=>by
  have h':((fm lo l).env.put (some ⟨none,.tr v⟩) u).get t=some e:=h;rw [Map.au] at h';split at h'
  ·rename_i e1;subst e1;cases h';exact .inl ⟨v,Lf,rfl⟩
  ·rcases uJ h' with ⟨v',h1,h2⟩|h
   ·exact .inl ⟨v',Lg _ h1,h2⟩
   ·exact .inr h
theorem oV {lo:List (Nat×TV×Nat)}:∀{l:List (Nat×TV)} {O:Nat} {o:VO},(fm lo l).H.get O=some o->∃v id,(O,v,id)∈lo/\o=.ob v []
 |[],O,o,h=>by
  induction lo with
  |nil=>cases h
  |cons p lo ih=>
   rw [wC] at h;have h':((fm lo []).H.put (some (.ob p.2.1 [])) p.1).get O=some o:=h;rw [Map.au] at h';split at h'
   ·rename_i e1;subst e1;cases h';exact⟨p.2.1,p.2.2,Lf,rfl⟩
   ·obtain⟨v,id,h1,h2⟩:=ih h';exact⟨v,id,Lg _ h1,h2⟩
 |(u,v)::l,O,o,h=>oV (l:=l) h
theorem xF {lo:List (Nat×TV×Nat)}:∀{l:List (Nat×TV)} {O:Nat},(fm lo l).us.get O=none->∀p∈lo,p.1≠O
 |[],O,h=>by
  induction lo with
  |nil=>intro p hp;cases hp
  |cons q lo ih=>
   rw [wC] at h;have h':((fm lo []).us.put (some ()) q.1).get O=none:=h;rw [Map.au] at h';split at h'
   ·cases h'
   ·rename_i e1;intro p hp;rcases Lh.1 hp with rfl|hp
    ·exact fun e=>e1 e.symm
    ·exact ih h' p hp
 |(u,v)::l,O,h=>xF (l:=l) h
def kF:List (Nat×TV×Nat)->Nat->Option AV
 |[],_=>none
 |p::lo,O=>if p.1=O then some (.ptr p.2.2 0 0) else kF lo O
theorem ru:∀{lo:List (Nat×TV×Nat)} {O:Nat} {a:AV},kF lo O=some a->∃v id,(O,v,id)∈lo/\a=.ptr id 0 0
 |p::lo,O,a,h=>by
  unfold kF at h;split at h
  ·rename_i e1;subst e1;cases h;exact⟨p.2.1,p.2.2,Lf,rfl⟩
  ·obtain⟨v,id,h1,h2⟩:=ru h;exact⟨v,id,Lg _ h1,h2⟩
theorem js:∀{lo:List (Nat×TV×Nat)},(lo.map (·.1)).Nodup->∀p∈lo,kF lo p.1=some (.ptr p.2.2 0 0)
 |q::lo,hn,p,hp=>by
  rw [List.map_cons,List.nodup_cons] at hn;unfold kF;rcases Lh.1 hp with rfl|hp
  ·rw [if_pos rfl]
  ·rw [if_neg (fun (e:q.1=p.1)=>hn.1 (by rw [e];exact List.mem_map_of_mem (f:=fun p=>p.1) hp))];exact js hn.2 p hp
theorem ry:∀{lo:List (Nat×TV×Nat)} {O:Nat},(∀p∈lo,p.1≠O)->kF lo O=none
 |[],O,_=>rfl
 |p::lo,O,h=>by unfold kF;rw [if_neg (h p Lf)];exact ry fun q hq=>h q (Lg _ hq)
def zn (lo:List (Nat×TV×Nat)):aS:=fun n=>match n with
 |.s O=>kF lo O
 |.i _ _ _=>none
theorem yC {lo:List (Nat×TV×Nat)} (h2:(lo.map (fun p=>p.2.2)).Nodup):∀p∈lo,∀q∈lo,p.2.2=q.2.2->p=q:=by
 induction lo with
 |nil=>intro p hp;cases hp
 |cons r lo ih=>
  rw [List.map_cons,List.nodup_cons] at h2;intro p hp q hq e;rcases Lh.1 hp with rfl|hp'<;>rcases Lh.1 hq with rfl|hq'
  ·rfl
  ·exact absurd (by rw [e];exact List.mem_map_of_mem (f:=fun p=>p.2.2) hq') h2.1
  ·exact absurd (by rw [←e];exact List.mem_map_of_mem (f:=fun p=>p.2.2) hp') h2.1
  ·exact ih h2.2 p hp' q hq' e
theorem Ec {lo:List (Nat×TV×Nat)} {l:List (Nat×TV)} {st:St} (hl:∀p∈l,∃a,st.env.get p.1=some a/\Can p.2 a) (ho:∀p∈lo,st.env.get p.1=some (.ptr p.2.2 0 0)/\∃ts cs,p.2.1=.a ts/\st.H.get p.2.2=some (.row 0 cs)/\Can (.a ts) (.agg cs))
  (hn1:(lo.map (·.1)).Nodup) (hn2:(lo.map (fun p=>p.2.2)).Nodup) (hf:v9 st.H (fun i=>Nat.blt i st.nx)=true):R (zn lo) (fm lo l) st:=by
 refine⟨fun t e he=>?_,fun O o ho'=>?_,fun O O' o o' a a' id h1 h2 h3 h4 h5 h6=>?_,fun n hn=>?_,fun n a ha=>?_,fun id o ho'=>?_,fun O o a ho' ha=>?_⟩
 ·rcases uJ he with ⟨v,h1,rfl⟩|⟨v,id,h1,rfl⟩
  ·obtain⟨a,h2,h3⟩:=hl _ h1;exact⟨a,h2,fun _=>.tr h3⟩
  ·exact⟨_,(ho _ h1).1,fun _=>.ptr (js hn1 _ h1)⟩
 ·obtain⟨v,id,h1,rfl⟩:=oV ho';refine⟨_,js hn1 _ h1,?_⟩;obtain⟨_,ts,cs,h2,h3,h4⟩:=ho _ h1;have h2':v=.a ts:=h2;subst h2';cases h4 with
  |a _ _ g1 g2 g3=>exact⟨id,cs,ts,rfl,h3,rfl,g1,fun j w h=>(by cases h),fun j t x ht hx=>⟨g3 j t x ht hx,g2 x (K8 hx)⟩⟩
 ·obtain⟨v,i1,m1,rfl⟩:=oV h1;obtain⟨v',i2,m2,rfl⟩:=oV h2;rw [show zn lo O=kF lo O from rfl,js hn1 _ m1] at h3;rw [show zn lo O'=kF lo O' from rfl,js hn1 _ m2] at h4;cases h3;cases h4;have e1:=(bQ (A:=zn lo) (o:=.ob v []) rfl).1 h5;have e2:=(bQ (A:=zn lo) (o:=.ob v' []) rfl).1 h6;have e3:i1=id:=by injection e1
  have e4:i2=id:=by injection e2
  have:=yC hn2 _ m1 _ m2 (e3.trans e4.symm);exact congrArg Prod.fst this
 ·cases n with
  |s O=>exact ry (xF hn)
  |i _ _ _=>rfl
 ·cases n with
  |s O=>obtain⟨v,id,_,rfl⟩:=ru ha;rfl
  |i _ _ _=>cases ha
 ·exact Ls.mp (Av st.H _ id o hf ho')
 ·obtain⟨v,id,_,rfl⟩:=oV ho';exact kH rfl
def cu (ex:dr) (nt:Nat):List bS->St->Option St
 |[],st=>some st
 |c::l,st=>match ex nt c st with
  |some (.normal,st)=>cu ex nt l st
  |_=>none
def zy:List bS->bS->bS
 |[],c=>c
 |a::l,c=>.seq a (zy l c)
theorem oh {k:Nat} {suf:bS} {r:bU×St}:∀{l:List bS} {st st1:St},cu (interp prog k).code nt l st=some st1->bp prog nt suf st1=some r->bp prog nt (zy l suf) st=some r
 |[],st,st1,h,h2=>by cases h;exact h2
 |c::l,st,st1,h,h2=>by
  unfold cu at h;split at h
  ·rename_i st2 h3;obtain⟨k0,hk⟩:=(kW prog k).2 nt c st _ h3;refine cI ?_;show (match bp prog nt c st with|some (.normal,st)=>bp prog nt (zy l suf) st|r=>r)=some r;have e:bp prog nt c st=some (.normal,st2):=hk k0 (LB _);rw [e];exact oh h h2
  ·cases h
theorem CM {A:aS} {V:ay} {st:St} {r:nk} {Q:TV->Prop} (g1:R A V st) (g4:vV V [r] fun rs=>gX rs/\Q (vE rs)):∃v,lA [r] st=some v/\∃a,aL deep v.2.1 v.1=some a/\∃t,Can t a/\Q t:=by obtain⟨v,t,a,h1,h2,h3,h4⟩:=oA g1 (k:=fun v=>gX [v]/\Q (vE [v])) g4 26;exact⟨(v,st.H,st.nx),by unfold lA;simp only [b6,h1];rfl,a,h2,t,h3,h4.2⟩
theorem Ed {f k:Nat} {af:aq} {l:List bS} {vc:b9} {args:List AV} {st:St} {lo:List (Nat×TV×Nat)} {live:List (Nat×TV)} {r:nk} (hf:prog.get f=some af) (ha:args.length=af.params) (hb:af.body=zy l vc.code) (hr:af.res=[r])
  (hok:vc.ok=true) (hsh:mg prog sh) (hpre:∀x,bp prog af.nt vc.code st=some x->bp prog af.nt af.body ⟨cW args 0 .leaf,.leaf,0⟩=some x) (hl:∀p∈live,∃a,st.env.get p.1=some a/\Can p.2 a) (ho:∀p∈lo,st.env.get p.1=some (.ptr p.2.2 0 0)/\∃ts cs,p.2.1=.a ts/\st.H.get p.2.2=some (.row 0 cs)/\Can (.a ts) (.agg cs))
  (hn1:(lo.map (·.1)).Nodup) (hn2:(lo.map (fun p=>p.2.2)).Nodup) (hold:v9 st.H (fun i=>Nat.blt i st.nx)=true)
  (h:za sh prog af.nt vc (fm lo live) fun x V=>(match x with|.exit _=>False|_=>True)/\vV V [r] fun rs=>gX rs/\vE rs=.b true):isTrue (aX prog f args .leaf 0)=true:=by
 obtain⟨x,st',h1,V',A',g1,_,g3,g4⟩:=xX hsh (nt:=af.nt) vc _ _ _ _ hok (Ec hl ho hn1 hn2 hold) h;have h2:=hpre _ (s9 prog _ _ _ _ h1);obtain⟨v,p1,a,p2,t,p3,rfl⟩:=CM (Q:=fun t=>t=.b true) g1 g4;cases p3;have e:=uQ (d:=29) p2 (fun _ _ _ h=>by cases h) (fun _ h=>by cases h) (fun _ h=>by cases h);have e2:aX prog f args .leaf 0=some v:=by
  refine vO ?_;simp only [fV,hf,cond_eq_ite,Lq,if_pos ha,h2];rw [hr];cases x with
  |exit i=>cases g3
  |normal=>exact p1
  |ret=>exact p1
 rw [e2];obtain⟨v1,v2,v3⟩:=v;have e':v1=.bool true:=e;rw [e'];rfl
end
end Go.Ax.V
namespace Go.Ax.V
end Go.Ax.V
namespace Go.Ax.V
def b9.flat:b9->Bool
 |.skip=>true
 |.aa _=>true
 |.seq a b=>a.flat&&b.flat
 |.cond _ a b=>a.flat&&b.flat
 |.block _ c=>c.flat
 |.exit _=>true
 |.ret=>true
 |_=>false
section
variable {sh:Sh} {prog:Map aq} {nt:Nat}
def _root_.Go.Ax.V.Sh.add (sh:Sh) (f:Nat) (T:ay->List VV->(VV->ay->Prop)->Prop):Sh:={sh with inl:=fun g=>bif Nat.beq g f then some T else sh.inl g}
def _root_.Go.Ax.V.Sh.cut (sh:Sh) (tc:Nat->List Nat) (gc:Nat->Nat) (pn:Nat->List (Nat×Nat)):Sh:={sh with tc:=tc,gc:=gc,pn:=pn}
end
end Go.Ax.V
end
