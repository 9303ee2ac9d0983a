/- Part 5 of the proof: VD, VE, V13, V14, V15, V16. -/
import Derived.Test.YtamgnhdbeecapaaCb4

set_option linter.unusedSimpArgs false
set_option linter.unusedVariables false
namespace Go.Ax.V
section
variable {sh:Sh} {prog:Map AFunc} {cf:FnF} {nt:Nat} {A:Tok} {V:VSt} {st:St} {d:Option Nat} {g:G} {k:VSt→Prop}
theorem rdK_vv {x:Opd} {k:VV→Prop} (h:rdK V g x k):k (vvOf V x):=by
 cases x with
 |c v=>exact h
 |t n=>
  simp only [rdK] at h
  split at h
  ·cases h
  rename_i e he
  have e1:vvOf V (.t n)=e.v:=by simp only [vvOf,he]
  rw [e1]
  split at h
  ·exact h
  ·split at h
   ·cases h
   ·exact h.2
theorem rdK_both (hR:R A V st) (ha:act g) {x:Opd} {k:VV→Prop} (h:rdK V g x k):VR A (vvOf V x) (ev st.env x)∧k (vvOf V x):=by
 refine ⟨?_,rdK_vv h⟩
 cases x with
 |c v=>exact const_vr A v
 |t n=>
  simp only [rdK] at h
  split at h
  ·cases h
  rename_i e he
  obtain ⟨a,h1,h2⟩:=hR.env n e he
  have e1:vvOf V (.t n)=e.v:=by simp only [vvOf,he]
  rw [ev_get h1,e1]
  refine h2 (fun c bb hc=>?_)
  rw [hc] at h
  simp only at h
  split at h
  ·cases h
  ·obtain ⟨e,_⟩:=h
   cases e;exact ha
structure FootOk (A:Tok) (V:VSt) (f:Foot) (r:Rec):Prop where
 rd:∀x∈r.rds,∃id,(match x with | .rng q=>q.id=id | .obj i=>i=id | .all=>False)∧∃T∈f.rd,∃o a,V.H.get T=some o∧A T=some a∧idOf a=some id
 wr:∃l,r.tch=.ids l∧∀id∈l,∃T∈f.wr,∃o a,V.H.get T=some o∧A T=some a∧idOf a=some id
def Look (A:Tok) (V:VSt) (f:Foot) (rds:List Rd) (tch:List Nat):Prop:=
 (∀x∈rds,∃id,(match x with | .rng q=>q.id=id | .obj i=>i=id | .all=>False)∧∃T∈f.rd,∃o a,V.H.get T=some o∧A T=some a∧idOf a=some id)∧
 ∀id∈tch,∃T∈f.wr,∃o a,V.H.get T=some o∧A T=some a∧idOf a=some id
theorem look_nil {f:Foot}:Look A V f [] []:=⟨fun x hx=>(by cases hx),fun id h=>(by cases h)⟩
theorem look_val {f:Foot} {p:Plan} (h:p.rds=[]∧p.tch=[]):Look A V f p.rds p.tch:=by rw [h.1,h.2];exact look_nil
def still0 (p:Option Plan):Prop:=∀q,p=some q→q.rds=[]∧q.tch=[]
theorem still0_pure (v:Option AV):still0 (pureO v):=by
 intro q h
 cases v with
 |none=>cases h
 |some v=>cases h;exact ⟨rfl,rfl⟩
theorem still0_val (v:AV):still0 (some (.val v)):=fun q h=>by cases h;exact ⟨rfl,rfl⟩
theorem still0_new (f:Nat→AV) (o:AObj):still0 (some (.new f o)):=fun q h=>by cases h;exact ⟨rfl,rfl⟩
theorem still0_none:still0 none:=fun q h=>by cases h
theorem load_look (hR:R A V st) (ha:act g) {sz:Option Nat} {a:Opd} (h:rdK V g a fun w=>evLoad nt V d g sz w k) {p:Plan} (hp:pLoad (ev st.env) sz a=some p):Look A V ⟨ptrToks (vvOf V a),[],[]⟩ p.rds p.tch:=by
 obtain ⟨hw,hk⟩:=rdK_both hR ha h
 generalize he:ev st.env a=x at hw
 generalize vvOf V a=w at hw hk
 have hit:∀{O:Nat} {o:VO} {pa:AV} {id gg off:Nat},x=.ptr id gg off→V.H.get O=some o→A O=some pa→idOf pa=some id→Look A V ⟨[O],[],[]⟩ p.rds p.tch:=by
  intro O o pa id gg off hx hO hA hi
  subst hx
  simp only [pLoad,he] at hp
  cases hp
  refine ⟨fun y hy=>?_,fun id' h=>by cases h⟩
  simp [Plan.rds] at hy
  subst hy
  exact ⟨id,rfl,O,by simp,o,pa,hO,hA,hi⟩
 cases hw with
 |@ptr O off id hO=>
  simp only [evLoad] at hk
  split at hk
  ·rename_i v ovs ho;exact hit rfl ho hO rfl
  ·cases hk
 |@pd O off id hO=>
  simp only [evLoad] at hk
  split at hk
  ·rename_i v ovs ho;exact hit rfl ho hO rfl
  ·cases hk
 |@ea O i off id gg b z len cap ex hO=>
  simp only [evLoad] at hk
  split at hk
  ·rename_i z es ho;exact hit rfl ho hO rfl
  ·cases hk
 |@pt v cs b off n hl hf hcc=>
  simp only [pLoad,he] at hp
  split at hp
  ·exact look_val (still0_pure _ p hp)
  ·cases hp
 |_=>cases hk
theorem store_look (hR:R A V st) {sz:Nat} {a x:Opd} (h:rdK V none a fun w=>rdK V none x fun x=>evStore V sz w x k) {p:Plan} (hp:pStore (ev st.env) sz a x=some p):Look A V ⟨ptrToks (vvOf V a),ptrToks (vvOf V a),[]⟩ p.rds p.tch:=by
 obtain ⟨hw,hk⟩:=rdK_both (g:=none) hR trivial h
 obtain ⟨y,hy,hk⟩:=rdK_sim (g:=none) hR trivial hk
 generalize he:ev st.env a=q at hw
 generalize vvOf V a=w at hw hk
 have hit:∀{O:Nat} {o:VO} {pa:AV} {id gg off:Nat},q=.ptr id gg off→V.H.get O=some o→A O=some pa→idOf pa=some id→Look A V ⟨[O],[O],[]⟩ p.rds p.tch:=by
  intro O o pa id gg off hx hO hA hi
  subst hx
  simp only [pStore,he] at hp
  split at hp
  ·rw [cond_eq_ite] at hp
   split at hp
   ·cases hp
    refine ⟨fun y hy=>?_,fun id' h=>?_⟩
    ·simp [Plan.rds] at hy
     subst hy
     exact ⟨id,rfl,O,by simp,o,pa,hO,hA,hi⟩
    ·simp [Plan.tch] at h
     subst h
     exact ⟨O,by simp,o,pa,hO,hA,hi⟩
   ·cases hp
  ·cases hp
 cases hw with
 |@ptr O off id hO=>
  simp only [evStore] at hk
  split at hk
  ·rename_i v ovs ho;exact hit rfl ho hO rfl
  ·cases hk
 |@pd O off id hO=>
  simp only [evStore] at hk
  split at hk
  ·rename_i v ovs ho;exact hit rfl ho hO rfl
  ·cases hk
 |@ea O i off id gg b z len cap ex hO=>
  simp only [evStore] at hk
  split at hk
  ·rename_i z es ho;exact hit rfl ho hO rfl
  ·cases hk
 |_=>cases hk
theorem app_look (hR:R A V st) (ha:act g) {es bytes:Nat} {s x:Opd} (h:rdK V g s fun w=>rdK V g x fun x=>evApp nt V d g es bytes w x k) {p:Plan} (hp:appA es bytes (ev st.env s) (ev st.env x)=some p) :
  Look A V ⟨vvToks (vvOf V s)++vvToks (vvOf V x),vvToks (vvOf V s),vvToks (vvOf V s)⟩ p.rds p.tch:=by
 obtain ⟨hw,h⟩:=rdK_both hR ha h
 obtain ⟨hy,hk⟩:=rdK_both hR ha h
 replace hk:=(pos_ok hk).2
 generalize vvOf V s=w at hw hk
 generalize vvOf V x=y at hy hk
 generalize ev st.env s=a at hw hp
 generalize ev st.env x=b at hy hp
 have hsrc:∀{m:Nat} {src:Src} {q:Rng},srcOf es b=some (m,src)→src.q=some q→∃T∈vvToks y,∃o a,V.H.get T=some o∧A T=some a∧idOf a=some q.id:=by
  intro m src q h1 h2
  cases hy with
  |@sl O _ hO=>
   simp only [srcK] at hk
   split at hk
   ·rename_i z es' ho
    obtain ⟨yy,hyy,hs⟩:=hR.heap O _ ho
    rw [hO] at hyy;cases hyy
    rcases hs.2 with ⟨_,rfl | rfl⟩ | ⟨id,gg,bb,cells,rfl,_⟩
    ·cases h1;cases h2
    ·simp only [srcOf,cond_eq_ite] at h1
     split at h1
     ·cases h1;cases h2
     ·cases h1
    ·simp only [srcOf,cond_eq_ite] at h1
     split at h1
     ·cases h1;cases h2
      exact ⟨O,by simp [vvToks],_,_,ho,hO,rfl⟩
     ·cases h1
   ·cases hk
  |@tr v _ hc=>
   cases hc <;> first | (cases h1;done) | skip
   ·cases h1;cases h2
   ·simp only [srcOf,cond_eq_ite] at h1
    split at h1
    ·cases h1;cases h2
    ·cases h1
  |nil0=>cases h1;cases h2
  |nil1=>
   simp only [srcOf,cond_eq_ite] at h1
   split at h1
   ·cases h1;cases h2
   ·cases h1
  |_=>cases hk
 have hk':∃xs,match w with
   |.nil0=>∃l,appT bytes [] xs=some l∧newV nt V d g .sl (.gr es l) k
   |.sl O=>(match V.H.get O with
    |some (.gr z es')=>same z es (∃l,appT bytes es' xs=some l∧newV nt (dropO V O) d g .sl (.gr es l) k)
    |_=>False)
   |_=>False:=by
  unfold srcK at hk
  split at hk
  ·obtain ⟨xs,_,_,h⟩:=hk;exact ⟨xs,h⟩
  ·exact ⟨_,hk⟩
  ·split at hk
   ·exact ⟨_,(same_ok hk).2⟩
   ·cases hk
  ·cases hk
 have hdst:∀{id:Nat},idOf a=some id→∃T∈vvToks w,∃o a,V.H.get T=some o∧A T=some a∧idOf a=some id:=by
  intro id hi
  obtain ⟨xs,hk'⟩:=hk'
  cases hw with
  |nil0=>cases hi
  |nil1=>cases hi
  |@sl O _ hO=>
   simp only at hk'
   split at hk'
   ·rename_i z es' ho;exact ⟨O,by simp [vvToks],_,_,ho,hO,hi⟩
   ·cases hk'
  |_=>cases hk'
 have mk:∀(q:Option Rng) (u:Option Nat) (kk:List AV→Option AObj→Option Out),(∀r,q=some r→∃T∈vvToks y,∃o a,V.H.get T=some o∧A T=some a∧idOf a=some r.id)→
   (∀i,u=some i→∃T∈vvToks w,∃o a,V.H.get T=some o∧A T=some a∧idOf a=some i)→Look A V ⟨vvToks w++vvToks y,vvToks w,vvToks w⟩ (Plan.look q u kk).rds (Plan.look q u kk).tch:=by
  intro q u kk h1 h2
  refine ⟨fun z hz=>?_,fun id hid=>?_⟩
  ·simp only [Plan.rds,List.mem_append] at hz
   rcases hz with hz | hz
   ·cases q with
    |none=>cases hz
    |some r=>
     simp at hz;subst hz
     obtain ⟨T,h3,h4⟩:=h1 r rfl
     exact ⟨r.id,rfl,T,List.mem_append_right _ h3,h4⟩
   ·cases u with
    |none=>cases hz
    |some i=>
     simp at hz;subst hz
     obtain ⟨T,h3,h4⟩:=h2 i rfl
     exact ⟨i,rfl,T,List.mem_append_left _ h3,h4⟩
  ·cases u with
   |none=>cases hid
   |some i=>
    simp [Plan.tch] at hid;subst hid
    exact h2 _ rfl
 unfold appA at hp
 split at hp
 ·cases hp
 rename_i m src hm
 rw [cond_eq_ite] at hp
 split at hp
 ·rw [cond_eq_ite] at hp
  split at hp
  ·cases hp;exact look_nil
  ·cases hp
 ·split at hp
  ·rw [cond_eq_ite] at hp
   split at hp
   ·cases hp;exact mk _ _ _ (fun r hr=>hsrc hm hr) (fun i hi=>by cases hi)
   ·cases hp
  ·rw [cond_eq_ite] at hp
   split at hp
   ·cases hp;exact mk _ _ _ (fun r hr=>hsrc hm hr) (fun i hi=>by cases hi)
   ·cases hp
  ·rename_i id gg off es' len cap ex
   rw [cond_eq_ite] at hp
   split at hp
   ·cases hp
    unfold appRef
    rw [cond_eq_ite]
    split
    ·exact mk _ _ _ (fun r hr=>hsrc hm hr) (fun i hi=>by cases hi;exact hdst rfl)
    ·rw [cond_eq_ite]
     split
     ·exact mk _ _ _ (fun r hr=>hsrc hm hr) (fun i hi=>by cases hi;exact hdst rfl)
     ·exact mk _ _ _ (fun r hr=>hsrc hm hr) (fun i hi=>by cases hi;exact hdst rfl)
   ·cases hp
  ·cases hp
theorem part_toks_mono {V':VSt} (he:V'.env=V.env):∀(parts:List (Nat×Nat×Opd)),partToks V' parts=partToks V parts
 |[]=>rfl
 |(_,_,x) :: r=>by
  have e1:vvOf V' x=vvOf V x:=by cases x <;> simp only [vvOf,he]
  simp only [partToks,part_toks_mono he r,e1]
theorem elems_look {sz:Nat}:∀(parts:List (Nat×Nat×Opd)) (j:Nat) (V:VSt) (k:List TV→VSt→Prop),R A V st→elemsK V none true sz j parts k→
  ∀id∈(parts.map fun p=>ev st.env p.2.2).flatMap (idsOf deep st.H),∃T∈partToks V parts,∃o a,V.H.get T=some o∧A T=some a∧idOf a=some id
 |[],j,V,k,hR,hk,id,hid=>by simp at hid
 |(off,n,x) :: r,j,V,k,hR,hk,id,hid=>by
  obtain ⟨_,hk⟩:=hk
  obtain ⟨hw,hk⟩:=rdK_both (g:=none) hR trivial hk
  rw [List.map_cons,List.flatMap_cons,List.mem_append] at hid
  have rest:∀{V1:VSt} {k':List TV→VSt→Prop},Sub V V1→elemsK V1 none true sz (j + 1) r k'→id∈(r.map fun p=>ev st.env p.2.2).flatMap (idsOf deep st.H)→
    ∃T∈vvToks (vvOf V x)++partToks V r,∃o a,V.H.get T=some o∧A T=some a∧idOf a=some id:=by
   intro V1 k' hs hk' hi
   obtain ⟨T,h1,o,a,h2,h3,h4⟩:=elems_look r (j + 1) V1 k' (hs.r hR) hk' id hi
   rw [part_toks_mono hs.env] at h1
   exact ⟨T,List.mem_append_right _ h1,o,a,hs.H _ _ h2,h3,h4⟩
  simp only [partToks]
  generalize vvOf V x=w at hw hk rest
  generalize ev st.env x=a at hw hid
  have no:a.plain=true→id∈idsOf deep st.H a→False:=fun hp hi=>by
   have:idsOf deep st.H a=[]:=ids_plain hp 27 _
   rw [this] at hi;cases hi
  cases hw with
  |tr hc=>exact hid.elim (fun hi=>(no (can_plain hc) hi).elim) (rest (Sub.refl V) hk.2)
  |nil0=>exact hid.elim (fun hi=>(no rfl hi).elim) (rest (Sub.refl V) hk.2)
  |nil1=>exact hid.elim (fun hi=>(no rfl hi).elim) (rest (Sub.refl V) hk.2)
  |@sl O _ hO=>
   obtain ⟨_,_,hk⟩:=hk
   simp only [slOf] at hk
   split at hk
   ·rename_i z es ho
    refine hid.elim (fun hi=>?_) (rest (sub_dropVV V (.sl O)) hk)
    obtain ⟨y,hy,hs⟩:=hR.heap O _ ho
    rw [hO] at hy;cases hy
    exact ⟨O,List.mem_append_left _ (by simp [vvToks]),_,_,ho,hO,ids_sl hs 28 id hi⟩
   ·cases hk
  |@st t o cs tl hv hc=>
   obtain ⟨_,hk⟩:=hk
   have hthere:=toTs_there hk
   obtain ⟨u,hk⟩:=toTs_ex hk
   refine hid.elim (fun hi=>?_) (rest (sub_dropOvs o V) hk.2)
   have hi':id∈cs.flatMap (idsOf 29 st.H):=hi
   obtain ⟨y,hy,hi'⟩:=List.mem_flatMap.1 hi'
   obtain ⟨q,hq⟩:=List.getElem?_of_mem hy
   have hlt:q < tl.length:=by rw [hc.len];exact (List.getElem?_eq_some_iff.1 hq).1
   have hat:=hc.at_ q _ y (List.getElem?_eq_getElem hlt) hq
   cases ho:ovAt q o with
   |none=>
    rw [ho] at hat
    have hh:idsOf 29 st.H y=[]:=ids_flat hat.2 28 _
    rw [hh] at hi';cases hi'
   |some w=>
    rw [ho] at hat
    cases w <;> first | (exact absurd hat (by intro hh;exact hh)) | skip
    ·rcases hat with e | e <;> (rw [e] at hi';cases hi')
    ·rename_i O
     have hO:A O=some y:=hat
     obtain ⟨z,es,hO'⟩:=hthere q O (ovAt_mem ho)
     obtain ⟨y',hy',hs'⟩:=hR.heap O _ hO'
     rw [hO] at hy';cases hy'
     have hmem:∀{l:List (Nat×VV)} {i:Nat},(i,VV.sl O)∈l→O∈ovToks l:=by
      intro l
      induction l with
      |nil=>intro i h;cases h
      |cons p l ih=>
       intro i h
       obtain ⟨i',w'⟩:=p
       rcases List.mem_cons.1 h with h1 | h1
       ·cases h1;simp [ovToks]
       ·cases w' <;> first | exact ih h1 | exact List.mem_cons_of_mem _ (ih h1)
     exact ⟨O,List.mem_append_left _ (hmem (ovAt_mem ho)),_,_,hO',hO,ids_sl hs' 27 id hi'⟩
  |_=>cases hk
theorem trees_plain (hR:R A V st) (ha:act g):∀{xs:List Opd} {k:Bool→List TV→Prop},treesB V xs=true→argsK V g xs k→allB AV.plain (xs.map (ev st.env))=true
 |[],k,h,hk=>rfl
 |x :: xs,k,h,hk=>by
  simp only [treesB,Bool.and_eq_true] at h
  obtain ⟨hw,hk⟩:=rdK_both hR ha hk
  rw [List.map_cons,allB_true]
  have h1:=h.1
  generalize vvOf V x=w at hw hk h1
  generalize ev st.env x=a at hw
  have fin:∀{kk:Bool→List TV→Prop},a.plain=true→argsK V g xs kk→∀y∈a :: xs.map (ev st.env),AV.plain y=true:=by
   intro kk hp hk y hy
   rcases List.mem_cons.1 hy with rfl | hy
   ·exact hp
   ·exact allB_true.1 (trees_plain hR ha h.2 hk) y hy
  cases hw <;> first | (cases h1;done) | skip
  ·rename_i v hc;exact fin (can_plain hc) hk
  ·exact fin rfl hk
  ·exact fin rfl hk
  ·rename_i v ovs cs ts hv hc
   obtain ⟨t,hk⟩:=toTs_ex hk
   exact fin (cells_plain hc h1) hk
theorem evO_eff (hR:R A V st) {o:AOper} (h:evO sh prog nt V o k) {f:Foot} (hf:foot V o=some f) {st':St} (hrun:runOp (runFn prog) nt o st=some st') (n0:Nat) :
  ∃r,effStep (runFn prog) nt n0 o st=some (st',r)∧FootOk A V f r∧r.nx0=st.nx∧r.nx1=st'.nx:=by
 obtain ⟨dd,op,gd,fz⟩:=o
 unfold runOp at hrun
 simp only [cond_eq_ite] at hrun
 by_cases hw:wanted st.env gd=true
 rotate_left
 ·rw [if_neg hw] at hrun
  split at hrun
  ·rename_i e he
   cases hrun
   exact ⟨⟨[],.ids [],st.H,st.H,st.nx,st.nx⟩,by simp only [effStep,cond_eq_ite,if_neg hw,he],⟨fun x hx=>(by cases hx),⟨[],rfl,fun id hid=>(by cases hid)⟩⟩,rfl,rfl⟩
  ·cases hrun
 rw [if_pos hw] at hrun
 split at hrun
 ·cases hrun
 rename_i v H' nx' hdo
 split at hrun
 rotate_left
 ·cases hrun
 rename_i e he
 cases hrun
 have fin:∀{rds:List Rd} {tch:List Nat},effFz (runFn prog) n0 ⟨dd,op,gd,fz⟩ (ev st.env) st.H st.nx=some (v,H',nx',rds,.ids tch)→Look A V f rds tch→
   ∃r,effStep (runFn prog) nt n0 ⟨dd,op,gd,fz⟩ st=some (⟨e,H',nx'⟩,r)∧FootOk A V f r∧r.nx0=st.nx∧r.nx1=nx':=by
  intro rds tch h1 h2
  exact ⟨⟨rds,.ids tch,st.H,H',st.nx,nx'⟩,by simp only [effStep,cond_eq_ite,if_pos hw,h1,he],⟨h2.1,tch,rfl,h2.2⟩,rfl,rfl⟩
 cases fz with
 |true=>
  have hgd:gd=none:=by
   cases gd with
   |none=>rfl
   |some p=>cases h
  subst hgd
  simp only [evO] at h
  split at h
  ·rename_i len zero parts
   simp only [foot] at hf
   cases hf
   unfold evIsl at h
   simp only at h
   split at h
   ·split at h <;> first | (cases h;done) | skip
    split at h <;> first | (cases h;done) | skip
   ·rename_i n
    have hk:=(same_ok (pos_ok h).2).2
    have hlook:=elems_look parts 0 V _ hR hk
    simp only [doFz,cond_true] at hdo
    split at hdo
    ·cases hdo
    rename_i l hl
    split at hdo
    ·rename_i v' hv'
     cases hdo
     refine fin (rds:=((parts.map fun p=>ev st.env p.2.2).flatMap (idsOf deep st.H)).map Rd.obj) (tch:=(parts.map fun p=>ev st.env p.2.2).flatMap (idsOf deep st.H)) ?_ ⟨fun x hx=>?_,hlook⟩
     ·simp only [effFz,cond_true,hl,hv']
     ·obtain ⟨id,hid,rfl⟩:=List.mem_map.1 hx
      exact ⟨id,rfl,hlook id hid⟩
    ·cases hdo
  ·cases h
 |false=>
  have hev:∃g:G,act g∧evU sh prog nt V dd g op k:=by
   cases gd with
   |none=>exact ⟨none,trivial,h⟩
   |some p=>
    obtain ⟨n,bb⟩:=p
    obtain ⟨c,a,ha,hca,h⟩:=rdT_t hR h
    refine ⟨some (c,bb),?_,h⟩
    simp only [wanted,ha] at hw
    split at hw
    ·rename_i b' hb
     cases hb
     cases hca
     show TV.b b'=TV.b bb
     congr 1
     cases b' <;> cases bb <;> first | rfl | cases hw
    ·cases hw
  obtain ⟨g,hact,h⟩:=hev
  have hdo':doOp (runFn prog) op (ev st.env) st.H st.nx=some (v,H',nx'):=hdo
  have plan:∀{p:(Opd→AV)→Option Plan},kind op=.plan p→(∀q,p (ev st.env)=some q→Look A V f q.rds q.tch)→∃r,effStep (runFn prog) nt n0 ⟨dd,op,gd,false⟩ st=some (⟨e,H',nx'⟩,r)∧FootOk A V f r∧r.nx0=st.nx∧r.nx1=nx':=by
   intro p hk hl
   simp only [doOp,hk] at hdo'
   split at hdo'
   ·rename_i q hq
    refine fin (rds:=q.rds) (tch:=q.tch) ?_ (hl q hq)
    simp only [effFz,cond_false,effOp,hk,hq,hdo']
   ·cases hdo'
  have plain:∀{p:(Opd→AV)→Option Plan},kind op=.plan p→still0 (p (ev st.env))→∃r,effStep (runFn prog) nt n0 ⟨dd,op,gd,false⟩ st=some (⟨e,H',nx'⟩,r)∧FootOk A V f r∧r.nx0=st.nx∧r.nx1=nx':=
   fun hk hs=>plan hk (fun q hq=>look_val (hs q hq))
  have call:∀{n:Nat} {args:List Opd},(kind op=.call n args .borrow∨∃fv,kind op=.callv fv args .borrow∧ev st.env fv=.func n)→allB AV.plain (args.map (ev st.env))=true→
    ∃r,effStep (runFn prog) nt n0 ⟨dd,op,gd,false⟩ st=some (⟨e,H',nx'⟩,r)∧FootOk A V f r∧r.nx0=st.nx∧r.nx1=nx':=by
   intro n args hk hp
   have hd:doCall (runFn prog) n (args.map (ev st.env)) .borrow st.H st.nx=some (v,H',nx'):=by
    rcases hk with hk | ⟨fv,hk,hf⟩
    ·simpa only [doOp,hk] using hdo'
    ·simpa only [doOp,hk,hf] using hdo'
   have hH:H'=st.H∧nx'=st.nx:=by
    have hd':=hd
    simp only [doCall,hp,cond_true] at hd'
    split at hd'
    ·cases hd';exact ⟨rfl,rfl⟩
    ·cases hd'
   obtain ⟨rfl,rfl⟩:=hH
   refine fin (rds:=[]) (tch:=[]) ?_ look_nil
   rcases hk with hk | ⟨fv,hk,hf⟩
   ·simp only [effFz,cond_false,effOp,hk,effCall,hp,cond_true,hd]
   ·simp only [effFz,cond_false,effOp,hk,hf,effCall,hp,cond_true,hd]
  cases op with
  |mv x=>exact plain rfl (still0_val _)
  |pick c a b=>
   refine plain (p:=fun ρ=>pPick ρ c a b) rfl ?_
   unfold pPick
   split
   ·split <;> exact still0_val _
   ·exact still0_none
  |alloc zero=>exact plain rfl (still0_new _ _)
  |box x=>
   refine plain (p:=fun ρ=>pBox ρ x) rfl ?_
   unfold pBox
   split
   ·exact still0_new _ _
   ·exact still0_none
  |build zero parts=>
   refine plain (p:=fun ρ=>pBuild ρ zero parts) rfl ?_
   unfold pBuild
   split
   ·exact still0_val _
   ·exact still0_none
  |bslice es len zero parts=>
   refine plain (p:=fun ρ=>pBslice ρ es len zero parts) rfl ?_
   unfold pBslice
   split
   ·exact still0_new _ _
   ·exact still0_none
  |islice len zero parts=>
   refine plain (p:=fun ρ=>pIslice ρ len zero parts) rfl ?_
   unfold pIslice
   split
   ·rw [cond_eq_ite]
    split
    ·exact still0_val _
    ·exact still0_none
   ·exact still0_none
  |load sz a=>
   simp only [foot] at hf
   cases hf
   exact plan (p:=fun ρ=>pLoad ρ sz a) rfl (fun q hq=>load_look hR hact h hq)
  |store sz a x=>
   simp only [foot] at hf
   cases hf
   cases g with
   |none=>
    cases dd with
    |none=>exact plan (p:=fun ρ=>pStore ρ sz a x) rfl (fun q hq=>store_look hR h hq)
    |some _=>cases h
   |some _=>cases h
  |nilck x=>
   refine plain (p:=fun ρ=>pNilck ρ x) rfl ?_
   unfold pNilck
   split <;> first | exact still0_val _ | exact still0_none
  |bin op x y=>exact plain (p:=fun ρ=>pureO (binA op (ρ x) (ρ y))) rfl (still0_pure _)
  |eq t neg x y=>
   refine plain (p:=fun ρ=>pEq ρ t neg x y) rfl ?_
   unfold pEq
   split
   ·exact still0_val _
   ·exact still0_none
  |un op x=>exact plain (p:=fun ρ=>pureO (unA op (ρ x))) rfl (still0_pure _)
  |conv c x=>
   refine plain (p:=fun ρ=>pConv ρ c x) rfl ?_
   unfold pConv
   split
   ·exact still0_val _
   ·exact still0_none
  |mksl es bytes zero n=>
   refine plain (p:=fun ρ=>pMksl ρ es bytes zero n) rfl ?_
   unfold pMksl
   split
   ·split
    ·rw [cond_eq_ite]
     split
     ·exact still0_new _ _
     ·exact still0_none
    ·exact still0_none
   ·exact still0_none
  |slstr x lo hi=>
   refine plain (p:=fun ρ=>pSlstr ρ x lo hi) rfl ?_
   unfold pSlstr
   split
   ·split
    ·exact still0_none
    ·exact still0_val _
   ·exact still0_none
  |slsl es x lo hi mx=>exact plain (p:=fun ρ=>pureO (slA es ρ (ρ x) lo hi mx)) rfl (still0_pure _)
  |slarr n es x lo hi mx=>cases hf
  |faddr off x=>
   refine plain (p:=fun ρ=>pFaddr ρ off x) rfl ?_
   unfold pFaddr
   split <;> first | exact still0_val _ | exact still0_none
  |fld off sz x=>
   refine plain (p:=fun ρ=>pFld ρ off sz x) rfl ?_
   unfold pFld
   split
   ·split
    ·exact still0_pure _
    ·exact still0_none
   ·exact still0_none
  |iaddr es x i=>
   refine plain (p:=fun ρ=>pIaddr ρ es x i) rfl ?_
   unfold pIaddr
   split
   ·split
    ·split
     ·split
      ·exact still0_none
      ·exact still0_val _
     ·exact still0_none
    ·rw [cond_eq_ite]
     split
     ·split
      ·exact still0_val _
      ·exact still0_none
     ·exact still0_none
    ·exact still0_none
   ·exact still0_none
  |iarr len es x i=>
   refine plain (p:=fun ρ=>pIarr ρ len es x i) rfl ?_
   unfold pIarr
   split
   ·split
    ·split <;> first | exact still0_val _ | exact still0_none
    ·exact still0_none
   ·exact still0_none
  |idx x i=>
   refine plain (p:=fun ρ=>pIdx ρ x i) rfl ?_
   unfold pIdx
   split
   ·split
    ·split
     ·exact still0_val _
     ·exact still0_none
    ·exact still0_none
   ·exact still0_none
  |ext i x=>
   refine plain (p:=fun ρ=>pExt ρ i x) rfl ?_
   unfold pExt
   split
   ·exact still0_pure _
   ·exact still0_none
  |app es bytes s x=>
   simp only [foot] at hf
   cases hf
   exact plan (p:=fun ρ=>appA es bytes (ρ s) (ρ x)) rfl (fun q hq=>app_look hR hact h hq)
  |cpy es dd s=>cases hf
  |clr es zero x=>cases hf
  |len str x=>
   refine plain (p:=fun ρ=>pLen ρ str x) rfl ?_
   unfold pLen
   split
   ·split
    ·exact still0_val _
    ·exact still0_none
   ·split <;> first | exact still0_val _ | exact still0_none
  |mnx mx xs=>
   refine plain (p:=fun ρ=>pMnx ρ mx xs) rfl ?_
   unfold pMnx
   split
   ·exact still0_pure _
   ·exact still0_none
  |mkmap=>cases h
  |mlook t zero ok m k=>cases hf
  |mset t m k v=>cases hf
  |mlen m=>cases hf
  |call n args m=>
   cases m with
   |share=>cases hf
   |borrow=>
    simp only [foot] at hf
    split at hf
    ·rename_i ht
     simp only [evU] at h
     exact call (.inl rfl) (trees_plain hR hact ht h)
    ·cases hf
  |callv fv args m=>
   cases m with
   |share=>cases hf
   |borrow=>
    simp only [foot] at hf
    split at hf
    ·rename_i ht
     simp only [evU] at h
     obtain ⟨fvv,hfv,h⟩:=rdT_sim hR hact h
     cases g with
     |none=>
      obtain ⟨n,rfl,h⟩:=h
      generalize he':ev st.env fv=p at hfv
      cases hfv
      exact call (.inr ⟨fv,rfl,he'⟩) (trees_plain (g:=none) hR trivial ht h)
     |some q=>
      obtain ⟨c,bb⟩:=q
      obtain ⟨n,hn,h⟩:=h
      obtain rfl:=hn hact
      generalize he':ev st.env fv=p at hfv
      cases hfv
      exact call (.inr ⟨fv,rfl,he'⟩) (trees_plain hR hact ht h)
    ·cases hf
end
end Go.Ax.V

set_option linter.unusedSimpArgs false
set_option linter.unusedVariables false
namespace Go.Ax.V
section
variable {sh:Sh} {prog:Map AFunc} {cf:FnF} {nt:Nat}
theorem memB_iff {n:Nat}:∀{l:List Nat},memB n l=true↔n∈l
 |[]=>by simp [memB]
 |m :: l=>by simp [memB,memB_iff (l:=l)]
theorem subB_mem {m:List Nat}:∀{l:List Nat},subB l m=true→∀n∈l,n∈m
 |[],h,n,hn=>by cases hn
 |x :: l,h,n,hn=>by
  simp only [subB,Bool.and_eq_true] at h
  rcases List.mem_cons.1 hn with rfl | hn
  ·exact memB_iff.1 h.1
  ·exact subB_mem h.2 n hn
theorem disjB_mem {m:List Nat}:∀{l:List Nat},disjB l m=true→∀n∈l,n ∉ m
 |[],h,n,hn=>by cases hn
 |x :: l,h,n,hn=>by
  simp only [disjB,Bool.and_eq_true,Bool.not_eq_true'] at h
  rcases List.mem_cons.1 hn with rfl | hn
  ·intro hm;rw [memB_iff.2 hm] at h;exact absurd h.1 (by decide)
  ·exact disjB_mem h.2 n hn
theorem rootsOf_mem {info:List (Nat×Nat×List Nat)} {T:Nat}:∀{l:List Nat},T∈l→(infoOf T info).1∈rootsOf info l
 |[],h=>by cases h
 |x :: l,h=>by
  rcases List.mem_cons.1 h with rfl | h
  ·exact List.mem_cons_self
  ·exact List.mem_cons_of_mem _ (rootsOf_mem h)
theorem chainsOk_mem {info:List (Nat×Nat×List Nat)} {ah:List Nat}:∀{l:List Nat},chainsOk info ah l=true→∀T∈l,∀c∈(infoOf T info).2,c∈ah
 |[],h,T,hT=>by cases hT
 |x :: l,h,T,hT=>by
  simp only [chainsOk,Bool.and_eq_true] at h
  rcases List.mem_cons.1 hT with rfl | hT
  ·exact subB_mem h.1
  ·exact chainsOk_mem h.2 T hT
theorem infoOf_cons (T T':Nat) (x:Nat×List Nat) (l:List (Nat×Nat×List Nat)):infoOf T ((T',x) :: l)=if T'=T then x else infoOf T l:=by
 simp only [infoOf,cond_eq_ite,Nat.beq_eq]
theorem allK_node {α:Type} (v:Option α) (l r:Map α) (p:Nat→Bool):allK (.node v l r) p=((match v with | none=>true | some _=>p 0)&&(allK l (fun k=>p (Nat.succ (Nat.mul 2 k)))&&allK r (fun k=>p (Nat.succ (Nat.succ (Nat.mul 2 k)))))):=rfl
theorem allK_get {α:Type}:∀(m:Map α) (p:Nat→Bool),allK m p=true→∀i x,m.get i=some x→p i=true
 |.leaf,p,h,i,x,hx=>by cases hx
 |.node v l r,p,h,i,x,hx=>by
  rw [allK_node,Bool.and_eq_true,Bool.and_eq_true] at h
  obtain ⟨h1,h2,h3⟩:=h
  rw [Map.get_node] at hx
  by_cases h0:i=0
  ·subst h0
   simp at hx
   subst hx
   exact h1
  ·rw [if_neg h0] at hx
   split at hx
   ·have:=allK_get l _ h2 _ x hx
    rwa [show Nat.succ (Nat.mul 2 (i / 2))=i by show 2*(i / 2) + 1=i;omega] at this
   ·have:=allK_get r _ h3 _ x hx
    rwa [show Nat.succ (Nat.succ (Nat.mul 2 (i / 2 - 1)))=i by show 2*(i / 2 - 1) + 2=i;omega] at this
theorem hasO_iff {V:VSt} {T:Nat}:hasO V T=true↔∃o,V.H.get T=some o:=by
 unfold hasO
 split
 ·rename_i o ho;exact ⟨fun _=>⟨o,ho⟩,fun _=>rfl⟩
 ·rename_i ho;exact ⟨fun h=>(by cases h),fun ⟨o,h⟩=>(by rw [ho] at h;cases h)⟩
structure DInv (hp:Prop) (n0:Nat) (rs:List Rec) (A:Tok) (V:VSt) (st:St) (info:List (Nat×Nat×List Nat)) (ρ:Nat→Option Nat):Prop where
 known:∀T o a id,V.H.get T=some o→A T=some a→idOf a=some id→id < n0∨∃c∈(infoOf T info).2,∃r,rs[c]?=some r∧r.nx0≤id∧id < r.nx1
 root:hp→∀T o a id,V.H.get T=some o→A T=some a→idOf a=some id→ρ id=some (infoOf T info).1
 dom:∀id q,ρ id=some q→id < st.nx
def RecH (ρ:Nat→Option Nat) (r:Rec) (f:List Nat×List Nat):Prop:=
 (∀x∈r.rds,∃id,(match x with | .rng q=>q.id=id | .obj i=>i=id | .all=>False)∧∃q,ρ id=some q∧q∈f.1)∧∃l,r.tch=.ids l∧∀id∈l,∃q,ρ id=some q∧q∈f.2
structure Hist (hp:Prop) (n0:Nat) (ahead:List (List Nat)) (rs:List Rec) (feet:List (List Nat×List Nat)) (ρ:Nat→Option Nat):Prop where
 len:feet.length=rs.length
 rec_:hp→∀(c:Nat) r f,rs[c]?=some r→feet[c]?=some f→RecH ρ r f
 known:∀(c:Nat) r ah,rs[c]?=some r→ahead[c]?=some ah→∀rs',(∀(i:Nat) a,rs[i]?=some a→rs'[i]?=some a)→r.rds.all (rdOk n0 rs' ah)=true∧tchOk n0 rs' ah r.tch=true
theorem RecH.mono {ρ ρ':Nat→Option Nat} (h:∀id q,ρ id=some q→ρ' id=some q) {r:Rec} {f:List Nat×List Nat} (hr:RecH ρ r f):RecH ρ' r f:=
 ⟨fun x hx=>let ⟨id,h1,q,h2,h3⟩:=hr.1 x hx;⟨id,h1,q,h _ _ h2,h3⟩,let ⟨l,h1,h2⟩:=hr.2;⟨l,h1,fun id hid=>let ⟨q,h3,h4⟩:=h2 id hid;⟨q,h _ _ h3,h4⟩⟩⟩
def rtOf (d:Option Nat) (info:List (Nat×Nat×List Nat)):Nat:=match d with
 |some T=>(infoOf T info).1
 |none=>0
theorem step_inv {n0 i:Nat} {rs:List Rec} {A A1:Tok} {V V1:VSt} {st st1:St} {info info':List (Nat×Nat×List Nat)} {ρ:Nat→Option Nat} {f:Foot} {d:Option Nat} {r:Rec} {feet:List (List Nat×List Nat)} {ahead:List (List Nat)} {ah:List Nat}
  (hR:R A V st) (hR1:R A1 V1 st1) (hF:Fr V A st.H st.nx V1 A1 st1.H st1.nx) (hx:∀O x,A O=some x→A1 O=some x) {hp:Prop} (hinv:DInv hp n0 rs A V st info ρ) (hh:Hist hp n0 ahead rs feet ρ) (hi:rs.length=i)
  (hfo:FootOk A V f r) (h0:r.nx0=st.nx) (h1:r.nx1=st1.nx) (hah:ahead[i]?=some ah) (hch:chainsOk info ah (f.rd++f.wr)=true) (hs:stepI d i V V1 f info=some info') :
  ∃ρ',DInv hp n0 (rs++[r]) A1 V1 st1 info' ρ'∧Hist hp n0 ahead (rs++[r]) (feet++[(rootsOf info f.rd,rootsOf info f.wr)]) ρ':=by
 have hlast:(rs++[r])[i]?=some r:=by rw [List.getElem?_append_right (by omega),hi,Nat.sub_self];rfl
 have hold:∀(c:Nat) a,rs[c]?=some a→(rs++[r])[c]?=some a:=fun c a hc=>by
  rw [List.getElem?_append_left (List.getElem?_eq_some_iff.1 hc).1];exact hc
 have hkeys:∀T o,V1.H.get T=some o→(∃o',V.H.get T=some o')∨d=some T:=by
  unfold stepI at hs
  split at hs
  ·cases hs
  ·rename_i hc
   intro T o hT
   have:=allK_get _ _ hc T o hT
   rw [Bool.or_eq_true] at this
   rcases this with h | h
   ·exact .inl (hasO_iff.1 h)
   ·right
    cases d with
    |none=>cases h
    |some d=>simp [isD] at h;rw [h]
 have hnew:∀T,d=some T→V.H.get T=none→∀o,V1.H.get T=some o→∃rt ch,info'=(T,rt,ch) :: info∧i∈ch∧∀O o',V.H.get O=some o'→V1.H.get O=none→(infoOf O info).1=rt∧∀c∈(infoOf O info).2,c∈ch:=by
  intro T hd hT o ho
  subst hd
  unfold stepI at hs
  split at hs
  ·cases hs
  simp only at hs
  have hb:(hasO V1 T&&!hasO V T)=true:=by
   have e1:hasO V1 T=true:=hasO_iff.2 ⟨o,ho⟩
   have e2:hasO V T=false:=by
    cases hh:hasO V T with
    |false=>rfl
    |true=>obtain ⟨o',h'⟩:=hasO_iff.1 hh;rw [hT] at h';cases h'
   rw [e1,e2];rfl
  rw [hb] at hs
  simp only at hs
  split at hs
  ·cases hs
  rename_i hc
  have gone:∀O o',V.H.get O=some o'→V1.H.get O=none→O∈f.src:=fun O o' h2 h3=>by
   have:=allK_get _ _ hc O o' h2
   rw [Bool.or_eq_true] at this
   rcases this with h | h
   ·exact memB_iff.1 h
   ·obtain ⟨o2,h4⟩:=hasO_iff.1 h;rw [h3] at h4;cases h4
  split at hs
  ·rename_i hsrc
   cases hs
   exact ⟨_,_,rfl,by simp,fun O o' h2 h3=>by have:=gone O o' h2 h3;rw [hsrc] at this;cases this⟩
  ·rename_i O1 hsrc
   cases hs
   refine ⟨_,_,rfl,List.mem_cons_self,fun O o' h2 h3=>?_⟩
   have:=gone O o' h2 h3
   rw [hsrc] at this
   simp at this
   subst this
   exact ⟨rfl,fun c hc=>List.mem_cons_of_mem _ hc⟩
  ·cases hs
 have hsame:∀T o,V.H.get T=some o→infoOf T info'=infoOf T info:=by
  intro T o hT
  unfold stepI at hs
  split at hs
  ·cases hs
  cases d with
  |none=>cases hs;rfl
  |some d=>
  simp only at hs
  split at hs
  ·cases hs;rfl
  rename_i hb
  simp only [Bool.and_eq_true,Bool.not_eq_true'] at hb
  have hne:d≠T:=by
   rintro rfl
   rw [hasO_iff.2 ⟨o,hT⟩] at hb
   exact absurd hb.2 (by decide)
  split at hs
  ·cases hs
  split at hs
  ·cases hs;rw [infoOf_cons,if_neg hne]
  ·cases hs;rw [infoOf_cons,if_neg hne]
  ·cases hs
 have hid:∀T,d=some T→V.H.get T=none→∀o a id,V1.H.get T=some o→A1 T=some a→idOf a=some id→(st.nx≤id∧id < st1.nx)∨∃O o' a',V.H.get O=some o'∧V1.H.get O=none∧A O=some a'∧idOf a'=some id:=by
  intro T hd hT o a id ho ha hida
  have hown1:Own V1 A1 id:=⟨T,o,a,ho,ha,hida⟩
  rcases hF.own id hown1 with ⟨O,o',a',g1,g2,g3⟩ | hle
  ·right
   refine ⟨O,o',a',g1,?_,g2,g3⟩
   cases hO:V1.H.get O with
   |none=>rfl
   |some o2=>
    have:=hR1.inj O T o2 o a' a id hO ho (hx _ _ g2) ha g3 hida
    subst this
    rw [hT] at g1;cases g1
  ·exact .inl ⟨hle,hR1.own_lt hown1⟩
 let rtD:Nat:=rtOf d info'
 let ρ':Nat→Option Nat:=fun id=>if id < st.nx then ρ id else if id < st1.nx then some rtD else none
 have hρ:∀id q,ρ id=some q→ρ' id=some q:=fun id q h=>by
  show (if id < st.nx then ρ id else _)=_
  rw [if_pos (hinv.dom id q h)];exact h
 have halive:∀T o,V.H.get T=some o→∃a,A T=some a:=fun T o h=>let ⟨a,h1,_⟩:=hR.heap T o h;⟨a,h1⟩
 refine ⟨ρ',⟨fun T o a id ho ha hida=>?_,fun hP T o a id ho ha hida=>?_,fun id q h=>?_⟩,⟨by simp [hh.len],fun hP c r' f' hr hf=>?_,fun c r' ah' hr ha' rs' hrs'=>?_⟩⟩
 ·cases hT:V.H.get T with
  |some o'=>
   obtain ⟨a',ha'⟩:=halive T o' hT
   have:=hx _ _ ha'
   rw [ha] at this;cases this
   rw [hsame T o' hT]
   exact (hinv.known T o' a id hT ha' hida).imp (fun h=>h) (fun ⟨c,h2,r2,h3,h4⟩=>⟨c,h2,r2,hold c r2 h3,h4⟩)
  |none=>
   have hd:d=some T:=(hkeys T o ho).elim (fun ⟨o',h⟩=>by rw [hT] at h;cases h) (fun h=>h)
   obtain ⟨rt,ch,hinfo,hich,hO⟩:=hnew T hd hT o ho
   rw [hinfo,infoOf_cons,if_pos rfl]
   rcases hid T hd hT o a id ho ha hida with ⟨h2,h3⟩ | ⟨O,o',a',g1,g2,g3,g4⟩
   ·exact .inr ⟨i,hich,r,hlast,by rw [h0];exact h2,by rw [h1];exact h3⟩
   ·obtain ⟨_,hc⟩:=hO O o' g1 g2
    exact (hinv.known O o' a' id g1 g3 g4).imp (fun h=>h) (fun ⟨c,h2,r2,h3,h4⟩=>⟨c,hc c h2,r2,hold c r2 h3,h4⟩)
 ·cases hT:V.H.get T with
  |some o'=>
   obtain ⟨a',ha'⟩:=halive T o' hT
   have:=hx _ _ ha'
   rw [ha] at this;cases this
   rw [hsame T o' hT]
   exact hρ _ _ (hinv.root hP T o' a id hT ha' hida)
  |none=>
   have hd:d=some T:=(hkeys T o ho).elim (fun ⟨o',h⟩=>by rw [hT] at h;cases h) (fun h=>h)
   obtain ⟨rt,ch,hinfo,hich,hO⟩:=hnew T hd hT o ho
   rcases hid T hd hT o a id ho ha hida with ⟨h2,h3⟩ | ⟨O,o',a',g1,g2,g3,g4⟩
   ·show (if id < st.nx then ρ id else if id < st1.nx then some rtD else none)=_
    rw [if_neg (by omega),if_pos h3]
    show some (rtOf d info')=_
    rw [hd]
    rfl
   ·obtain ⟨hroot,_⟩:=hO O o' g1 g2
    rw [hinfo,infoOf_cons,if_pos rfl,←hroot]
    exact hρ _ _ (hinv.root hP O o' a' id g1 g3 g4)
 ·have h':(if id < st.nx then ρ id else if id < st1.nx then some rtD else none)=some q:=h
  split at h'
  ·have:=hF.le;omega
  ·split at h'
   ·assumption
   ·cases h'
 ·by_cases hc:c < rs.length
  ·rw [List.getElem?_append_left hc] at hr
   rw [List.getElem?_append_left (by rw [hh.len];exact hc)] at hf
   exact (hh.rec_ hP c r' f' hr hf).mono hρ
  ·have hce:c=rs.length:=by have:=(List.getElem?_eq_some_iff.1 hr).1;simp at this;omega
   subst hce
   rw [List.getElem?_append_right (Nat.le_refl _),Nat.sub_self] at hr
   rw [List.getElem?_append_right (by rw [hh.len];exact Nat.le_refl _),hh.len,Nat.sub_self] at hf
   cases hr;cases hf
   refine ⟨fun x hx'=>?_,?_⟩
   ·obtain ⟨id,g1,T,g2,o,a,g3,g4,g5⟩:=hfo.rd x hx'
    exact ⟨id,g1,_,hρ _ _ (hinv.root hP T o a id g3 g4 g5),rootsOf_mem g2⟩
   ·obtain ⟨l,g1,g2⟩:=hfo.wr
    refine ⟨l,g1,fun id hid'=>?_⟩
    obtain ⟨T,g3,o,a,g4,g5,g6⟩:=g2 id hid'
    exact ⟨_,hρ _ _ (hinv.root hP T o a id g4 g5 g6),rootsOf_mem g3⟩
 ·by_cases hc:c < rs.length
  ·rw [List.getElem?_append_left hc] at hr
   exact hh.known c r' ah' hr ha' rs' (fun j a hj=>hrs' j a (hold j a hj))
  ·have hce:c=rs.length:=by have:=(List.getElem?_eq_some_iff.1 hr).1;simp at this;omega
   subst hce
   rw [List.getElem?_append_right (Nat.le_refl _),Nat.sub_self] at hr
   cases hr
   rw [hi,hah] at ha';cases ha'
   have okId:∀T o a id,T∈f.rd++f.wr→V.H.get T=some o→A T=some a→idOf a=some id→idOk n0 rs' ah id=true:=by
    intro T o a id hT g1 g2 g3
    unfold idOk
    rw [Bool.or_eq_true]
    rcases hinv.known T o a id g1 g2 g3 with h | ⟨c,h2,r2,h3,h4,h5⟩
    ·exact .inl (by simpa using h)
    ·right
     rw [List.any_eq_true]
     refine ⟨c,chainsOk_mem hch T hT c h2,?_⟩
     rw [hrs' c r2 (hold c r2 h3)]
     simp only [Bool.and_eq_true]
     exact ⟨by simpa using h4,by simpa using h5⟩
   refine ⟨List.all_eq_true.2 (fun x hx'=>?_),?_⟩
   ·obtain ⟨id,g1,T,g2,o,a,g3,g4,g5⟩:=hfo.rd x hx'
    have:=okId T o a id (List.mem_append_left _ g2) g3 g4 g5
    cases x with
    |rng q=>cases g1;exact this
    |obj j=>cases g1;exact this
    |all=>cases g1
   ·obtain ⟨l,g1,g2⟩:=hfo.wr
    rw [g1]
    refine List.all_eq_true.2 (fun id hid'=>?_)
    obtain ⟨T,g3,o,a,g4,g5,g6⟩:=g2 id hid'
    exact okId T o a id (List.mem_append_right _ g3) g4 g5 g6
theorem knownAll_of {n0:Nat} {rs:List Rec}:∀(ahead:List (List Nat)) (l:List Rec),ahead.length=l.length→(∀(c:Nat) r ah,l[c]?=some r→ahead[c]?=some ah→r.rds.all (rdOk n0 rs ah)=true∧tchOk n0 rs ah r.tch=true)→knownAll n0 rs ahead l=true
 |[],[],h,hk=>rfl
 |[],_ :: _,h,hk=>by cases h
 |_ :: _,[],h,hk=>by cases h
 |a :: as,r :: l,h,hk=>by
  obtain ⟨h1,h2⟩:=hk 0 r a rfl rfl
  simp only [knownAll,h1,h2,Bool.true_and]
  exact knownAll_of as l (Nat.succ.inj h) (fun c r' ah hr ha=>hk (c + 1) r' ah (by simpa using hr) (by simpa using ha))
theorem still_of {ρ:Nat→Option Nat} {a b:Rec} {fa fb:List Nat×List Nat} (ha:RecH ρ a fa) (hb:RecH ρ b fb) (hd:∀q∈fa.2,q ∉ fb.1):still a b=true:=by
 unfold still
 rw [allB_true]
 intro x hx
 obtain ⟨id,h1,q,h2,h3⟩:=hb.1 x hx
 obtain ⟨l,h4,h5⟩:=ha.2
 have hno:id ∉ l:=fun hm=>by
  obtain ⟨q',h6,h7⟩:=h5 id hm
  rw [h2] at h6;cases h6
  exact hd q h7 h3
 have hc:l.contains id=false:=by
  cases hh:l.contains id with
  |false=>rfl
  |true=>exact absurd (by simpa using hh) hno
 cases x with
 |rng r=>cases h1;simp only [still1,h4,hc,cond_false]
 |obj j=>cases h1;simp only [still1,h4,hc,Bool.not_false]
 |all=>cases h1
theorem apart_of {ρ:Nat→Option Nat} {a b:Rec} {fa fb:List Nat×List Nat} (ha:RecH ρ a fa) (hb:RecH ρ b fb) (hd:∀q∈fa.2,q ∉ fb.2):apart a b=true:=by
 obtain ⟨l,h1,h2⟩:=ha.2
 obtain ⟨l',h3,h4⟩:=hb.2
 unfold apart
 rw [h1,h3]
 simp only
 rw [List.all_eq_true]
 intro id hid
 obtain ⟨q,h5,h6⟩:=h2 id hid
 cases hh:l'.contains id with
 |false=>rfl
 |true=>
  obtain ⟨q',h7,h8⟩:=h4 id (by simpa using hh)
  rw [h5] at h7;cases h7
  exact absurd h8 (hd q h6)
theorem pairs_of {n0:Nat} {ahead:List (List Nat)} {rs:List Rec} {feet:List (List Nat×List Nat)} {ρ:Nat→Option Nat} {hp:Prop} (hh:Hist hp n0 ahead rs feet ρ):∀{pairs:List (Nat×Nat)},(pairs≠[]→hp)→pairsB feet pairs=true→allB (pairOk rs) pairs=true
 |[],_,h=>rfl
 |(i,j) :: l,hpp,h=>by
  have hP:=hpp (by simp)
  simp only [pairsB,Bool.and_eq_true] at h
  rw [allB_true]
  intro p hp
  rcases List.mem_cons.1 hp with rfl | hp
  ·have h1:=h.1
   split at h1
   rotate_left
   ·cases h1
   rename_i fa hfa
   split at h1
   rotate_left
   ·cases h1
   rename_i fb hfb
   rw [Bool.and_eq_true,Bool.and_eq_true] at h1
   obtain ⟨d1,d2,d3⟩:=h1
   have li:=(List.getElem?_eq_some_iff.1 hfa).1
   have lj:=(List.getElem?_eq_some_iff.1 hfb).1
   rw [hh.len] at li lj
   have ra:=List.getElem?_eq_getElem li
   have rb:=List.getElem?_eq_getElem lj
   have ha:=hh.rec_ hP i _ fa ra hfa
   have hb:=hh.rec_ hP j _ fb rb hfb
   unfold pairOk
   simp only [ra,rb,Bool.and_eq_true]
   exact ⟨⟨still_of ha hb (disjB_mem d1),still_of hb ha (disjB_mem d2)⟩,apart_of ha hb (disjB_mem d3)⟩
  ·exact allB_true.1 (pairs_of hh (fun _=>hP) h.2) p hp
def namesI (info:List (Nat×Nat×List Nat)):List Nat:=info.map (·.1)
theorem dropI_get:∀{info:List (Nat×Nat×List Nat)} {V:VSt} {O:Nat} {o:VO},(dropI info V).H.get O=some o→O ∉ namesI info∧V.H.get O=some o
 |[],V,O,o,h=>⟨by simp [namesI],h⟩
 |(T,x) :: l,V,O,o,h=>by
  obtain ⟨h1,h2⟩:=dropI_get (info:=l) (V:=dropO V T) h
  obtain ⟨h3,h4⟩:=dropO_get h2
  refine ⟨fun hm=>?_,h4⟩
  simp only [namesI,List.map_cons,List.mem_cons] at hm
  exact hm.elim h3 h1
theorem dropI_same:∀(info:List (Nat×Nat×List Nat)) (V:VSt),(dropI info V).env=V.env∧(dropI info V).us=V.us
 |[],V=>⟨rfl,rfl⟩
 |(T,x) :: l,V=>by obtain ⟨h1,h2⟩:=dropI_same l (dropO V T);exact ⟨h1,h2⟩
theorem infoOf_not {T:Nat}:∀{info:List (Nat×Nat×List Nat)},T ∉ namesI info→infoOf T info=(T,[])
 |[],_=>rfl
 |(T',x) :: l,h=>by
  simp only [namesI,List.map_cons,List.mem_cons,not_or] at h
  rw [infoOf_cons,if_neg (Ne.symm h.1)];exact infoOf_not h.2
theorem infoN_of {i T:Nat} {info:List (Nat×Nat×List Nat)}:∀{ns:List Nat},T∈ns→infoOf T (infoN i ns info)=(T,[i])
 |[],h=>by cases h
 |T' :: r,h=>by
  simp only [infoN,infoOf_cons]
  by_cases e:T'=T
  ·subst e;rw [if_pos rfl]
  ·rw [if_neg e]
   rcases List.mem_cons.1 h with rfl | h
   ·exact absurd rfl e
   ·exact infoN_of h
theorem infoN_not {i T:Nat} {info:List (Nat×Nat×List Nat)}:∀{ns:List Nat},T ∉ ns→infoOf T (infoN i ns info)=infoOf T info
 |[],h=>rfl
 |T' :: r,h=>by
  simp only [List.mem_cons,not_or] at h
  simp only [infoN,infoOf_cons,if_neg (Ne.symm h.1)]
  exact infoN_not h.2
theorem noneB_get {V:VSt}:∀{l:List Nat},noneB V l=true→∀T∈l,V.H.get T=none
 |[],h,T,hT=>by cases hT
 |x :: l,h,T,hT=>by
  simp only [noneB,Bool.and_eq_true] at h
  rcases List.mem_cons.1 hT with rfl | hT
  ·have h1:=h.1
   split at h1
   ·cases h1
   ·assumption
  ·exact noneB_get h.2 T hT
theorem wideOf_some {V:VSt} {o:AOper} {ns:List Nat} (h:wideOf sh V o=some ns):(∃d f args,o=⟨some d,.call f args .share,none,false⟩)∨∃d f args,o=⟨d,.call f args .borrow,none,false⟩:=by
 obtain ⟨dd,op,gd,fz⟩:=o
 unfold wideOf at h
 simp only at h
 split at h
 ·cases h
 split at h
 ·cases h
 split at h
 ·split at h
  ·exact .inl ⟨_,_,_,rfl⟩
  ·cases h
 ·exact .inr ⟨_,_,_,rfl⟩
 ·cases h
theorem backI_sim {A A1:Tok} {V V1:VSt} {st:St} {st1:St} {info0:List (Nat×Nat×List Nat)} (hR:R A V st) (hx:∀O x,A O=some x→A1 O=some x)
  (hH:∀T o a id,T∈namesI info0→V.H.get T=some o→A T=some a→idOf a=some id→st1.H.get id=st.H.get id)
  (hown:∀id,Own V1 A1 id→Own (dropI info0 V) A id∨st.nx≤id) :
  ∀(info:List (Nat×Nat×List Nat)) (W:VSt),(∀T∈namesI info,T∈namesI info0)→R A1 W st1→(∀O o,W.H.get O=some o→V1.H.get O=some o∨(O∈namesI info0∧V.H.get O=some o))→
   R A1 (backI V info W) st1∧(backI V info W).env=W.env∧(backI V info W).us=W.us∧(∀O o,(backI V info W).H.get O=some o→V1.H.get O=some o∨(O∈namesI info0∧V.H.get O=some o))∧∀O o,W.H.get O=some o→(backI V info W).H.get O=some o
 |[],W,_,hW,hk=>⟨hW,rfl,rfl,hk,fun _ _ h=>h⟩
 |(T,x) :: l,W,hs,hW,hk=>by
  have hsl:∀T∈namesI l,T∈namesI info0:=fun T' h=>hs T' (by simp only [namesI,List.map_cons,List.mem_cons];exact .inr h)
  have hT:T∈namesI info0:=hs T (by simp [namesI])
  simp only [backI]
  split
  ·exact backI_sim hR hx hH hown l W hsl hW hk
  rename_i hWT
  split
  rotate_left
  ·exact backI_sim hR hx hH hown l W hsl hW hk
  rename_i o ho
  obtain ⟨a,hA,hor⟩:=hR.heap T o ho
  have hown0:∀id,idOf a=some id→Own V A id:=fun id hi=>⟨T,o,a,ho,hA,hi⟩
  obtain ⟨hR',_⟩:=own_again hW (O:=T) (o:=o) (hx _ _ hA) (hor.mono hx (fun id hi=>hH T o a id hT ho hA hi)) (fun id hi ⟨O,o',a',h1,h2,h3⟩=>by
   rcases hk O o' h1 with h4 | ⟨h4,h5⟩
   ·rcases hown id ⟨O,o',a',h4,h2,h3⟩ with ⟨O2,o2,a2,h6,h7,h8⟩ | hle
    ·obtain ⟨hn,h6'⟩:=dropI_get h6
     have:=hR.inj O2 T o2 o a2 a id h6' ho h7 hA h8 hi
     subst this;exact hn hT
    ·have:=hR.own_lt (hown0 id hi);omega
   ·obtain ⟨a2,h7,_⟩:=hR.heap O o' h5
    have:=hx _ _ h7
    rw [h2] at this;cases this
    have:=hR.inj O T o' o a' a id h5 ho h7 hA h3 hi
    subst this;rw [hWT] at h1;cases h1)
  obtain ⟨g1,g2,g3,g4,g5⟩:=backI_sim hR hx hH hown l (setVO W T o) hsl hR' (fun O o' h=>by
   simp only [setVO,Map.get_put] at h
   split at h
   ·rename_i e;subst e;cases h;exact .inr ⟨hT,ho⟩
   ·exact hk O o' h)
  refine ⟨g1,g2,g3,g4,fun O o' h=>g5 O o' ?_⟩
  simp only [setVO,Map.get_put]
  split
  ·rename_i e;subst e;rw [hWT] at h;cases h
  ·exact h
def Wide (prog:Map AFunc) (nt n0:Nat) (o:AOper) (A:Tok) (V1:VSt) (st:St) (k:VSt→Prop):Prop:=
 ∃H' nx' e' H2 rds tch V2 A2,effStep (runFn prog) nt n0 o st=some (⟨e',H2,nx'⟩,⟨rds,tch,st.H,H2,st.nx,nx'⟩)∧(∀id,H2.get id=if id < n0∨(st.nx≤id∧id < nx') then H'.get id else st.H.get id)∧
  R A2 V2 ⟨e',H',nx'⟩∧Fr V1 A (st.H.upto fun i=>Nat.blt i n0) st.nx V2 A2 H' nx'∧(∀O x,A O=some x→A2 O=some x)∧k V2∧(∀rs ah,rds.all (rdOk n0 rs ah)=true∧tchOk n0 rs ah tch=true)
theorem wide_share (hsh:sh.vs=VSh prog) {n0 d f:Nat} {args:List Opd} {A:Tok} {V1:VSt} {st:St} {k:VSt→Prop} (hR0:R A V1 ⟨st.env,st.H.upto fun i=>Nat.blt i n0,st.nx⟩)
  (hk:evShare sh nt V1 (some d) f args k):Wide prog nt n0 ⟨some d,.call f args .share,none,false⟩ A V1 st k:=by
 obtain ⟨v,H',nx',hdo,e',hput,V2,A1,hR1,hF,hx,hk1⟩:=o_share (nt:=nt) hsh hR0 hk
 have hkd:kind (.call f args .share)=.call f args .share:=rfl
 have hcf:runFn prog f (args.map (ev st.env)) (st.H.upto fun i=>Nat.blt i n0) st.nx=some (v,H',nx'):=by
  simpa only [doOp,hkd,doCall] using hdo
 let P:Nat→Bool:=fun i=>Nat.blt i n0||(Nat.ble st.nx i&&Nat.blt i nx')
 have hP:∀i,P i=true↔(i < n0∨(st.nx≤i∧i < nx')):=fun i=>by
  show (Nat.blt i n0||(Nat.ble st.nx i&&Nat.blt i nx'))=true↔_
  simp
 let H2:Heap:=(H'.upto P).union (st.H.upto fun i=>!P i)
 refine ⟨H',nx',e',H2,[.all],.all,V2,A1,?_,fun id=>?_,hR1,hF,hx,hk1,fun rs ah=>⟨rfl,rfl⟩⟩
 ·have h1:effFz (runFn prog) n0 ⟨some d,.call f args .share,none,false⟩ (ev st.env) st.H st.nx=some (v,H2,nx',[.all],.all):=by
   simp only [effFz,cond_false,effOp,hkd,effCall,hcf];rfl
  have hw:wanted st.env none=true:=rfl
  simp only [effStep,hw,cond_true,h1,hput]
 ·show ((H'.upto P).union (st.H.upto fun i=>!P i)).get id=_
  rw [Map.get_union,Map.get_upto,Map.get_upto]
  by_cases h:P id=true
  ·rw [if_pos ((hP id).1 h)]
   simp only [h,if_true,Bool.not_true]
   cases H'.get id <;> rfl
  ·rw [if_neg (fun hc=>h ((hP id).2 hc))]
   simp only [h]
   rfl
theorem wide_borrow {n0 f:Nat} {d:Option Nat} {args:List Opd} {A:Tok} {V1:VSt} {st:St} {k:VSt→Prop} (hR0:R A V1 ⟨st.env,st.H.upto fun i=>Nat.blt i n0,st.nx⟩)
  (hk:evCall prog nt V1 d none f args k):Wide prog nt n0 ⟨d,.call f args .borrow,none,false⟩ A V1 st k:=by
 obtain ⟨v,hdo,e',hput,V2,A1,hR1,hF,hx,hk1⟩:=o_call (g:=none) hR0 trivial hk
 have hkd:kind (.call f args .borrow)=.call f args .borrow:=rfl
 have hw:wanted st.env none=true:=rfl
 have hdo':doCall (runFn prog) f (args.map (ev st.env)) .borrow (st.H.upto fun i=>Nat.blt i n0) st.nx=some (v,(st.H.upto fun i=>Nat.blt i n0),st.nx):=hdo
 have hget:∀id,st.H.get id=if id < n0∨(st.nx≤id∧id < st.nx) then (st.H.upto fun i=>Nat.blt i n0).get id else st.H.get id:=by
  intro id
  split
  ·rw [Map.get_upto,if_pos]
   rename_i h
   have:id < n0:=by rcases h with h | h <;> omega
   simpa using this
  ·rfl
 by_cases hp:allB AV.plain (args.map (ev st.env))=true
 ·have h0:doCall (runFn prog) f (args.map (ev st.env)) .borrow st.H st.nx=some (v,st.H,st.nx):=by
   simp only [doCall,hp,cond_true] at hdo' ⊢
   split at hdo'
   ·rename_i r hr
    simp only [Option.some.injEq,Prod.mk.injEq] at hdo'
    simp only [hr,hdo'.1]
   ·cases hdo'
  refine ⟨_,st.nx,e',st.H,[],.ids [],V2,A1,?_,hget,hR1,hF,hx,hk1,fun rs ah=>⟨rfl,rfl⟩⟩
  have h1:effFz (runFn prog) n0 ⟨d,.call f args .borrow,none,false⟩ (ev st.env) st.H st.nx=some (v,st.H,st.nx,[],.ids []):=by
   simp only [effFz,cond_false,effOp,hkd,effCall,hp,cond_true,h0]
  simp only [effStep,hw,cond_true,h1,hput]
 ·have hpb:allB AV.plain (args.map (ev st.env))=false:=by simpa using hp
  refine ⟨_,st.nx,e',st.H,[.all],.ids [],V2,A1,?_,hget,hR1,hF,hx,hk1,fun rs ah=>⟨rfl,rfl⟩⟩
  have h1:effFz (runFn prog) n0 ⟨d,.call f args .borrow,none,false⟩ (ev st.env) st.H st.nx=some (v,st.H,st.nx,[.all],.ids []):=by
   simp only [effFz,cond_false,effOp,hkd,effCall,hpb,hdo']
  simp only [effStep,hw,cond_true,h1,hput]
theorem wide_step (hsh:sh.vs=VSh prog) {hp:Prop} (hnp:¬hp) {n0 i:Nat} {rs:List Rec} {A:Tok} {V:VSt} {st:St} {info:List (Nat×Nat×List Nat)} {ρ:Nat→Option Nat} {feet:List (List Nat×List Nat)} {ahead:List (List Nat)}
  {o:AOper} {ns:List Nat} {k:VSt→Prop} (hR:R A V st) (hinv:DInv hp n0 rs A V st info ρ) (hh:Hist hp n0 ahead rs feet ρ) (hi:rs.length=i) (hn0:n0≤st.nx) (hwd:wideOf sh V o=some ns) (hnn:noneB V ns=true)
  (hk:evO sh prog nt (dropI info V) o fun V'=>match allK V'.H fun T=>hasO (dropI info V) T||memB T (ns) with
   |true=>k (backI V info V')
   |false=>False) :
  ∃st1 r,effStep (runFn prog) nt n0 o st=some (st1,r)∧∃W A1,R A1 W st1∧Fr V A st.H st.nx W A1 st1.H st1.nx∧k W∧st.nx≤st1.nx∧
   DInv hp n0 (rs++[r]) A1 W st1 (infoN i (ns) info) ρ∧Hist hp n0 ahead (rs++[r]) (feet++[([],[])]) ρ:=by
 have hids:∀O o a id,(dropI info V).H.get O=some o→A O=some a→idOf a=some id→id < n0:=by
  intro O o a id ho ha hid
  obtain ⟨hn,ho'⟩:=dropI_get ho
  rcases hinv.known O o a id ho' ha hid with h | ⟨c,hc,_⟩
  ·exact h
  ·rw [infoOf_not hn] at hc;cases hc
 obtain ⟨he,hu⟩:=dropI_same info V
 have hR0:R A (dropI info V) ⟨st.env,st.H.upto fun i=>Nat.blt i n0,st.nx⟩:=by
  refine ⟨fun t e h=>hR.env t e (by rw [←he];exact h),fun O o ho=>?_,fun O O' o o' a a' id h1 h2=>hR.inj O O' o o' a a' id (dropI_get h1).2 (dropI_get h2).2,fun O h=>hR.used O (by rw [←hu];exact h),hR.one,fun id o h=>?_⟩
  ·obtain ⟨a,ha,hor⟩:=hR.heap O o (dropI_get ho).2
   refine ⟨a,ha,hor.mono (fun _ _ h=>h) (fun id hid=>?_)⟩
   have:=hids O o a id ho ha hid
   show (Map.upto st.H _).get id=_
   rw [Map.get_upto,if_pos (by simpa using this)]
  ·have h':(Map.upto st.H fun i=>Nat.blt i n0).get id=some o:=h
   rw [Map.get_upto] at h'
   split at h'
   ·exact hR.fresh id o h'
   ·cases h'
 have hW:Wide prog nt n0 o A (dropI info V) st fun V'=>match allK V'.H fun T=>hasO (dropI info V) T||memB T ns with
   |true=>k (backI V info V')
   |false=>False:=by
  rcases wideOf_some hwd with ⟨d,f,args,rfl⟩ | ⟨d,f,args,rfl⟩
  ·exact wide_share hsh hR0 hk
  ·exact wide_borrow hR0 hk
 obtain ⟨H',nx',e',H2,rds,tch,V1,A1,heff,hget0,hR1,hF,hx,hk1,hrt⟩:=hW
 have hle:st.nx≤nx':=hF.le
 let P:Nat→Bool:=fun i=>Nat.blt i n0||(Nat.ble st.nx i&&Nat.blt i nx')
 have hP:∀i,P i=true↔(i < n0∨(st.nx≤i∧i < nx')):=fun i=>by
  show (Nat.blt i n0||(Nat.ble st.nx i&&Nat.blt i nx'))=true↔_
  simp
 have hget:∀id,H2.get id=if P id=true then H'.get id else st.H.get id:=by
  intro id
  rw [hget0]
  by_cases h:P id=true
  ·rw [if_pos ((hP id).1 h),if_pos h]
  ·rw [if_neg (fun hc=>h ((hP id).2 hc)),if_neg h]
 have hown1:∀id,Own V1 A1 id→P id=true:=by
  intro id ho
  rw [hP]
  have hlt:=hR1.own_lt ho
  rcases hF.own id ho with ⟨O,o,a,h1,h2,h3⟩ | h
  ·exact .inl (hids O o a id h1 h2 h3)
  ·exact .inr ⟨h,hlt⟩
 have hR2:R A1 V1 ⟨e',H2,nx'⟩:=by
  refine ⟨hR1.env,fun O o ho=>?_,hR1.inj,hR1.used,hR1.one,fun id o h=>?_⟩
  ·obtain ⟨a,ha,hor⟩:=hR1.heap O o ho
   refine ⟨a,ha,hor.mono (fun _ _ h=>h) (fun id hid=>?_)⟩
   rw [show (⟨e',H2,nx'⟩:St).H.get id=_ from hget id,if_pos (hown1 id ⟨O,o,a,ho,ha,hid⟩)]
  ·have h':H2.get id=some o:=h
   rw [hget] at h'
   split at h'
   ·exact hR1.fresh id o h'
   ·exact Nat.lt_of_lt_of_le (hR.fresh id o h') hle
 split at hk1
 rotate_left
 ·cases hk1
 rename_i hall
 have hkeys:∀T o,V1.H.get T=some o→(∃o',(dropI info V).H.get T=some o')∨T∈ns:=by
  intro T o hT
  have:=allK_get _ _ hall T o hT
  rw [Bool.or_eq_true] at this
  exact this.imp hasO_iff.1 memB_iff.1
 obtain ⟨g1,g2,g3,g4,g5⟩:=backI_sim (V1:=V1) (st1:=⟨e',H2,nx'⟩) (info0:=info) hR hx (fun T o a id hT ho ha hid=>by
   show H2.get id=_
   rw [hget]
   split
   ·rename_i hPi
    have hown:Own V A id:=⟨T,o,a,ho,ha,hid⟩
    have hlt:=hR.own_lt hown
    have h0:id < n0:=by rcases (hP id).1 hPi with h | h <;> omega
    have hno:¬Own (dropI info V) A id:=fun ⟨O,o',a',h1,h2,h3⟩=>by
     obtain ⟨hn,h1'⟩:=dropI_get h1
     have:=hR.inj O T o' o a' a id h1' ho h2 ha h3 hid
     subst this;exact hn hT
    have:=hF.same id hlt hno
    rw [this]
    show (Map.upto st.H _).get id=_
    rw [Map.get_upto,if_pos (by simpa using h0)]
   ·rfl) (fun id ho=>hF.own id ho) info V1 (fun _ h=>h) hR2 (fun O o h=>.inl h)
 refine ⟨⟨e',H2,nx'⟩,⟨rds,tch,st.H,H2,st.nx,nx'⟩,?_,_,A1,g1,⟨hle,fun id hid hno=>?_,fun id ho=>?_⟩,hk1,hle,⟨fun T o a id ho ha hid=>?_,fun h=>absurd h hnp,fun id q h=>Nat.lt_of_lt_of_le (hinv.dom id q h) hle⟩,
  ⟨by simp [hh.len],fun h=>absurd h hnp,fun c r' ah' hr ha' rs' hrs'=>?_⟩⟩
 ·exact heff
 ·show H2.get id=_
  rw [hget]
  split
  ·rename_i hPi
   have h0:id < n0:=by rcases (hP id).1 hPi with h | h <;> omega
   have:=hF.same id hid (fun ⟨O,o,a,h1,h2,h3⟩=>hno ⟨O,o,a,(dropI_get h1).2,h2,h3⟩)
   rw [this]
   show (Map.upto st.H _).get id=_
   rw [Map.get_upto,if_pos (by simpa using h0)]
  ·rfl
 ·obtain ⟨O,o,a,h1,h2,h3⟩:=ho
  rcases g4 O o h1 with h4 | ⟨h4,h5⟩
  ·rcases hF.own id ⟨O,o,a,h4,h2,h3⟩ with ⟨O',o',a',h6,h7,h8⟩ | h
   ·exact .inl ⟨O',o',a',(dropI_get h6).2,h7,h8⟩
   ·exact .inr h
  ·obtain ⟨a',h6,_⟩:=hR.heap O o h5
   have:=hx _ _ h6
   rw [h2] at this;cases this
   exact .inl ⟨O,o,a,h5,h6,h3⟩
 ·have hold:∀(c:Nat) a,rs[c]?=some a→(rs++[(⟨rds,tch,st.H,H2,st.nx,nx'⟩:Rec)])[c]?=some a:=fun c a hc=>by
   rw [List.getElem?_append_left (List.getElem?_eq_some_iff.1 hc).1];exact hc
  have hlast:(rs++[(⟨rds,tch,st.H,H2,st.nx,nx'⟩:Rec)])[i]?=some ⟨rds,tch,st.H,H2,st.nx,nx'⟩:=by
   rw [List.getElem?_append_right (by omega),hi,Nat.sub_self];rfl
  rcases g4 T o ho with h4 | ⟨h4,h5⟩
  ·by_cases hT:T∈ns
   ·rw [infoN_of hT]
    rcases hF.own id ⟨T,o,a,h4,ha,hid⟩ with ⟨O',o',a',h6,h7,h8⟩ | h
    ·exact .inl (hids O' o' a' id h6 h7 h8)
    ·exact .inr ⟨i,by simp,_,hlast,h,hR1.own_lt ⟨T,o,a,h4,ha,hid⟩⟩
   ·rcases hkeys T o h4 with ⟨o',h6⟩ | h6
    ·obtain ⟨a',h7,_⟩:=hR.heap T o' (dropI_get h6).2
     have:=hx _ _ h7
     rw [ha] at this;cases this
     exact .inl (hids T o' a id h6 h7 hid)
    ·exact absurd h6 hT
  ·have hT:T ∉ ns:=fun hm=>by have:=noneB_get hnn T hm;rw [this] at h5;cases h5
   rw [infoN_not hT]
   obtain ⟨a',h6,_⟩:=hR.heap T o h5
   have:=hx _ _ h6
   rw [ha] at this;cases this
   exact (hinv.known T o a id h5 h6 hid).imp (fun h=>h) (fun ⟨c,h2,r2,h3,h4⟩=>⟨c,h2,r2,hold c r2 h3,h4⟩)
 ·by_cases hc:c < rs.length
  ·rw [List.getElem?_append_left hc] at hr
   exact hh.known c r' ah' hr ha' rs' (fun j a hj=>hrs' j a (by rw [List.getElem?_append_left (List.getElem?_eq_some_iff.1 hj).1];exact hj))
  ·have hce:c=rs.length:=by have:=(List.getElem?_eq_some_iff.1 hr).1;simp at this;omega
   subst hce
   rw [List.getElem?_append_right (Nat.le_refl _),Nat.sub_self] at hr
   cases hr
   exact hrt rs' ah'
theorem evD_run (hsh:sh.vs=VSh prog) {ahead:List (List Nat)} {pairs:List (Nat×Nat)} {n0:Nat}:∀(ops:List AOper) (i:Nat) (V:VSt) (A:Tok) (st:St) (info:List (Nat×Nat×List Nat)) (feet:List (List Nat×List Nat)) (rs:List Rec) (ρ:Nat→Option Nat) (k:VSt→Prop),
  R A V st→DInv (pairs≠[]) n0 rs A V st info ρ→Hist (pairs≠[]) n0 ahead rs feet ρ→rs.length=i→n0≤st.nx→evD sh prog nt ahead pairs ops i V info feet k→
  ∃st' l,runDOps (runFn prog) nt n0 ops st=some (st',l)∧knownAll n0 (rs++l) ahead (rs++l)=true∧allB (pairOk (rs++l)) pairs=true∧∃V' A',R A' V' st'∧Fr V A st.H st.nx V' A' st'.H st'.nx∧k V'
 |[],i,V,A,st,info,feet,rs,ρ,k,hR,hinv,hh,hi,hn,hk=>by
  simp only [evD] at hk
  split at hk
  ·rename_i hb
   rw [Bool.and_eq_true,Nat.beq_eq] at hb
   refine ⟨st,[],rfl,?_,?_,V,A,hR,Fr.refl _ _ _ _,hk⟩
   ·rw [List.append_nil]
    exact knownAll_of ahead rs (by rw [hb.1,hi]) (fun c r ah hr ha=>hh.known c r ah hr ha rs (fun _ _ h=>h))
   ·rw [List.append_nil];exact pairs_of hh (fun h=>h) hb.2
  ·cases hk
 |o :: l,i,V,A,st,info,feet,rs,ρ,k,hR,hinv,hh,hi,hn,hk=>by
  rw [evD] at hk
  split at hk
  ·rename_i ns hso
   split at hk
   rotate_left
   ·cases hk
   rename_i hps
   split at hk
   rotate_left
   ·cases hk
   rename_i hnn
   obtain ⟨st1,r,g1,W,A1,g2,g3,g4,g5,g6,g7⟩:=wide_step (k:=fun W=>evD sh prog nt ahead [] l (i + 1) W (infoN i ns info) (feet++[([],[])]) k) hsh (by simp) hR hinv hh hi hn hso hnn hk
   obtain ⟨st2,l2,q1,q2,q3,V2,A2,q4,q5,q6⟩:=evD_run hsh l (i + 1) W A1 st1 _ _ (rs++[r]) ρ k g2 g6 g7 (by simp [hi]) (Nat.le_trans hn g5) g4
   refine ⟨st2,r :: l2,by simp only [runDOps,g1,q1],?_,?_,V2,A2,q4,g3.trans q5,q6⟩
   ·rwa [List.append_assoc] at q2
   ·rwa [List.append_assoc] at q3
  have hk':evO sh prog nt V o fun V'=>match foot V o with
   |none=>False
   |some f=>match ahead[i]? with
    |none=>False
    |some ah=>match chainsOk info ah (f.rd++f.wr) with
     |false=>False
     |true=>match stepI o.dst i V V' f info with
      |none=>False
      |some info'=>evD sh prog nt ahead pairs l (i + 1) V' info' (feet++[(rootsOf info f.rd,rootsOf info f.wr)]) k:=hk
  obtain ⟨st1,h1,V1,A1,h2,h3,hx,h4⟩:=evO_sim hsh hR hk'
  split at h4
  ·cases h4
  rename_i f hf
  split at h4
  ·cases h4
  rename_i ah hah
  split at h4
  ·cases h4
  rename_i hch
  split at h4
  ·cases h4
  rename_i info' hs
  obtain ⟨r,g1,g2,g3,g4⟩:=evO_eff hR hk' hf h1 n0
  obtain ⟨ρ',p1,p2⟩:=step_inv hR h2 h3 hx hinv hh hi g2 g3 g4 hah hch hs
  obtain ⟨st2,l2,q1,q2,q3,V2,A2,q4,q5,q6⟩:=evD_run hsh l (i + 1) V1 A1 st1 info' _ (rs++[r]) ρ' k h2 p1 p2 (by simp [hi]) (Nat.le_trans hn h3.le) h4
  refine ⟨st2,r :: l2,by simp only [runDOps,g1,q1],?_,?_,V2,A2,q4,h3.trans q5,q6⟩
  ·rwa [List.append_assoc] at q2
  ·rwa [List.append_assoc] at q3
open Classical in
noncomputable def rhoOf (V:VSt) (A:Tok) (id:Nat):Option Nat:=if h:∃T o a,V.H.get T=some o∧A T=some a∧idOf a=some id then some (Classical.choose h) else none
theorem rhoOf_some {V:VSt} {A:Tok} {id q:Nat} (h:rhoOf V A id=some q):∃o a,V.H.get q=some o∧A q=some a∧idOf a=some id:=by
 unfold rhoOf at h
 split at h
 ·rename_i hh;cases h;exact Classical.choose_spec hh
 ·cases h
theorem rhoOf_of {V:VSt} {A:Tok} {st:St} (hR:R A V st) {id T:Nat} {o:VO} {a:AV} (h1:V.H.get T=some o) (h2:A T=some a) (h3:idOf a=some id):rhoOf V A id=some T:=by
 have hh:∃T o a,V.H.get T=some o∧A T=some a∧idOf a=some id:=⟨T,o,a,h1,h2,h3⟩
 unfold rhoOf
 rw [dif_pos hh]
 obtain ⟨o',a',g1,g2,g3⟩:=Classical.choose_spec hh
 congr 1
 exact hR.inj _ T _ _ _ _ id g1 h1 g2 h2 g3 h3
theorem evD_sim (hsh:sh.vs=VSh prog) {A:Tok} {V:VSt} {st:St} {k:VSt→Prop} {ops:List AOper} {ahead:List (List Nat)} {pairs:List (Nat×Nat)} (hR:R A V st) (hk:evD sh prog nt ahead pairs ops 0 V [] [] k) :
  ∃st',runDreg (runFn prog) nt ops ahead pairs st=some st'∧∃V' A',R A' V' st'∧Fr V A st.H st.nx V' A' st'.H st'.nx∧k V':=by
 have own:∀T o a id,V.H.get T=some o→A T=some a→idOf a=some id→Own V A id:=fun T o a id h1 h2 h3=>⟨T,o,a,h1,h2,h3⟩
 obtain ⟨st',l,h1,h2,h3,V',A',h4,h5,h6⟩:=evD_run hsh (n0:=st.nx) ops 0 V A st [] [] [] (rhoOf V A) k hR ⟨fun T o a id g1 g2 g3=>.inl (hR.own_lt (own T o a id g1 g2 g3)),fun _ T o a id g1 g2 g3=>rhoOf_of hR g1 g2 g3,fun id q hq=>by
   obtain ⟨o',a',g1,g2,g3⟩:=rhoOf_some hq
   exact hR.own_lt (own _ _ _ _ g1 g2 g3)⟩ ⟨rfl,fun _ c r f hr=>by simp at hr,fun c r ah hr=>by simp at hr⟩ rfl (Nat.le_refl _) hk
 rw [List.nil_append] at h2 h3
 exact ⟨st',by simp only [runDreg,h1,h2,h3,Bool.and_self,cond_true],V',A',h4,h5,h6⟩
end
end Go.Ax.V

set_option linter.unusedSimpArgs false
set_option linter.unusedVariables false
namespace Go.Ax.V
def _root_.Go.Ax.V.VCode.ok:VCode→Bool
 |.seq a b=>a.ok&&b.ok
 |.cond _ a b=>a.ok&&b.ok
 |.block _ c=>c.ok
 |.loop J c=>J.all entPos&&c.ok
 |.join J c=>J.all entPos&&c.ok
 |_=>true
section
variable {sh:Sh} {prog:Map AFunc} {nt:Nat}
theorem evK_sim (hsh:sh.vs=VSh prog):∀(c:VCode) (V:VSt) (A:Tok) (st:St) (k:AExit→VSt→Prop),c.ok=true→R A V st→evK sh prog nt c V k→
  WC (runFn prog) (runCode prog) nt c.code st (fun x st'=>∃V' A',R A' V' st'∧Fr V A st.H st.nx V' A' st'.H st'.nx∧k x V'):=by
 intro c
 induction c with
 |skip=>intro V A st k _ hR h;exact wc_skip ⟨V,A,hR,Fr.refl _ _ _ _,h⟩
 |exit id=>intro V A st k _ hR h;exact wc_exit ⟨V,A,hR,Fr.refl _ _ _ _,h⟩
 |ret=>intro V A st k _ hR h;exact wc_ret ⟨V,A,hR,Fr.refl _ _ _ _,h⟩
 |dreg ops ahead pairs=>
  intro V A st k _ hR h
  obtain ⟨st',h1,V',A',h2,h3,h4⟩:=evD_sim hsh hR h
  exact wc_dreg h1 ⟨V',A',h2,h3,h4⟩
 |reg ops=>
  intro V A st k _ hR h
  obtain ⟨st',h1,V',A',h2,h3,_,h4⟩:=evOs_sim hsh hR h
  exact wc_reg ⟨st',h1,V',A',h2,h3,h4⟩
 |seq a b iha ihb=>
  intro V A st k hok hR h
  simp only [VCode.ok,Bool.and_eq_true] at hok
  refine wc_seq (wc_mono (iha V A st _ hok.1 hR h) ?_)
  rintro x st' ⟨V',A',h1,h2,h3⟩
  cases x with
  |normal=>
   refine wc_mono (ihb V' A' st' k hok.2 h1 h3) ?_
   rintro y st2 ⟨V2,A2,g1,g2,g3⟩
   exact ⟨V2,A2,g1,h2.trans g2,g3⟩
  |exit i=>exact ⟨V',A',h1,h2,h3⟩
  |ret=>exact ⟨V',A',h1,h2,h3⟩
 |cond c a b iha ihb=>
  intro V A st k hok hR h
  simp only [VCode.ok,Bool.and_eq_true] at hok
  obtain ⟨cv,hc,h⟩:=rdT_sim (g:=none) hR trivial h
  unfold condK at h
  split at h
  ·rename_i x
   generalize he:ev st.env c=p at hc
   cases hc
   cases x with
   |true=>exact wc_cond_true he (iha V A st k hok.1 hR h)
   |false=>exact wc_cond_false he (ihb V A st k hok.2 hR h)
  ·cases h
 |block id c ih=>
  intro V A st k hok hR h
  refine wc_block (wc_mono (ih V A st _ hok hR h) ?_)
  rintro x st' ⟨V',A',h1,h2,h3⟩
  cases x with
  |normal=>exact ⟨V',A',h1,h2,h3⟩
  |ret=>exact ⟨V',A',h1,h2,h3⟩
  |exit i=>
   simp only [blockQ]
   simp only [cond_eq_ite,Nat.beq_eq] at h3
   by_cases hi:i=id
   ·rw [if_pos hi] at h3 ⊢;exact ⟨V',A',h1,h2,h3⟩
   ·rw [if_neg hi] at h3 ⊢;exact ⟨V',A',h1,h2,h3⟩
 |loop J c ih=>
  intro V A st k hok hR h
  simp only [VCode.ok,Bool.and_eq_true] at hok
  obtain ⟨I,⟨n,h1⟩,h2⟩:=h
  refine wc_loop (fun (n:Nat) st1=>∃V1 A1,R A1 V1 st1∧Fr V A st.H st.nx V1 A1 st1.H st1.nx∧prJ J V1 (I n)) (fun n=>n) ?_ n st ⟨V,A,hR,Fr.refl _ _ _ _,h1⟩
  rintro m st1 ⟨V1,A1,g1,g2,g3⟩
  obtain ⟨Vc,A2,p1,p2,p3⟩:=meet_sim g1 hok.1 g3 (h2 m)
  refine wc_mono (ih Vc A2 st1 _ hok.2 p2 p1) ?_
  rintro x st2 ⟨V2,A3,q1,q2,q3⟩
  have hfr:=g2.trans (p3.trans q2)
  cases x with
  |normal=>obtain ⟨m',hm,q3⟩:=q3;exact ⟨m',hm,V2,A3,q1,hfr,q3⟩
  |exit i=>exact ⟨V2,A3,q1,hfr,q3⟩
  |ret=>exact ⟨V2,A3,q1,hfr,q3⟩
 |join J c ih=>
  intro V A st k hok hR h
  simp only [VCode.ok,Bool.and_eq_true] at hok
  obtain ⟨I,h1,h2⟩:=h
  refine wc_mono (ih V A st _ hok.2 hR h1) ?_
  rintro x st' ⟨V',A',g1,g2,g3⟩
  cases x with
  |normal=>
   obtain ⟨Vc,A2,p1,p2,p3⟩:=meet_sim g1 hok.1 g3 h2
   exact ⟨Vc,A2,p2,g2.trans p3,p1⟩
  |exit i=>exact ⟨V',A',g1,g2,g3⟩
  |ret=>exact ⟨V',A',g1,g2,g3⟩
theorem init_sim {A:Tok} {H:Heap} {nx:Nat}:∀(ts:List TV) (as:List AV) (i:Nat) (V:VSt) (e:Env),CanL ts as→R A V ⟨e,H,nx⟩→R A (initV ts i V) ⟨initE as i e,H,nx⟩
 |[],as,i,V,e,hc,hR=>by
  have:as=[]:=List.length_eq_zero_iff.1 hc.1.symm
  subst this;exact hR
 |t :: ts,[],i,V,e,hc,hR=>by cases hc.1
 |t :: ts,a :: as,i,V,e,hc,hR=>by
  refine init_sim ts as (i + 1) _ _ ⟨Nat.succ.inj hc.1,fun j u x hu hx=>hc.2 (j + 1) u x hu hx⟩ ?_
  exact hR.put (e:=⟨none,.tr t⟩) (v:=a) (fun _=>.tr (hc.2 0 t a rfl rfl))
theorem resOne_sim {A:Tok} {V:VSt} {st:St} (hR:R A V st) {r:ARes} {k:TV→Prop} (h:resOneK V r k) (d:Nat):∃v t a,resOne st.env st.H r=some v∧toImm (d + 3) st.H v=some a∧Can t a∧k t:=by
 cases r with
 |tmp t=>
  simp only [resOneK] at h
  obtain ⟨w,hw,h⟩:=rdK_sim (g:=none) hR trivial h
  obtain ⟨t',a,h1,h2,h3,h4⟩:=toT_sim hR hw h d
  exact ⟨_,t',a,rfl,h1,h2,h4⟩
 |cell t sz=>
  simp only [resOneK] at h
  obtain ⟨w,hw,h⟩:=rdK_sim (g:=none) hR trivial h
  generalize he:ev st.env (.t t)=p at hw
  cases hw with
  |@ptr O off id hO=>
   simp only at h
   split at h
   rotate_left
   ·cases h
   rename_i v ovs ho
   obtain ⟨y,hy,id',cs,ts,rfl,hH,hc⟩:=hR.heap O _ ho
   rw [hO] at hy;cases hy
   have fin:∀{l:List AV} {v' t' a:_},cut cs off (loadA sz)=some l→mkv sz l=some v'→toImm (d + 3) st.H v'=some a→Can t' a→k t'→∃v t_1 a,resOne st.env st.H (.cell t sz)=some v∧toImm (d + 3) st.H v=some a∧Can t_1 a∧k t_1:=by
    intro l v' t' a h1 h2 h3 h4 h5
    refine ⟨v',t',a,?_,h3,h4,h5⟩
    simp only [resOne,he,fetch,hH,cond_eq_ite,Nat.beq_eq,if_pos,h1]
    exact h2
   split at h
   ·split at h
    ·rename_i w hw
     have hlt:=hc.keys _ _ hw
     have hx:cs[off]?=some (cs[off]'(by rw [←hc.len];exact hlt)):=List.getElem?_eq_getElem _
     have hs:=hc.at_ off _ _ (List.getElem?_eq_getElem hlt) hx
     rw [hw] at hs
     obtain ⟨es,a',g1,g2,g3,g4,g5⟩:=slOf_sim hR hs h (d + 1)
     exact fin (cell_cut hx) rfl g1 g2 g5
    ·rename_i ho'
     obtain ⟨u,h1,h2⟩:=h
     obtain ⟨x,h3,h4,h5⟩:=cells_ld hc h1 ho'
     exact fin h3 rfl (imm_flat h5 _ _) h4 h2
   ·rename_i n
    obtain ⟨u,h1,h2⟩:=h
    obtain ⟨l,ls,h3,h4,h5⟩:=cells_sub hc h1
    obtain ⟨u',us,cs',g1,g2,g3,g4,g5,g6⟩:=cells_imm hR h5 h2 d
    obtain ⟨l',rfl⟩:=g5 _ h4
    cases g2
    exact fin h3 rfl (by rw [toImm_agg,g1]) (.a _ _ g3.1.1 g3.2 g3.1.2) g4
  |_=>cases h
theorem resK_sim {A:Tok} {V:VSt} {st:St} (hR:R A V st) (d:Nat):∀(rs:List ARes) (k:List TV→Prop),resK V rs k→∃vs ts as,mapO (resOne st.env st.H) rs=some vs∧mapO (toImm (d + 3) st.H) vs=some as∧CanL ts as∧k ts
 |[],k,h=>⟨[],[],[],rfl,rfl,⟨rfl,fun j t x ht=>by simp at ht⟩,h⟩
 |r :: rs,k,h=>by
  obtain ⟨v,t,a,h1,h2,h3,h4⟩:=resOne_sim hR h d
  obtain ⟨vs,ts,as,g1,g2,g3,g4⟩:=resK_sim hR d rs _ h4
  refine ⟨v :: vs,t :: ts,a :: as,by rw [mapO_cons,h1,g1],by rw [mapO_cons,h2,g2],⟨by simp [g3.1],fun j u x hu hx=>?_⟩,g4⟩
  cases j with
  |zero=>simp at hu hx;subst hu;subst hx;exact h3
  |succ j=>exact g3.2 j u x (by simpa using hu) (by simpa using hx)
theorem noTps_mem:∀{ts:List TV},noTps ts→∀t∈ts,t.isTp=false
 |[],_,t,ht=>by cases ht
 |x :: ts,h,t,ht=>by
  rcases List.mem_cons.1 ht with rfl | ht
  ·exact h.1
  ·exact noTps_mem h.2 t ht
theorem can_plain1 {t:TV} {a:AV} (h:Can t a) (ht:t.isTp=false):a.plain1=true:=by
 cases h with
 |a ts as hl hf h=>exact allB_true.2 hf
 |tp ts as hl hf h=>cases ht
 |_=>rfl
theorem vs_of {f:Nat} {af:AFunc} {vc:VCode} {ts:List TV} {Q:TV→Prop} (hf:prog.get f=some af) (hc:vc.code=af.body) (hok:vc.ok=true) (hl:ts.length=af.params) (hsh:sh.vs=VSh prog) (h:evFn sh prog af vc ts Q):VS prog f ts Q:=by
 intro as ha
 have h0:R (fun _=>none) V0 ⟨.leaf,.leaf,0⟩:=⟨fun t e he=>(by cases he),fun O o ho=>(by cases ho),fun O O' o o' a a' id ho=>(by cases ho),fun _ _=>rfl,fun O a ha=>(by cases ha),fun id o ho=>(by cases ho)⟩
 have hR:=init_sim ts as 0 V0 .leaf ha h0
 have hw:=evK_sim hsh (nt:=af.nt) vc _ _ _ _ hok hR h
 rw [hc] at hw
 obtain ⟨⟨v,H',nx'⟩,h1,h2⟩:=fn_of_body (r:=fun p=>∃a,toImm deep p.2.1 p.1=some a∧∃r,Can r a∧Q r) hf (by rw [←ha.1];exact hl) (wc_mono hw (by
  rintro x st' ⟨V',A',g1,g2,g3,g4⟩
  refine ⟨(by cases x <;> first | exact .inl rfl | exact .inr rfl | cases g3),?_⟩
  obtain ⟨vs,rs,as',p1,p2,p3,p4,p5⟩:=resK_sim g1 26 af.res _ g4
  have many:vs.length≠1→∃v,resA af.res st'=some v∧∃a,toImm deep v.2.1 v.1=some a∧∃r,Can r a∧Q r:=by
   intro hne
   have hl1:=(mapO_some p2).1
   have hlr:rs.length=vs.length:=by rw [p3.1,hl1]
   have e1:resA af.res st'=some (.tup vs,st'.H,st'.nx):=by
    unfold resA
    rw [p1]
    match vs,hne with
    |[],_=>rfl
    |[_],h=>exact absurd rfl h
    |_ :: _ :: _,_=>rfl
   have e2:tupT rs=.tp rs:=by
    match rs,hlr with
    |[],_=>rfl
    |[_],h=>exact absurd h.symm hne
    |_ :: _ :: _,_=>rfl
   have e3:noTps rs:=by
    match rs,hlr,p4 with
    |[],_,_=>trivial
    |[_],h,_=>exact absurd h.symm hne
    |_ :: _ :: _,_,h=>exact h
   refine ⟨_,e1,.tup as',?_,_,?_,by rw [e2] at p5;exact p5⟩
   ·show toImm (29 + 1) _ _=_
    rw [toImm_tup]
    have p2':mapO (toImm 29 st'.H) vs=some as':=p2
    rw [p2']
   ·refine .tp _ _ p3.1 (fun x hx=>?_) p3.2
    obtain ⟨j,hj⟩:=List.getElem?_of_mem hx
    have hlt:j < rs.length:=by rw [p3.1];exact (List.getElem?_eq_some_iff.1 hj).1
    exact can_plain1 (p3.2 j _ x (List.getElem?_eq_getElem hlt) hj) (noTps_mem e3 _ (List.getElem_mem hlt))
  by_cases hv:vs.length=1
  ·obtain ⟨vs',rs',as2,q1,q2,q3,q5⟩:=resK_sim g1 27 af.res _ g4
   rw [p1] at q1;cases q1
   obtain ⟨v,rfl⟩:=List.length_eq_one_iff.1 hv
   have hl1:=(mapO_some q2).1
   obtain ⟨a,rfl⟩:=List.length_eq_one_iff.1 hl1.symm
   obtain ⟨r,rfl⟩:=List.length_eq_one_iff.1 (show rs'.length=1 by rw [q3.1];rfl)
   refine ⟨(v,st'.H,st'.nx),by unfold resA;rw [p1],a,?_,r,q3.2 0 r a rfl rfl,q5.2⟩
   rw [mapO_cons] at q2
   show toImm (27 + 3) st'.H v=some a
   cases hh:toImm (27 + 3) st'.H v with
   |none=>rw [hh] at q2;cases q2
   |some y=>rw [hh] at q2;cases q2;rfl
  ·exact many hv))
 exact ⟨v,H',nx',h1,h2⟩
end
end Go.Ax.V

set_option linter.unusedSimpArgs false
set_option linter.unusedVariables false
namespace Go.Ax.V
def SameE (p:Nat→Bool) (e e':Env):Prop:=∀t,p t=true→e'.get t=e.get t
theorem SameE.refl (p:Nat→Bool) (e:Env):SameE p e e:=fun _ _=>rfl
theorem SameE.trans {p:Nat→Bool} {a b c:Env} (h:SameE p a b) (h':SameE p b c):SameE p a c:=fun t ht=>(h' t ht).trans (h t ht)
section
variable {prog:Map AFunc} {cf:FnF} {nt np:Nat} {p:Nat→Bool}
end
end Go.Ax.V

set_option linter.unusedSimpArgs false
set_option linter.unusedVariables false
namespace Go.Ax.V
theorem interp_run (prog:Map AFunc):∀k,FnEv (fun _=>runFn prog) (interp prog k).fn∧CodeEv (fun _=>runCode prog) (interp prog k).code
 |0=>⟨fun f args H nx r h=>(by cases h),fun nt c st r h=>(by cases h)⟩
 |k + 1=>by
  obtain ⟨h1,h2⟩:=interp_run prog k
  constructor
  ·intro f args H nx r h
   obtain ⟨k0,hk⟩:=fnStep_ev (prog:=prog) h2 f args H nx r h
   exact Ev.const (run_fn (hk k0 (Nat.le_refl _)))
  ·intro nt c st r h
   obtain ⟨k0,hk⟩:=codeStep_ev h1 h2 nt c st r h
   exact Ev.const (run_code (hk k0 (Nat.le_refl _)))
theorem canL_nil:CanL [] []:=⟨rfl,fun j t x ht=>by simp at ht⟩
theorem canL_cons {t:TV} {x:AV} {ts:List TV} {as:List AV} (h:Can t x) (hs:CanL ts as):CanL (t :: ts) (x :: as):=by
 refine ⟨by simp [hs.1],fun j u y hu hy=>?_⟩
 cases j with
 |zero=>simp at hu hy;subst hu;subst hy;exact h
 |succ j=>exact hs.2 j u y (by simpa using hu) (by simpa using hy)
theorem wrap_id {n:Int} (h1:-9223372036854775808≤n) (h2:n < 9223372036854775808):wrapA .i64 n=n:=by
 unfold wrapA
 have:inR .i64 n=true:=by
  cases n with
  |ofNat m=>have h2':(m:Int) < 9223372036854775808:=h2;simp only [inR];simp;omega
  |negSucc m=>simp only [inR];simp;omega
 rw [this];rfl
end Go.Ax.V

set_option linter.unusedSimpArgs false
set_option linter.unusedVariables false
namespace Go.Ax.V
theorem condK_t {t:Bool} {a b:Prop} (h:t=true) (ha:a):condK (.b t) a b:=by subst h;exact ha
theorem condK_by {t:Bool} {a b:Prop} (ha:t=true→a) (hb:t=false→b):condK (.b t) a b:=by
 cases t with
 |true=>exact ha rfl
 |false=>exact hb rfl
theorem vs_eq {prog:Map AFunc} {f:Nat} {ts:List TV} {c:TV} {K:TV→Prop} (h:VS prog f ts (fun r=>r=c)) (hk:K c):VS prog f ts (fun r=>scOk true r∧K r):=
 h.mono (fun r hr=>by subst hr;exact ⟨trivial,hk⟩)
theorem gV_t {t bb:Bool} {P:TV→Prop} {k:TV→Prop} {v:TV} (ht:t=bb) (hp:P v) (hk:k v):∃v,gV (.b t) bb P v∧k v:=by
 subst ht
 refine ⟨v,?_,hk⟩
 unfold gV
 cases t <;> exact hp
theorem gV_f {t bb:Bool} {P:TV→Prop} {k:TV→Prop} (ht:t=!bb) (hk:k noT):∃v,gV (.b t) bb P v∧k v:=by
 subst ht
 refine ⟨noT,?_,hk⟩
 unfold gV
 cases bb <;> rfl
end Go.Ax.V
