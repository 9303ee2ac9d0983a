/- Part 6 of the proof: V4, V5, V6, V7, V8, V9, V10, V12, VS, V11, VD. -/
import Derived.Test.YtamgnhdbeecapaaCp5

namespace Go.Ax.V
section
variable {prog:Map bk} {cf:qc} {nt:Nat} {A:ee} {V:cg} {st:St} {d:Option Nat} {g:G} {k:cg->Prop}
def gz (cf:qc) (nt:Nat) (A:ee) (V:cg) (st:St) (d:Option Nat) (op:lX) (k:cg->Prop):Prop:=
 ∃v H' nx',q9 cf op (ev st.env) st.H st.nx=some (v,H',nx')/\Next nt A V st d v H' nx' k
theorem c9 {op:lX} {p:(ct->AV)->Option dg} {v:AV} (hk:kind op=.plan p) (hp:p (ev st.env)=some (.val v)) (h:Next nt A V st d v st.H st.nx k):gz cf nt A V st d op k:=
 ⟨v,st.H,st.nx,by simp only [q9,hk,hp,gU],h⟩
theorem Ek {op:lX} {p:(ct->AV)->Option dg} {f:Nat->AV} {ob:n9} (hk:kind op=.plan p) (hp:p (ev st.env)=some (.new f ob)) (h:Next nt A V st d (f st.nx) (st.H.put (some ob) st.nx) (st.nx+1) k):gz cf nt A V st d op k:=
 ⟨_,_,_,by simp only [q9,hk,hp,gU],h⟩
theorem o_mv (hR:R A V st) (ha:act g) {x:ct} (h:lM V g x fun w=>Ur nt V d g w k):gz cf nt A V st d (.mv x) k:=by
 obtain⟨w,hw,hk⟩:=gj hR ha h
 refine c9 rfl rfl ?_
 generalize ev st.env x=a at hw
 cases hw with
 |bad=>cases hk
 |tr hc=>
  cases g with
  |none=>exact cm hR (fun _=>.tr hc) hk
  |some p=>
   obtain⟨r,h1,h2⟩:=di hR ha hk
   cases h1
   exact h2 _ hc
 |gi=>exact cm hR (fun _=>.gi) hk
 |zf=>exact cm hR (fun _=>.zf) hk
 |ptr h=>exact cm hR (fun _=>.ptr h) hk
 |pd h=>exact cm hR (fun _=>.pd h) hk
 |sl h=>exact cm hR (fun _=>.sl h) hk
 |ea h=>exact cm hR (fun _=>.ea h) hk
 |pt hl hf h=>exact cm hR (fun _=>.pt hl hf h) hk
 |st hv h=>exact cm hR (fun _=>.st hv h) hk
 |ow h=>exact cm hR (fun _=>.ow h) hk
 |e2 h=>exact cm hR (fun _=>.e2 h) hk
 |gl h1 h2 h3 h4 h5=>exact cm hR (fun _=>.gl h1 h2 h3 h4 h5) hk
theorem K7 {c a b r:TV} {x y z:AV} (h:bf c a b=some r) (hc:Can c x) (ha:Can a y) (hb:Can b z):∃t,x=.bool t/\Can r (match t with|true=>y|false=>z):=by
 unfold bf at h
 split at h
 ·rename_i t
  cases hc
  exact⟨t,rfl,by cases t<;>(cases h;assumption)⟩
 ·cases h
theorem TS (hR:R A V st) (ha:act g) {c a b:ct} (h:ta V g c fun c=>ta V g a fun a=>ta V g b fun b=>ko nt V d g (bf c a b) k):gz cf nt A V st d (.pick c a b) k:=by
 obtain⟨c',h1,h⟩:=gm hR ha h
 obtain⟨a',h2,h⟩:=gm hR ha h
 obtain⟨b',h3,h⟩:=gm hR ha h
 obtain⟨r,h4,h5⟩:=di hR ha h
 obtain⟨t,e,h6⟩:=K7 h4 h1 h2 h3
 cases t with
 |true=>exact c9 rfl (by simp only [Cl,e]) (h5 _ h6)
 |false=>exact c9 rfl (by simp only [Cl,e]) (h5 _ h6)
theorem Sa {sh:Sh} (hR:R A V st) {zero:List AV} (h:match gJ jz zero with
   |true=>ry nt V d g (fun O=>.ptr O 0) (.ob (.a (gE zero)) (tcD sh d (oU 0 zero))) k
   |false=>False):gz cf nt A V st d (.alloc zero) k:=by
 split at h
 ·rename_i hc
  exact Ek rfl rfl (uq hR h (fun A' hA=>⟨_,_,_,rfl,by rw [Map.bt,if_pos rfl],Iv A' hc (fun j w=>Tl)⟩) rfl rfl (fun A' O hO=>.ptr hO))
 ·cases h
theorem Lr {v:TV} (h:v.jn=false):∃ts,gk v=some ts:=by
 cases v<;>first|exact⟨_,rfl⟩|cases h
theorem NZ {A:ee} {v u:TV} {ovs:List (Nat×VV)} {cs:List AV} {ts:List TV} {c:Nat} (hc:en A v ovs cs ts) (ho:fc c ovs=some .gi) (hp:av v c 1 (.l [])=some u):∃us,en A u (v9 c 1 ovs) cs us:=by
 obtain⟨ts',xs,us,h1,h2,h3,h4,h5,h6,h7⟩:=gy hp
 have e1:=hc.cells.symm.trans h1;cases e1
 cases h2
 refine⟨us,h4,h5.trans hc.len,fun j w hj=>?_,fun j t x ht hx=>?_⟩
 ·rw [nv] at hj
  split at hj
  ·cases hj
  ·rw [h5];exact hc.keys j w hj
 ·rw [h7] at ht
  rw [nv]
  by_cases hj:c<=j/\j < c+1
  ·rw [if_pos hj] at ht ⊢
   have:j=c:=by omega
   subst this
   simp at ht
   subst ht
   have hlt:j < ts.length:=hc.keys j _ ho
   have:=hc.at_ j _ x (List.getElem?_eq_getElem hlt) hx
   rw [ho] at this
   rcases this with rfl|rfl
   ·exact⟨.nil,rfl⟩
   ·exact⟨pg,rfl⟩
  ·rw [if_neg hj] at ht ⊢
   exact hc.at_ j t x ht hx
theorem FZ:∀{l:List Nat} {v:TV} {ovs:List (Nat×VV)} {k:TV->List (Nat×VV)->Prop},LW l v ovs k->(∀v o,k v o->False)->False
 |[],v,ovs,k,hk,h=>h _ _ hk
 |c::l,v,ovs,k,hk,h=>by
  simp only [LW] at hk
  split at hk
  ·obtain⟨u,_,hk⟩:=hk;exact FZ hk h
  ·cases hk
theorem Km {A:ee} {cs:List AV}:∀(l:List Nat) (v:TV) (ovs:List (Nat×VV)) (ts:List TV) (k:TV->List (Nat×VV)->Prop),en A v ovs cs ts->LW l v ovs k->∃v' ovs' ts',en A v' ovs' cs ts'/\k v' ovs'
 |[],v,ovs,ts,k,h,hk=>⟨v,ovs,ts,h,hk⟩
 |c::l,v,ovs,ts,k,h,hk=>by
  simp only [LW] at hk
  split at hk
  ·rename_i ho
   obtain⟨u,hp,hk⟩:=hk
   obtain⟨us,h'⟩:=NZ h ho hp
   exact Km l u _ us k h' hk
  ·cases hk
theorem YK {sh:Sh} (hR:R A V st) (ha:act g) {x:ct} (h:lM V g x fun w=>match KM w with
  |some (v,o)=>v.jn=false/\LW (XP sh d) v o fun v o=>ry nt V d g (fun O=>.ptr O 0) (.ob v o) k
  |none=>False):gz cf nt A V st d (.box x) k:=by
 obtain⟨w,hw,hk⟩:=gj hR ha h
 split at hk
 ·rename_i v o hs
  obtain⟨ht,hk⟩:=hk
  obtain⟨ts,hts⟩:=Lr ht
  obtain⟨as,h1,h2⟩:=qt hR.one hw hs hts
  obtain⟨v',o',ts',h3,hk⟩:=Km _ _ _ _ _ h2 hk
  exact Ek (f:=fun id=>.ptr id 0 0) (ob:=.row 0 as) rfl (by simp only [Jn,h1]) (uq hR hk (fun A' hA=>⟨_,_,_,rfl,by rw [Map.bt,if_pos rfl],h3.mono hA⟩) rfl rfl (fun A' O hO=>.ptr hO))
 ·cases hk
theorem yq (ρ:ct->AV) (p:Nat×Nat×ct) (r:List (Nat×Nat×ct)) (cells:List AV):fill ρ (p::r) cells=match (ρ p.2.2).cells? with
  |none=>none
  |some cs=>bif Nat.beq cs.length p.2.1 then match jm cells p.1 cs with
    |some cells=>fill ρ r cells
    |none=>none
   else none:=rfl
theorem E_ (hR:R A V st) (ha:act g):∀(parts:List (Nat×Nat×ct)) (v:TV) (ovs:List (Nat×VV)) (cs:List AV) (ts:List TV) (k:TV->List (Nat×VV)->Prop),en A v ovs cs ts->v=.a ts->HX V g parts v ovs k->
  ∃v' ovs' cs' ts',fill (ev st.env) parts cs=some cs'/\en A v' ovs' cs' ts'/\v'=.a ts'/\k v' ovs'
 |[],v,ovs,cs,ts,k,hc,hv,hk=>⟨v,ovs,cs,ts,rfl,hc,hv,hk⟩
 |(off,n,x)::r,v,ovs,cs,ts,k,hc,hv,hk=>by
  obtain⟨w,hw,hk⟩:=gj hR ha hk
  split at hk
  ·rename_i t o hs
   obtain⟨u,hp,hk⟩:=hk
   obtain⟨_,xs,_,_,hxs,_⟩:=gy hp
   obtain⟨as,h1,h2⟩:=qt hR.one hw hs hxs
   obtain⟨hn,cs',us,h3,h4,h5⟩:=qm hc h2 hp
   obtain⟨l',rfl⟩:=h5 _ hv
   have:=h4.cells
   cases this
   obtain⟨v',ovs',cs'',ts',g1,g2,g3,g4⟩:=E_ hR ha r _ _ cs' _ k h4 rfl hk
   refine⟨v',ovs',cs'',ts',?_,g2,g3,g4⟩
   rw [yq]
   simp only [h1,cond_eq_ite,Nat.beq_eq,if_pos hn,h3,g1]
  ·cases hk
theorem SS {v:TV} {ovs:List (Nat×VV)} {cs:List AV} {ts:List TV} (h:en A v ovs cs ts) (hv:v=.a ts):VR A (ij v ovs) (.agg cs):=by
 cases ovs with
 |nil=>
  subst hv
  refine .tr (.a _ _ h.len (fun x hx=>?_) (fun j t x ht hx=>(h.at_ j t x ht hx).1))
  obtain⟨j,hj⟩:=List.getElem?_of_mem hx
  have hlt:j < ts.length:=by rw [h.len];exact(List.getElem?_eq_some_iff.1 hj).1
  exact(h.at_ j _ x (List.getElem?_eq_getElem hlt) hj).2
 |cons p r=>exact .st hv h
theorem R_ (hR:R A V st) {zero:List AV} {parts:List (Nat×Nat×ct)} (h:match gJ jz zero with
   |true=>HX V none parts (.a (gE zero)) (oU 0 zero) fun v ovs=>jj nt V d none (ij v ovs) k
   |false=>False):gz cf nt A V st d (.build zero parts) k:=by
 split at h
 ·rename_i hc
  obtain⟨v',ovs',cs',ts',h1,h2,h3,h4⟩:=E_ (g:=none) hR trivial parts _ _ zero _ _ (Au A hc) rfl h
  exact c9 rfl (by simp only [yj,h1]) (cm hR (fun _=>SS h2 h3) h4)
 ·cases h
theorem LR {v:TV} {cs:List AV} {ts:List TV} (h:en A v [] cs ts):∀x∈cs,AV.flat x=true:=fun x hx=>by
 obtain⟨j,hj⟩:=List.getElem?_of_mem hx
 have hlt:j < ts.length:=by rw [h.len];exact(List.getElem?_eq_some_iff.1 hj).1
 exact(h.at_ j _ x (List.getElem?_eq_getElem hlt) hj).2
theorem Ki {cs:List AV} (h:gJ jz cs=true):en A (.a (gE cs)) [] cs (gE cs):=by
 refine⟨rfl,tn cs,fun j w hw=>(by cases hw),fun j t x ht hx=>?_⟩
 have hm:x∈cs:=List.mem_of_getElem? hx
 rw [AA,hx] at ht
 cases ht
 exact vb (cx.1 h x hm)
theorem Je (hR:R A V st) (ha:act g):∀(parts:List (Nat×Nat×ct)) (k:List (Nat×Nat×TV)->Prop),Pd V g parts k->
  ∃l,k l/\∀(v v':TV) (cs:List AV) (ts:List TV),en A v [] cs ts->v=.a ts->C_ l v=some v'->∃cs' ts',fill (ev st.env) parts cs=some cs'/\en A v' [] cs' ts'/\v'=.a ts'
 |[],k,hk=>⟨[],hk,fun v v' cs ts hc hv hp=>by cases hp;exact⟨cs,ts,rfl,hc,hv⟩⟩
 |(off,n,x)::r,k,hk=>by
  obtain⟨t,ht,hk⟩:=gm hR ha hk
  obtain⟨l,hl,hf⟩:=Je hR ha r _ hk
  refine⟨_,hl,fun v v' cs ts hc hv hp=>?_⟩
  simp only [C_] at hp
  split at hp
  ·rename_i u hu
   obtain⟨_,xs,_,_,hxs,_⟩:=gy hu
   obtain⟨as,h1,h2⟩:=qt hR.one (.tr ht) (w:=.tr t) rfl hxs
   obtain⟨hn,cs',us,h3,h4,h5⟩:=qm hc h2 hu
   obtain⟨l',rfl⟩:=h5 _ hv
   have:=h4.cells
   cases this
   obtain⟨cs'',ts',g1,g2,g3⟩:=hf _ v' cs' _ h4 rfl hp
   refine⟨cs'',ts',?_,g2,g3⟩
   rw [yq]
   simp only [h1,cond_eq_ite,Nat.beq_eq,if_pos hn,h3,g1]
  ·cases hp
theorem PB (hR:R A V st) (ha:act g) {zero:List AV} {parts:List (Nat×Nat×ct)} (h:match gJ jz zero with
   |true=>Pd V g parts fun l=>ko nt V d g (C_ l (.a (gE zero))) k
   |false=>False):gz cf nt A V st d (.build zero parts) k:=by
 split at h
 ·rename_i hc
  obtain⟨l,hl,hf⟩:=Je hR ha parts _ h
  obtain⟨v,h1,h2⟩:=di hR ha hl
  obtain⟨cs',ts',g1,g2,rfl⟩:=hf _ v zero _ (Ki hc) rfl h1
  refine c9 rfl (by simp only [yj,g1]) (h2 _ (.a _ _ g2.len (LR g2) (fun j t x ht hx=>(g2.at_ j t x ht hx).1)))
 ·cases h
theorem look_eq (H:cw) (nx:Nat) {id g off n:Nat} {cells cs:List AV} (hH:H.get id=some (.row g cells)) (hc:cut cells off n=some cs) (kk:List AV->Option n9->Option Out) (v:AV) (hk:kk cs none=some ⟨fun _=>v,none,none⟩) :
  gU (.look (some ⟨id,g,off,n⟩) none kk) H nx=some (v,H,nx):=by
 simp only [gU,oa,jf,hH,cond_eq_ite,Nat.beq_eq,if_pos,hc,ur,hk,EP]
theorem OJ {op:lX} {p:(ct->AV)->Option dg} (hk:kind op=.plan p) {id gg off n:Nat} {cells cs:List AV} {kk:List AV->Option n9->Option Out} {v:AV} (hp:p (ev st.env)=some (.look (some ⟨id,gg,off,n⟩) none kk))
  (hH:st.H.get id=some (.row gg cells)) (hc:cut cells off n=some cs) (hkk:kk cs none=some ⟨fun _=>v,none,none⟩) (h:Next nt A V st d v st.H st.nx k):gz cf nt A V st d op k:=
 ⟨v,st.H,st.nx,by simp only [q9,hk,hp];exact look_eq _ _ hH hc _ _ hkk,h⟩
theorem nw {sz:Option Nat} {a:ct} {id gg off:Nat} {cells l:List AV} {v:AV} (he:ev st.env a=.ptr id gg off) (hH:st.H.get id=some (.row gg cells)) (hc:cut cells off (gC sz)=some l) (hm:Lf sz l=some v)
  (h:Next nt A V st d v st.H st.nx k):gz cf nt A V st d (.load sz a) k:=
 OJ (cs:=l) (v:=v) (kk:=fun cs _=>match Lf sz cs with|some v=>some ⟨fun _=>v,none,none⟩|none=>none) rfl (by simp only [vu,he];rfl) hH hc (by simp only [hm]) h
theorem Av {cs:List AV} {off:Nat} {x:AV} (h:cs[off]?=some x):cut cs off 1=some [x]:=by
 obtain⟨hlt,hx⟩:=List.getElem?_eq_some_iff.1 h
 rw [js,if_pos (by omega),List.drop_eq_getElem_cons hlt,hx]
 rfl
theorem At {v:TV} {ovs:List (Nat×VV)} {cs:List AV} {ts:List TV} (hc:en A v ovs cs ts) {off:Nat} {r:TV} (h:bh v off=some r) (ho:fc off ovs=none):∃x,cut cs off 1=some [x]/\Can r x/\x.flat=true:=by
 obtain⟨ts',h1,h2⟩:=u9 h
 have:=hc.cells.symm.trans h1;cases this
 have hlt:off < cs.length:=by rw [←hc.len];exact(List.getElem?_eq_some_iff.1 h2).1
 have hx:cs[off]?=some cs[off]:=List.getElem?_eq_getElem hlt
 have:=hc.at_ _ _ _ h2 hx
 rw [ho] at this
 exact⟨_,Av hx,this⟩
theorem EI {c:Option TV} {r:TV} (h:b9 c=some r):∃t,c=some t/\∀x,Can t x->Can r x:=by
 cases c with
 |none=>cases h
 |some t=>
  cases t with
  |BK y u=>cases h;exact⟨_,rfl,fun x hx=>by cases hx;assumption⟩
  |_=>cases h;exact⟨_,rfl,fun x hx=>hx⟩
theorem oE {v:TV} {ovs:List (Nat×VV)} {cs:List AV} {ts:List TV} (hc:en A v ovs cs ts) {off n:Nat} {r:TV} (h:c8 v off n=some r) :
  ∃l ls,cut cs off n=some l/\r=.a ls/\en A r (v8 off n ovs) l ls:=by
 obtain⟨ts',h0,h1,hl,rfl⟩:=Gz h
 have:=hc.cells.symm.trans h1;cases this
 refine⟨(cs.drop off).take n,_,by rw [js,if_pos (by rw [←hc.len];exact hl)],rfl,⟨rfl,?_,fun j w hj=>?_,fun j t x ht hx=>?_⟩⟩
 ·have:=hc.len;simp [this]
 ·rw [Cq] at hj
  split at hj
  ·rename_i hj'
   have:=hc.keys _ _ hj
   simp only [List.length_take,List.length_drop];omega
  ·cases hj
 ·simp only [List.getElem?_take,List.getElem?_drop] at ht hx
  split at ht
  ·rename_i hj
   rw [if_pos hj] at hx
   rw [Cq,if_pos hj,Nat.add_comm]
   exact hc.at_ _ _ _ ht hx
  ·cases ht
theorem Ca {r:TV} {l:List AV} {ls:List TV} (h:en A r [] l ls) (hr:r=.a ls):Can r (.agg l):=by
 have:=SS h hr
 cases this
 assumption
theorem Qe {H:cw} {K s io iz ver:Nat} {hole:Option Nat} {es:List TV} {id g b z len cap:Nat} {ex:Bool} (h:OR A H (.gn K s io iz ver hole es) (.ref id g b z len cap ex)) :
  z=s/\len=es.length/\cap=es.length/\ex=false/\0 < s/\io < s/\0 < iz/\∃cells,H.get id=some (.row g cells)/\b<=cells.length/\Ok A H K s io iz ver hole es (cells.drop b):=by
 obtain⟨h1,h2,h3,h4⟩:=h
 rcases h4 with ⟨_,e|e⟩|⟨id',g',b',cells,e,h5,h6,h7⟩
 ·cases e
 ·cases e
 ·cases e;exact⟨rfl,rfl,rfl,rfl,h1,h2,h3,cells,h5,h6,h7⟩
theorem FD {H:cw} {K s io iz ver:Nat} {hole:Option Nat} {es:List TV} {cs:List AV} (h:Ok A H K s io iz ver hole es cs) (hio:io < s) {i:Nat} {e:TV} (he:es[i]?=some e) :
  ∃ts,en A e [(io,.ow K ver i)] ((cs.drop (i*s)).take s) ts/\ts.length=s:=by
 obtain⟨ts,g1,g2,g3,x,g4,g5,g6⟩:=h.el i e he
 have hlt:=(List.getElem?_eq_some_iff.1 he).1
 have hle:i*s+s<=es.length*s:=by rw [←Nat.succ_mul];exact Nat.mul_le_mul_right s hlt
 have hseg:∀(j:Nat),((cs.drop (i*s)).take s)[j]?=if j < s then cs[i*s+j]? else none:=fun j=>by rw [List.getElem?_take,List.getElem?_drop]
 refine⟨ts,⟨g1,by rw [List.length_take,List.length_drop,h.len,g2];omega,fun j w hj=>?_,fun j t y ht hy=>?_⟩,g2⟩
 ·rw [ei] at hj
  split at hj
  ·rename_i e';subst e';rw [g2];exact hio
  ·cases hj
 ·have hj:j < s:=by rw [←g2];exact(List.getElem?_eq_some_iff.1 ht).1
  rw [hseg,if_pos hj] at hy
  rw [ei]
  split
  ·rename_i e';subst e';rw [g4] at hy;cases hy;exact g5
  ·rename_i hne;exact g3 j t y (Ne.symm hne) ht hy
theorem FT {cells l:List AV} {b i s n off m:Nat} (h3:cut (((cells.drop b).drop (i*s)).take s) off m=some l) (hlt:i < n) (hl:cells.length - b=n*s) (hb:b<=cells.length):cut cells (b+i*s+off) m=some l:=by
 obtain⟨h6,h7⟩:=pe h3
 have h9:i*s+s<=n*s:=by
  have:(i+1)*s<=n*s:=Nat.mul_le_mul_right s hlt
  rwa [Nat.add_mul,Nat.one_mul] at this
 have h8:off+m<=s:=by simp only [List.length_take] at h6;omega
 rw [js,if_pos (by omega),h7]
 congr 1
 simp only [List.drop_drop,List.drop_take,List.take_take]
 congr 1
 omega
theorem O6 {g:G} (ha:act g) {P:Option TV} {k:Prop} (h:Yu g P k):∃e,P=some e/\k:=by
 cases g with
 |none=>exact h
 |some q=>obtain⟨c,bb⟩:=q;obtain⟨e,h1,h2⟩:=h;exact⟨e,h1 ha,h2⟩
theorem N6 {off n io:Nat} {w:VV} (h:BX off n io=true):v8 off n [(io,w)]=[]:=by
 simp only [BX,Bool.or_eq_true,Nat.ble_eq,Nat.blt_eq] at h
 simp only [v8,cond_eq_ite,Bool.and_eq_true,Nat.ble_eq,Nat.blt_eq]
 rw [if_neg (by omega)]
theorem PX {es:List TV} {i io j off:Nat} {sz:Option Nat} {r:TV} (h:ldI es i io j off sz=some r):∃l,Ac es i io=some l/\gA l j off sz=some r:=by
 unfold ldI at h
 split at h
 ·rename_i l hl;exact⟨l,hl,h⟩
 ·cases h
theorem XS {H:cw} {z:Nat} {es:List TV} {id g b len cap:Nat} {ex:Bool} (hs:Eg H z es (.ref id g b z len cap ex)) {i off:Nat} {sz:Option Nat} {r:TV} (h1:gA es i off sz=some r) :
  ∃cells l x,H.get id=some (.row g cells)/\cut cells (b+i*z+off) (gC sz)=some l/\Lf sz l=some x/\Can r x:=by
 obtain⟨hz,hs⟩:=hs
 rcases hs with ⟨_,e|e⟩|⟨id',g',b',cells,e,hH,hb,hE⟩
 ·cases e
 ·cases e
 ·cases e
  unfold gA at h1
  split at h1
  ·cases h1
  rename_i e1 he1
  have hlt:i < es.length:=(List.getElem?_eq_some_iff.1 he1).1
  obtain⟨ts,ht1,ht2⟩:=lV.1 (hE.el i e1 he1)
  obtain⟨l,x,h3,h4,h5⟩:=Cz ht1 ⟨ht2,qj hE.flat _ _⟩ h1
  have hl:=hE.len
  rw [List.length_drop] at hl
  exact⟨cells,l,x,hH,FT h3 hlt hl hb,h4,h5⟩
theorem OH {H:cw} {z:Nat} {es:List TV} {id g b z' len cap:Nat} {ex:Bool} (hs:Eg H z es (.ref id g b z' len cap ex)):z'=z:=by
 rcases hs.2 with ⟨_,e|e⟩|⟨id',g',b',cells,e,_⟩<;>cases e
 rfl
theorem TU (hR:R A V st) (ha:act g) {sz:Option Nat} {a:ct} (h:lM V g a fun w=>uv nt V d g sz w k):gz cf nt A V st d (.load sz a) k:=by
 obtain⟨w,hw,hk⟩:=gj hR ha h
 generalize he:ev st.env a=x at hw
 cases hw<;>first|(cases hk;done)|skip
 ·rename_i O off id hO
  simp only [uv] at hk
  split at hk
  ·rename_i v ovs hv
   obtain⟨y,hy,id',cs,ts,rfl,hH,hc⟩:=hR.heap O _ hv
   rw [hO] at hy;cases hy
   split at hk
   ·split at hk
    ·rename_i w hw
     have hlt:=hc.keys _ _ hw
     have hx:cs[off]?=some (cs[off]'(by rw [←hc.len];exact hlt)):=List.getElem?_eq_getElem _
     have hs:=hc.at_ off _ _ (List.getElem?_eq_getElem hlt) hx
     rw [hw] at hs
     refine nw he hH (Av hx) rfl (cm hR (fun _=>?_) hk)
     cases w<;>first|(exact absurd hs (by intro hh;exact hh))|skip
     ·rcases hs with e|e
      ·rw [e];exact .gi
      ·rw [e];exact .zf
     ·exact .sl hs
     ·exact .ow hs
    ·rename_i ho
     obtain⟨r,h1,h2⟩:=di hR ha hk
     obtain⟨t,h1',hun⟩:=EI h1
     obtain⟨x,h3,h4,_⟩:=At hc h1' ho
     exact nw he hH h3 rfl (h2 _ (hun _ h4))
   ·rename_i n
    split at hk
    ·rename_i ho
     obtain⟨r,h1,h2⟩:=di hR ha hk
     obtain⟨l,ls,h3,h4,h5⟩:=oE hc h1
     rw [ho] at h5
     exact nw he hH h3 rfl (h2 _ (Ca h5 h4))
    ·rename_i p r ho
     split at hk
     ·obtain⟨u,h1,h2⟩:=hk
      obtain⟨l,ls,h3,h4,h5⟩:=oE hc h1
      rw [ho] at h5
      exact nw he hH h3 rfl (cm hR (fun _=>.st h4 h5) h2)
     ·cases hk
  ·cases hk
 ·rename_i O off id hO
  simp only [uv] at hk
  split at hk
  ·rename_i v ovs hv
   split at hk
   rotate_left
   ·cases hk
   obtain⟨y,hy,id',cs,ts,rfl,hH,hc⟩:=hR.heap O _ hv
   rw [hO] at hy;cases hy
   obtain⟨r,h1,h2⟩:=di hR ha hk
   have hf:Og ts cs:=by
    refine⟨⟨hc.len,fun j t x ht hx=>(hc.at_ j t x ht hx).1⟩,fun x hx=>?_⟩
    obtain⟨j,hj⟩:=List.getElem?_of_mem hx
    have hlt:j < ts.length:=by rw [hc.len];exact(List.getElem?_eq_some_iff.1 hj).1
    exact(hc.at_ j _ x (List.getElem?_eq_getElem hlt) hj).2
   obtain⟨l,x,h3,h4,h5⟩:=Cz hc.cells hf h1
   exact nw he hH h3 h4 (h2 _ h5)
  ·cases hk
 ·rename_i O i off id gg b z len cap ex hO
  simp only [uv] at hk
  split at hk
  ·rename_i z' es hv
   obtain⟨y,hy,hs⟩:=hR.heap O _ hv
   rw [hO] at hy;cases hy
   obtain⟨r,h1,h2⟩:=di hR ha hk
   obtain⟨hz,hs⟩:=hs
   rcases hs with ⟨_,e|e⟩|⟨id',g',b',cells,e,hH,hb,hE⟩
   ·cases e
   ·cases e
   ·cases e
    unfold gA at h1
    split at h1
    ·cases h1
    rename_i e1 he1
    have hlt:i < es.length:=(List.getElem?_eq_some_iff.1 he1).1
    obtain⟨ts,ht1,ht2⟩:=lV.1 (hE.el i e1 he1)
    obtain⟨l,x,h3,h4,h5⟩:=Cz ht1 ⟨ht2,qj hE.flat _ _⟩ h1
    have hl:=hE.len
    rw [List.length_drop] at hl
    obtain⟨h6,h7⟩:=pe h3
    have h8:off+gC sz<=z:=by simp only [List.length_take] at h6;omega
    have h9:i*z+z<=es.length*z:=by
     have:(i+1)*z<=es.length*z:=Nat.mul_le_mul_right z hlt
     rwa [Nat.add_mul,Nat.one_mul] at this
    refine nw he hH (l:=l) ?_ h4 (h2 _ h5)
    rw [js,if_pos (by omega),h7]
    congr 1
    simp only [List.drop_drop,List.drop_take,List.take_take]
    congr 1
    omega
  ·rename_i K s io iz ver hole es hv
   split at hk
   rotate_left
   ·cases hk
   rename_i hK
   rw [Nat.beq_eq] at hK
   subst hK
   obtain⟨y,hy,hs⟩:=hR.heap K _ hv
   rw [hO] at hy;cases hy
   obtain⟨rfl,rfl,rfl,rfl,p1,p2,p3,cells,hH,hb,hG⟩:=Qe hs
   have hl:=hG.len
   rw [List.length_drop] at hl
   split at hk
   ·split at hk
    ·rename_i ho
     rw [Nat.beq_eq] at ho
     subst ho
     split at hk
     rotate_left
     ·cases hk
     obtain⟨e,he1,hk⟩:=O6 ha hk
     obtain⟨ts,g1,g2,g3,x,g4,g5,g6⟩:=hG.el i e he1
     refine nw he hH (l:=[x]) ?_ rfl (cm hR (fun _=>.ow g5) hk)
     rw [List.getElem?_drop] at g4
     have:=Av g4
     rw [←Nat.add_assoc] at this
     exact this
    ·obtain⟨r,h1,h2⟩:=di hR ha hk
     rename_i ho
     have ho':off≠io:=fun e=>by subst e;simp at ho
     unfold gA at h1
     split at h1
     ·cases h1
     rename_i e1 he1
     obtain⟨ts,hc,hts⟩:=FD hG p2 he1
     obtain⟨x,h3,h4,_⟩:=At hc h1 (by rw [ei,if_neg (Ne.symm ho')];rfl)
     exact nw he hH (FT h3 (List.getElem?_eq_some_iff.1 he1).1 hl hb) rfl (h2 _ h4)
   ·rename_i n
    split at hk
    rotate_left
    ·cases hk
    rename_i hap
    obtain⟨r,h1,h2⟩:=di hR ha hk
    unfold gA at h1
    split at h1
    ·cases h1
    rename_i e1 he1
    obtain⟨ts,hc,hts⟩:=FD hG p2 he1
    obtain⟨l,ls,h3,h4,h5⟩:=oE hc h1
    rw [N6 hap] at h5
    exact nw he hH (FT h3 (List.getElem?_eq_some_iff.1 he1).1 hl hb) rfl (h2 _ (Ca h5 h4))
  ·cases hk
 ·rename_i v cs b off n hl hf hcc
  obtain⟨r,h1,h2⟩:=di hR ha hk
  obtain⟨ts,ht1,ht2⟩:=lV.1 hcc
  obtain⟨l,x,h3,h4,h5⟩:=Cz ht1 ⟨ht2,qj hf _ _⟩ h1
  obtain⟨h6,h7⟩:=pe h3
  have h8:off+gC sz<=n:=by simp only [List.length_take] at h6;omega
  have hcut:cut cs (b+off) (gC sz)=some l:=by
   rw [js,if_pos (by omega),h7]
   congr 1
   simp only [List.drop_drop,List.drop_take,List.take_take]
   congr 1
   omega
  exact c9 (v:=x) rfl (by simp only [vu,he,hcut,h4,lq]) (h2 _ h5)
 ·rename_i O v i j off id gg b z len cap ex hA
  obtain⟨s,io,iz,es,ho,hk⟩:=iw hk
  obtain⟨y,hy,hs⟩:=hR.heap O _ ho
  obtain⟨r,h1,h2⟩:=di hR ha hk
  obtain⟨l,hl,h1⟩:=PX h1
  have hsl:=Dn hs hl (by simp) hA
  obtain rfl:=OH hsl
  obtain⟨cells,l',x,hH,h3,h4,h5⟩:=XS hsl h1
  exact nw he hH h3 h4 (h2 _ h5)
end
end Go.Ax.V

namespace Go.Ax.V
section
variable {prog:Map bk} {cf:qc} {nt:Nat} {A:ee} {V:cg} {st:St} {d:Option Nat} {g:G} {k:cg->Prop}
theorem s5 {α:Type} (l:List α) (a n j:Nat):((l.drop a).take n)[j]?=if j < n then l[a+j]? else none:=by
 rw [List.getElem?_take,List.getElem?_drop]
theorem gv {i j z:Nat} (h:i < j):i*z+z<=j*z:=by
 have:(i+1)*z<=j*z:=Nat.mul_le_mul_right z h
 rwa [Nat.add_mul,Nat.one_mul] at this
theorem Qq {z:Nat} {es:List TV} {row row' ce':List AV} {i:Nat} {e e':TV} (hE:M5 z es row) (hi:es[i]?=some e) (hc:CX e' ce') (hl:ce'.length=z) (hf:∀x∈ce',AV.flat x=true)
  (hl':row'.length=row.length) (hr:∀j,row'[j]?=if i*z<=j/\j < i*z+z then ce'[j - i*z]? else row[j]?):M5 z (es.set i e') row':=by
 have hlt:i < es.length:=(List.getElem?_eq_some_iff.1 hi).1
 refine⟨by rw [hl',hE.len,List.length_set],fun x hx=>?_,fun j e1 hj=>?_⟩
 ·obtain⟨q,hq⟩:=List.getElem?_of_mem hx
  rw [hr] at hq
  split at hq
  ·exact hf x (List.mem_of_getElem? hq)
  ·exact hE.flat x (List.mem_of_getElem? hq)
 ·rw [List.getElem?_set] at hj
  by_cases e:i=j
  ·subst e
   rw [if_pos rfl,if_pos hlt] at hj
   cases hj
   have:(row'.drop (i*z)).take z=ce':=by
    apply List.ext_getElem?
    intro q
    rw [s5]
    by_cases hq:q < z
    ·rw [if_pos hq,hr,if_pos ⟨by omega,by omega⟩];congr 1;omega
    ·rw [if_neg hq];exact(List.getElem?_eq_none_iff.2 (by omega)).symm
   rw [this];exact hc
  ·rw [if_neg e] at hj
   have:(row'.drop (j*z)).take z=(row.drop (j*z)).take z:=by
    apply List.ext_getElem?
    intro q
    rw [s5,s5]
    by_cases hq:q < z
    ·rw [if_pos hq,if_pos hq,hr,if_neg]
     rintro⟨h1,h2⟩
     rcases Nat.lt_or_gt_of_ne e with h|h
     ·have:=gv (z:=z) h;omega
     ·have:=gv (z:=z) h;omega
    ·rw [if_neg hq,if_neg hq]
   rw [this];exact hE.el j e1 hj
theorem XR {H:cw} {z:Nat} {es es':List TV} {id g b len cap:Nat} {ex:Bool} (hs:Eg H z es (.ref id g b z len cap ex)) {i off sz:Nat} {t:TV} {as:List AV} {xs:List TV} {A:ee} (hp:fl es i off sz t=some es') (hx:en A t [] as xs) :
  as.length=sz/\∃cells cells',H.get id=some (.row g cells)/\jm cells (b+i*z+off) as=some cells'/\Eg (H.put (some (.row g cells')) id) z es' (.ref id g b z len cap ex):=by
 obtain⟨hz,hs⟩:=hs
 rcases hs with ⟨_,e|e⟩|⟨id',g',b',cells,e,hH,hb,hE⟩
 ·cases e
 ·cases e
 ·cases e
  unfold fl at hp
  split at hp
  ·cases hp
  rename_i e1 he1
  split at hp
  ·rename_i e1' hp'
   cases hp
   have hlt:i < es.length:=(List.getElem?_eq_some_iff.1 he1).1
   obtain⟨ts,ht1,ht2⟩:=lV.1 (hE.el i e1 he1)
   have hce:en A e1 [] (((cells.drop b).drop (i*z)).take z) ts:=⟨ht1,ht2.1,fun j w hj=>by simp [fc] at hj,fun j t x ht hx=>⟨ht2.2 j t x ht hx,qj hE.flat _ _ x (List.mem_of_getElem? hx)⟩⟩
   obtain⟨hn,ce',us,h3,h4,h5⟩:=qm hce hx hp'
   obtain⟨hov,hat⟩:=oc h3
   obtain⟨hb1,_⟩:=lD h3
   have hl:=hE.len
   rw [List.length_drop] at hl
   have h9:=gv (z:=z) hlt
   have hz':(((cells.drop b).drop (i*z)).take z).length=z:=by simp only [List.length_take,List.length_drop];omega
   rw [hz'] at hb1 hov
   have hov2:jm cells (b+i*z+off) as=some (cells.take (b+i*z+off)++as++cells.drop (b+i*z+off+as.length)):=by rw [v7,if_pos (by omega)]
   obtain⟨hl2,hat2⟩:=oc hov2
   refine⟨hn,cells,_,hH,hov2,hz,.inr ⟨id,g,b,_,by simp only [List.length_set],by rw [Map.bt,if_pos rfl],by omega,?_⟩⟩
   refine Qq (ce':=ce') hE he1 (lV.2 ⟨us,h4.cells,h4.len,fun j t x ht hx=>((h4.at_ j t x ht hx):Can t x/\_).1⟩) hov (fun x hx=>?_) (by simp only [List.length_drop];omega) (fun j=>?_)
   ·obtain⟨q,hq⟩:=List.getElem?_of_mem hx
    have hlq:q < us.length:=by rw [h4.len];exact(List.getElem?_eq_some_iff.1 hq).1
    exact((h4.at_ q _ x (List.getElem?_eq_getElem hlq) hq):Can _ x/\_).2
   ·rw [List.getElem?_drop,hat2,List.getElem?_drop]
    by_cases hj:i*z<=j/\j < i*z+z
    ·rw [if_pos hj,hat,s5,List.getElem?_drop]
     by_cases hq:off<=j - i*z/\j - i*z < off+as.length
     ·rw [if_pos hq,if_pos (by omega)];congr 1;omega
     ·rw [if_neg hq,if_neg (by omega),if_pos (by omega)];congr 1;omega
    ·rw [if_neg hj,if_neg (by omega)]
  ·cases hp
theorem YV {A:ee} {H:cw} {K s io iz ver:Nat} {hole:Option Nat} {es es':List TV} {b:Nat} {cells as:List AV} {xs:List TV} {i off sz:Nat} {t:TV} (hio:io < s) (hb:b<=cells.length) (hG:Ok A H K s io iz ver hole es (cells.drop b)) (hap:BX off sz io=true)
  (hp:fl es i off sz t=some es') (hx:en A t [] as xs):as.length=sz/\es'.length=es.length/\∃cells',jm cells (b+i*s+off) as=some cells'/\b<=cells'.length/\Ok A H K s io iz ver hole es' (cells'.drop b):=by
 unfold fl at hp
 split at hp
 ·cases hp
 rename_i e1 he1
 split at hp
 rotate_left
 ·cases hp
 rename_i e1' hp'
 cases hp
 have hlt:i < es.length:=(List.getElem?_eq_some_iff.1 he1).1
 obtain⟨ts,hce,hts⟩:=FD hG hio he1
 obtain⟨hn,ce',us,h3,h4,h5⟩:=qm hce hx hp'
 rw [Cr] at h4
 have hcut:v9 off sz [(io,VV.ow K ver i)]=[(io,VV.ow K ver i)]:=by
  simp only [BX,Bool.or_eq_true,Nat.ble_eq,Nat.blt_eq] at hap
  simp only [v9,cond_eq_ite,Bool.and_eq_true,Nat.ble_eq,Nat.blt_eq]
  rw [if_neg (by omega)]
 rw [hcut] at h4
 obtain⟨hov,hat⟩:=oc h3
 obtain⟨hb1,_⟩:=lD h3
 have hl:=hG.len
 rw [List.length_drop] at hl
 have h9:=gv (z:=s) hlt
 have hz':(((cells.drop b).drop (i*s)).take s).length=s:=by simp only [List.length_take,List.length_drop];omega
 rw [hz'] at hb1 hov
 have hov2:jm cells (b+i*s+off) as=some (cells.take (b+i*s+off)++as++cells.drop (b+i*s+off+as.length)):=by rw [v7,if_pos (by omega)]
 obtain⟨hl2,hat2⟩:=oc hov2
 have hcell:∀q,(List.drop b (cells.take (b+i*s+off)++as++cells.drop (b+i*s+off+as.length)))[q]?=if i*s<=q/\q < i*s+s then ce'[q - i*s]? else (cells.drop b)[q]?:=by
  intro q
  rw [List.getElem?_drop,hat2,List.getElem?_drop]
  by_cases hj:i*s<=q/\q < i*s+s
  ·rw [if_pos hj,hat,s5,List.getElem?_drop]
   by_cases hq:off<=q - i*s/\q - i*s < off+as.length
   ·rw [if_pos hq,if_pos (by omega)];congr 1;omega
   ·rw [if_neg hq,if_neg (by omega),if_pos (by omega)];congr 1;omega
  ·rw [if_neg hj,if_neg (by omega)]
 refine⟨hn,by rw [List.length_set],_,hov2,by omega,by rw [List.length_drop,List.length_set];omega,fun j e he=>?_⟩
 rw [List.getElem?_set] at he
 by_cases hij:i=j
 ·subst hij
  rw [if_pos rfl,if_pos hlt] at he
  cases he
  have hus:us.length=s:=by rw [h4.len];exact hov
  have hcio:∀o,o < s->(List.drop b (cells.take (b+i*s+off)++as++cells.drop (b+i*s+off+as.length)))[i*s+o]?=ce'[o]?:=fun o ho=>by
   rw [hcell,if_pos (by omega)];congr 1;omega
  refine⟨us,h4.cells,hus,fun o t x hne ht hxx=>?_,?_⟩
  ·have ho:o < s:=by rw [←hus];exact(List.getElem?_eq_some_iff.1 ht).1
   rw [hcio o ho] at hxx
   have:=h4.at_ o t x ht hxx
   rw [ei,if_neg (Ne.symm hne)] at this
   exact this
  ·obtain⟨ts0,g1,g2,g3,x,g4,g5,g6⟩:=hG.el i e1 he1
   have hts0:ts0=ts:=by have:=hce.cells;rw [g1] at this;cases this;rfl
   subst hts0
   obtain⟨ts1,xs1,us1,q1,q2,q3,q4,q5,q6,q7⟩:=gy hp'
   rw [g1] at q1;cases q1
   rw [h4.cells] at q4;cases q4
   have hoff:¬(off<=io/\io < off+sz):=by
    simp only [BX,Bool.or_eq_true,Nat.ble_eq,Nat.blt_eq] at hap;omega
   refine⟨x,?_,g5,fun hn=>?_⟩
   ·rw [hcio io hio,hat,if_neg (by rw [hn];exact hoff),s5,if_pos hio]
    exact g4
   ·obtain⟨l,g7,g8⟩:=g6 hn
    exact⟨l,by rw [q7,if_neg hoff];exact g7,g8⟩
 ·rw [if_neg hij] at he
  obtain⟨ts0,g1,g2,g3,x,g4,g5,g6⟩:=hG.el j e he
  have hne:∀o,o < s->¬(i*s<=j*s+o/\j*s+o < i*s+s):=fun o ho=>by
   rcases Nat.lt_or_gt_of_ne hij with h|h
   ·have:=gv (z:=s) h;omega
   ·have:=gv (z:=s) h;omega
  refine⟨ts0,g1,g2,fun o t y h1 h2 h3=>?_,x,?_,g5,g6⟩
  ·have ho:o < s:=by rw [←g2];exact(List.getElem?_eq_some_iff.1 h2).1
   rw [hcell,if_neg (hne o ho)] at h3
   exact g3 o t y h1 h2 h3
  ·rw [hcell,if_neg (hne io hio)];exact g4
theorem Ok.mono {A A':ee} {H H':cw} {K s io iz ver ver':Nat} {hole:Option Nat} {es:List TV} {cs:List AV} (h:Ok A H K s io iz ver hole es cs) (hA:∀j x,A (.i K ver j)=some x->A' (.i K ver' j)=some x)
  (hH:∀j x id,hole≠some j->A (.i K ver j)=some x->gM x=some id->H'.get id=H.get id):Ok A' H' K s io iz ver' hole es cs:=by
 refine⟨h.len,fun j e he=>?_⟩
 obtain⟨ts,g1,g2,g3,x,g4,g5,g6⟩:=h.el j e he
 refine⟨ts,g1,g2,g3,x,g4,hA j x g5,fun hn=>?_⟩
 obtain⟨l,g7,g8⟩:=g6 hn
 exact⟨l,g7,g8.mono fun id hi=>hH j x id hn g5 hi⟩
theorem wh.Tv {V:cg} {O s io iz ver v0:Nat} {hole hole0:Option Nat} {es es0:List TV} (h:V.H.get O=some (.gn O s io iz v0 hole0 es0)) (hv:v0<=ver):wh V (ey V O (.gn O s io iz ver hole es)):=by
 refine⟨fun _ h=>h,fun K s' io' iz' ver' hole' es' hK=>?_⟩
 simp only [ey,Map.bt] at hK
 split at hK
 ·cases hK;exact .inr ⟨s,io,iz,v0,hole0,es0,h,hv⟩
 ·exact .inr ⟨s',io',iz',ver',hole',es',hK,Nat.le_refl _⟩
theorem Uh {A:ee} {H H':cw} {O s io iz ver:Nat} {es es':List TV} {id g b:Nat} {cs:List AV} {i:Nat} {l l':List TV} (hG:Ok A H O s io iz ver none es cs) (hl:Ac es i io=some l) (hp:fl es i io 1 (.l l')=some es') {x:AV} (hx:A (.i O ver i)=some x)
  (hs:Eg H' iz l' x) (hH:∀j y id,j≠i->A (.i O ver j)=some y->gM y=some id->H'.get id=H.get id):es'.length=es.length/\Ok A H' O s io iz ver none es' cs:=by
 unfold fl at hp
 split at hp
 ·cases hp
 rename_i e1 he1
 split at hp
 rotate_left
 ·cases hp
 rename_i e1' hp'
 cases hp
 have hlt:i < es.length:=(List.getElem?_eq_some_iff.1 he1).1
 refine⟨by rw [List.length_set],by rw [hG.len,List.length_set],fun j e he=>?_⟩
 rw [List.getElem?_set] at he
 by_cases hij:i=j
 ·subst hij
  rw [if_pos rfl,if_pos hlt] at he
  cases he
  obtain⟨ts,g1,g2,g3,y,g4,g5,g6⟩:=hG.el i e1 he1
  rw [hx] at g5;cases g5
  obtain⟨ts1,xs1,us1,q1,q2,q3,q4,q5,q6,q7⟩:=gy hp'
  rw [g1] at q1;cases q1
  cases q2
  refine⟨us1,q4,by rw [q5,g2],fun o t z hne ht hz=>?_,x,g4,hx,fun _=>⟨l',?_,hs⟩⟩
  ·rw [q7,if_neg (by omega)] at ht
   exact g3 o t z hne ht hz
  ·rw [q7,if_pos (by omega),Nat.sub_self];rfl
 ·rw [if_neg hij] at he
  obtain⟨ts,g1,g2,g3,y,g4,g5,g6⟩:=hG.el j e he
  refine⟨ts,g1,g2,g3,y,g4,g5,fun hn=>?_⟩
  obtain⟨l2,g7,g8⟩:=g6 hn
  exact⟨l2,g7,g8.mono fun id hi=>hH j y id (Ne.symm hij) g5 hi⟩
def EH (A:ee) (K ver i:Nat) (x:AV):ee
 |.s O=>A (.s O)
 |.i K' v j=>if K'=K/\v=ver+1 then (if j=i then some x else A (.i K ver j)) else A (.i K' v j)
theorem yc {A:ee} {K ver i:Nat} {x:AV} {K' v j:Nat} (h:¬(K'=K/\v=ver+1)):EH A K ver i x (.i K' v j)=A (.i K' v j):=if_neg h
theorem yd {A:ee} {K ver i:Nat} {x:AV} {j:Nat}:EH A K ver i x (.i K (ver+1) j)=if j=i then some x else A (.i K ver j):=if_pos ⟨rfl,rfl⟩
theorem IN {A:ee} {K ver i:Nat} {x:AV} {O:Nat} {o:VO} {y:AV} {id:Nat} (hne:O≠K) (hv:q_ A O y o):jJ (EH A K ver i x) o y id↔jJ A o y id:=by
 cases o with
 |gn K' s io iz v hole es=>
  obtain⟨rfl,_⟩:=hv
  have e:∀j,EH A K ver i x (.i K' v j)=A (.i K' v j):=fun j=>yc (fun h=>hne h.1)
  simp only [jJ,e]
 |_=>exact Iff.rfl
theorem UC {A:ee} {V:cg} {st:St} (hR:R A V st) {K N s io iz ver:Nat} {hole:Option Nat} {es es' l:List TV} {id g b:Nat} {cells:List AV} {i:Nat} {x:AV} (hv:V.H.get K=some (.gn K s io iz ver hole es)) (hA:A K=some (.ref id g b s es.length es.length false))
  (hH:st.H.get id=some (.row g cells)) (hb:b<=cells.length) (hG:Ok A st.H K s io iz ver hole es (cells.drop b)) (q1:0 < s) (q2:io < s) (q3:0 < iz) (hN:V.H.get N=some (.gr iz l)) (hx:A N=some x) (hNK:N≠K) (hho:hole=none\/hole=some i)
  (hp:fl es i io 1 (.l l)=some es'):∃cells',jm cells (b+i*s+io) [x]=some cells'/\R (EH A K ver i x) (ey (fq V N) K (.gn K s io iz (ver+1) none es')) ⟨st.env,st.H.put (some (.row g cells')) id,st.nx⟩/\
   Fr V A st.H st.nx (ey (fq V N) K (.gn K s io iz (ver+1) none es')) (EH A K ver i x) (st.H.put (some (.row g cells')) id) st.nx/\Ext V A (ey (fq V N) K (.gn K s io iz (ver+1) none es')) (EH A K ver i x):=by
 obtain⟨_,hv1,hv0,hv2,hv3⟩:=hR.lZ K _ _ hv hA
 have hol:∀j,j≠i->hole≠some j:=fun j hj he=>by rcases hho with h|h<;>rw [h] at he<;>cases he;exact hj rfl
 obtain⟨y,hy,hsN⟩:=hR.heap N _ hN
 rw [hx] at hy;cases hy
 have idN:∀id',gM x=some id'->jJ A (.gr iz l) x id':=fun id' h=>.inl h
 have idK:jJ A (.gn K s io iz ver hole es) (.ref id g b s es.length es.length false) id:=.inl rfl
 have xne:∀id',gM x=some id'->id'≠id:=fun id' h he=>by
  subst he
  exact hNK (hR.inj N K _ _ _ _ id' hN hv hx hA (idN _ h) idK)
 unfold fl at hp
 split at hp
 ·cases hp
 rename_i e1 he1
 split at hp
 rotate_left
 ·cases hp
 rename_i e1' hp'
 cases hp
 have hlt:i < es.length:=(List.getElem?_eq_some_iff.1 he1).1
 have hl:=hG.len
 rw [List.length_drop] at hl
 have h9:=gv (z:=s) hlt
 have hov2:jm cells (b+i*s+io) [x]=some (cells.take (b+i*s+io)++[x]++cells.drop (b+i*s+io+1)):=by rw [v7,if_pos (by simp only [List.length_singleton];omega)];rfl
 obtain⟨hl2,hat2⟩:=oc hov2
 generalize cells.take (b+i*s+io)++[x]++cells.drop (b+i*s+io+1)=cells' at hov2 hl2 hat2
 have hcell:∀q,(cells'.drop b)[q]?=if q=i*s+io then some x else (cells.drop b)[q]?:=by
  intro q
  rw [List.getElem?_drop,hat2,List.getElem?_drop]
  simp only [List.length_singleton]
  by_cases hq:q=i*s+io
  ·subst hq;rw [if_pos rfl,if_pos (by omega),show b+(i*s+io) - (b+i*s+io)=0 by omega];rfl
  ·rw [if_neg hq,if_neg (by omega)]
 have hmono:∀n y,A n=some y->EH A K ver i x n=some y:=fun n y hn=>by
  cases n with
  |s O=>exact hn
  |i K' v j=>
   by_cases he:K'=K/\v=ver+1
   ·obtain⟨rfl,rfl⟩:=he
    rw [hv1 (ver+1) j (by omega)] at hn;cases hn
   ·rw [yc he];exact hn
 have hget:∀id',id'≠id->(st.H.put (some (.row g cells')) id).get id'=st.H.get id':=fun id' h=>by rw [Map.bt,if_neg h]
 have hlen':(es.set i e1').length=es.length:=List.length_set
 have idsNew:∀id',jJ (EH A K ver i x) (.gn K s io iz (ver+1) none (es.set i e1')) (.ref id g b s es.length es.length false) id'->jJ A (.gn K s io iz ver hole es) (.ref id g b s es.length es.length false) id'\/gM x=some id':=by
  rintro id' (h|⟨j,y,h1,h2,h3⟩)
  ·exact .inl (.inl h)
  ·rw [yd] at h2
   split at h2
   ·cases h2;exact .inr h3
   ·rename_i hji;exact .inl (.inr ⟨j,y,hol j hji,h2,h3⟩)
 have get':∀(O':Nat) o',(ey (fq V N) K (.gn K s io iz (ver+1) none (es.set i e1'))).H.get O'=some o'->(O'=K/\o'=.gn K s io iz (ver+1) none (es.set i e1'))\/(O'≠K/\O'≠N/\V.H.get O'=some o'):=fun O' o' h=>by
  simp only [ey,Map.bt] at h
  split at h
  ·rename_i e;cases h;exact .inl ⟨e,rfl⟩
  ·rename_i e;obtain⟨h1,h2⟩:=kg h;exact .inr ⟨e,h1,h2⟩
 refine⟨cells',hov2,⟨fun t e he=>?_,fun O' o' ho=>?_,fun O1 O2 o1 o2 a1 a2 id' ho1 ho2 ha1 ha2 hi1 hi2=>?_,fun n hn=>?_,fun n y hn=>?_,fun id' ob hh=>?_,fun O' o' y ho hy=>?_⟩,⟨Nat.le_refl _,fun id' _ hn=>?_,fun id' ⟨O',o',y,h1,h2,h3⟩=>?_⟩,⟨hmono,fun n y hn=>?_,?_⟩⟩
 ·obtain⟨a,h1,h2⟩:=hR.env t e he
  exact⟨a,h1,fun hh=>(h2 hh).mono hmono⟩
 ·rcases get' O' o' ho with ⟨rfl,rfl⟩|⟨hne,hneN,h⟩
  ·refine⟨_,hA,q1,q2,q3,.inr ⟨id,g,b,cells',by rw [hlen'],by rw [Map.bt,if_pos rfl],by omega,by rw [List.length_drop,hlen'];omega,fun j e he=>?_⟩⟩
   rw [List.getElem?_set] at he
   by_cases hij:i=j
   ·subst hij
    rw [if_pos rfl,if_pos hlt] at he
    cases he
    obtain⟨ts,g1,g2,g3,y,g4,g5,g6⟩:=hG.el i e1 he1
    obtain⟨ts1,xs1,us1,p1,p2,p3,p4,p5,p6,p7⟩:=gy hp'
    rw [g1] at p1;cases p1
    cases p2
    refine⟨us1,p4,by rw [p5,g2],fun o t z hno ht hz=>?_,x,by rw [hcell,if_pos rfl],by rw [yd,if_pos rfl],fun _=>⟨l,?_,Eg.mono (fun id' hi=>hget id' (xne id' hi)) (show Eg st.H iz l x from hsN)⟩⟩
    ·rw [p7,if_neg (by omega)] at ht
     rw [hcell,if_neg (by omega)] at hz
     exact g3 o t z hno ht hz
    ·rw [p7,if_pos (by omega),Nat.sub_self];rfl
   ·rw [if_neg hij] at he
    obtain⟨ts,g1,g2,g3,y,g4,g5,g6⟩:=hG.el j e he
    have hne:∀o,o < s->j*s+o≠i*s+io:=fun o ho=>by
     rcases Nat.lt_or_gt_of_ne hij with h|h
     ·have:=gv (z:=s) h;omega
     ·have:=gv (z:=s) h;omega
    refine⟨ts,g1,g2,fun o t z hno ht hz=>?_,y,by rw [hcell,if_neg (hne io q2)];exact g4,by rw [yd,if_neg (Ne.symm hij)];exact g5,fun _=>?_⟩
    ·have ho:o < s:=by rw [←g2];exact(List.getElem?_eq_some_iff.1 ht).1
     rw [hcell,if_neg (hne o ho)] at hz
     exact g3 o t z hno ht hz
    ·obtain⟨l2,g7,g8⟩:=g6 (hol j (Ne.symm hij))
     exact⟨l2,g7,g8.mono fun id' hi=>hget id' (fun he=>hv3 j y id' (hol j (Ne.symm hij)) g5 hi (by rw [he];rfl))⟩
  ·obtain⟨a,h1,h2⟩:=hR.heap O' o' h
   refine⟨a,hmono _ _ h1,h2.mono hmono (fun id' hi=>hget id' (fun he=>?_))⟩
   subst he
   exact hne (hR.inj O' K _ _ _ _ id' h hv h1 hA hi idK)
 ·have sh:∀{O':Nat} {o':VO} {a':AV},(ey (fq V N) K (.gn K s io iz (ver+1) none (es.set i e1'))).H.get O'=some o'->A O'=some a'->jJ (EH A K ver i x) o' a' id'->∃(P:Nat) (p:VO) (ap:AV),V.H.get P=some p/\A P=some ap/\jJ A p ap id'/\(P=O'\/(P=N/\O'=K)):=by
   intro O' o' a' ho ha hi
   rcases get' O' o' ho with ⟨rfl,rfl⟩|⟨hne,hneN,h⟩
   ·rw [hA] at ha;cases ha
    rcases idsNew _ hi with h|h
    ·exact⟨_,_,_,hv,hA,h,.inl rfl⟩
    ·exact⟨_,_,_,hN,hx,idN _ h,.inr ⟨rfl,rfl⟩⟩
   ·exact⟨O',o',a',h,ha,(IN hne (hR.lZ O' _ _ h ha)).1 hi,.inl rfl⟩
  obtain⟨P1,p1,x1,r1,r2,r3,r4⟩:=sh ho1 ha1 hi1
  obtain⟨P2,p2,x2,t1,t2,t3,t4⟩:=sh ho2 ha2 hi2
  have hPP:=hR.inj P1 P2 _ _ _ _ id' r1 t1 r2 t2 r3 t3
  have notN:∀{O':Nat} {o':VO},(ey (fq V N) K (.gn K s io iz (ver+1) none (es.set i e1'))).H.get O'=some o'->O'≠N:=fun {O' o'} h he=>by
   rcases get' O' o' h with ⟨h1,_⟩|⟨_,h1,_⟩
   ·exact hNK (he▸h1)
   ·exact h1 he
  rcases r4 with rfl|⟨rfl,rfl⟩
  ·rcases t4 with rfl|⟨rfl,rfl⟩
   ·exact hPP
   ·exact absurd hPP (notN ho1)
  ·rcases t4 with rfl|⟨h1,h2⟩
   ·exact absurd hPP.symm (notN ho2)
   ·exact h2.symm
 ·have hn':V.us.get n.base=none:=hn
  have h0:=hR.used n hn'
  cases n with
  |s O=>exact h0
  |i K' v j=>
   rw [yc]
   ·exact h0
   ·rintro⟨rfl,rfl⟩
    have:=hR.used (.s K') hn'
    rw [hA] at this;cases this
 ·cases n with
  |s O=>exact hR.one _ _ hn
  |i K' v j=>
   by_cases he:K'=K/\v=ver+1
   ·obtain⟨rfl,rfl⟩:=he
    rw [yd] at hn
    split at hn
    ·cases hn;exact hR.one _ _ hx
    ·exact hR.one _ _ hn
   ·rw [yc he] at hn;exact hR.one _ _ hn
 ·have hh':(st.H.put (some (.row g cells')) id).get id'=some ob:=hh
  rw [Map.bt] at hh'
  split at hh'
  ·rename_i e;subst e;exact hR.fresh _ _ hH
  ·exact hR.fresh _ _ hh'
 ·rcases get' O' o' ho with ⟨rfl,rfl⟩|⟨hne,hneN,h⟩
  ·have hy':A O'=some y:=hy
   rw [hA] at hy';cases hy'
   refine⟨rfl,fun v j hvv=>?_,fun j y hy=>?_,fun j j' y y' id' _ _ h1 h2 h3 h4=>?_,fun j y id' _ h1 h2=>?_⟩
   ·rw [yc (fun h=>by omega)];exact hv1 v j (by omega)
   ·rw [yd] at hy
    split at hy
    ·rename_i e;subst e;rw [hlen'];exact hlt
    ·rw [hlen'];exact hv0 j y hy
   ·rw [yd] at h1 h2
    split at h1
    ·cases h1
     split at h2
     ·rename_i e1 e2;rw [e1,e2]
     ·rename_i e1 e2
      exact absurd (hR.inj N O' _ _ _ _ id' hN hv hx hA (idN _ h3) (.inr ⟨j',y',hol j' e2,h2,h4⟩)) hNK
    ·split at h2
     ·cases h2
      rename_i e1 e2
      exact absurd (hR.inj N O' _ _ _ _ id' hN hv hx hA (idN _ h4) (.inr ⟨j,y,hol j e1,h1,h3⟩)) hNK
     ·rename_i e1 e2
      exact hv2 j j' y y' id' (hol j e1) (hol j' e2) h1 h2 h3 h4
   ·rw [yd] at h1
    split at h1
    ·cases h1
     intro h;cases h
     exact xne _ h2 rfl
    ·rename_i e1;exact hv3 j y id' (hol j e1) h1 h2
  ·have hk:=hR.lZ O' o' y h hy
   cases o' with
   |gn K' s' io' iz' v' hole' es2=>
    obtain⟨rfl,k1,k0,k2,k3⟩:=hk
    have e:∀v j,EH A K ver i x (.i K' v j)=A (.i K' v j):=fun v j=>yc (fun h=>hne h.1)
    refine⟨rfl,fun v j hv=>by rw [e];exact k1 v j hv,fun j x=>by rw [e];exact k0 j x,fun j j' x x' id=>?_,fun j x id=>?_⟩
    ·rw [e,e];exact k2 j j' x x' id
    ·rw [e];exact k3 j x id
   |_=>trivial
 ·exact hget id' (fun he=>hn (he▸⟨K,_,_,hv,hA,idK⟩))
 ·left
  rcases get' O' o' h1 with ⟨rfl,rfl⟩|⟨hne,hneN,h⟩
  ·have h2':A O'=some y:=h2
   rw [hA] at h2';cases h2'
   rcases idsNew _ h3 with h|h
   ·exact⟨O',_,_,hv,hA,h⟩
   ·exact⟨N,_,_,hN,hx,idN _ h⟩
  ·exact⟨O',o',y,h,h2,(IN hne (hR.lZ O' _ _ h h2)).1 h3⟩
 ·cases n with
  |s O=>exact .inl hn
  |i K' v j=>
   by_cases he:K'=K/\v=ver+1
   ·obtain⟨rfl,rfl⟩:=he
    exact .inr (.inr ⟨K',ver+1,j,s,io,iz,ver,hole,es,rfl,hv,by omega⟩)
   ·rw [yc he] at hn;exact .inl hn
 ·refine⟨fun _ h=>h,fun K2 s2 io2 iz2 v2 h2 es2 hK=>?_⟩
  rcases get' K2 _ hK with ⟨rfl,e⟩|⟨_,_,h⟩
  ·cases e;exact .inr ⟨s,io,iz,ver,hole,es,hv,by omega⟩
  ·exact .inr ⟨s2,io2,iz2,v2,h2,es2,h,Nat.le_refl _⟩
theorem AQ {cf:qc} {sz:Nat} {a x:ct} {id gg off:Nat} {cells cells' as:List AV} (he:ev st.env a=.ptr id gg off) (hx:(ev st.env x).cells?=some as) (hn:as.length=sz)
  (hH:st.H.get id=some (.row gg cells)) (ho:jm cells off as=some cells'):q9 cf (.store sz a x) (ev st.env) st.H st.nx=some (j7,st.H.put (some (.row gg cells')) id,st.nx):=by
 have hp:kind (.store sz a x)=.plan fun ρ=>wk ρ sz a x:=rfl
 simp only [q9,hp,wk,he,hx,cond_eq_ite,Nat.beq_eq,if_pos hn,gU,oa,jf,ur,hH,D7,if_pos,ho,EP]
theorem R5 (hR:R A V st) {sz:Nat} {a x:ct} (h:lM V none a fun w=>lM V none x fun x=>s9 V sz w x k):gz cf nt A V st none (.store sz a x) k:=by
 obtain⟨w,hw,h⟩:=gj (g:=none) hR trivial h
 obtain⟨y,hy,hk⟩:=gj (g:=none) hR trivial h
 generalize he:ev st.env a=p at hw
 have done:∀(o:VO) {O:Nat} {o0:VO} {id gg off:Nat} {pa:AV} {cells cells' as:List AV},V.H.get O=some o0->A O=some pa->gM pa=some id->o0.pl=true->o.pl=true->ev st.env a=.ptr id gg off->(ev st.env x).cells?=some as->as.length=sz->
   st.H.get id=some (.row gg cells)->jm cells off as=some cells'->OR A (st.H.put (some (.row gg cells')) id) o pa->k (ey V O o)->gz cf nt A V st none (.store sz a x) k:=by
  intro o O o0 id gg off pa cells cells' as h1 h2 h3 p0 p1 h4 h5 h6 h7 h8 h9 h10
  obtain⟨g1,g2⟩:=EO hR h1 h2 ((jh p0).2 h3) h9 (fun id hi=>(jh p0).2 ((jh p1).1 hi)) (fun _=>EG p1)
  exact⟨_,_,_,AQ h4 h5 h6 h7 h8,st.env,rfl,_,A,g1,g2,Ext.Lc _ (wh.set p1),h10⟩
 cases hw<;>first|(cases hk;done)|skip
 ·rename_i O off id hO
  simp only [s9] at hk
  split at hk
  ·rename_i v ovs hv
   split at hk
   ·rename_i t o hs
    obtain⟨u,hp,hk⟩:=hk
    obtain⟨z,hz,id',cs,ts,rfl,hH,hc⟩:=hR.heap O _ hv
    rw [hO] at hz;cases hz
    obtain⟨_,xs,_,_,hxs,_⟩:=gy hp
    obtain⟨as,h1,h2⟩:=qt hR.one hy hs hxs
    obtain⟨hn,cs',us,h3,h4,h5⟩:=qm hc h2 hp
    exact done (.ob u (Cr off o (v9 off sz ovs))) hv hO rfl rfl rfl he h1 hn hH h3 ⟨_,cs',us,rfl,by rw [Map.bt,if_pos rfl],h4⟩ hk
   ·cases hk
  ·cases hk
 ·rename_i O off id hO
  simp only [s9] at hk
  split at hk
  ·rename_i v ovs hv
   split at hk
   rotate_left
   ·cases hk
   split at hk
   ·rename_i t
    obtain⟨u,hp,hk⟩:=hk
    obtain⟨z,hz,id',cs,ts,rfl,hH,hc⟩:=hR.heap O _ hv
    rw [hO] at hz;cases hz
    obtain⟨_,xs,_,_,hxs,_⟩:=gy hp
    obtain⟨as,h1,h2⟩:=qt hR.one hy rfl hxs
    obtain⟨hn,cs',us,h3,h4,h5⟩:=qm hc h2 hp
    exact done (.ob u []) hv hO rfl rfl rfl he h1 hn hH h3 ⟨_,cs',us,rfl,by rw [Map.bt,if_pos rfl],h4⟩ hk
   ·cases hk
  ·cases hk
 ·rename_i O i off id gg b z len cap ex hO
  simp only [s9] at hk
  split at hk
  ·rename_i z' es hv
   split at hk
   ·rename_i t
    obtain⟨es',hp,hk⟩:=hk
    obtain⟨y',hy',hs⟩:=hR.heap O _ hv
    rw [hO] at hy';cases hy'
    obtain⟨hz,hs⟩:=hs
    rcases hs with ⟨_,e|e⟩|⟨id',g',b',cells,e,hH,hb,hE⟩
    ·cases e
    ·cases e
    ·cases e
     unfold fl at hp
     split at hp
     ·cases hp
     rename_i e1 he1
     split at hp
     ·rename_i e1' hp'
      cases hp
      have hlt:i < es.length:=(List.getElem?_eq_some_iff.1 he1).1
      obtain⟨ts,ht1,ht2⟩:=lV.1 (hE.el i e1 he1)
      obtain⟨_,xs,_,_,hxs,_⟩:=gy hp'
      obtain⟨as,h1,h2⟩:=qt hR.one hy rfl hxs
      have hce:en A e1 [] (((cells.drop b).drop (i*z)).take z) ts:=⟨ht1,ht2.1,fun j w hj=>by simp [fc] at hj,fun j t x ht hx=>⟨ht2.2 j t x ht hx,qj hE.flat _ _ x (List.mem_of_getElem? hx)⟩⟩
      obtain⟨hn,ce',us,h3,h4,h5⟩:=qm hce h2 hp'
      obtain⟨hov,hat⟩:=oc h3
      obtain⟨hb1,_⟩:=lD h3
      have hl:=hE.len
      rw [List.length_drop] at hl
      have h9:=gv (z:=z) hlt
      have hz':(((cells.drop b).drop (i*z)).take z).length=z:=by simp only [List.length_take,List.length_drop];omega
      rw [hz'] at hb1 hov
      have hov2:jm cells (b+i*z+off) as=some (cells.take (b+i*z+off)++as++cells.drop (b+i*z+off+as.length)):=by rw [v7,if_pos (by omega)]
      obtain⟨hl2,hat2⟩:=oc hov2
      refine done (.gr z (es.set i e1')) hv hO rfl rfl rfl he h1 hn hH hov2 ⟨hz,.inr ⟨id,gg,b,_,by simp only [List.length_set],by rw [Map.bt,if_pos rfl],by omega,?_⟩⟩ hk
      refine Qq (ce':=ce') hE he1 (lV.2 ⟨us,h4.cells,h4.len,fun j t x ht hx=>((h4.at_ j t x ht hx):Can t x/\_).1⟩) hov (fun x hx=>?_) (by simp only [List.length_drop];omega) (fun j=>?_)
      ·obtain⟨q,hq⟩:=List.getElem?_of_mem hx
       have hlq:q < us.length:=by rw [h4.len];exact(List.getElem?_eq_some_iff.1 hq).1
       exact((h4.at_ q _ x (List.getElem?_eq_getElem hlq) hq):Can _ x/\_).2
      ·rw [List.getElem?_drop,hat2,List.getElem?_drop]
       by_cases hj:i*z<=j/\j < i*z+z
       ·rw [if_pos hj,hat,s5,List.getElem?_drop]
        by_cases hq:off<=j - i*z/\j - i*z < off+as.length
        ·rw [if_pos hq,if_pos (by omega)];congr 1;omega
        ·rw [if_neg hq,if_neg (by omega),if_pos (by omega)];congr 1;omega
       ·rw [if_neg hj,if_neg (by omega)]
     ·cases hp
   ·cases hk
  ·rename_i K s io iz ver hole es hv
   split at hk
   rotate_left
   ·cases hk
   rename_i hK
   rw [Nat.beq_eq] at hK
   subst hK
   obtain⟨z',hz',hs⟩:=hR.heap K _ hv
   rw [hO] at hz';cases hz'
   obtain⟨rfl,rfl,rfl,rfl,p1,p2,p3,cells,hH,hb,hG⟩:=Qe hs
   obtain⟨_,hv1,hv0,hv2,hv3⟩:=hR.lZ K _ _ hv hO
   split at hk
   ·rename_i t
    split at hk
    rotate_left
    ·cases hk
    rename_i hap
    obtain⟨es',hp,hk⟩:=hk
    have hp0:=hp
    unfold fl at hp0
    split at hp0
    ·cases hp0
    split at hp0
    rotate_left
    ·cases hp0
    rename_i hp'
    obtain⟨_,xs,_,_,hxs,_⟩:=gy hp'
    obtain⟨as,h1,h2⟩:=qt hR.one hy rfl hxs
    obtain⟨hn,hlen,cells',h3,hb',hG'⟩:=YV p2 hb hG hap hp h2
    have hid:jJ A (.gn K z io iz ver hole es) (.ref id gg b z es.length es.length false) id:=.inl rfl
    obtain⟨g1,g2⟩:=EO (o:=.gn K z io iz ver hole es') (ob:=.row gg cells') hR hv hO hid ⟨p1,p2,p3,.inr ⟨id,gg,b,cells',by rw [hlen],by rw [Map.bt,if_pos rfl],hb',hG'.mono (fun j x h=>h) (fun j x id' hn' hx hi=>by
     rw [Map.bt,if_neg]
     rintro rfl
     exact hv3 j x id' hn' hx hi rfl)⟩⟩ (fun id hi=>hi) (fun hvk=>⟨rfl,hv1,fun j x hx=>by rw [hlen];exact hv0 j x hx,hv2,hv3⟩)
    exact⟨_,_,_,AQ he h1 hn hH h3,st.env,rfl,_,A,g1,g2,Ext.Lc _ (wh.Tv hv (Nat.le_refl _)),hk⟩
   ·rename_i N
    split at hk
    rotate_left
    ·cases hk
    rename_i hsz
    simp only [Bool.and_eq_true,Nat.beq_eq,Bool.not_eq_true'] at hsz
    obtain⟨rfl,rfl,hNK⟩:=hsz
    have hNK:N≠K:=by rintro rfl;simp at hNK
    split at hk
    rotate_left
    ·cases hk
    rename_i z' l hN
    split at hk
    rotate_left
    ·cases hk
    rename_i hz'
    rw [Nat.beq_eq] at hz'
    subst hz'
    have hho:(hole=none\/hole=some i)/\∃es',fl es i off 1 (.l l)=some es'/\k (ey (fq V N) K (.gn K z off z' (ver+1) none es')):=by
     unfold S3 at hk
     split at hk
     ·exact⟨.inl rfl,hk⟩
     ·obtain⟨rfl,hk⟩:=hk;exact⟨.inr rfl,hk⟩
    clear hk
    obtain⟨hho,es',hp,hk⟩:=hho
    have hyN:A N=some (ev st.env x):=by cases hy;assumption
    obtain⟨cells',h3,g1,g2,g3⟩:=UC hR hv hO hH hb hG p1 p2 p3 hN hyN hNK hho hp
    have hone:=hR.one _ _ hyN
    have hcs:(ev st.env x).cells?=some [ev st.env x]:=by
     cases hq:ev st.env x<;>rw [hq] at hone<;>first|rfl|cases hone
    exact⟨_,_,_,AQ he hcs rfl hH h3,st.env,rfl,_,_,g1,g2,g3,hk⟩
   ·cases hk
  ·cases hk
 ·rename_i O v i j off id gg b z len cap ex hA
  obtain⟨s,io,iz,es,ho,hk⟩:=iw hk
  split at hk
  rotate_left
  ·cases hk
  rename_i t
  obtain⟨l,hl,l',hp,es',hp2,hk⟩:=hk
  obtain⟨a0,ha0,hs⟩:=hR.heap O _ ho
  obtain⟨_,hv1,hv0,hv2,hv3⟩:=hR.lZ O _ _ ho ha0
  have hsl:=Dn hs hl (by simp) hA
  obtain rfl:=OH hsl
  have hp0:=hp
  unfold fl at hp0
  split at hp0
  ·cases hp0
  split at hp0
  rotate_left
  ·cases hp0
  rename_i hp'
  obtain⟨_,xs,_,_,hxs,_⟩:=gy hp'
  obtain⟨as,h1,h2⟩:=qt hR.one hy rfl hxs
  obtain⟨hn,cells,cells',hH,h3,hsl'⟩:=XR hsl hp h2
  have hid:jJ A (.gn O s io z v none es) a0 id:=.inr ⟨i,_,by simp,hA,rfl⟩
  have hne:∀q y id',q≠i->A (.i O v q)=some y->gM y=some id'->(st.H.put (some (.row gg cells')) id).get id'=st.H.get id':=fun q y id' hq hqy hi=>by
   rw [Map.bt,if_neg]
   rintro rfl
   exact hq (hv2 q i y _ id' (by simp) (by simp) hqy hA hi rfl)
  obtain⟨q1,q2,q3,hs⟩:=hs
  rcases hs with ⟨rfl,_⟩|⟨id0,g0,b0,cells0,rfl,hH0,hb0,hG⟩
  ·obtain⟨e,he',_⟩:=JI hl;simp at he'
  ·obtain⟨hlen,hG'⟩:=Uh (id:=id) (g:=gg) (b:=b) hG hl hp2 hA hsl' hne
   obtain⟨g1,g2⟩:=EO (o:=.gn O s io z v none es') (ob:=.row gg cells') hR ho ha0 hid ⟨q1,q2,q3,.inr ⟨id0,g0,b0,cells0,by rw [hlen],by
     rw [Map.bt,if_neg]
     ·exact hH0
     ·rintro rfl;exact hv3 i _ _ (by simp) hA rfl rfl,hb0,hG'⟩⟩ (fun id hi=>hi) (fun hvk=>⟨rfl,hv1,fun j x hx=>by rw [hlen];exact hv0 j x hx,hv2,hv3⟩)
   exact⟨_,_,_,AQ he h1 hn hH h3,st.env,rfl,_,A,g1,g2,Ext.Lc _ (wh.Tv ho (Nat.le_refl _)),hk⟩
end
end Go.Ax.V

namespace Go.Ax.V
section
variable {prog:Map bk} {cf:qc} {nt:Nat} {A:ee} {V:cg} {st:St} {d:Option Nat} {g:G} {k:cg->Prop}
theorem Ae {a:AV} (h:a.flat=true) (d:Nat) (H:cw):ff (d+1) H a=[]:=by
 cases a<;>first|rfl|cases h
theorem G8 {cs:List AV} (h:∀x∈cs,AV.flat x=true) (d:Nat) (H:cw):cs.flatMap (ff (d+1) H)=[]:=by
 rw [List.flatMap_eq_nil_iff];exact fun x hx=>Ae (h x hx) d H
theorem FB {a:AV} (h:a.qg=true) (d:Nat) (H:cw):ff (d+2) H a=[]:=by
 rcases GM h with h|⟨cs,rfl,h'⟩
 ·exact Ae h (d+1) H
 ·rw [G_,G8 h']
theorem A8 {a:AV} (h:a.plain=true) (d:Nat) (H:cw):ff (d+3) H a=[]:=by
 rcases Jh h with h|⟨cs,rfl,h'⟩
 ·exact FB h (d+1) H
 ·rw [G9,List.flatMap_eq_nil_iff];exact fun x hx=>FB (h' x hx) d H
theorem Qb {H:cw} {sz:Nat} {es:List TV} {a:AV} (h:Eg H sz es a) (d:Nat):∀id∈ff (d+2) H a,gM a=some id:=by
 obtain⟨hz,h⟩:=h
 rcases h with ⟨rfl,rfl|rfl⟩|⟨id,g,b,cells,rfl,hH,hb,he⟩
 ·intro id hi;cases hi
 ·intro id hi;cases hi
 ·intro id' hi
  have hl:cells.length=b+es.length*sz:=by have:=he.len;rw [List.length_drop] at this;omega
  have hc:cut cells b (Nat.mul es.length sz)=some (cells.drop b):=by
   rw [js,if_pos (by show b+es.length*sz<=_;omega),List.take_of_length_le]
   rw [List.length_drop];show _<=es.length*sz;omega
  rw [Dm,hH] at hi
  simp only [hc,G8 he.flat] at hi
  simp at hi
  subst hi;rfl
structure Sub (V V':cg):Prop where
 env:V'.env=V.env
 us:V'.us=V.us
 H:∀O o,V'.H.get O=some o->V.H.get O=some o
theorem Sub.refl (V:cg):Sub V V:=⟨rfl,rfl,fun _ _ h=>h⟩
theorem Sub.trans {V V1 V2:cg} (h:Sub V V1) (h':Sub V1 V2):Sub V V2:=⟨h'.env.trans h.env,h'.us.trans h.us,fun O o hh=>h.H O o (h'.H O o hh)⟩
theorem Sub.own {V V':cg} (h:Sub V V') {A:ee} {id:Nat} (ho:gR V' A id):gR V A id:=let ⟨O,o,a,h1,h2,h3⟩:=ho;⟨O,o,a,h.H _ _ h1,h2,h3⟩
theorem Sub.r {V V':cg} (h:Sub V V') {A:ee} {st:St} (hR:R A V st):R A V' st:=hR.sub h.env h.us h.H
theorem Sub.ev {V V':cg} (h:Sub V V'):wh V V':=wh.VM h.us h.H
theorem Ext.sub {V V1 V':cg} {A A':ee} (h:Ext V1 A V' A') (hs:Sub V V1):Ext V A V' A':=(Ext.Lc A hs.ev).trans h
theorem fk (V:cg) (O:Nat):Sub V (fq V O):=⟨rfl,rfl,fun _ _ h=>(kg h).2⟩
theorem BG (V:cg) (w:VV):Sub V (yz V w):=by
 cases w<;>first|exact fk V _|exact Sub.refl V
theorem vm:∀(l:List (Nat×VV)) (V:cg),Sub V (y6 V l)
 |[],V=>Sub.refl V
 |(_,w)::r,V=>(BG V w).trans (vm r _)
theorem jr {V:cg} {A:ee} {st:St} (hR:R A V st) {O:Nat} {o:VO} {a:AV} {id:Nat} (hV:V.H.get O=some o) (hA:A O=some a) (hi:jJ A o a id):¬gR (fq V O) A id:=by
 rintro⟨O',o',a',h1,h2,h3⟩
 obtain⟨hne,h1'⟩:=kg h1
 exact hne (hR.inj O' O _ _ a' a id h1' hV h2 hA h3 hi)
theorem uf {j:Nat} {w:VV}:∀{l:List (Nat×VV)},fc j l=some w->(j,w)∈l
 |[],h=>by cases h
 |(i,w')::r,h=>by
  rw [ei] at h
  split at h
  ·rename_i e;subst e;cases h;exact List.mem_cons_self
  ·exact List.mem_cons_of_mem _ (uf h)
theorem JQ:∀{l:List (Nat×VV)} {V:cg} {O:Nat} {j:Nat},(j,VV.sl O)∈l->(y6 V l).H.get O=none
 |(i,w)::r,V,O,j,h=>by
  have keep:∀{V:cg},V.H.get O=none->(y6 V r).H.get O=none:=fun {V} hn=>by
   cases hh:(y6 V r).H.get O with
   |none=>rfl
   |some o=>have:=(vm r V).H O o hh;rw [hn] at this;cases this
  rcases List.mem_cons.1 h with h|h
  ·cases h
   exact keep (by show (V.H.put none O).get O=none;rw [Map.bt,if_pos rfl])
  ·exact JQ (l:=r) (V:=yz V w) h
theorem Qd {V V':cg} {A:ee} {st:St} (hR:R A V st) (hs:Sub V V') {O:Nat} {o:VO} {a:AV} {id:Nat} (hV:V.H.get O=some o) (hA:A O=some a) (hi:jJ A o a id) (hg:V'.H.get O=none):¬gR V' A id:=by
 rintro⟨O',o',a',h1,h2,h3⟩
 have:=hR.inj O' O _ _ a' a id (hs.H _ _ h1) hV h2 hA h3 hi
 subst this
 rw [hg] at h1;cases h1
noncomputable def TI (fz:Bool) (st:St) (x:ct):AV:=match fz with
 |true=>BU st.H (ev st.env) x
 |false=>ev st.env x
theorem Es {st:St} {x:ct} {a':AV} (h:dw deep st.H (ev st.env x)=some a'):BU st.H (ev st.env) x=a':=by simp only [BU,h]
theorem ye {n:Nat} {t:TV} (h:dh n t):∃l,gk t=some l/\l.length=n:=by
 unfold dh at h
 split at h
 ·rename_i l hl;exact⟨l,hl,h⟩
 ·cases h
def Whole (o:VO):Prop:=(∃z es,o=.gr z es)\/∃K s io iz ver es,o=.gn K s io iz ver none es
theorem HN {V:cg} {O:Nat} {k:List TV->Prop} (h:D5 V (.sl O) k):∃o,V.H.get O=some o/\Whole o/\∃es,k es/\(∀{A:ee} {H:cw} {a:AV} (d:Nat),OR A H o a->∃a',dw (d+3) H a=some a'/\Can (.l es) a'/\a'.flat=true/\(a.plain=true->a'=a)):=by
 simp only [D5] at h
 split at h
 ·rename_i z es ho
  exact⟨_,ho,.inl ⟨z,es,rfl⟩,es,h,fun d hor=>let ⟨a',h1,h2,h3,h4,_⟩:=HM hor (d+1);⟨a',h1,h2,h3,h4⟩⟩
 ·rename_i K s io iz ver es ho
  exact⟨_,ho,.inr ⟨_,_,_,_,_,_,rfl⟩,es,h,fun d hor=>Qf hor d⟩
 ·cases h
theorem A7 {A:ee} {H:cw} {o:VO} {a:AV} (hw:Whole o) (h:OR A H o a) (d:Nat):∀id∈ff (d+3) H a,jJ A o a id:=by
 rcases hw with ⟨z,es,rfl⟩|⟨K,s,io,iz,ver,es,rfl⟩
 ·exact fun id hi=>.inl (Qb h (d+1) id hi)
 ·obtain⟨hs,hio,hiz,h⟩:=h
  rcases h with ⟨rfl,rfl|rfl⟩|⟨id,g,b,cells,rfl,hH,hb,he⟩
  ·intro id hi;cases hi
  ·intro id hi;cases hi
  ·intro id' hi
   have hl:cells.length=b+es.length*s:=by have:=he.len;rw [List.length_drop] at this;omega
   have hc:cut cells b (Nat.mul es.length s)=some (cells.drop b):=by
    rw [js,if_pos (by show b+es.length*s<=_;omega),List.take_of_length_le]
    rw [List.length_drop];show _<=es.length*s;omega
   rw [Dm,hH] at hi
   simp only [hc] at hi
   rcases List.mem_cons.1 hi with rfl|hi
   ·exact .inl rfl
   obtain⟨x,hx,hi⟩:=List.mem_flatMap.1 hi
   obtain⟨q,hq⟩:=List.getElem?_of_mem hx
   have hlt:q < es.length*s:=by have:=(List.getElem?_eq_some_iff.1 hq).1;rw [he.len] at this;exact this
   have hj:q / s < es.length:=(Nat.div_lt_iff_lt_mul hs).2 hlt
   have hqe:q=q / s*s+q % s:=by rw [Nat.mul_comm];exact(Nat.div_add_mod q s).symm
   obtain⟨ts,g1,g2,g3,x',g4,g5,g6⟩:=he.el (q / s) _ (List.getElem?_eq_getElem hj)
   have ho:q % s < ts.length:=by rw [g2];exact Nat.mod_lt _ hs
   by_cases hoo:q % s=io
   ·obtain⟨l,g7,g8⟩:=g6 (by simp)
    rw [hqe,hoo,g4] at hq;cases hq
    exact .inr ⟨q / s,x,by simp,g5,Qb g8 d id' hi⟩
   ·obtain⟨p1,p2⟩:=g3 (q % s) _ x hoo (List.getElem?_eq_getElem ho) (by rw [←hqe];exact hq)
    have hh:ff (d+2) H x=[]:=Ae p2 (d+1) H
    rw [hh] at hi;cases hi
theorem BA {V:cg}:∀{l:List (Nat×VV)} {v:TV} {k:TV->Prop},Ga V l v k->∀j O,(j,VV.sl O)∈l->∃o,V.H.get O=some o/\Whole o
 |[],v,k,h,j,O,hm=>by cases hm
 |(off,w)::r,v,k,h,j,O,hm=>by
  have ex:∀{l:List (Nat×VV)} {v:TV} {k:TV->Prop},Ga V l v k->∃u,k u:=by
   intro l
   induction l with
   |nil=>intro v k h;exact⟨v,h⟩
   |cons p l ih=>
    intro v k h
    obtain⟨off,w⟩:=p
    obtain⟨u,hu⟩:=ih h
    obtain⟨es,u',_,hk⟩:=Cc hu
    exact⟨u',hk⟩
  rcases List.mem_cons.1 hm with hm|hm
  ·cases hm
   obtain⟨u,hu⟩:∃u,D5 V (.sl O) (fun es=>∃u',av u off 1 (.l es)=some u'/\k u'):=ex (l:=r) h
   obtain⟨o,h1,h2,_⟩:=HN hu
   exact⟨o,h1,h2⟩
  ·exact BA (l:=r) h j O hm
theorem Fj:∀{l:List (Nat×VV)},Sc l=true->∀j O v i,(j,VV.ow O v i) ∉ l
 |[],h,j,O,v,i,hm=>by cases hm
 |(j',w)::r,h,j,O,v,i,hm=>by
  rcases List.mem_cons.1 hm with h1|h1
  ·cases h1;cases h
  ·clear hm;cases w<;>first|(cases h;done)|exact Fj (l:=r) h j O v i h1
structure ZX (A:ee) (st:St) (fz:Bool) (sz:Nat) (V:cg) (j:Nat) (parts:List (Nat×Nat×ct)) (ts:List TV) (V':cg):Prop where
 sub:Sub V V'
 len:ts.length=parts.length
 fill:∀cells:List AV,(j+parts.length)*sz<=cells.length->∃cells',fill (TI fz st) parts cells=some cells'/\cells'.length=cells.length/\(∀q,q < j*sz->cells'[q]?=cells[q]?)/\
  (∀q,(j+parts.length)*sz<=q->cells'[q]?=cells[q]?)/\(∀q x,j*sz<=q->q < (j+parts.length)*sz->cells'[q]?=some x->x.flat=true)/\∀i t,ts[i]?=some t->CX t ((cells'.drop ((j+i)*sz)).take sz)
 jq:fz=true->∃l,lN (dw deep st.H) (parts.map fun p=>ev st.env p.2.2)=some l
 ids:fz=true->∀id∈(parts.map fun p=>ev st.env p.2.2).flatMap (ff deep st.H),gR V A id/\¬gR V' A id
theorem FL {fz:Bool} {sz j off n:Nat} {x:ct} {r:List (Nat×Nat×ct)} {V V1 V':cg} {t:TV} {ts:List TV} {a':AV} {l:List TV} {as:List AV} (hoff:off=j*sz) (hn:n=sz)
  (hrho:TI fz st x=a') (hc:gk t=some l) (hl:l.length=n) (has:a'.cells?=some as) (hca:Og l as) (hs:Sub V V1) (him:fz=true->dw deep st.H (ev st.env x)=some a')
  (hid:fz=true->∀id∈ff deep st.H (ev st.env x),gR V A id/\¬gR V1 A id) (h:ZX A st fz sz V1 (j+1) r ts V'):ZX A st fz sz V j ((off,n,x)::r) (t::ts) V':=by
 subst hoff;subst hn
 refine⟨hs.trans h.sub,by simp [h.len],fun cells hcl=>?_,fun hf=>?_,fun hf id hid'=>?_⟩
 ·rw [List.length_cons] at hcl
  have hal:as.length=n:=by rw [←hca.1.1];exact hl
  have hj1:(j+1)*n=j*n+n:=by rw [Nat.add_mul,Nat.one_mul]
  have hj2:(j+1+r.length)*n=(j+(r.length+1))*n:=by congr 1;omega
  have hle:(j+1)*n<=(j+(r.length+1))*n:=Nat.mul_le_mul_right n (by omega)
  have hov:jm cells (j*n) as=some (cells.take (j*n)++as++cells.drop (j*n+as.length)):=by rw [v7,if_pos (by omega)]
  obtain⟨ho1,ho2⟩:=oc hov
  obtain⟨cells',g1,g2,g3,g4,gf,g5⟩:=h.fill _ (by rw [ho1];omega)
  refine⟨cells',?_,by rw [g2,ho1],fun q hq=>?_,fun q hq=>?_,fun q y hq1 hq2 hy=>?_,fun i u hu=>?_⟩
  ·rw [yq]
   simp only [hrho,has,cond_eq_ite,Nat.beq_eq,if_pos hal,hov,g1]
  ·rw [g3 q (by omega),ho2,if_neg (by omega)]
  ·rw [List.length_cons] at hq
   rw [g4 q (by omega),ho2,if_neg (by omega)]
  ·rw [List.length_cons] at hq2
   by_cases hq:q < (j+1)*n
   ·rw [g3 q hq,ho2,if_pos (by omega)] at hy
    exact hca.2 y (List.mem_of_getElem? hy)
   ·exact gf q y (by omega) (by omega) hy
  ·cases i with
   |zero=>
    simp at hu;subst hu
    have:(cells'.drop (j*n)).take n=as:=by
     apply List.ext_getElem?
     intro q
     rw [s5]
     by_cases hq:q < n
     ·rw [if_pos hq,g3 _ (by omega),ho2,if_pos (by omega)];congr 1;omega
     ·rw [if_neg hq];exact(List.getElem?_eq_none_iff.2 (by omega)).symm
    rw [Nat.add_zero,this]
    exact lV.2 ⟨l,hc,hca.1⟩
   |succ i=>
    have:=g5 i u (by simpa using hu)
    rwa [show j+1+i=j+(i+1) by omega] at this
 ·obtain⟨l',hl'⟩:=h.jq hf
  exact⟨a'::l',by rw [List.map_cons,ic];simp only [him hf,hl']⟩
 ·rw [List.map_cons,List.flatMap_cons,List.mem_append] at hid'
  rcases hid' with hi|hi
  ·obtain⟨h1,h2⟩:=hid hf id hi
   exact⟨h1,fun ho=>h2 (h.sub.own ho)⟩
  ·obtain⟨h1,h2⟩:=h.ids hf id hi
   exact⟨hs.own h1,h2⟩
theorem ux {fz:Bool} {sz:Nat}:∀(parts:List (Nat×Nat×ct)) (j:Nat) (V:cg) (k:List TV->cg->Prop),R A V st->uy V none fz sz j parts k->∃ts V',k ts V'/\ZX A st fz sz V j parts ts V'
 |[],j,V,k,hR,hk=>⟨[],V,hk,⟨Sub.refl V,rfl,fun cells _=>⟨cells,rfl,rfl,fun _ _=>rfl,fun _ _=>rfl,fun q x h1 h2=>by simp at h2;omega,fun i t hi=>by simp at hi⟩,fun _=>⟨[],rfl⟩,fun _ id hi=>by simp at hi⟩⟩
 |(off,n,x)::r,j,V,k,hR,hk=>by
  obtain⟨h1,hk⟩:=hk
  rw [Bool.and_eq_true,Nat.beq_eq,Nat.beq_eq] at h1
  obtain⟨hoff,hn⟩:=h1
  obtain⟨w,hw,hq⟩:=gj (g:=none) hR trivial hk
  clear hk
  have tree:∀{t:TV} {k':List TV->cg->Prop},Can t (ev st.env x)->dh n t->uy V none fz sz (j+1) r k'->(∀ts V',k' ts V'->k (t::ts) V')->∃ts V',k ts V'/\ZX A st fz sz V j ((off,n,x)::r) ts V':=by
   intro t k' hc hs hk hkk
   obtain⟨l,hl1,hl2⟩:=ye hs
   obtain⟨as,h1,h2⟩:=Dy hc hl1
   obtain⟨ts,V',g1,g2⟩:=ux r (j+1) V k' hR hk
   have him:dw deep st.H (ev st.env x)=some (ev st.env x):=xj (qn hc) 27 _
   refine⟨t::ts,V',hkk _ _ g1,FL hoff hn ?_ hl1 hl2 h1 h2 (Sub.refl V) (fun _=>him) (fun _ id hi=>?_) g2⟩
   ·cases fz with
    |true=>exact Es him
    |false=>rfl
   ·have hh:ff deep st.H (ev st.env x)=[]:=A8 (qn hc) 27 _
    rw [hh] at hi
    cases hi
  generalize he:ev st.env x=a at hw
  cases hw with
  |tr hc=>exact tree (he▸hc) hq.1 hq.2 (fun _ _ h=>h)
  |gi=>exact tree (he▸Can.nil) (by rw [hq.1];rfl) hq.2 (fun _ _ h=>h)
  |zf=>exact tree (he▸pg) (by rw [hq.1];rfl) hq.2 (fun _ _ h=>h)
  |@sl O _ hO=>
   obtain⟨rfl,rfl,hk⟩:=hq
   obtain⟨ob,ho,hwh,es,hk,him⟩:=HN hk
   obtain⟨y,hy,hs⟩:=hR.heap O _ ho
   rw [hO] at hy;cases hy
   obtain⟨a',g1,g2,g3,g4⟩:=him 27 hs
   have hsub:Sub V (yz V (.sl O)):=BG V _
   obtain⟨ts,V',g6,g7⟩:=ux r (j+1) _ _ (hsub.r hR) hk
   obtain⟨as,p1,p2⟩:=Dy (t:=.l es) g2 rfl
   refine⟨_,V',g6,FL hoff hn (Es (by rw [he];exact g1)) rfl rfl p1 p2 hsub (fun _=>by rw [he];exact g1) (fun _ id hi=>?_) g7⟩
   rw [he] at hi
   have hid:=A7 hwh hs 27 id hi
   exact⟨⟨O,_,a,ho,hO,hid⟩,jr hR ho hO hid⟩
  |@st t o cs tl hv hc=>
   obtain⟨hfz,hk⟩:=hq
   rw [Bool.and_eq_true] at hfz
   obtain⟨rfl,hnow⟩:=hfz
   have hthere:=BA hk
   obtain⟨u,us,cs',h1,h2,h3,⟨hs,hk⟩,h5,h6⟩:=Dx hR hc hk 26
   obtain⟨l',rfl⟩:=h5 _ hv
   cases h2
   have hsub:Sub V (y6 V o):=vm o V
   obtain⟨ts,V',g6,g7⟩:=ux r (j+1) _ _ (hsub.r hR) hk
   have him:dw deep st.H (ev st.env x)=some (.agg cs'):=by rw [he];show dw (29+1) _ _=_;rw [oo,h1]
   refine⟨_,V',g6,FL hoff hn (Es him) rfl hs rfl h3 hsub (fun _=>him) (fun _ id hi=>?_) g7⟩
   rw [he] at hi
   have hi':id∈cs.flatMap (ff 29 st.H):=hi
   obtain⟨y,hy,hi'⟩:=List.mem_flatMap.1 hi'
   obtain⟨q,hq⟩:=List.getElem?_of_mem hy
   have hlt:q < tl.length:=by rw [hc.len];exact(List.getElem?_eq_some_iff.1 hq).1
   have hat:=hc.at_ q _ y (List.getElem?_eq_getElem hlt) hq
   cases ho:fc q o with
   |none=>
    rw [ho] at hat
    have hh:ff 29 st.H y=[]:=Ae hat.2 28 _
    rw [hh] at hi';cases hi'
   |some w=>
    rw [ho] at hat
    cases w<;>first|(exact absurd hat (by intro hh;exact hh))|skip
    ·rcases hat with e|e<;>(rw [e] at hi';cases hi')
    ·rename_i O
     have hO:A O=some y:=hat
     obtain⟨ob,hO',hwh⟩:=hthere q O (uf ho)
     obtain⟨y',hy',hs'⟩:=hR.heap O _ hO'
     rw [hO] at hy';cases hy'
     have hidy:=A7 hwh hs' 26 id hi'
     exact⟨⟨O,_,y,hO',hO,hidy⟩,Qd hR hsub hO' hO hidy (JQ (uf ho))⟩
    ·exact absurd (uf ho) (Fj hnow _ _ _ _)
  |_=>cases hq
end
end Go.Ax.V

namespace Go.Ax.V
section
variable {prog:Map bk} {cf:qc} {nt:Nat} {A:ee} {V:cg} {st:St} {d:Option Nat} {g:G} {k:cg->Prop}
theorem og {n:Nat} {p:Prop} (h:pos n p):0 < n/\p:=by
 unfold pos at h
 rw [cond_eq_ite] at h
 split at h
 ·rename_i hh;exact⟨by simpa using hh,h⟩
 ·cases h
theorem eC {a b:Nat} {p:Prop} (h:same a b p):a=b/\p:=by
 unfold same at h
 rw [cond_eq_ite] at h
 split at h
 ·rename_i hh;exact⟨by simpa using hh,h⟩
 ·cases h
theorem uz:∀(l:List Nat) (H:cw) (id:Nat),(drop H l).get id=if id∈l then none else H.get id
 |[],H,id=>by simp [drop]
 |i::l,H,id=>by
  rw [drop,uz l,Map.bt]
  by_cases h:id∈l
  ·rw [if_pos h,if_pos (List.mem_cons_of_mem _ h)]
  ·rw [if_neg h]
   by_cases e:id=i
   ·rw [if_pos e,if_pos (by rw [e];exact List.mem_cons_self)]
   ·rw [if_neg e,if_neg (by intro hh;rcases List.mem_cons.1 hh with hh|hh;exact e hh;exact h hh)]
theorem G2 {fz:Bool} {sz:Nat} {parts:List (Nat×Nat×ct)} {ts:List TV} {V':cg} (h:ZX A st fz sz V 0 parts ts V') {zero:List AV} (hl:ts.length*sz=zero.length) :
  ∃cs,fill (TI fz st) parts zero=some cs/\M5 sz ts cs:=by
 have hlen:=h.len
 obtain⟨cs,g1,g2,g3,g4,gf,g5⟩:=h.fill zero (by rw [Nat.zero_add,←h.len,hl];exact Nat.le_refl _)
 refine⟨cs,g1,by rw [g2,hl],fun x hx=>?_,fun j e hj=>by have:=g5 j e hj;rwa [Nat.zero_add] at this⟩
 obtain⟨q,hq⟩:=List.getElem?_of_mem hx
 have:=(List.getElem?_eq_some_iff.1 hq).1
 exact gf q x (by omega) (by rw [Nat.zero_add,←h.len,hl,←g2];exact this) hq
theorem PC (hR:R A V st) {es len:Nat} {zero:List AV} {parts:List (Nat×Nat×ct)} (h:pos es (uy V none false es 0 parts fun ts V'=>same ts.length len (same zero.length (ts.length*es) (ry nt V' d none .sl (.gr es ts) k)))):gz cf nt A V st d (.sj es len zero parts) k:=by
 obtain⟨hz,h⟩:=og h
 obtain⟨ts,V',hk,hE⟩:=ux parts 0 V _ hR h
 obtain⟨hl,hk⟩:=eC hk
 obtain⟨hl2,hk⟩:=eC hk
 obtain⟨cs,h1,h2⟩:=G2 hE (zero:=zero) hl2.symm
 have hfr:=uq (A:=A) (V:=V') (st:=st) (a:=.ref st.nx 0 0 es ts.length ts.length false) (v:=.ref st.nx 0 0 es ts.length ts.length false) (ob:=.row 0 cs) (hE.sub.r hR) hk
  (fun A' hA=>⟨hz,.inr ⟨_,_,_,cs,rfl,by rw [Map.bt,if_pos rfl],Nat.zero_le _,by simpa using h2⟩⟩) rfl rfl (fun A' O hO=>.sl hO)
 obtain⟨e',p1,V2,A2,p2,p3,p4⟩:=hfr
 refine Ek (f:=fun id=>.ref id 0 0 es len len false) (ob:=.row 0 cs) rfl (by
  have this:fill (ev st.env) parts zero=some cs:=h1
  simp only [vw,this]) ⟨e',by rw [←hl];exact p1,V2,A2,p2,⟨p3.le,fun id hid hn=>p3.same id hid (fun ho=>hn (hE.sub.own ho)),fun id ho=>(p3.own id ho).imp hE.sub.own (fun x=>x)⟩,p4.1.sub hE.sub,p4.2⟩
theorem M1 {l:List AV} {f:AV->Bool} (h:∀x∈l,f x=true):gJ f l=true:=cx.2 h
theorem Py (hR:R A V st) {fz:Bool} {len:Nat} {zero:List AV} {parts:List (Nat×Nat×ct)} {gd:Option (Nat×Bool)} (h:MR nt V d none fz len zero parts k) :
  ∃v H' nx',zh cf ⟨d,.de len zero parts,gd,fz⟩ (ev st.env) st.H st.nx=some (v,H',nx')/\Next nt A V st d v H' nx' k:=by
 unfold MR at h
 simp only at h
 split at h
 ·split at h<;>first|(cases h;done)|skip
  split at h<;>first|(cases h;done)|skip
  split at h<;>first|(cases h;done)|skip
  exact⟨.jq [] 0 (some 0),st.H,st.nx,rfl,cm hR (fun _=>.zf) h⟩
 ·rename_i n
  obtain⟨hz,h⟩:=og h
  obtain⟨hm,h⟩:=eC h
  obtain⟨ts,V',hk,hE⟩:=ux parts 0 V _ hR h
  obtain⟨hl,hk⟩:=eC hk
  obtain⟨cs,h1,h2⟩:=G2 hE (zero:=zero) (by rw [hl,Nat.mul_comm];exact hm)
  have hcan:Can (.l ts) (.jq cs (n+1) (some (n+1))):=by have:=LM hz h2 (some (n+1));rwa [hl] at this
  cases fz with
  |false=>
   refine⟨.jq cs (n+1) (some (n+1)),st.H,st.nx,?_,xe (hE.sub.r hR) (Fr.VM fun O o hh=>hE.sub.H O o hh) (Ext.Lc _ hE.sub.ev) (fun _=>.tr hcan) hk⟩
   have h1':fill (ev st.env) parts zero=some cs:=h1
   simp only [zh,q9,kind,jy,h1',M1 h2.flat,cond_true,cond_false,gU]
  |true=>
   obtain⟨l,hl'⟩:=hE.jq rfl
   have hids:=hE.ids rfl
   have h1':fill (BU st.H (ev st.env)) parts zero=some cs:=h1
   have hget:=uz ((parts.map fun p=>ev st.env p.2.2).flatMap (ff deep st.H)) st.H
   refine⟨.jq cs (n+1) (some (n+1)),drop st.H ((parts.map fun p=>ev st.env p.2.2).flatMap (ff deep st.H)),st.nx,?_,xe (A1:=A) (V1:=V') ⟨(hE.sub.r hR).env,fun O o ho=>?_,(hE.sub.r hR).inj,(hE.sub.r hR).used,hR.one,fun id o ho=>?_,(hE.sub.r hR).lZ⟩ ⟨Nat.le_refl _,fun id _ hn=>?_,fun id ho=>.inl (hE.sub.own ho)⟩ (Ext.Lc _ hE.sub.ev) (fun _=>.tr hcan) hk⟩
   ·simp only [zh,hl',jy,h1',M1 h2.flat,cond_true]
   ·obtain⟨a,ha,hor⟩:=(hE.sub.r hR).heap O o ho
    refine⟨a,ha,hor.mono (fun _ _ h=>h) (fun id hi=>?_)⟩
    show (drop st.H _).get id=st.H.get id
    rw [hget,if_neg]
    exact fun hm=>(hids id hm).2 ⟨O,o,a,ho,ha,hi⟩
   ·have ho':(drop st.H _).get id=some o:=ho
    rw [hget] at ho'
    split at ho'
    ·cases ho'
    ·exact hR.fresh id o ho'
   ·rw [hget,if_neg]
    exact fun hm=>hn (hids id hm).1
theorem Uk {s io n:Nat} {a:AV} {as:List AV} {t u:TV} {ts:List TV} {o:Nat} {ovs:List (Nat×VV)} (hc:en A t ovs as ts) (hl:ts.length=s) (hio:io < s) (hov:∀j,fc j ovs=if j=io then some .gi else none) (hp:av t io 1 (.l [])=some u):VR A (.gl s io [u]) (.jq as 1 (some 1)):=by
 obtain⟨ts',xs,us,p1,p2,p3,p4,p5,p6,p7⟩:=gy hp
 have:=hc.cells.symm.trans p1;cases this
 cases p2
 have hla:as.length=s:=by rw [←hc.len];exact hl
 refine VR.gl (es:=[u]) (by omega) hio (by simp [hla]) (fun x hx=>?_) (fun j e he=>?_)
 ·obtain⟨q,hq⟩:=List.getElem?_of_mem hx
  have hlt:q < ts.length:=by rw [hc.len];exact(List.getElem?_eq_some_iff.1 hq).1
  have:=hc.at_ q _ x (List.getElem?_eq_getElem hlt) hq
  rw [hov] at this
  split at this
  ·rcases this with rfl|rfl<;>rfl
  ·exact this.2
 ·cases j with
  |succ j=>simp at he
  |zero=>
   simp at he;subst he
   refine⟨us,p4,by rw [p5,hl],fun o t z hne ht hz=>?_,?_,fun x hx=>?_⟩
   ·rw [Nat.zero_mul,Nat.zero_add] at hz
    rw [p7,if_neg (by omega)] at ht
    have:=hc.at_ o t z ht hz
    rw [hov,if_neg hne] at this
    exact this.1
   ·rw [p7,if_pos (by omega),Nat.sub_self];rfl
   ·rw [Nat.zero_mul,Nat.zero_add] at hx
    have hlt:io < ts.length:=by omega
    have:=hc.at_ io _ x (List.getElem?_eq_getElem hlt) hx
    rw [hov,if_pos rfl] at this
    exact this
theorem JZ {ρ:ct->AV} {n:Nat} {x:ct} {zero as:List AV} (hc:(ρ x).cells?=some as) (hn:as.length=n) (hz:zero.length=n):fill ρ [(0,n,x)] zero=some as:=by
 rw [yq]
 simp only [hc,cond_eq_ite,Nat.beq_eq,if_pos hn]
 have:jm zero 0 as=some as:=by
  rw [v7,if_pos (by omega),List.take_zero,List.nil_append,Nat.zero_add,List.drop_of_length_le (by omega),List.append_nil]
 rw [this];rfl
theorem Pz {sh:Sh} (hR:R A V st) {fz:Bool} {len:Nat} {zero:List AV} {parts:List (Nat×Nat×ct)} {gd:Option (Nat×Bool)} (h:DZ sh nt V d none fz len zero parts k) :
  ∃v H' nx',zh cf ⟨d,.de len zero parts,gd,fz⟩ (ev st.env) st.H st.nx=some (v,H',nx')/\Next nt A V st d v H' nx' k:=by
 unfold DZ at h
 split at h
 ·exact Py hR h
 rename_i c hcc
 simp only at h
 split at h
 rotate_left
 ·cases h
 rename_i off n x
 split at h
 rotate_left
 ·cases h
 rename_i hb
 simp only [Bool.and_eq_true,Nat.beq_eq] at hb
 obtain⟨rfl,rfl,rfl,hz⟩:=hb
 obtain⟨w,hw,hk⟩:=gj (g:=none) hR trivial h
 have fin:∀{as:List AV},(ev st.env x).cells?=some as->as.length=NJ c->(∀y∈as,AV.flat y=true)->Next nt A V st d (.jq as 1 (some 1)) st.H st.nx k->∃v H' nx',zh cf ⟨d,.de 1 zero [(0,NJ c,x)],gd,fz⟩ (ev st.env) st.H st.nx=some (v,H',nx')/\Next nt A V st d v H' nx' k:=by
  intro as h1 h2 h3 h4
  have hfl:gJ AV.flat as=true:=cx.2 h3
  refine⟨.jq as 1 (some 1),st.H,st.nx,?_,h4⟩
  cases fz with
  |false=>simp only [zh,q9,kind,jy,JZ h1 h2 hz,hfl,cond_true,cond_false,gU]
  |true=>
   have hpl:(ev st.env x).plain=true:=by
    cases hq:ev st.env x<;>rw [hq] at h1<;>first|(cases h1;done)|rfl|skip
    all_goals (cases h1;first|exact hfl|exact h3 _ List.mem_cons_self)
   have him:dw deep st.H (ev st.env x)=some (ev st.env x):=xj hpl 27 _
   have hids:ff deep st.H (ev st.env x)=[]:=A8 hpl 27 _
   have hrho:(BU st.H (ev st.env) x)=ev st.env x:=Es him
   have hf2:fill (BU st.H (ev st.env)) [(0,NJ c,x)] zero=some as:=JZ (by rw [hrho];exact h1) h2 hz
   have hm:lN (dw deep st.H) [ev st.env x]=some [ev st.env x]:=by rw [ic,him];rfl
   simp only [zh,cond_true,List.map_cons,List.map_nil,hm,jy,hf2,hfl,List.flatMap_cons,List.flatMap_nil,hids,List.append_nil]
   rfl
 unfold Us at hk
 split at hk
 ·split at hk
  rotate_left
  ·cases hk
  rename_i hb
  simp only [Bool.and_eq_true,Nat.beq_eq] at hb
  obtain⟨hs1,hi0⟩:=hb
  have hw':ev st.env x=.aq\/ev st.env x=.jq [] 0 (some 0):=by
   generalize ev st.env x=p at hw
   cases hw
   ·exact .inl rfl
   ·exact .inr rfl
  have hc1:(ev st.env x).cells?=some [ev st.env x]:=by rcases hw' with e|e<;>rw [e]<;>rfl
  refine fin hc1 (by rw [hs1];rfl) (fun y hy=>by rw [List.mem_singleton] at hy;subst hy;rcases hw' with e|e<;>rw [e]<;>rfl) (cm hR (fun _=>?_) hk)
  refine VR.gl (es:=[.l []]) (by omega) (by omega) rfl (fun y hy=>by rw [List.mem_singleton] at hy;subst hy;rcases hw' with e|e<;>rw [e]<;>rfl) (fun j e he=>?_)
  cases j with
  |succ j=>simp at he
  |zero=>
   simp at he;subst he
   refine⟨[.l []],rfl,rfl,fun o t z hne ht hz=>?_,rfl,fun y hy=>?_⟩
   ·cases o with
    |zero=>exact absurd rfl hne
    |succ o=>simp at ht
   ·simp at hy;subst hy;exact hw'
 ·rename_i t ovs
  split at hk
  rotate_left
  ·cases hk
  rename_i o
  split at hk
  rotate_left
  ·cases hk
  rename_i hb
  simp only [Bool.and_eq_true,Nat.beq_eq,Nat.blt_eq] at hb
  obtain⟨rfl,hio⟩:=hb
  obtain⟨hso,u,hp,hk⟩:=hk
  generalize he:ev st.env x=p at hw fin
  cases hw with
  |@st _ _ cs ts hv hc=>
   obtain⟨l,h1,h2⟩:=ye hso
   have:=hc.cells.symm.trans h1;cases this
   have hov:∀j,fc j [(Sl c,VV.gi)]=if j=Sl c then some .gi else none:=fun j=>by
    rw [ei]
    by_cases e:Sl c=j
    ·rw [if_pos e,if_pos e.symm]
    ·rw [if_neg e,if_neg (Ne.symm e)];rfl
   have hla:cs.length=NJ c:=by rw [←hc.len];exact h2
   refine fin rfl hla (fun y hy=>?_) (cm hR (fun _=>Uk (a:=.aq) (o:=0) (n:=0) hc h2 hio hov hp) hk)
   obtain⟨q,hq⟩:=List.getElem?_of_mem hy
   have hlt:q < ts.length:=by rw [hc.len];exact(List.getElem?_eq_some_iff.1 hq).1
   have:=hc.at_ q _ y (List.getElem?_eq_getElem hlt) hq
   rw [hov] at this
   split at this
   ·rcases this with rfl|rfl<;>rfl
   ·exact this.2
 ·cases hk
theorem R7 (hR:R A V st) (ha:act g) {x:ct} (h:lM V g x fun w=>Ii nt V d g w k):gz cf nt A V st d (.we x) k:=by
 obtain⟨w,hw,hk⟩:=gj hR ha h
 generalize he:ev st.env x=p at hw
 cases hw with
 |ptr h=>exact c9 rfl (by simp only [uc,he]) (cm hR (fun _=>.ptr h) hk)
 |pd h=>exact c9 rfl (by simp only [uc,he]) (cm hR (fun _=>.pd h) hk)
 |ea h=>exact c9 rfl (by simp only [uc,he]) (cm hR (fun _=>.ea h) hk)
 |pt hl hf h=>exact c9 rfl (by simp only [uc,he]) (cm hR (fun _=>.pt hl hf h) hk)
 |_=>cases hk
theorem WJ {O i off off' id gg b sz len cap:Nat} {ex:Bool} (h:A O=some (.ref id gg b sz len cap ex)):VR A (.ea O i (off+off')) (.ptr id gg (Nat.add (b+i*sz+off) off')):=by
 have:=VR.ea (A:=A) (i:=i) (off:=off+off') h
 rwa [←Nat.add_assoc] at this
theorem WK {O v i j off off' id gg b sz len cap:Nat} {ex:Bool} (h:A (.i O v i)=some (.ref id gg b sz len cap ex)):VR A (.e2 O v i j (off+off')) (.ptr id gg (Nat.add (b+j*sz+off) off')):=by
 have:=VR.e2 (A:=A) (k:=j) (off:=off+off') h
 rwa [←Nat.add_assoc] at this
theorem SR {v:TV} {cs:List AV} {b off off' n:Nat} (hl:b+n<=cs.length) (hf:∀x∈cs,AV.flat x=true) (h:CX v ((cs.drop b).take n)):VR A (.pt v (off+off')) (.oV cs (Nat.add (b+off) off')):=by
 have:=VR.pt (A:=A) (off:=off+off') hl hf h
 rwa [←Nat.add_assoc] at this
theorem R9 (hR:R A V st) (ha:act g) {off:Nat} {x:ct} (h:lM V g x fun w=>Ij nt V d g off w k):gz cf nt A V st d (.uu off x) k:=by
 obtain⟨w,hw,hk⟩:=gj hR ha h
 generalize he:ev st.env x=p at hw
 cases hw with
 |ptr h=>exact c9 rfl (by simp only [rq,he];rfl) (cm hR (fun _=>.ptr h) hk)
 |pd h=>exact c9 rfl (by simp only [rq,he];rfl) (cm hR (fun _=>.pd h) hk)
 |ea h=>exact c9 rfl (by simp only [rq,he]) (cm hR (fun _=>WJ h) hk)
 |pt hl hf h=>exact c9 rfl (by simp only [rq,he]) (cm hR (fun _=>SR hl hf h) hk)
 |e2 h=>exact c9 rfl (by simp only [rq,he]) (cm hR (fun _=>WK h) hk)
 |_=>cases hk
theorem YG (hR:R A V st) (ha:act g) {off:Nat} {sz:Option Nat} {x:ct} (h:lM V g x fun w=>J0 nt V d g off sz w k):gz cf nt A V st d (.NN off sz x) k:=by
 obtain⟨w,hw,hk⟩:=gj hR ha h
 generalize he:ev st.env x=p at hw
 have fin:∀{cs l:List AV} {v:AV},ev st.env x=.agg cs->cut cs off (gC sz)=some l->Lf sz l=some v->Next nt A V st d v st.H st.nx k->gz cf nt A V st d (.NN off sz x) k:=
  fun h1 h2 h3 h4=>c9 rfl (by simp only [Jl,h1,h2,h3,lq]) h4
 cases hw with
 |@tr v _ hc=>
  obtain⟨r,h1,h2⟩:=di hR ha hk
  unfold YY at h1
  split at h1
  ·rename_i cs
   cases hc with
   |a ts as hl hf hh=>
    obtain⟨l,y,h3,h4,h5⟩:=Cz (cs:=as) rfl ⟨⟨hl,hh⟩,hf⟩ h1
    exact fin he h3 h4 (h2 _ h5)
  ·cases h1
 |@st v ovs cs ts hv hc=>
  simp only [J0] at hk
  split at hk
  ·split at hk
   ·rename_i w hw
    have hlt:=hc.keys _ _ hw
    have hx:cs[off]?=some (cs[off]'(by rw [←hc.len];exact hlt)):=List.getElem?_eq_getElem _
    have hs:=hc.at_ off _ _ (List.getElem?_eq_getElem hlt) hx
    rw [hw] at hs
    refine fin he (Av hx) rfl (cm hR (fun _=>?_) hk)
    cases w<;>first|(exact absurd hs (by intro hh;exact hh))|skip
    ·rcases hs with e|e
     ·rw [e];exact .gi
     ·rw [e];exact .zf
    ·exact .sl hs
    ·exact .ow hs
   ·rename_i ho
    obtain⟨r,h1,h2⟩:=di hR ha hk
    obtain⟨y,h3,h4,_⟩:=At hc h1 ho
    exact fin he h3 rfl (h2 _ h4)
  ·rename_i n
   split at hk
   ·rename_i ho
    obtain⟨r,h1,h2⟩:=di hR ha hk
    obtain⟨l,ls,h3,h4,h5⟩:=oE hc h1
    rw [ho] at h5
    exact fin he h3 rfl (h2 _ (Ca h5 h4))
   ·rename_i p r ho
    split at hk
    ·obtain⟨u,h1,h2⟩:=hk
     obtain⟨l,ls,h3,h4,h5⟩:=oE hc h1
     rw [ho] at h5
     exact fin he h3 rfl (cm hR (fun _=>.st h4 h5) h2)
    ·cases hk
 |_=>cases hk
theorem Ab {i:TV} {n m:Nat} {a:AV} (h:dz i n=some m) (hc:Can i a):∃k z,a=.int k z/\Rn z n=some m/\m < n:=by
 unfold dz at h
 split at h
 ·rename_i k z;cases hc;exact⟨k,z,rfl,h,(CC h).2⟩
 ·cases h
theorem R8 (hR:R A V st) (ha:act g) {es:Nat} {x i:ct} (h:lM V g x fun w=>ta V g i fun i=>MS nt V d g es w i k):gz cf nt A V st d (.jg es x i) k:=by
 obtain⟨w,hw,hk⟩:=gj hR ha h
 obtain⟨iv,hi,hk⟩:=gm hR ha hk
 obtain⟨hz,hk⟩:=og hk
 generalize he:ev st.env x=p at hw
 cases hw with
 |@tr v _ hc=>
  obtain⟨e,⟨h1,h2⟩,h3⟩:=EV ha hk
  unfold oW at h1
  split at h1
  ·rename_i es'
   split at h1
   ·rename_i m hm
    obtain⟨ki,zi,g1,g2,g3⟩:=Ab hm hi
    cases hc with
    |nil=>simp at g3
    |jq _ cs n sz c hn hcl hsz hf hh=>
     subst hn
     have hE:=hh m e h1
     obtain⟨l,hl1,hl2⟩:=ye h2
     obtain⟨ts,ht1,ht2⟩:=lV.1 hE
     rw [hl1] at ht1;cases ht1
     have hmn:=gv (z:=sz) g3
     have hseg:((cs.drop (m*sz)).take sz).length=sz:=by simp only [List.length_take,List.length_drop];omega
     have hsz':sz=es:=by rw [←hl2,ht2.1,hseg]
     subst hsz'
     refine c9 (v:=.oV cs (m*sz)) rfl ?_ (cm hR (fun _=>?_) h3)
     ·simp only [ud,g1,he,g2]
      cases cs with
      |nil=>simp at hcl;omega
      |cons _ _=>rfl
     ·exact VR.pt (b:=m*sz) (off:=0) (n:=sz) (by omega) hf hE
   ·cases h1
  ·cases h1
 |@sl O _ hO=>
  dsimp only at hk
  split at hk
  ·rename_i z es' ho
   obtain⟨rfl,hk2⟩:=eC hk
   obtain⟨m,h1,h2⟩:=xb ha hk2
   obtain⟨ki,zi,g1,g2,g3⟩:=Ab h1 hi
   obtain⟨y,hy,hs⟩:=hR.heap O _ ho
   rw [hO] at hy;cases hy
   obtain⟨_,hs⟩:=hs
   rcases hs with ⟨e,_⟩|⟨id,gg,b,cells,e,hH,hb,hE⟩
   ·subst e;simp at g3
   ·subst e
    exact c9 (v:=.ptr id gg (b+m*z)) rfl (by simp only [ud,g1,he,g2,cond_eq_ite,Nat.beq_eq,if_pos];rfl) (cm hR (fun _=>VR.ea (off:=0) hO) h2)
  ·rename_i K s io iz ver hole es' ho
   obtain⟨rfl,hk2⟩:=eC hk
   obtain⟨m,h1,h2⟩:=xb ha hk2
   obtain⟨ki,zi,g1,g2,g3⟩:=Ab h1 hi
   obtain⟨y,hy,hs⟩:=hR.heap O _ ho
   rw [hO] at hy;cases hy
   obtain⟨_,_,_,hs⟩:=hs
   rcases hs with ⟨e,_⟩|⟨id,gg,b,cells,e,hH,hb,hE⟩
   ·subst e;simp at g3
   ·subst e
    exact c9 (v:=.ptr id gg (b+m*s)) rfl (by simp only [ud,g1,he,g2,cond_eq_ite,Nat.beq_eq,if_pos];rfl) (cm hR (fun _=>VR.ea (off:=0) hO) h2)
  ·cases hk
 |@ow O v j _ hA=>
  obtain⟨s,io,iz,es',ho,hk⟩:=iw hk
  obtain⟨rfl,hk2⟩:=eC hk
  obtain⟨m,h1,h2⟩:=xb ha hk2
  unfold YT at h1
  split at h1
  rotate_left
  ·cases h1
  rename_i l hl
  obtain⟨ki,zi,g1,g2,g3⟩:=Ab h1 hi
  obtain⟨y,hy,hs⟩:=hR.heap O _ ho
  have hsl:=Dn hs hl (by simp) hA
  rcases hsl.2 with ⟨e,_⟩|⟨id,gg,b,cells,e,hH,hb,hE⟩
  ·subst e;simp at g3
  ·subst e
   exact c9 (v:=.ptr id gg (b+m*iz)) rfl (by simp only [ud,g1,he,g2,cond_eq_ite,Nat.beq_eq,if_pos];rfl) (cm hR (fun _=>VR.e2 (off:=0) hA) h2)
 |_=>cases hk
theorem TW (hR:R A V st) (ha:act g) {len es:Nat} {x i:ct} (h:lM V g x fun w=>ta V g i fun i=>LF nt V d g len es w i k):gz cf nt A V st d (.uo len es x i) k:=by
 obtain⟨w,hw,hk⟩:=gj hR ha h
 obtain⟨iv,hi,hk⟩:=gm hR ha hk
 generalize he:ev st.env x=p at hw
 have fin:∀{m:Nat} {v:AV},dz iv len=some m->(∀ki zi,ev st.env i=.int ki zi->Rn zi len=some m->z7 (ev st.env) len es x i=some (.val v))->Next nt A V st d v st.H st.nx k->gz cf nt A V st d (.uo len es x i) k:=by
  intro m v h1 h2 h3
  obtain⟨ki,zi,g1,g2,g3⟩:=Ab h1 hi
  exact c9 rfl (h2 ki zi g1 g2) h3
 cases hw with
 |@ptr O off id hO=>
  obtain⟨m,h1,h2⟩:=xb ha hk
  exact fin h1 (fun ki zi g1 g2=>by simp only [z7,g1,g2,he];rfl) (cm hR (fun _=>VR.pd hO) h2)
 |@pd O off id hO=>
  obtain⟨m,h1,h2⟩:=xb ha hk
  exact fin h1 (fun ki zi g1 g2=>by simp only [z7,g1,g2,he];rfl) (cm hR (fun _=>VR.pd hO) h2)
 |@pt v cs b off n hl hf hcc=>
  obtain⟨m,h1,h2⟩:=xb ha hk
  exact fin h1 (fun ki zi g1 g2=>by simp only [z7,g1,g2,he];rfl) (cm hR (fun _=>SR hl hf hcc) h2)
 |_=>cases hk
end
end Go.Ax.V

namespace Go.Ax.V
section
variable {prog:Map bk} {cf:qc} {nt:Nat} {A:ee} {V:cg} {st:St} {d:Option Nat} {g:G} {k:cg->Prop}
theorem HJ {sz z:Nat} {es:List TV} {cs:List AV} {n:Nat} (h:gX sz es) (hn:es.length=n) (hc:cs.length=n*z) (hh:∀(j:Nat) (e:TV),es[j]?=some e->CX e ((cs.drop (j*z)).take z)):es=[]\/sz=z:=by
 cases es with
 |nil=>exact .inl rfl
 |cons e r=>
  right
  obtain⟨l,hl1,hl2⟩:=ye h
  obtain⟨ts,ht1,ht2⟩:=lV.1 (hh 0 e rfl)
  rw [hl1] at ht1;cases ht1
  rw [←hl2,ht2.1]
  have:z<=cs.length:=by rw [hc,←hn,List.length_cons,Nat.add_mul,Nat.one_mul];omega
  simp only [List.length_take,List.length_drop];omega
structure Vz (H:cw) (sz:Nat) (xs:List TV) (a:AV) (src:Src) (l:List AV):Prop where
 eq:lH sz a=some (xs.length,src)
 get:jf H src.q=some l
 el:M5 sz xs (src.cs l)
theorem Dv (sz:Nat):M5 sz [] []:=⟨by simp,fun x hx=>by simp at hx,fun j e h=>by simp at h⟩
theorem Tp {H:cw} {sz:Nat} {es:List TV} {a:AV} (h:Eg H sz es a):∃src l,Vz H sz es a src l:=by
 obtain⟨hz,h⟩:=h
 rcases h with ⟨rfl,rfl|rfl⟩|⟨id,g,b,cells,rfl,hH,hb,he⟩
 ·exact⟨.list [],[],rfl,rfl,Dv sz⟩
 ·exact⟨.list [],[],by simp [lH],rfl,Dv sz⟩
 ·have hl:=he.len
  rw [List.length_drop] at hl
  refine⟨.El ⟨id,g,b,es.length*sz⟩,cells.drop b,by simp [lH],?_,he⟩
  simp only [Src.q,jf,hH,cond_eq_ite,Nat.beq_eq,if_pos]
  rw [js,if_pos (by omega),List.take_of_length_le (by rw [List.length_drop];omega)]
theorem OE (hR:R A V st) {sz:Nat} (hz:0 < sz) {w:VV} {a:AV} (hw:VR A w a) {k:List TV->Prop} (hk:OG V sz w k):∃xs src l,Vz st.H sz xs a src l/\k xs:=by
 cases hw with
 |@tr v _ hc=>
  obtain⟨xs,h1,h2,h3⟩:=hk
  cases v<;>first|(cases h1;done)|skip
  cases h1
  cases hc with
  |nil=>exact⟨[],.list [],[],⟨rfl,rfl,Dv sz⟩,h3⟩
  |jq _ cs n z c hn hcl hsz hf hh=>
   refine⟨xs,.list cs,[],?_,h3⟩
   rcases HJ h2 hn hcl hh with rfl|rfl
   ·simp at hn;subst hn
    have:cs=[]:=List.length_eq_zero_iff.1 (by omega)
    subst this
    exact⟨by simp [lH],rfl,Dv sz⟩
   ·exact⟨by simp [lH,hn,hcl],rfl,⟨by show cs.length=_;rw [hcl,hn],hf,hh⟩⟩
 |gi=>exact⟨[],.list [],[],⟨rfl,rfl,Dv sz⟩,hk⟩
 |zf=>exact⟨[],.list [],[],⟨by simp [lH],rfl,Dv sz⟩,hk⟩
 |@sl O _ hO=>
  simp only [OG] at hk
  split at hk
  ·rename_i z es ho
   obtain⟨rfl,hk2⟩:=eC hk
   obtain⟨y,hy,hs⟩:=hR.heap O _ ho
   rw [hO] at hy;cases hy
   obtain⟨src,l,h⟩:=Tp hs
   exact⟨es,src,l,h,hk2⟩
  ·cases hk
 |_=>cases hk
theorem NV {sz:Nat} {es xs:List TV} {cs ds:List AV} (h:M5 sz es cs) (h':M5 sz xs ds):M5 sz (es++xs) (cs++ds):=by
 refine⟨by rw [List.length_append,List.length_append,h.len,h'.len,Nat.add_mul],fun x hx=>(List.mem_append.1 hx).elim (h.flat x) (h'.flat x),fun j e hj=>?_⟩
 by_cases hlt:j < es.length
 ·rw [List.getElem?_append_left hlt] at hj
  have:=gv (z:=sz) hlt
  have:((cs++ds).drop (j*sz)).take sz=(cs.drop (j*sz)).take sz:=by
   rw [List.drop_append_of_le_length (by rw [h.len];omega),List.take_append_of_le_length (by rw [List.length_drop,h.len];omega)]
  rw [this];exact h.el j e hj
 ·rw [List.getElem?_append_right (by omega)] at hj
  have e1:j*sz=cs.length+(j - es.length)*sz:=by rw [h.len,←Nat.add_mul];congr 1;omega
  have:((cs++ds).drop (j*sz))=ds.drop ((j - es.length)*sz):=by rw [e1,List.drop_append];simp
  rw [this];exact h'.el _ e hj
theorem HA {bytes:Nat} {es xs l:List TV} (h:gw bytes es xs=some l):l=es++xs/\(es.length+xs.length)*bytes<=most/\es.length+xs.length<=most:=by
 unfold gw at h
 rw [cond_eq_ite] at h
 split at h
 ·rename_i hh
  rw [Bool.and_eq_true,Nat.ble_eq,Nat.ble_eq] at hh
  cases h;exact⟨rfl,hh.1,hh.2⟩
 ·cases h
theorem CV (hR:R A V st) {V1:cg} (hR1:R A V1 st) (hown1:∀id,gR V1 A id->gR V A id) (hev:wh V V1) {sz bytes:Nat} {es xs l:List TV} {s x:AV} {src:Src} {lc:List AV} (hsl:Eg st.H sz es s) (hone:s.one=true) (hown:∀id,gM s=some id->¬gR V1 A id/\gR V A id)
  (hx:Vz st.H sz xs x src lc) (happ:gw bytes es xs=some l) {so xo:ct} (e1:ev st.env so=s) (e2:ev st.env xo=x) (hk:ry nt V1 d g .sl (.gr sz l) k):gz cf nt A V st d (.app sz bytes so xo) k:=by
 obtain⟨rfl,hb1,hb2⟩:=HA happ
 have hz:=hsl.1
 have hkind:kind (.app sz bytes so xo)=.plan fun ρ=>Bm sz bytes (ρ so) (ρ xo):=rfl
 by_cases hm:xs=[]
 ·subst hm
  refine c9 (v:=s) hkind ?_ (BP (a:=s) (nx':=st.nx) hR1 hown1 hk (Nat.le_refl _) hR.fresh (fun _ _=>rfl) (fun _ _ _=>rfl) (fun A' _=>by rw [List.append_nil];exact hsl) hone (fun id hi=>⟨(hown id hi).1,.inl (hown id hi).2⟩) (fun A' O hO=>.sl hO) rfl hev)
  have hsl':Ib s=true:=by
   rcases hsl.2 with ⟨_,rfl|rfl⟩|⟨id,g,b,cells,rfl,_⟩<;>rfl
  simp only [Bm,e1,e2,hx.eq,List.length_nil,cond_eq_ite,Nat.beq_eq,if_pos,hsl']
 ·have hm0:xs.length≠0:=fun h=>hm (List.length_eq_zero_iff.1 h)
  obtain⟨hz,hsl⟩:=hsl
  have fresh:∀(n:Nat),n=(es++xs).length->∀cells,M5 sz (es++xs) cells->Next nt A V st d (.ref st.nx 0 0 sz n n false) (st.H.put (some (.row 0 cells)) st.nx) (st.nx+1) k:=by
   intro n hn cells hE
   subst hn
   obtain⟨e',p1,V2,A2,p2,p3,p4⟩:=uq (A:=A) (V:=V1) (st:=st) (a:=.ref st.nx 0 0 sz (es++xs).length (es++xs).length false) (v:=.ref st.nx 0 0 sz (es++xs).length (es++xs).length false) (ob:=.row 0 cells) hR1 hk
    (fun A' hA=>⟨hz,.inr ⟨_,_,_,cells,rfl,by rw [Map.bt,if_pos rfl],Nat.zero_le _,hE⟩⟩) rfl rfl (fun A' O hO=>.sl hO)
   exact⟨e',p1,V2,A2,p2,⟨p3.le,fun id hid hn=>p3.same id hid (fun ho=>hn (hown1 _ ho)),fun id ho=>(p3.own id ho).imp (hown1 _) (fun x=>x)⟩,(Ext.Lc A hev).trans p4.1,p4.2⟩
  rcases hsl with ⟨rfl,rfl|rfl⟩|⟨id,gg,b,cells,rfl,hH,hb,hE⟩
  ·refine⟨_,_,_,?_,fresh xs.length (by simp) (src.cs lc) (by simpa using hx.el)⟩
   simp only [List.length_nil,Nat.zero_add] at hb1 hb2
   simp only [q9,hkind,Bm,e1,e2,hx.eq,cond_eq_ite,Nat.beq_eq,if_neg hm0,Bool.and_eq_true,Nat.ble_eq]
   rw [if_pos ⟨hb1,hb2⟩]
   simp only [gU,oa,hx.get,ur,EP]
  ·refine⟨_,_,_,?_,fresh (0+xs.length) (by simp) (src.cs lc) (by simpa using hx.el)⟩
   simp only [List.length_nil] at hb1 hb2
   simp only [q9,hkind,Bm,e1,e2,hx.eq,cond_eq_ite,Nat.beq_eq,if_neg hm0,Bool.and_eq_true,Nat.ble_eq,Nat.blt_eq]
   rw [if_pos ⟨⟨⟨by show 0 < 0+xs.length;omega,by simp⟩,hb1⟩,hb2⟩]
   simp only [gU,oa,hx.get,ur,EP,List.nil_append]
   rfl
  ·have hl:=hE.len
   rw [List.length_drop] at hl
   obtain⟨hn1,hn2⟩:=hown id rfl
   have hE2:=NV hE hx.el
   refine⟨.ref id (gg+1) 0 sz (es.length+xs.length) (es.length+xs.length) false,st.H.put (some (.row (gg+1) (cells.drop b++src.cs lc))) id,st.nx,?_,
    BP (a:=.ref id (gg+1) 0 sz (es.length+xs.length) (es.length+xs.length) false) hR1 hown1 hk (Nat.le_refl _) (fun i o hh=>?_) (fun i ho=>?_) (fun i _ hn=>?_) (fun A' _=>⟨hz,.inr ⟨id,gg+1,0,_,by rw [List.length_append],by rw [Map.bt,if_pos rfl],Nat.zero_le _,hE2⟩⟩) rfl (fun i hi=>?_) (fun A' O hO=>.sl hO) rfl hev⟩
   ·simp only [q9,hkind,Bm,e1,e2,hx.eq,cond_eq_ite,Nat.beq_eq,if_neg hm0,Bool.and_eq_true,Nat.ble_eq,if_pos]
    rw [if_pos ⟨⟨trivial,hb1⟩,hb2⟩]
    simp only [F1,cond_eq_ite,Nat.ble_eq]
    rw [if_neg (by show ¬(es.length+xs.length<=es.length);omega),if_neg (by decide)]
    simp only [gU,oa,hx.get,ur,hH,D7,cond_eq_ite,Nat.beq_eq,if_pos]
    rw [if_pos (by show b+es.length*sz=cells.length;omega)]
    simp only [EP]
    rfl
   ·rw [Map.bt] at hh
    split at hh
    ·rename_i e;subst e;exact hR.oR hn2
    ·exact hR.fresh i o hh
   ·rw [Map.bt,if_neg]
    rintro rfl;exact hn1 ho
   ·rw [Map.bt,if_neg]
    rintro rfl;exact hn hn2
   ·cases hi;exact⟨hn1,.inl hn2⟩
theorem Ui (hR:R A V st) {O s io iz v i:Nat} {es:List TV} {x:AV} (ho:V.H.get O=some (.gn O s io iz v none es)) (hx:A (.i O v i)=some x) :
  R A (ey V O (.gn O s io iz v (some i) es)) st/\(∀id,gR (ey V O (.gn O s io iz v (some i) es)) A id->gR V A id)/\∀id,gM x=some id->¬gR (ey V O (.gn O s io iz v (some i) es)) A id:=by
 obtain⟨a,hA,hs⟩:=hR.heap O _ ho
 obtain⟨_,hv1,hv0,hv2,hv3⟩:=hR.lZ O _ _ ho hA
 have ids:∀id,jJ A (.gn O s io iz v (some i) es) a id->jJ A (.gn O s io iz v none es) a id:=by
  rintro id (h|⟨j,y,h1,h2,h3⟩)
  ·exact .inl h
  ·exact .inr ⟨j,y,by simp,h2,h3⟩
 have get':∀(O':Nat) o',(ey V O (.gn O s io iz v (some i) es)).H.get O'=some o'->(O'=O/\o'=.gn O s io iz v (some i) es)\/(O'≠O/\V.H.get O'=some o'):=fun O' o' h=>by
  simp only [ey,Map.bt] at h
  split at h
  ·rename_i e;cases h;exact .inl ⟨e,rfl⟩
  ·rename_i e;exact .inr ⟨e,h⟩
 have up:∀{O':Nat} {o':VO} {y:AV} {id:Nat},(ey V O (.gn O s io iz v (some i) es)).H.get O'=some o'->A O'=some y->jJ A o' y id->∃o2,V.H.get O'=some o2/\jJ A o2 y id:=fun {O' o' y id} h hy hi=>by
  rcases get' O' o' h with ⟨rfl,rfl⟩|⟨_,h⟩
  ·rw [hA] at hy;cases hy;exact⟨_,ho,ids id hi⟩
  ·exact⟨o',h,hi⟩
 refine⟨⟨hR.env,fun O' o' h=>?_,fun O1 O2 o1 o2 a1 a2 id h1 h2 r1 r2 i1 i2=>?_,hR.used,hR.one,hR.fresh,fun O' o' y h hy=>?_⟩,fun id ⟨O',o',y,h1,h2,h3⟩=>?_,fun id hi ⟨O',o',y,h1,h2,h3⟩=>?_⟩
 ·rcases get' O' o' h with ⟨rfl,rfl⟩|⟨_,h⟩
  ·refine⟨a,hA,hs.1,hs.2.1,hs.2.2.1,hs.2.2.2.imp (fun h=>h) ?_⟩
   rintro⟨id,g,b,cells,rfl,h5,h6,h7⟩
   refine⟨id,g,b,cells,rfl,h5,h6,h7.len,fun j e he=>?_⟩
   obtain⟨ts,g1,g2,g3,x',g4,g5,g6⟩:=h7.el j e he
   exact⟨ts,g1,g2,g3,x',g4,g5,fun _=>g6 (by simp)⟩
  ·exact hR.heap O' o' h
 ·obtain⟨p1,q1,q2⟩:=up h1 r1 i1
  obtain⟨p2,q3,q4⟩:=up h2 r2 i2
  exact hR.inj O1 O2 _ _ a1 a2 id q1 q3 r1 r2 q2 q4
 ·rcases get' O' o' h with ⟨rfl,rfl⟩|⟨_,h⟩
  ·have hy':A O'=some y:=hy
   rw [hA] at hy';cases hy'
   exact⟨rfl,hv1,hv0,fun j j' x x' id _ _=>hv2 j j' x x' id (by simp) (by simp),fun j x id _=>hv3 j x id (by simp)⟩
  ·exact hR.lZ O' o' y h hy
 ·obtain⟨p,q1,q2⟩:=up h1 h2 h3
  exact⟨O',p,y,q1,h2,q2⟩
 ·have hin:jJ A (.gn O s io iz v none es) a id:=.inr ⟨i,x,by simp,hx,hi⟩
  rcases get' O' o' h1 with ⟨rfl,rfl⟩|⟨hne,h⟩
  ·have h2':A O'=some y:=h2
   rw [hA] at h2';cases h2'
   rcases h3 with h3|⟨j,z,k1,k2,k3⟩
   ·exact hv3 i x id (by simp) hx hi h3
   ·exact k1 (by rw [hv2 j i z x id (by simp) (by simp) k2 hx k3 hi])
  ·exact hne (hR.inj O' O _ _ _ _ id h ho h2 hA h3 hin)
structure Cg (H:cw) (s io iz:Nat) (es:List TV) (cs:List AV) (inn:Nat->Option AV):Prop where
 len:cs.length=es.length*s
 el:∀(j:Nat) (e:TV),es[j]?=some e->∃ts,gk e=some ts/\ts.length=s/\(∀(o:Nat) t x,o≠io->ts[o]?=some t->cs[j*s+o]?=some x->Can t x/\x.flat=true)/\
  ∃x,cs[j*s+io]?=some x/\inn j=some x/\∃l,ts[io]?=some (.l l)/\Eg H iz l x
 fin:∀j x,inn j=some x->j < es.length/\x.one=true
theorem Cg.gn {H:cw} {s io iz:Nat} {es:List TV} {cs:List AV} {inn:Nat->Option AV} (h:Cg H s io iz es cs inn) {A':ee} {K:Nat} (hA:∀j,A' (.i K 0 j)=inn j):Ok A' H K s io iz 0 none es cs:=
 ⟨h.len,fun j e he=>let ⟨ts,g1,g2,g3,x,g4,g5,g6⟩:=h.el j e he;⟨ts,g1,g2,g3,x,g4,by rw [hA];exact g5,fun _=>g6⟩⟩
theorem Cg.append {H:cw} {s io iz:Nat} {es xs:List TV} {cs ds:List AV} {i1 i2:Nat->Option AV} (hs:io < s) (h:Cg H s io iz es cs i1) (h':Cg H s io iz xs ds i2):Cg H s io iz (es++xs) (cs++ds) (fun j=>if j < es.length then i1 j else i2 (j - es.length)):=by
 refine⟨by rw [List.length_append,List.length_append,h.len,h'.len,Nat.add_mul],fun j e hj=>?_,fun j x hj=>?_⟩
 ·by_cases hlt:j < es.length
  ·rw [List.getElem?_append_left hlt] at hj
   have h9:=gv (z:=s) hlt
   obtain⟨ts,g1,g2,g3,x,g4,g5,g6⟩:=h.el j e hj
   have ap:∀o,o < s->(cs++ds)[j*s+o]?=cs[j*s+o]?:=fun o ho=>List.getElem?_append_left (by rw [h.len];omega)
   exact⟨ts,g1,g2,fun o t y hne ht hy=>g3 o t y hne ht (by rw [←ap o (by rw [←g2];exact(List.getElem?_eq_some_iff.1 ht).1)];exact hy),x,by rw [ap io hs];exact g4,by simp only [if_pos hlt];exact g5,g6⟩
  ·rw [List.getElem?_append_right (by omega)] at hj
   have e1:j*s=cs.length+(j - es.length)*s:=by rw [h.len,←Nat.add_mul];congr 1;omega
   obtain⟨ts,g1,g2,g3,x,g4,g5,g6⟩:=h'.el _ e hj
   have ap:∀o,(cs++ds)[j*s+o]?=ds[(j - es.length)*s+o]?:=fun o=>by
    rw [List.getElem?_append_right (by omega)];congr 1;omega
   exact⟨ts,g1,g2,fun o t y hne ht hy=>g3 o t y hne ht (by rw [←ap o];exact hy),x,by rw [ap io];exact g4,by simp only [if_neg hlt];exact g5,g6⟩
 ·replace hj:(if j < es.length then i1 j else i2 (j - es.length))=some x:=hj
  split at hj
  ·rename_i hlt;obtain⟨p,q⟩:=h.fin j x hj;exact⟨by rw [List.length_append];omega,q⟩
  ·rename_i hlt;obtain⟨p,q⟩:=h'.fin _ x hj;exact⟨by rw [List.length_append];omega,q⟩
theorem Cg.mono {H H':cw} {s io iz:Nat} {es:List TV} {cs:List AV} {inn:Nat->Option AV} (h:Cg H s io iz es cs inn) (hH:∀j x id,inn j=some x->gM x=some id->H'.get id=H.get id):Cg H' s io iz es cs inn:=
 ⟨h.len,fun j e he=>let ⟨ts,g1,g2,g3,x,g4,g5,l,g6,g7⟩:=h.el j e he;⟨ts,g1,g2,g3,x,g4,g5,l,g6,Eg.mono (fun id hi=>hH j x id g5 hi) g7⟩,h.fin⟩
theorem YW {H:cw} {s io iz:Nat} {es:List TV} {cs:List AV} (hiz:0 < iz) (hio:io < s) (hl:cs.length=es.length*s) (hf:∀x∈cs,AV.flat x=true)
  (h:∀(j:Nat) (e:TV),es[j]?=some e->∃ts,gk e=some ts/\ts.length=s/\(∀(o:Nat) t x,o≠io->ts[o]?=some t->cs[j*s+o]?=some x->Can t x)/\
   ts[io]?=some (.l [])/\∀x,cs[j*s+io]?=some x->x=.aq\/x=.jq [] 0 (some 0)) :
  Cg H s io iz es cs (fun j=>if j < es.length then cs[j*s+io]? else none)/\∀j x,(if j < es.length then cs[j*s+io]? else none)=some x->gM x=none:=by
 have nil:∀j x,j < es.length->cs[j*s+io]?=some x->x=.aq\/x=.jq [] 0 (some 0):=fun j x hj hx=>by
  obtain⟨ts,g1,g2,g3,g4,g5⟩:=h j _ (List.getElem?_eq_getElem hj)
  exact g5 x hx
 refine⟨⟨hl,fun j e he=>?_,fun j x hj=>?_⟩,fun j x hj=>?_⟩
 ·obtain⟨ts,g1,g2,g3,g4,g5⟩:=h j e he
  have hlt:=(List.getElem?_eq_some_iff.1 he).1
  have h9:=gv (z:=s) hlt
  have hx:cs[j*s+io]?=some (cs[j*s+io]'(by omega)):=List.getElem?_eq_getElem _
  exact⟨ts,g1,g2,fun o t y hne ht hy=>⟨g3 o t y hne ht hy,hf y (List.mem_of_getElem? hy)⟩,_,hx,by simp only [if_pos hlt];exact hx,[],g4,hiz,.inl ⟨rfl,g5 _ hx⟩⟩
 ·split at hj
  ·rename_i hlt;exact⟨hlt,by rcases nil j x hlt hj with rfl|rfl<;>rfl⟩
  ·cases hj
 ·split at hj
  ·rename_i hlt;rcases nil j x hlt hj with rfl|rfl<;>rfl
  ·cases hj
theorem SU {A:ee} {s io:Nat} {xs:List TV} {a:AV} (h:VR A (.gl s io xs) a):0 < s/\io < s/\∃cs,a=.jq cs xs.length (some xs.length)/\cs.length=xs.length*s/\(∀x∈cs,AV.flat x=true)/\
  (∀(j:Nat) (e:TV),xs[j]?=some e->∃ts,gk e=some ts/\ts.length=s/\(∀(o:Nat) t x,o≠io->ts[o]?=some t->cs[j*s+o]?=some x->Can t x)/\
   ts[io]?=some (.l [])/\∀x,cs[j*s+io]?=some x->x=.aq\/x=.jq [] 0 (some 0)):=by
 cases h with
 |gl h1 h2 h3 h4 h5=>exact⟨h1,h2,_,rfl,h3,h4,h5⟩
theorem Uj {A':ee} {H':cw} {K s io iz:Nat} {l:List TV} {a:AV} {inn:Nat->Option AV} (q1:0 < s) (q2:io < s) (q3:0 < iz) (hA:∀j,A' (.i K 0 j)=inn j) (hv:∀v j,0 < v->A' (.i K v j)=none)
  (hc:(l=[]/\(a=.aq\/a=.jq [] 0 (some 0))/\∀j,inn j=none)\/∃id g b cells,a=.ref id g b s l.length l.length false/\H'.get id=some (.row g cells)/\b<=cells.length/\Cg H' s io iz l (cells.drop b) inn)
  (hd:∀j j' x x' id,inn j=some x->inn j'=some x'->gM x=some id->gM x'=some id->j=j') (ho:∀j x id,inn j=some x->gM x=some id->gM a≠some id) :
  OR A' H' (.gn K s io iz 0 none l) a/\q_ A' K a (.gn K s io iz 0 none l)/\∀id,jJ A' (.gn K s io iz 0 none l) a id->gM a=some id\/∃j x,inn j=some x/\gM x=some id:=by
 refine⟨⟨q1,q2,q3,?_⟩,⟨rfl,hv,fun j x hj=>?_,fun j j' x x' id _ _ h1 h2=>?_,fun j x id _ h1=>?_⟩,fun id hi=>?_⟩
 ·rcases hc with ⟨h1,h2,_⟩|⟨id,g,b,cells,h1,h2,h3,h4⟩
  ·exact .inl ⟨h1,h2⟩
  ·exact .inr ⟨id,g,b,cells,h1,h2,h3,h4.gn hA⟩
 ·rw [hA] at hj
  rcases hc with ⟨_,_,h3⟩|⟨id,g,b,cells,h1,h2,h3,h4⟩
  ·rw [h3] at hj;cases hj
  ·exact(h4.fin j x hj).1
 ·rw [hA] at h1 h2;exact hd j j' x x' id h1 h2
 ·rw [hA] at h1;exact ho j x id h1
 ·rcases hi with hi|⟨j,x,_,h2,h3⟩
  ·exact .inl hi
  ·rw [hA] at h2;exact .inr ⟨j,x,h2,h3⟩
theorem QO (hR:R A V st) {V1:cg} (hR1:R A V1 st) (hown1:∀id,gR V1 A id->gR V A id) (hev:wh V V1) {s io iz bytes dd:Nat} {es xs l:List TV} {sv:AV} {inn0:Nat->Option AV} {so xo:ct} (q2:io < s) (q3:0 < iz)
  (hD:(es=[]/\(sv=.aq\/sv=.jq [] 0 (some 0))/\∀j,inn0 j=none)\/∃id g b cells,sv=.ref id g b s es.length es.length false/\st.H.get id=some (.row g cells)/\b<=cells.length/\Cg st.H s io iz es (cells.drop b) inn0) (hone:sv.one=true)
  (hi1:∀id,gM sv=some id->¬gR V1 A id/\gR V A id) (hi2:∀j x id,inn0 j=some x->gM x=some id->¬gR V1 A id/\gR V A id)
  (hd:∀j j' x x' id,inn0 j=some x->inn0 j'=some x'->gM x=some id->gM x'=some id->j=j') (ho:∀j x id,inn0 j=some x->gM x=some id->gM sv≠some id)
  (e1:ev st.env so=sv) (hx:VR A (.gl s io xs) (ev st.env xo)) (happ:gw bytes es xs=some l) (hk:ry nt V1 (some dd) g .sl (.gn dd s io iz 0 none l) k):gz cf nt A V st (some dd) (.app s bytes so xo) k:=by
 obtain⟨rfl,hb1,hb2⟩:=HA happ
 obtain⟨q1,_,cs,e2,hcl,hcf,hel⟩:=SU hx
 obtain⟨hcg,hcn⟩:=YW (H:=st.H) (iz:=iz) q3 q2 hcl hcf hel
 generalize hix:(fun j=>if j < xs.length then cs[j*s+io]? else none)=innx at hcg
 have hcn':∀j x,innx j=some x->gM x=none:=fun j x h=>hcn j x (by rw [←hix] at h;exact h)
 have hkind:kind (.app s bytes so xo)=.plan fun ρ=>Bm s bytes (ρ so) (ρ xo):=rfl
 have hsrc:lH s (.jq cs xs.length (some xs.length))=some (xs.length,.list cs):=by
  simp only [lH,cond_eq_ite,Nat.beq_eq]
  rw [if_pos (by show xs.length*s=cs.length;omega)]
 have mk:∀{a:AV} {H':cw} {nx':Nat} (inn:Nat->Option AV),(∀j x,inn j=some x->x.one=true)->st.nx<=nx'->(∀id ob,H'.get id=some ob->id < nx')->(∀id,gR V1 A id->H'.get id=st.H.get id)->(∀id,id < st.nx->¬gR V A id->H'.get id=st.H.get id)->
   a.one=true->((es++xs=[]/\(a=.aq\/a=.jq [] 0 (some 0))/\∀j,inn j=none)\/∃id g b cells,a=.ref id g b s (es++xs).length (es++xs).length false/\H'.get id=some (.row g cells)/\b<=cells.length/\Cg H' s io iz (es++xs) (cells.drop b) inn)->
   (∀j j' x x' id,inn j=some x->inn j'=some x'->gM x=some id->gM x'=some id->j=j')->(∀j x id,inn j=some x->gM x=some id->gM a≠some id)->
   (∀id,gM a=some id->¬gR V1 A id/\(gR V A id\/st.nx<=id))->(∀j x id,inn j=some x->gM x=some id->¬gR V1 A id/\gR V A id)->Next nt A V st (some dd) a H' nx' k:=by
  intro a H' nx' inn r1 r2 r3 r4 r5 r6 r7 r8 r9 r10 r11
  refine GV (inn:=inn) hR1 hown1 hk r2 r3 r4 r5 r1 (fun A' d' hd' hm h0 h1=>?_) r6 (fun A' O hO=>.sl hO) hev
  cases hd'
  obtain⟨t1,t2,t3⟩:=Uj q1 q2 q3 h0 h1 r7 r8 r9
  refine⟨t1,t2,fun id hi=>?_⟩
  rcases t3 id hi with h|⟨j,x,h2,h3⟩
  ·exact r10 id h
  ·exact⟨(r11 j x id h2 h3).1,.inl (r11 j x id h2 h3).2⟩
 by_cases hm:xs=[]
 ·subst hm
  have hsl':Ib sv=true:=by rcases hD with ⟨_,rfl|rfl,_⟩|⟨id,g,b,cells,rfl,_⟩<;>rfl
  refine c9 (v:=sv) hkind ?_ (mk inn0 (fun j x h=>?_) (Nat.le_refl _) hR.fresh (fun _ _=>rfl) (fun _ _ _=>rfl) hone ?_ hd ho (fun id hi=>⟨(hi1 id hi).1,.inl (hi1 id hi).2⟩) hi2)
  ·simp only [List.length_nil] at hsrc e2
   simp only [Bm,e1,e2,hsrc,cond_eq_ite,Nat.beq_eq,if_pos,hsl']
  ·rcases hD with ⟨_,_,h3⟩|⟨id,g,b,cells,_,_,_,h4⟩
   ·rw [h3] at h;cases h
   ·exact(h4.fin j x h).2
  ·rw [List.append_nil];exact hD
 ·have hm0:xs.length≠0:=fun h=>hm (List.length_eq_zero_iff.1 h)
  have fresh:∀(n:Nat),n=(es++xs).length->es=[]->Next nt A V st (some dd) (.ref st.nx 0 0 s n n false) (st.H.put (some (.row 0 cs)) st.nx) (st.nx+1) k:=by
   intro n hn hes
   subst hes
   subst hn
   have hno:∀id,gR V1 A id->id≠st.nx:=fun id ho he=>by have:=hR.oR (hown1 id ho);omega
   refine mk innx (fun j x h=>(hcg.fin j x h).2) (Nat.le_succ _) (fun id ob hh=>?_) (fun id ho=>by rw [Map.bt,if_neg (hno id ho)]) (fun id hlt _=>by rw [Map.bt,if_neg (by omega)]) rfl (.inr ⟨st.nx,0,0,cs,rfl,by rw [Map.bt,if_pos rfl],Nat.zero_le _,?_⟩)
    (fun j j' x x' id h1 h2 h3=>by rw [hcn' j x h1] at h3;cases h3) (fun j x id h1 h3=>by rw [hcn' j x h1] at h3;cases h3) (fun id hi=>by cases hi;exact⟨fun ho=>hno _ ho rfl,.inr (Nat.le_refl _)⟩) (fun j x id h1 h3=>by rw [hcn' j x h1] at h3;cases h3)
   ·rw [Map.bt] at hh
    split at hh
    ·omega
    ·have:=hR.fresh _ _ hh;omega
   ·rw [List.drop_zero,List.nil_append]
    exact hcg.mono (fun j x id h1 h3=>by rw [hcn' j x h1] at h3;cases h3)
  rcases hD with ⟨rfl,rfl|rfl,_⟩|⟨id,gg,b,cells,rfl,hH,hb,hE⟩
  ·refine⟨_,_,_,?_,fresh xs.length (by simp) rfl⟩
   simp only [List.length_nil,Nat.zero_add] at hb1 hb2
   simp only [q9,hkind,Bm,e1,e2,hsrc,cond_eq_ite,Nat.beq_eq,if_neg hm0,Bool.and_eq_true,Nat.ble_eq]
   rw [if_pos ⟨hb1,hb2⟩]
   simp only [gU,oa,Src.q,jf,ur,EP,Src.cs]
  ·refine⟨_,_,_,?_,fresh (0+xs.length) (by simp) rfl⟩
   simp only [List.length_nil] at hb1 hb2
   simp only [q9,hkind,Bm,e1,e2,hsrc,cond_eq_ite,Nat.beq_eq,if_neg hm0,Bool.and_eq_true,Nat.ble_eq,Nat.blt_eq]
   rw [if_pos ⟨⟨⟨by show 0 < 0+xs.length;omega,by simp⟩,hb1⟩,hb2⟩]
   simp only [gU,oa,Src.q,jf,ur,EP,Src.cs,List.nil_append]
   rfl
  ·have hl:=hE.len
   rw [List.length_drop] at hl
   obtain⟨hn1,hn2⟩:=hi1 id rfl
   have hE2:=Cg.append q2 hE hcg
   have both:∀j x id',(if j < es.length then inn0 j else innx (j - es.length))=some x->gM x=some id'->inn0 j=some x:=fun j x id' h h3=>by
    split at h
    ·exact h
    ·rw [hcn' _ x h] at h3;cases h3
   refine⟨.ref id (gg+1) 0 s (es.length+xs.length) (es.length+xs.length) false,st.H.put (some (.row (gg+1) (cells.drop b++cs))) id,st.nx,?_,
    mk (fun j=>if j < es.length then inn0 j else innx (j - es.length)) (fun j x h=>(hE2.fin j x h).2) (Nat.le_refl _) (fun i o hh=>?_) (fun i hoi=>?_) (fun i _ hn=>?_) rfl (.inr ⟨id,gg+1,0,_,by rw [List.length_append],by rw [Map.bt,if_pos rfl],Nat.zero_le _,?_⟩)
     (fun j j' x x' id' h1 h2 h3 h4=>hd j j' x x' id' (both j x id' h1 h3) (both j' x' id' h2 h4) h3 h4) (fun j x id' h1 h3=>ho j x id' (both j x id' h1 h3) h3) (fun i hi=>?_) (fun j x id' h1 h3=>hi2 j x id' (both j x id' h1 h3) h3)⟩
   ·simp only [q9,hkind,Bm,e1,e2,hsrc,cond_eq_ite,Nat.beq_eq,if_neg hm0,Bool.and_eq_true,Nat.ble_eq,if_pos]
    rw [if_pos ⟨⟨trivial,hb1⟩,hb2⟩]
    simp only [F1,cond_eq_ite,Nat.ble_eq]
    rw [if_neg (by show ¬(es.length+xs.length<=es.length);omega),if_neg (by decide)]
    simp only [gU,oa,Src.q,jf,ur,hH,D7,cond_eq_ite,Nat.beq_eq,if_pos]
    rw [if_pos (by show b+es.length*s=cells.length;omega)]
    simp only [EP]
    rfl
   ·rw [Map.bt] at hh
    split at hh
    ·rename_i e;subst e;exact hR.oR hn2
    ·exact hR.fresh i o hh
   ·rw [Map.bt,if_neg]
    rintro rfl;exact hn1 hoi
   ·rw [Map.bt,if_neg]
    rintro rfl;exact hn hn2
   ·rw [List.drop_zero]
    refine hE2.mono fun j x id' h1 h3=>?_
    rw [Map.bt,if_neg]
    rintro rfl
    exact ho j x id' (both j x id' h1 h3) h3 rfl
   ·cases hi;exact⟨hn1,.inl hn2⟩
theorem YM {sh:Sh} (hR:R A V st) (ha:act g) {es bytes:Nat} {s x:ct} (h:lM V g s fun w=>lM V g x fun x=>Hp sh nt V d g es bytes w x k):gz cf nt A V st d (.app es bytes s x) k:=by
 obtain⟨w,hw,h⟩:=gj hR ha h
 obtain⟨y,hy,hk⟩:=gj hR ha h
 unfold Hp at hk
 split at hk
 ·rename_i s' io xs
  have hse:=(eC hk).1
  replace hk:=(eC hk).2
  subst hse
  unfold Il at hk
  cases d with
  |none=>cases hk
  |some dd=>
  dsimp only at hk
  obtain⟨_,q2,_⟩:=SU hy
  have nilD:∀{sv:AV},(sv=.aq\/sv=.jq [] 0 (some 0))->ev st.env s=sv->Nat.blt 0 (Ro (sh.gc dd))=true->(∃l,gw bytes [] xs=some l/\ry nt V (some dd) g .sl (.gn dd s' io (Ro (sh.gc dd)) 0 none l) k)->gz cf nt A V st (some dd) (.app s' bytes s x) k:=by
   rintro sv hsv e1 hz ⟨l,h1,h2⟩
   exact QO (es:=[]) (inn0:=fun _=>none) hR hR (fun _ h=>h) (wh.refl V) q2 (by simpa using hz) (.inl ⟨rfl,hsv,fun _=>rfl⟩) (by rcases hsv with rfl|rfl<;>rfl) (fun id hi=>by rcases hsv with rfl|rfl<;>cases hi) (fun j x id h=>by cases h) (fun j j' x x' id h=>by cases h) (fun j x id h=>by cases h) e1 hy h1 h2
  generalize e1:ev st.env s=a at hw
  cases hw with
  |gi=>
   simp only at hk
   split at hk
   ·rename_i hb
    rw [Bool.and_eq_true] at hb
    exact nilD (.inl rfl) e1 hb.2 hk
   ·cases hk
  |zf=>
   simp only at hk
   split at hk
   ·rename_i hb
    rw [Bool.and_eq_true] at hb
    exact nilD (.inr rfl) e1 hb.2 hk
   ·cases hk
  |@sl O _ hO=>
   simp only at hk
   split at hk
   rotate_left
   ·cases hk
   rename_i K s2 io2 iz ver es ho
   split at hk
   rotate_left
   ·cases hk
   rename_i hb
   simp only [Bool.and_eq_true,Nat.beq_eq] at hb
   obtain⟨rfl,rfl⟩:=hb
   obtain⟨l,h1,h2⟩:=hk
   obtain⟨y',hy',hs⟩:=hR.heap O _ ho
   rw [hO] at hy';cases hy'
   obtain⟨rfl,hv1,hv0,hv2,hv3⟩:=hR.lZ O _ _ ho hO
   obtain⟨p1,p2,p3,hs⟩:=hs
   refine QO (es:=es) (inn0:=fun j=>A (.i K ver j)) hR (hR.fq K) (fun _ h=>(fk V K).own h) (fk V K).ev p2 p3 ?_ (hR.one _ _ hO) (fun id hi=>⟨jr hR ho hO (.inl hi),⟨K,_,_,ho,hO,.inl hi⟩⟩)
    (fun j x id h3 h4=>⟨jr hR ho hO (.inr ⟨j,x,by simp,h3,h4⟩),⟨K,_,_,ho,hO,.inr ⟨j,x,by simp,h3,h4⟩⟩⟩) (fun j j' x x' id=>hv2 j j' x x' id (by simp) (by simp)) (fun j x id=>hv3 j x id (by simp)) e1 hy h1 h2
   rcases hs with ⟨h3,h4⟩|⟨id,g',b,cells,h3,h4,h5,h6⟩
   ·exact .inl ⟨h3,h4,fun j=>by
     cases hq:A (.i K ver j) with
     |none=>rfl
     |some x=>have:=hv0 j x hq;rw [h3] at this;simp at this⟩
   ·exact .inr ⟨id,g',b,cells,h3,h4,h5,h6.len,fun j e he=>(let ⟨ts,g1,g2,g3,x,g4,g5,g6⟩:=h6.el j e he;⟨ts,g1,g2,g3,x,g4,g5,g6 (by simp)⟩),fun j x hx=>⟨hv0 j x hx,hR.one _ _ hx⟩⟩
  |_=>cases hk
 rename_i hngl
 obtain⟨hz,hk⟩:=og hk
 obtain⟨xs,src,l,hx,hk⟩:=OE hR hz hy hk
 generalize e1:ev st.env s=a at hw
 cases hw with
 |gi=>
  obtain⟨l',h1,h2⟩:=hk
  exact CV hR hR (fun _ h=>h) (wh.refl V) ⟨hz,.inl ⟨rfl,.inl rfl⟩⟩ rfl (fun id hi=>by cases hi) hx h1 e1 rfl h2
 |zf=>
  obtain⟨l',h1,h2⟩:=hk
  exact CV hR hR (fun _ h=>h) (wh.refl V) ⟨hz,.inl ⟨rfl,.inr rfl⟩⟩ rfl (fun id hi=>by cases hi) hx h1 e1 rfl h2
 |@sl O _ hO=>
  dsimp only at hk
  split at hk
  ·rename_i z es' ho
   obtain⟨rfl,l',h1,h2⟩:=eC hk
   obtain⟨y',hy',hs⟩:=hR.heap O _ ho
   rw [hO] at hy';cases hy'
   exact CV hR (hR.fq O) (fun _ h=>(fk V O).own h) (fk V O).ev hs (hR.one _ _ hO) (fun id hi=>⟨jr hR ho hO (.inl hi),⟨O,_,_,ho,hO,.inl hi⟩⟩) hx h1 e1 rfl h2
  ·cases hk
 |@ow O v i _ hA=>
  dsimp only at hk
  obtain⟨s2,io,iz,es',ho,hk⟩:=iw hk
  obtain⟨rfl,l0,h0,l',h1,h2⟩:=eC hk
  obtain⟨y',hy',hs⟩:=hR.heap O _ ho
  obtain⟨r1,r2,r3⟩:=Ui hR ho hA
  exact CV hR r1 r2 (wh.Tv ho (Nat.le_refl _)) (Dn hs h0 (by simp) hA) (hR.one _ _ hA) (fun id hi=>⟨r3 id hi,⟨O,_,_,ho,hy',.inr ⟨i,_,by simp,hA,hi⟩⟩⟩) hx h1 e1 rfl h2
 |_=>cases hk
theorem YE (hR:R A V st) (ha:act g) {str:Bool} {x:ct} (h:lM V g x fun w=>MP nt V d g str w k):gz cf nt A V st d (.len str x) k:=by
 obtain⟨w,hw,hk⟩:=gj hR ha h
 generalize he:ev st.env x=p at hw
 cases str with
 |true=>
  cases hw with
  |@tr v _ hc=>
   obtain⟨r,h1,h2⟩:=di hR ha hk
   cases v<;>first|(cases h1;done)|skip
   cases h1;cases hc
   exact c9 rfl (by simp only [wm,he]) (h2 _ (.i _ _))
  |_=>cases hk
 |false=>
  cases hw with
  |@tr v _ hc=>
   obtain⟨r,h1,h2⟩:=di hR ha hk
   cases v<;>first|(cases h1;done)|skip
   cases h1
   cases hc with
   |nil=>exact c9 rfl (by simp only [wm,he];rfl) (h2 _ (.i _ _))
   |jq _ cs n z c hn=>subst hn;exact c9 rfl (by simp only [wm,he]) (h2 _ (.i _ _))
  |gi=>obtain⟨r,h1,h2⟩:=di hR ha hk;cases h1;exact c9 rfl (by simp only [wm,he]) (h2 _ (.i _ _))
  |zf=>obtain⟨r,h1,h2⟩:=di hR ha hk;cases h1;exact c9 (v:=.int .i64 ((0:Nat):Int)) rfl (by simp only [wm,he]) (h2 _ (.i _ _))
  |@sl O _ hO=>
   simp only [MP] at hk
   split at hk
   ·rename_i z es ho
    obtain⟨y,hy,hs⟩:=hR.heap O _ ho
    rw [hO] at hy;cases hy
    obtain⟨r,h1,h2⟩:=di hR ha hk
    cases h1
    rcases hs.2 with ⟨rfl,rfl|rfl⟩|⟨id,gg,b,cells,rfl,_⟩
    ·exact c9 (v:=.int .i64 0) rfl (by simp only [wm,he]) (h2 _ (.i _ _))
    ·exact c9 (v:=.int .i64 ((0:Nat):Int)) rfl (by simp only [wm,he]) (h2 _ (.i _ _))
    ·exact c9 rfl (by simp only [wm,he]) (h2 _ (.i _ _))
   ·rename_i K s io iz ver hole es ho
    obtain⟨y,hy,hs⟩:=hR.heap O _ ho
    rw [hO] at hy;cases hy
    obtain⟨r,h1,h2⟩:=di hR ha hk
    cases h1
    rcases hs.2.2.2 with ⟨rfl,rfl|rfl⟩|⟨id,gg,b,cells,rfl,_⟩
    ·exact c9 (v:=.int .i64 0) rfl (by simp only [wm,he]) (h2 _ (.i _ _))
    ·exact c9 (v:=.int .i64 ((0:Nat):Int)) rfl (by simp only [wm,he]) (h2 _ (.i _ _))
    ·exact c9 rfl (by simp only [wm,he]) (h2 _ (.i _ _))
   ·cases hk
  |@ow O v j _ hA=>
   obtain⟨s,io,iz,es,ho,hk⟩:=iw hk
   obtain⟨y,hy,hs⟩:=hR.heap O _ ho
   obtain⟨r,h1,h2⟩:=di hR ha hk
   unfold PW at h1
   split at h1
   rotate_left
   ·cases h1
   rename_i l hl
   cases h1
   have hsl:=Dn hs hl (by simp) hA
   rcases hsl.2 with ⟨rfl,rfl|rfl⟩|⟨id,gg,b,cells,rfl,_⟩
   ·exact c9 (v:=.int .i64 0) rfl (by simp only [wm,he]) (h2 _ (.i _ _))
   ·exact c9 (v:=.int .i64 ((0:Nat):Int)) rfl (by simp only [wm,he]) (h2 _ (.i _ _))
   ·exact c9 rfl (by simp only [wm,he]) (h2 _ (.i _ _))
  |_=>cases hk
end
end Go.Ax.V

namespace Go.Ax.V
section
variable {prog:Map bk} {cf:qc} {nt:Nat} {A:ee} {V:cg} {st:St} {d:Option Nat} {g:G} {k:cg->Prop}
def BdR (e:Env) (x:Option ct) (v:Option TV):Prop:=match x with|none=>v=none|some x=>∃u,v=some u/\Can u (ev e x)
theorem Iw {e:Env} {x:Option ct} {v:Option TV} (h:BdR e x v) {other y r:Nat} (hb:Rq v other y=some r):N4 (ev e) x other y=some r:=by
 cases x with
 |none=>cases h;exact hb
 |some x=>
  obtain⟨u,rfl,hc⟩:=h
  cases u<;>first|(cases hb;done)|skip
  generalize he:ev e x=p at hc
  cases hc
  simp only [N4,he];exact hb
theorem MZ {e:Env} {lo hi:Option ct} {l h:Option TV} (hl:BdR e lo l) (hh:BdR e hi h) {n a b:Nat} (hb:Gk l h n=some (a,b)):y8 (ev e) lo hi none n n=some (a,b,n)/\a<=b/\b<=n:=by
 unfold Gk at hb
 split at hb
 ·cases hb
 rename_i b' h1
 split at hb
 ·cases hb
 rename_i a' h2
 cases hb
 have le:∀{x:Option TV} {o y r:Nat},Rq x o y=some r->o<=y->r<=y:=fun {x o y r} hb ho=>by
  unfold Rq at hb
  split at hb
  ·cases hb;exact ho
  ·exact(CT hb).2
  ·cases hb
 refine⟨?_,le h2 (Nat.zero_le _),le h1 (Nat.le_refl _)⟩
 have e0:N4 (ev e) none n n=some n:=rfl
 simp only [y8,e0,Iw hh h1,Iw hl h2]
theorem Ct (h:R A V st) (ha:act g) {x:Option ct} {k:Option TV->Prop} (hk:Gg V g x k):∃v,k v/\BdR st.env x v:=by
 obtain⟨v,h1,h2⟩:=Pq h ha hk
 exact⟨v,h1,by cases x<;>exact h2⟩
theorem Qp {sz:Nat} {es:List TV} {cs:List AV} (h:M5 sz es cs) {a b:Nat} (hab:a<=b) (hb:b<=es.length):M5 sz ((es.drop a).take (b - a)) ((cs.drop (a*sz)).take ((b - a)*sz)):=by
 have h1:a*sz+(b - a)*sz=b*sz:=by rw [←Nat.add_mul];congr 1;omega
 have h2:b*sz<=es.length*sz:=Nat.mul_le_mul_right sz hb
 have hl:=h.len
 refine⟨by simp only [List.length_take,List.length_drop];rw [Nat.min_eq_left (by omega),Nat.min_eq_left (by omega)],qj h.flat _ _,fun j e hj=>?_⟩
 rw [s5] at hj
 split at hj
 ·rename_i hlt
  have h3:=gv (z:=sz) hlt
  have:((((cs.drop (a*sz)).take ((b - a)*sz)).drop (j*sz)).take sz)=(cs.drop ((a+j)*sz)).take sz:=by
   rw [List.drop_take,List.take_take,List.drop_drop,Nat.min_eq_left (by omega),Nat.add_mul]
  rw [this];exact h.el _ e hj
 ·cases hj
theorem Dw {x:Option ct} (h:xh x=true):∃k,x=some (.c (.int k (.ofNat 0))):=by
 unfold xh at h
 split at h
 ·exact⟨_,rfl⟩
 ·cases h
def capA (mx:Option ct) (c:Option Nat) (m a:Nat):Option Nat:=match mx with
 |some _=>some (m - a)
 |none=>match c with
  |some c=>some (c - a)
  |none=>none
theorem HO {es n a b m:Nat} {ρ:ct->AV} {cs cs':List AV} {lo hi mx:Option ct} {c:Option Nat} (q1:n*es=cs.length) (hb:y8 ρ lo hi mx n n=some (a,b,m)) (q2:cut cs (a*es) ((b - a)*es)=some cs') :
  KO es ρ (.jq cs n c) lo hi mx=some (.jq cs' (b - a) (capA mx c m a)):=by
 have h1:Nat.beq (Nat.mul n es) cs.length=true:=by simpa using q1
 have h2:cut cs (Nat.mul a es) (Nat.mul (Nat.sub b a) es)=some cs':=q2
 simp only [KO,h1,hb,h2,cond_true]
 cases mx<;>cases c<;>rfl
theorem TR (hR:R A V st) (ha:act g) {es:Nat} {x:ct} {lo hi mx:Option ct} (h:lM V g x fun w=>LC nt V d g es w lo hi mx k):gz cf nt A V st d (.zb es x lo hi mx) k:=by
 obtain⟨w,hw,hk⟩:=gj hR ha h
 have hz:=(og hk).1
 replace hk:=(og hk).2
 clear h
 have hkind:kind (.zb es x lo hi mx)=.plan fun ρ=>lq (KO es ρ (ρ x) lo hi mx):=rfl
 generalize he:ev st.env x=p at hw
 have fin:∀{v:AV},KO es (ev st.env) p lo hi mx=some v->Next nt A V st d v st.H st.nx k->gz cf nt A V st d (.zb es x lo hi mx) k:=
  fun h1 h2=>c9 hkind (by rw [he,h1];rfl) h2
 cases hw with
 |@sl O _ hO=>
  dsimp only at hk
  split at hk
  rotate_left
  ·cases hk
  rename_i z xs ho
  split at hk
  rotate_left
  ·cases hk
  split at hk
  rotate_left
  ·cases hk
  obtain⟨rfl,hk2⟩:=eC hk
  obtain⟨l,⟨m,h1,h2⟩,hl⟩:=Ct (g:=none) hR trivial hk2
  obtain⟨y,hy,hs⟩:=hR.heap O _ ho
  rw [hO] at hy;cases hy
  have hm:m<=xs.length:=by
   unfold Rq at h1
   split at h1
   ·cases h1;exact Nat.zero_le _
   ·exact(CT h1).2
   ·cases h1
  have hb:y8 (ev st.env) lo none none xs.length xs.length=some (m,xs.length,xs.length):=by
   have e0:∀n,N4 (ev st.env) none n xs.length=some n:=fun _=>rfl
   simp only [y8,e0,Iw hl h1]
  have nxt:∀{a:AV},a.one=true->Eg st.H z (xs.drop m) a->(∀id,gM a=some id->gM p=some id)->Next nt A V st d a st.H st.nx k:=fun {a} h3 h4 h5=>
   GU (a:=a) (nx':=st.nx) (hR.fq O) (fk V O).H h2 (Nat.le_refl _) hR.fresh (fun _ _=>rfl) (fun _ _ _=>rfl) (fun A' _=>h4) h3
    (fun id hi=>⟨jr hR ho hO (.inl (h5 id hi)),.inl ⟨O,_,_,ho,hO,.inl (h5 id hi)⟩⟩) (fun A' O hO=>.sl hO)
  rcases hs.2 with ⟨rfl,rfl|rfl⟩|⟨id,gg,b,cells,rfl,hH,hbl,hE⟩
  ·simp at hm;subst hm
   exact fin (by simp only [KO];simp only [List.length_nil] at hb;rw [hb]) (nxt rfl ⟨hz,.inl ⟨by simp,.inl rfl⟩⟩ (fun id hi=>hi))
  ·simp at hm;subst hm
   refine fin (v:=.jq [] 0 (some 0)) ?_ (nxt rfl ⟨hz,.inl ⟨by simp,.inr rfl⟩⟩ (fun id hi=>hi))
   simp only [List.length_nil] at hb
   simp only [KO,cond_eq_ite,Nat.beq_eq]
   rw [if_pos (by simp),hb]
   simp [js]
  ·have hl':=hE.len
   rw [List.length_drop] at hl'
   refine fin (v:=.ref id gg (b+m*z) z (xs.length - m) (xs.length - m) false) ?_ (nxt rfl ⟨hz,.inr ⟨id,gg,b+m*z,cells,by simp,hH,?_,?_⟩⟩ (fun id hi=>hi))
   ·simp only [KO,cond_eq_ite,Nat.beq_eq,if_pos,hb]
    rfl
   ·have:=Nat.mul_le_mul_right z hm;omega
   ·have hE':=Qp hE hm (Nat.le_refl _)
    have e1:(xs.drop m).take (xs.length - m)=xs.drop m:=List.take_of_length_le (by simp)
    have e2:((cells.drop b).drop (m*z)).take ((xs.length - m)*z)=cells.drop (b+m*z):=by
     rw [List.drop_drop,List.take_of_length_le]
     rw [List.length_drop,Nat.sub_mul];omega
    rwa [e1,e2] at hE'
 |@tr v _ hc=>
  dsimp only at hk
  split at hk
  ·obtain⟨l,hk1,hl⟩:=Ct hR ha hk
   obtain⟨h,hk2,hh⟩:=Ct hR ha hk1
   obtain⟨r,⟨h1,h2⟩,h3⟩:=EV ha hk2
   clear hk hk1 hk2
   unfold Tr at h1
   split at h1
   ·rename_i xs
    split at h1
    ·rename_i a b hab
     cases h1
     obtain⟨hb,hab1,hab2⟩:=MZ hl hh hab
     cases hc with
     |nil=>
      refine fin (v:=.aq) (by simp only [KO];simp only [List.length_nil] at hb;rw [hb]) (cm hR (fun _=>.tr ?_) h3)
      simp;exact .nil
     |jq _ cs n z c hn hcl hsz hf hcc=>
      subst hn
      have hE:M5 z xs cs:=⟨hcl,hf,hcc⟩
      have hcut:∀z',(z'=z\/xs=[])->xs.length*z'=cs.length/\cut cs (a*z') ((b - a)*z')=some ((cs.drop (a*z)).take ((b - a)*z)):=by
       intro z' hz'
       rcases hz' with rfl|rfl
       ·refine⟨hcl.symm,?_⟩
        have:=Nat.mul_le_mul_right z' hab2
        have h1:a*z'+(b - a)*z'=b*z':=by rw [←Nat.add_mul];congr 1;omega
        rw [js,if_pos (by omega)]
       ·simp only [List.length_nil,Nat.zero_mul] at hcl hab2 ⊢
        have:cs=[]:=List.length_eq_zero_iff.1 hcl
        subst this
        have:b=0:=by omega
        subst this
        have:a=0:=by omega
        subst this
        simp [js]
      obtain⟨q1,q2⟩:=hcut es (by rcases HJ (h2 xs rfl) rfl hcl hcc with h|h;exact .inr h;exact .inl h)
      have hE':=Qp hE hab1 hab2
      have hcan:∀c',Can (.l ((xs.drop a).take (b - a))) (.jq ((cs.drop (a*z)).take ((b - a)*z)) (b - a) c'):=fun c'=>by
       have:=LM hsz hE' c'
       rwa [show ((xs.drop a).take (b - a)).length=b - a by simp;omega] at this
      exact fin (HO q1 hb q2) (cm hR (fun _=>.tr (hcan _)) h3)
    ·cases h1
   ·cases h1
  ·split at hk
   ·rename_i hcond
    simp only [Bool.and_eq_true] at hcond
    obtain⟨⟨⟨hc1,hc2⟩,hc3⟩,hc4⟩:=hcond
    obtain⟨k1,rfl⟩:=Dw hc1
    obtain⟨k2,hm2⟩:=Dw hc2
    cases hm2
    obtain rfl:lo=none:=(by cases lo<;>first|rfl|cases hc3)
    obtain⟨l,h1,hsz,h2⟩:=hk
    cases v<;>first|(cases h1;done)|skip
    cases h1
    cases hc with
    |nil=>exact fin (v:=.aq) rfl (cm hR (fun _=>.gi) h2)
    |jq _ cs n z c hn hcl hz' hf hcc=>
     refine fin (v:=.jq [] 0 (some 0)) ?_ (cm hR (fun _=>.zf) h2)
     have q1:n*es=cs.length:=by
      rcases HJ hsz hn hcl hcc with h|h
      ·subst h;simp at hn;subst hn;simp at hcl;simp [hcl]
      ·rw [h,hcl]
     have hb:y8 (ev st.env) none (some (.c (.int k1 (.ofNat 0)))) (some (.c (.int k2 (.ofNat 0)))) n n=some (0,0,0):=by
      rfl
     exact HO q1 hb (by simp [js])
   ·cases hk
 |gi=>
  dsimp only at hk
  split at hk
  ·rename_i hcond
   simp only [Bool.and_eq_true] at hcond
   obtain⟨⟨hc1,hc2⟩,hc3⟩:=hcond
   obtain⟨k1,rfl⟩:=Dw hc1
   obtain⟨k2,rfl⟩:=Dw hc2
   obtain rfl:lo=none:=(by cases lo<;>first|rfl|cases hc3)
   exact fin (v:=.aq) rfl (cm hR (fun _=>.gi) hk)
  ·cases hk
 |zf=>
  dsimp only at hk
  split at hk
  ·rename_i hcond
   simp only [Bool.and_eq_true] at hcond
   obtain⟨⟨hc1,hc2⟩,hc3⟩:=hcond
   obtain⟨k1,rfl⟩:=Dw hc1
   obtain⟨k2,rfl⟩:=Dw hc2
   obtain rfl:lo=none:=(by cases lo<;>first|rfl|cases hc3)
   refine fin (v:=.jq [] 0 (some 0)) ?_ (cm hR (fun _=>.zf) hk)
   have hb:y8 (ev st.env) none (some (.c (.int k1 (.ofNat 0)))) (some (.c (.int k2 (.ofNat 0)))) 0 0=some (0,0,0):=by
    rfl
   exact HO (by simp) hb (by simp [js])
  ·cases hk
 |_=>cases hk
end
end Go.Ax.V

namespace Go.Ax.V
section
variable {prog:Map bk} {cf:qc} {nt:Nat} {A:ee} {V:cg} {st:St} {d:Option Nat} {g:G} {k:cg->Prop}
theorem I8 (zero:List AV):∀m,(rows m zero).length=m*zero.length
 |0=>by simp [rows]
 |m+1=>by
  have:=I8 zero m
  unfold rows at this ⊢
  rw [List.replicate_succ,List.flatten_cons,List.length_append,this,Nat.add_mul,Nat.one_mul,Nat.add_comm]
theorem I7 (zero:List AV):∀m j,j < m->((rows m zero).drop (j*zero.length)).take zero.length=zero
 |0,j,h=>by omega
 |m+1,0,h=>by
  unfold rows
  rw [List.replicate_succ,List.flatten_cons,Nat.zero_mul,List.drop_zero,List.take_left]
 |m+1,j+1,h=>by
  have:=I7 zero m j (by omega)
  unfold rows at this ⊢
  rw [List.replicate_succ,List.flatten_cons,Nat.add_mul,Nat.one_mul,Nat.add_comm,List.drop_append,List.drop_of_length_le (by omega),List.nil_append]
  rwa [show zero.length+j*zero.length - zero.length=j*zero.length by omega]
theorem Hx {cs:List AV} (h:gJ jz cs=true):p_ (gE cs) cs/\∀x∈cs,AV.flat x=true:=by
 refine⟨⟨tn cs,fun j t x ht hx=>?_⟩,fun x hx=>(vb (cx.1 h x hx)).2⟩
 rw [AA,hx] at ht
 cases ht
 exact(vb (cx.1 h x (List.mem_of_getElem? hx))).1
theorem On {zero:List AV} (h:gJ jz zero=true):CX (L7 zero.length zero) zero:=by
 have hb:=(Hx h).1
 have ag:CX (.a (gE zero)) zero:=.a _ _ hb.1 hb.2
 unfold L7
 split
 ·rename_i hl
  match zero,hl,h with
  |[x],_,h=>
   have hx:=cx.1 h x List.mem_cons_self
   refine .one _ _ ?_ (vb hx).1
   cases x<;>first|rfl|cases hx
 ·exact ag
theorem TT (hR:R A V st) {es bytes:Nat} {zero:List AV} {n:ct} (h:pos es <| match gJ jz zero&&Nat.beq zero.length es with
   |true=>ta V none n fun n=>∃m,PI bytes n=some m/\ry nt V d none .sl (.gr es (List.replicate m (L7 es zero))) k
   |false=>False):gz cf nt A V st d (.Cx es bytes zero n) k:=by
 have hz:=(og h).1
 replace h:=(og h).2
 split at h
 ·rename_i hc
  rw [Bool.and_eq_true,Nat.beq_eq] at hc
  obtain⟨hc,rfl⟩:=hc
  obtain⟨v,hv,m,h1,h2⟩:=gm (g:=none) hR trivial h
  unfold PI at h1
  split at h1
  ·rename_i ki z
   generalize he:ev st.env n=p at hv
   cases hv
   split at h1
   ·rename_i m' hm
    rw [cond_eq_ite] at h1
    split at h1
    ·rename_i hcond
     cases h1
     refine Ek (f:=fun id=>.ref id 0 0 zero.length m m false) (ob:=.row 0 (rows m zero)) rfl ?_ (uq hR h2 (fun A' hA=>⟨hz,.inr ⟨st.nx,0,0,rows m zero,by simp,by rw [Map.bt,if_pos rfl],Nat.zero_le _,?_⟩⟩) rfl rfl (fun A' O hO=>.sl hO))
     ·simp only [DN,he,hm,hcond,cond_true]
     ·rw [List.drop_zero]
      refine⟨by rw [I8,List.length_replicate],fun x hx=>?_,fun j e hj=>?_⟩
      ·unfold rows at hx
       obtain⟨l,hl,hx⟩:=List.mem_flatten.1 hx
       rw [List.mem_replicate] at hl
       rw [hl.2] at hx
       exact(Hx hc).2 x hx
      ·have hlt:j < m:=by have:=(List.getElem?_eq_some_iff.1 hj).1;simpa using this
       rw [List.getElem?_replicate,if_pos hlt] at hj
       cases hj
       rw [I7 zero m j hlt]
       exact On hc
    ·cases h1
   ·cases h1
  ·cases h1
 ·cases h
theorem YL (hR:R A V st) (ha:act g) {op:BinOp} {x y:ct} (h:ta V g x fun x=>ta V g y fun y=>ko nt V d g (b8 op x y) k):gz cf nt A V st d (.bin op x y) k:=by
 obtain⟨u,h1,h⟩:=gm hR ha h
 obtain⟨w,h2,h⟩:=gm hR ha h
 obtain⟨r,h3,h4⟩:=di hR ha h
 obtain⟨c,h5,h6⟩:=QH h3 h1 h2
 have hk:kind (.bin op x y)=.plan fun ρ=>lq (Ko op (ρ x) (ρ y)):=rfl
 exact c9 hk (by simp only [h5,lq]) (h4 _ h6)
theorem o_un (hR:R A V st) (ha:act g) {op:UnOp} {x:ct} (h:ta V g x fun x=>ko nt V d g (oe op x) k):gz cf nt A V st d (.un op x) k:=by
 obtain⟨u,h1,h⟩:=gm hR ha h
 obtain⟨r,h3,h4⟩:=di hR ha h
 obtain⟨c,h5,h6⟩:=RD h3 h1
 have hk:kind (.un op x)=.plan fun ρ=>lq (Th op (ρ x)):=rfl
 exact c9 hk (by simp only [h5,lq]) (h4 _ h6)
theorem TX (hR:R A V st) (ha:act g) {c:IntKind} {x:ct} (h:ta V g x fun x=>ko nt V d g (kj c x) k):gz cf nt A V st d (.conv c x) k:=by
 obtain⟨u,h1,h⟩:=gm hR ha h
 obtain⟨r,h3,h4⟩:=di hR ha h
 unfold kj at h3
 split at h3
 ·cases h3
  generalize he:ev st.env x=p at h1
  cases h1
  exact c9 rfl (by simp only [DO,he]) (h4 _ (.i _ _))
 ·cases h3
theorem Sv {t:KF} {neg:Bool} {x y r:TV} {a b:AV} (h:Y4 t neg x y=some r) (ha:Can x a) (hb:Can y b):∃c,Rp t a b=some c/\r=.b (bif neg then !c else c):=by
 cases t with
 |one l=>
  simp only [Y4] at h
  cases hx:CH x with
  |none=>rw [hx] at h;cases h
  |some x'=>
   rw [hx] at h
   cases hy:CH y with
   |none=>rw [hy] at h;cases h
   |some y'=>
    rw [hy] at h
    simp only at h
    cases hc:Qn l x' y' with
    |none=>rw [hc] at h;cases h
    |some c=>
     rw [hc] at h
     cases h
     exact⟨c,by rw [tj hx ha,tj hy hb];exact hc,by cases neg<;>rfl⟩
 |agg ls=>
  cases ha<;>first|(cases h;done)|skip
  rename_i xs as hl hf hh
  cases hb<;>first|(cases h;done)|skip
  rename_i ys bs hl' hf' hh'
  simp only [Y4] at h
  cases hx:Aj xs with
  |none=>rw [hx] at h;cases h
  |some x'=>
   rw [hx] at h
   cases hy:Aj ys with
   |none=>rw [hy] at h;cases h
   |some y'=>
    rw [hy] at h
    simp only at h
    cases hc:KE ls x' y' with
    |none=>rw [hc] at h;cases h
    |some c=>
     rw [hc] at h
     cases h
     refine⟨c,?_,by cases neg<;>rfl⟩
     rw [yp hx ⟨hl,hh⟩,yp hy ⟨hl',hh'⟩]
     exact hc
 |slice=>cases h
theorem YJ (hR:R A V st) (ha:act g) {t:KF} {neg:Bool} {x y:ct} (h:ta V g x fun x=>ta V g y fun y=>ko nt V d g (Y4 t neg x y) k):gz cf nt A V st d (.eq t neg x y) k:=by
 obtain⟨u,h1,h⟩:=gm hR ha h
 obtain⟨w,h2,h⟩:=gm hR ha h
 obtain⟨r,h3,h4⟩:=di hR ha h
 have hk:kind (.eq t neg x y)=.plan fun ρ=>Pp ρ t neg x y:=rfl
 obtain⟨c,h5,rfl⟩:=Sv h3 h1 h2
 exact c9 hk (by simp only [Pp,h5];cases neg<;>rfl) (h4 _ (.b _))
theorem YI (hR:R A V st) {neg:Bool} {x y:ct} (hy:P7 y=true) (h:ta V none x fun x=>∃es:List TV,gb x=some es/\∀b:Bool,(es≠[]->b=neg)->jj nt V d none (.tr (.b b)) k):gz cf nt A V st d (.eq .slice neg x y) k:=by
 obtain⟨u,h1,es,h2,h3⟩:=gm (g:=none) hR trivial h
 have hk:kind (.eq .slice neg x y)=.plan fun ρ=>Pp ρ .slice neg x y:=rfl
 have hyv:ev st.env y=.aq:=by
  cases y with
  |c v=>cases v<;>first|rfl|cases hy
  |t n=>cases hy
 have hc:∃c,Rp .slice (ev st.env x) .aq=some c/\(es≠[]->c=false):=by
  generalize ev st.env x=a at h1
  cases h1<;>first|(cases h2;done)|skip
  ·cases h2;exact⟨true,rfl,fun h=>absurd rfl h⟩
  ·exact⟨false,rfl,fun _=>rfl⟩
 obtain⟨c,h4,h5⟩:=hc
 refine c9 hk (v:=.bool (bif neg then !c else c)) (by simp only [Pp,hyv,h4];cases neg<;>rfl) (cm hR (fun _=>.tr (.b _)) (h3 _ (fun hne=>?_)))
 rw [h5 hne];cases neg<;>rfl
theorem YD (hR:R A V st) (ha:act g) {mx:Bool} {xs:List ct} (h:Pc V g xs fun xs=>ko nt V d g (JC mx xs) k):gz cf nt A V st d (.KC mx xs) k:=by
 obtain⟨vs,h1,h⟩:=Jd hR ha h
 obtain⟨r,h3,h4⟩:=di hR ha h
 unfold JC at h3
 split at h3
 ·rename_i v l hl
  split at h3
  ·rename_i r' hr
   have e:=yp hl h1
   have hk:kind (.KC mx xs)=.plan fun ρ=>HZ ρ mx xs:=rfl
   exact c9 hk (by simp only [HZ,e,hr,lq]) (h4 _ (Dp h3))
  ·cases h3
 ·cases h3
theorem YF (hR:R A V st) (ha:act g) {x i:ct} (h:ta V g x fun x=>ta V g i fun i=>ko nt V d g (lJ x i) k):gz cf nt A V st d (.idx x i) k:=by
 obtain⟨u,h1,h⟩:=gm hR ha h
 obtain⟨w,h2,h⟩:=gm hR ha h
 obtain⟨r,h3,h4⟩:=di hR ha h
 unfold lJ at h3
 split at h3
 ·split at h3
  ·split at h3
   ·rename_i b hb
    cases h3
    generalize e1:ev st.env x=p at h1
    generalize e2:ev st.env i=q at h2
    cases h1;cases h2
    exact c9 rfl (by simp only [Jk,e1,e2,hb]) (h4 _ (.i _ _))
   ·cases h3
  ·cases h3
 ·cases h3
theorem R6 (hR:R A V st) (ha:act g) {x:ct} {lo hi:Option ct} (h:ta V g x fun x=>Gg V g lo fun lo=>Gg V g hi fun hi=>ko nt V d g (zp x lo hi) k):gz cf nt A V st d (.sn x lo hi) k:=by
 obtain⟨u,h1,h⟩:=gm hR ha h
 obtain⟨l,h,hl⟩:=Ct hR ha h
 obtain⟨hv,h,hh⟩:=Ct hR ha h
 obtain⟨r,h3,h4⟩:=di hR ha h
 unfold zp at h3
 split at h3
 ·split at h3
  ·rename_i a b hab
   cases h3
   obtain⟨hb,_,_⟩:=MZ hl hh hab
   generalize e1:ev st.env x=p at h1
   cases h1
   exact c9 rfl (by simp only [z6,e1,hb]) (h4 _ (.s _))
  ·cases h3
 ·cases h3
theorem YH (hR:R A V st) (ha:act g) {i:Nat} {x:ct} (h:ta V g x fun x=>ko nt V d g (jv i x) k):gz cf nt A V st d (.ext i x) k:=by
 obtain⟨u,h1,h⟩:=gm hR ha h
 obtain⟨r,h3,h4⟩:=di hR ha h
 unfold jv at h3
 split at h3
 ·rename_i vs
  generalize e1:ev st.env x=p at h1
  cases h1 with
  |tp _ as hl hf hh=>
   have hlt:i < as.length:=by rw [←hl];exact(List.getElem?_eq_some_iff.1 h3).1
   have hx:as[i]?=some as[i]:=List.getElem?_eq_getElem hlt
   exact c9 rfl (by simp only [Jm,e1,hx,lq]) (h4 _ (hh i r _ h3 hx))
 ·cases h3
def sc (t:TV):Bool:=match t with|.l _=>false|.a _=>false|.tp _=>false|.BK _ _=>false|_=>true
theorem JN {d:Nat} {H:cw} {v a:AV} (h:dw (d+1) H v=some a) (hi:∀cs n c,a≠.jq cs n c) (ha:∀cs,a≠.agg cs) (ht:∀cs,a≠.qd cs):v=a:=by
 cases v with
 |ref id g off es len cap ex=>
  rw [qe] at h
  split at h
  ·rw [cond_eq_ite] at h
   split at h
   ·split at h
    ·split at h
     ·cases h;exact absurd rfl (hi _ _ _)
     ·cases h
    ·cases h
   ·cases h
  ·cases h
 |agg cs=>
  rw [oo] at h
  split at h
  ·cases h;exact absurd rfl (ha _)
  ·cases h
 |qd cs=>
  rw [s_] at h
  split at h
  ·cases h;exact absurd rfl (ht _)
  ·cases h
 |ptr=>cases h
 |zg=>cases h
 |_=>exact Option.some.inj h
theorem tN {t:TV} {a v:AV} (h:Can t a) (hs:sc t=true) {d:Nat} {H:cw} (him:dw (d+1) H v=some a):own (d+1) H v=true:=by
 cases h<;>first|(cases hs;done)|skip
 all_goals
  have:=JN him (fun _ _ _ h=>by cases h) (fun _ h=>by cases h) (fun _ h=>by cases h)
  subst this
  rfl
theorem Kr {ts:List TV} {as vs:List AV} {d:Nat} {H:cw} (f:TV->Bool) (ho:∀t a v,Can t a->f t=true->dw d H v=some a->own d H v=true) (hc:p_ ts as) (hs:∀t∈ts,f t=true) (hm:lN (dw d H) vs=some as):gJ (own d H) vs=true:=by
 rw [cx]
 intro v hv
 obtain⟨j,hj⟩:=List.getElem?_of_mem hv
 obtain⟨hl,hat⟩:=qh hm
 obtain⟨a,ha,him⟩:=hat j v hj
 have hlt:j < ts.length:=by rw [hc.1];exact(List.getElem?_eq_some_iff.1 ha).1
 exact ho _ a v (hc.2 j _ a (List.getElem?_eq_getElem hlt) ha) (hs _ (List.getElem_mem hlt)) him
theorem GC {t:TV} {a v:AV} (h:Can t a) (hs:t.Mg=true) {d:Nat} {H:cw} (him:dw (d+2) H v=some a):own (d+2) H v=true:=by
 cases h with
 |a ts as hl hf hh=>
  have hs':=cx.1 hs
  cases v with
  |agg cs=>
   rw [oo] at him
   split at him
   ·rename_i cs' hm
    cases him
    rw [Mq]
    exact Kr sc (fun t a v h1 h2 h3=>tN h1 h2 h3) ⟨hl,hh⟩ (fun t ht=>hs' t ht) hm
   ·cases him
  |ref id g off es len cap ex=>
   rw [qe] at him
   split at him
   ·rw [cond_eq_ite] at him
    split at him
    ·split at him
     ·split at him<;>cases him
     ·cases him
    ·cases him
   ·cases him
  |qd cs=>rw [s_] at him;split at him<;>cases him
  |_=>cases him
 |tp ts as hl hf hh=>cases hs
 |BK x u hf h=>cases hs
 |nil=>cases hs
 |jq=>cases hs
 |i k n=>exact tN (.i k n) rfl him
 |b x=>exact tN (.b x) rfl him
 |s x=>exact tN (.s x) rfl him
 |f n=>exact tN (.f n) rfl him
 |np=>exact tN .np rfl him
theorem ON {t:TV} {a v:AV} (h:Can t a) (hs:t.Ni=true) {d:Nat} {H:cw} (him:dw (d+3) H v=some a):own (d+3) H v=true:=by
 cases h with
 |tp ts as hl hf hh=>
  have hs':=cx.1 hs
  cases v with
  |qd cs=>
   rw [s_] at him
   split at him
   ·rename_i cs' hm
    cases him
    rw [Mp]
    exact Kr TV.Mg (fun t a v h1 h2 h3=>GC h1 h2 h3) ⟨hl,hh⟩ (fun t ht=>hs' t ht) hm
   ·cases him
  |ref id g off es len cap ex=>
   rw [qe] at him
   split at him
   ·rw [cond_eq_ite] at him
    split at him
    ·split at him
     ·split at him<;>cases him
     ·cases him
    ·cases him
   ·cases him
  |agg cs=>rw [oo] at him;split at him<;>cases him
  |_=>cases him
 |a ts as hl hf hh=>exact GC (.a ts as hl hf hh) hs him
 |nil=>cases hs
 |jq=>cases hs
 |i k n=>exact tN (.i k n) rfl him
 |b x=>exact tN (.b x) rfl him
 |s x=>exact tN (.s x) rfl him
 |f n=>exact tN (.f n) rfl him
 |BK x u hf h=>cases hs
 |np=>exact tN .np rfl him
theorem Hr {ts:List TV} {Q:TV->Prop} {f:Nat} {vs as':List AV} {H:cw} {nx:Nat} {p:Bool} (h:VS prog f ts fun r=>bz p r/\Q r) (h1:lN (dw deep H) vs=some as') (h2:p_ ts as')
  (h3:gJ AV.plain vs=true->as'=vs) (h4:p=true->gJ AV.plain vs=true):∃v r,h_ (fe prog) f vs .borrow H nx=some (v,H,nx)/\Can r v/\Q r:=by
 obtain⟨v,H',nx',g1,a,g2,r,g3,g4,g5⟩:=h as' h2
 by_cases hp:gJ AV.plain vs=true
 ·have e:=h3 hp
  subst e
  refine⟨a,r,?_,g3,g5⟩
  have hend:oY (some (v,H',nx')) false=some a:=by
   simp only [oY,cond_eq_ite]
   rw [if_neg (by decide)]
   by_cases hv:v.plain=true
   ·rw [if_pos hv]
    have:dw deep H' v=some v:=xj hv 27 _
    rw [this] at g2;exact g2
   ·rw [if_neg hv];exact g2
  simp only [h_,hp,cond_true,g1,hend]
 ·have hpf:p=false:=by cases p with|true=>exact absurd (h4 rfl) hp|false=>rfl
  subst hpf
  refine⟨a,r,?_,g3,g5⟩
  have ho:own deep H' v=true:=ON (d:=27) g3 g4 g2
  have hpb:gJ AV.plain vs=false:=by simpa using hp
  simp only [h_,hpb,cond_false,h1,g1,oY,cond_true,ho,g2]
theorem H6 (hR:R A V st) (ha:act g) {f:Nat} {args:List ct} (h:FH prog nt V d g f args k):∃v,h_ (fe prog) f (args.map (ev st.env)) .borrow st.H st.nx=some (v,st.H,st.nx)/\Next nt A V st d v st.H st.nx k:=by
 obtain⟨p,ts,as',hk,h1,h2,h3,h4⟩:=Hy hR ha args _ h
 cases g with
 |none=>
  obtain⟨v,r,g1,g2,g3⟩:=Hr (nx:=st.nx) hk h1 h2 h3 h4
  exact⟨v,g1,cm hR (fun _=>.tr g2) g3⟩
 |some q=>
  obtain⟨c,bb⟩:=q
  obtain⟨r,hg,hput⟩:=hk
  have hc:c=.b bb:=ha
  subst hc
  have hg':VS prog f ts fun r'=>r'=r/\bz p r:=by
   unfold gV at hg
   cases bb<;>exact hg
  have hg'':VS prog f ts fun r'=>bz p r'/\r'=r:=hg'.mono (fun r' ⟨e,hs⟩=>by subst e;exact⟨hs,rfl⟩)
  obtain⟨v,r',g1,g2,g3⟩:=Hr (nx:=st.nx) hg'' h1 h2 h3 h4
  subst g3
  exact⟨v,g1,cm hR (fun _=>.tr g2) hput⟩
end
end Go.Ax.V

namespace Go.Ax.V
section
variable {prog:Map bk} {nt:Nat}
section
variable {A:ee} {V:cg} {st:St}
theorem Ml (hR:R A V st) {n:Nat} {k:TV->Prop} (h:ta V none (.t n) k):∃c a,st.env.get n=some a/\Can c a/\k c:=by
 obtain⟨c,h1,h2⟩:=gm (g:=none) hR trivial h
 simp only [ta,lM] at h
 split at h
 ·cases h
 ·rename_i e he
  obtain⟨a,ha,_⟩:=hR.env n e he
  rw [Ig ha] at h1
  exact⟨c,a,ha,h1,h2⟩
end
theorem wj {A:ee} {V:cg} {st:St} (h:R A V st) {t:Nat} {w:VV} {a:AV} (ha:st.env.get t=some a) (hw:VR A w a):R A (sk V t w) st where
 env t' e he:=by
  simp only [sk,Map.bt] at he
  split at he
  ·rename_i ht;subst ht;cases he;exact⟨a,ha,fun _=>hw⟩
  ·exact h.env t' e he
 heap:=h.heap
 inj:=h.inj
 used:=h.used
 one:=h.one
 fresh:=h.fresh
 lZ:=h.lZ
theorem GW {A0:ee} {Vc:cg} {st:St} (hR:R A0 Vc st) {O:Nat} {o:VO} {k:cg->Prop} {a:AV} {inn:Nat->Option AV} {I:Nat->Prop} (h:Cw Vc O o k) (hi1:∀j x,inn j=some x->x.one=true)
  (hO:∀A':ee,(∀O x,A0 O=some x->A' O=some x)->(∀j,A' (.i O 0 j)=inn j)->(∀v j,0 < v->A' (.i O v j)=none)->OR A' st.H o a/\q_ A' O a o/\∀id,jJ A' o a id->I id) (h1:a.one=true)
  (hI:∀id,I id->¬gR Vc A0 id):∃Vc' A',k Vc'/\R A' Vc' st/\(∀O' x,A0 O'=some x->A' O'=some x)/\A' O=some a/\Vc'.env=Vc.env/\(∀id,gR Vc' A' id->gR Vc A0 id\/I id)/\Vc'.H.get O=some o/\
   (∀(O':Nat) x,A' O'=some x->A0 O'=some x\/O'=O)/\(∀n x,A' n=some x->A0 n=some x\/Vc.us.get n.base=none):=by
 unfold Cw at h
 split at h
 ·cases h
 rename_i hus
 have hnone:∀n:TN,n.base=O->A0 n=none:=fun n hn=>hR.used n (by rw [hn];exact hus)
 have hA':=Ds (a:=a) (inn:=inn) hnone
 obtain⟨g1,g2,g3⟩:=hO (xm A0 O a inn) hA' (fun j=>Qk) (fun v j hv=>ML hv)
 refine⟨_,xm A0 O a inn,h,S6 hR.env hR.heap hR.inj hR.used hR.one hR.fresh hR.lZ hus h1 hi1 g1 g2 (fun id hi=>hI id (g3 id hi)),hA',yu,rfl,fun id ⟨O',o',x,ho,hx,hi⟩=>?_,by simp only [Map.bt,if_pos],fun O' x hx=>?_,fun n x hx=>?_⟩
 ·simp only [Map.bt] at ho
  by_cases e:O'=O
  ·subst e
   rw [if_pos rfl] at ho;cases ho
   rw [yu] at hx;cases hx
   exact .inr (g3 id hi)
  ·rw [if_neg e] at ho
   have hx':A0 O'=some x:=by rwa [lK (n:=.s O') e] at hx
   rw [Ak e (hR.lZ O' _ _ ho hx')] at hi
   exact .inl ⟨O',o',x,ho,hx',hi⟩
 ·by_cases e:O'=O
  ·exact .inr e
  ·exact .inl (by rwa [lK (n:=.s O') e] at hx)
 ·by_cases e:n.base=O
  ·exact .inr (by rw [e];exact hus)
  ·exact .inl (by rwa [lK e] at hx)
theorem JB {A0:ee} {Vc:cg} {st:St} (hR:R A0 Vc st) {O:Nat} {o:VO} {k:cg->Prop} {a:AV} (h:Cw Vc O o k) (hO:∀A':ee,(∀O x,A0 O=some x->A' O=some x)->OR A' st.H o a) (h1:a.one=true)
  (hid:∀id,gM a=some id->¬gR Vc A0 id) (hpl:o.pl=true:=by rfl):∃Vc' A',k Vc'/\R A' Vc' st/\(∀O' x,A0 O'=some x->A' O'=some x)/\A' O=some a/\Vc'.env=Vc.env/\(∀id,gR Vc' A' id->gR Vc A0 id\/gM a=some id)/\Vc'.H.get O=some o/\
   (∀(O':Nat) x,A' O'=some x->A0 O'=some x\/O'=O):=
 let ⟨Vc',A',g1,g2,g3,g4,g5,g6,g7,g8,_⟩:=GW (inn:=fun _=>none) hR h (fun j x h=>by cases h) (fun A' h2 _ _=>⟨hO A' h2,EG hpl,fun id hi=>(jh hpl).1 hi⟩) h1 hid
 ⟨Vc',A',g1,g2,g3,g4,g5,g6,g7,g8⟩
def Told (H:cw) (sz:Nat) (es:List TV) (x:AV) (inn:Nat->Option AV) (I:Nat->Prop):Prop:=
 (∀j y,inn j=some y->y.one=true)/\∀(A':ee) (t:Nat),(∀j,A' (.i t 0 j)=inn j)->(∀v j,0 < v->A' (.i t v j)=none)->OR A' H (wq t sz es) x/\q_ A' t x (wq t sz es)/\∀id,jJ A' (wq t sz es) x id->I id
theorem xg {A0:ee} {Vc:cg} {st:St} (hR:R A0 Vc st) {O sz:Nat} {es:List TV} {k:cg->Prop} {a:AV} {inn:Nat->Option AV} {I:Nat->Prop} (h:Cw Vc O (wq O sz es) k) (hT:Told st.H sz es a inn I) (h1:a.one=true) (hI:∀id,I id->¬gR Vc A0 id) :
  ∃Vc' A',k Vc'/\R A' Vc' st/\(∀O' x,A0 O'=some x->A' O'=some x)/\A' O=some a/\Vc'.env=Vc.env/\(∀id,gR Vc' A' id->gR Vc A0 id\/I id)/\Vc'.H.get O=some (wq O sz es)/\
   (∀(O':Nat) x,A' O'=some x->A0 O'=some x\/O'=O)/\(∀n x,A' n=some x->A0 n=some x\/Vc.us.get n.base=none):=
 GW hR h hT.1 (fun A' _ h2 h3=>hT.2 A' O h2 h3) h1 hI
structure M4 (V:cg) (A:ee) (Vc:cg) (A0:ee) (st:St):Prop where
 old:R A V st
 new:R A0 Vc st
 apart:∀id,gR V A id->¬gR Vc A0 id
def Ky (A0 A:ee):Prop:=∀(O:Nat) id,A0 O=some (.ptr id 0 0)->A O=some (.ptr id 0 0)
theorem Pk {sz:Nat} (h:Nat.blt sz Qg=true) (hp:nq sz=true):0 < sz:=by
 unfold nq at hp;rw [h] at hp;simpa using hp
theorem Pm {sz:Nat} (h:Nat.blt sz Qg=false) (hp:nq sz=true):0 < NJ sz/\Sl sz < NJ sz/\0 < Ro sz:=by
 unfold nq at hp;rw [h] at hp;simpa using hp
theorem Oy {H:cw} {sz:Nat} {x:AV} {I:Nat->Prop} (hp:nq sz=true) (hx:x=.aq\/x=.jq [] 0 (some 0)):Told H sz [] x (fun _=>none) I:=by
 have hi:∀id,gM x=some id->False:=fun id h=>by rcases hx with rfl|rfl<;>cases h
 refine⟨fun j y h=>(by cases h),fun A' t h1 h2=>?_⟩
 unfold wq
 cases hb:Nat.blt sz Qg with
 |true=>exact⟨⟨Pk hb hp,.inl ⟨rfl,hx⟩⟩,trivial,fun id h=>(hi id ((jh rfl).1 h)).elim⟩
 |false=>
  obtain⟨p1,p2,p3⟩:=Pm hb hp
  refine⟨⟨p1,p2,p3,.inl ⟨rfl,hx⟩⟩,⟨rfl,h2,fun j x hj=>(by rw [h1] at hj;cases hj),fun j j' x x' id _ _ hj=>(by rw [h1] at hj;cases hj),fun j x id _ hj=>(by rw [h1] at hj;cases hj)⟩,fun id h=>?_⟩
  rcases h with h|⟨j,y,_,hj,_⟩
  ·exact(hi id h).elim
  ·rw [h1] at hj;cases hj
theorem AJ {V:cg} {A:ee} {Vc:cg} {A0:ee} {st:St} (h:M4 V A Vc A0 st) {sz:Nat} {w:VV} {x:AV} (hw:HC A w x) {k:List TV->cg->Prop} (hk:tu V sz w k) :
  ∃es V',k es V'/\V'=yz V w/\Sub V V'/\(nq sz=true->∃inn,Told st.H sz es x inn fun id=>gR V A id/\¬gR V' A id)/\x.one=true/\(∀id,x≠.ptr id 0 0):=by
 cases w<;>first|(cases hk;done)|skip
 ·refine⟨[],V,hk,rfl,Sub.refl V,fun hz=>⟨_,Oy hz hw⟩,?_,?_⟩<;>rcases hw with rfl|rfl<;>first|rfl|(intro id hi;cases hi)
 ·rename_i O
  have hA:A O=some x:=hw
  simp only [tu] at hk
  split at hk
  ·rename_i z es ho
   split at hk
   rotate_left
   ·cases hk
   rename_i hb
   obtain⟨rfl,hk2⟩:=eC hk
   obtain⟨y,hy,hs⟩:=h.old.heap O _ ho
   rw [hA] at hy;cases hy
   refine⟨es,_,hk2,rfl,fk V O,fun _=>⟨fun _=>none,fun j y h=>(by cases h),fun A' t _ _=>?_⟩,h.old.one O x hA,fun id e=>?_⟩
   ·unfold wq
    rw [hb]
    refine⟨hs,trivial,fun id hi=>?_⟩
    have hi':jJ A (.gr z es) x id:=.inl ((jh rfl).1 hi)
    exact⟨⟨O,_,x,ho,hA,hi'⟩,jr h.old ho hA hi'⟩
   ·rcases hs.2 with ⟨_,e'|e'⟩|⟨_,_,_,_,e',_⟩<;>(rw [e] at e';cases e')
  ·rename_i K s io iz ver es ho
   split at hk
   rotate_left
   ·cases hk
   rename_i hsz
   simp only [NG,Bool.and_eq_true,Bool.not_eq_true',Nat.beq_eq] at hsz
   obtain⟨hb,rfl,rfl,rfl⟩:=hsz
   obtain⟨y,hy,hs⟩:=h.old.heap O _ ho
   rw [hA] at hy;cases hy
   obtain⟨rfl,hv1,hv0,hv2,hv3⟩:=h.old.lZ O _ _ ho hA
   refine⟨es,_,hk,rfl,fk V K,fun _=>⟨fun j=>if j < es.length then A (.i K ver j) else none,fun j y hj=>?_,fun A' t h1 h2=>?_⟩,h.old.one K x hA,fun id e=>?_⟩
   ·simp only at hj
    split at hj
    ·exact h.old.one _ _ hj
    ·cases hj
   ·unfold wq
    rw [hb]
    have e1:∀j,j < es.length->A' (.i t 0 j)=A (.i K ver j):=fun j hj=>(h1 j).trans (if_pos hj)
    have e2:∀j y,A' (.i t 0 j)=some y->j < es.length/\A (.i K ver j)=some y:=fun j y hy=>by
     rw [h1] at hy
     simp only at hy
     split at hy
     ·rename_i hj;exact⟨hj,hy⟩
     ·cases hy
    obtain⟨q1,q2,q3,q4⟩:=hs
    refine⟨⟨q1,q2,q3,q4.imp (fun h=>h) ?_⟩,⟨rfl,h2,fun j x hx=>?_,fun j j' x x' id _ _ hx hx'=>?_,fun j x id _ hx=>?_⟩,fun id hi=>?_⟩
    ·rintro⟨id,g,b,cells,rfl,p1,p2,p3⟩
     refine⟨id,g,b,cells,rfl,p1,p2,p3.len,fun j e he=>?_⟩
     obtain⟨ts,g1,g2,g3,y,g4,g5,g6⟩:=p3.el j e he
     exact⟨ts,g1,g2,g3,y,g4,by rw [e1 j (List.getElem?_eq_some_iff.1 he).1];exact g5,g6⟩
    ·exact(e2 j x hx).1
    ·exact hv2 j j' x x' id (by simp) (by simp) (e2 j x hx).2 (e2 j' x' hx').2
    ·exact hv3 j x id (by simp) (e2 j x hx).2
    ·have hi':jJ A (.gn K (NJ sz) (Sl sz) (Ro sz) ver none es) x id:=by
      rcases hi with hi|⟨j,y,p1,p2,p3⟩
      ·exact .inl hi
      ·exact .inr ⟨j,y,by simp,(e2 j y p2).2,p3⟩
     exact⟨⟨K,_,x,ho,hA,hi'⟩,jr h.old ho hA hi'⟩
   ·rcases hs.2.2.2 with ⟨_,e'|e'⟩|⟨_,_,_,_,e',_⟩<;>(rw [e] at e';cases e')
  ·cases hk
theorem M4.sub {V V':cg} {A:ee} {Vc:cg} {A0:ee} {st:St} (h:M4 V A Vc A0 st) (hs:Sub V V'):M4 V' A Vc A0 st:=
 ⟨hs.r h.old,h.new,fun id ho=>h.apart id (hs.own ho)⟩
theorem tf {l:List (Nat×Nat)}:∀{ovs:List (Nat×VV)},Aa ovs l=true->∀j w,fc j ovs=some w->j9 j l=true
 |[],h,j,w,ho=>by simp [fc] at ho
 |(i,w')::r,h,j,w,ho=>by
  simp only [Aa,Bool.and_eq_true] at h
  rw [ei] at ho
  split at ho
  ·rename_i e;subst e;exact h.1
  ·exact tf h.2 j w ho
theorem ue {O j:Nat}:∀{l:List (Nat×Nat)},fc j (vz O l)=if j9 j l=true then some (.sl (HH O j)) else none
 |[]=>by simp [vz,fc,j9]
 |(i,z)::l=>by
  simp only [vz,ei,ue (l:=l),j9,Bool.or_eq_true,Nat.beq_eq]
  by_cases e:i=j
  ·subst e;simp
  ·rw [if_neg e]
   by_cases hk:j9 j l=true
   ·rw [if_pos hk,if_pos (.inr hk)]
   ·rw [if_neg hk,if_neg]
    rintro(h|h)
    ·exact e h.symm
    ·exact hk h
theorem AK {Rt:Type} {O:Nat} {st:St} {ovs:List (Nat×VV)} {cs:List AV} {A:ee} (hsl:∀j w,fc j ovs=some w->∃x,cs[j]?=some x/\HC A w x):∀(offs:List (Nat×Nat)) (V Vc:cg) (A0:ee) (I:JL offs Rt) (k kc:Rt->cg->Prop),
  (∀p∈offs,nq p.2=true)->M4 V A Vc A0 st->vl V ovs offs I k->QV O offs Vc I kc->∃i V' Vc' A',k i V'/\kc i Vc'/\V'=zw V ovs offs/\M4 V' A Vc' A' st/\Ky A' A0/\Sub V V'/\(∀O' x,A0 O'=some x->A' O'=some x)/\Vc'.env=Vc.env/\
   (∀id,gR Vc' A' id->gR Vc A0 id\/gR V A id)/\(∀j,j9 j offs=true->∃x,cs[j]?=some x/\A' (HH O j)=some x)
 |[],V,Vc,A0,I,k,kc,hz,h,hk,hkc=>⟨I,V,Vc,A0,hk,hkc,rfl,h,fun _ _ h=>h,Sub.refl V,fun _ _ h=>h,rfl,fun id h=>.inl h,fun j hj=>by cases hj⟩
 |(off,sz)::offs,V,Vc,A0,I,k,kc,hz,h,hk,hkc=>by
  simp only [vl] at hk
  split at hk
  ·rename_i w hw
   obtain⟨x,hx,hs⟩:=hsl off w hw
   obtain⟨es,V1,hk1,hV1,hs1,hsl1,hone,hnp⟩:=AJ h hs hk
   have hkc1:=hkc es
   obtain⟨inn,hT⟩:=hsl1 (hz (off,sz) List.mem_cons_self)
   obtain⟨Vc1,A1,hkc2,hR1,hA1,hAo,henv,hown,_,hback,_⟩:=xg h.new hkc1 hT hone (fun id hi=>h.apart id hi.1)
   have h1:M4 V1 A Vc1 A1 st:=⟨hs1.r h.old,hR1,fun id ho hc=>(hown id hc).elim (fun hc=>h.apart id (hs1.own ho) hc) (fun hi=>hi.2 ho)⟩
   have hag:Ky A1 A0:=fun O' id hO'=>by
    rcases hback O' _ hO' with hh|rfl
    ·exact hh
    ·rw [hAo] at hO';cases hO';exact absurd rfl (hnp id)
   obtain⟨i,V',Vc',A',g1,g2,g0,g3,g3a,g4,g5,g6,g7,g8⟩:=AK hsl offs V1 Vc1 A1 (I es) k kc (fun p hp=>hz p (List.mem_cons_of_mem _ hp)) h1 hk1 hkc2
   refine⟨i,V',Vc',A',g1,g2,by rw [g0,hV1];simp only [zw,hw],g3,fun O' id hO'=>hag O' id (g3a O' id hO'),hs1.trans g4,fun O' y hy=>g5 _ _ (hA1 _ _ hy),g6.trans henv,fun id ho=>?_,fun j hj=>?_⟩
   ·rcases g7 id ho with ho|ho
    ·rcases hown id ho with ho|hi
     ·exact .inl ho
     ·exact .inr hi.1
    ·exact .inr (hs1.own ho)
   ·simp only [j9,Bool.or_eq_true,Nat.beq_eq] at hj
    rcases hj with rfl|hj
    ·exact⟨x,hx,g5 _ _ hAo⟩
    ·exact g8 j hj
  ·cases hk
theorem AX {st:St} {A:ee}:∀(J:List AE) (V Vc:cg) (A0:ee) (I:JT J Prop) (k:cg->Prop),J.all Am=true->M4 V A Vc A0 st->Ky A0 A->E8 J V I->BY J Vc I k->
  ∃Vc' A',k Vc'/\R A' Vc' st/\(∀id,gR Vc' A' id->gR Vc A0 id\/gR V A id)/\M4 (sq J V) A Vc' A' st/\Sub V (sq J V)
 |[],V,Vc,A0,I,k,hp,h,hag,hk,hkc=>⟨Vc,A0,hkc hk,h.new,fun id h=>.inl h,h,Sub.refl V⟩
 |.tr t::J,V,Vc,A0,I,k,hp,h,hag,hk,hkc=>by
  rw [List.all_cons,Bool.and_eq_true] at hp
  obtain⟨v,a,ha,hc,hk⟩:=Ml h.old hk
  obtain⟨Vc',A',g1,g2,g3,g4⟩:=AX J V _ A0 (I v) k hp.2 ⟨h.old,wj h.new ha (.tr hc),h.apart⟩ hag hk (hkc v)
  exact⟨Vc',A',g1,g2,g3,g4⟩
 |.sl t sz::J,V,Vc,A0,I,k,hp,h,hag,hk,hkc=>by
  rw [List.all_cons,Bool.and_eq_true] at hp
  have hz:nq sz=true:=hp.1
  have hk':lM V none (.t t) fun w=>tu V sz w fun es V'=>E8 J V' (I es):=hk
  simp only [lM] at hk'
  split at hk'
  ·cases hk'
  rename_i e he
  obtain⟨a,ha,hv⟩:=h.old.env t e he
  split at hk'
  rotate_left
  ·cases hk'
  rename_i hg
  have hv':=hv (fun c bb hh=>by rw [hg] at hh;cases hh)
  have hsl:HC A e.v a:=by
   have hne:=hk'
   unfold tu at hne
   generalize e.v=w at hv' hne
   cases hv'<;>first|(cases hne;done)|skip
   ·exact .inl rfl
   ·exact .inr rfl
   ·assumption
  obtain⟨es,V1,hk1,hV1,hs1,hsl1,hone,hnp⟩:=AJ h hsl hk'
  have hkc1:=hkc es
  obtain⟨inn,hT⟩:=hsl1 hz
  obtain⟨Vc1,A1,hkc2,hR1,hA1,hAo,henv,hown,_,hback,_⟩:=xg h.new hkc1 hT hone (fun id hi=>h.apart id hi.1)
  have h1:M4 V1 A (sk Vc1 t (.sl t)) A1 st:=⟨hs1.r h.old,wj hR1 ha (.sl hAo),fun id ho hc=>(hown id hc).elim (fun hc=>h.apart id (hs1.own ho) hc) (fun hi=>hi.2 ho)⟩
  have hag1:Ky A1 A:=fun O' id hO'=>by
   rcases hback O' _ hO' with hh|rfl
   ·exact hag O' id hh
   ·rw [hAo] at hO';cases hO';exact absurd rfl (hnp id)
  obtain⟨Vc',A',g1,g2,g3,g4,g5⟩:=AX J V1 _ A1 (I es) k hp.2 h1 hag1 hk1 hkc2
  have hvv:ju V (.t t)=e.v:=by simp only [ju,he]
  have hrest:sq (.sl t sz::J) V=sq J V1:=by simp only [sq];rw [hvv,hV1]
  refine⟨Vc',A',g1,g2,fun id ho=>?_,by rw [hrest];exact g4,by rw [hrest];exact hs1.trans g5⟩
  rcases g3 id ho with ho|ho
  ·rcases hown id ho with ho|hi
   ·exact .inl ho
   ·exact .inr hi.1
  ·exact .inr (hs1.own ho)
 |.pt t O off::J,V,Vc,A0,I,k,hp,h,hag,hk,hkc=>by
  rw [List.all_cons,Bool.and_eq_true] at hp
  simp only [BY] at hkc
  split at hkc
  rotate_left
  ·cases hkc
  rename_i v ovs hO
  obtain⟨y,hy,id,cs,ts,rfl,hH,hc⟩:=h.new.heap O _ hO
  have hagr:=hag O id hy
  have hk':lM V none (.t t) fun w=>match w with
   |.ptr O' off'=>same O' O (same off' off (E8 J V I))
   |_=>False:=hk
  simp only [lM] at hk'
  split at hk'
  ·cases hk'
  rename_i e he
  obtain⟨a,ha,hv⟩:=h.old.env t e he
  split at hk'
  rotate_left
  ·cases hk'
  rename_i hg
  have hv':=hv (fun c bb hh=>by rw [hg] at hh;cases hh)
  generalize e.v=w at hv' hk'
  cases hv'<;>first|(cases hk';done)|skip
  rename_i O' off' id' hO'
  obtain⟨rfl,hk'⟩:=eC hk'
  obtain⟨rfl,hk'⟩:=eC hk'
  rw [hagr] at hO';cases hO'
  obtain⟨Vc',A',g1,g2,g3,g4⟩:=AX J V _ A0 I k hp.2 ⟨h.old,wj h.new ha (.ptr hy),h.apart⟩ hag hk' hkc
  exact⟨Vc',A',g1,g2,g3,g4⟩
 |.ob O offs::J,V,Vc,A0,I,k,hp,h,hag,hk,hkc=>by
  rw [List.all_cons,Bool.and_eq_true] at hp
  have hz:∀p∈offs,nq p.2=true:=fun p hm=>List.all_eq_true.1 hp.1 p hm
  simp only [E8] at hk
  split at hk
  rotate_left
  ·cases hk
  rename_i v ovs hO
  split at hk
  rotate_left
  ·cases hk
  rename_i hkeys
  obtain⟨y,hy,id,cs,ts,rfl,hH,hc⟩:=h.old.heap O _ hO
  have hsl:∀j w,fc j ovs=some w->∃x,cs[j]?=some x/\HC A w x:=fun j w hj=>by
   have hlt:=hc.keys j w hj
   have hx:cs[j]?=some (cs[j]'(by rw [←hc.len];exact hlt)):=List.getElem?_eq_getElem _
   have:=hc.at_ j _ _ (List.getElem?_eq_getElem hlt) hx
   rw [hj] at this
   exact⟨_,hx,this⟩
  have hgone:=jr h.old hO hy (id:=id) (.inl rfl)
  have hownO:gR V A id:=⟨O,_,_,hO,hy,.inl rfl⟩
  have h1:M4 (fq V O) A Vc A0 st:=h.sub (fk V O)
  obtain⟨i,V',Vc',A',g1,g2,g0,g3,g3a,g4,g5,g6,g7,g8⟩:=AK hsl offs (fq V O) Vc A0 (I v) (fun I V'=>E8 J V' I) _ hz h1 hk (hkc v)
  have hor:∀A3:ee,(∀O x,A' O=some x->A3 O=some x)->OR A3 st.H (.ob v (vz O offs)) (.ptr id 0 0):=by
   intro A3 hA3
   refine⟨id,cs,ts,rfl,hH,⟨hc.cells,hc.len,fun j w hj=>?_,fun j t x ht hx=>?_⟩⟩
   ·rw [ue] at hj
    split at hj
    ·rename_i hh
     obtain⟨x,hx,_⟩:=g8 j hh
     rw [hc.len];exact(List.getElem?_eq_some_iff.1 hx).1
    ·cases hj
   ·rw [ue]
    by_cases hh:j9 j offs=true
    ·rw [if_pos hh]
     obtain⟨x',hx',hA'⟩:=g8 j hh
     rw [hx] at hx';cases hx'
     exact hA3 _ _ hA'
    ·rw [if_neg hh]
     have:=hc.at_ j t x ht hx
     cases ho:fc j ovs with
     |none=>rw [ho] at this;exact this
     |some w=>exact absurd (tf hkeys j w ho) hh
  obtain⟨Vc2,A2,p1,p2,p3,p4,p5,p6,p7,p8⟩:=JB g3.new (a:=.ptr id 0 0) g2 hor rfl (fun id' hi=>by
   cases hi
   intro ho
   rcases g7 _ ho with ho|ho
   ·exact h.apart _ hownO ho
   ·exact hgone ho)
  have h2:M4 V' A Vc2 A2 st:=⟨g3.old,p2,fun id' ho hc'=>by
   rcases p6 id' hc' with hc'|hi
   ·exact g3.apart id' ho hc'
   ·cases hi;exact hgone (g4.own ho)⟩
  have hag2:Ky A2 A:=fun O' id' hO'=>by
   rcases p8 O' _ hO' with hh|rfl
   ·exact hag O' id' (g3a O' id' hh)
   ·rw [p4] at hO';cases hO';exact hy
  obtain⟨Vc3,A3,q1,q2,q3,q4,q5⟩:=AX J V' Vc2 A2 i k hp.2 h2 hag2 g1 p1
  have hrest:sq (.ob O offs::J) V=sq J V':=by simp only [sq,hO];rw [g0]
  refine⟨Vc3,A3,q1,q2,fun id' ho=>?_,by rw [hrest];exact q4,by rw [hrest];exact((fk V O).trans g4).trans q5⟩
  rcases q3 id' ho with ho|ho
  ·rcases p6 id' ho with ho|hi
   ·rcases g7 id' ho with ho|ho
    ·exact .inl ho
    ·exact .inr ((fk V O).own ho)
   ·cases hi;exact .inr hownO
  ·exact .inr ((fk V O).own (g4.own ho))
 |.st t offs::J,V,Vc,A0,I,k,hp,h,hag,hk,hkc=>by
  rw [List.all_cons,Bool.and_eq_true] at hp
  have hz:∀p∈offs,nq p.2=true:=fun p hm=>List.all_eq_true.1 hp.1 p hm
  have hk':lM V none (.t t) fun w=>match w with
   |.st v ovs=>(match Aa ovs offs with
    |true=>vl (R:=JT J Prop) V ovs offs (I v) fun I V'=>E8 J V' I
    |false=>False)
   |_=>False:=hk
  simp only [lM] at hk'
  split at hk'
  ·cases hk'
  rename_i e he
  obtain⟨a,ha,hv⟩:=h.old.env t e he
  split at hk'
  rotate_left
  ·cases hk'
  rename_i hg
  have hv':=hv (fun c bb hh=>by rw [hg] at hh;cases hh)
  have hvv:ju V (.t t)=e.v:=by simp only [ju,he]
  generalize e.v=w at hv' hk' hvv
  cases hv'<;>first|(cases hk';done)|skip
  rename_i v ovs cs ts hts hc
  simp only at hk'
  split at hk'
  rotate_left
  ·cases hk'
  rename_i hkeys
  have hsl:∀j w,fc j ovs=some w->∃x,cs[j]?=some x/\HC A w x:=fun j w hj=>by
   have hlt:=hc.keys j w hj
   have hx:cs[j]?=some (cs[j]'(by rw [←hc.len];exact hlt)):=List.getElem?_eq_getElem _
   have:=hc.at_ j _ _ (List.getElem?_eq_getElem hlt) hx
   rw [hj] at this
   exact⟨_,hx,this⟩
  obtain⟨i,V',Vc',A',g1,g2,g0,g3,g3a,g4,g5,g6,g7,g8⟩:=AK hsl offs V Vc A0 (I v) (fun I V'=>E8 J V' I) _ hz h hk' (hkc v)
  have hcr:en A' v (vz t offs) cs ts:=by
   refine⟨hc.cells,hc.len,fun j w hj=>?_,fun j t' x ht hx=>?_⟩
   ·rw [ue] at hj
    split at hj
    ·rename_i hh
     obtain⟨x,hx,_⟩:=g8 j hh
     rw [hc.len];exact(List.getElem?_eq_some_iff.1 hx).1
    ·cases hj
   ·rw [ue]
    by_cases hh:j9 j offs=true
    ·rw [if_pos hh]
     obtain⟨x',hx',hA'⟩:=g8 j hh
     rw [hx] at hx';cases hx'
     exact hA'
    ·rw [if_neg hh]
     have:=hc.at_ j t' x ht hx
     cases ho:fc j ovs with
     |none=>rw [ho] at this;exact this
     |some w=>exact absurd (tf hkeys j w ho) hh
  obtain⟨Vc3,A3,q1,q2,q3,q4,q5⟩:=AX J V' (sk Vc' t (.st v (vz t offs))) A' i k hp.2 ⟨g3.old,wj g3.new ha (.st hts hcr),g3.apart⟩ (fun O' id' hO'=>hag O' id' (g3a O' id' hO')) g1 g2
  have hrest:sq (.st t offs::J) V=sq J V':=by simp only [sq,hvv];rw [g0]
  refine⟨Vc3,A3,q1,q2,fun id' ho=>?_,by rw [hrest];exact q4,by rw [hrest];exact g4.trans q5⟩
  rcases q3 id' ho with ho|ho
  ·rcases g7 id' ho with ho|ho
   ·exact .inl ho
   ·exact .inr ho
  ·exact .inr (g4.own ho)
theorem R.zero {A:ee} {V:cg} {st:St} (h:R A V st):R (fun _=>none) V0 st:=
 ⟨fun t e he=>(by cases he),fun O o ho=>(by cases ho),fun O O' o o' a a' id ho=>(by cases ho),fun _ _=>rfl,fun O a ha=>(by cases ha),h.fresh,fun O o a ho=>(by cases ho)⟩
theorem JD {A:ee} {V:cg} {st:St} (h:R A V st) {J:List AE} {I:JT J Prop} {k:cg->Prop} (hp:J.all Am=true) (hk:E8 J V I) (hkc:BY J V0 I k):∃Vc A',k Vc/\R A' Vc st/\Fr V A st.H st.nx Vc A' st.H st.nx:=by
 have lY:∀id,¬gR V0 (fun _=>none) id:=fun id ⟨O,o,a,ho,_⟩=>by cases ho
 obtain⟨Vc,A',g1,g2,g3,_⟩:=AX J V V0 (fun _=>none) I k hp ⟨h,h.zero,fun id _ hc=>lY id hc⟩ (fun O id hO=>by cases hO) hk hkc
 exact⟨Vc,A',g1,g2,⟨Nat.le_refl _,fun _ _ _=>rfl,fun id ho=>(g3 id ho).elim (fun h=>absurd h (lY id)) .inl⟩⟩
end
end Go.Ax.V

namespace Go.Ax.V
def L5 (prog:Map bk) (f np:Nat) (Jout:List AE) (Q:JT Jout Prop) (Vc:cg):Prop:=
 ∀(A:ee) (as:List AV) (H:cw) (nx:Nat),as.length=np->R A Vc ⟨je as 0 .leaf,H,nx⟩->
  ∃v H' nx' A' V',fe prog f as H nx=some (v,H',nx')/\R A' V' ⟨(je as 0 .leaf).put (some v) np,H',nx'⟩/\E8 Jout V' Q/\Fr Vc A H nx V' A' H' nx'
noncomputable def CZ (prog:Map bk) (f np:Nat) (Jin Jout:List AE) (Q:JT Jout Prop):JT Jin Prop:=TZ Jin V0 (L5 prog f np Jout Q)
def VF (prog:Map bk) (f:Nat) (T:cg->List VV->(VV->cg->Prop)->Prop):Prop:=
 ∀(A:ee) (V:cg) (st:St) (ws:List VV) (as:List AV) (k:VV->cg->Prop),R A V st->ws.length=as.length->(∀(j:Nat) w a,ws[j]?=some w->as[j]?=some a->VR A w a)->T V ws k->
  ∃v H' nx' A' V' w,fe prog f as st.H st.nx=some (v,H',nx')/\R A' V' ⟨st.env,H',nx'⟩/\VR A' w v/\Ext V A V' A'/\Fr V A st.H st.nx V' A' H' nx'/\k w V'
structure vi (prog:Map bk) (sh:Sh):Prop where
 vs:sh.vs=CZ prog
 inl:∀f T,sh.inl f=some T->VF prog f T
theorem GX {n:Nat}:∀{l:List Nat},Bj n l=true↔n∈l
 |[]=>by simp [Bj]
 |m::l=>by simp [Bj,GX (l:=l)]
theorem Bb {us:Map Unit} {O:Nat} (h:Ai us O=true):us.get O=none:=by
 unfold Ai at h
 split at h
 ·cases h
 ·assumption
theorem z9 {V:cg} {O:Nat} {o:VO} {k:cg->Prop} (hf:Ai V.us O=true) (h:k (sr V O o)):Cw V O o k:=by
 have hn:=Bb hf
 unfold Cw
 rw [hn]
 exact h
def Od (V V':cg):Prop:=∀T,V.us.get T=some ()->V'.us.get T=some ()/\V'.H.get T=V.H.get T
theorem Dk {V:cg} {O:Nat} {o:VO} (hf:Ai V.us O=true):Od V (sr V O o):=by
 intro T hT
 have hne:T≠O:=by rintro rfl;rw [Bb hf] at hT;cases hT
 exact⟨by simp only [sr,Map.bt,if_neg hne];exact hT,by simp only [sr,Map.bt,if_neg hne]⟩
theorem Od.trans {V V1 V2:cg} (h:Od V V1) (h':Od V1 V2):Od V V2:=fun T hT=>let ⟨a,b⟩:=h T hT;let ⟨c,d⟩:=h' T a;⟨c,d.trans b⟩
theorem IB {Rt:Type} {O:Nat}:∀(offs:List (Nat×Nat)) (V:cg) (us:Map Unit) (k:cg->Rt) (kk:Rt->cg->Prop),YC O offs V.us=some us->(∀V',V'.us=us->Od V V'->kk (k V') V')->QV O offs V (Z6 O offs V k) kk
 |[],V,us,k,kk,h,hk=>by cases h;exact hk V rfl (fun T hT=>⟨hT,rfl⟩)
 |(off,sz)::offs,V,us,k,kk,h,hk=>by
  simp only [YC,cond_eq_ite] at h
  split at h
  ·rename_i hf
   intro es
   refine z9 hf ?_
   exact IB offs _ us k kk h (fun V' h1 h2=>hk V' h1 ((Dk hf).trans h2))
  ·cases h
theorem Bg:∀(J:List AE) (V:cg) (obs:List Nat) (k:cg->Prop),Nx J V.us obs=true->(∀O∈obs,V.us.get O=some ()/\∃v ov,V.H.get O=some (.ob v ov))->BY J V (TZ J V k) k
 |[],V,obs,k,h,ho=>fun hk=>hk
 |.tr t::J,V,obs,k,h,ho=>fun v=>Bg J (sk V t (.tr v)) obs k h ho
 |.sl t sz::J,V,obs,k,h,ho=>by
  simp only [Nx,Bool.and_eq_true] at h
  intro es
  refine z9 h.1 ?_
  refine Bg J _ obs k h.2 (fun O hO=>?_)
  obtain⟨h1,v,ov,h2⟩:=ho O hO
  obtain⟨h3,h4⟩:=Dk (o:=wq t sz es) h.1 O h1
  exact⟨h3,v,ov,by rw [←h2];exact h4⟩
 |.pt t O off::J,V,obs,k,h,ho=>by
  simp only [Nx,Bool.and_eq_true] at h
  obtain⟨h1,v,ov,h2⟩:=ho O (GX.1 h.1)
  simp only [BY,h2]
  exact Bg J (sk V t (.ptr O off)) obs k h.2 ho
 |.ob O offs::J,V,obs,k,h,ho=>by
  simp only [Nx] at h
  split at h
  ·rename_i us hus
   rw [Bool.and_eq_true] at h
   intro v
   refine IB offs V us _ _ hus (fun V' hu hkp=>?_)
   have hf:Ai V'.us O=true:=by rw [hu];exact h.1
   refine z9 hf ?_
   refine Bg J _ (O::obs) k (by show Nx J (V'.us.put (some ()) O) (O::obs)=true;rw [hu];exact h.2) (fun O' hO'=>?_)
   rcases List.mem_cons.1 hO' with rfl|hO'
   ·exact⟨by simp only [sr,Map.bt,if_pos],v,vz O' offs,by simp only [sr,Map.bt,if_pos]⟩
   ·obtain⟨h1,v',ov,h2⟩:=ho O' hO'
    obtain⟨h3,h4⟩:=(hkp.trans (Dk (o:=.ob v (vz O offs)) hf)) O' h1
    exact⟨h3,v',ov,by rw [←h2];exact h4⟩
  ·cases h
 |.st t offs::J,V,obs,k,h,ho=>by
  simp only [Nx] at h
  split at h
  ·rename_i us hus
   intro v
   refine IB offs V us _ _ hus (fun V' hu hkp=>?_)
   refine Bg J _ obs k (by show Nx J V'.us obs=true;rw [hu];exact h) (fun O' hO'=>?_)
   obtain⟨h1,v',ov,h2⟩:=ho O' hO'
   obtain⟨h3,h4⟩:=hkp O' h1
   exact⟨h3,v',ov,by rw [←h2];exact h4⟩
  ·cases h
section
variable {prog:Map bk} {nt:Nat}
theorem Da {A:ee} {V:cg} {st:St} (hR:R A V st) {O:Nat} {o:VO} {a:AV} (hA:A O=some a) (hO:OR A st.H o a) (hid:∀id,gM a=some id->¬gR V A id) (hpl:o.pl=true:=by rfl) :
  R A (ey V O o) st/\∀id,gR (ey V O o) A id->gR V A id\/gM a=some id:=by
 refine⟨⟨hR.env,fun O' o' ho=>?_,fun O1 O2 o1 o2 a1 a2 id ho1 ho2 ha1 ha2 hi1 hi2=>?_,hR.used,hR.one,hR.fresh,fun O' o' x ho hx=>?_⟩,fun id ⟨O',o',x,ho,hx,hi⟩=>?_⟩
 ·simp only [ey,Map.bt] at ho
  split at ho
  ·rename_i e;subst e;cases ho;exact⟨a,hA,hO⟩
  ·exact hR.heap O' o' ho
 ·simp only [ey,Map.bt] at ho1 ho2
  by_cases e1:O1=O
  ·by_cases e2:O2=O
   ·rw [e1,e2]
   ·subst e1
    rw [if_neg e2] at ho2
    rw [if_pos rfl] at ho1;cases ho1
    rw [hA] at ha1;cases ha1
    exact absurd ⟨O2,_,a2,ho2,ha2,hi2⟩ (hid id ((jh hpl).1 hi1))
  ·rw [if_neg e1] at ho1
   by_cases e2:O2=O
   ·subst e2
    rw [if_pos rfl] at ho2;cases ho2
    rw [hA] at ha2;cases ha2
    exact absurd ⟨O1,_,a1,ho1,ha1,hi1⟩ (hid id ((jh hpl).1 hi2))
   ·rw [if_neg e2] at ho2
    exact hR.inj O1 O2 _ _ a1 a2 id ho1 ho2 ha1 ha2 hi1 hi2
 ·simp only [ey,Map.bt] at ho
  split at ho
  ·rename_i e;subst e;cases ho;exact EG hpl
  ·exact hR.lZ O' o' x ho hx
 ·simp only [ey,Map.bt] at ho
  by_cases e:O'=O
  ·subst e;rw [if_pos rfl] at ho;cases ho;rw [hA] at hx;cases hx;exact .inr ((jh hpl).1 hi)
  ·rw [if_neg e] at ho;exact .inl ⟨O',o',x,ho,hx,hi⟩
structure IE (V2:cg) (A2:ee) (st2:St) (Vr:cg) (A:ee) (st:St):Prop where
 old:R A2 V2 st2
 new:R A Vr st
 H:st.H=st2.H
 nx:st.nx=st2.nx
 apart:∀id,gR V2 A2 id->¬gR Vr A id
theorem BB {V2 Vr:cg} {A2 A:ee} {st2 st:St} (h:IE V2 A2 st2 Vr A st) {sz:Nat} {w:VV} {x:AV} (hw:HC A2 w x) {k:List TV->cg->Prop} (hk:tu V2 sz w k) :
  ∃es V',k es V'/\Sub V2 V'/\(nq sz=true->∃inn,Told st.H sz es x inn fun id=>gR V2 A2 id/\¬gR V' A2 id)/\x.one=true:=by
 obtain⟨es,V',h1,_,h2,h3,h4,h5⟩:=AJ (Vc:=V0) (A0:=fun _=>none) (st:=st2) ⟨h.old,h.old.zero,fun id _ ⟨O,o,a,ho,_⟩=>(by cases ho)⟩ hw hk
 exact⟨es,V',h1,h2,by rw [h.H];exact h3,h4⟩
theorem BC {Rt:Type} {d:Nat} {st2 st:St} {ovs:List (Nat×VV)} {cs:List AV} {A2:ee} (hsl:∀j w,fc j ovs=some w->∃x,cs[j]?=some x/\HC A2 w x):∀(offs:List (Nat×Nat)) (V2 Vr:cg) (A:ee) (us:Map Unit) (kc:cg->Rt) (k:Rt->cg->Prop),
  (∀p∈offs,nq p.2=true)->IE V2 A2 st2 Vr A st->Lb d offs Vr.us=some us->vl V2 ovs offs (QB d offs Vr kc) k->
  ∃V2' Vr' A',k (kc Vr') V2'/\IE V2' A2 st2 Vr' A' st/\Sub V2 V2'/\Vr'.us=us/\(∀O x,A O=some x->A' O=some x)/\(∀id,gR Vr' A' id->gR Vr A id\/gR V2 A2 id)/\(∀j,j9 j offs=true->∃x,cs[j]?=some x/\A' (Bz d j)=some x)/\
   (∀n x,A' n=some x->A n=some x\/Vr.us.get n.base=none)/\wh Vr Vr'
 |[],V2,Vr,A,us,kc,k,hz,h,hus,hk=>by
  cases hus
  exact⟨V2,Vr,A,hk,h,Sub.refl V2,rfl,fun _ _ h=>h,fun id h=>.inl h,fun j hj=>(by cases hj),fun _ _ h=>.inl h,wh.refl Vr⟩
 |(off,sz)::offs,V2,Vr,A,us,kc,k,hz,h,hus,hk=>by
  simp only [Lb,cond_eq_ite] at hus
  split at hus
  rotate_left
  ·cases hus
  rename_i hf
  simp only [vl] at hk
  split at hk
  rotate_left
  ·cases hk
  rename_i w hw
  obtain⟨x,hx,hs⟩:=hsl off w hw
  obtain⟨es,V1,hk1,hs1,hsl1,hone⟩:=BB h hs hk
  obtain⟨inn,hT⟩:=hsl1 (hz (off,sz) List.mem_cons_self)
  obtain⟨Vr1,A1,hV1,hR1,hA1,hAo,henv,hown,_,hback,hnew⟩:=xg (k:=fun V'=>V'=sr Vr (Bz d off) (wq (Bz d off) sz es)) h.new (z9 hf rfl) hT hone (fun id hi=>h.apart id hi.1)
  subst hV1
  have hb:IE V1 A2 st2 (sr Vr (Bz d off) (wq (Bz d off) sz es)) A1 st:=⟨hs1.r h.old,hR1,h.H,h.nx,fun id ho hc=>(hown id hc).elim (fun hc=>h.apart id (hs1.own ho) hc) (fun hi=>hi.2 ho)⟩
  obtain⟨V2',Vr',A',g1,g2,g3,g4,g5,g6,g7,g8,g9⟩:=BC hsl offs V1 _ A1 us kc k (fun p hp=>hz p (List.mem_cons_of_mem _ hp)) hb hus hk1
  have hev:wh Vr (sr Vr (Bz d off) (wq (Bz d off) sz es)):=wh.name (Bb hf)
  refine⟨V2',Vr',A',g1,g2,hs1.trans g3,g4,fun O y hy=>g5 _ _ (hA1 _ _ hy),fun id ho=>?_,fun j hj=>?_,fun n x hx=>(g8 n x hx).elim (fun h=>hnew n x h) (fun h=>.inr (hev.us _ h)),hev.trans g9⟩
  ·rcases g6 id ho with ho|ho
   ·rcases hown id ho with ho|hi
    ·exact .inl ho
    ·exact .inr hi.1
   ·exact .inr (hs1.own ho)
  ·simp only [j9,Bool.or_eq_true,Nat.beq_eq] at hj
   rcases hj with rfl|hj
   ·exact⟨x,hx,g5 _ _ hAo⟩
   ·exact g7 j hj
theorem Cm {d j:Nat}:∀{l:List (Nat×Nat)},fc j (D8 d l)=if j9 j l=true then some (.sl (Bz d j)) else none
 |[]=>by simp [D8,fc,j9]
 |(i,z)::l=>by
  simp only [D8,ei,Cm (l:=l),j9,Bool.or_eq_true,Nat.beq_eq]
  by_cases e:i=j
  ·subst e;simp
  ·rw [if_neg e]
   by_cases hk:j9 j l=true
   ·rw [if_pos hk,if_pos (.inr hk)]
   ·rw [if_neg hk,if_neg]
    rintro(h|h)
    ·exact e h.symm
    ·exact hk h
theorem Mn {A:ee} {V:cg} {st:St} (hR:R A V st) {n:Nat} {k:VV->Prop} (h:lM V none (.t n) k):∃e a,V.env.get n=some e/\st.env.get n=some a/\VR A e.v a/\k e.v:=by
 simp only [lM] at h
 split at h
 ·cases h
 rename_i e he
 obtain⟨a,ha,hv⟩:=hR.env n e he
 split at h
 ·rename_i hg
  exact⟨e,a,he,ha,hv (fun c bb hh=>by rw [hg] at hh;cases hh),h⟩
 ·cases h
theorem MG {d:Nat} {offs:List (Nat×Nat)} {ks:List PK} {w:VV} {ws:List VV} {ims:List VG} (h:iy d (.ob offs::ks) (w::ws)=some ims):∃O l,w=.ptr O 0/\iy d ks ws=some l/\ims=.ob O d::.pt::l:=by
 cases w with
 |ptr O off=>
  cases off with
  |zero=>
   simp only [iy] at h
   split at h
   ·rename_i l hl;cases h;exact⟨O,l,rfl,hl,rfl⟩
   ·cases h
  |succ n=>simp [iy] at h
 |_=>simp [iy] at h
theorem MF {d sz:Nat} {ks:List PK} {w:VV} {ws:List VV} {ims:List VG} (h:iy d (.sl sz::ks) (w::ws)=some ims):∃O l,w=.sl O/\iy d ks ws=some l/\ims=.sl O::l:=by
 cases w with
 |sl O=>
  simp only [iy] at h
  split at h
  ·rename_i l hl;cases h;exact⟨O,l,rfl,hl,rfl⟩
  ·cases h
 |_=>simp [iy] at h
theorem Ih {V:cg} {t:Nat} {w:VV}:wh V (sk V t w):=wh.VM rfl (fun _ _ h=>h)
theorem Er {np d:Nat} {rk:RK} {k:cg->Prop} {v:AV} {st2 st:St}:∀(ks:List PK) (i:Nat) (ws:List VV) (as:List AV) (ims:List VG) (V2 Vr:cg) (A2 A:ee),iy d ks ws=some ims->(iq np rk ks i).all Am=true->Px nt (iq np rk ks i) ims Vr.us=true->
  IE V2 A2 st2 Vr A st->(∀(j:Nat) w a,ws[j]?=some w->as[j]?=some a->VR A w a)->ws.length=as.length->(∀(j:Nat) a,as[j]?=some a->st2.env.get (i+j)=some a)->st2.env.get np=some v->st.env.get d=some v->
  E8 (iq np rk ks i) V2 (FU (iq np rk ks i) ims Vr k)->∃Vr' A',k Vr'/\R A' Vr' st/\(∀O x,A O=some x->A' O=some x)/\(∀id,gR Vr' A' id->gR Vr A id\/gR V2 A2 id)/\Nat.blt d nt=true/\(∀n x,A' n=some x->A n=some x\/Vr.us.get n.base=none)/\wh Vr Vr'
 |[],i,ws,as,ims,V2,Vr,A2,A,him,hp,hok,h,hw,hl,has,hnp,hd,hk=>by
  cases ws with
  |cons _ _=>cases him
  |nil=>
   cases him
   cases rk with
   |tr=>
    have hk0:ta V2 none (.t np) (fun v=>k (sk Vr d (.tr v))):=hk
    have hok0:(Nat.blt d nt&&true)=true:=hok
    rw [Bool.and_true] at hok0
    clear hk hok
    obtain⟨u,a,ha,hc,hk1⟩:=Ml h.old hk0
    rw [hnp] at ha;cases ha
    exact⟨_,A,hk1,wj h.new hd (.tr hc),fun _ _ h=>h,fun id ho=>.inl ho,hok0,fun _ _ h=>.inl h,Ih⟩
   |sl sz=>
    have hz:nq sz=true:=by simp only [iq,Uf,List.all_cons,Bool.and_eq_true] at hp;exact hp.1
    have hk0:lM V2 none (.t np) (fun w=>tu V2 sz w fun es V'=>k (sk (sr Vr d (wq d sz es)) d (.sl d))):=hk
    have hok0:(Nat.blt d nt&&(Ai Vr.us d&&true))=true:=hok
    rw [Bool.and_true,Bool.and_eq_true] at hok0
    clear hk hok
    obtain⟨e,a,he,ha,hv,hk⟩:=Mn h.old hk0
    rw [hnp] at ha;cases ha
    have hsl:HC A2 e.v v:=by
     have hne:=hk
     unfold tu at hne
     generalize e.v=w at hv hne
     cases hv<;>first|(cases hne;done)|skip
     ·exact .inl rfl
     ·exact .inr rfl
     ·assumption
    obtain⟨es,V1,hk1,hs1,hsl1,hone⟩:=BB h hsl hk
    obtain⟨hlt,hf⟩:=hok0
    obtain⟨inn,hT⟩:=hsl1 hz
    obtain⟨Vr1,A1,hV1,hR1,hA1,hAo,henv,hown,_,hback,hnew⟩:=xg (k:=fun V'=>V'=sr Vr d (wq d sz es)) h.new (z9 hf rfl) hT hone (fun id hi=>h.apart id hi.1)
    subst hV1
    exact⟨_,A1,hk1,wj hR1 hd (.sl hAo),hA1,fun id ho=>(hown id ho).imp (fun h=>h) (fun hi=>hi.1),hlt,hnew,(wh.name (Bb hf)).trans Ih⟩
   |st offs=>
    have hz:∀p∈offs,nq p.2=true:=by
     simp only [iq,Uf,List.all_cons,Bool.and_eq_true] at hp
     exact fun p hm=>List.all_eq_true.1 hp.1 p hm
    have hk0:lM V2 none (.t np) (fun w=>match w with
     |.st v ovs=>(match Aa ovs offs with
      |true=>vl (R:=Prop) V2 ovs offs (QB (R:=Prop) (Bt d) offs Vr fun V'=>k (sk V' d (.st v (D8 (Bt d) offs)))) fun I V'=>I
      |false=>False)
     |_=>False):=hk
    have hok0:(Nat.blt d nt&&(match Lb (Bt d) offs Vr.us with
     |some us=>true
     |none=>false))=true:=by
     have h0:(Nat.blt d nt&&(match Lb (Bt d) offs Vr.us with
      |some us=>Px nt [] [] us
      |none=>false))=true:=hok
     rw [Bool.and_eq_true] at h0 ⊢
     refine⟨h0.1,?_⟩
     have h1:=h0.2
     split at h1
     ·rfl
     ·cases h1
    rw [Bool.and_eq_true] at hok0
    clear hk hok
    obtain⟨e,a,he,ha,hv,hk⟩:=Mn h.old hk0
    rw [hnp] at ha;cases ha
    obtain⟨hlt,hus⟩:=hok0
    split at hus
    rotate_left
    ·cases hus
    rename_i us hus2
    generalize e.v=w at hv hk
    cases hv<;>first|(cases hk;done)|skip
    rename_i v ovs cs ts hts hc
    simp only at hk
    split at hk
    rotate_left
    ·cases hk
    rename_i hkeys
    have hsl:∀j w,fc j ovs=some w->∃x,cs[j]?=some x/\HC A2 w x:=fun j w hj=>by
     have hlt:=hc.keys j w hj
     have hx:cs[j]?=some (cs[j]'(by rw [←hc.len];exact hlt)):=List.getElem?_eq_getElem _
     have:=hc.at_ j _ _ (List.getElem?_eq_getElem hlt) hx
     rw [hj] at this
     exact⟨_,hx,this⟩
    obtain⟨V2',Vr',A',g1,g2,g3,g4,g5,g6,g7,g8,g9⟩:=BC (Rt:=Prop) (d:=Bt d) hsl offs V2 Vr A us _ _ hz h hus2 hk
    have hcr:en A' v (D8 (Bt d) offs) cs ts:=by
     refine⟨hc.cells,hc.len,fun j w hj=>?_,fun j t' x ht hx=>?_⟩
     ·rw [Cm] at hj
      split at hj
      ·rename_i hh
       obtain⟨x,hx,_⟩:=g7 j hh
       rw [hc.len];exact(List.getElem?_eq_some_iff.1 hx).1
      ·cases hj
     ·rw [Cm]
      by_cases hh:j9 j offs=true
      ·rw [if_pos hh]
       obtain⟨x',hx',hA'⟩:=g7 j hh
       rw [hx] at hx';cases hx'
       exact hA'
      ·rw [if_neg hh]
       have:=hc.at_ j t' x ht hx
       cases ho:fc j ovs with
       |none=>rw [ho] at this;exact this
       |some w=>exact absurd (tf hkeys j w ho) hh
    exact⟨_,A',g1,wj g2.new hd (.st hts hcr),g5,g6,hlt,g8,g9.trans Ih⟩
 |.tr::ks,i,ws,as,ims,V2,Vr,A2,A,him,hp,hok,h,hw,hl,has,hnp,hd,hk=>by
  cases ws with
  |nil=>simp [iy] at him
  |cons w ws=>
   cases as with
   |nil=>cases hl
   |cons a as=>
    have him':iy d ks ws=some ims:=by simpa only [iy] using him
    simp only [iq] at hp hok hk
    exact Er ks (i+1) ws as ims V2 Vr A2 A him' hp hok h (fun j w' a' h1 h2=>hw (j+1) w' a' (by simpa using h1) (by simpa using h2)) (Nat.succ.inj hl) (fun j a' h1=>by have:=has (j+1) a' (by simpa using h1);rwa [show i+(j+1)=i+1+j by omega] at this) hnp hd hk
 |.ob offs::ks,i,ws,as,ims,V2,Vr,A2,A,him,hp,hok,h,hw,hl,has,hnp,hd,hk=>by
  cases ws with
  |nil=>simp [iy] at him
  |cons w ws=>
   cases as with
   |nil=>cases hl
   |cons a as=>
    obtain⟨O,l,rfl,hims,rfl⟩:=MG him
    ·simp only [iq,List.all_cons,Bool.and_eq_true] at hp
     have hz:∀p∈offs,nq p.2=true:=fun p hm=>List.all_eq_true.1 hp.1 p hm
     simp only [iq,Px] at hok
     split at hok
     rotate_left
     ·cases hok
     rename_i us hus
     have hwa:=hw 0 _ a rfl rfl
     cases hwa with
     |@ptr _ _ id hAO=>
     simp only [iq,E8] at hk
     split at hk
     rotate_left
     ·cases hk
     rename_i v2 ovs hO2
     split at hk
     rotate_left
     ·cases hk
     rename_i hkeys
     obtain⟨y,hy,id2,cs,ts,rfl,hH,hc⟩:=h.old.heap i _ hO2
     have hsl:∀j w,fc j ovs=some w->∃x,cs[j]?=some x/\HC A2 w x:=fun j w hj=>by
      have hlt:=hc.keys j w hj
      have hx:cs[j]?=some (cs[j]'(by rw [←hc.len];exact hlt)):=List.getElem?_eq_getElem _
      have:=hc.at_ j _ _ (List.getElem?_eq_getElem hlt) hx
      rw [hj] at this
      exact⟨_,hx,this⟩
     have hgone:=jr h.old hO2 hy (id:=id2) (.inl rfl)
     have hownO:gR V2 A2 id2:=⟨i,_,_,hO2,hy,.inl rfl⟩
     have hb1:IE (fq V2 i) A2 st2 Vr A st:=⟨(fk V2 i).r h.old,h.new,h.H,h.nx,fun id' ho=>h.apart id' ((fk V2 i).own ho),⟩
     obtain⟨V2',Vr',A',g1,g2,g3,g4,g5,g6,g7,g8,g9⟩:=BC hsl offs (fq V2 i) Vr A us _ _ hz hb1 hus hk
     have hk3:lM V2' none (.t i) fun w=>match w with
      |.ptr O' off'=>same O' i (same off' 0 (E8 (iq np rk ks (i+1)) V2' (FU (iq np rk ks (i+1)) l (ey Vr' O (.ob v2 (D8 d offs))) k)))
      |_=>False:=g1
     obtain⟨e,a',he,ha',hv',hk3⟩:=Mn g2.old hk3
     have ha0:=has 0 _ rfl
     rw [Nat.add_zero,ha'] at ha0
     cases ha0
     generalize e.v=w' at hv' hk3
     cases w'<;>first|(cases hk3;done)|skip
     rename_i O' off'
     have hOi:=(eC hk3).1
     have hoff:=(eC (eC hk3).2).1
     have hk4:=(eC (eC hk3).2).2
     clear hk3
     have hOi:=hOi.symm
     subst hOi
     subst hoff
     cases hv' with
     |ptr hO'=>
     rw [hy] at hO';cases hO'
     have hAO':=g5 _ _ hAO
     have hor:OR A' st.H (.ob v2 (D8 d offs)) (.ptr id 0 0):=by
      refine⟨id,cs,ts,rfl,by rw [h.H];exact hH,⟨hc.cells,hc.len,fun j w hj=>?_,fun j t x ht hx=>?_⟩⟩
      ·rw [Cm] at hj
       split at hj
       ·rename_i hh
        obtain⟨x,hx,_⟩:=g7 j hh
        rw [hc.len];exact(List.getElem?_eq_some_iff.1 hx).1
       ·cases hj
      ·rw [Cm]
       by_cases hh:j9 j offs=true
       ·rw [if_pos hh]
        obtain⟨x',hx',hA'⟩:=g7 j hh
        rw [hx] at hx';cases hx'
        exact hA'
       ·rw [if_neg hh]
        have:=hc.at_ j t x ht hx
        cases ho:fc j ovs with
        |none=>rw [ho] at this;exact this
        |some w=>exact absurd (tf hkeys j w ho) hh
     obtain⟨p1,p2⟩:=Da g2.new hAO' hor (fun id' hi ho=>by
      cases hi
      rcases g6 _ ho with ho|ho
      ·exact h.apart _ hownO ho
      ·exact hgone ho)
     have hb2:IE V2' A2 st2 (ey Vr' O (.ob v2 (D8 d offs))) A' st:=⟨g2.old,p1,h.H,h.nx,fun id' ho hc'=>(p2 id' hc').elim (fun hc'=>g2.apart id' ho hc') (fun hi=>by cases hi;exact hgone (g3.own ho))⟩
     obtain⟨Vr2,A3,q1,q2,q3,q4,q5,q6,q7⟩:=Er ks (i+1) ws as l V2' _ A2 A' hims hp.2.2 (by rw [show (ey Vr' O (VO.ob v2 (D8 d offs))).us=us from g4];exact hok) hb2
      (fun j w' a' h1 h2=>(hw (j+1) w' a' (by simpa using h1) (by simpa using h2)).mono g5) (Nat.succ.inj hl) (fun j a' h1=>by have:=has (j+1) a' (by simpa using h1);rwa [show i+(j+1)=i+1+j by omega] at this) hnp hd hk4
     refine⟨Vr2,A3,q1,q2,fun O x hx=>q3 _ _ (g5 _ _ hx),fun id' ho=>?_,q5,fun n x hx=>(q6 n x hx).elim (fun h=>g8 n x h) (fun h=>.inr (g9.us _ h)),(g9.trans (wh.set rfl)).trans q7⟩
     rcases q4 id' ho with ho|ho
     ·rcases p2 id' ho with ho|hi
      ·exact(g6 id' ho).imp (fun h=>h) (fk V2 i).own
      ·cases hi;exact .inr hownO
     ·exact .inr ((fk V2 i).own (g3.own ho))
 |.sl sz::ks,i,ws,as,ims,V2,Vr,A2,A,him,hp,hok,h,hw,hl,has,hnp,hd,hk=>by
  cases ws with
  |nil=>simp [iy] at him
  |cons w ws=>
   cases as with
   |nil=>cases hl
   |cons a as=>
    obtain⟨O,l,rfl,hims,rfl⟩:=MF him
    simp only [iq,List.all_cons,Bool.and_eq_true] at hp
    have hz:nq sz=true:=hp.1
    simp only [iq,Px,Bool.and_eq_true] at hok
    obtain⟨hlt,hok⟩:=hok
    have hwa:=hw 0 _ a rfl rfl
    cases hwa with
    |@sl _ _ hAO=>
    have hk':lM V2 none (.t i) fun w=>tu V2 sz w fun es V'=>E8 (iq np rk ks (i+1)) V' (FU (iq np rk ks (i+1)) l (ey Vr O (.gr sz es)) k):=hk
    obtain⟨e,a',he,ha',hv',hk'⟩:=Mn h.old hk'
    have ha0:=has 0 _ rfl
    rw [Nat.add_zero,ha'] at ha0
    cases ha0
    have hsl:HC A2 e.v a:=by
     have hne:=hk'
     unfold tu at hne
     generalize e.v=w at hv' hne
     cases hv'<;>first|(cases hne;done)|skip
     ·exact .inl rfl
     ·exact .inr rfl
     ·assumption
    obtain⟨es,V1,hk1,hs1,hsl1,hone⟩:=BB h hsl hk'
    obtain⟨inn,hT⟩:=hsl1 hz
    have hTO:Eg st.H sz es a/\∀id,gM a=some id->gR V2 A2 id/\¬gR V1 A2 id:=by
     obtain⟨q1,_,q3⟩:=hT.2 (fun n=>match n with|.s _=>none|.i _ v j=>if v=0 then inn j else none) 0 (fun j=>if_pos rfl) (fun v j hv=>if_neg (by omega))
     unfold wq at q1 q3
     rw [hlt] at q1 q3
     exact⟨q1,fun id hi=>q3 id (.inl hi)⟩
    have hid:=hTO.2
    obtain⟨p1,p2⟩:=Da h.new (o:=.gr sz es) hAO hTO.1 (fun id hi=>h.apart id (hid id hi).1)
    have hb:IE V1 A2 st2 (ey Vr O (.gr sz es)) A st:=⟨hs1.r h.old,p1,h.H,h.nx,fun id ho hc=>(p2 id hc).elim (fun hc=>h.apart id (hs1.own ho) hc) (fun hi=>(hid id hi).2 ho)⟩
    obtain⟨Vr2,A3,q1,q2,q3,q4,q5,q6,q7⟩:=Er ks (i+1) ws as l V1 (ey Vr O (.gr sz es)) A2 A hims hp.2 hok hb
     (fun j w' a' h1 h2=>hw (j+1) w' a' (by simpa using h1) (by simpa using h2)) (Nat.succ.inj hl) (fun j a' h1=>by have:=has (j+1) a' (by simpa using h1);rwa [show i+(j+1)=i+1+j by omega] at this) hnp hd hk1
    refine⟨Vr2,A3,q1,q2,q3,fun id ho=>?_,q5,q6,(wh.set rfl).trans q7⟩
    rcases q4 id ho with ho|ho
    ·exact(p2 id ho).imp (fun h=>h) (fun hi=>(hid id hi).1)
    ·exact .inr (hs1.own ho)
theorem E0 {A:ee} {V:cg} {st:St} (hR:R A V st):∀(xs:List ct) (k:List VV->Prop),RV V xs k->∃ws,ws.length=(xs.map (ev st.env)).length/\(∀(j:Nat) w a,ws[j]?=some w->(xs.map (ev st.env))[j]?=some a->VR A w a)/\k ws
 |[],k,h=>⟨[],rfl,fun j w a hw=>by simp at hw,h⟩
 |x::xs,k,h=>by
  obtain⟨w,hw,h⟩:=gj (g:=none) hR trivial h
  obtain⟨ws,h1,h2,h3⟩:=E0 hR xs _ h
  refine⟨w::ws,by simpa using h1,fun j w' a hj ha=>?_,h3⟩
  cases j with
  |zero=>simp at hj ha;subst hj;subst ha;exact hw
  |succ j=>exact h2 j w' a (by simpa using hj) (by simpa using ha)
theorem CD {d:Nat}:∀(ks:List PK) (ws:List VV) (ims:List VG),iy d ks ws=some ims->ks.length=ws.length
 |[],[],ims,h=>rfl
 |[],_::_,ims,h=>by simp [iy] at h
 |k::ks,[],ims,h=>by cases k<;>simp [iy] at h
 |.tr::ks,w::ws,ims,h=>by
  have h':iy d ks ws=some ims:=by simpa only [iy] using h
  simp [CD ks ws ims h']
 |.ob offs::ks,w::ws,ims,h=>by
  obtain⟨O,l,_,h',_⟩:=MG h
  simp [CD ks ws l h']
 |.sl sz::ks,w::ws,ims,h=>by
  obtain⟨O,l,_,h',_⟩:=MF h
  simp [CD ks ws l h']
theorem A5:∀(as:List AV) (i:Nat) (e:Env) (j:Nat),(je as i e).get j=if i<=j/\j < i+as.length then as[j - i]? else e.get j
 |[],i,e,j=>by simp only [je,List.length_nil];rw [if_neg (by omega)]
 |a::as,i,e,j=>by
  simp only [je,A5 as (i+1),Map.bt,List.length_cons]
  by_cases h:i+1<=j/\j < i+1+as.length
  ·rw [if_pos h,if_pos (by omega),show j - i=(j - (i+1))+1 by omega,List.getElem?_cons_succ]
  ·rw [if_neg h]
   by_cases e1:j=i
   ·subst e1;rw [if_pos rfl,if_pos (by omega)];simp
   ·rw [if_neg e1,if_neg (by omega)]
theorem Hq:∀(ws:List VV) (i:Nat) (e:Map VE) (j:Nat),(D1 ws i e).get j=if i<=j/\j < i+ws.length then ws[j - i]?.map (fun w=>⟨none,w⟩) else e.get j
 |[],i,e,j=>by simp only [D1,List.length_nil];rw [if_neg (by omega)]
 |w::ws,i,e,j=>by
  simp only [D1,Hq ws (i+1),Map.bt,List.length_cons]
  by_cases h:i+1<=j/\j < i+1+ws.length
  ·rw [if_pos h,if_pos (by omega),show j - i=(j - (i+1))+1 by omega,List.getElem?_cons_succ]
  ·rw [if_neg h]
   by_cases e1:j=i
   ·subst e1;rw [if_pos rfl,if_pos (by omega)];simp
   ·rw [if_neg e1,if_neg (by omega)]
theorem Yw {A:ee} {V:cg} {st:St} (hR:R A V st) {ws:List VV} {as:List AV} (hl:ws.length=as.length) (hw:∀(j:Nat) w a,ws[j]?=some w->as[j]?=some a->VR A w a) :
  R A {V with env:=D1 ws 0 .leaf} ⟨je as 0 .leaf,st.H,st.nx⟩:=by
 refine⟨fun t e he=>?_,hR.heap,hR.inj,hR.used,hR.one,hR.fresh,hR.lZ⟩
 have he':(D1 ws 0 .leaf).get t=some e:=he
 rw [Hq] at he'
 split at he'
 ·rename_i ht
  rw [Nat.sub_zero] at he'
  have hlt:t < ws.length:=by omega
  rw [List.getElem?_eq_getElem hlt] at he'
  cases he'
  have ha:as[t]?=some (as[t]'(by omega)):=List.getElem?_eq_getElem _
  refine⟨as[t]'(by omega),?_,fun _=>hw t _ _ (List.getElem?_eq_getElem hlt) ha⟩
  show (je as 0 .leaf).get t=_
  rw [A5,if_pos (by omega),Nat.sub_zero,ha]
 ·cases he'
theorem Ng {V:cg} {e:Map VE} {sz:Nat} {w:VV} {k k':List TV->cg->Prop} (hk:∀es V',V'.env=V.env->k es V'->k' es {V' with env:=e}) (h:tu V sz w k):tu {V with env:=e} sz w k':=by
 cases w<;>first|(cases h;done)|skip
 ·exact hk [] V rfl h
 ·rename_i O
  have gen:∀x:Option VO,(match x with
    |some (.gr z es)=>(match Nat.blt z Qg with
     |true=>same z sz (k es (fq V O))
     |false=>False)
    |some (.gn _ s io iz _ none es)=>(match NG sz s io iz with
     |true=>k es (fq V O)
     |false=>False)
    |_=>False)->(match x with
    |some (.gr z es)=>(match Nat.blt z Qg with
     |true=>same z sz (k' es (fq {V with env:=e} O))
     |false=>False)
    |some (.gn _ s io iz _ none es)=>(match NG sz s io iz with
     |true=>k' es (fq {V with env:=e} O)
     |false=>False)
    |_=>False):=by
   intro x hx
   split at hx
   ·rename_i z es
    cases hb:Nat.blt z Qg with
    |false=>rw [hb] at hx;cases hx
    |true=>
     rw [hb] at hx
     obtain⟨rfl,hx2⟩:=eC hx
     show same z z _
     unfold same
     rw [cond_eq_ite,if_pos (by simp)]
     exact hk es (fq V O) rfl hx2
   ·rename_i s io iz ver es
    cases hb:NG sz s io iz with
    |false=>rw [hb] at hx;cases hx
    |true=>
     rw [hb] at hx
     exact hk es (fq V O) rfl hx
   ·cases hx
  exact gen (V.H.get O) h
theorem Eo {st stc:St} (hH:stc.H=st.H) (hnx:stc.nx=st.nx):∀(ks:List PK) (i:Nat) (ws:List VV) (as:List AV) (V Vc:cg) (A A0:ee) (I:JT (wg ks i) Prop) (k:cg->Prop),(wg ks i).all Am=true->R A V st->R A0 Vc stc->(∀id,gR V A id->¬gR Vc A0 id)->
  (∀(j:Nat) w a,ws[j]?=some w->as[j]?=some a->VR A w a)->ws.length=as.length->(∀(j:Nat) a,as[j]?=some a->stc.env.get (i+j)=some a)->Oh ks i ws V I->BY (wg ks i) Vc I k->
  ∃Vc' A',k Vc'/\R A' Vc' stc/\(∀id,gR Vc' A' id->gR Vc A0 id\/gR V A id)/\(∀id,gR (qb ks ws V) A id->¬gR Vc' A' id)/\Sub V (qb ks ws V)
 |[],i,ws,as,V,Vc,A,A0,I,k,hp,hR,hRc,hap,hw,hl,has,hk,hkc=>by
  cases ws with
  |nil=>exact⟨Vc,A0,hkc hk,hRc,fun id h=>.inl h,hap,Sub.refl V⟩
  |cons w ws=>cases hk
 |.tr::ks,i,ws,as,V,Vc,A,A0,I,k,hp,hR,hRc,hap,hw,hl,has,hk,hkc=>by
  cases ws with
  |nil=>cases hk
  |cons w ws=>
   cases as with
   |nil=>cases hl
   |cons a as=>
    simp only [wg,List.all_cons,Bool.and_eq_true] at hp
    simp only [Oh] at hk
    obtain⟨v,hc,hk⟩:=Ma (hw 0 w a rfl rfl) hk
    obtain⟨Vc',A',g1,g2,g3,g4,g5⟩:=Eo hH hnx ks (i+1) ws as V (sk Vc i (.tr v)) A A0 (I v) k hp.2 hR (wj hRc (has 0 a rfl) (.tr hc)) hap (fun j w' a' h1 h2=>hw (j+1) w' a' (by simpa using h1) (by simpa using h2)) (Nat.succ.inj hl)
     (fun j a' h1=>by have:=has (j+1) a' (by simpa using h1);rwa [show i+(j+1)=i+1+j by omega] at this) hk (hkc v)
    exact⟨Vc',A',g1,g2,g3,g4,g5⟩
 |.ob offs::ks,i,ws,as,V,Vc,A,A0,I,k,hp,hR,hRc,hap,hw,hl,has,hk,hkc=>by
  cases ws with
  |nil=>cases hk
  |cons w ws=>
   cases as with
   |nil=>cases hl
   |cons a as=>
    simp only [wg,List.all_cons,Bool.and_eq_true] at hp
    have hz:∀p∈offs,nq p.2=true:=fun p hm=>List.all_eq_true.1 hp.1 p hm
    cases w<;>first|(cases hk;done)|skip
    rename_i O off
    cases off with
    |succ n=>cases hk
    |zero=>
    simp only [Oh] at hk
    split at hk
    rotate_left
    ·cases hk
    rename_i v ovs hO
    split at hk
    rotate_left
    ·cases hk
    rename_i hkeys
    have hwa:=hw 0 _ a rfl rfl
    cases hwa with
    |@ptr _ _ id hAO=>
    obtain⟨y,hy,id',cs,ts,rfl,hHc,hc⟩:=hR.heap O _ hO
    rw [hAO] at hy;cases hy
    have hsl:∀j w,fc j ovs=some w->∃x,cs[j]?=some x/\HC A w x:=fun j w hj=>by
     have hlt:=hc.keys j w hj
     have hx:cs[j]?=some (cs[j]'(by rw [←hc.len];exact hlt)):=List.getElem?_eq_getElem _
     have:=hc.at_ j _ _ (List.getElem?_eq_getElem hlt) hx
     rw [hj] at this
     exact⟨_,hx,this⟩
    have hgone:=jr hR hO hAO (id:=id) (.inl rfl)
    have hownO:gR V A id:=⟨O,_,_,hO,hAO,.inl rfl⟩
    have hRe:R A {fq V O with env:=.leaf} stc:=⟨fun t e he=>(by cases he),fun O' o' ho=>by
      obtain⟨x,hx,hor⟩:=hR.heap O' o' (kg ho).2
      exact⟨x,hx,hor.mono (fun _ _ h=>h) (fun _ _=>by rw [hH])⟩,fun O1 O2 o1 o2 a1 a2 id' h1 h2=>hR.inj O1 O2 o1 o2 a1 a2 id' (kg h1).2 (kg h2).2,hR.used,hR.one,hRc.fresh,fun O' o' x ho hx=>hR.lZ O' o' x (kg ho).2 hx⟩
    have h1:M4 {fq V O with env:=.leaf} A Vc A0 stc:=⟨hRe,hRc,fun id' ho=>hap id' ((fk V O).own ho)⟩
    have hk':vl (R:=JT (.pt i i 0::wg ks (i+1)) Prop) {fq V O with env:=.leaf} ovs offs (I v) fun I V'=>Oh ks (i+1) ws {V' with env:=V.env} I:=by
     have gen:∀(offs:List (Nat×Nat)) (V1:cg) (J:JL offs (JT (.pt i i 0::wg ks (i+1)) Prop)),V1.env=V.env->vl V1 ovs offs J (fun I V'=>Oh ks (i+1) ws V' I)->vl {V1 with env:=.leaf} ovs offs J fun I V'=>Oh ks (i+1) ws {V' with env:=V.env} I:=by
      intro offs
      induction offs with
      |nil=>intro V1 J he h;show Oh ks (i+1) ws {V1 with env:=V.env} J;rw [←he];exact h
      |cons p offs ih=>
       obtain⟨off,sz⟩:=p
       intro V1 J he h
       simp only [vl] at h ⊢
       split at h
       ·rename_i w hw
        exact Ng (fun es V' he' h'=>ih V' (J es) (he'.trans he) h') h
       ·cases h
     exact gen offs (fq V O) (I v) rfl hk
    obtain⟨i2,V',Vc',A',g1,g2,g0,g3,g3a,g4,g5,g6,g7,g8⟩:=AK hsl offs {fq V O with env:=.leaf} Vc A0 (I v) _ _ hz h1 hk' (hkc v)
    have hor:∀A3:ee,(∀O x,A' O=some x->A3 O=some x)->OR A3 stc.H (.ob v (vz i offs)) (.ptr id 0 0):=by
     intro A3 hA3
     refine⟨id,cs,ts,rfl,by rw [hH];exact hHc,⟨hc.cells,hc.len,fun j w hj=>?_,fun j t x ht hx=>?_⟩⟩
     ·rw [ue] at hj
      split at hj
      ·rename_i hh
       obtain⟨x,hx,_⟩:=g8 j hh
       rw [hc.len];exact(List.getElem?_eq_some_iff.1 hx).1
      ·cases hj
     ·rw [ue]
      by_cases hh:j9 j offs=true
      ·rw [if_pos hh]
       obtain⟨x',hx',hA'⟩:=g8 j hh
       rw [hx] at hx';cases hx'
       exact hA3 _ _ hA'
      ·rw [if_neg hh]
       have:=hc.at_ j t x ht hx
       cases ho:fc j ovs with
       |none=>rw [ho] at this;exact this
       |some w=>exact absurd (tf hkeys j w ho) hh
    obtain⟨Vc2,A2,p1,p2,p3,p4,p5,p6,p7,p8⟩:=JB g3.new (a:=.ptr id 0 0) g2 hor rfl (fun id' hi ho=>by
     cases hi
     rcases g7 _ ho with ho|ho
     ·exact hap _ hownO ho
     ·exact hgone ho)
    have p1':BY (.pt i i 0::wg ks (i+1)) Vc2 i2 k:=p1
    simp only [BY,p7] at p1'
    have hR':R A {V' with env:=V.env} st:=by
     have hs:Sub V {V' with env:=V.env}:=⟨rfl,g4.us,fun O' o' ho=>(kg (g4.H O' o' ho)).2⟩
     exact hs.r hR
    obtain⟨Vc3,A3,q1,q2,q3,q4,q5⟩:=Eo hH hnx ks (i+1) ws as {V' with env:=V.env} (sk Vc2 i (.ptr i 0)) A A2 i2 k hp.2.2 hR' (wj p2 (has 0 _ rfl) (.ptr p4)) (fun id' ho hc'=>by
      rcases p6 id' hc' with hc'|hi
      ·exact g3.apart id' ho hc'
      ·cases hi;exact hgone (g4.own ho)) (fun j w' a' h1 h2=>hw (j+1) w' a' (by simpa using h1) (by simpa using h2)) (Nat.succ.inj hl)
     (fun j a' h1=>by have:=has (j+1) a' (by simpa using h1);rwa [show i+(j+1)=i+1+j by omega] at this) g1 p1'
    have hrestL:∀(offs:List (Nat×Nat)) (V1:cg),V1.env=V.env->{zw {V1 with env:=.leaf} ovs offs with env:=V.env}=zw V1 ovs offs:=by
     intro offs
     induction offs with
     |nil=>intro V1 he;simp only [zw];rw [←he]
     |cons p offs ih=>
      obtain⟨off,sz⟩:=p
      intro V1 he
      simp only [zw]
      split
      ·rename_i w hw
       cases w<;>first|exact ih V1 he|exact ih (fq V1 _) he
      ·exact ih V1 he
    have hrest:qb (.ob offs::ks) (.ptr O 0::ws) V=qb ks ws {V' with env:=V.env}:=by
     simp only [qb,hO]
     rw [g0,hrestL offs (fq V O) rfl]
    refine⟨Vc3,A3,q1,q2,fun id' ho=>?_,by rw [hrest];exact q4,by rw [hrest];exact(⟨rfl,g4.us,fun O' o' ho=>(kg (g4.H O' o' ho)).2⟩:Sub V {V' with env:=V.env}).trans q5⟩
    rcases q3 id' ho with ho|ho
    ·rcases p6 id' ho with ho|hi
     ·rcases g7 id' ho with ho|ho
      ·exact .inl ho
      ·exact .inr ((fk V O).own ho)
     ·cases hi;exact .inr hownO
    ·exact .inr ((fk V O).own (g4.own ho))
 |.sl sz::ks,i,ws,as,V,Vc,A,A0,I,k,hp,hR,hRc,hap,hw,hl,has,hk,hkc=>by
  cases ws with
  |nil=>cases hk
  |cons w ws=>
   cases as with
   |nil=>cases hl
   |cons a as=>
    simp only [wg,List.all_cons,Bool.and_eq_true] at hp
    have hz:nq sz=true:=hp.1
    cases w<;>first|(cases hk;done)|skip
    rename_i O
    have hwa:=hw 0 _ a rfl rfl
    cases hwa with
    |@sl _ _ hAO=>
    have hk0:tu V sz (.sl O) fun es V'=>Oh ks (i+1) ws V' (I es):=hk
    obtain⟨es,V1,hk,hV1,hs1,hsl1,hone,_⟩:=AJ (Vc:=V0) (A0:=fun _=>none) (st:=st) ⟨hR,hR.zero,fun id _ ⟨O,o,a,ho,_⟩=>(by cases ho)⟩ (w:=.sl O) hAO hk0
    have hV1':V1=fq V O:=hV1
    subst hV1'
    obtain⟨inn,hT⟩:=hsl1 hz
    have hkc1:=hkc es
    obtain⟨Vc1,A1,hkc2,hR1,hA1,hAo,henv,hown,_,hback,_⟩:=xg hRc hkc1 (by rw [hH];exact hT) hone (fun id (hi:gR V A id/\¬gR (fq V O) A id)=>hap id hi.1)
    obtain⟨Vc',A',g1,g2,g3,g4,g5⟩:=Eo hH hnx ks (i+1) ws as (fq V O) (sk Vc1 i (.sl i)) A A1 (I es) k hp.2 (hR.fq O) (wj hR1 (has 0 a rfl) (.sl hAo)) (fun id hoo hc=>(hown id hc).elim (fun hc=>hap id ((fk V O).own hoo) hc) (fun hi=>hi.2 hoo))
     (fun j w' a' h1 h2=>hw (j+1) w' a' (by simpa using h1) (by simpa using h2)) (Nat.succ.inj hl) (fun j a' h1=>by have:=has (j+1) a' (by simpa using h1);rwa [show i+(j+1)=i+1+j by omega] at this) hk hkc2
    refine⟨Vc',A',g1,g2,fun id hoo=>?_,g4,(fk V O).trans g5⟩
    rcases g3 id hoo with hoo|hoo
    ·rcases hown id hoo with hoo|hi
     ·exact .inl hoo
     ·exact .inr hi.1
    ·exact .inr ((fk V O).own hoo)
theorem Mt {sh:Sh} (hsh:vi prog sh) {A:ee} {V:cg} {st:St} (hR:R A V st) {d:Option Nat} {f:Nat} {args:List ct} {k:cg->Prop} (h:Et sh nt V d f args k):gz (fe prog) nt A V st d (.call f args .share) k:=by
 unfold Et at h
 cases d with
 |none=>cases h
 |some d=>
 simp only at h
 split at h
 ·rename_i T hT
  obtain⟨ws,hwl,hw,h⟩:=E0 hR args _ h
  obtain⟨v,H',nx',A',V',w,h1,h2,h3,h4,h5,h6⟩:=hsh.inl f T hT A V st ws _ _ hR hwl hw h
  exact⟨v,H',nx',h1,xe (A1:=A') (V1:=V') h2 h5 h4 (fun _=>h3) h6⟩
 split at h
 ·cases h
 rename_i sg hsg
 obtain⟨ws,hwl,hw,h⟩:=E0 hR args _ h
 split at h
 ·cases h
 rename_i ims him
 split at h
 ·cases h
 rename_i hok
 simp only [Bool.and_eq_true] at hok
 obtain⟨⟨hp1,hp2⟩,hn,hi⟩:=hok
 rw [hsh.vs] at h
 generalize has:args.map (ev st.env)=as at hwl hw
 have hal:=Bg (wg sg.ks 0) V0 [] (L5 prog f sg.ks.length (iq sg.ks.length sg.rk sg.ks 0) (FU (iq sg.ks.length sg.rk sg.ks 0) ims {qb sg.ks ws V with env:=V.env.put none d} k)) hn (fun O hO=>by cases hO)
 have lY:∀id,¬gR V0 (fun _=>none) id:=fun id ⟨O,o,a,ho,_⟩=>by cases ho
 have hRc0:R (fun _=>none) V0 ⟨je as 0 .leaf,st.H,st.nx⟩:=⟨fun t e he=>(by cases he),fun O o ho=>(by cases ho),fun O O' o o' a a' id ho=>(by cases ho),fun _ _=>rfl,fun O a ha=>(by cases ha),hR.fresh,fun O o a ho=>(by cases ho)⟩
 obtain⟨Vc,A1,g1,g2,g3,g4,g5⟩:=Eo (st:=st) (stc:=⟨je as 0 .leaf,st.H,st.nx⟩) rfl rfl sg.ks 0 ws as V V0 A (fun _=>none) _ _ hp1 hR hRc0 (fun id _ hc=>lY id hc) hw hwl (fun j a ha=>by
  show (je as 0 .leaf).get (0+j)=_
  have hjl:=(List.getElem?_eq_some_iff.1 ha).1
  rw [A5,if_pos (by omega)]
  simpa using ha) h hal
 have hlen:as.length=sg.ks.length:=by rw [←hwl,CD _ _ _ him]
 obtain⟨v,H',nx',A2,V2,q1,q2,q3,q4⟩:=g1 A1 as st.H st.nx hlen g2
 have ownV:∀id,gR (qb sg.ks ws V) A id->gR V A id:=fun id ho=>g5.own ho
 have hlt:∀id,gR (qb sg.ks ws V) A id->id < st.nx:=fun id ho=>hR.oR (ownV id ho)
 have hsameH:∀id,gR (qb sg.ks ws V) A id->H'.get id=st.H.get id:=fun id ho=>q4.same id (hlt id ho) (g4 id ho)
 have hRr:R A {qb sg.ks ws V with env:=V.env.put none d} ⟨st.env.put (some v) d,H',nx'⟩:=by
  refine⟨fun t e he=>?_,fun O o ho=>?_,(g5.r hR).inj,fun n hu=>hR.used n (by rw [←hu];exact congrArg (fun m=>Map.get m n.base) g5.us.symm),hR.one,q2.fresh,(g5.r hR).lZ⟩
  ·have he':(V.env.put none d).get t=some e:=he
   rw [Map.bt] at he'
   split at he'
   ·cases he'
   ·rename_i hne
    obtain⟨a,ha,hv⟩:=hR.env t e he'
    exact⟨a,by show (st.env.put (some v) d).get t=_;rw [Map.bt,if_neg hne];exact ha,hv⟩
  ·obtain⟨a,ha,hor⟩:=(g5.r hR).heap O o ho
   exact⟨a,ha,hor.mono (fun _ _ h=>h) (fun id hi=>hsameH id ⟨O,o,a,ho,ha,hi⟩)⟩
 have hb:IE V2 A2 ⟨(je as 0 .leaf).put (some v) sg.ks.length,H',nx'⟩ {qb sg.ks ws V with env:=V.env.put none d} A ⟨st.env.put (some v) d,H',nx'⟩:=
  ⟨q2,hRr,rfl,rfl,fun id ho hc=>by
   rcases q4.own id ho with ho|hle
   ·exact g4 id hc ho
   ·have:=hlt id hc;omega⟩
 obtain⟨Vr',A3,p1,p2,p3,p4,p5,p6,p7⟩:=Er (nt:=nt) (st2:=⟨(je as 0 .leaf).put (some v) sg.ks.length,H',nx'⟩) (st:=⟨st.env.put (some v) d,H',nx'⟩) (v:=v) (d:=d) sg.ks 0 ws as ims V2 _ A2 A him hp2 (by
   have e:({qb sg.ks ws V with env:=V.env.put none d}:cg).us=V.us:=g5.us
   rw [e];exact hi) hb hw hwl (fun j a ha=>by
   show ((je as 0 .leaf).put (some v) sg.ks.length).get (0+j)=_
   have hjl:=(List.getElem?_eq_some_iff.1 ha).1
   rw [Map.bt,if_neg (by omega),A5,if_pos (by omega)]
   simpa using ha) (by show ((je as 0 .leaf).put (some v) sg.ks.length).get _=_;rw [Map.bt,if_pos rfl]) (by show (st.env.put (some v) d).get d=_;rw [Map.bt,if_pos rfl]) q3
 refine⟨v,H',nx',?_,st.env.put (some v) d,by simp only [C9,cond_eq_ite,if_pos p5],Vr',A3,p2,⟨q4.le,fun id hid hno=>q4.same id hid (fun hc=>?_),fun id ho=>?_⟩,⟨p3,fun n x hx=>(p6 n x hx).imp (fun h=>h) (fun h=>.inl (by
  have e:({qb sg.ks ws V with env:=V.env.put none d}:cg).us=V.us:=g5.us
  rw [←e];exact h)),(show wh V {qb sg.ks ws V with env:=V.env.put none d} from wh.VM g5.us g5.H).trans p7⟩,p1⟩
 ·have hk:kind (.call f args .share)=.call f args .share:=rfl
  simp only [q9,hk,h_,has]
  exact q1
 ·rcases g3 id hc with hc|hc
  ·exact lY id hc
  ·exact hno hc
 ·rcases p4 id ho with ho|ho
  ·exact .inl (ownV id ho)
  ·rcases q4.own id ho with ho|hle
   ·rcases g3 id ho with hc|hc
    ·exact absurd hc (lY id)
    ·exact .inl hc
   ·exact .inr hle
end
end Go.Ax.V

namespace Go.Ax.V
section
variable {sh:Sh} {prog:Map bk} {cf:qc} {nt:Nat} {A:ee} {V:cg} {st:St} {d:Option Nat} {g:G} {k:cg->Prop}
theorem JH {sh:Sh} {nt:Nat} {V:cg} {d:Option Nat} {p:TV×Bool} {fz:Bool} {len:Nat} {zero:List AV} {parts:List (Nat×Nat×ct)} {k:cg->Prop} (h:DZ sh nt V d (some p) fz len zero parts k):False:=by
 unfold DZ at h
 split at h<;>cases h
theorem MN (hsh:vi prog sh) (hR:R A V st) (ha:act g) {op:lX} (h:Bl sh prog nt V d g op k):gz (fe prog) nt A V st d op k:=by
 cases op with
 |mv x=>exact o_mv hR ha h
 |pick c a b=>exact TS hR ha h
 |alloc zero=>exact Sa hR h
 |box x=>exact YK hR ha h
 |build zero parts=>
  cases g with
  |none=>exact R_ hR h
  |some p=>exact PB hR ha h
 |sj es len zero parts=>
  cases g with
  |none=>exact PC hR h
  |some p=>cases h
 |de len zero parts=>
  cases g with
  |none=>
   obtain⟨v,H',nx',h1,h2⟩:=Pz (cf:=fe prog) (gd:=none) (fz:=false) hR h
   exact⟨v,H',nx',h1,h2⟩
  |some p=>exact(JH h).elim
 |load sz a=>exact TU hR ha h
 |store sz a x=>
  cases g with
  |none=>
   cases d with
   |none=>exact R5 hR h
   |some d=>cases h
  |some p=>cases h
 |we x=>exact R7 hR ha h
 |bin op x y=>exact YL hR ha h
 |eq t neg x y=>
  cases t with
  |slice=>
   cases g with
   |none=>
    simp only [Bl] at h
    split at h
    ·rename_i hy;exact YI hR hy h
    ·cases h
   |some q=>cases h
  |one l=>exact YJ hR ha h
  |agg l=>exact YJ hR ha h
 |un op x=>exact o_un hR ha h
 |conv c x=>exact TX hR ha h
 |Cx es bytes zero n=>
  cases g with
  |none=>exact TT hR h
  |some p=>exact(og h).2.elim
 |sn x lo hi=>exact R6 hR ha h
 |zb es x lo hi mx=>exact TR hR ha h
 |Br n es x lo hi mx=>cases h
 |uu off x=>exact R9 hR ha h
 |NN off sz x=>exact YG hR ha h
 |jg es x i=>exact R8 hR ha h
 |uo len es x i=>exact TW hR ha h
 |idx x i=>exact YF hR ha h
 |ext i x=>exact YH hR ha h
 |app es bytes s x=>exact YM hR ha h
 |SF es dd s=>cases h
 |SH es zero x=>cases h
 |len str x=>exact YE hR ha h
 |KC mx xs=>exact YD hR ha h
 |Bw=>cases h
 |Bv t zero ok m k=>cases h
 |H8 t m k v=>cases h
 |Gi m=>cases h
 |call f args m=>
  cases m with
  |share=>
   cases g with
   |none=>exact Mt hsh hR h
   |some p=>cases h
  |borrow=>
   obtain⟨v,h1,h2⟩:=H6 hR ha h
   exact⟨v,st.H,st.nx,h1,h2⟩
 |kn f args m=>
  cases m with
  |share=>cases h
  |borrow=>
   obtain⟨fv,hf,h⟩:=gm hR ha h
   cases g with
   |none=>
    obtain⟨n,rfl,h⟩:=h
    obtain⟨v,h1,h2⟩:=H6 (g:=none) hR trivial h
    generalize he:ev st.env f=p at hf
    cases hf
    refine⟨v,st.H,st.nx,?_,h2⟩
    have hk:kind (.kn f args .borrow)=.kn f args .borrow:=rfl
    simp only [q9,hk,he]
    exact h1
   |some q=>
    obtain⟨c,bb⟩:=q
    obtain⟨n,hn,h⟩:=h
    obtain rfl:=hn ha
    obtain⟨v,h1,h2⟩:=H6 hR ha h
    generalize he:ev st.env f=p at hf
    cases hf
    refine⟨v,st.H,st.nx,?_,h2⟩
    have hk:kind (.kn f args .borrow)=.kn f args .borrow:=rfl
    simp only [q9,hk,he]
    exact h1
def VU (nt:Nat) (V:cg) (d:Option Nat) (c:TV) (bb:Bool) (k:cg->Prop):Prop:=∃g w,((g=none/\w=VV.tr qv)\/g=some (c,bb))/\jj nt V d g w k
theorem Lv {c:TV} {bb:Bool} (hc:c≠.b bb) {P:TV->Prop} {v:TV} (h:gV c bb P v):v=qv:=by
 unfold gV at h
 split at h
 ·rename_i x
  split at h
  ·rename_i hh
   exact absurd (by cases x<;>cases bb<;>first|rfl|cases hh) hc
  ·exact h
 ·exact h
section
variable {c:TV} {bb:Bool}
theorem EU (hc:c≠.b bb) {P k:TV->Prop} (h:O4 (some (c,bb)) P k):k qv:=by
 obtain⟨v,h1,h2⟩:=h
 rw [Lv hc h1] at h2;exact h2
theorem ej (hc:c≠.b bb) {P:Option TV} (h:ko nt V d (some (c,bb)) P k):VU nt V d c bb k:=⟨none,.tr qv,.inl ⟨rfl,rfl⟩,EU hc h⟩
theorem n_ {w:VV} (h:jj nt V d (some (c,bb)) w k):VU nt V d c bb k:=⟨_,w,.inr rfl,h⟩
theorem En {g:G} {P:Option Nat} {k:Nat->Prop} (h:Ja g P k):∃n,k n:=by
 cases g with
 |none=>obtain⟨n,_,h⟩:=h;exact⟨n,h⟩
 |some p=>obtain⟨n,_,h⟩:=h;exact⟨n,h⟩
theorem oQ {x:ct} {k:VV->Prop} (h:lM V g x k):∃w,k w:=by
 cases x with
 |c v=>exact⟨_,h⟩
 |t n=>
  simp only [lM] at h
  split at h
  ·cases h
  split at h
  ·exact⟨_,h⟩
  ·split at h
   ·cases h
   ·exact⟨_,h.2⟩
theorem jl {x:ct} {k:TV->Prop} (h:ta V g x k):∃v,k v:=by
 obtain⟨w,h⟩:=oQ h
 unfold IQ at h
 split at h
 ·exact⟨_,h⟩
 ·exact⟨_,h⟩
 ·obtain⟨u,_,h⟩:=h;exact⟨u,h⟩
 ·cases h
theorem Cs {x:Option ct} {k:Option TV->Prop} (h:Gg V g x k):∃v,k v:=by
 cases x with
 |none=>exact⟨none,h⟩
 |some x=>obtain⟨v,h⟩:=jl h;exact⟨some v,h⟩
theorem Mm:∀{xs:List (Nat×Nat×ct)} {k:List (Nat×Nat×TV)->Prop},Pd V g xs k->∃vs,k vs
 |[],k,h=>⟨[],h⟩
 |(off,n,x)::xs,k,h=>by
  obtain⟨v,h⟩:=jl h
  obtain⟨vs,h⟩:=Mm h
  exact⟨_,h⟩
theorem Mj:∀{xs:List ct} {k:List TV->Prop},Pc V g xs k->∃vs,k vs
 |[],k,h=>⟨[],h⟩
 |x::xs,k,h=>by
  obtain⟨v,h⟩:=jl h
  obtain⟨vs,h⟩:=Mj h
  exact⟨v::vs,h⟩
theorem B5:∀{l:List (Nat×VV)} {v:TV} {k:TV->Prop},Ga V l v k->∃u,k u
 |[],v,k,h=>⟨v,h⟩
 |(off,w)::l,v,k,h=>by
  obtain⟨u,h⟩:=B5 (l:=l) h
  obtain⟨es,u',_,h⟩:=Cc h
  exact⟨u',h⟩
theorem Tk {w:VV} {k:TV->Prop} (h:XN V w k):∃t,k t:=by
 unfold XN at h
 split at h
 ·exact⟨_,h⟩
 ·exact⟨_,h⟩
 ·obtain⟨es,h⟩:=Cc h;exact⟨_,h⟩
 ·exact B5 h
 ·obtain⟨es,h⟩:=Cc h;exact⟨_,h⟩
 ·cases h
theorem xz:∀{xs:List ct} {k:Bool->List TV->Prop},AB V g xs k->∃p ts,k p ts
 |[],k,h=>⟨_,_,h⟩
 |x::xs,k,h=>by
  obtain⟨w,h⟩:=oQ h
  split at h
  ·obtain⟨p,ts,h⟩:=xz h;exact⟨_,_,h⟩
  ·obtain⟨p,ts,h⟩:=xz h;exact⟨_,_,h⟩
  ·obtain⟨t,h⟩:=B5 h
   obtain⟨p,ts,h⟩:=xz h
   exact⟨_,_,h⟩
  ·obtain⟨t,h⟩:=Tk h
   obtain⟨p,ts,h⟩:=xz h
   exact⟨_,_,h⟩
theorem LD (hc:c≠.b bb) {sz:Option Nat} {w:VV} (h:uv nt V d (some (c,bb)) sz w k):VU nt V d c bb k:=by
 unfold uv at h
 split at h
 ·split at h
  ·split at h
   ·split at h
    ·exact n_ h
    ·exact ej hc h
   ·split at h
    ·exact ej hc h
    ·cases h
  ·cases h
 ·split at h
  ·split at h
   ·exact ej hc h
   ·cases h
  ·cases h
 ·exact ej hc h
 ·split at h
  ·exact ej hc h
  ·split at h
   ·split at h
    ·split at h
     ·split at h
      ·obtain⟨_,_,h⟩:=h;exact n_ h
      ·cases h
     ·exact ej hc h
    ·split at h
     ·exact ej hc h
     ·cases h
   ·cases h
  ·cases h
 ·obtain⟨_,_,_,_,_,h⟩:=iw h;exact ej hc h
 ·cases h
theorem NQ (hc:c≠.b bb) {off:Nat} {sz:Option Nat} {w:VV} (h:J0 nt V d (some (c,bb)) off sz w k):VU nt V d c bb k:=by
 unfold J0 at h
 split at h
 ·exact ej hc h
 ·split at h
  ·split at h
   ·exact n_ h
   ·exact ej hc h
  ·split at h
   ·exact ej hc h
   ·cases h
 ·cases h
theorem LB (hc:c≠.b bb) {sz:Nat} {w:VV} {lo hi mx:Option ct} (h:LC nt V d (some (c,bb)) sz w lo hi mx k):VU nt V d c bb k:=by
 replace h:=(og h).2
 split at h
 ·split at h
  ·split at h
   ·split at h
    ·obtain⟨l,m,_,h⟩:=Cs (eC h).2;cases h
    ·cases h
   ·cases h
  ·cases h
 ·split at h
  ·obtain⟨l,h⟩:=Cs h
   obtain⟨hh,h⟩:=Cs h
   exact⟨none,.tr qv,.inl ⟨rfl,rfl⟩,EU hc h⟩
  ·split at h
   ·rename_i hcond
    simp at hcond
   ·cases h
 ·split at h
  ·exact n_ h
  ·cases h
 ·cases h
theorem So (hc:c≠.b bb) {op:lX} (h:Bl sh prog nt V d (some (c,bb)) op k):VU nt V d c bb k:=by
 cases op with
 |mv x=>
  simp only [Bl] at h
  obtain⟨w,h⟩:=oQ h
  unfold Ur at h
  split at h
  ·exact ej hc h
  ·cases h
  ·exact n_ h
 |pick a b e=>simp only [Bl] at h;obtain⟨_,h⟩:=jl h;obtain⟨_,h⟩:=jl h;obtain⟨_,h⟩:=jl h;exact ej hc h
 |alloc zero=>
  simp only [Bl] at h
  split at h<;>cases h
 |box x=>
  simp only [Bl] at h
  obtain⟨w,h⟩:=oQ h
  split at h
  ·exact(FZ h.2 (fun _ _ h=>h)).elim
  ·cases h
 |build zero parts=>
  simp only [Bl] at h
  split at h
  ·obtain⟨_,h⟩:=Mm h;exact ej hc h
  ·cases h
 |sj es len zero parts=>cases h
 |de len zero parts=>exact(JH h).elim
 |load sz a=>simp only [Bl] at h;obtain⟨w,h⟩:=oQ h;exact LD hc h
 |store sz a x=>cases h
 |we x=>
  simp only [Bl] at h
  obtain⟨w,h⟩:=oQ h
  unfold Ii at h
  split at h<;>first|exact n_ h|cases h
 |bin op x y=>simp only [Bl] at h;obtain⟨_,h⟩:=jl h;obtain⟨_,h⟩:=jl h;exact ej hc h
 |eq t neg x y=>
  cases t with
  |slice=>cases h
  |one l=>simp only [Bl] at h;obtain⟨_,h⟩:=jl h;obtain⟨_,h⟩:=jl h;exact ej hc h
  |agg l=>simp only [Bl] at h;obtain⟨_,h⟩:=jl h;obtain⟨_,h⟩:=jl h;exact ej hc h
 |un op x=>simp only [Bl] at h;obtain⟨_,h⟩:=jl h;exact ej hc h
 |conv e x=>simp only [Bl] at h;obtain⟨_,h⟩:=jl h;exact ej hc h
 |Cx es bytes zero n=>exact(og h).2.elim
 |sn x lo hi=>simp only [Bl] at h;obtain⟨_,h⟩:=jl h;obtain⟨_,h⟩:=Cs h;obtain⟨_,h⟩:=Cs h;exact ej hc h
 |zb es x lo hi mx=>simp only [Bl] at h;obtain⟨w,h⟩:=oQ h;exact LB hc h
 |Br n es x lo hi mx=>cases h
 |uu off x=>
  simp only [Bl] at h
  obtain⟨w,h⟩:=oQ h
  unfold Ij at h
  split at h<;>first|exact n_ h|cases h
 |NN off sz x=>simp only [Bl] at h;obtain⟨w,h⟩:=oQ h;exact NQ hc h
 |jg es x i=>
  simp only [Bl] at h
  obtain⟨w,h⟩:=oQ h
  obtain⟨iv,h⟩:=jl h
  replace h:=(og h).2
  split at h
  ·exact n_ (EU hc h)
  ·split at h
   ·obtain⟨n,h⟩:=En (eC h).2
    exact n_ h
   ·obtain⟨n,h⟩:=En (eC h).2
    exact n_ h
   ·cases h
  ·obtain⟨_,_,_,_,_,h⟩:=iw h
   obtain⟨n,h⟩:=En (eC h).2
   exact n_ h
  ·cases h
 |uo len es x i=>
  simp only [Bl] at h
  obtain⟨w,h⟩:=oQ h
  obtain⟨iv,h⟩:=jl h
  unfold LF at h
  split at h<;>first|(obtain⟨n,h⟩:=En h;exact n_ h)|cases h
 |idx x i=>simp only [Bl] at h;obtain⟨_,h⟩:=jl h;obtain⟨_,h⟩:=jl h;exact ej hc h
 |ext i x=>simp only [Bl] at h;obtain⟨_,h⟩:=jl h;exact ej hc h
 |app es bytes s x=>
  simp only [Bl] at h
  obtain⟨w,h⟩:=oQ h
  obtain⟨y,h⟩:=oQ h
  exfalso
  unfold Hp at h
  split at h
  ·replace h:=(eC h).2
   unfold Il at h
   split at h
   ·cases h
   split at h
   ·split at h
    ·obtain⟨l,_,h⟩:=h;exact h
    ·cases h
   ·split at h
    ·split at h
     ·obtain⟨l,_,h⟩:=h;exact h
     ·cases h
    ·cases h
   ·cases h
  replace h:=(og h).2
  unfold OG at h
  have key:∀xs,(match w with
   |.gi=>∃l,gw bytes [] xs=some l/\ry nt V d (some (c,bb)) .sl (.gr es l) k
   |.sl O=>(match V.H.get O with
    |some (.gr z es')=>same z es (∃l,gw bytes es' xs=some l/\ry nt (fq V O) d (some (c,bb)) .sl (.gr es l) k)
    |_=>False)
   |.ow O v i=>Sk V O v fun s io iz es'=>same iz es (∃l0,Ac es' i io=some l0/\∃l,gw bytes l0 xs=some l/\ry nt (ey V O (.gn O s io iz v (some i) es')) d (some (c,bb)) .sl (.gr es l) k)
   |_=>False)->False:=fun xs h=>by
   split at h
   ·obtain⟨l,_,h⟩:=h;exact h
   ·split at h
    ·obtain⟨l,_,h⟩:=(eC h).2;exact h
    ·cases h
   ·obtain⟨_,_,_,_,_,h⟩:=iw h
    obtain⟨l0,_,l,_,h⟩:=(eC h).2;exact h
   ·cases h
  split at h
  ·obtain⟨xs,_,_,h⟩:=h;exact key _ h
  ·exact key _ h
  ·split at h
   ·exact key _ (eC h).2
   ·cases h
  ·cases h
 |SF es dd s=>cases h
 |SH es zero x=>cases h
 |len str x=>
  simp only [Bl] at h
  obtain⟨w,h⟩:=oQ h
  unfold MP at h
  split at h
  ·split at h
   ·exact ej hc h
   ·cases h
  ·split at h
   ·exact ej hc h
   ·exact ej hc h
   ·split at h
    ·exact ej hc h
    ·exact ej hc h
    ·cases h
   ·obtain⟨_,_,_,_,_,h⟩:=iw h;exact ej hc h
   ·cases h
 |KC mx xs=>simp only [Bl] at h;obtain⟨vs,h⟩:=Mj h;exact ej hc h
 |Bw=>cases h
 |Bv t zero ok m k=>cases h
 |H8 t m k v=>cases h
 |Gi m=>cases h
 |call f args m=>
  cases m with
  |share=>cases h
  |borrow=>
   simp only [Bl] at h
   obtain⟨p,ts,r,h1,h2⟩:=xz h
   rw [Lv hc h1] at h2
   exact⟨none,.tr qv,.inl ⟨rfl,rfl⟩,h2⟩
 |kn f args m=>
  cases m with
  |share=>cases h
  |borrow=>
   simp only [Bl] at h
   obtain⟨_,h⟩:=jl h
   obtain⟨n,_,h⟩:=h
   obtain⟨p,ts,r,h1,h2⟩:=xz h
   rw [Lv hc h1] at h2
   exact⟨none,.tr qv,.inl ⟨rfl,rfl⟩,h2⟩
end
theorem N0:Can qv j7:=.tp [] [] rfl (fun x hx=>by cases hx) (fun j t x ht=>by simp at ht)
def Rh (prog:Map bk) (nt:Nat) (A:ee) (V:cg) (st:St) (r:Option St) (k:cg->Prop):Prop:=
 ∃st',r=some st'/\∃V' A',R A' V' st'/\Fr V A st.H st.nx V' A' st'.H st'.nx/\Ext V A V' A'/\k V'
theorem MO (hsh:vi prog sh) (hR:R A V st) {o:cj} (h:Sq sh prog nt V o k):Rh prog nt A V st (qa (fe prog) nt o st) k:=by
 obtain⟨dd,op,gd,fz⟩:=o
 have fin:wanted st.env gd=true->(∃v H' nx',zh (fe prog) ⟨dd,op,gd,fz⟩ (ev st.env) st.H st.nx=some (v,H',nx')/\Next nt A V st dd v H' nx' k)->Rh prog nt A V st (qa (fe prog) nt ⟨dd,op,gd,fz⟩ st) k:=by
  rintro hw ⟨v,H',nx',h1,e',h2,V',A',h3,h4,h5⟩
  exact⟨⟨e',H',nx'⟩,by simp only [qa,hw,cond_true,h1,h2],V',A',h3,h4,h5⟩
 unfold Sq at h
 simp only at h
 cases gd with
 |none=>
  cases fz with
  |true=>
   simp only at h
   split at h
   ·exact fin rfl (Pz hR h)
   ·cases h
  |false=>
   obtain⟨v,H',nx',h1,h2⟩:=MN (g:=none) hsh hR trivial h
   exact fin rfl ⟨v,H',nx',h1,h2⟩
 |some p=>
  obtain⟨n,bb⟩:=p
  cases fz with
  |true=>cases h
  |false=>
   obtain⟨c,a,ha,hca,h⟩:=Ml hR h
   by_cases hc:c=.b bb
   ·subst hc
    cases hca
    obtain⟨v,H',nx',h1,h2⟩:=MN (g:=some (.b bb,bb)) hsh hR rfl h
    exact fin (by simp only [wanted,ha];cases bb<;>rfl) ⟨v,H',nx',h1,h2⟩
   ·obtain⟨g,w,hg,hp⟩:=So hc h
    have hw:wanted st.env (some (n,bb))=false:=by
     simp only [wanted,ha]
     split
     ·rename_i b' hb
      cases hb
      cases hca
      ·cases b'<;>cases bb<;>first|rfl|exact absurd rfl hc
      ·rename_i hf _;cases hf
     ·rfl
    have hn:Next nt A V st dd j7 st.H st.nx k:=cm hR (fun hact=>by
     rcases hg with ⟨rfl,rfl⟩|rfl
     ·exact .tr N0
     ·exact absurd hact hc) hp
    obtain⟨e',h2,V',A',h3,h4,h5⟩:=hn
    exact⟨⟨e',st.H,st.nx⟩,by simp only [qa,hw,cond_false,h2],V',A',h3,h4,h5⟩
theorem FG (hsh:vi prog sh):∀{l:List cj} {A:ee} {V:cg} {st:St} {k:cg->Prop},R A V st->Uq sh prog nt l V k->Rh prog nt A V st (oP (fe prog) nt l st) k
 |[],A,V,st,k,hR,h=>⟨st,rfl,V,A,hR,Fr.refl _ _ _ _,Ext.refl _ _,h⟩
 |o::l,A,V,st,k,hR,h=>by
  obtain⟨st1,h1,V1,A1,h2,h3,hx,h4⟩:=MO hsh hR h
  obtain⟨st2,g1,V2,A2,g2,g3,gx,g4⟩:=FG hsh h2 h4
  exact⟨st2,by rw [ou,h1];exact g1,V2,A2,g2,h3.trans g3,hx.trans gx,g4⟩
end
end Go.Ax.V

namespace Go.Ax.V
section
variable {sh:Sh} {prog:Map bk} {cf:qc} {nt:Nat} {A:ee} {V:cg} {st:St} {d:Option Nat} {g:G} {k:cg->Prop}
theorem TL {x:ct} {k:VV->Prop} (h:lM V g x k):k (ju V x):=by
 cases x with
 |c v=>exact h
 |t n=>
  simp only [lM] at h
  split at h
  ·cases h
  rename_i e he
  have e1:ju V (.t n)=e.v:=by simp only [ju,he]
  rw [e1]
  split at h
  ·exact h
  ·split at h
   ·cases h
   ·exact h.2
theorem xd (hR:R A V st) (ha:act g) {x:ct} {k:VV->Prop} (h:lM V g x k):VR A (ju V x) (ev st.env x)/\k (ju V x):=by
 refine⟨?_,TL h⟩
 cases x with
 |c v=>exact Kb A v
 |t n=>
  simp only [lM] at h
  split at h
  ·cases h
  rename_i e he
  obtain⟨a,h1,h2⟩:=hR.env n e he
  have e1:ju V (.t n)=e.v:=by simp only [ju,he]
  rw [Ig h1,e1]
  refine h2 (fun c bb hc=>?_)
  rw [hc] at h
  simp only at h
  split at h
  ·cases h
  ·obtain⟨e,_⟩:=h
   cases e;exact ha
structure DE (A:ee) (V:cg) (f:Kx) (r:Rec):Prop where
 rd:∀x∈r.jx,∃id,(match x with|.El q=>q.id=id|.obj i=>i=id|.all=>False)/\∃T∈f.rd,∃o a,V.H.get T=some o/\A T=some a/\jJ A o a id
 wr:∃l,r.gN=.ids l/\∀id∈l,∃T∈f.wr,∃o a,V.H.get T=some o/\A T=some a/\jJ A o a id
def Gn (A:ee) (V:cg) (f:Kx) (jx:List Rd) (gN:List Nat):Prop:=
 (∀x∈jx,∃id,(match x with|.El q=>q.id=id|.obj i=>i=id|.all=>False)/\∃T∈f.rd,∃o a,V.H.get T=some o/\A T=some a/\jJ A o a id)/\
 ∀id∈gN,∃T∈f.wr,∃o a,V.H.get T=some o/\A T=some a/\jJ A o a id
theorem Fq {f:Kx}:Gn A V f [] []:=⟨fun x hx=>(by cases hx),fun id h=>(by cases h)⟩
theorem JG {f:Kx} {p:dg} (h:p.jx=[]/\p.gN=[]):Gn A V f p.jx p.gN:=by rw [h.1,h.2];exact Fq
def EK (p:Option dg):Prop:=∀q,p=some q->q.jx=[]/\q.gN=[]
theorem lO (v:Option AV):EK (lq v):=by
 intro q h
 cases v with
 |none=>cases h
 |some v=>cases h;exact⟨rfl,rfl⟩
theorem gu (v:AV):EK (some (.val v)):=fun q h=>by cases h;exact⟨rfl,rfl⟩
theorem yf (f:Nat->AV) (o:n9):EK (some (.new f o)):=fun q h=>by cases h;exact⟨rfl,rfl⟩
theorem cu:EK none:=fun q h=>by cases h
theorem ND (hR:R A V st) (ha:act g) {sz:Option Nat} {a:ct} (h:lM V g a fun w=>uv nt V d g sz w k) {p:dg} (hp:vu (ev st.env) sz a=some p):Gn A V ⟨s6 (ju V a),[],[]⟩ p.jx p.gN:=by
 obtain⟨hw,hk⟩:=xd hR ha h
 generalize he:ev st.env a=x at hw
 generalize ju V a=w at hw hk
 have hit:∀{O:Nat} {o:VO} {pa:AV} {id gg off:Nat},x=.ptr id gg off->V.H.get O=some o->A O=some pa->gM pa=some id->Gn A V ⟨[O],[],[]⟩ p.jx p.gN:=by
  intro O o pa id gg off hx hO hA hi
  subst hx
  simp only [vu,he] at hp
  cases hp
  refine⟨fun y hy=>?_,fun id' h=>by cases h⟩
  simp [dg.jx] at hy
  subst hy
  exact⟨id,rfl,O,by simp,o,pa,hO,hA,.inl hi⟩
 cases hw with
 |@ptr O off id hO=>
  simp only [uv] at hk
  split at hk
  ·rename_i v ovs ho;exact hit rfl ho hO rfl
  ·cases hk
 |@pd O off id hO=>
  simp only [uv] at hk
  split at hk
  ·rename_i v ovs ho;exact hit rfl ho hO rfl
  ·cases hk
 |@ea O i off id gg b z len cap ex hO=>
  simp only [uv] at hk
  split at hk
  ·rename_i z es ho;exact hit rfl ho hO rfl
  ·rename_i ho;exact hit rfl ho hO rfl
  ·cases hk
 |@e2 O v i j off id gg b z len cap ex hA=>
  obtain⟨s,io,iz,es,ho,_⟩:=iw hk
  obtain⟨a0,ha0,_⟩:=hR.heap O _ ho
  simp only [vu,he] at hp
  cases hp
  refine⟨fun y hy=>?_,fun id' h=>by cases h⟩
  simp [dg.jx] at hy
  subst hy
  exact⟨id,rfl,O,by simp [s6],_,a0,ho,ha0,.inr ⟨i,_,by simp,hA,rfl⟩⟩
 |@pt v cs b off n hl hf hcc=>
  simp only [vu,he] at hp
  split at hp
  ·exact JG (lO _ p hp)
  ·cases hp
 |_=>cases hk
theorem KL (hR:R A V st) {sz:Nat} {a x:ct} (h:lM V none a fun w=>lM V none x fun x=>s9 V sz w x k) {p:dg} (hp:wk (ev st.env) sz a x=some p):Gn A V ⟨s6 (ju V a),s6 (ju V a),[]⟩ p.jx p.gN:=by
 obtain⟨hw,hk⟩:=xd (g:=none) hR trivial h
 obtain⟨y,hy,hk⟩:=gj (g:=none) hR trivial hk
 generalize he:ev st.env a=q at hw
 generalize ju V a=w at hw hk
 have hit:∀{O:Nat} {o:VO} {pa:AV} {id gg off:Nat},q=.ptr id gg off->V.H.get O=some o->A O=some pa->gM pa=some id->Gn A V ⟨[O],[O],[]⟩ p.jx p.gN:=by
  intro O o pa id gg off hx hO hA hi
  subst hx
  simp only [wk,he] at hp
  split at hp
  ·rw [cond_eq_ite] at hp
   split at hp
   ·cases hp
    refine⟨fun y hy=>?_,fun id' h=>?_⟩
    ·simp [dg.jx] at hy
     subst hy
     exact⟨id,rfl,O,by simp,o,pa,hO,hA,.inl hi⟩
    ·simp [dg.gN] at h
     subst h
     exact⟨O,by simp,o,pa,hO,hA,.inl hi⟩
   ·cases hp
  ·cases hp
 cases hw with
 |@ptr O off id hO=>
  simp only [s9] at hk
  split at hk
  ·rename_i v ovs ho;exact hit rfl ho hO rfl
  ·cases hk
 |@pd O off id hO=>
  simp only [s9] at hk
  split at hk
  ·rename_i v ovs ho;exact hit rfl ho hO rfl
  ·cases hk
 |@ea O i off id gg b z len cap ex hO=>
  simp only [s9] at hk
  split at hk
  ·rename_i z es ho;exact hit rfl ho hO rfl
  ·rename_i ho;exact hit rfl ho hO rfl
  ·cases hk
 |@e2 O v i j off id gg b z len cap ex hA=>
  obtain⟨s,io,iz,es,ho,_⟩:=iw hk
  obtain⟨a0,ha0,_⟩:=hR.heap O _ ho
  have hin:jJ A (.gn O s io iz v none es) a0 id:=.inr ⟨i,_,by simp,hA,rfl⟩
  simp only [wk,he] at hp
  split at hp
  ·rw [cond_eq_ite] at hp
   split at hp
   ·cases hp
    refine⟨fun y hy=>?_,fun id' h=>?_⟩
    ·simp [dg.jx] at hy
     subst hy
     exact⟨id,rfl,O,by simp [s6],_,a0,ho,ha0,hin⟩
    ·simp [dg.gN] at h
     subst h
     exact⟨O,by simp [s6],_,a0,ho,ha0,hin⟩
   ·cases hp
  ·cases hp
 |_=>cases hk
theorem QN (hR:R A V st) (ha:act g) {es bytes:Nat} {s x:ct} (h:lM V g s fun w=>lM V g x fun x=>Hp sh nt V d g es bytes w x k) {p:dg} (hp:Bm es bytes (ev st.env s) (ev st.env x)=some p) :
  Gn A V ⟨jb (ju V s)++jb (ju V x),jb (ju V s),jb (ju V s)⟩ p.jx p.gN:=by
 obtain⟨hw,h⟩:=xd hR ha h
 obtain⟨hy,hk⟩:=xd hR ha h
 generalize ju V s=w at hw hk
 generalize ju V x=y at hy hk
 replace hk:((∃s io xs,y=.gl s io xs)\/((∀O,y=.sl O->∃z es,V.H.get O=some (.gr z es))/\((∃v,y=.tr v)\/y=.gi\/∃O,y=.sl O)))/\
   (w=.gi\/(∃O o,w=.sl O/\V.H.get O=some o)\/∃O v i s io iz es,w=.ow O v i/\V.H.get O=some (.gn O s io iz v none es)):=by
  unfold Hp at hk
  split at hk
  ·rename_i s' io xs
   refine⟨.inl ⟨_,_,_,rfl⟩,?_⟩
   replace hk:=(eC hk).2
   unfold Il at hk
   split at hk
   ·cases hk
   split at hk
   ·exact .inl rfl
   ·split at hk
    ·rename_i ho;exact .inr (.inl ⟨_,_,rfl,ho⟩)
    ·cases hk
   ·cases hk
  ·replace hk:=(og hk).2
   unfold OG at hk
   split at hk
   ·obtain⟨xs,_,_,h⟩:=hk
    refine⟨.inr ⟨fun O e=>(by cases e),.inl ⟨_,rfl⟩⟩,?_⟩
    split at h
    ·exact .inl rfl
    ·split at h
     ·rename_i ho;exact .inr (.inl ⟨_,_,rfl,ho⟩)
     ·cases h
    ·obtain⟨_,_,_,_,ho,_⟩:=iw h
     exact .inr (.inr ⟨_,_,_,_,_,_,_,rfl,ho⟩)
    ·cases h
   ·refine⟨.inr ⟨fun O e=>(by cases e),.inr (.inl rfl)⟩,?_⟩
    split at hk
    ·exact .inl rfl
    ·split at hk
     ·rename_i ho;exact .inr (.inl ⟨_,_,rfl,ho⟩)
     ·cases hk
    ·obtain⟨_,_,_,_,ho,_⟩:=iw hk
     exact .inr (.inr ⟨_,_,_,_,_,_,_,rfl,ho⟩)
    ·cases hk
   ·split at hk
    ·rename_i ho
     refine⟨.inr ⟨fun O e=>(by cases e;exact⟨_,_,ho⟩),.inr (.inr ⟨_,rfl⟩)⟩,?_⟩
     replace hk:=(eC hk).2
     split at hk
     ·exact .inl rfl
     ·split at hk
      ·rename_i ho;exact .inr (.inl ⟨_,_,rfl,ho⟩)
      ·cases hk
     ·obtain⟨_,_,_,_,ho,_⟩:=iw hk
      exact .inr (.inr ⟨_,_,_,_,_,_,_,rfl,ho⟩)
     ·cases hk
    ·cases hk
   ·cases hk
 obtain⟨hky,hkw⟩:=hk
 generalize ev st.env s=a at hw hp
 generalize ev st.env x=b at hy hp
 have hsrc:∀{m:Nat} {src:Src} {q:Kv},lH es b=some (m,src)->src.q=some q->∃T∈jb y,∃o a,V.H.get T=some o/\A T=some a/\jJ A o a q.id:=by
  intro m src q h1 h2
  cases hy with
  |@sl O _ hO=>
   rcases hky with ⟨_,_,_,e⟩|⟨hgr,_⟩
   ·cases e
   obtain⟨z,es',ho⟩:=hgr O rfl
   obtain⟨yy,hyy,hs⟩:=hR.heap O _ ho
   rw [hO] at hyy;cases hyy
   rcases hs.2 with ⟨_,rfl|rfl⟩|⟨id,gg,bb,cells,rfl,_⟩
   ·cases h1;cases h2
   ·simp only [lH,cond_eq_ite] at h1
    split at h1
    ·cases h1;cases h2
    ·cases h1
   ·simp only [lH,cond_eq_ite] at h1
    split at h1
    ·cases h1;cases h2
     exact⟨O,by simp [jb],_,_,ho,hO,.inl rfl⟩
    ·cases h1
  |@tr v _ hc=>
   cases hc<;>first|(cases h1;done)|skip
   ·cases h1;cases h2
   ·simp only [lH,cond_eq_ite] at h1
    split at h1
    ·cases h1;cases h2
    ·cases h1
   ·rename_i hf _
    cases b<;>first|(cases hf;done)|skip
    all_goals first
     |(cases h1;cases h2;done)
     |(simp only [lH,cond_eq_ite] at h1
       split at h1
       ·cases h1;cases h2
       ·cases h1)
  |gi=>cases h1;cases h2
  |zf=>
   simp only [lH,cond_eq_ite] at h1
   split at h1
   ·cases h1;cases h2
   ·cases h1
  |gl _ _ _ _ _=>
   simp only [lH,cond_eq_ite] at h1
   split at h1
   ·cases h1;cases h2
   ·cases h1
  |_=>
   exfalso
   rcases hky with ⟨_,_,_,e⟩|⟨_,⟨_,e⟩|e|⟨_,e⟩⟩<;>cases e
 have hdst:∀{id:Nat},gM a=some id->∃T∈jb w,∃o a,V.H.get T=some o/\A T=some a/\jJ A o a id:=by
  intro id hi
  rcases hkw with rfl|⟨O,o,rfl,ho⟩|⟨O,v,i,s,io,iz,es,rfl,ho⟩
  ·cases hw<;>cases hi
  ·cases hw with
   |sl hO=>exact⟨O,by simp [jb],_,_,ho,hO,.inl hi⟩
  ·cases hw with
   |ow hA=>
    obtain⟨a0,ha0,_⟩:=hR.heap O _ ho
    exact⟨O,by simp [jb],_,_,ho,ha0,.inr ⟨i,_,by simp,hA,hi⟩⟩
 have mk:∀(q:Option Kv) (u:Option Nat) (kk:List AV->Option n9->Option Out),(∀r,q=some r->∃T∈jb y,∃o a,V.H.get T=some o/\A T=some a/\jJ A o a r.id)->
   (∀i,u=some i->∃T∈jb w,∃o a,V.H.get T=some o/\A T=some a/\jJ A o a i)->Gn A V ⟨jb w++jb y,jb w,jb w⟩ (dg.look q u kk).jx (dg.look q u kk).gN:=by
  intro q u kk h1 h2
  refine⟨fun z hz=>?_,fun id hid=>?_⟩
  ·simp only [dg.jx,List.mem_append] at hz
   rcases hz with hz|hz
   ·cases q with
    |none=>cases hz
    |some r=>
     simp at hz;subst hz
     obtain⟨T,h3,h4⟩:=h1 r rfl
     exact⟨r.id,rfl,T,List.mem_append_right _ h3,h4⟩
   ·cases u with
    |none=>cases hz
    |some i=>
     simp at hz;subst hz
     obtain⟨T,h3,h4⟩:=h2 i rfl
     exact⟨i,rfl,T,List.mem_append_left _ h3,h4⟩
  ·cases u with
   |none=>cases hid
   |some i=>
    simp [dg.gN] at hid;subst hid
    exact h2 _ rfl
 unfold Bm at hp
 split at hp
 ·cases hp
 rename_i m src hm
 rw [cond_eq_ite] at hp
 split at hp
 ·rw [cond_eq_ite] at hp
  split at hp
  ·cases hp;exact Fq
  ·cases hp
 ·split at hp
  ·rw [cond_eq_ite] at hp
   split at hp
   ·cases hp;exact mk _ _ _ (fun r hr=>hsrc hm hr) (fun i hi=>by cases hi)
   ·cases hp
  ·rw [cond_eq_ite] at hp
   split at hp
   ·cases hp;exact mk _ _ _ (fun r hr=>hsrc hm hr) (fun i hi=>by cases hi)
   ·cases hp
  ·rename_i id gg off es' len cap ex
   rw [cond_eq_ite] at hp
   split at hp
   ·cases hp
    unfold F1
    rw [cond_eq_ite]
    split
    ·exact mk _ _ _ (fun r hr=>hsrc hm hr) (fun i hi=>by cases hi;exact hdst rfl)
    ·rw [cond_eq_ite]
     split
     ·exact mk _ _ _ (fun r hr=>hsrc hm hr) (fun i hi=>by cases hi;exact hdst rfl)
     ·exact mk _ _ _ (fun r hr=>hsrc hm hr) (fun i hi=>by cases hi;exact hdst rfl)
   ·cases hp
  ·cases hp
theorem zy {V':cg} (he:V'.env=V.env):∀(parts:List (Nat×Nat×ct)),lQ V' parts=lQ V parts
 |[]=>rfl
 |(_,_,x)::r=>by
  have e1:ju V' x=ju V x:=by cases x<;>simp only [ju,he]
  simp only [lQ,zy he r,e1]
theorem FK {sz:Nat}:∀(parts:List (Nat×Nat×ct)) (j:Nat) (V:cg) (k:List TV->cg->Prop),R A V st->uy V none true sz j parts k->
  ∀id∈(parts.map fun p=>ev st.env p.2.2).flatMap (ff deep st.H),∃T∈lQ V parts,∃o a,V.H.get T=some o/\A T=some a/\jJ A o a id
 |[],j,V,k,hR,hk,id,hid=>by simp at hid
 |(off,n,x)::r,j,V,k,hR,hk,id,hid=>by
  obtain⟨_,hk⟩:=hk
  obtain⟨hw,hk⟩:=xd (g:=none) hR trivial hk
  rw [List.map_cons,List.flatMap_cons,List.mem_append] at hid
  have rest:∀{V1:cg} {k':List TV->cg->Prop},Sub V V1->uy V1 none true sz (j+1) r k'->id∈(r.map fun p=>ev st.env p.2.2).flatMap (ff deep st.H)->
    ∃T∈jb (ju V x)++lQ V r,∃o a,V.H.get T=some o/\A T=some a/\jJ A o a id:=by
   intro V1 k' hs hk' hi
   obtain⟨T,h1,o,a,h2,h3,h4⟩:=FK r (j+1) V1 k' (hs.r hR) hk' id hi
   rw [zy hs.env] at h1
   exact⟨T,List.mem_append_right _ h1,o,a,hs.H _ _ h2,h3,h4⟩
  simp only [lQ]
  generalize ju V x=w at hw hk rest
  generalize ev st.env x=a at hw hid
  have no:a.plain=true->id∈ff deep st.H a->False:=fun hp hi=>by
   have:ff deep st.H a=[]:=A8 hp 27 _
   rw [this] at hi;cases hi
  cases hw with
  |tr hc=>exact hid.elim (fun hi=>(no (qn hc) hi).elim) (rest (Sub.refl V) hk.2)
  |gi=>exact hid.elim (fun hi=>(no rfl hi).elim) (rest (Sub.refl V) hk.2)
  |zf=>exact hid.elim (fun hi=>(no rfl hi).elim) (rest (Sub.refl V) hk.2)
  |@sl O _ hO=>
   obtain⟨_,_,hk⟩:=hk
   obtain⟨ob,ho,hwh,es,hk,_⟩:=HN hk
   refine hid.elim (fun hi=>?_) (rest (BG V (.sl O)) hk)
   obtain⟨y,hy,hs⟩:=hR.heap O _ ho
   rw [hO] at hy;cases hy
   exact⟨O,List.mem_append_left _ (by simp [jb]),_,_,ho,hO,A7 hwh hs 27 id hi⟩
  |@st t o cs tl hv hc=>
   obtain⟨hnow,hk⟩:=hk
   replace hnow:Sc o=true:=by simpa using hnow
   have hthere:=BA hk
   obtain⟨u,hk⟩:=B5 hk
   refine hid.elim (fun hi=>?_) (rest (vm o V) hk.2)
   have hi':id∈cs.flatMap (ff 29 st.H):=hi
   obtain⟨y,hy,hi'⟩:=List.mem_flatMap.1 hi'
   obtain⟨q,hq⟩:=List.getElem?_of_mem hy
   have hlt:q < tl.length:=by rw [hc.len];exact(List.getElem?_eq_some_iff.1 hq).1
   have hat:=hc.at_ q _ y (List.getElem?_eq_getElem hlt) hq
   cases ho:fc q o with
   |none=>
    rw [ho] at hat
    have hh:ff 29 st.H y=[]:=Ae hat.2 28 _
    rw [hh] at hi';cases hi'
   |some w=>
    rw [ho] at hat
    cases w<;>first|(exact absurd hat (by intro hh;exact hh))|skip
    ·rcases hat with e|e<;>(rw [e] at hi';cases hi')
    ·rename_i O
     have hO:A O=some y:=hat
     obtain⟨ob,hO',hwh⟩:=hthere q O (uf ho)
     obtain⟨y',hy',hs'⟩:=hR.heap O _ hO'
     rw [hO] at hy';cases hy'
     have hmem:∀{l:List (Nat×VV)} {i:Nat},(i,VV.sl O)∈l->O∈Db l:=by
      intro l
      induction l with
      |nil=>intro i h;cases h
      |cons p l ih=>
       intro i h
       obtain⟨i',w'⟩:=p
       rcases List.mem_cons.1 h with h1|h1
       ·cases h1;simp [Db]
       ·cases w'<;>first|exact ih h1|exact List.mem_cons_of_mem _ (ih h1)
     exact⟨O,List.mem_append_left _ (hmem (uf ho)),_,_,hO',hO,A7 hwh hs' 26 id hi'⟩
    ·exact absurd (uf ho) (Fj hnow _ _ _ _)
  |_=>cases hk
theorem vk (hR:R A V st) (ha:act g):∀{xs:List ct} {k:Bool->List TV->Prop},C3 V xs=true->AB V g xs k->gJ AV.plain (xs.map (ev st.env))=true
 |[],k,h,hk=>rfl
 |x::xs,k,h,hk=>by
  simp only [C3,Bool.and_eq_true] at h
  obtain⟨hw,hk⟩:=xd hR ha hk
  rw [List.map_cons,cx]
  have h1:=h.1
  generalize ju V x=w at hw hk h1
  generalize ev st.env x=a at hw
  have fin:∀{kk:Bool->List TV->Prop},a.plain=true->AB V g xs kk->∀y∈a::xs.map (ev st.env),AV.plain y=true:=by
   intro kk hp hk y hy
   rcases List.mem_cons.1 hy with rfl|hy
   ·exact hp
   ·exact cx.1 (vk hR ha h.2 hk) y hy
  cases hw<;>first|(cases h1;done)|skip
  ·rename_i v hc;exact fin (qn hc) hk
  ·exact fin rfl hk
  ·exact fin rfl hk
  ·rename_i v ovs cs ts hv hc
   obtain⟨t,hk⟩:=B5 hk
   exact fin (Aq hc h1) hk
theorem P0 (hR:R A V st) {len:Nat} {zero:List AV} {parts:List (Nat×Nat×ct)} (h:DZ sh nt V d none true len zero parts k) :
  ∀id∈(parts.map fun p=>ev st.env p.2.2).flatMap (ff deep st.H),∃T∈lQ V parts,∃o a,V.H.get T=some o/\A T=some a/\jJ A o a id:=by
 unfold DZ at h
 split at h
 ·unfold MR at h
  simp only at h
  split at h
  ·split at h<;>first|(cases h;done)|skip
   split at h<;>first|(cases h;done)|skip
  ·exact FK parts 0 V _ hR (eC (og h).2).2
 ·simp only at h
  split at h
  rotate_left
  ·cases h
  rename_i off n x
  split at h
  rotate_left
  ·cases h
  obtain⟨w,hw,hk⟩:=gj (g:=none) hR trivial h
  have hpl:(ev st.env x).plain=true:=by
   generalize ev st.env x=p at hw
   unfold Us at hk
   split at hk
   ·cases hw<;>rfl
   ·split at hk
    ·cases hw with
     |st hv hc=>exact Aq hc rfl
    ·cases hk
   ·cases hk
  intro id hid
  have hh:ff deep st.H (ev st.env x)=[]:=A8 hpl 27 _
  simp only [List.map_cons,List.map_nil,List.flatMap_cons,List.flatMap_nil,List.append_nil] at hid
  rw [hh] at hid
  cases hid
theorem Sp (hR:R A V st) {o:cj} (h:Sq sh prog nt V o k) {f:Kx} (hf:Ie V o=some f) {st':St} (hrun:qa (fe prog) nt o st=some st') (n0:Nat) :
  ∃r,gp (fe prog) nt n0 o st=some (st',r)/\DE A V f r/\r.Jx=st.nx/\r.CY=st'.nx:=by
 obtain⟨dd,op,gd,fz⟩:=o
 unfold qa at hrun
 simp only [cond_eq_ite] at hrun
 by_cases hw:wanted st.env gd=true
 rotate_left
 ·rw [if_neg hw] at hrun
  split at hrun
  ·rename_i e he
   cases hrun
   exact⟨⟨[],.ids [],st.H,st.H,st.nx,st.nx⟩,by simp only [gp,cond_eq_ite,if_neg hw,he],⟨fun x hx=>(by cases hx),⟨[],rfl,fun id hid=>(by cases hid)⟩⟩,rfl,rfl⟩
  ·cases hrun
 rw [if_pos hw] at hrun
 split at hrun
 ·cases hrun
 rename_i v H' nx' hdo
 split at hrun
 rotate_left
 ·cases hrun
 rename_i e he
 cases hrun
 have fin:∀{jx:List Rd} {gN:List Nat},oD (fe prog) n0 ⟨dd,op,gd,fz⟩ (ev st.env) st.H st.nx=some (v,H',nx',jx,.ids gN)->Gn A V f jx gN->
   ∃r,gp (fe prog) nt n0 ⟨dd,op,gd,fz⟩ st=some (⟨e,H',nx'⟩,r)/\DE A V f r/\r.Jx=st.nx/\r.CY=nx':=by
  intro jx gN h1 h2
  exact⟨⟨jx,.ids gN,st.H,H',st.nx,nx'⟩,by simp only [gp,cond_eq_ite,if_pos hw,h1,he],⟨h2.1,gN,rfl,h2.2⟩,rfl,rfl⟩
 cases fz with
 |true=>
  have hgd:gd=none:=by
   cases gd with
   |none=>rfl
   |some p=>cases h
  subst hgd
  simp only [Sq] at h
  split at h
  ·rename_i len zero parts
   simp only [Ie] at hf
   cases hf
   have hlook:∀id∈(parts.map fun p=>ev st.env p.2.2).flatMap (ff deep st.H),∃T∈lQ V parts,∃o a,V.H.get T=some o/\A T=some a/\jJ A o a id:=P0 hR h
   simp only [zh,cond_true] at hdo
   ·split at hdo
    ·cases hdo
    rename_i l hl
    split at hdo
    ·rename_i v' hv'
     cases hdo
     refine fin (jx:=((parts.map fun p=>ev st.env p.2.2).flatMap (ff deep st.H)).map Rd.obj) (gN:=(parts.map fun p=>ev st.env p.2.2).flatMap (ff deep st.H)) ?_ ⟨fun x hx=>?_,hlook⟩
     ·simp only [oD,cond_true,hl,hv']
     ·obtain⟨id,hid,rfl⟩:=List.mem_map.1 hx
      exact⟨id,rfl,hlook id hid⟩
    ·cases hdo
  ·cases h
 |false=>
  have hev:∃g:G,act g/\Bl sh prog nt V dd g op k:=by
   cases gd with
   |none=>exact⟨none,trivial,h⟩
   |some p=>
    obtain⟨n,bb⟩:=p
    obtain⟨c,a,ha,hca,h⟩:=Ml hR h
    refine⟨some (c,bb),?_,h⟩
    simp only [wanted,ha] at hw
    split at hw
    ·rename_i b' hb
     cases hb
     cases hca
     rotate_left
     ·rename_i hf _;cases hf
     show TV.b b'=TV.b bb
     congr 1
     cases b'<;>cases bb<;>first|rfl|cases hw
    ·cases hw
  obtain⟨g,hact,h⟩:=hev
  have hdo':q9 (fe prog) op (ev st.env) st.H st.nx=some (v,H',nx'):=hdo
  have plan:∀{p:(ct->AV)->Option dg},kind op=.plan p->(∀q,p (ev st.env)=some q->Gn A V f q.jx q.gN)->∃r,gp (fe prog) nt n0 ⟨dd,op,gd,false⟩ st=some (⟨e,H',nx'⟩,r)/\DE A V f r/\r.Jx=st.nx/\r.CY=nx':=by
   intro p hk hl
   simp only [q9,hk] at hdo'
   split at hdo'
   ·rename_i q hq
    refine fin (jx:=q.jx) (gN:=q.gN) ?_ (hl q hq)
    simp only [oD,cond_false,Ap,hk,hq,hdo']
   ·cases hdo'
  have plain:∀{p:(ct->AV)->Option dg},kind op=.plan p->EK (p (ev st.env))->∃r,gp (fe prog) nt n0 ⟨dd,op,gd,false⟩ st=some (⟨e,H',nx'⟩,r)/\DE A V f r/\r.Jx=st.nx/\r.CY=nx':=
   fun hk hs=>plan hk (fun q hq=>JG (hs q hq))
  have call:∀{n:Nat} {args:List ct},(kind op=.call n args .borrow\/∃fv,kind op=.kn fv args .borrow/\ev st.env fv=.func n)->gJ AV.plain (args.map (ev st.env))=true->
    ∃r,gp (fe prog) nt n0 ⟨dd,op,gd,false⟩ st=some (⟨e,H',nx'⟩,r)/\DE A V f r/\r.Jx=st.nx/\r.CY=nx':=by
   intro n args hk hp
   have hd:h_ (fe prog) n (args.map (ev st.env)) .borrow st.H st.nx=some (v,H',nx'):=by
    rcases hk with hk|⟨fv,hk,hf⟩
    ·simpa only [q9,hk] using hdo'
    ·simpa only [q9,hk,hf] using hdo'
   have hH:H'=st.H/\nx'=st.nx:=by
    have hd':=hd
    simp only [h_,hp,cond_true] at hd'
    split at hd'
    ·cases hd';exact⟨rfl,rfl⟩
    ·cases hd'
   obtain⟨rfl,rfl⟩:=hH
   refine fin (jx:=[]) (gN:=[]) ?_ Fq
   rcases hk with hk|⟨fv,hk,hf⟩
   ·simp only [oD,cond_false,Ap,hk,i_,hp,cond_true,hd]
   ·simp only [oD,cond_false,Ap,hk,hf,i_,hp,cond_true,hd]
  cases op with
  |mv x=>exact plain rfl (gu _)
  |pick c a b=>
   refine plain (p:=fun ρ=>Cl ρ c a b) rfl ?_
   unfold Cl
   split
   ·split<;>exact gu _
   ·exact cu
  |alloc zero=>exact plain rfl (yf _ _)
  |box x=>
   refine plain (p:=fun ρ=>Jn ρ x) rfl ?_
   unfold Jn
   split
   ·exact yf _ _
   ·exact cu
  |build zero parts=>
   refine plain (p:=fun ρ=>yj ρ zero parts) rfl ?_
   unfold yj
   split
   ·exact gu _
   ·exact cu
  |sj es len zero parts=>
   refine plain (p:=fun ρ=>vw ρ es len zero parts) rfl ?_
   unfold vw
   split
   ·exact yf _ _
   ·exact cu
  |de len zero parts=>
   refine plain (p:=fun ρ=>jy ρ len zero parts) rfl ?_
   unfold jy
   split
   ·rw [cond_eq_ite]
    split
    ·exact gu _
    ·exact cu
   ·exact cu
  |load sz a=>
   simp only [Ie] at hf
   cases hf
   exact plan (p:=fun ρ=>vu ρ sz a) rfl (fun q hq=>ND hR hact h hq)
  |store sz a x=>
   simp only [Ie] at hf
   cases hf
   cases g with
   |none=>
    cases dd with
    |none=>exact plan (p:=fun ρ=>wk ρ sz a x) rfl (fun q hq=>KL hR h hq)
    |some _=>cases h
   |some _=>cases h
  |we x=>
   refine plain (p:=fun ρ=>uc ρ x) rfl ?_
   unfold uc
   split<;>first|exact gu _|exact cu
  |bin op x y=>exact plain (p:=fun ρ=>lq (Ko op (ρ x) (ρ y))) rfl (lO _)
  |eq t neg x y=>
   refine plain (p:=fun ρ=>Pp ρ t neg x y) rfl ?_
   unfold Pp
   split
   ·exact gu _
   ·exact cu
  |un op x=>exact plain (p:=fun ρ=>lq (Th op (ρ x))) rfl (lO _)
  |conv c x=>
   refine plain (p:=fun ρ=>DO ρ c x) rfl ?_
   unfold DO
   split
   ·exact gu _
   ·exact cu
  |Cx es bytes zero n=>
   refine plain (p:=fun ρ=>DN ρ es bytes zero n) rfl ?_
   unfold DN
   split
   ·split
    ·rw [cond_eq_ite]
     split
     ·exact yf _ _
     ·exact cu
    ·exact cu
   ·exact cu
  |sn x lo hi=>
   refine plain (p:=fun ρ=>z6 ρ x lo hi) rfl ?_
   unfold z6
   split
   ·split
    ·exact cu
    ·exact gu _
   ·exact cu
  |zb es x lo hi mx=>exact plain (p:=fun ρ=>lq (KO es ρ (ρ x) lo hi mx)) rfl (lO _)
  |Br n es x lo hi mx=>cases hf
  |uu off x=>
   refine plain (p:=fun ρ=>rq ρ off x) rfl ?_
   unfold rq
   split<;>first|exact gu _|exact cu
  |NN off sz x=>
   refine plain (p:=fun ρ=>Jl ρ off sz x) rfl ?_
   unfold Jl
   split
   ·split
    ·exact lO _
    ·exact cu
   ·exact cu
  |jg es x i=>
   refine plain (p:=fun ρ=>ud ρ es x i) rfl ?_
   unfold ud
   split
   ·split
    ·split
     ·split
      ·exact cu
      ·exact gu _
     ·exact cu
    ·rw [cond_eq_ite]
     split
     ·split
      ·exact gu _
      ·exact cu
     ·exact cu
    ·exact cu
   ·exact cu
  |uo len es x i=>
   refine plain (p:=fun ρ=>z7 ρ len es x i) rfl ?_
   unfold z7
   split
   ·split
    ·split<;>first|exact gu _|exact cu
    ·exact cu
   ·exact cu
  |idx x i=>
   refine plain (p:=fun ρ=>Jk ρ x i) rfl ?_
   unfold Jk
   split
   ·split
    ·split
     ·exact gu _
     ·exact cu
    ·exact cu
   ·exact cu
  |ext i x=>
   refine plain (p:=fun ρ=>Jm ρ i x) rfl ?_
   unfold Jm
   split
   ·exact lO _
   ·exact cu
  |app es bytes s x=>
   simp only [Ie] at hf
   cases hf
   exact plan (p:=fun ρ=>Bm es bytes (ρ s) (ρ x)) rfl (fun q hq=>QN hR hact h hq)
  |SF es dd s=>cases hf
  |SH es zero x=>cases hf
  |len str x=>
   refine plain (p:=fun ρ=>wm ρ str x) rfl ?_
   unfold wm
   split
   ·split
    ·exact gu _
    ·exact cu
   ·split<;>first|exact gu _|exact cu
  |KC mx xs=>
   refine plain (p:=fun ρ=>HZ ρ mx xs) rfl ?_
   unfold HZ
   split
   ·exact lO _
   ·exact cu
  |Bw=>cases h
  |Bv t zero ok m k=>cases hf
  |H8 t m k v=>cases hf
  |Gi m=>cases hf
  |call n args m=>
   cases m with
   |share=>cases hf
   |borrow=>
    simp only [Ie] at hf
    split at hf
    ·rename_i ht
     simp only [Bl] at h
     exact call (.inl rfl) (vk hR hact ht h)
    ·cases hf
  |kn fv args m=>
   cases m with
   |share=>cases hf
   |borrow=>
    simp only [Ie] at hf
    split at hf
    ·rename_i ht
     simp only [Bl] at h
     obtain⟨fvv,hfv,h⟩:=gm hR hact h
     cases g with
     |none=>
      obtain⟨n,rfl,h⟩:=h
      generalize he':ev st.env fv=p at hfv
      cases hfv
      exact call (.inr ⟨fv,rfl,he'⟩) (vk (g:=none) hR trivial ht h)
     |some q=>
      obtain⟨c,bb⟩:=q
      obtain⟨n,hn,h⟩:=h
      obtain rfl:=hn hact
      generalize he':ev st.env fv=p at hfv
      cases hfv
      exact call (.inr ⟨fv,rfl,he'⟩) (vk hR hact ht h)
    ·cases hf
end
end Go.Ax.V
