/- Part 1 of the proof: Ax2, Ax3, Ax4. -/
import Derived.Test.YtamgnhdbeecapaaCy0
import Derived.Deep.Upon
import Derived.Laws.CopyRow
import Derived.Orders
import Derived.RowKit3
set_option linter.unusedSimpArgs false
set_option linter.unusedVariables false
namespace Go.Ax
abbrev er:=Nat->Nat->Option (Nat×Nat)
abbrev aQ:=Nat->Option c9
inductive cZ (K:Nat->Prop) (w:World):AV->Value->Prop where
 |bool (b:Bool):cZ K w (.bool b) (.bool b)
 |int (k:IntKind) (n:Int):cZ K w (.int k n) (.int k n)
 |str (s:ByteArray):cZ K w (.str s) (.string s)
 |iM:cZ K w .iM (.pointer none)
 |ak:cZ K w .ak (.slice none 0 0)
 |func (f:Nat):cZ K w (.func f) (.func (.func f) #[] #[])
 |ej (cs:List AV) (b o off:Nat) (f:Nat->Value) (hK:K b) (hone:∀(j:Nat) (a:AV),cs[j]?=some a->a.one=true)
   (hc:∀j,j < cs.length->w.cell? ⟨b,o+j,none⟩=some (f j)) (hr:∀(j:Nat) (a:AV),cs[j]?=some a->cZ K w a (f j)) :
   cZ K w (.ej cs off) (.pointer (some ⟨b,o+off,none⟩))
 |bO (cs:List AV) (n:Nat) (cap:Option Nat) (ad:Addr) (c':Nat) (f:Nat->Value) (hK:cs≠[]->ad.spot=none/\K ad.block) (hn:n<=c') (hcap:∀c,cap=some c->c'=c)
   (hone:∀(j:Nat) (a:AV),cs[j]?=some a->a.one=true)
   (hc:∀j,j < cs.length->w.cell? ⟨ad.block,ad.off+j,none⟩=some (f j)) (hr:∀(j:Nat) (a:AV),cs[j]?=some a->cZ K w a (f j)) :
   cZ K w (.bO cs n cap) (.slice (some ad) n c')
 |agg (cs:List AV) (vs:Array Value) (hl:cs.length=vs.size) (hone:∀(j:Nat) (a:AV),cs[j]?=some a->a.one=true)
   (hr:∀(j:Nat) (a:AV) (v:Value),cs[j]?=some a->vs[j]?=some v->cZ K w a v):cZ K w (.agg cs) (.agg vs)
 |dc (cs:List AV) (vs:Array Value) (hl:cs.length=vs.size) (hr:∀(j:Nat) (a:AV) (v:Value),cs[j]?=some a->vs[j]?=some v->cZ K w a v) :
   cZ K w (.dc cs) (.tuple vs)
inductive aC (φ:er) (K:Nat->Prop) (w:World):AV->Value->Prop where
 |pure {a:AV} {v:Value} (h:cZ K w a v):aC φ K w a v
 |ptr (id g off b base:Nat) (h:φ id g=some (b,base)):aC φ K w (.ptr id g off) (.pointer (some ⟨b,base+off,none⟩))
 |ref (id g off es len cap:Nat) (ex:Bool) (b base:Nat) (ad:Addr) (c':Nat) (h:φ id g=some (b,base)) (hl:len<=cap) (hc:cap<=c') (hex:ex=true->c'=cap)
   (had:c'≠0->ad=⟨b,base+off,none⟩/\∃(c:Array Value) (e:TypeId) (fr:Nat×Nat),w.heap[b]?=some (Obj.cells c e fr)/\base+off+c'*es<=c.size) :
   aC φ K w (.ref id g off es len cap ex) (.slice (some ad) len c')
 |agg (cs:List AV) (vs:Array Value) (hl:cs.length=vs.size) (hone:∀(j:Nat) (a:AV),cs[j]?=some a->a.one=true)
   (hr:∀(j:Nat) (a:AV) (v:Value),cs[j]?=some a->vs[j]?=some v->aC φ K w a v):aC φ K w (.agg cs) (.agg vs)
 |dc (cs:List AV) (vs:Array Value) (hl:cs.length=vs.size) (hr:∀(j:Nat) (a:AV) (v:Value),cs[j]?=some a->vs[j]?=some v->aC φ K w a v) :
   aC φ K w (.dc cs) (.tuple vs)
 |iZ (id b:Nat) (h:φ id 0=some (b,0)):aC φ K w (.iZ id) (.map (some b))
def gen:c9->Nat
 |.row g _=>g
 |.map _=>0
def p9 (φ:er) (h:aQ) (b:Nat):Prop:=∃id ob base,h id=some ob/\φ id (gen ob)=some (b,base)
variable {top:Nat}
structure bt (top:Nat) (φ:er) (K:Nat->Prop) (h:aQ) (nx:Nat) (w:World):Prop where
 jd:∀b,K b->b < w.heap.size/\¬p9 φ h b
 row:∀id g cells,h id=some (.row g cells)->∃(b base:Nat) (c:Array Value) (e:TypeId),φ id g=some (b,base)/\w.heap[b]?=some (Obj.cells c e (0,0))/\base+cells.length<=c.size/\
  ∀(j:Nat) (a:AV),cells[j]?=some a->a.one=true/\∃v,c[base+j]?=some v/\aC φ K w a v
 map:∀id es,h id=some (.map es)->∃(b:Nat) (mes:Array MapEntry) (clk:Nat),φ id 0=some (b,0)/\w.heap[b]?=some (Obj.map mes clk)/\es.length=mes.size/\
  ∀(j:Nat) (k v:AV),es[j]?=some (k,v)->∃me,mes[j]?=some me/\aC φ K w k me.key/\aC φ K w v me.val
 inj:∀id id' ob ob' b base base',h id=some ob->h id'=some ob'->φ id (gen ob)=some (b,base)->φ id' (gen ob')=some (b,base')->id=id'
 low:∀id ob,h id=some ob->¬(nx<=id/\id < top)/\∀g,gen ob < g->φ id g=none
 new:∀id g,nx<=id->id < top->φ id g=none
structure Ext (M:Nat->Prop) (w w':World):Prop where
 size:w.heap.size<=w'.heap.size
 same:∀b,b < w.heap.size->¬M b->w'.heap[b]?=w.heap[b]?
 shape:∀(b:Nat) (c:Array Value) (e:TypeId) (fr:Nat×Nat),w.heap[b]?=some (Obj.cells c e fr)->∃c':Array Value,w'.heap[b]?=some (Obj.cells c' e fr)/\c'.size=c.size
 os:w'.os=w.os
 tape:w'.tape=w.tape
 output:w'.output=w.output
 fz:∀a,w'.frozen? a=w.frozen? a
theorem Ext.refl (M:Nat->Prop) (w:World):Ext M w w:=⟨LB _,fun _ _ _=>rfl,fun _ c _ _ h=>⟨c,h,rfl⟩,rfl,rfl,rfl,fun _=>rfl⟩
theorem Ext.trans {M M':Nat->Prop} {w w' w'':World} (h:Ext M w w') (h':Ext M' w' w'') (hM:∀b,M' b->M b\/w.heap.size<=b):Ext M w w'' where
 size:=Lz h.size h'.size
 same b hb hn:=by rw [h'.same b (Lv hb h.size) (fun hm=>(hM b hm).elim hn (fun hl=>Nat.lt_irrefl _ (Lv hb hl))),h.same b hb hn]
 shape b c e fr hb:=by obtain⟨c1,h1,hs1⟩:=h.shape b c e fr hb;obtain⟨c2,h2,hs2⟩:=h'.shape b c1 e fr h1;exact⟨c2,h2,hs2.trans hs1⟩
 os:=h'.os.trans h.os
 tape:=h'.tape.trans h.tape
 output:=h'.output.trans h.output
 fz a:=(h'.fz a).trans (h.fz a)
theorem Ext.mono {M M':Nat->Prop} {w w':World} (h:Ext M w w') (hM:∀b,M b->M' b):Ext M' w w':=
 ⟨h.size,fun b hb hn=>h.same b hb (fun hm=>hn (hM b hm)),h.shape,h.os,h.tape,h.output,h.fz⟩
theorem Ext.drew {M:Nat->Prop} {w w':World} (h:Ext M w w'):Ext M w w'.drew:=⟨h.size,h.same,h.shape,h.os,h.tape,h.output,h.fz⟩
theorem cell_of {w w':World} {b:Nat} (h:w'.heap[b]?=w.heap[b]?) (o:Nat):w'.cell? ⟨b,o,none⟩=w.cell? ⟨b,o,none⟩:=by simp only [World.cell?,h]
theorem cZ.keep {K K':Nat->Prop} {w w':World} (hK:∀b,K b->K' b) (hw:∀b,K b->w'.heap[b]?=w.heap[b]?) {a:AV} {v:Value} (h:cZ K w a v):cZ K' w' a v:=by
 induction h with
 |bool b=>exact .bool b
 |int k n=>exact .int k n
 |str s=>exact .str s
 |iM=>exact .iM
 |ak=>exact .ak
 |func f=>exact .func f
 |ej cs b o off f hKb hone hc hr ih=>exact .ej cs b o off f (hK b hKb) hone (fun j hj=>by rw [cell_of (hw b hKb)];exact hc j hj) ih
 |bO cs n cap ad c' f hKb hn hcap hone hc hr ih=>
  refine .bO cs n cap ad c' f (fun hne=>⟨(hKb hne).1,hK _ (hKb hne).2⟩) hn hcap hone (fun j hj=>?_) ih;have hne:cs≠[]:=by rintro rfl;simp at hj
  rw [cell_of (hw _ (hKb hne).2)];exact hc j hj
 |agg cs vs hl hone hr ih=>exact .agg cs vs hl hone ih
 |dc cs vs hl hr ih=>exact .dc cs vs hl ih
theorem aC.keep {φ φ':er} {K K':Nat->Prop} {w w':World} (hφ:∀id g p,φ id g=some p->φ' id g=some p) (hK:∀b,K b->K' b) (hw:∀b,K b->w'.heap[b]?=w.heap[b]?)
  (hs:∀(b:Nat) (c:Array Value) (e:TypeId) (fr:Nat×Nat),w.heap[b]?=some (Obj.cells c e fr)->∃c':Array Value,w'.heap[b]?=some (Obj.cells c' e fr)/\c'.size=c.size) {a:AV} {v:Value} (h:aC φ K w a v):aC φ' K' w' a v:=by
 induction h with
 |pure h=>exact .pure (h.keep hK hw)
 |ptr id g off b base h=>exact .ptr id g off b base (hφ _ _ _ h)
 |ref id g off es len cap ex b base ad c' h hl hc hex had=>refine .ref id g off es len cap ex b base ad c' (hφ _ _ _ h) hl hc hex (fun h0=>?_);obtain⟨h1,c,e,fr,h2,h3⟩:=had h0;obtain⟨c1,h4,h5⟩:=hs b c e fr h2;exact⟨h1,c1,e,fr,h4,by rw [h5];exact h3⟩
 |agg cs vs hl hone hr ih=>exact .agg cs vs hl hone ih
 |dc cs vs hl hr ih=>exact .dc cs vs hl ih
 |iZ id b h=>exact .iZ id b (hφ _ _ _ h)
structure bR (top:Nat) (φ:er) (K:Nat->Prop) (h:aQ) (nx:Nat) (w:World) (φ':er) (K':Nat->Prop) (h':aQ) (nx':Nat) (w':World):Prop where
 yt:∀id g p,φ id g=some p->φ' id g=some p
 k:∀b,K b->K' b
 lq:bt top φ' K' h' nx' w'
 ext:Ext (p9 φ h) w w'
 mu:∀b,p9 φ' h' b->p9 φ h b\/w.heap.size<=b
 qi:∀b,K' b->K b\/w.heap.size<=b\/p9 φ h b
 fr:∀id g p,φ' id g=some p->φ id g=some p\/(nx<=id/\id < nx')\/(h id).isSome=true
 dom:∀id,(h' id).isSome=true->(h id).isSome=true\/(nx<=id/\id < nx')
 nx:nx<=nx'
theorem bR.refl {φ:er} {K:Nat->Prop} {h:aQ} {nx:Nat} {w:World} (s:bt top φ K h nx w):bR top φ K h nx w φ K h nx w:=
 ⟨fun _ _ _ h=>h,fun _ h=>h,s,Ext.refl _ _,fun _ h=>.inl h,fun _ h=>.inl h,fun _ _ _ h=>.inl h,fun _ h=>.inl h,LB _⟩
theorem bR.trans {φ φ' φ'':er} {K K' K'':Nat->Prop} {h h' h'':aQ} {nx nx' nx'':Nat} {w w' w'':World} (g:bR top φ K h nx w φ' K' h' nx' w') (g':bR top φ' K' h' nx' w' φ'' K'' h'' nx'' w'') :
  bR top φ K h nx w φ'' K'' h'' nx'' w'' where
 yt id gg p hp:=g'.yt _ _ _ (g.yt _ _ _ hp)
 k b hb:=g'.k b (g.k b hb)
 lq:=g'.lq
 ext:=g.ext.trans g'.ext g.mu
 mu b hb:=(g'.mu b hb).elim (g.mu b) (fun hl=>.inr (Lz g.ext.size hl))
 qi b hb:=by
  rcases g'.qi b hb with h1|h1|h1
  ·exact g.qi b h1
  ·exact .inr (.inl (Lz g.ext.size h1))
  ·rcases g.mu b h1 with h2|h2
   ·exact .inr (.inr h2)
   ·exact .inr (.inl h2)
 fr id gg p hp:=by
  have l1:=g.nx;have l2:=g'.nx;rcases g'.fr id gg p hp with h1|h1|h1
  ·rcases g.fr id gg p h1 with h2|h2|h2
   ·exact .inl h2
   ·exact .inr (.inl (by omega))
   ·exact .inr (.inr h2)
  ·exact .inr (.inl (by omega))
  ·rcases g.dom id h1 with h2|h2
   ·exact .inr (.inr h2)
   ·exact .inr (.inl (by omega))
 dom id hd:=by
  have l1:=g.nx;have l2:=g'.nx;rcases g'.dom id hd with h1|h1
  ·rcases g.dom id h1 with h2|h2
   ·exact .inl h2
   ·exact .inr (by omega)
  ·exact .inr (by omega)
 nx:=Lz g.nx g'.nx
theorem bR.val {φ φ':er} {K K':Nat->Prop} {h h':aQ} {nx nx':Nat} {w w':World} (s:bt top φ K h nx w) (g:bR top φ K h nx w φ' K' h' nx' w') {a:AV} {v:Value} (r:aC φ K w a v):aC φ' K' w' a v:=
 r.keep g.yt g.k (fun b hb=>g.ext.same b (s.jd b hb).1 (s.jd b hb).2) g.ext.shape
theorem bt.congr {φ:er} {K:Nat->Prop} {h h':aQ} {nx:Nat} {w:World} (s:bt top φ K h nx w) (e:∀id,h' id=h id):bt top φ K h' nx w:=by obtain rfl:h'=h:=funext e;exact s
theorem bt.drew {φ:er} {K:Nat->Prop} {h:aQ} {nx:Nat} {w:World} (s:bt top φ K h nx w):bt top φ K h nx w.drew:=by
 have hv:∀{a:AV} {v:Value},aC φ K w a v->aC φ K w.drew a v:=fun r=>aC.keep (w:=w) (w':=w.drew) (fun _ _ _ h=>h) (fun _ h=>h) (fun _ _=>rfl) (fun _ c _ _ h=>⟨c,h,rfl⟩) r
 refine⟨s.jd,fun id g cells hh=>?_,fun id es hh=>?_,s.inj,s.low,s.new⟩
 ·obtain⟨b,base,c,e,h1,h2,h3,h4⟩:=s.row id g cells hh;exact⟨b,base,c,e,h1,h2,h3,fun j a ha=>⟨(h4 j a ha).1,let ⟨v,hv1,hv2⟩:=(h4 j a ha).2;⟨v,hv1,hv hv2⟩⟩⟩
 ·obtain⟨b,mes,clk,h1,h2,h3,h4⟩:=s.map id es hh;exact⟨b,mes,clk,h1,h2,h3,fun j k v hj=>let ⟨me,m1,m2,m3⟩:=h4 j k v hj;⟨me,m1,hv m2,hv m3⟩⟩
theorem bt.part {φ:er} {K:Nat->Prop} {h h':aQ} {nx:Nat} {w:World} (s:bt top φ K h nx w) (e:∀id o,h' id=some o->h id=some o):bt top φ K h' nx w:=
 ⟨fun b hb=>⟨(s.jd b hb).1,fun ⟨id,ob,base,h1,h2⟩=>(s.jd b hb).2 ⟨id,ob,base,e _ _ h1,h2⟩⟩,fun id g cells hh=>s.row id g cells (e _ _ hh),fun id es hh=>s.map id es (e _ _ hh),
  fun id id' ob ob' b base base' h1 h2=>s.inj id id' ob ob' b base base' (e _ _ h1) (e _ _ h2),fun id ob hh=>s.low id ob (e _ _ hh),s.new⟩
def tM (h:aQ) (id:Nat) (ob:Option c9):aQ:=fun j=>if j=id then ob else h j
theorem bW (h:aQ) (id:Nat) (ob:Option c9):tM h id ob id=ob:=if_pos rfl
theorem aZ (h:aQ) {id j:Nat} (ob:Option c9) (hne:j≠id):tM h id ob j=h j:=if_neg hne
theorem nc (w:World) (ob:Obj) {b:Nat} (h:b < w.heap.size):(w.alloc ob).heap[b]?=w.heap[b]?:=by show (w.heap.push ob)[b]?=_;rw [Array.getElem?_push,if_neg (by omega)]
theorem iy (w:World) (ob:Obj):(w.alloc ob).heap[w.heap.size]?=some ob:=by show (w.heap.push ob)[w.heap.size]?=_;rw [Array.getElem?_push,if_pos rfl]
theorem uU {φ:er} {K:Nat->Prop} {h:aQ} {nx:Nat} {w:World} (s:bt top φ K h nx w) (qxm:nx < top) (cells:List AV) (c:Array Value) (e:TypeId) (hl:cells.length<=c.size)
  (hone:∀(j:Nat) (a:AV),cells[j]?=some a->a.one=true) (hr:∀(j:Nat) (a:AV),cells[j]?=some a->∃v,c[j]?=some v/\aC φ K w a v) :
  bR top φ K h nx w (fun id g=>if id=nx/\g=0 then some (w.heap.size,0) else φ id g) K (tM h nx (some (.row 0 cells))) (nx+1) (w.alloc (.cells c e)):=by
 have qxM:∀id g p,φ id g=some p->(if id=nx/\g=0 then some (w.heap.size,0) else φ id g)=some p:=by
  intro id g p hp;rw [if_neg]
  ·exact hp
  ·rintro⟨rfl,rfl⟩;rw [s.new _ _ (LB _) qxm] at hp;cases hp
 have hsame:∀b,b < w.heap.size->(w.alloc (.cells c e)).heap[b]?=w.heap[b]?:=fun b hb=>nc w _ hb
 have qxj:∀(b:Nat) (c0:Array Value) (e0:TypeId) (fr:Nat×Nat),w.heap[b]?=some (Obj.cells c0 e0 fr)->∃c':Array Value,(w.alloc (.cells c e)).heap[b]?=some (Obj.cells c' e0 fr)/\c'.size=c0.size:=by intro b c0 e0 fr hb;have hlt:b < w.heap.size:=(Array.getElem?_eq_some_iff.1 hb).1;exact⟨c0,by rw [hsame b hlt];exact hb,rfl⟩
 have hval:∀{a:AV} {v:Value},aC φ K w a v->aC (fun id g=>if id=nx/\g=0 then some (w.heap.size,0) else φ id g) K (w.alloc (.cells c e)) a v:=
  fun r=>r.keep qxM (fun _ h=>h) (fun b hb=>hsame b (s.jd b hb).1) qxj
 have hold:∀id ob,h id=some ob->id≠nx:=fun id ob hh he=>by have:=(s.low id ob hh).1;omega
 have qxS:∀b,p9 (fun id g=>if id=nx/\g=0 then some (w.heap.size,0) else φ id g) (tM h nx (some (.row 0 cells))) b->p9 φ h b\/w.heap.size<=b:=by
  rintro b ⟨id,ob,base,h1,h2⟩;by_cases hid:id=nx
  ·subst hid;rw [bW] at h1;cases h1;simp [gen] at h2;omega
  ·rw [aZ _ _ hid] at h1;simp only [hid,false_and,if_false] at h2;exact .inl ⟨id,ob,base,h1,h2⟩
 have qja:∀id ob b base,h id=some ob->φ id (gen ob)=some (b,base)->b < w.heap.size:=by
  intro id ob b base hh hp;cases ob with
  |row g cells'=>obtain⟨b1,qq8,c1,e1,h1,h2,_⟩:=s.row id g cells' hh;simp only [gen] at hp;rw [h1] at hp;cases hp;exact(Array.getElem?_eq_some_iff.1 h2).1
  |map es=>obtain⟨b1,mes,clk,h1,h2,_⟩:=s.map id es hh;simp only [gen] at hp;rw [h1] at hp;cases hp;exact(Array.getElem?_eq_some_iff.1 h2).1
 refine⟨qxM,fun _ h=>h,⟨fun b hb=>⟨?_,fun hm=>?_⟩,fun id g cells' hh=>?_,fun id es hh=>?_,fun id id' ob ob' b base base' h1 h2 p1 p2=>?_,fun id ob hh=>?_,fun id g hid=>?_⟩,
  ⟨by rw [World.size_alloc];omega,fun b hb _=>hsame b hb,qxj,rfl,rfl,rfl,fun a=>RowKit.frozen?_alloc_cells w c e a⟩,qxS,fun _ h=>.inl h,fun id g p hp=>?_,fun id hd=>?_,Nat.le_succ _⟩
 ·have:=(s.jd b hb).1;rw [World.size_alloc];omega
 ·rcases qxS b hm with h1|h1
  ·exact(s.jd b hb).2 h1
  ·have:=(s.jd b hb).1;omega
 ·by_cases hid:id=nx
  ·subst hid;rw [bW] at hh;cases hh;refine⟨w.heap.size,0,c,e,by simp,iy w _,by omega,fun j a ha=>⟨hone j a ha,?_⟩⟩;obtain⟨v,hv1,hv2⟩:=hr j a ha;exact⟨v,by simpa using hv1,hval hv2⟩
  ·rw [aZ _ _ hid] at hh;obtain⟨b,base,c1,e1,h1,h2,h3,h4⟩:=s.row id g cells' hh;refine⟨b,base,c1,e1,qxM _ _ _ h1,by rw [hsame b (Array.getElem?_eq_some_iff.1 h2).1];exact h2,h3,fun j a ha=>⟨(h4 j a ha).1,?_⟩⟩;obtain⟨v,hv1,hv2⟩:=(h4 j a ha).2;exact⟨v,hv1,hval hv2⟩
 ·by_cases hid:id=nx
  ·subst hid;rw [bW] at hh;cases hh
  ·rw [aZ _ _ hid] at hh;obtain⟨b,mes,clk,h1,h2,h3,h4⟩:=s.map id es hh;refine⟨b,mes,clk,qxM _ _ _ h1,by rw [hsame b (Array.getElem?_eq_some_iff.1 h2).1];exact h2,h3,fun j k v hj=>?_⟩;obtain⟨me,m1,m2,m3⟩:=h4 j k v hj;exact⟨me,m1,hval m2,hval m3⟩
 ·by_cases hid:id=nx
  ·by_cases qxs:id'=nx
   ·omega
   ·subst hid;rw [bW] at h1;cases h1;rw [aZ _ _ qxs] at h2;simp [gen] at p1;simp only [qxs,false_and,if_false] at p2;have:=qja id' ob' b base' h2 p2;omega
  ·rw [aZ _ _ hid] at h1;simp only [hid,false_and,if_false] at p1;by_cases qxs:id'=nx
   ·subst qxs;rw [bW] at h2;cases h2;simp [gen] at p2;have:=qja id ob b base h1 p1;omega
   ·rw [aZ _ _ qxs] at h2;simp only [qxs,false_and,if_false] at p2;exact s.inj id id' ob ob' b base base' h1 h2 p1 p2
 ·by_cases hid:id=nx
  ·subst hid;rw [bW] at hh;cases hh;refine⟨by omega,fun g hg=>?_⟩;simp only [gen] at hg;rw [if_neg (by omega)];exact s.new _ _ (LB _) qxm
  ·rw [aZ _ _ hid] at hh;refine⟨by have:=(s.low id ob hh).1;omega,fun g hg=>?_⟩;rw [if_neg (by omega)];exact(s.low id ob hh).2 g hg
 ·intro ht;show (if id=nx/\g=0 then _ else _)=_;rw [if_neg (by omega)];exact s.new _ _ (by omega) ht
 ·by_cases hc:id=nx/\g=0
  ·exact .inr (.inl (by omega))
  ·exact .inl (by rwa [if_neg hc] at hp)
 ·by_cases hid:id=nx
  ·exact .inr (by omega)
  ·rw [aZ _ _ hid] at hd;exact .inl hd
theorem dI {φ:er} {K:Nat->Prop} {h:aQ} {nx:Nat} {w:World} (s:bt top φ K h nx w) {id:Nat} {ob:c9} {b base:Nat} (hh:h id=some ob) (hp:φ id (gen ob)=some (b,base)):b < w.heap.size:=by
 cases ob with
 |row g cells'=>obtain⟨b1,qq8,c1,e1,h1,h2,_⟩:=s.row id g cells' hh;simp only [gen] at hp;rw [h1] at hp;cases hp;exact(Array.getElem?_eq_some_iff.1 h2).1
 |map es=>obtain⟨b1,mes,clk,h1,h2,_⟩:=s.map id es hh;simp only [gen] at hp;rw [h1] at hp;cases hp;exact(Array.getElem?_eq_some_iff.1 h2).1
theorem kG (w:World) {b:Nat} {c:Array Value} {e:TypeId} {fr:Nat×Nat} (hb:w.heap[b]?=some (.cells c e fr)) (c':Array Value) (a:Addr):(w.setRow b c').frozen? a=w.frozen? a:=by
 by_cases h:a.block=b
 ·have h1:=setRow_heap w b c c' e fr hb;rw [←h] at h1 hb;simp only [World.frozen?,h,h1,hb];rw [h] at h1 hb;rw [h1,hb]
 ·exact World.frozen?_of_block (setRow_other w b _ c' h)
theorem pe {φ φ':er} {K:Nat->Prop} {h:aQ} {nx:Nat} {w w':World} (s:bt top φ K h nx w) {id:Nat} {g:Nat} {cells:List AV} (hh:h id=some (.row g cells)) {b base:Nat} (hb:φ id g=some (b,base))
  (g':Nat) (cells':List AV) (b' base':Nat) (c':Array Value) (e':TypeId) (hφ:∀i gg,φ' i gg=if i=id/\gg=g' then some (b',base') else φ i gg)
  (hg:(g'=g/\b'=b/\base'=base)\/g < g') (hb':b'=b\/b'=w.heap.size)
  (hw:w'.heap[b']?=some (.cells c' e' (0,0))) (hot:∀i,i < w.heap.size->i≠b'->w'.heap[i]?=w.heap[i]?) (hsz:w.heap.size<=w'.heap.size)
  (qxj:∀(c:Array Value) (e:TypeId) (fr:Nat×Nat),w.heap[b']?=some (Obj.cells c e fr)->e'=e/\fr=(0,0)/\c'.size=c.size)
  (hfz:∀a,w'.frozen? a=w.frozen? a) (hos:w'.os=w.os) (qzK:w'.tape=w.tape) (hout:w'.output=w.output) (hl:base'+cells'.length<=c'.size)
  (hr:∀(j:Nat) (a:AV),cells'[j]?=some a->a.one=true/\∃v,c'[base'+j]?=some v/\aC φ K w a v) :
  bR top φ K h nx w φ' K (tM h id (some (.row g' cells'))) nx w':=by
 have qxM:∀i gg p,φ i gg=some p->φ' i gg=some p:=by
  intro i gg p hp;rw [hφ];by_cases hc:i=id/\gg=g'
  ·obtain⟨rfl,rfl⟩:=hc;rw [if_pos ⟨rfl,rfl⟩];rcases hg with ⟨rfl,rfl,rfl⟩|hg
   ·rw [hb] at hp;exact hp
   ·rw [(s.low _ _ hh).2 gg (by simpa [gen] using hg)] at hp;cases hp
  ·rw [if_neg hc];exact hp
 have qjw:b < w.heap.size:=dI s hh (by simpa [gen] using hb);have qx0:p9 φ h b:=⟨id,_,base,hh,by simpa [gen] using hb⟩;have qxB:∀(i:Nat) (c:Array Value) (e:TypeId) (fr:Nat×Nat),w.heap[i]?=some (Obj.cells c e fr)->∃c1:Array Value,w'.heap[i]?=some (Obj.cells c1 e fr)/\c1.size=c.size:=by
  intro i c e fr hi;have hlt:i < w.heap.size:=(Array.getElem?_eq_some_iff.1 hi).1;by_cases hib:i=b'
  ·subst hib;obtain⟨rfl,rfl,hs⟩:=qxj c e fr hi;exact⟨c',hw,hs⟩
  ·exact⟨c,by rw [hot i hlt hib];exact hi,rfl⟩
 have hKb:∀i,K i->i≠b':=by
  intro i hi hib;subst hib;rcases hb' with rfl|rfl
  ·exact(s.jd _ hi).2 qx0
  ·exact Nat.lt_irrefl _ (s.jd _ hi).1
 have hval:∀{a:AV} {v:Value},aC φ K w a v->aC φ' K w' a v:=
  fun r=>aC.keep qxM (fun _ h=>h) (fun i hi=>hot i (s.jd i hi).1 (hKb i hi)) qxB r
 have qxq:∀i ob p,i≠id->h i=some ob->φ' i (gen ob)=some p->φ i (gen ob)=some p:=by intro i ob p hne _ hp;rw [hφ,if_neg (fun hc=>hne hc.1)] at hp;exact hp
 have qxF:∀i ob qq8,i≠id->h i=some ob->φ i (gen ob)=some (b',qq8)->False:=by
  intro i ob qq8 hne hi hp;rcases hb' with rfl|rfl
  ·exact hne (s.inj i id ob _ _ qq8 base hi hh hp (by simpa [gen] using hb))
  ·exact Nat.lt_irrefl _ (dI s hi hp)
 have qxS:∀i,p9 φ' (tM h id (some (.row g' cells'))) i->p9 φ h i\/w.heap.size<=i:=by
  rintro i ⟨id1,ob,qq8,h1,h2⟩;by_cases hid:id1=id
  ·subst hid;rw [bW] at h1;cases h1;simp only [gen] at h2;rw [hφ,if_pos ⟨rfl,rfl⟩] at h2;cases h2;rcases hb' with rfl|rfl
   ·exact .inl qx0
   ·exact .inr (LB _)
  ·rw [aZ _ _ hid] at h1;exact .inl ⟨id1,ob,qq8,h1,qxq _ _ _ hid h1 h2⟩
 refine⟨qxM,fun _ h=>h,⟨fun i hi=>⟨Lv (s.jd i hi).1 hsz,fun hm=>?_⟩,fun id1 g1 qxt h1=>?_,fun id1 es h1=>?_,fun id1 id2 ob1 ob2 i qq8 qzD h1 h2 p1 p2=>?_,fun id1 ob h1=>?_,fun id1 gg hid=>?_⟩,
  ⟨hsz,fun i hi hn=>hot i hi ?_,qxB,hos,qzK,hout,hfz⟩,qxS,fun _ h=>.inl h,fun i gg p hp=>?_,fun i hd=>?_,LB _⟩
 ·rcases qxS i hm with h1|h1
  ·exact(s.jd i hi).2 h1
  ·exact Nat.lt_irrefl _ (Lv (s.jd i hi).1 h1)
 ·by_cases hid:id1=id
  ·subst hid;rw [bW] at h1;cases h1;refine⟨b',base',c',e',by rw [hφ,if_pos ⟨rfl,rfl⟩],hw,hl,fun j a ha=>⟨(hr j a ha).1,?_⟩⟩;obtain⟨v,hv1,hv2⟩:=(hr j a ha).2;exact⟨v,hv1,hval hv2⟩
  ·rw [aZ _ _ hid] at h1;obtain⟨b1,qq8,c1,e1,h2,h3,h4,h5⟩:=s.row id1 g1 qxt h1;have qzS:b1≠b':=fun he=>qxF id1 _ qq8 hid h1 (by subst he;simpa [gen] using h2)
   refine⟨b1,qq8,c1,e1,qxM _ _ _ h2,by rw [hot b1 (Array.getElem?_eq_some_iff.1 h3).1 qzS];exact h3,h4,fun j a ha=>⟨(h5 j a ha).1,?_⟩⟩;obtain⟨v,hv1,hv2⟩:=(h5 j a ha).2;exact⟨v,hv1,hval hv2⟩
 ·by_cases hid:id1=id
  ·subst hid;rw [bW] at h1;cases h1
  ·rw [aZ _ _ hid] at h1;obtain⟨b1,mes,clk,h2,h3,h4,h5⟩:=s.map id1 es h1;have qzS:b1≠b':=fun he=>qxF id1 _ 0 hid h1 (by subst he;simpa [gen] using h2)
   refine⟨b1,mes,clk,qxM _ _ _ h2,by rw [hot b1 (Array.getElem?_eq_some_iff.1 h3).1 qzS];exact h3,h4,fun j k v hj=>?_⟩;obtain⟨me,m1,m2,m3⟩:=h5 j k v hj;exact⟨me,m1,hval m2,hval m3⟩
 ·by_cases qx9:id1=id
  ·by_cases qx6:id2=id
   ·omega
   ·exfalso;subst qx9;rw [bW] at h1;cases h1;rw [aZ _ _ qx6] at h2;simp only [gen] at p1;rw [hφ,if_pos ⟨rfl,rfl⟩] at p1;cases p1;exact qxF id2 ob2 qzD qx6 h2 (qxq _ _ _ qx6 h2 p2)
  ·by_cases qx6:id2=id
   ·exfalso;subst qx6;rw [bW] at h2;cases h2;rw [aZ _ _ qx9] at h1;simp only [gen] at p2;rw [hφ,if_pos ⟨rfl,rfl⟩] at p2;cases p2;exact qxF id1 ob1 qq8 qx9 h1 (qxq _ _ _ qx9 h1 p1)
   ·rw [aZ _ _ qx9] at h1;rw [aZ _ _ qx6] at h2;exact s.inj id1 id2 ob1 ob2 i qq8 qzD h1 h2 (qxq _ _ _ qx9 h1 p1) (qxq _ _ _ qx6 h2 p2)
 ·by_cases hid:id1=id
  ·subst hid;rw [bW] at h1;cases h1;refine⟨(s.low _ _ hh).1,fun gg hgg=>?_⟩;simp only [gen] at hgg;rw [hφ,if_neg (by omega)];refine(s.low _ _ hh).2 gg ?_;simp only [gen];omega
  ·rw [aZ _ _ hid] at h1;refine⟨(s.low id1 ob h1).1,fun gg hgg=>?_⟩;rw [hφ,if_neg (fun hc=>hid hc.1)];exact(s.low id1 ob h1).2 gg hgg
 ·intro ht;rw [hφ,if_neg]
  ·exact s.new id1 gg hid ht
  ·rintro⟨rfl,rfl⟩;exact(s.low _ _ hh).1 ⟨hid,ht⟩
 ·rintro rfl;rcases hb' with rfl|rfl
  ·exact hn qx0
  ·exact Nat.lt_irrefl _ hi
 ·by_cases hc:i=id/\gg=g'
  ·rw [hc.1,hh];exact .inr (.inr rfl)
  ·rw [hφ,if_neg hc] at hp;exact .inl hp
 ·by_cases hid:i=id
  ·rw [hid,hh];exact .inl rfl
  ·rw [aZ _ _ hid] at hd;exact .inl hd
end Go.Ax
namespace Go.Ax
noncomputable def cM (h:aQ):Option vr->Option (List AV)
 |none=>some []
 |some r=>match h r.id with
  |some (.row g cells)=>bif Nat.beq g r.g then cut cells r.off r.len else none
  |_=>none
def fq (h:aQ):Option Nat->Option (Option c9)
 |none=>some none
 |some id=>match h id with
  |some o=>some (some o)
  |none=>none
def nK (h:aQ) (u:Option Nat) (ob:Option c9):aQ:=match ob with
 |none=>h
 |some ob=>match u with
  |some id=>tM h id (some ob)
  |none=>h
noncomputable def mC (p:aJ) (h:aQ) (nx:Nat):Option (AV×aQ×Nat):=match p with
 |.val v=>some (v,h,nx)
 |.new f o=>some (f nx,tM h nx (some o),nx+1)
 |.look q u k=>match cM h q with
  |none=>none
  |some a=>match fq h u with
   |none=>none
   |some o=>match k a o with
    |none=>none
    |some out=>match out.new with
     |some ob=>some (out.val nx,tM (nK h u out.obj) nx (some ob),nx+1)
     |none=>some (out.val nx,nK h u out.obj,nx)
theorem jy (H:aE) (id:Nat) (ob:Option c9):(H.put ob id).get=tM H.get id ob:=by funext j;rw [Map.au];rfl
theorem xQ (H:aE) (q:Option vr):cg H q=cM H.get q:=by cases q<;>rfl
theorem Bg (H:aE) (u:Option Nat):eG H u=fq H.get u:=by cases u<;>rfl
theorem zx (H:aE) (u:Option Nat) (ob:Option c9):(mz H u ob).get=nK H.get u ob:=by
 cases ob with
 |none=>rfl
 |some ob=>cases u with
  |none=>rfl
  |some id=>exact jy H id _
theorem qw {p:aJ} {H H':aE} {nx nx':Nat} {v:AV} (hr:bD p H nx=some (v,H',nx')):mC p H.get nx=some (v,H'.get,nx'):=by
 cases p with
 |val v=>cases hr;rfl
 |new f o=>cases hr;rw [jy];rfl
 |look q u k=>
  simp only [bD,c5,xQ,Bg] at hr;simp only [mC];cases hq:cM H.get q with
  |none=>rw [hq] at hr;cases hr
  |some a=>
   rw [hq] at hr;simp only at hr ⊢;cases hu:fq H.get u with
   |none=>rw [hu] at hr;cases hr
   |some o=>
    rw [hu] at hr;simp only at hr ⊢;cases hk:k a o with
    |none=>rw [hk] at hr;cases hr
    |some out=>
     rw [hk] at hr;simp only at hr ⊢;cases hn:out.new with
     |none=>rw [hn] at hr;cases hr;simp only [zx]
     |some ob=>rw [hn] at hr;cases hr;simp only [jy,zx]
def Sound (top:Nat) (P:Program) (φ:er) (K:Nat->Prop) (h:aQ) (nx:Nat) (w:World) (ρc:Operand->Value) (o:Oper) (p:aJ):Prop:=
 ∀v h' nx',mC p h nx=some (v,h',nx')->nx'<=top->∃V w' φ' K',((execOp ρc o).run P w=.ok (.value V) w'\/((execOp ρc o).run P w=.ok .skip w'/\V=undef))/\bR top φ K h nx w φ' K' h' nx' w'/\aC φ' K' w' v V
def Cv:Value->AV->Bool
 |.bool a,.bool b=>a == b
 |.int k n,.int k' n'=>zb k k'&&yT n n'
 |.string s,.str s'=>s.data.toList == s'.data.toList
 |.slice none 0 0,.ak=>true
 |.pointer none,.iM=>true
 |_,_=>false
def rm:List Value->List AV->Bool
 |[],[]=>true
 |v::vs,a::as=>Cv v a&&rm vs as
 |_,_=>false
def aY:Operand->aD->Bool
 |.tmp n,.t m=>Nat.beq n m
 |.const v,.c a=>Cv v a
 |.func f,.c (.func g)=>Nat.beq f g
 |_,_=>false
def nB:List Operand->List aD->Bool
 |[],[]=>true
 |v::vs,a::as=>aY v a&&nB vs as
 |_,_=>false
def nO:Option Operand->Option aD->Bool
 |none,none=>true
 |some x,some y=>aY x y
 |_,_=>false
theorem oQ {v:Value} {a:AV} (h:Cv v a=true) (K:Nat->Prop) (w:World):cZ K w a v/\a.one=true/\v.oneCell'=true:=by
 unfold Cv at h;split at h
 ·simp at h;subst h;exact⟨.bool _,rfl,rfl⟩
 ·simp [kZ] at h;obtain⟨h1,rfl⟩:=h;have:=mZ h1;subst this;exact⟨.int _ _,rfl,rfl⟩
 ·rename_i s s';have e:s=s':=by cases s;cases s';simp at h;simp [h]
  subst e;exact⟨.str _,rfl,rfl⟩
 ·exact⟨.ak,rfl,rfl⟩
 ·exact⟨.iM,rfl,rfl⟩
 ·cases h
theorem rj {vs:List Value} {as:List AV} (h:rm vs as=true) (K:Nat->Prop) (w:World) :
  as.length=vs.length/\(∀(j:Nat) (a:AV),as[j]?=some a->a.one=true/\∃v,vs[j]?=some v/\cZ K w a v)/\∀v∈vs,v.oneCell'=true:=by
 induction vs generalizing as with
 |nil=>cases as with
  |nil=>exact⟨rfl,fun j a ha=>by simp at ha,fun v hv=>by cases hv⟩
  |cons a as=>cases h
 |cons v vs ih=>cases as with
  |nil=>cases h
  |cons a as=>
   simp only [rm,Lm] at h;obtain⟨h1,h2,h3⟩:=ih h.2;obtain⟨r1,r2,r3⟩:=oQ h.1 K w;refine⟨by simp [h1],fun j a' ha'=>?_,fun v' hv'=>?_⟩
   ·cases j with
    |zero=>simp at ha';subst ha';exact⟨r2,v,rfl,r1⟩
    |succ j=>simpa using h2 j a' (by simpa using ha')
   ·rcases Lh.1 hv' with rfl|hm
    ·exact r3
    ·exact h3 v' hm
section
variable {top:Nat} {P:Program} {φ:er} {K:Nat->Prop} {h:aQ} {nx:Nat} {w:World}
theorem v8 {a:AV} {v:Value} (r:aC φ K w a v) (h1:a.one=true):v.oneCell'=true:=by
 cases r with
 |pure r=>cases r<;>first|rfl|cases h1
 |agg=>cases h1
 |dc=>cases h1
 |_=>rfl
theorem eZ (s:bt top φ K h nx w) {id g off n:Nat} {cs:List AV} (hf:cM h (some ⟨id,g,off,n⟩)=some cs) :
  ∃(b base:Nat) (c:Array Value) (e:TypeId),φ id g=some (b,base)/\w.heap[b]?=some (.cells c e (0,0))/\base+(off+n)<=c.size/\cs.length=n/\
   ∀(j:Nat) (a:AV),cs[j]?=some a->a.one=true/\∃v,c[base+off+j]?=some v/\aC φ K w a v:=by
 simp only [cM] at hf;cases hh:h id with
 |none=>rw [hh] at hf;cases hf
 |some ob=>
  rw [hh] at hf;cases ob with
  |map es=>cases hf
  |row g' cells=>
   simp only [cond_eq_ite,Lq] at hf;split at hf
   ·rename_i hg;subst hg;obtain⟨b,base,c,e,h1,h2,h3,h4⟩:=s.row id g' cells hh;obtain⟨hl,hat⟩:=tg hf;have hfit:=(ek hf).1;refine⟨b,base,c,e,h1,h2,by omega,hl,fun j a ha=>?_⟩;have hj:j < n:=by
     rcases Nat.lt_or_ge j cs.length with hj|hj
     ·omega
     ·rw [K5 hj] at ha;cases ha
    rw [hat j hj] at ha;obtain⟨h5,v,h6,h7⟩:=h4 (off+j) a ha;exact⟨h5,v,by rw [←h6,Nat.add_assoc],h7⟩
   ·cases hf
theorem iW {b o:Nat} {c:Array Value} {e:TypeId} {fr:Nat×Nat} (hb:w.heap[b]?=some (.cells c e fr)):w.cell? ⟨b,o,none⟩=c[o]?:=by simp [World.cell?,hb]
def kU (c:Array Value) (o n:Nat):List Value:=(List.range n).map fun j=>c.getD (o+j) undef
theorem gS (c:Array Value) (o n:Nat):(kU c o n).length=n:=by simp [kU]
theorem eE (c:Array Value) (o n j:Nat) (hj:j < n) (hc:o+j < c.size):(kU c o n)[j]?=c[o+j]?:=by simp [kU,hj,Array.getElem?_eq_getElem hc]
theorem j9 (s:bt top φ K h nx w) {id g:Nat} {cells cells' cs:List AV} {off b base:Nat} {c:Array Value} {e:TypeId} (hh:h id=some (.row g cells)) (hb:φ id g=some (b,base))
  (hc:w.heap[b]?=some (.cells c e (0,0))) (hfit:base+cells.length<=c.size) (qxl:∀(j:Nat) (a:AV),cells[j]?=some a->a.one=true/\∃v,c[base+j]?=some v/\aC φ K w a v)
  (ho:cj cells off cs=some cells') (vs:List Value) (hvl:vs.length=cs.length)
  (qx8:∀(j:Nat) (a:AV) (v:Value),cs[j]?=some a->vs[j]?=some v->aC φ K w a v) (hone:∀(j:Nat) (a:AV),cs[j]?=some a->a.one=true) :
  bR top φ K h nx w φ K (tM h id (some (.row g cells'))) nx (w.setRow b (c.toList.take (base+off)++vs++c.toList.drop (base+off+vs.length)).toArray):=by
 obtain⟨hl',hat⟩:=cT ho;have hof:=(cm ho).1;have hsize:(c.toList.take (base+off)++vs++c.toList.drop (base+off+vs.length)).toArray.size=c.size:=by simp;omega
 have qjw:b < w.heap.size:=(Array.getElem?_eq_some_iff.1 hc).1;refine pe s hh hb g cells' b base _ e (fun i gg=>?_) (.inl ⟨rfl,rfl,rfl⟩) (.inl rfl) (setRow_heap w b c _ e (0,0) hc) (fun i hi hne=>setRow_other w b i _ hne) (by simp [World.setRow]) ?_ (fun a=>kG w hc _ a) rfl rfl rfl (by rw [hsize,hl'];exact hfit) ?_
 ·split
  ·rename_i hc';obtain⟨rfl,rfl⟩:=hc';exact hb
  ·rfl
 ·intro c1 e1 fr1 h1;rw [hc] at h1;cases h1;exact⟨rfl,rfl,hsize⟩
 ·intro j a ha;rw [hat j] at ha;by_cases hin:off<=j/\j < off+cs.length
  ·rw [if_pos hin] at ha;refine⟨hone _ a ha,?_⟩;have hj:j - off < vs.length:=by omega
   refine⟨vs[j - off],?_,qx8 _ a _ ha (KX hj)⟩;simp only [List.getElem?_toArray];rw [KZ (by simp;omega),K3 (by simp;omega)];simp only [La,Array.length_toList];rw [KX (by omega)];congr 1;congr 1;omega
  ·rw [if_neg hin] at ha;obtain⟨h1,v,h2,h3⟩:=qxl j a ha;refine⟨h1,v,?_,h3⟩;rw [←h2];simp only [List.getElem?_toArray];by_cases hlo:j < off
   ·rw [KZ (by simp;omega),KZ (by simp;omega),List.getElem?_take_of_lt (by omega),Array.getElem?_toList]
   ·rw [K3 (by simp;omega),K7];simp only [K_,La,Array.length_toList];rw [←Array.getElem?_toList];congr 1;have:off+cs.length<=j:=by omega
    have hb2:base+off+cs.length<=c.size:=by omega
    omega
end
end Go.Ax
namespace Go.Ax
def tInfo (P:Program) (t:TypeId) (f:TypeInfo->Bool):Bool:=match P.info? t with|some i=>f i|none=>false
def dy (P:Program) (t:TypeId) (f:TypeDesc->Bool):Bool:=match P.underlying t with|some d=>f d|none=>false
def gY (P:Program) (t:TypeId) (n:Nat):Bool:=tInfo P t fun i=>Nat.beq i.size n
def iY:TypeDesc->Bool
 |.struct _=>true
 |.array _ _=>true
 |_=>false
def oc (P:Program) (t:TypeId) (sz:Option Nat):Bool:=match sz with
 |none=>dy P t fun d=>!iY d
 |some n=>(dy P t fun d=>iY d)&&gY P t n
theorem ct {P:Program} {t:TypeId} {f:TypeInfo->Bool} (h:tInfo P t f=true):∃i,P.info? t=some i/\f i=true:=by
 unfold tInfo at h;split at h
 ·rename_i i hi;exact⟨i,hi,h⟩
 ·cases h
theorem aR {P:Program} {t:TypeId} {f:TypeDesc->Bool} (h:dy P t f=true):∃d,P.underlying t=some d/\f d=true:=by
 unfold dy at h;split at h
 ·rename_i i hi;exact⟨i,hi,h⟩
 ·cases h
theorem c4 {P:Program} {t:TypeId} {n:Nat} (h:gY P t n=true) (w:World):(sizeOf t).run P w=.ok n w:=by obtain⟨i,hi,hn⟩:=ct h;rw [Lq] at hn;simp [sizeOf,typeInfo,hi,hn]
theorem cJ {P:Program} {t:TypeId} {d:TypeDesc} (h:P.underlying t=some d) (w:World):(isAgg t).run P w=.ok (iY d) w:=by cases d<;>simp [isAgg,run_underlying h,iY]
section
variable {top:Nat} {P:Program} {φ:er} {K:Nat->Prop} {h:aQ} {nx:Nat} {w:World} {ρ:aD->AV} {ρc:Operand->Value} {o:Oper}
theorem aH (s:bt top φ K h nx w) {v:AV} {V:Value} (hrun:(execOp ρc o).run P w=.ok (.value V) w) (hv:aC φ K w v V):Sound top P φ K h nx w ρc o (.val v):=by intro v' h' nx' hr qxm;cases hr;exact⟨V,w,φ,K,.inl hrun,bR.refl s,hv⟩
theorem cR {v:Option AV} {p:aJ} (hp:cV v=some p):∃x,v=some x/\p=.val x:=by
 cases v with
 |none=>cases hp
 |some x=>cases hp;exact⟨x,rfl,rfl⟩
def IS (o:Oper) (x:aD):Bool:=match o.op with
 |.move a=>aY a x
 |.assign a=>aY a x
 |_=>false
theorem Hv (s:bt top φ K h nx w) (hρ:∀x y,aY x y=true->aC φ K w (ρ y) (ρc x)) {x:aD} (hm:IS o x=true):Sound top P φ K h nx w ρc o (.val (ρ x)):=by
 unfold IS at hm;split at hm
 ·rename_i a ha;exact aH s (V:=ρc a) (by simp [execOp,ha]) (hρ _ _ hm)
 ·rename_i a ha;exact aH s (V:=ρc a) (by simp [execOp,ha]) (hρ _ _ hm)
 ·cases hm
theorem cU {b:Bool} {V:Value} (r:aC φ K w (.bool b) V):V=.bool b:=by
 cases r with
 |pure r=>cases r;rfl
theorem cE {k:IntKind} {n:Int} {V:Value} (r:aC φ K w (.int k n) V):V=.int k n:=by
 cases r with
 |pure r=>cases r;rfl
theorem gA {x:ByteArray} {V:Value} (r:aC φ K w (.str x) V):V=.string x:=by
 cases r with
 |pure r=>cases r;rfl
theorem b7 {V:Value} (r:aC φ K w .ak V):V=.slice none 0 0:=by
 cases r with
 |pure r=>cases r;rfl
theorem lB {f:Nat} {V:Value} (r:aC φ K w (.func f) V):V=.func (.func f) #[] #[]:=by
 cases r with
 |pure r=>cases r;rfl
theorem iG {id g off:Nat} {V:Value} (r:aC φ K w (.ptr id g off) V):∃b base,φ id g=some (b,base)/\V=.pointer (some ⟨b,base+off,none⟩):=by
 cases r with
 |pure r=>cases r
 |ptr id g off b base h=>exact⟨b,base,h,rfl⟩
theorem ua {cs:List AV} {off:Nat} {V:Value} (r:aC φ K w (.ej cs off) V):∃b o,K b/\V=.pointer (some ⟨b,o+off,none⟩)/\
  ∀(j:Nat) (a:AV),cs[j]?=some a->a.one=true/\∃v,w.cell? ⟨b,o+j,none⟩=some v/\cZ K w a v:=by
 cases r with
 |pure r=>cases r with
  |ej cs b o off f hK hone hc hr=>
   refine⟨b,o,hK,rfl,fun j a ha=>⟨hone j a ha,f j,hc j ?_,hr j a ha⟩⟩;rcases Nat.lt_or_ge j cs.length with hj|hj
   ·exact hj
   ·rw [K5 hj] at ha;cases ha
theorem eP {cs:List AV} {n:Nat} {cap:Option Nat} {V:Value} (r:aC φ K w (.bO cs n cap) V):∃ad c',V=.slice (some ad) n c'/\n<=c'/\(∀c,cap=some c->c'=c)/\(cs≠[]->ad.spot=none/\K ad.block)/\
  ∀(j:Nat) (a:AV),cs[j]?=some a->a.one=true/\∃v,w.cell? ⟨ad.block,ad.off+j,none⟩=some v/\cZ K w a v:=by
 cases r with
 |pure r=>cases r with
  |bO cs n cap ad c' f hK hn hcap hone hc hr=>
   refine⟨ad,c',rfl,hn,hcap,hK,fun j a ha=>⟨hone j a ha,f j,hc j ?_,hr j a ha⟩⟩;rcases Nat.lt_or_ge j cs.length with hj|hj
   ·exact hj
   ·rw [K5 hj] at ha;cases ha
theorem c7 {id g off es len cap:Nat} {ex:Bool} {V:Value} (r:aC φ K w (.ref id g off es len cap ex) V):∃b base ad c',V=.slice (some ad) len c'/\φ id g=some (b,base)/\len<=cap/\cap<=c'/\(ex=true->c'=cap)/\
  (c'≠0->ad=⟨b,base+off,none⟩/\∃(c:Array Value) (e:TypeId) (fr:Nat×Nat),w.heap[b]?=some (Obj.cells c e fr)/\base+off+c'*es<=c.size):=by
 cases r with
 |pure r=>cases r
 |ref id g off es len cap ex b base ad c' h1 h2 h3 h4 h5=>exact⟨b,base,ad,c',rfl,h1,h2,h3,h4,h5⟩
theorem gD {cs:List AV} {V:Value} (r:aC φ K w (.agg cs) V):∃vs:Array Value,V=.agg vs/\cs.length=vs.size/\∀(j:Nat) (a:AV),cs[j]?=some a->a.one=true/\∃v,vs[j]?=some v/\aC φ K w a v:=by
 have key:∀(vs:Array Value) (R:AV->Value->Prop),cs.length=vs.size->(∀(j:Nat) (a:AV),cs[j]?=some a->a.one=true)->(∀(j:Nat) (a:AV) (v:Value),cs[j]?=some a->vs[j]?=some v->R a v)->
   ∀(j:Nat) (a:AV),cs[j]?=some a->a.one=true/\∃v,vs[j]?=some v/\R a v:=by
  intro vs R hl hone hr j a ha;have hj:j < vs.size:=by
   rcases Nat.lt_or_ge j cs.length with hj|hj
   ·omega
   ·rw [K5 hj] at ha;cases ha
  exact⟨hone j a ha,vs[j],Array.getElem?_eq_getElem hj,hr j a _ ha (Array.getElem?_eq_getElem hj)⟩
 cases r with
 |pure r=>cases r with
  |agg cs vs hl hone hr=>exact⟨vs,rfl,hl,key vs _ hl hone fun j a v h1 h2=>.pure (hr j a v h1 h2)⟩
 |agg cs vs hl hone hr=>exact⟨vs,rfl,hl,key vs _ hl hone hr⟩
theorem sL {cs:List AV} {V:Value} (r:aC φ K w (.dc cs) V):∃vs:Array Value,V=.tuple vs/\cs.length=vs.size/\∀(j:Nat) (a:AV),cs[j]?=some a->∃v,vs[j]?=some v/\aC φ K w a v:=by
 have key:∀(vs:Array Value) (R:AV->Value->Prop),cs.length=vs.size->(∀(j:Nat) (a:AV) (v:Value),cs[j]?=some a->vs[j]?=some v->R a v)->
   ∀(j:Nat) (a:AV),cs[j]?=some a->∃v,vs[j]?=some v/\R a v:=by
  intro vs R hl hr j a ha;have hj:j < vs.size:=by
   rcases Nat.lt_or_ge j cs.length with hj|hj
   ·omega
   ·rw [K5 hj] at ha;cases ha
  exact⟨vs[j],Array.getElem?_eq_getElem hj,hr j a _ ha (Array.getElem?_eq_getElem hj)⟩
 cases r with
 |pure r=>cases r with
  |dc cs vs hl hr=>exact⟨vs,rfl,hl,key vs _ hl fun j a v h1 h2=>.pure (hr j a v h1 h2)⟩
 |dc cs vs hl hr=>exact⟨vs,rfl,hl,key vs _ hl hr⟩
theorem mE {a:AV} {V:Value} {cs:List AV} (r:aC φ K w a V) (hc:a.cells?=some cs):cs.length=V.cells.size/\∀(j:Nat) (x:AV),cs[j]?=some x->x.one=true/\∃v,V.cells[j]?=some v/\aC φ K w x v:=by
 by_cases h1:∃l,a=.agg l
 ·obtain⟨l,rfl⟩:=h1;cases hc;obtain⟨vs,rfl,hl,hr⟩:=gD r;exact⟨hl,hr⟩
 ·have ha:a.one=true/\cs=[a]:=by
   cases a<;>first
    |(exact absurd ⟨_,rfl⟩ h1)
    |(cases hc;done)
    |(cases hc;exact⟨rfl,rfl⟩)
  obtain⟨ha,rfl⟩:=ha;have hv:=v8 r ha;have hV:V.cells=#[V]:=by cases V<;>first|rfl|cases hv
  rw [hV];refine⟨rfl,fun j x hx=>?_⟩;cases j with
  |zero=>simp at hx;subst hx;exact⟨ha,V,rfl,r⟩
  |succ j=>simp at hx
theorem dF {x:Sem Value} {V:Value} {w':World} (h:x.run P w=.ok V w'):(do pure (Next.value (←x)):Sem Next).run P w=.ok (.value V) w':=by simp [h]
theorem Fk {x:Sem Unit} {w':World} (h:x.run P w=.ok () w'):(do x;pure Next.skip:Sem Next).run P w=.ok .skip w':=by simp [h]
def AH (o:Oper) (c a b:aD):Bool:=match o.op with
 |.pick c' a' b'=>aY c' c&&aY a' a&&aY b' b
 |_=>false
theorem DC (s:bt top φ K h nx w) (hρ:∀x y,aY x y=true->aC φ K w (ρ y) (ρc x)) {c a b:aD} (hm:AH o c a b=true) {p:aJ} (hp:lC ρ c a b=some p):Sound top P φ K h nx w ρc o p:=by
 unfold AH at hm;split at hm
 ·rename_i c' a' b' ho;simp only [Lm] at hm;obtain⟨⟨h1,h2⟩,h3⟩:=hm;unfold lC at hp;split at hp
  ·rename_i t ht;have hc:=hρ _ _ h1;rw [ht] at hc;have hc:=cU hc;cases t with
   |true=>cases hp;exact aH s (V:=ρc a') (by simp [execOp,ho,hc,asBool]) (hρ _ _ h2)
   |false=>cases hp;exact aH s (V:=ρc b') (by simp [execOp,ho,hc,asBool]) (hρ _ _ h3)
  ·cases hp
 ·cases hm
theorem jZ (s:bt top φ K h nx w) (f:Nat->AV) (cells:List AV) (c:Array Value) (e:TypeId) (V:Value) (hrun:(execOp ρc o).run P w=.ok (.value V) (w.alloc (.cells c e))) (hl:cells.length<=c.size)
  (hr:∀(j:Nat) (a:AV),cells[j]?=some a->a.one=true/\∃v,c[j]?=some v/\aC φ K w a v)
  (hV:aC (fun id g=>if id=nx/\g=0 then some (w.heap.size,0) else φ id g) K (w.alloc (.cells c e)) (f nx) V):Sound top P φ K h nx w ρc o (.new f (.row 0 cells)):=by
 intro v h' nx' hrr qxm;cases hrr;exact⟨V,_,_,K,.inl hrun,uU s qxm cells c e hl (fun j a ha=>(hr j a ha).1) (fun j a ha=>(hr j a ha).2),hV⟩
def oP (P:Program) (t:TypeId) (zero:List AV):Bool:=tInfo P t fun i=>match i.zero with|some z=>rm z.cells.toList zero|none=>false
theorem j5 {t:TypeId} {zero:List AV} (hz:oP P t zero=true) (K:Nat->Prop) (w:World):∃z,(zeroValue t).run P w=.ok z w/\rm z.cells.toList zero=true/\zero.length=z.cells.size/\∀(j:Nat) (a:AV),zero[j]?=some a->a.one=true/\∃v,z.cells[j]?=some v/\cZ K w a v:=by
 obtain⟨i,hi,h1⟩:=ct hz;cases hzv:i.zero with
 |none=>rw [hzv] at h1;cases h1
 |some z=>rw [hzv] at h1;obtain⟨h2,h3,_⟩:=rj h1 K w;refine⟨z,by simp [zeroValue,typeInfo,hi,hzv],h1,by simpa using h2,fun j a ha=>?_⟩;obtain⟨r1,v,r2,r3⟩:=h3 j a ha;exact⟨r1,v,by simpa using r2,r3⟩
def wz (P:Program) (o:Oper) (zero:List AV):Bool:=match o.op with
 |.alloc t=>oP P t zero
 |_=>false
theorem Cc (s:bt top φ K h nx w) {zero:List AV} (hm:wz P o zero=true):Sound top P φ K h nx w ρc o (.new (fun id=>.ptr id 0 0) (.row 0 zero)):=by
 unfold wz at hm;split at hm
 ·rename_i t ho;obtain⟨z,h1,h2,h3,h4⟩:=j5 hm K w;refine jZ s _ zero z.cells t (.pointer (some ⟨w.heap.size,0,none⟩)) ?_ (by omega) (fun j a ha=>⟨(h4 j a ha).1,let ⟨v,a1,a2⟩:=(h4 j a ha).2;⟨v,a1,.pure a2⟩⟩) ?_
  ·simp [execOp,ho,Instr.alloc,h1,newVar,newRow]
  ·exact .ptr nx 0 0 w.heap.size 0 (by simp)
 ·cases hm
def D_ (o:Oper) (x:aD):Bool:=match o.op with
 |.box _ x'=>aY x' x
 |_=>false
theorem Ff (s:bt top φ K h nx w) (hρ:∀x y,aY x y=true->aC φ K w (ρ y) (ρc x)) {x:aD} (hm:D_ o x=true) {p:aJ} (hp:ur ρ x=some p):Sound top P φ K h nx w ρc o p:=by
 unfold D_ at hm;split at hm
 ·rename_i t x' ho;unfold ur at hp;split at hp
  ·rename_i cs hcs;cases hp;obtain⟨h1,h2⟩:=mE (hρ _ _ hm) hcs;refine jZ s _ cs (ρc x').cells t (.pointer (some ⟨w.heap.size,0,none⟩)) ?_ (by omega) h2 ?_
   ·simp [execOp,ho,Instr.box,newVar,newRow]
   ·exact .ptr nx 0 0 w.heap.size 0 (by simp)
  ·cases hp
 ·cases hm
def ofList (sz:Option Nat) (l:List Value):Value:=match sz with|none=>l.getD 0 undef|some _=>.agg l.toArray
theorem sM (s:bt top φ K h nx w) {sz:Option Nat} {t:TypeId} (ht:oc P t sz=true) {cs:List AV} {v:AV} (hv:xB sz cs=some v) (l:List Value) (hl:cs.length=l.length)
  (hr:∀(j:Nat) (a:AV),cs[j]?=some a->a.one=true/\∃u,l[j]?=some u/\aC φ K w a u) :
  aC φ K w v (ofList sz l):=by
 cases sz with
 |none=>
  show aC φ K w v (l.getD 0 undef);unfold xB at hv;simp only at hv;split at hv
  ·cases hv;obtain⟨_,u,h1,h2⟩:=hr 0 v rfl;simp only [List.getD_eq_getElem?_getD,h1,Option.getD_some];exact h2
  ·cases hv
 |some n=>cases hv;refine .agg cs l.toArray (by simpa using hl) (fun j a ha=>(hr j a ha).1) (fun j a u ha hu=>?_);obtain⟨_,u',h1,h2⟩:=hr j a ha;simp only [List.getElem?_toArray,h1,Option.some.injEq] at hu;subst hu;exact h2
theorem jh {t:TypeId} {sz:Option Nat} (ht:oc P t sz=true) (b o:Nat) (l:List Value) (hl:l.length=bK sz) (hc:∀j,j < l.length->w.cell? ⟨b,o+j,none⟩=l[j]?) :
  (loadVar t ⟨b,o,none⟩).run P w=.ok (ofList sz l) w:=by
 cases sz with
 |none=>
  obtain⟨d,hd,hag⟩:=aR ht;have h0:=hc 0 (by simp [hl,bK]);have hl1:0 < l.length:=by simp [hl,bK]
  rw [KX hl1] at h0;simp at hag;simp at h0;simp [loadVar,cJ hd,hag,h0,ofList,KX hl1]
 |some n=>
  simp only [oc,Lm] at ht;obtain⟨d,hd,hag⟩:=aR ht.1;have hs:=c4 ht.2 w;simp only [bK] at hl;have hlc:=run_loadCells_list (P:=P) w ⟨b,o,none⟩ l (fun j v hv=>by rw [Addr.add_lit,hc j (by rcases Nat.lt_or_ge j l.length with hj|hj;exact hj;rw [K5 hj] at hv;cases hv)];exact hv)
  rw [hl] at hlc;simp [loadVar,cJ hd,hag,hs,hlc,ofList]
def AK (P:Program) (o:Oper) (sz:Option Nat) (a:aD):Bool:=match o.op with
 |.load t a'=>aY a' a&&oc P t sz
 |_=>false
theorem DE (s:bt top φ K h nx w) (hρ:∀x y,aY x y=true->aC φ K w (ρ y) (ρc x)) {sz:Option Nat} {a:aD} (hm:AK P o sz a=true) {p:aJ} (hp:gE ρ sz a=some p):Sound top P φ K h nx w ρc o p:=by
 unfold AK at hm;split at hm
 ·rename_i t a' ho;simp only [Lm] at hm;have hr:=hρ _ _ hm.1;unfold gE at hp;split at hp
  ·rename_i id g off ha;cases hp;rw [ha] at hr;obtain⟨b,base,hb,hV⟩:=iG hr;intro v h' nx' hrun qxm;simp only [mC,fq] at hrun;split at hrun
   ·cases hrun
   ·rename_i cs hcs;obtain⟨b1,qq8,c,e,h1,h2,h3,h4,h5⟩:=eZ s hcs;rw [hb] at h1;cases h1;split at hrun
    ·cases hrun
    ·rename_i out hout;split at hout
     ·rename_i v1 hv1;cases hout;cases hrun;have hlen:=gS c (base+off) (bK sz);have qq9:∀(j:Nat) (a:AV),cs[j]?=some a->a.one=true/\∃u,(kU c (base+off) (bK sz))[j]?=some u/\aC φ K w a u:=by
       intro j a ha;obtain⟨r1,u,r2,r3⟩:=h5 j a ha;have hj:j < bK sz:=by
        rcases Nat.lt_or_ge j cs.length with hj|hj
        ·omega
        ·rw [K5 hj] at ha;cases ha
       exact⟨r1,u,by rw [eE c _ _ j hj (by omega)];exact r2,r3⟩
      refine⟨_,w,φ,K,.inl ?_,bR.refl s,sM s hm.2 hv1 _ (by rw [h4,hlen]) qq9⟩;simp only [execOp,ho];refine dF ?_;simp only [Instr.loadAt,hV,Instr.sureAddr,Sem.run_bind,Sem.run_pure,Result.andThen_ok];refine jh hm.2 b (base+off) _ hlen (fun j hj=>?_);rw [iW h2,eE c _ _ j (by omega) (by omega)]
     ·cases hout
  ·rename_i cs off ha;split at hp
   ·rename_i cs' qxg;obtain⟨v,hv,rfl⟩:=cR hp;rw [ha] at hr;obtain⟨b,o1,hK,hV,qxl⟩:=ua hr;obtain⟨hl,hat⟩:=tg qxg;have hfit:=(ek qxg).1;have qq9:∀(j:Nat) (a:AV),cs'[j]?=some a->a.one=true/\∃u,w.cell? ⟨b,o1+off+j,none⟩=some u/\aC φ K w a u:=by
     intro j a ha;have hj:j < bK sz:=by
      rcases Nat.lt_or_ge j cs'.length with hj|hj
      ·omega
      ·rw [K5 hj] at ha;cases ha
     rw [hat j hj] at ha;obtain⟨r1,u,r2,r3⟩:=qxl _ a ha;exact⟨r1,u,by rw [←r2,Nat.add_assoc],.pure r3⟩
    have hl2:((List.range (bK sz)).map fun j=>(w.cell? ⟨b,o1+off+j,none⟩).getD undef).length=bK sz:=by simp
    have hl3:∀j u,j < bK sz->w.cell? ⟨b,o1+off+j,none⟩=some u->((List.range (bK sz)).map fun j=>(w.cell? ⟨b,o1+off+j,none⟩).getD undef)[j]?=some u:=by intro j u hj hu;simp [hj,hu]
    refine aH s ?_ (sM s hm.2 hv ((List.range (bK sz)).map fun j=>(w.cell? ⟨b,o1+off+j,none⟩).getD undef) (by rw [hl,hl2]) ?_)
    ·simp only [execOp,ho];refine dF ?_;simp only [Instr.loadAt,hV,Instr.sureAddr,Sem.run_bind,Sem.run_pure,Result.andThen_ok];refine jh hm.2 b (o1+off) _ hl2 (fun j hj=>?_);have hj':j < cs'.length:=by omega
     obtain⟨_,u,r2,_⟩:=qq9 j _ (KX hj');rw [r2,hl3 j u (by omega) r2]
    ·intro j a ha;obtain⟨r1,u,r2,r3⟩:=qq9 j a ha;have hj:j < bK sz:=by
      rcases Nat.lt_or_ge j cs'.length with hj|hj
      ·omega
      ·rw [K5 hj] at ha;cases ha
     exact⟨r1,u,hl3 j u hj r2,r3⟩
   ·cases hp
  ·cases hp
 ·cases hm
theorem gZ {q:Option vr} {id g:Nat} {k:List AV->List AV->Option Out} {v:AV} {h':aQ} {nx':Nat} (hr:mC (.look q (some id) fun a=>mD g (k a)) h nx=some (v,h',nx')) :
  ∃a cells out,cM h q=some a/\h id=some (.row g cells)/\k a cells=some out/\(match out.new with
   |some ob=>some (out.val nx,tM (nK h (some id) out.obj) nx (some ob),nx+1)
   |none=>some (out.val nx,nK h (some id) out.obj,nx))=some (v,h',nx'):=by
 simp only [mC,fq] at hr;cases hq:cM h q with
 |none=>rw [hq] at hr;cases hr
 |some a=>
  rw [hq] at hr;simp only at hr;cases hh:h id with
  |none=>rw [hh] at hr;cases hr
  |some ob=>
   rw [hh] at hr;simp only at hr;cases ob with
   |map es=>simp only [mD] at hr;cases hr
   |row g' cells=>
    simp only [mD,cond_eq_ite,Lq] at hr;split at hr
    ·cases hr
    ·rename_i out hout;split at hout
     ·rename_i hg;subst hg;exact⟨a,cells,out,rfl,rfl,hout,hr⟩
     ·cases hout
def wh (P:Program) (o:Oper) (sz:Nat) (a x:aD):Bool:=match o.op with
 |.store t a' x'=>aY a' a&&aY x' x&&gY P t sz
 |_=>false
theorem B6 (s:bt top φ K h nx w) (hρ:∀x y,aY x y=true->aC φ K w (ρ y) (ρc x)) {sz:Nat} {a x:aD} (hm:wh P o sz a x=true) {p:aJ} (hp:gN ρ sz a x=some p):Sound top P φ K h nx w ρc o p:=by
 unfold wh at hm;split at hm
 ·rename_i t a' x' ho;simp only [Lm] at hm;obtain⟨⟨hma,rK⟩,hms⟩:=hm;have hra:=hρ _ _ hma;have hrx:=hρ _ _ rK;unfold gN at hp;split at hp
  ·rename_i id g off ha;split at hp
   ·rename_i cs hcs;simp only [cond_eq_ite,Lq] at hp;split at hp
    ·rename_i hsz;cases hp;rw [ha] at hra;obtain⟨b,base,hb,hV⟩:=iG hra;intro v h' nx' hrun qxm;obtain⟨_,cells,out,_,hh,hk,hend⟩:=gZ (k:=fun _ cells=>match cj cells off cs with|some cells'=>some ⟨fun _=>cH,some (.row g cells'),none⟩|none=>none) hrun;split at hk
     ·rename_i cells' hov;cases hk;cases hend;obtain⟨b1,qq8,c,e,h1,h2,h3,h4⟩:=s.row id g cells hh;rw [hb] at h1;cases h1;obtain⟨hcl,hcr⟩:=mE hrx hcs;have hone:∀u∈(ρc x').cells.toList,u.oneCell'=true:=by
       intro u hu;obtain⟨j,hj,rfl⟩:=List.getElem_of_mem hu;have hj':j < cs.length:=by simpa [hcl] using hj
       obtain⟨r1,u',r2,r3⟩:=hcr j _ (KX hj');have:(ρc x').cells.toList[j]=u':=by have:=Array.getElem?_toList (xs:=(ρc x').cells) (i:=j);rw [KX hj,r2] at this;exact Ly this
       rw [this];exact v8 r3 r1
      have hof:=(cm hov).1;have hst:=run_storeCells_at P b (base+off) e (ρc x').cells.toList 0 c w h2 (by simp [←hcl];omega) hone;simp only [Nat.add_zero] at hst;refine⟨undef,_,φ,K,.inr ⟨?_,rfl⟩,j9 s hh hb h2 h3 h4 hov (ρc x').cells.toList (by simp [←hcl]) ?_ (fun j a ha=>(hcr j a ha).1),.pure (.dc [] #[] rfl (fun j a v ha=>by simp at ha))⟩
      ·simp only [execOp,ho];refine Fk ?_;have qzL:(ρc x').cells.size=sz:=by rw [←hcl,hsz]
       simp only [Instr.storeAt,hV,Instr.sureAddr,storeVar,Sem.run_bind,Sem.run_pure,Result.andThen_ok,c4 hms,qzL,ne_eq,not_true_eq_false,if_false,hst]
      ·intro j a v ha hv;obtain⟨_,u,r2,r3⟩:=hcr j a ha;rw [Array.getElem?_toList,r2] at hv;cases hv;exact r3
     ·cases hk
    ·cases hp
   ·cases hp
  ·cases hp
 ·cases hm
end
end Go.Ax
