/- Part 1 of the proof: Ax2, Ax3, Ax4. -/
import Derived.Test.YtamgnhdbeecapaaCq0
import Derived.Deep.Upon
import Derived.Laws.CopyRow
import Derived.Orders
import Derived.RowKit3
set_option linter.unusedSimpArgs false
set_option linter.unusedVariables false
namespace Go.Ax
abbrev fm:=Nat->Nat->Option (Nat×Nat)
abbrev aW:=Nat->Option dU
inductive dL (K:Nat->Prop) (w:World):AV->Value->Prop where
 |bool (b:Bool):dL K w (.bool b) (.bool b)
 |int (k:IntKind) (n:Int):dL K w (.int k n) (.int k n)
 |str (s:ByteArray):dL K w (.str s) (.string s)
 |jj:dL K w .jj (.pointer none)
 |ak:dL K w .ak (.slice none 0 0)
 |func (f:Nat):dL K w (.func f) (.func (.func f) #[] #[])
 |fh (cs:List AV) (b o off:Nat) (f:Nat->Value) (hK:K b) (hone:∀(j:Nat) (a:AV),cs[j]?=some a->a.one=true)
   (hc:∀j,j < cs.length->w.cell? ⟨b,o+j,none⟩=some (f j)) (hr:∀(j:Nat) (a:AV),cs[j]?=some a->dL K w a (f j)) :
   dL K w (.fh cs off) (.pointer (some ⟨b,o+off,none⟩))
 |b6 (cs:List AV) (n:Nat) (cap:Option Nat) (ad:Addr) (c':Nat) (f:Nat->Value) (hK:cs≠[]->ad.spot=none/\K ad.block) (hn:n<=c') (hcap:∀c,cap=some c->c'=c)
   (hone:∀(j:Nat) (a:AV),cs[j]?=some a->a.one=true)
   (hc:∀j,j < cs.length->w.cell? ⟨ad.block,ad.off+j,none⟩=some (f j)) (hr:∀(j:Nat) (a:AV),cs[j]?=some a->dL K w a (f j)) :
   dL K w (.b6 cs n cap) (.slice (some ad) n c')
 |agg (cs:List AV) (vs:Array Value) (hl:cs.length=vs.size) (hone:∀(j:Nat) (a:AV),cs[j]?=some a->a.one=true)
   (hr:∀(j:Nat) (a:AV) (v:Value),cs[j]?=some a->vs[j]?=some v->dL K w a v):dL K w (.agg cs) (.agg vs)
 |dM (cs:List AV) (vs:Array Value) (hl:cs.length=vs.size) (hr:∀(j:Nat) (a:AV) (v:Value),cs[j]?=some a->vs[j]?=some v->dL K w a v) :
   dL K w (.dM cs) (.tuple vs)
inductive aG (φ:fm) (K:Nat->Prop) (w:World):AV->Value->Prop where
 |pure {a:AV} {v:Value} (h:dL K w a v):aG φ K w a v
 |ptr (id g off b base:Nat) (h:φ id g=some (b,base)):aG φ K w (.ptr id g off) (.pointer (some ⟨b,base+off,none⟩))
 |ref (id g off es len cap:Nat) (ex:Bool) (b base:Nat) (ad:Addr) (c':Nat) (h:φ id g=some (b,base)) (hl:len<=cap) (hc:cap<=c') (hex:ex=true->c'=cap)
   (had:c'≠0->ad=⟨b,base+off,none⟩/\∃(c:Array Value) (e:TypeId) (fr:Nat×Nat),w.heap[b]?=some (Obj.cells c e fr)/\base+off+c'*es<=c.size) :
   aG φ K w (.ref id g off es len cap ex) (.slice (some ad) len c')
 |agg (cs:List AV) (vs:Array Value) (hl:cs.length=vs.size) (hone:∀(j:Nat) (a:AV),cs[j]?=some a->a.one=true)
   (hr:∀(j:Nat) (a:AV) (v:Value),cs[j]?=some a->vs[j]?=some v->aG φ K w a v):aG φ K w (.agg cs) (.agg vs)
 |dM (cs:List AV) (vs:Array Value) (hl:cs.length=vs.size) (hr:∀(j:Nat) (a:AV) (v:Value),cs[j]?=some a->vs[j]?=some v->aG φ K w a v) :
   aG φ K w (.dM cs) (.tuple vs)
 |j5 (id b:Nat) (h:φ id 0=some (b,0)):aG φ K w (.j5 id) (.map (some b))
def gen:dU->Nat
 |.row g _=>g
 |.map _=>0
def s_ (φ:fm) (h:aW) (b:Nat):Prop:=∃id ob base,h id=some ob/\φ id (gen ob)=some (b,base)
variable {top:Nat}
structure bM (top:Nat) (φ:fm) (K:Nat->Prop) (h:aW) (nx:Nat) (w:World):Prop where
 j8:∀b,K b->b < w.heap.size/\¬s_ φ h b
 row:∀id g cells,h id=some (.row g cells)->∃(b base:Nat) (c:Array Value) (e:TypeId),φ id g=some (b,base)/\w.heap[b]?=some (Obj.cells c e (0,0))/\base+cells.length<=c.size/\
  ∀(j:Nat) (a:AV),cells[j]?=some a->a.one=true/\∃v,c[base+j]?=some v/\aG φ K w a v
 map:∀id es,h id=some (.map es)->∃(b:Nat) (mes:Array MapEntry) (clk:Nat),φ id 0=some (b,0)/\w.heap[b]?=some (Obj.map mes clk)/\es.length=mes.size/\
  ∀(j:Nat) (k v:AV),es[j]?=some (k,v)->∃me,mes[j]?=some me/\aG φ K w k me.key/\aG φ K w v me.val
 inj:∀id id' ob ob' b base base',h id=some ob->h id'=some ob'->φ id (gen ob)=some (b,base)->φ id' (gen ob')=some (b,base')->id=id'
 low:∀id ob,h id=some ob->¬(nx<=id/\id < top)/\∀g,gen ob < g->φ id g=none
 new:∀id g,nx<=id->id < top->φ id g=none
structure Ext (M:Nat->Prop) (w w':World):Prop where
 size:w.heap.size<=w'.heap.size
 same:∀b,b < w.heap.size->¬M b->w'.heap[b]?=w.heap[b]?
 shape:∀(b:Nat) (c:Array Value) (e:TypeId) (fr:Nat×Nat),w.heap[b]?=some (Obj.cells c e fr)->∃c':Array Value,w'.heap[b]?=some (Obj.cells c' e fr)/\c'.size=c.size
 os:w'.os=w.os
 tape:w'.tape=w.tape
 output:w'.output=w.output
 fz:∀a,w'.frozen? a=w.frozen? a
theorem Ext.refl (M:Nat->Prop) (w:World):Ext M w w:=⟨Qy _,fun _ _ _=>rfl,fun _ c _ _ h=>⟨c,h,rfl⟩,rfl,rfl,rfl,fun _=>rfl⟩
theorem Ext.trans {M M':Nat->Prop} {w w' w'':World} (h:Ext M w w') (h':Ext M' w' w'') (hM:∀b,M' b->M b\/w.heap.size<=b):Ext M w w'' where
 size:=Qw h.size h'.size
 same b hb hn:=by rw [h'.same b (Qs hb h.size) (fun hm=>(hM b hm).elim hn (fun hl=>Nat.lt_irrefl _ (Qs hb hl))),h.same b hb hn]
 shape b c e fr hb:=by obtain⟨c1,h1,hs1⟩:=h.shape b c e fr hb;obtain⟨c2,h2,hs2⟩:=h'.shape b c1 e fr h1;exact⟨c2,h2,hs2.trans hs1⟩
 os:=h'.os.trans h.os
 tape:=h'.tape.trans h.tape
 output:=h'.output.trans h.output
 fz a:=(h'.fz a).trans (h.fz a)
theorem Ext.mono {M M':Nat->Prop} {w w':World} (h:Ext M w w') (hM:∀b,M b->M' b):Ext M' w w':=
 ⟨h.size,fun b hb hn=>h.same b hb (fun hm=>hn (hM b hm)),h.shape,h.os,h.tape,h.output,h.fz⟩
theorem Ext.drew {M:Nat->Prop} {w w':World} (h:Ext M w w'):Ext M w w'.drew:=⟨h.size,h.same,h.shape,h.os,h.tape,h.output,h.fz⟩
theorem cell_of {w w':World} {b:Nat} (h:w'.heap[b]?=w.heap[b]?) (o:Nat):w'.cell? ⟨b,o,none⟩=w.cell? ⟨b,o,none⟩:=by simp only [World.cell?,h]
theorem dL.keep {K K':Nat->Prop} {w w':World} (hK:∀b,K b->K' b) (hw:∀b,K b->w'.heap[b]?=w.heap[b]?) {a:AV} {v:Value} (h:dL K w a v):dL K' w' a v:=by
 induction h with
 |bool b=>exact .bool b
 |int k n=>exact .int k n
 |str s=>exact .str s
 |jj=>exact .jj
 |ak=>exact .ak
 |func f=>exact .func f
 |fh cs b o off f hKb hone hc hr ih=>exact .fh cs b o off f (hK b hKb) hone (fun j hj=>by rw [cell_of (hw b hKb)];exact hc j hj) ih
 |b6 cs n cap ad c' f hKb hn hcap hone hc hr ih=>
  refine .b6 cs n cap ad c' f (fun hne=>⟨(hKb hne).1,hK _ (hKb hne).2⟩) hn hcap hone (fun j hj=>?_) ih;have hne:cs≠[]:=by rintro rfl;simp at hj
  rw [cell_of (hw _ (hKb hne).2)];exact hc j hj
 |agg cs vs hl hone hr ih=>exact .agg cs vs hl hone ih
 |dM cs vs hl hr ih=>exact .dM cs vs hl ih
theorem aG.keep {φ φ':fm} {K K':Nat->Prop} {w w':World} (hφ:∀id g p,φ id g=some p->φ' id g=some p) (hK:∀b,K b->K' b) (hw:∀b,K b->w'.heap[b]?=w.heap[b]?)
  (hs:∀(b:Nat) (c:Array Value) (e:TypeId) (fr:Nat×Nat),w.heap[b]?=some (Obj.cells c e fr)->∃c':Array Value,w'.heap[b]?=some (Obj.cells c' e fr)/\c'.size=c.size) {a:AV} {v:Value} (h:aG φ K w a v):aG φ' K' w' a v:=by
 induction h with
 |pure h=>exact .pure (h.keep hK hw)
 |ptr id g off b base h=>exact .ptr id g off b base (hφ _ _ _ h)
 |ref id g off es len cap ex b base ad c' h hl hc hex had=>refine .ref id g off es len cap ex b base ad c' (hφ _ _ _ h) hl hc hex (fun h0=>?_);obtain⟨h1,c,e,fr,h2,h3⟩:=had h0;obtain⟨c1,h4,h5⟩:=hs b c e fr h2;exact⟨h1,c1,e,fr,h4,by rw [h5];exact h3⟩
 |agg cs vs hl hone hr ih=>exact .agg cs vs hl hone ih
 |dM cs vs hl hr ih=>exact .dM cs vs hl ih
 |j5 id b h=>exact .j5 id b (hφ _ _ _ h)
structure cq (top:Nat) (φ:fm) (K:Nat->Prop) (h:aW) (nx:Nat) (w:World) (φ':fm) (K':Nat->Prop) (h':aW) (nx':Nat) (w':World):Prop where
 Bi:∀id g p,φ id g=some p->φ' id g=some p
 k:∀b,K b->K' b
 nc:bM top φ' K' h' nx' w'
 ext:Ext (s_ φ h) w w'
 mu:∀b,s_ φ' h' b->s_ φ h b\/w.heap.size<=b
 tw:∀b,K' b->K b\/w.heap.size<=b\/s_ φ h b
 fr:∀id g p,φ' id g=some p->φ id g=some p\/(nx<=id/\id < nx')\/(h id).isSome=true
 dom:∀id,(h' id).isSome=true->(h id).isSome=true\/(nx<=id/\id < nx')
 nx:nx<=nx'
theorem cq.refl {φ:fm} {K:Nat->Prop} {h:aW} {nx:Nat} {w:World} (s:bM top φ K h nx w):cq top φ K h nx w φ K h nx w:=
 ⟨fun _ _ _ h=>h,fun _ h=>h,s,Ext.refl _ _,fun _ h=>.inl h,fun _ h=>.inl h,fun _ _ _ h=>.inl h,fun _ h=>.inl h,Qy _⟩
theorem cq.trans {φ φ' φ'':fm} {K K' K'':Nat->Prop} {h h' h'':aW} {nx nx' nx'':Nat} {w w' w'':World} (g:cq top φ K h nx w φ' K' h' nx' w') (g':cq top φ' K' h' nx' w' φ'' K'' h'' nx'' w'') :
  cq top φ K h nx w φ'' K'' h'' nx'' w'' where
 Bi id gg p hp:=g'.Bi _ _ _ (g.Bi _ _ _ hp)
 k b hb:=g'.k b (g.k b hb)
 nc:=g'.nc
 ext:=g.ext.trans g'.ext g.mu
 mu b hb:=(g'.mu b hb).elim (g.mu b) (fun hl=>.inr (Qw g.ext.size hl))
 tw b hb:=by
  rcases g'.tw b hb with h1|h1|h1
  ·exact g.tw b h1
  ·exact .inr (.inl (Qw g.ext.size h1))
  ·rcases g.mu b h1 with h2|h2
   ·exact .inr (.inr h2)
   ·exact .inr (.inl h2)
 fr id gg p hp:=by
  have l1:=g.nx;have l2:=g'.nx;rcases g'.fr id gg p hp with h1|h1|h1
  ·rcases g.fr id gg p h1 with h2|h2|h2
   ·exact .inl h2
   ·exact .inr (.inl (by omega))
   ·exact .inr (.inr h2)
  ·exact .inr (.inl (by omega))
  ·rcases g.dom id h1 with h2|h2
   ·exact .inr (.inr h2)
   ·exact .inr (.inl (by omega))
 dom id hd:=by
  have l1:=g.nx;have l2:=g'.nx;rcases g'.dom id hd with h1|h1
  ·rcases g.dom id h1 with h2|h2
   ·exact .inl h2
   ·exact .inr (by omega)
  ·exact .inr (by omega)
 nx:=Qw g.nx g'.nx
theorem cq.val {φ φ':fm} {K K':Nat->Prop} {h h':aW} {nx nx':Nat} {w w':World} (s:bM top φ K h nx w) (g:cq top φ K h nx w φ' K' h' nx' w') {a:AV} {v:Value} (r:aG φ K w a v):aG φ' K' w' a v:=
 r.keep g.Bi g.k (fun b hb=>g.ext.same b (s.j8 b hb).1 (s.j8 b hb).2) g.ext.shape
theorem bM.congr {φ:fm} {K:Nat->Prop} {h h':aW} {nx:Nat} {w:World} (s:bM top φ K h nx w) (e:∀id,h' id=h id):bM top φ K h' nx w:=by obtain rfl:h'=h:=funext e;exact s
theorem bM.drew {φ:fm} {K:Nat->Prop} {h:aW} {nx:Nat} {w:World} (s:bM top φ K h nx w):bM top φ K h nx w.drew:=by
 have hv:∀{a:AV} {v:Value},aG φ K w a v->aG φ K w.drew a v:=fun r=>aG.keep (w:=w) (w':=w.drew) (fun _ _ _ h=>h) (fun _ h=>h) (fun _ _=>rfl) (fun _ c _ _ h=>⟨c,h,rfl⟩) r
 refine⟨s.j8,fun id g cells hh=>?_,fun id es hh=>?_,s.inj,s.low,s.new⟩
 ·obtain⟨b,base,c,e,h1,h2,h3,h4⟩:=s.row id g cells hh;exact⟨b,base,c,e,h1,h2,h3,fun j a ha=>⟨(h4 j a ha).1,let ⟨v,hv1,hv2⟩:=(h4 j a ha).2;⟨v,hv1,hv hv2⟩⟩⟩
 ·obtain⟨b,mes,clk,h1,h2,h3,h4⟩:=s.map id es hh;exact⟨b,mes,clk,h1,h2,h3,fun j k v hj=>let ⟨me,m1,m2,m3⟩:=h4 j k v hj;⟨me,m1,hv m2,hv m3⟩⟩
theorem bM.part {φ:fm} {K:Nat->Prop} {h h':aW} {nx:Nat} {w:World} (s:bM top φ K h nx w) (e:∀id o,h' id=some o->h id=some o):bM top φ K h' nx w:=
 ⟨fun b hb=>⟨(s.j8 b hb).1,fun ⟨id,ob,base,h1,h2⟩=>(s.j8 b hb).2 ⟨id,ob,base,e _ _ h1,h2⟩⟩,fun id g cells hh=>s.row id g cells (e _ _ hh),fun id es hh=>s.map id es (e _ _ hh),
  fun id id' ob ob' b base base' h1 h2=>s.inj id id' ob ob' b base base' (e _ _ h1) (e _ _ h2),fun id ob hh=>s.low id ob (e _ _ hh),s.new⟩
def wu (h:aW) (id:Nat) (ob:Option dU):aW:=fun j=>if j=id then ob else h j
theorem cu (h:aW) (id:Nat) (ob:Option dU):wu h id ob id=ob:=if_pos rfl
theorem bp (h:aW) {id j:Nat} (ob:Option dU) (hne:j≠id):wu h id ob j=h j:=if_neg hne
theorem o8 (w:World) (ob:Obj) {b:Nat} (h:b < w.heap.size):(w.alloc ob).heap[b]?=w.heap[b]?:=by show (w.heap.push ob)[b]?=_;rw [Array.getElem?_push,if_neg (by omega)]
theorem jw (w:World) (ob:Obj):(w.alloc ob).heap[w.heap.size]?=some ob:=by show (w.heap.push ob)[w.heap.size]?=_;rw [Array.getElem?_push,if_pos rfl]
theorem xP {φ:fm} {K:Nat->Prop} {h:aW} {nx:Nat} {w:World} (s:bM top φ K h nx w) (qxo:nx < top) (cells:List AV) (c:Array Value) (e:TypeId) (hl:cells.length<=c.size)
  (hone:∀(j:Nat) (a:AV),cells[j]?=some a->a.one=true) (hr:∀(j:Nat) (a:AV),cells[j]?=some a->∃v,c[j]?=some v/\aG φ K w a v) :
  cq top φ K h nx w (fun id g=>if id=nx/\g=0 then some (w.heap.size,0) else φ id g) K (wu h nx (some (.row 0 cells))) (nx+1) (w.alloc (.cells c e)):=by
 have qx1:∀id g p,φ id g=some p->(if id=nx/\g=0 then some (w.heap.size,0) else φ id g)=some p:=by
  intro id g p hp;rw [if_neg]
  ·exact hp
  ·rintro⟨rfl,rfl⟩;rw [s.new _ _ (Qy _) qxo] at hp;cases hp
 have hsame:∀b,b < w.heap.size->(w.alloc (.cells c e)).heap[b]?=w.heap[b]?:=fun b hb=>o8 w _ hb
 have qxl:∀(b:Nat) (c0:Array Value) (e0:TypeId) (fr:Nat×Nat),w.heap[b]?=some (Obj.cells c0 e0 fr)->∃c':Array Value,(w.alloc (.cells c e)).heap[b]?=some (Obj.cells c' e0 fr)/\c'.size=c0.size:=by intro b c0 e0 fr hb;have hlt:b < w.heap.size:=(Array.getElem?_eq_some_iff.1 hb).1;exact⟨c0,by rw [hsame b hlt];exact hb,rfl⟩
 have hval:∀{a:AV} {v:Value},aG φ K w a v->aG (fun id g=>if id=nx/\g=0 then some (w.heap.size,0) else φ id g) K (w.alloc (.cells c e)) a v:=
  fun r=>r.keep qx1 (fun _ h=>h) (fun b hb=>hsame b (s.j8 b hb).1) qxl
 have hold:∀id ob,h id=some ob->id≠nx:=fun id ob hh he=>by have:=(s.low id ob hh).1;omega
 have qx8:∀b,s_ (fun id g=>if id=nx/\g=0 then some (w.heap.size,0) else φ id g) (wu h nx (some (.row 0 cells))) b->s_ φ h b\/w.heap.size<=b:=by
  rintro b ⟨id,ob,base,h1,h2⟩;by_cases hid:id=nx
  ·subst hid;rw [cu] at h1;cases h1;simp [gen] at h2;omega
  ·rw [bp _ _ hid] at h1;simp only [hid,false_and,if_false] at h2;exact .inl ⟨id,ob,base,h1,h2⟩
 have qwG:∀id ob b base,h id=some ob->φ id (gen ob)=some (b,base)->b < w.heap.size:=by
  intro id ob b base hh hp;cases ob with
  |row g cells'=>obtain⟨b1,qq8,c1,e1,h1,h2,_⟩:=s.row id g cells' hh;simp only [gen] at hp;rw [h1] at hp;cases hp;exact(Array.getElem?_eq_some_iff.1 h2).1
  |map es=>obtain⟨b1,mes,clk,h1,h2,_⟩:=s.map id es hh;simp only [gen] at hp;rw [h1] at hp;cases hp;exact(Array.getElem?_eq_some_iff.1 h2).1
 refine⟨qx1,fun _ h=>h,⟨fun b hb=>⟨?_,fun hm=>?_⟩,fun id g cells' hh=>?_,fun id es hh=>?_,fun id id' ob ob' b base base' h1 h2 p1 p2=>?_,fun id ob hh=>?_,fun id g hid=>?_⟩,
  ⟨by rw [World.size_alloc];omega,fun b hb _=>hsame b hb,qxl,rfl,rfl,rfl,fun a=>RowKit.frozen?_alloc_cells w c e a⟩,qx8,fun _ h=>.inl h,fun id g p hp=>?_,fun id hd=>?_,Nat.le_succ _⟩
 ·have:=(s.j8 b hb).1;rw [World.size_alloc];omega
 ·rcases qx8 b hm with h1|h1
  ·exact(s.j8 b hb).2 h1
  ·have:=(s.j8 b hb).1;omega
 ·by_cases hid:id=nx
  ·subst hid;rw [cu] at hh;cases hh;refine⟨w.heap.size,0,c,e,by simp,jw w _,by omega,fun j a ha=>⟨hone j a ha,?_⟩⟩;obtain⟨v,hv1,hv2⟩:=hr j a ha;exact⟨v,by simpa using hv1,hval hv2⟩
  ·rw [bp _ _ hid] at hh;obtain⟨b,base,c1,e1,h1,h2,h3,h4⟩:=s.row id g cells' hh;refine⟨b,base,c1,e1,qx1 _ _ _ h1,by rw [hsame b (Array.getElem?_eq_some_iff.1 h2).1];exact h2,h3,fun j a ha=>⟨(h4 j a ha).1,?_⟩⟩;obtain⟨v,hv1,hv2⟩:=(h4 j a ha).2;exact⟨v,hv1,hval hv2⟩
 ·by_cases hid:id=nx
  ·subst hid;rw [cu] at hh;cases hh
  ·rw [bp _ _ hid] at hh;obtain⟨b,mes,clk,h1,h2,h3,h4⟩:=s.map id es hh;refine⟨b,mes,clk,qx1 _ _ _ h1,by rw [hsame b (Array.getElem?_eq_some_iff.1 h2).1];exact h2,h3,fun j k v hj=>?_⟩;obtain⟨me,m1,m2,m3⟩:=h4 j k v hj;exact⟨me,m1,hval m2,hval m3⟩
 ·by_cases hid:id=nx
  ·by_cases qxu:id'=nx
   ·omega
   ·subst hid;rw [cu] at h1;cases h1;rw [bp _ _ qxu] at h2;simp [gen] at p1;simp only [qxu,false_and,if_false] at p2;have:=qwG id' ob' b base' h2 p2;omega
  ·rw [bp _ _ hid] at h1;simp only [hid,false_and,if_false] at p1;by_cases qxu:id'=nx
   ·subst qxu;rw [cu] at h2;cases h2;simp [gen] at p2;have:=qwG id ob b base h1 p1;omega
   ·rw [bp _ _ qxu] at h2;simp only [qxu,false_and,if_false] at p2;exact s.inj id id' ob ob' b base base' h1 h2 p1 p2
 ·by_cases hid:id=nx
  ·subst hid;rw [cu] at hh;cases hh;refine⟨by omega,fun g hg=>?_⟩;simp only [gen] at hg;rw [if_neg (by omega)];exact s.new _ _ (Qy _) qxo
  ·rw [bp _ _ hid] at hh;refine⟨by have:=(s.low id ob hh).1;omega,fun g hg=>?_⟩;rw [if_neg (by omega)];exact(s.low id ob hh).2 g hg
 ·intro ht;show (if id=nx/\g=0 then _ else _)=_;rw [if_neg (by omega)];exact s.new _ _ (by omega) ht
 ·by_cases hc:id=nx/\g=0
  ·exact .inr (.inl (by omega))
  ·exact .inl (by rwa [if_neg hc] at hp)
 ·by_cases hid:id=nx
  ·exact .inr (by omega)
  ·rw [bp _ _ hid] at hd;exact .inl hd
theorem ew {φ:fm} {K:Nat->Prop} {h:aW} {nx:Nat} {w:World} (s:bM top φ K h nx w) {id:Nat} {ob:dU} {b base:Nat} (hh:h id=some ob) (hp:φ id (gen ob)=some (b,base)):b < w.heap.size:=by
 cases ob with
 |row g cells'=>obtain⟨b1,qq8,c1,e1,h1,h2,_⟩:=s.row id g cells' hh;simp only [gen] at hp;rw [h1] at hp;cases hp;exact(Array.getElem?_eq_some_iff.1 h2).1
 |map es=>obtain⟨b1,mes,clk,h1,h2,_⟩:=s.map id es hh;simp only [gen] at hp;rw [h1] at hp;cases hp;exact(Array.getElem?_eq_some_iff.1 h2).1
theorem mh (w:World) {b:Nat} {c:Array Value} {e:TypeId} {fr:Nat×Nat} (hb:w.heap[b]?=some (.cells c e fr)) (c':Array Value) (a:Addr):(w.setRow b c').frozen? a=w.frozen? a:=by
 by_cases h:a.block=b
 ·have h1:=setRow_heap w b c c' e fr hb;rw [←h] at h1 hb;simp only [World.frozen?,h,h1,hb];rw [h] at h1 hb;rw [h1,hb]
 ·exact World.frozen?_of_block (setRow_other w b _ c' h)
theorem sx {φ φ':fm} {K:Nat->Prop} {h:aW} {nx:Nat} {w w':World} (s:bM top φ K h nx w) {id:Nat} {g:Nat} {cells:List AV} (hh:h id=some (.row g cells)) {b base:Nat} (hb:φ id g=some (b,base))
  (g':Nat) (cells':List AV) (b' base':Nat) (c':Array Value) (e':TypeId) (hφ:∀i gg,φ' i gg=if i=id/\gg=g' then some (b',base') else φ i gg)
  (hg:(g'=g/\b'=b/\base'=base)\/g < g') (hb':b'=b\/b'=w.heap.size)
  (hw:w'.heap[b']?=some (.cells c' e' (0,0))) (hot:∀i,i < w.heap.size->i≠b'->w'.heap[i]?=w.heap[i]?) (hsz:w.heap.size<=w'.heap.size)
  (qxl:∀(c:Array Value) (e:TypeId) (fr:Nat×Nat),w.heap[b']?=some (Obj.cells c e fr)->e'=e/\fr=(0,0)/\c'.size=c.size)
  (hfz:∀a,w'.frozen? a=w.frozen? a) (hos:w'.os=w.os) (qjT:w'.tape=w.tape) (hout:w'.output=w.output) (hl:base'+cells'.length<=c'.size)
  (hr:∀(j:Nat) (a:AV),cells'[j]?=some a->a.one=true/\∃v,c'[base'+j]?=some v/\aG φ K w a v) :
  cq top φ K h nx w φ' K (wu h id (some (.row g' cells'))) nx w':=by
 have qx1:∀i gg p,φ i gg=some p->φ' i gg=some p:=by
  intro i gg p hp;rw [hφ];by_cases hc:i=id/\gg=g'
  ·obtain⟨rfl,rfl⟩:=hc;rw [if_pos ⟨rfl,rfl⟩];rcases hg with ⟨rfl,rfl,rfl⟩|hg
   ·rw [hb] at hp;exact hp
   ·rw [(s.low _ _ hh).2 gg (by simpa [gen] using hg)] at hp;cases hp
  ·rw [if_neg hc];exact hp
 have qw7:b < w.heap.size:=ew s hh (by simpa [gen] using hb);have qzg:s_ φ h b:=⟨id,_,base,hh,by simpa [gen] using hb⟩;have qxK:∀(i:Nat) (c:Array Value) (e:TypeId) (fr:Nat×Nat),w.heap[i]?=some (Obj.cells c e fr)->∃c1:Array Value,w'.heap[i]?=some (Obj.cells c1 e fr)/\c1.size=c.size:=by
  intro i c e fr hi;have hlt:i < w.heap.size:=(Array.getElem?_eq_some_iff.1 hi).1;by_cases hib:i=b'
  ·subst hib;obtain⟨rfl,rfl,hs⟩:=qxl c e fr hi;exact⟨c',hw,hs⟩
  ·exact⟨c,by rw [hot i hlt hib];exact hi,rfl⟩
 have hKb:∀i,K i->i≠b':=by
  intro i hi hib;subst hib;rcases hb' with rfl|rfl
  ·exact(s.j8 _ hi).2 qzg
  ·exact Nat.lt_irrefl _ (s.j8 _ hi).1
 have hval:∀{a:AV} {v:Value},aG φ K w a v->aG φ' K w' a v:=
  fun r=>aG.keep qx1 (fun _ h=>h) (fun i hi=>hot i (s.j8 i hi).1 (hKb i hi)) qxK r
 have qxs:∀i ob p,i≠id->h i=some ob->φ' i (gen ob)=some p->φ i (gen ob)=some p:=by intro i ob p hne _ hp;rw [hφ,if_neg (fun hc=>hne hc.1)] at hp;exact hp
 have qxP:∀i ob qq8,i≠id->h i=some ob->φ i (gen ob)=some (b',qq8)->False:=by
  intro i ob qq8 hne hi hp;rcases hb' with rfl|rfl
  ·exact hne (s.inj i id ob _ _ qq8 base hi hh hp (by simpa [gen] using hb))
  ·exact Nat.lt_irrefl _ (ew s hi hp)
 have qx8:∀i,s_ φ' (wu h id (some (.row g' cells'))) i->s_ φ h i\/w.heap.size<=i:=by
  rintro i ⟨id1,ob,qq8,h1,h2⟩;by_cases hid:id1=id
  ·subst hid;rw [cu] at h1;cases h1;simp only [gen] at h2;rw [hφ,if_pos ⟨rfl,rfl⟩] at h2;cases h2;rcases hb' with rfl|rfl
   ·exact .inl qzg
   ·exact .inr (Qy _)
  ·rw [bp _ _ hid] at h1;exact .inl ⟨id1,ob,qq8,h1,qxs _ _ _ hid h1 h2⟩
 refine⟨qx1,fun _ h=>h,⟨fun i hi=>⟨Qs (s.j8 i hi).1 hsz,fun hm=>?_⟩,fun id1 g1 qxw h1=>?_,fun id1 es h1=>?_,fun id1 id2 ob1 ob2 i qq8 qji h1 h2 p1 p2=>?_,fun id1 ob h1=>?_,fun id1 gg hid=>?_⟩,
  ⟨hsz,fun i hi hn=>hot i hi ?_,qxK,hos,qjT,hout,hfz⟩,qx8,fun _ h=>.inl h,fun i gg p hp=>?_,fun i hd=>?_,Qy _⟩
 ·rcases qx8 i hm with h1|h1
  ·exact(s.j8 i hi).2 h1
  ·exact Nat.lt_irrefl _ (Qs (s.j8 i hi).1 h1)
 ·by_cases hid:id1=id
  ·subst hid;rw [cu] at h1;cases h1;refine⟨b',base',c',e',by rw [hφ,if_pos ⟨rfl,rfl⟩],hw,hl,fun j a ha=>⟨(hr j a ha).1,?_⟩⟩;obtain⟨v,hv1,hv2⟩:=(hr j a ha).2;exact⟨v,hv1,hval hv2⟩
  ·rw [bp _ _ hid] at h1;obtain⟨b1,qq8,c1,e1,h2,h3,h4,h5⟩:=s.row id1 g1 qxw h1;have qj1:b1≠b':=fun he=>qxP id1 _ qq8 hid h1 (by subst he;simpa [gen] using h2)
   refine⟨b1,qq8,c1,e1,qx1 _ _ _ h2,by rw [hot b1 (Array.getElem?_eq_some_iff.1 h3).1 qj1];exact h3,h4,fun j a ha=>⟨(h5 j a ha).1,?_⟩⟩;obtain⟨v,hv1,hv2⟩:=(h5 j a ha).2;exact⟨v,hv1,hval hv2⟩
 ·by_cases hid:id1=id
  ·subst hid;rw [cu] at h1;cases h1
  ·rw [bp _ _ hid] at h1;obtain⟨b1,mes,clk,h2,h3,h4,h5⟩:=s.map id1 es h1;have qj1:b1≠b':=fun he=>qxP id1 _ 0 hid h1 (by subst he;simpa [gen] using h2)
   refine⟨b1,mes,clk,qx1 _ _ _ h2,by rw [hot b1 (Array.getElem?_eq_some_iff.1 h3).1 qj1];exact h3,h4,fun j k v hj=>?_⟩;obtain⟨me,m1,m2,m3⟩:=h5 j k v hj;exact⟨me,m1,hval m2,hval m3⟩
 ·by_cases qzr:id1=id
  ·by_cases qzl:id2=id
   ·omega
   ·exfalso;subst qzr;rw [cu] at h1;cases h1;rw [bp _ _ qzl] at h2;simp only [gen] at p1;rw [hφ,if_pos ⟨rfl,rfl⟩] at p1;cases p1;exact qxP id2 ob2 qji qzl h2 (qxs _ _ _ qzl h2 p2)
  ·by_cases qzl:id2=id
   ·exfalso;subst qzl;rw [cu] at h2;cases h2;rw [bp _ _ qzr] at h1;simp only [gen] at p2;rw [hφ,if_pos ⟨rfl,rfl⟩] at p2;cases p2;exact qxP id1 ob1 qq8 qzr h1 (qxs _ _ _ qzr h1 p1)
   ·rw [bp _ _ qzr] at h1;rw [bp _ _ qzl] at h2;exact s.inj id1 id2 ob1 ob2 i qq8 qji h1 h2 (qxs _ _ _ qzr h1 p1) (qxs _ _ _ qzl h2 p2)
 ·by_cases hid:id1=id
  ·subst hid;rw [cu] at h1;cases h1;refine⟨(s.low _ _ hh).1,fun gg hgg=>?_⟩;simp only [gen] at hgg;rw [hφ,if_neg (by omega)];refine(s.low _ _ hh).2 gg ?_;simp only [gen];omega
  ·rw [bp _ _ hid] at h1;refine⟨(s.low id1 ob h1).1,fun gg hgg=>?_⟩;rw [hφ,if_neg (fun hc=>hid hc.1)];exact(s.low id1 ob h1).2 gg hgg
 ·intro ht;rw [hφ,if_neg]
  ·exact s.new id1 gg hid ht
  ·rintro⟨rfl,rfl⟩;exact(s.low _ _ hh).1 ⟨hid,ht⟩
 ·rintro rfl;rcases hb' with rfl|rfl
  ·exact hn qzg
  ·exact Nat.lt_irrefl _ hi
 ·by_cases hc:i=id/\gg=g'
  ·rw [hc.1,hh];exact .inr (.inr rfl)
  ·rw [hφ,if_neg hc] at hp;exact .inl hp
 ·by_cases hid:i=id
  ·rw [hid,hh];exact .inl rfl
  ·rw [bp _ _ hid] at hd;exact .inl hd
end Go.Ax
namespace Go.Ax
noncomputable def dg (h:aW):Option yp->Option (List AV)
 |none=>some []
 |some r=>match h r.id with
  |some (.row g cells)=>bif Nat.beq g r.g then cut cells r.off r.len else none
  |_=>none
def gk (h:aW):Option Nat->Option (Option dU)
 |none=>some none
 |some id=>match h id with
  |some o=>some (some o)
  |none=>none
def pX (h:aW) (u:Option Nat) (ob:Option dU):aW:=match ob with
 |none=>h
 |some ob=>match u with
  |some id=>wu h id (some ob)
  |none=>h
noncomputable def oq (p:aO) (h:aW) (nx:Nat):Option (AV×aW×Nat):=match p with
 |.val v=>some (v,h,nx)
 |.new f o=>some (f nx,wu h nx (some o),nx+1)
 |.look q u k=>match dg h q with
  |none=>none
  |some a=>match gk h u with
   |none=>none
   |some o=>match k a o with
    |none=>none
    |some out=>match out.new with
     |some ob=>some (out.val nx,wu (pX h u out.obj) nx (some ob),nx+1)
     |none=>some (out.val nx,pX h u out.obj,nx)
theorem kP (H:ay) (id:Nat) (ob:Option dU):(H.put ob id).get=wu H.get id ob:=by funext j;rw [Map.au];rfl
theorem AE (H:ay) (q:Option yp):cM H q=dg H.get q:=by cases q<;>rfl
theorem D4 (H:ay) (u:Option Nat):fH H u=gk H.get u:=by cases u<;>rfl
theorem Cl (H:ay) (u:Option Nat) (ob:Option dU):(om H u ob).get=pX H.get u ob:=by
 cases ob with
 |none=>rfl
 |some ob=>cases u with
  |none=>rfl
  |some id=>exact kP H id _
theorem tN {p:aO} {H H':ay} {nx nx':Nat} {v:AV} (hr:bS p H nx=some (v,H',nx')):oq p H.get nx=some (v,H'.get,nx'):=by
 cases p with
 |val v=>cases hr;rfl
 |new f o=>cases hr;rw [kP];rfl
 |look q u k=>
  simp only [bS,dO,AE,D4] at hr;simp only [oq];cases hq:dg H.get q with
  |none=>rw [hq] at hr;cases hr
  |some a=>
   rw [hq] at hr;simp only at hr ⊢;cases hu:gk H.get u with
   |none=>rw [hu] at hr;cases hr
   |some o=>
    rw [hu] at hr;simp only at hr ⊢;cases hk:k a o with
    |none=>rw [hk] at hr;cases hr
    |some out=>
     rw [hk] at hr;simp only at hr ⊢;cases hn:out.new with
     |none=>rw [hn] at hr;cases hr;simp only [Cl]
     |some ob=>rw [hn] at hr;cases hr;simp only [kP,Cl]
def Sound (top:Nat) (P:Program) (φ:fm) (K:Nat->Prop) (h:aW) (nx:Nat) (w:World) (ρc:Operand->Value) (o:Oper) (p:aO):Prop:=
 ∀v h' nx',oq p h nx=some (v,h',nx')->nx'<=top->∃V w' φ' K',((execOp ρc o).run P w=.ok (.value V) w'\/((execOp ρc o).run P w=.ok .skip w'/\V=undef))/\cq top φ K h nx w φ' K' h' nx' w'/\aG φ' K' w' v V
def FC:Value->AV->Bool
 |.bool a,.bool b=>a == b
 |.int k n,.int k' n'=>ET k k'&&AR n n'
 |.string s,.str s'=>s.data.toList == s'.data.toList
 |.slice none 0 0,.ak=>true
 |.pointer none,.jj=>true
 |_,_=>false
def uh:List Value->List AV->Bool
 |[],[]=>true
 |v::vs,a::as=>FC v a&&uh vs as
 |_,_=>false
def bn:Operand->aH->Bool
 |.tmp n,.t m=>Nat.beq n m
 |.const v,.c a=>FC v a
 |.func f,.c (.func g)=>Nat.beq f g
 |_,_=>false
def pJ:List Operand->List aH->Bool
 |[],[]=>true
 |v::vs,a::as=>bn v a&&pJ vs as
 |_,_=>false
def qa:Option Operand->Option aH->Bool
 |none,none=>true
 |some x,some y=>bn x y
 |_,_=>false
theorem rY {v:Value} {a:AV} (h:FC v a=true) (K:Nat->Prop) (w:World):dL K w a v/\a.one=true/\v.oneCell'=true:=by
 unfold FC at h;split at h
 ·simp at h;subst h;exact⟨.bool _,rfl,rfl⟩
 ·simp [mS] at h;obtain⟨h1,rfl⟩:=h;have:=oU h1;subst this;exact⟨.int _ _,rfl,rfl⟩
 ·rename_i s s';have e:s=s':=by cases s;cases s';simp at h;simp [h]
  subst e;exact⟨.str _,rfl,rfl⟩
 ·exact⟨.ak,rfl,rfl⟩
 ·exact⟨.jj,rfl,rfl⟩
 ·cases h
theorem ug {vs:List Value} {as:List AV} (h:uh vs as=true) (K:Nat->Prop) (w:World) :
  as.length=vs.length/\(∀(j:Nat) (a:AV),as[j]?=some a->a.one=true/\∃v,vs[j]?=some v/\dL K w a v)/\∀v∈vs,v.oneCell'=true:=by
 induction vs generalizing as with
 |nil=>cases as with
  |nil=>exact⟨rfl,fun j a ha=>by simp at ha,fun v hv=>by cases hv⟩
  |cons a as=>cases h
 |cons v vs ih=>cases as with
  |nil=>cases h
  |cons a as=>
   simp only [uh,Qk] at h;obtain⟨h1,h2,h3⟩:=ih h.2;obtain⟨r1,r2,r3⟩:=rY h.1 K w;refine⟨by simp [h1],fun j a' ha'=>?_,fun v' hv'=>?_⟩
   ·cases j with
    |zero=>simp at ha';subst ha';exact⟨r2,v,rfl,r1⟩
    |succ j=>simpa using h2 j a' (by simpa using ha')
   ·rcases Qf.1 hv' with rfl|hm
    ·exact r3
    ·exact h3 v' hm
section
variable {top:Nat} {P:Program} {φ:fm} {K:Nat->Prop} {h:aW} {nx:Nat} {w:World}
theorem y5 {a:AV} {v:Value} (r:aG φ K w a v) (h1:a.one=true):v.oneCell'=true:=by
 cases r with
 |pure r=>cases r<;>first|rfl|cases h1
 |agg=>cases h1
 |dM=>cases h1
 |_=>rfl
theorem fU (s:bM top φ K h nx w) {id g off n:Nat} {cs:List AV} (hf:dg h (some ⟨id,g,off,n⟩)=some cs) :
  ∃(b base:Nat) (c:Array Value) (e:TypeId),φ id g=some (b,base)/\w.heap[b]?=some (.cells c e (0,0))/\base+(off+n)<=c.size/\cs.length=n/\
   ∀(j:Nat) (a:AV),cs[j]?=some a->a.one=true/\∃v,c[base+off+j]?=some v/\aG φ K w a v:=by
 simp only [dg] at hf;cases hh:h id with
 |none=>rw [hh] at hf;cases hf
 |some ob=>
  rw [hh] at hf;cases ob with
  |map es=>cases hf
  |row g' cells=>
   simp only [cond_eq_ite,Qn] at hf;split at hf
   ·rename_i hg;subst hg;obtain⟨b,base,c,e,h1,h2,h3,h4⟩:=s.row id g' cells hh;obtain⟨hl,hat⟩:=vR hf;have hfit:=(fk hf).1;refine⟨b,base,c,e,h1,h2,by omega,hl,fun j a ha=>?_⟩;have hj:j < n:=by
     rcases Nat.lt_or_ge j cs.length with hj|hj
     ·omega
     ·rw [PZ hj] at ha;cases ha
    rw [hat j hj] at ha;obtain⟨h5,v,h6,h7⟩:=h4 (off+j) a ha;exact⟨h5,v,by rw [←h6,Nat.add_assoc],h7⟩
   ·cases hf
theorem jV {b o:Nat} {c:Array Value} {e:TypeId} {fr:Nat×Nat} (hb:w.heap[b]?=some (.cells c e fr)):w.cell? ⟨b,o,none⟩=c[o]?:=by simp [World.cell?,hb]
def mM (c:Array Value) (o n:Nat):List Value:=(List.range n).map fun j=>c.getD (o+j) undef
theorem i_ (c:Array Value) (o n:Nat):(mM c o n).length=n:=by simp [mM]
theorem fF (c:Array Value) (o n j:Nat) (hj:j < n) (hc:o+j < c.size):(mM c o n)[j]?=c[o+j]?:=by simp [mM,hj,Array.getElem?_eq_getElem hc]
theorem lK (s:bM top φ K h nx w) {id g:Nat} {cells cells' cs:List AV} {off b base:Nat} {c:Array Value} {e:TypeId} (hh:h id=some (.row g cells)) (hb:φ id g=some (b,base))
  (hc:w.heap[b]?=some (.cells c e (0,0))) (hfit:base+cells.length<=c.size) (qxn:∀(j:Nat) (a:AV),cells[j]?=some a->a.one=true/\∃v,c[base+j]?=some v/\aG φ K w a v)
  (ho:cO cells off cs=some cells') (vs:List Value) (hvl:vs.length=cs.length)
  (qzq:∀(j:Nat) (a:AV) (v:Value),cs[j]?=some a->vs[j]?=some v->aG φ K w a v) (hone:∀(j:Nat) (a:AV),cs[j]?=some a->a.one=true) :
  cq top φ K h nx w φ K (wu h id (some (.row g cells'))) nx (w.setRow b (c.toList.take (base+off)++vs++c.toList.drop (base+off+vs.length)).toArray):=by
 obtain⟨hl',hat⟩:=dG ho;have hof:=(cP ho).1;have hsize:(c.toList.take (base+off)++vs++c.toList.drop (base+off+vs.length)).toArray.size=c.size:=by simp;omega
 have qw7:b < w.heap.size:=(Array.getElem?_eq_some_iff.1 hc).1;refine sx s hh hb g cells' b base _ e (fun i gg=>?_) (.inl ⟨rfl,rfl,rfl⟩) (.inl rfl) (setRow_heap w b c _ e (0,0) hc) (fun i hi hne=>setRow_other w b i _ hne) (by simp [World.setRow]) ?_ (fun a=>mh w hc _ a) rfl rfl rfl (by rw [hsize,hl'];exact hfit) ?_
 ·split
  ·rename_i hc';obtain⟨rfl,rfl⟩:=hc';exact hb
  ·rfl
 ·intro c1 e1 fr1 h1;rw [hc] at h1;cases h1;exact⟨rfl,rfl,hsize⟩
 ·intro j a ha;rw [hat j] at ha;by_cases hin:off<=j/\j < off+cs.length
  ·rw [if_pos hin] at ha;refine⟨hone _ a ha,?_⟩;have hj:j - off < vs.length:=by omega
   refine⟨vs[j - off],?_,qzq _ a _ ha (PU hj)⟩;simp only [List.getElem?_toArray];rw [PW (by simp;omega),PX (by simp;omega)];simp only [P8,Array.length_toList];rw [PU (by omega)];congr 1;congr 1;omega
  ·rw [if_neg hin] at ha;obtain⟨h1,v,h2,h3⟩:=qxn j a ha;refine⟨h1,v,?_,h3⟩;rw [←h2];simp only [List.getElem?_toArray];by_cases hlo:j < off
   ·rw [PW (by simp;omega),PW (by simp;omega),List.getElem?_take_of_lt (by omega),Array.getElem?_toList]
   ·rw [PX (by simp;omega),P3];simp only [P7,P8,Array.length_toList];rw [←Array.getElem?_toList];congr 1;have:off+cs.length<=j:=by omega
    have hb2:base+off+cs.length<=c.size:=by omega
    omega
end
end Go.Ax
namespace Go.Ax
def tInfo (P:Program) (t:TypeId) (f:TypeInfo->Bool):Bool:=match P.info? t with|some i=>f i|none=>false
def ek (P:Program) (t:TypeId) (f:TypeDesc->Bool):Bool:=match P.underlying t with|some d=>f d|none=>false
def jf (P:Program) (t:TypeId) (n:Nat):Bool:=tInfo P t fun i=>Nat.beq i.size n
def j4:TypeDesc->Bool
 |.struct _=>true
 |.array _ _=>true
 |_=>false
def qy (P:Program) (t:TypeId) (sz:Option Nat):Bool:=match sz with
 |none=>ek P t fun d=>!j4 d
 |some n=>(ek P t fun d=>j4 d)&&jf P t n
theorem cS {P:Program} {t:TypeId} {f:TypeInfo->Bool} (h:tInfo P t f=true):∃i,P.info? t=some i/\f i=true:=by
 unfold tInfo at h;split at h
 ·rename_i i hi;exact⟨i,hi,h⟩
 ·cases h
theorem aX {P:Program} {t:TypeId} {f:TypeDesc->Bool} (h:ek P t f=true):∃d,P.underlying t=some d/\f d=true:=by
 unfold ek at h;split at h
 ·rename_i i hi;exact⟨i,hi,h⟩
 ·cases h
theorem dN {P:Program} {t:TypeId} {n:Nat} (h:jf P t n=true) (w:World):(sizeOf t).run P w=.ok n w:=by obtain⟨i,hi,hn⟩:=cS h;rw [Qn] at hn;simp [sizeOf,typeInfo,hi,hn]
theorem dc {P:Program} {t:TypeId} {d:TypeDesc} (h:P.underlying t=some d) (w:World):(isAgg t).run P w=.ok (j4 d) w:=by cases d<;>simp [isAgg,run_underlying h,j4]
section
variable {top:Nat} {P:Program} {φ:fm} {K:Nat->Prop} {h:aW} {nx:Nat} {w:World} {ρ:aH->AV} {ρc:Operand->Value} {o:Oper}
theorem aL (s:bM top φ K h nx w) {v:AV} {V:Value} (hrun:(execOp ρc o).run P w=.ok (.value V) w) (hv:aG φ K w v V):Sound top P φ K h nx w ρc o (.val v):=by intro v' h' nx' hr qxo;cases hr;exact⟨V,w,φ,K,.inl hrun,cq.refl s,hv⟩
theorem dw {v:Option AV} {p:aO} (hp:dI v=some p):∃x,v=some x/\p=.val x:=by
 cases v with
 |none=>cases hp
 |some x=>cases hp;exact⟨x,rfl,rfl⟩
def M6 (o:Oper) (x:aH):Bool:=match o.op with
 |.move a=>bn a x
 |.assign a=>bn a x
 |_=>false
theorem LQ (s:bM top φ K h nx w) (hρ:∀x y,bn x y=true->aG φ K w (ρ y) (ρc x)) {x:aH} (hm:M6 o x=true):Sound top P φ K h nx w ρc o (.val (ρ x)):=by
 unfold M6 at hm;split at hm
 ·rename_i a ha;exact aL s (V:=ρc a) (by simp [execOp,ha]) (hρ _ _ hm)
 ·rename_i a ha;exact aL s (V:=ρc a) (by simp [execOp,ha]) (hρ _ _ hm)
 ·cases hm
theorem dH {b:Bool} {V:Value} (r:aG φ K w (.bool b) V):V=.bool b:=by
 cases r with
 |pure r=>cases r;rfl
theorem c4 {k:IntKind} {n:Int} {V:Value} (r:aG φ K w (.int k n) V):V=.int k n:=by
 cases r with
 |pure r=>cases r;rfl
theorem iG {x:ByteArray} {V:Value} (r:aG φ K w (.str x) V):V=.string x:=by
 cases r with
 |pure r=>cases r;rfl
theorem cH {V:Value} (r:aG φ K w .ak V):V=.slice none 0 0:=by
 cases r with
 |pure r=>cases r;rfl
theorem ni {f:Nat} {V:Value} (r:aG φ K w (.func f) V):V=.func (.func f) #[] #[]:=by
 cases r with
 |pure r=>cases r;rfl
theorem jG {id g off:Nat} {V:Value} (r:aG φ K w (.ptr id g off) V):∃b base,φ id g=some (b,base)/\V=.pointer (some ⟨b,base+off,none⟩):=by
 cases r with
 |pure r=>cases r
 |ptr id g off b base h=>exact⟨b,base,h,rfl⟩
theorem wR {cs:List AV} {off:Nat} {V:Value} (r:aG φ K w (.fh cs off) V):∃b o,K b/\V=.pointer (some ⟨b,o+off,none⟩)/\
  ∀(j:Nat) (a:AV),cs[j]?=some a->a.one=true/\∃v,w.cell? ⟨b,o+j,none⟩=some v/\dL K w a v:=by
 cases r with
 |pure r=>cases r with
  |fh cs b o off f hK hone hc hr=>
   refine⟨b,o,hK,rfl,fun j a ha=>⟨hone j a ha,f j,hc j ?_,hr j a ha⟩⟩;rcases Nat.lt_or_ge j cs.length with hj|hj
   ·exact hj
   ·rw [PZ hj] at ha;cases ha
theorem fM {cs:List AV} {n:Nat} {cap:Option Nat} {V:Value} (r:aG φ K w (.b6 cs n cap) V):∃ad c',V=.slice (some ad) n c'/\n<=c'/\(∀c,cap=some c->c'=c)/\(cs≠[]->ad.spot=none/\K ad.block)/\
  ∀(j:Nat) (a:AV),cs[j]?=some a->a.one=true/\∃v,w.cell? ⟨ad.block,ad.off+j,none⟩=some v/\dL K w a v:=by
 cases r with
 |pure r=>cases r with
  |b6 cs n cap ad c' f hK hn hcap hone hc hr=>
   refine⟨ad,c',rfl,hn,hcap,hK,fun j a ha=>⟨hone j a ha,f j,hc j ?_,hr j a ha⟩⟩;rcases Nat.lt_or_ge j cs.length with hj|hj
   ·exact hj
   ·rw [PZ hj] at ha;cases ha
theorem dP {id g off es len cap:Nat} {ex:Bool} {V:Value} (r:aG φ K w (.ref id g off es len cap ex) V):∃b base ad c',V=.slice (some ad) len c'/\φ id g=some (b,base)/\len<=cap/\cap<=c'/\(ex=true->c'=cap)/\
  (c'≠0->ad=⟨b,base+off,none⟩/\∃(c:Array Value) (e:TypeId) (fr:Nat×Nat),w.heap[b]?=some (Obj.cells c e fr)/\base+off+c'*es<=c.size):=by
 cases r with
 |pure r=>cases r
 |ref id g off es len cap ex b base ad c' h1 h2 h3 h4 h5=>exact⟨b,base,ad,c',rfl,h1,h2,h3,h4,h5⟩
theorem iH {cs:List AV} {V:Value} (r:aG φ K w (.agg cs) V):∃vs:Array Value,V=.agg vs/\cs.length=vs.size/\∀(j:Nat) (a:AV),cs[j]?=some a->a.one=true/\∃v,vs[j]?=some v/\aG φ K w a v:=by
 have key:∀(vs:Array Value) (R:AV->Value->Prop),cs.length=vs.size->(∀(j:Nat) (a:AV),cs[j]?=some a->a.one=true)->(∀(j:Nat) (a:AV) (v:Value),cs[j]?=some a->vs[j]?=some v->R a v)->
   ∀(j:Nat) (a:AV),cs[j]?=some a->a.one=true/\∃v,vs[j]?=some v/\R a v:=by
  intro vs R hl hone hr j a ha;have hj:j < vs.size:=by
   rcases Nat.lt_or_ge j cs.length with hj|hj
   ·omega
   ·rw [PZ hj] at ha;cases ha
  exact⟨hone j a ha,vs[j],Array.getElem?_eq_getElem hj,hr j a _ ha (Array.getElem?_eq_getElem hj)⟩
 cases r with
 |pure r=>cases r with
  |agg cs vs hl hone hr=>exact⟨vs,rfl,hl,key vs _ hl hone fun j a v h1 h2=>.pure (hr j a v h1 h2)⟩
 |agg cs vs hl hone hr=>exact⟨vs,rfl,hl,key vs _ hl hone hr⟩
theorem vg {cs:List AV} {V:Value} (r:aG φ K w (.dM cs) V):∃vs:Array Value,V=.tuple vs/\cs.length=vs.size/\∀(j:Nat) (a:AV),cs[j]?=some a->∃v,vs[j]?=some v/\aG φ K w a v:=by
 have key:∀(vs:Array Value) (R:AV->Value->Prop),cs.length=vs.size->(∀(j:Nat) (a:AV) (v:Value),cs[j]?=some a->vs[j]?=some v->R a v)->
   ∀(j:Nat) (a:AV),cs[j]?=some a->∃v,vs[j]?=some v/\R a v:=by
  intro vs R hl hr j a ha;have hj:j < vs.size:=by
   rcases Nat.lt_or_ge j cs.length with hj|hj
   ·omega
   ·rw [PZ hj] at ha;cases ha
  exact⟨vs[j],Array.getElem?_eq_getElem hj,hr j a _ ha (Array.getElem?_eq_getElem hj)⟩
 cases r with
 |pure r=>cases r with
  |dM cs vs hl hr=>exact⟨vs,rfl,hl,key vs _ hl fun j a v h1 h2=>.pure (hr j a v h1 h2)⟩
 |dM cs vs hl hr=>exact⟨vs,rfl,hl,key vs _ hl hr⟩
theorem ou {a:AV} {V:Value} {cs:List AV} (r:aG φ K w a V) (hc:a.cells?=some cs):cs.length=V.cells.size/\∀(j:Nat) (x:AV),cs[j]?=some x->x.one=true/\∃v,V.cells[j]?=some v/\aG φ K w x v:=by
 by_cases h1:∃l,a=.agg l
 ·obtain⟨l,rfl⟩:=h1;cases hc;obtain⟨vs,rfl,hl,hr⟩:=iH r;exact⟨hl,hr⟩
 ·have ha:a.one=true/\cs=[a]:=by
   cases a<;>first
    |(exact absurd ⟨_,rfl⟩ h1)
    |(cases hc;done)
    |(cases hc;exact⟨rfl,rfl⟩)
  obtain⟨ha,rfl⟩:=ha;have hv:=y5 r ha;have hV:V.cells=#[V]:=by cases V<;>first|rfl|cases hv
  rw [hV];refine⟨rfl,fun j x hx=>?_⟩;cases j with
  |zero=>simp at hx;subst hx;exact⟨ha,V,rfl,r⟩
  |succ j=>simp at hx
theorem ep {x:Sem Value} {V:Value} {w':World} (h:x.run P w=.ok V w'):(do pure (Next.value (←x)):Sem Next).run P w=.ok (.value V) w':=by simp [h]
theorem Jg {x:Sem Unit} {w':World} (h:x.run P w=.ok () w'):(do x;pure Next.skip:Sem Next).run P w=.ok .skip w':=by simp [h]
def DG (o:Oper) (c a b:aH):Bool:=match o.op with
 |.pick c' a' b'=>bn c' c&&bn a' a&&bn b' b
 |_=>false
theorem GZ (s:bM top φ K h nx w) (hρ:∀x y,bn x y=true->aG φ K w (ρ y) (ρc x)) {c a b:aH} (hm:DG o c a b=true) {p:aO} (hp:nj ρ c a b=some p):Sound top P φ K h nx w ρc o p:=by
 unfold DG at hm;split at hm
 ·rename_i c' a' b' ho;simp only [Qk] at hm;obtain⟨⟨h1,h2⟩,h3⟩:=hm;unfold nj at hp;split at hp
  ·rename_i t ht;have hc:=hρ _ _ h1;rw [ht] at hc;have hc:=dH hc;cases t with
   |true=>cases hp;exact aL s (V:=ρc a') (by simp [execOp,ho,hc,asBool]) (hρ _ _ h2)
   |false=>cases hp;exact aL s (V:=ρc b') (by simp [execOp,ho,hc,asBool]) (hρ _ _ h3)
  ·cases hp
 ·cases hm
theorem lB (s:bM top φ K h nx w) (f:Nat->AV) (cells:List AV) (c:Array Value) (e:TypeId) (V:Value) (hrun:(execOp ρc o).run P w=.ok (.value V) (w.alloc (.cells c e))) (hl:cells.length<=c.size)
  (hr:∀(j:Nat) (a:AV),cells[j]?=some a->a.one=true/\∃v,c[j]?=some v/\aG φ K w a v)
  (hV:aG (fun id g=>if id=nx/\g=0 then some (w.heap.size,0) else φ id g) K (w.alloc (.cells c e)) (f nx) V):Sound top P φ K h nx w ρc o (.new f (.row 0 cells)):=by
 intro v h' nx' hrr qxo;cases hrr;exact⟨V,_,_,K,.inl hrun,xP s qxo cells c e hl (fun j a ha=>(hr j a ha).1) (fun j a ha=>(hr j a ha).2),hV⟩
def rX (P:Program) (t:TypeId) (zero:List AV):Bool:=tInfo P t fun i=>match i.zero with|some z=>uh z.cells.toList zero|none=>false
theorem lG {t:TypeId} {zero:List AV} (hz:rX P t zero=true) (K:Nat->Prop) (w:World):∃z,(zeroValue t).run P w=.ok z w/\uh z.cells.toList zero=true/\zero.length=z.cells.size/\∀(j:Nat) (a:AV),zero[j]?=some a->a.one=true/\∃v,z.cells[j]?=some v/\dL K w a v:=by
 obtain⟨i,hi,h1⟩:=cS hz;cases hzv:i.zero with
 |none=>rw [hzv] at h1;cases h1
 |some z=>rw [hzv] at h1;obtain⟨h2,h3,_⟩:=ug h1 K w;refine⟨z,by simp [zeroValue,typeInfo,hi,hzv],h1,by simpa using h2,fun j a ha=>?_⟩;obtain⟨r1,v,r2,r3⟩:=h3 j a ha;exact⟨r1,v,by simpa using r2,r3⟩
def zj (P:Program) (o:Oper) (zero:List AV):Bool:=match o.op with
 |.alloc t=>rX P t zero
 |_=>false
theorem Fh (s:bM top φ K h nx w) {zero:List AV} (hm:zj P o zero=true):Sound top P φ K h nx w ρc o (.new (fun id=>.ptr id 0 0) (.row 0 zero)):=by
 unfold zj at hm;split at hm
 ·rename_i t ho;obtain⟨z,h1,h2,h3,h4⟩:=lG hm K w;refine lB s _ zero z.cells t (.pointer (some ⟨w.heap.size,0,none⟩)) ?_ (by omega) (fun j a ha=>⟨(h4 j a ha).1,let ⟨v,a1,a2⟩:=(h4 j a ha).2;⟨v,a1,.pure a2⟩⟩) ?_
  ·simp [execOp,ho,Instr.alloc,h1,newVar,newRow]
  ·exact .ptr nx 0 0 w.heap.size 0 (by simp)
 ·cases hm
def HL (o:Oper) (x:aH):Bool:=match o.op with
 |.box _ x'=>bn x' x
 |_=>false
theorem Jc (s:bM top φ K h nx w) (hρ:∀x y,bn x y=true->aG φ K w (ρ y) (ρc x)) {x:aH} (hm:HL o x=true) {p:aO} (hp:xb ρ x=some p):Sound top P φ K h nx w ρc o p:=by
 unfold HL at hm;split at hm
 ·rename_i t x' ho;unfold xb at hp;split at hp
  ·rename_i cs hcs;cases hp;obtain⟨h1,h2⟩:=ou (hρ _ _ hm) hcs;refine lB s _ cs (ρc x').cells t (.pointer (some ⟨w.heap.size,0,none⟩)) ?_ (by omega) h2 ?_
   ·simp [execOp,ho,Instr.box,newVar,newRow]
   ·exact .ptr nx 0 0 w.heap.size 0 (by simp)
  ·cases hp
 ·cases hm
def ofList (sz:Option Nat) (l:List Value):Value:=match sz with|none=>l.getD 0 undef|some _=>.agg l.toArray
theorem vh (s:bM top φ K h nx w) {sz:Option Nat} {t:TypeId} (ht:qy P t sz=true) {cs:List AV} {v:AV} (hv:Ak sz cs=some v) (l:List Value) (hl:cs.length=l.length)
  (hr:∀(j:Nat) (a:AV),cs[j]?=some a->a.one=true/\∃u,l[j]?=some u/\aG φ K w a u) :
  aG φ K w v (ofList sz l):=by
 cases sz with
 |none=>
  show aG φ K w v (l.getD 0 undef);unfold Ak at hv;simp only at hv;split at hv
  ·cases hv;obtain⟨_,u,h1,h2⟩:=hr 0 v rfl;simp only [List.getD_eq_getElem?_getD,h1,Option.getD_some];exact h2
  ·cases hv
 |some n=>cases hv;refine .agg cs l.toArray (by simpa using hl) (fun j a ha=>(hr j a ha).1) (fun j a u ha hu=>?_);obtain⟨_,u',h1,h2⟩:=hr j a ha;simp only [List.getElem?_toArray,h1,Option.some.injEq] at hu;subst hu;exact h2
theorem kg {t:TypeId} {sz:Option Nat} (ht:qy P t sz=true) (b o:Nat) (l:List Value) (hl:l.length=bZ sz) (hc:∀j,j < l.length->w.cell? ⟨b,o+j,none⟩=l[j]?) :
  (loadVar t ⟨b,o,none⟩).run P w=.ok (ofList sz l) w:=by
 cases sz with
 |none=>
  obtain⟨d,hd,hag⟩:=aX ht;have h0:=hc 0 (by simp [hl,bZ]);have hl1:0 < l.length:=by simp [hl,bZ]
  rw [PU hl1] at h0;simp at hag;simp at h0;simp [loadVar,dc hd,hag,h0,ofList,PU hl1]
 |some n=>
  simp only [qy,Qk] at ht;obtain⟨d,hd,hag⟩:=aX ht.1;have hs:=dN ht.2 w;simp only [bZ] at hl;have hlc:=run_loadCells_list (P:=P) w ⟨b,o,none⟩ l (fun j v hv=>by rw [Addr.add_lit,hc j (by rcases Nat.lt_or_ge j l.length with hj|hj;exact hj;rw [PZ hj] at hv;cases hv)];exact hv)
  rw [hl] at hlc;simp [loadVar,dc hd,hag,hs,hlc,ofList]
def DI (P:Program) (o:Oper) (sz:Option Nat) (a:aH):Bool:=match o.op with
 |.load t a'=>bn a' a&&qy P t sz
 |_=>false
theorem G4 (s:bM top φ K h nx w) (hρ:∀x y,bn x y=true->aG φ K w (ρ y) (ρc x)) {sz:Option Nat} {a:aH} (hm:DI P o sz a=true) {p:aO} (hp:iJ ρ sz a=some p):Sound top P φ K h nx w ρc o p:=by
 unfold DI at hm;split at hm
 ·rename_i t a' ho;simp only [Qk] at hm;have hr:=hρ _ _ hm.1;unfold iJ at hp;split at hp
  ·rename_i id g off ha;cases hp;rw [ha] at hr;obtain⟨b,base,hb,hV⟩:=jG hr;intro v h' nx' hrun qxo;simp only [oq,gk] at hrun;split at hrun
   ·cases hrun
   ·rename_i cs hcs;obtain⟨b1,qq8,c,e,h1,h2,h3,h4,h5⟩:=fU s hcs;rw [hb] at h1;cases h1;split at hrun
    ·cases hrun
    ·rename_i out hout;split at hout
     ·rename_i v1 hv1;cases hout;cases hrun;have hlen:=i_ c (base+off) (bZ sz);have qq9:∀(j:Nat) (a:AV),cs[j]?=some a->a.one=true/\∃u,(mM c (base+off) (bZ sz))[j]?=some u/\aG φ K w a u:=by
       intro j a ha;obtain⟨r1,u,r2,r3⟩:=h5 j a ha;have hj:j < bZ sz:=by
        rcases Nat.lt_or_ge j cs.length with hj|hj
        ·omega
        ·rw [PZ hj] at ha;cases ha
       exact⟨r1,u,by rw [fF c _ _ j hj (by omega)];exact r2,r3⟩
      refine⟨_,w,φ,K,.inl ?_,cq.refl s,vh s hm.2 hv1 _ (by rw [h4,hlen]) qq9⟩;simp only [execOp,ho];refine ep ?_;simp only [Instr.loadAt,hV,Instr.sureAddr,Sem.run_bind,Sem.run_pure,Result.andThen_ok];refine kg hm.2 b (base+off) _ hlen (fun j hj=>?_);rw [jV h2,fF c _ _ j (by omega) (by omega)]
     ·cases hout
  ·rename_i cs off ha;split at hp
   ·rename_i cs' qxi;obtain⟨v,hv,rfl⟩:=dw hp;rw [ha] at hr;obtain⟨b,o1,hK,hV,qxn⟩:=wR hr;obtain⟨hl,hat⟩:=vR qxi;have hfit:=(fk qxi).1;have qq9:∀(j:Nat) (a:AV),cs'[j]?=some a->a.one=true/\∃u,w.cell? ⟨b,o1+off+j,none⟩=some u/\aG φ K w a u:=by
     intro j a ha;have hj:j < bZ sz:=by
      rcases Nat.lt_or_ge j cs'.length with hj|hj
      ·omega
      ·rw [PZ hj] at ha;cases ha
     rw [hat j hj] at ha;obtain⟨r1,u,r2,r3⟩:=qxn _ a ha;exact⟨r1,u,by rw [←r2,Nat.add_assoc],.pure r3⟩
    have hl2:((List.range (bZ sz)).map fun j=>(w.cell? ⟨b,o1+off+j,none⟩).getD undef).length=bZ sz:=by simp
    have hl3:∀j u,j < bZ sz->w.cell? ⟨b,o1+off+j,none⟩=some u->((List.range (bZ sz)).map fun j=>(w.cell? ⟨b,o1+off+j,none⟩).getD undef)[j]?=some u:=by intro j u hj hu;simp [hj,hu]
    refine aL s ?_ (vh s hm.2 hv ((List.range (bZ sz)).map fun j=>(w.cell? ⟨b,o1+off+j,none⟩).getD undef) (by rw [hl,hl2]) ?_)
    ·simp only [execOp,ho];refine ep ?_;simp only [Instr.loadAt,hV,Instr.sureAddr,Sem.run_bind,Sem.run_pure,Result.andThen_ok];refine kg hm.2 b (o1+off) _ hl2 (fun j hj=>?_);have hj':j < cs'.length:=by omega
     obtain⟨_,u,r2,_⟩:=qq9 j _ (PU hj');rw [r2,hl3 j u (by omega) r2]
    ·intro j a ha;obtain⟨r1,u,r2,r3⟩:=qq9 j a ha;have hj:j < bZ sz:=by
      rcases Nat.lt_or_ge j cs'.length with hj|hj
      ·omega
      ·rw [PZ hj] at ha;cases ha
     exact⟨r1,u,hl3 j u hj r2,r3⟩
   ·cases hp
  ·cases hp
 ·cases hm
theorem jg {q:Option yp} {id g:Nat} {k:List AV->List AV->Option Out} {v:AV} {h':aW} {nx':Nat} (hr:oq (.look q (some id) fun a=>ot g (k a)) h nx=some (v,h',nx')) :
  ∃a cells out,dg h q=some a/\h id=some (.row g cells)/\k a cells=some out/\(match out.new with
   |some ob=>some (out.val nx,wu (pX h (some id) out.obj) nx (some ob),nx+1)
   |none=>some (out.val nx,pX h (some id) out.obj,nx))=some (v,h',nx'):=by
 simp only [oq,gk] at hr;cases hq:dg h q with
 |none=>rw [hq] at hr;cases hr
 |some a=>
  rw [hq] at hr;simp only at hr;cases hh:h id with
  |none=>rw [hh] at hr;cases hr
  |some ob=>
   rw [hh] at hr;simp only at hr;cases ob with
   |map es=>simp only [ot] at hr;cases hr
   |row g' cells=>
    simp only [ot,cond_eq_ite,Qn] at hr;split at hr
    ·cases hr
    ·rename_i out hout;split at hout
     ·rename_i hg;subst hg;exact⟨a,cells,out,rfl,rfl,hout,hr⟩
     ·cases hout
def za (P:Program) (o:Oper) (sz:Nat) (a x:aH):Bool:=match o.op with
 |.store t a' x'=>bn a' a&&bn x' x&&jf P t sz
 |_=>false
theorem E_ (s:bM top φ K h nx w) (hρ:∀x y,bn x y=true->aG φ K w (ρ y) (ρc x)) {sz:Nat} {a x:aH} (hm:za P o sz a x=true) {p:aO} (hp:iV ρ sz a x=some p):Sound top P φ K h nx w ρc o p:=by
 unfold za at hm;split at hm
 ·rename_i t a' x' ho;simp only [Qk] at hm;obtain⟨⟨hma,tf⟩,hms⟩:=hm;have hra:=hρ _ _ hma;have hrx:=hρ _ _ tf;unfold iV at hp;split at hp
  ·rename_i id g off ha;split at hp
   ·rename_i cs hcs;simp only [cond_eq_ite,Qn] at hp;split at hp
    ·rename_i hsz;cases hp;rw [ha] at hra;obtain⟨b,base,hb,hV⟩:=jG hra;intro v h' nx' hrun qxo;obtain⟨_,cells,out,_,hh,hk,hend⟩:=jg (k:=fun _ cells=>match cO cells off cs with|some cells'=>some ⟨fun _=>c8,some (.row g cells'),none⟩|none=>none) hrun;split at hk
     ·rename_i cells' hov;cases hk;cases hend;obtain⟨b1,qq8,c,e,h1,h2,h3,h4⟩:=s.row id g cells hh;rw [hb] at h1;cases h1;obtain⟨hcl,hcr⟩:=ou hrx hcs;have hone:∀u∈(ρc x').cells.toList,u.oneCell'=true:=by
       intro u hu;obtain⟨j,hj,rfl⟩:=List.getElem_of_mem hu;have hj':j < cs.length:=by simpa [hcl] using hj
       obtain⟨r1,u',r2,r3⟩:=hcr j _ (PU hj');have:(ρc x').cells.toList[j]=u':=by have:=Array.getElem?_toList (xs:=(ρc x').cells) (i:=j);rw [PU hj,r2] at this;exact Qv this
       rw [this];exact y5 r3 r1
      have hof:=(cP hov).1;have hst:=run_storeCells_at P b (base+off) e (ρc x').cells.toList 0 c w h2 (by simp [←hcl];omega) hone;simp only [Nat.add_zero] at hst;refine⟨undef,_,φ,K,.inr ⟨?_,rfl⟩,lK s hh hb h2 h3 h4 hov (ρc x').cells.toList (by simp [←hcl]) ?_ (fun j a ha=>(hcr j a ha).1),.pure (.dM [] #[] rfl (fun j a v ha=>by simp at ha))⟩
      ·simp only [execOp,ho];refine Jg ?_;have qjU:(ρc x').cells.size=sz:=by rw [←hcl,hsz]
       simp only [Instr.storeAt,hV,Instr.sureAddr,storeVar,Sem.run_bind,Sem.run_pure,Result.andThen_ok,dN hms,qjU,ne_eq,not_true_eq_false,if_false,hst]
      ·intro j a v ha hv;obtain⟨_,u,r2,r3⟩:=hcr j a ha;rw [Array.getElem?_toList,r2] at hv;cases hv;exact r3
     ·cases hk
    ·cases hp
   ·cases hp
  ·cases hp
 ·cases hm
end
end Go.Ax
