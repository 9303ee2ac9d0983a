/- Part 1 of the proof: Ax2, Ax3, Ax4. -/
import Derived.Test.YtamgnhdbeecapaaCm0
import Derived.Deep.Upon
import Derived.Laws.CopyRow
import Derived.Orders
import Derived.RowKit3
set_option linter.unusedSimpArgs false
set_option linter.unusedVariables false
namespace Go.Ax
abbrev gW:=Nat->Nat->Option (Nat×Nat)
abbrev bz:=Nat->Option fZ
inductive fY (K:Nat->Prop) (w:World):AV->Value->Prop where
 |bool (b:Bool):fY K w (.bool b) (.bool b)
 |int (k:IntKind) (n:Int):fY K w (.int k n) (.int k n)
 |str (s:ByteArray):fY K w (.str s) (.string s)
 |qR:fY K w .qR (.pointer none)
 |ay:fY K w .ay (.slice none 0 0)
 |func (f:Nat):fY K w (.func f) (.func (.func f) #[] #[])
 |ic (cs:List AV) (b o off:Nat) (f:Nat->Value) (hK:K b) (hone:∀(j:Nat) (a:AV),cs[j]?=some a->a.one=true)
   (hc:∀j,j < cs.length->w.cell? ⟨b,o+j,none⟩=some (f j)) (hr:∀(j:Nat) (a:AV),cs[j]?=some a->fY K w a (f j)) :
   fY K w (.ic cs off) (.pointer (some ⟨b,o+off,none⟩))
 |ei (cs:List AV) (n:Nat) (cap:Option Nat) (ad:Addr) (c':Nat) (f:Nat->Value) (hK:cs≠[]->ad.spot=none/\K ad.block) (hn:n<=c') (hcap:∀c,cap=some c->c'=c)
   (hone:∀(j:Nat) (a:AV),cs[j]?=some a->a.one=true)
   (hc:∀j,j < cs.length->w.cell? ⟨ad.block,ad.off+j,none⟩=some (f j)) (hr:∀(j:Nat) (a:AV),cs[j]?=some a->fY K w a (f j)) :
   fY K w (.ei cs n cap) (.slice (some ad) n c')
 |agg (cs:List AV) (vs:Array Value) (hl:cs.length=vs.size) (hone:∀(j:Nat) (a:AV),cs[j]?=some a->a.one=true)
   (hr:∀(j:Nat) (a:AV) (v:Value),cs[j]?=some a->vs[j]?=some v->fY K w a v):fY K w (.agg cs) (.agg vs)
 |iR (cs:List AV) (vs:Array Value) (hl:cs.length=vs.size) (hr:∀(j:Nat) (a:AV) (v:Value),cs[j]?=some a->vs[j]?=some v->fY K w a v) :
   fY K w (.iR cs) (.tuple vs)
inductive ax (φ:gW) (K:Nat->Prop) (w:World):AV->Value->Prop where
 |pure {a:AV} {v:Value} (h:fY K w a v):ax φ K w a v
 |ptr (id g off b base:Nat) (h:φ id g=some (b,base)):ax φ K w (.ptr id g off) (.pointer (some ⟨b,base+off,none⟩))
 |ref (id g off es len cap:Nat) (ex:Bool) (b base:Nat) (ad:Addr) (c':Nat) (h:φ id g=some (b,base)) (hl:len<=cap) (hc:cap<=c') (hex:ex=true->c'=cap)
   (had:c'≠0->ad=⟨b,base+off,none⟩/\∃(c:Array Value) (e:TypeId) (fr:Nat×Nat),w.heap[b]?=some (Obj.cells c e fr)/\base+off+c'*es<=c.size) :
   ax φ K w (.ref id g off es len cap ex) (.slice (some ad) len c')
 |agg (cs:List AV) (vs:Array Value) (hl:cs.length=vs.size) (hone:∀(j:Nat) (a:AV),cs[j]?=some a->a.one=true)
   (hr:∀(j:Nat) (a:AV) (v:Value),cs[j]?=some a->vs[j]?=some v->ax φ K w a v):ax φ K w (.agg cs) (.agg vs)
 |iR (cs:List AV) (vs:Array Value) (hl:cs.length=vs.size) (hr:∀(j:Nat) (a:AV) (v:Value),cs[j]?=some a->vs[j]?=some v->ax φ K w a v) :
   ax φ K w (.iR cs) (.tuple vs)
 |nU (id b:Nat) (h:φ id 0=some (b,0)):ax φ K w (.nU id) (.map (some b))
def gen:fZ->Nat
 |.row g _=>g
 |.map _=>0
def zb (φ:gW) (h:bz) (b:Nat):Prop:=∃id ob base,h id=some ob/\φ id (gen ob)=some (b,base)
variable {top:Nat}
structure ck (top:Nat) (φ:gW) (K:Nat->Prop) (h:bz) (nx:Nat) (w:World):Prop where
 nX:∀b,K b->b < w.heap.size/\¬zb φ h b
 row:∀id g cells,h id=some (.row g cells)->∃(b base:Nat) (c:Array Value) (e:TypeId),φ id g=some (b,base)/\w.heap[b]?=some (Obj.cells c e (0,0))/\base+cells.length<=c.size/\
  ∀(j:Nat) (a:AV),cells[j]?=some a->a.one=true/\∃v,c[base+j]?=some v/\ax φ K w a v
 map:∀id es,h id=some (.map es)->∃(b:Nat) (mes:Array MapEntry) (clk:Nat),φ id 0=some (b,0)/\w.heap[b]?=some (Obj.map mes clk)/\es.length=mes.size/\
  ∀(j:Nat) (k v:AV),es[j]?=some (k,v)->∃me,mes[j]?=some me/\ax φ K w k me.key/\ax φ K w v me.val
 inj:∀id id' ob ob' b base base',h id=some ob->h id'=some ob'->φ id (gen ob)=some (b,base)->φ id' (gen ob')=some (b,base')->id=id'
 low:∀id ob,h id=some ob->¬(nx<=id/\id < top)/\∀g,gen ob < g->φ id g=none
 new:∀id g,nx<=id->id < top->φ id g=none
structure Ext (M:Nat->Prop) (w w':World):Prop where
 size:w.heap.size<=w'.heap.size
 same:∀b,b < w.heap.size->¬M b->w'.heap[b]?=w.heap[b]?
 shape:∀(b:Nat) (c:Array Value) (e:TypeId) (fr:Nat×Nat),w.heap[b]?=some (Obj.cells c e fr)->∃c':Array Value,w'.heap[b]?=some (Obj.cells c' e fr)/\c'.size=c.size
 os:w'.os=w.os
 tape:w'.tape=w.tape
 output:w'.output=w.output
 fz:∀a,w'.frozen? a=w.frozen? a
theorem Ext.refl (M:Nat->Prop) (w:World):Ext M w w:=⟨U3 _,fun _ _ _=>rfl,fun _ c _ _ h=>⟨c,h,rfl⟩,rfl,rfl,rfl,fun _=>rfl⟩
theorem Ext.trans {M M':Nat->Prop} {w w' w'':World} (h:Ext M w w') (h':Ext M' w' w'') (hM:∀b,M' b->M b\/w.heap.size<=b):Ext M w w'' where
 size:=U1 h.size h'.size
 same b hb hn:=by rw [h'.same b (UX hb h.size) (fun hm=>(hM b hm).elim hn (fun hl=>Nat.lt_irrefl _ (UX hb hl))),h.same b hb hn]
 shape b c e fr hb:=by obtain⟨c1,h1,hs1⟩:=h.shape b c e fr hb;obtain⟨c2,h2,hs2⟩:=h'.shape b c1 e fr h1;exact⟨c2,h2,hs2.trans hs1⟩
 os:=h'.os.trans h.os
 tape:=h'.tape.trans h.tape
 output:=h'.output.trans h.output
 fz a:=(h'.fz a).trans (h.fz a)
theorem Ext.mono {M M':Nat->Prop} {w w':World} (h:Ext M w w') (hM:∀b,M b->M' b):Ext M' w w':=
 ⟨h.size,fun b hb hn=>h.same b hb (fun hm=>hn (hM b hm)),h.shape,h.os,h.tape,h.output,h.fz⟩
theorem Ext.drew {M:Nat->Prop} {w w':World} (h:Ext M w w'):Ext M w w'.drew:=⟨h.size,h.same,h.shape,h.os,h.tape,h.output,h.fz⟩
theorem cell_of {w w':World} {b:Nat} (h:w'.heap[b]?=w.heap[b]?) (o:Nat):w'.cell? ⟨b,o,none⟩=w.cell? ⟨b,o,none⟩:=by simp only [World.cell?,h]
theorem fY.keep {K K':Nat->Prop} {w w':World} (hK:∀b,K b->K' b) (hw:∀b,K b->w'.heap[b]?=w.heap[b]?) {a:AV} {v:Value} (h:fY K w a v):fY K' w' a v:=by
 induction h with
 |bool b=>exact .bool b
 |int k n=>exact .int k n
 |str s=>exact .str s
 |qR=>exact .qR
 |ay=>exact .ay
 |func f=>exact .func f
 |ic cs b o off f hKb hone hc hr ih=>exact .ic cs b o off f (hK b hKb) hone (fun j hj=>by rw [cell_of (hw b hKb)];exact hc j hj) ih
 |ei cs n cap ad c' f hKb hn hcap hone hc hr ih=>
  refine .ei cs n cap ad c' f (fun hne=>⟨(hKb hne).1,hK _ (hKb hne).2⟩) hn hcap hone (fun j hj=>?_) ih;have hne:cs≠[]:=by rintro rfl;simp at hj
  rw [cell_of (hw _ (hKb hne).2)];exact hc j hj
 |agg cs vs hl hone hr ih=>exact .agg cs vs hl hone ih
 |iR cs vs hl hr ih=>exact .iR cs vs hl ih
theorem ax.keep {φ φ':gW} {K K':Nat->Prop} {w w':World} (hφ:∀id g p,φ id g=some p->φ' id g=some p) (hK:∀b,K b->K' b) (hw:∀b,K b->w'.heap[b]?=w.heap[b]?)
  (hs:∀(b:Nat) (c:Array Value) (e:TypeId) (fr:Nat×Nat),w.heap[b]?=some (Obj.cells c e fr)->∃c':Array Value,w'.heap[b]?=some (Obj.cells c' e fr)/\c'.size=c.size) {a:AV} {v:Value} (h:ax φ K w a v):ax φ' K' w' a v:=by
 induction h with
 |pure h=>exact .pure (h.keep hK hw)
 |ptr id g off b base h=>exact .ptr id g off b base (hφ _ _ _ h)
 |ref id g off es len cap ex b base ad c' h hl hc hex had=>refine .ref id g off es len cap ex b base ad c' (hφ _ _ _ h) hl hc hex (fun h0=>?_);obtain⟨h1,c,e,fr,h2,h3⟩:=had h0;obtain⟨c1,h4,h5⟩:=hs b c e fr h2;exact⟨h1,c1,e,fr,h4,by rw [h5];exact h3⟩
 |agg cs vs hl hone hr ih=>exact .agg cs vs hl hone ih
 |iR cs vs hl hr ih=>exact .iR cs vs hl ih
 |nU id b h=>exact .nU id b (hφ _ _ _ h)
structure c7 (top:Nat) (φ:gW) (K:Nat->Prop) (h:bz) (nx:Nat) (w:World) (φ':gW) (K':Nat->Prop) (h':bz) (nx':Nat) (w':World):Prop where
 FO:∀id g p,φ id g=some p->φ' id g=some p
 k:∀b,K b->K' b
 j4:ck top φ' K' h' nx' w'
 ext:Ext (zb φ h) w w'
 mu:∀b,zb φ' h' b->zb φ h b\/w.heap.size<=b
 zl:∀b,K' b->K b\/w.heap.size<=b\/zb φ h b
 fr:∀id g p,φ' id g=some p->φ id g=some p\/(nx<=id/\id < nx')\/(h id).isSome=true
 dom:∀id,(h' id).isSome=true->(h id).isSome=true\/(nx<=id/\id < nx')
 nx:nx<=nx'
theorem c7.refl {φ:gW} {K:Nat->Prop} {h:bz} {nx:Nat} {w:World} (s:ck top φ K h nx w):c7 top φ K h nx w φ K h nx w:=
 ⟨fun _ _ _ h=>h,fun _ h=>h,s,Ext.refl _ _,fun _ h=>.inl h,fun _ h=>.inl h,fun _ _ _ h=>.inl h,fun _ h=>.inl h,U3 _⟩
theorem c7.trans {φ φ' φ'':gW} {K K' K'':Nat->Prop} {h h' h'':bz} {nx nx' nx'':Nat} {w w' w'':World} (g:c7 top φ K h nx w φ' K' h' nx' w') (g':c7 top φ' K' h' nx' w' φ'' K'' h'' nx'' w'') :
  c7 top φ K h nx w φ'' K'' h'' nx'' w'' where
 FO id gg p hp:=g'.FO _ _ _ (g.FO _ _ _ hp)
 k b hb:=g'.k b (g.k b hb)
 j4:=g'.j4
 ext:=g.ext.trans g'.ext g.mu
 mu b hb:=(g'.mu b hb).elim (g.mu b) (fun hl=>.inr (U1 g.ext.size hl))
 zl b hb:=by
  rcases g'.zl b hb with h1|h1|h1
  ·exact g.zl b h1
  ·exact .inr (.inl (U1 g.ext.size h1))
  ·rcases g.mu b h1 with h2|h2
   ·exact .inr (.inr h2)
   ·exact .inr (.inl h2)
 fr id gg p hp:=by
  have l1:=g.nx;have l2:=g'.nx;rcases g'.fr id gg p hp with h1|h1|h1
  ·rcases g.fr id gg p h1 with h2|h2|h2
   ·exact .inl h2
   ·exact .inr (.inl (by omega))
   ·exact .inr (.inr h2)
  ·exact .inr (.inl (by omega))
  ·rcases g.dom id h1 with h2|h2
   ·exact .inr (.inr h2)
   ·exact .inr (.inl (by omega))
 dom id hd:=by
  have l1:=g.nx;have l2:=g'.nx;rcases g'.dom id hd with h1|h1
  ·rcases g.dom id h1 with h2|h2
   ·exact .inl h2
   ·exact .inr (by omega)
  ·exact .inr (by omega)
 nx:=U1 g.nx g'.nx
theorem c7.val {φ φ':gW} {K K':Nat->Prop} {h h':bz} {nx nx':Nat} {w w':World} (s:ck top φ K h nx w) (g:c7 top φ K h nx w φ' K' h' nx' w') {a:AV} {v:Value} (r:ax φ K w a v):ax φ' K' w' a v:=
 r.keep g.FO g.k (fun b hb=>g.ext.same b (s.nX b hb).1 (s.nX b hb).2) g.ext.shape
theorem ck.congr {φ:gW} {K:Nat->Prop} {h h':bz} {nx:Nat} {w:World} (s:ck top φ K h nx w) (e:∀id,h' id=h id):ck top φ K h' nx w:=by obtain rfl:h'=h:=funext e;exact s
theorem ck.drew {φ:gW} {K:Nat->Prop} {h:bz} {nx:Nat} {w:World} (s:ck top φ K h nx w):ck top φ K h nx w.drew:=by
 have hv:∀{a:AV} {v:Value},ax φ K w a v->ax φ K w.drew a v:=fun r=>ax.keep (w:=w) (w':=w.drew) (fun _ _ _ h=>h) (fun _ h=>h) (fun _ _=>rfl) (fun _ c _ _ h=>⟨c,h,rfl⟩) r
 refine⟨s.nX,fun id g cells hh=>?_,fun id es hh=>?_,s.inj,s.low,s.new⟩
 ·obtain⟨b,base,c,e,h1,h2,h3,h4⟩:=s.row id g cells hh;exact⟨b,base,c,e,h1,h2,h3,fun j a ha=>⟨(h4 j a ha).1,let ⟨v,hv1,hv2⟩:=(h4 j a ha).2;⟨v,hv1,hv hv2⟩⟩⟩
 ·obtain⟨b,mes,clk,h1,h2,h3,h4⟩:=s.map id es hh;exact⟨b,mes,clk,h1,h2,h3,fun j k v hj=>let ⟨me,m1,m2,m3⟩:=h4 j k v hj;⟨me,m1,hv m2,hv m3⟩⟩
theorem ck.part {φ:gW} {K:Nat->Prop} {h h':bz} {nx:Nat} {w:World} (s:ck top φ K h nx w) (e:∀id o,h' id=some o->h id=some o):ck top φ K h' nx w:=
 ⟨fun b hb=>⟨(s.nX b hb).1,fun ⟨id,ob,base,h1,h2⟩=>(s.nX b hb).2 ⟨id,ob,base,e _ _ h1,h2⟩⟩,fun id g cells hh=>s.row id g cells (e _ _ hh),fun id es hh=>s.map id es (e _ _ hh),
  fun id id' ob ob' b base base' h1 h2=>s.inj id id' ob ob' b base base' (e _ _ h1) (e _ _ h2),fun id ob hh=>s.low id ob (e _ _ hh),s.new⟩
def BW (h:bz) (id:Nat) (ob:Option fZ):bz:=fun j=>if j=id then ob else h j
theorem dc (h:bz) (id:Nat) (ob:Option fZ):BW h id ob id=ob:=if_pos rfl
theorem bW (h:bz) {id j:Nat} (ob:Option fZ) (hne:j≠id):BW h id ob j=h j:=if_neg hne
theorem vU (w:World) (ob:Obj) {b:Nat} (h:b < w.heap.size):(w.alloc ob).heap[b]?=w.heap[b]?:=by show (w.heap.push ob)[b]?=_;rw [Array.getElem?_push,if_neg (by omega)]
theorem mq (w:World) (ob:Obj):(w.alloc ob).heap[w.heap.size]?=some ob:=by show (w.heap.push ob)[w.heap.size]?=_;rw [Array.getElem?_push,if_pos rfl]
theorem CR {φ:gW} {K:Nat->Prop} {h:bz} {nx:Nat} {w:World} (s:ck top φ K h nx w) (qxe:nx < top) (cells:List AV) (c:Array Value) (e:TypeId) (hl:cells.length<=c.size)
  (hone:∀(j:Nat) (a:AV),cells[j]?=some a->a.one=true) (hr:∀(j:Nat) (a:AV),cells[j]?=some a->∃v,c[j]?=some v/\ax φ K w a v) :
  c7 top φ K h nx w (fun id g=>if id=nx/\g=0 then some (w.heap.size,0) else φ id g) K (BW h nx (some (.row 0 cells))) (nx+1) (w.alloc (.cells c e)):=by
 have qxQ:∀id g p,φ id g=some p->(if id=nx/\g=0 then some (w.heap.size,0) else φ id g)=some p:=by
  intro id g p hp;rw [if_neg]
  ·exact hp
  ·rintro⟨rfl,rfl⟩;rw [s.new _ _ (U3 _) qxe] at hp;cases hp
 have hsame:∀b,b < w.heap.size->(w.alloc (.cells c e)).heap[b]?=w.heap[b]?:=fun b hb=>vU w _ hb
 have qxm:∀(b:Nat) (c0:Array Value) (e0:TypeId) (fr:Nat×Nat),w.heap[b]?=some (Obj.cells c0 e0 fr)->∃c':Array Value,(w.alloc (.cells c e)).heap[b]?=some (Obj.cells c' e0 fr)/\c'.size=c0.size:=by intro b c0 e0 fr hb;have hlt:b < w.heap.size:=(Array.getElem?_eq_some_iff.1 hb).1;exact⟨c0,by rw [hsame b hlt];exact hb,rfl⟩
 have hval:∀{a:AV} {v:Value},ax φ K w a v->ax (fun id g=>if id=nx/\g=0 then some (w.heap.size,0) else φ id g) K (w.alloc (.cells c e)) a v:=
  fun r=>r.keep qxQ (fun _ h=>h) (fun b hb=>hsame b (s.nX b hb).1) qxm
 have hold:∀id ob,h id=some ob->id≠nx:=fun id ob hh he=>by have:=(s.low id ob hh).1;omega
 have qxV:∀b,zb (fun id g=>if id=nx/\g=0 then some (w.heap.size,0) else φ id g) (BW h nx (some (.row 0 cells))) b->zb φ h b\/w.heap.size<=b:=by
  rintro b ⟨id,ob,base,h1,h2⟩;by_cases hid:id=nx
  ·subst hid;rw [dc] at h1;cases h1;simp [gen] at h2;omega
  ·rw [bW _ _ hid] at h1;simp only [hid,false_and,if_false] at h2;exact .inl ⟨id,ob,base,h1,h2⟩
 have qjn:∀id ob b base,h id=some ob->φ id (gen ob)=some (b,base)->b < w.heap.size:=by
  intro id ob b base hh hp;cases ob with
  |row g cells'=>obtain⟨b1,qxa,c1,e1,h1,h2,_⟩:=s.row id g cells' hh;simp only [gen] at hp;rw [h1] at hp;cases hp;exact(Array.getElem?_eq_some_iff.1 h2).1
  |map es=>obtain⟨b1,mes,clk,h1,h2,_⟩:=s.map id es hh;simp only [gen] at hp;rw [h1] at hp;cases hp;exact(Array.getElem?_eq_some_iff.1 h2).1
 refine⟨qxQ,fun _ h=>h,⟨fun b hb=>⟨?_,fun hm=>?_⟩,fun id g cells' hh=>?_,fun id es hh=>?_,fun id id' ob ob' b base base' h1 h2 p1 p2=>?_,fun id ob hh=>?_,fun id g hid=>?_⟩,
  ⟨by rw [World.size_alloc];omega,fun b hb _=>hsame b hb,qxm,rfl,rfl,rfl,fun a=>RowKit.frozen?_alloc_cells w c e a⟩,qxV,fun _ h=>.inl h,fun id g p hp=>?_,fun id hd=>?_,Nat.le_succ _⟩
 ·have:=(s.nX b hb).1;rw [World.size_alloc];omega
 ·rcases qxV b hm with h1|h1
  ·exact(s.nX b hb).2 h1
  ·have:=(s.nX b hb).1;omega
 ·by_cases hid:id=nx
  ·subst hid;rw [dc] at hh;cases hh;refine⟨w.heap.size,0,c,e,by simp,mq w _,by omega,fun j a ha=>⟨hone j a ha,?_⟩⟩;obtain⟨v,hv1,hv2⟩:=hr j a ha;exact⟨v,by simpa using hv1,hval hv2⟩
  ·rw [bW _ _ hid] at hh;obtain⟨b,base,c1,e1,h1,h2,h3,h4⟩:=s.row id g cells' hh;refine⟨b,base,c1,e1,qxQ _ _ _ h1,by rw [hsame b (Array.getElem?_eq_some_iff.1 h2).1];exact h2,h3,fun j a ha=>⟨(h4 j a ha).1,?_⟩⟩;obtain⟨v,hv1,hv2⟩:=(h4 j a ha).2;exact⟨v,hv1,hval hv2⟩
 ·by_cases hid:id=nx
  ·subst hid;rw [dc] at hh;cases hh
  ·rw [bW _ _ hid] at hh;obtain⟨b,mes,clk,h1,h2,h3,h4⟩:=s.map id es hh;refine⟨b,mes,clk,qxQ _ _ _ h1,by rw [hsame b (Array.getElem?_eq_some_iff.1 h2).1];exact h2,h3,fun j k v hj=>?_⟩;obtain⟨me,m1,m2,m3⟩:=h4 j k v hj;exact⟨me,m1,hval m2,hval m3⟩
 ·by_cases hid:id=nx
  ·by_cases qxv:id'=nx
   ·omega
   ·subst hid;rw [dc] at h1;cases h1;rw [bW _ _ qxv] at h2;simp [gen] at p1;simp only [qxv,false_and,if_false] at p2;have:=qjn id' ob' b base' h2 p2;omega
  ·rw [bW _ _ hid] at h1;simp only [hid,false_and,if_false] at p1;by_cases qxv:id'=nx
   ·subst qxv;rw [dc] at h2;cases h2;simp [gen] at p2;have:=qjn id ob b base h1 p1;omega
   ·rw [bW _ _ qxv] at h2;simp only [qxv,false_and,if_false] at p2;exact s.inj id id' ob ob' b base base' h1 h2 p1 p2
 ·by_cases hid:id=nx
  ·subst hid;rw [dc] at hh;cases hh;refine⟨by omega,fun g hg=>?_⟩;simp only [gen] at hg;rw [if_neg (by omega)];exact s.new _ _ (U3 _) qxe
  ·rw [bW _ _ hid] at hh;refine⟨by have:=(s.low id ob hh).1;omega,fun g hg=>?_⟩;rw [if_neg (by omega)];exact(s.low id ob hh).2 g hg
 ·intro ht;show (if id=nx/\g=0 then _ else _)=_;rw [if_neg (by omega)];exact s.new _ _ (by omega) ht
 ·by_cases hc:id=nx/\g=0
  ·exact .inr (.inl (by omega))
  ·exact .inl (by rwa [if_neg hc] at hp)
 ·by_cases hid:id=nx
  ·exact .inr (by omega)
  ·rw [bW _ _ hid] at hd;exact .inl hd
theorem gq {φ:gW} {K:Nat->Prop} {h:bz} {nx:Nat} {w:World} (s:ck top φ K h nx w) {id:Nat} {ob:fZ} {b base:Nat} (hh:h id=some ob) (hp:φ id (gen ob)=some (b,base)):b < w.heap.size:=by
 cases ob with
 |row g cells'=>obtain⟨b1,qxa,c1,e1,h1,h2,_⟩:=s.row id g cells' hh;simp only [gen] at hp;rw [h1] at hp;cases hp;exact(Array.getElem?_eq_some_iff.1 h2).1
 |map es=>obtain⟨b1,mes,clk,h1,h2,_⟩:=s.map id es hh;simp only [gen] at hp;rw [h1] at hp;cases hp;exact(Array.getElem?_eq_some_iff.1 h2).1
theorem rj (w:World) {b:Nat} {c:Array Value} {e:TypeId} {fr:Nat×Nat} (hb:w.heap[b]?=some (.cells c e fr)) (c':Array Value) (a:Addr):(w.setRow b c').frozen? a=w.frozen? a:=by
 by_cases h:a.block=b
 ·have h1:=setRow_heap w b c c' e fr hb;rw [←h] at h1 hb;simp only [World.frozen?,h,h1,hb];rw [h] at h1 hb;rw [h1,hb]
 ·exact World.frozen?_of_block (setRow_other w b _ c' h)
theorem yN {φ φ':gW} {K:Nat->Prop} {h:bz} {nx:Nat} {w w':World} (s:ck top φ K h nx w) {id:Nat} {g:Nat} {cells:List AV} (hh:h id=some (.row g cells)) {b base:Nat} (hb:φ id g=some (b,base))
  (g':Nat) (cells':List AV) (b' base':Nat) (c':Array Value) (e':TypeId) (hφ:∀i gg,φ' i gg=if i=id/\gg=g' then some (b',base') else φ i gg)
  (hg:(g'=g/\b'=b/\base'=base)\/g < g') (hb':b'=b\/b'=w.heap.size)
  (hw:w'.heap[b']?=some (.cells c' e' (0,0))) (hot:∀i,i < w.heap.size->i≠b'->w'.heap[i]?=w.heap[i]?) (hsz:w.heap.size<=w'.heap.size)
  (qxm:∀(c:Array Value) (e:TypeId) (fr:Nat×Nat),w.heap[b']?=some (Obj.cells c e fr)->e'=e/\fr=(0,0)/\c'.size=c.size)
  (hfz:∀a,w'.frozen? a=w.frozen? a) (hos:w'.os=w.os) (qzQ:w'.tape=w.tape) (hout:w'.output=w.output) (hl:base'+cells'.length<=c'.size)
  (hr:∀(j:Nat) (a:AV),cells'[j]?=some a->a.one=true/\∃v,c'[base'+j]?=some v/\ax φ K w a v) :
  c7 top φ K h nx w φ' K (BW h id (some (.row g' cells'))) nx w':=by
 have qxQ:∀i gg p,φ i gg=some p->φ' i gg=some p:=by
  intro i gg p hp;rw [hφ];by_cases hc:i=id/\gg=g'
  ·obtain⟨rfl,rfl⟩:=hc;rw [if_pos ⟨rfl,rfl⟩];rcases hg with ⟨rfl,rfl,rfl⟩|hg
   ·rw [hb] at hp;exact hp
   ·rw [(s.low _ _ hh).2 gg (by simpa [gen] using hg)] at hp;cases hp
  ·rw [if_neg hc];exact hp
 have qjM:b < w.heap.size:=gq s hh (by simpa [gen] using hb);have qx4:zb φ h b:=⟨id,_,base,hh,by simpa [gen] using hb⟩;have qxG:∀(i:Nat) (c:Array Value) (e:TypeId) (fr:Nat×Nat),w.heap[i]?=some (Obj.cells c e fr)->∃c1:Array Value,w'.heap[i]?=some (Obj.cells c1 e fr)/\c1.size=c.size:=by
  intro i c e fr hi;have hlt:i < w.heap.size:=(Array.getElem?_eq_some_iff.1 hi).1;by_cases hib:i=b'
  ·subst hib;obtain⟨rfl,rfl,hs⟩:=qxm c e fr hi;exact⟨c',hw,hs⟩
  ·exact⟨c,by rw [hot i hlt hib];exact hi,rfl⟩
 have hKb:∀i,K i->i≠b':=by
  intro i hi hib;subst hib;rcases hb' with rfl|rfl
  ·exact(s.nX _ hi).2 qx4
  ·exact Nat.lt_irrefl _ (s.nX _ hi).1
 have hval:∀{a:AV} {v:Value},ax φ K w a v->ax φ' K w' a v:=
  fun r=>ax.keep qxQ (fun _ h=>h) (fun i hi=>hot i (s.nX i hi).1 (hKb i hi)) qxG r
 have qxt:∀i ob p,i≠id->h i=some ob->φ' i (gen ob)=some p->φ i (gen ob)=some p:=by intro i ob p hne _ hp;rw [hφ,if_neg (fun hc=>hne hc.1)] at hp;exact hp
 have qxK:∀i ob qxa,i≠id->h i=some ob->φ i (gen ob)=some (b',qxa)->False:=by
  intro i ob qxa hne hi hp;rcases hb' with rfl|rfl
  ·exact hne (s.inj i id ob _ _ qxa base hi hh hp (by simpa [gen] using hb))
  ·exact Nat.lt_irrefl _ (gq s hi hp)
 have qxV:∀i,zb φ' (BW h id (some (.row g' cells'))) i->zb φ h i\/w.heap.size<=i:=by
  rintro i ⟨id1,ob,qxa,h1,h2⟩;by_cases hid:id1=id
  ·subst hid;rw [dc] at h1;cases h1;simp only [gen] at h2;rw [hφ,if_pos ⟨rfl,rfl⟩] at h2;cases h2;rcases hb' with rfl|rfl
   ·exact .inl qx4
   ·exact .inr (U3 _)
  ·rw [bW _ _ hid] at h1;exact .inl ⟨id1,ob,qxa,h1,qxt _ _ _ hid h1 h2⟩
 refine⟨qxQ,fun _ h=>h,⟨fun i hi=>⟨UX (s.nX i hi).1 hsz,fun hm=>?_⟩,fun id1 g1 qxx h1=>?_,fun id1 es h1=>?_,fun id1 id2 ob1 ob2 i qxa qzE h1 h2 p1 p2=>?_,fun id1 ob h1=>?_,fun id1 gg hid=>?_⟩,
  ⟨hsz,fun i hi hn=>hot i hi ?_,qxG,hos,qzQ,hout,hfz⟩,qxV,fun _ h=>.inl h,fun i gg p hp=>?_,fun i hd=>?_,U3 _⟩
 ·rcases qxV i hm with h1|h1
  ·exact(s.nX i hi).2 h1
  ·exact Nat.lt_irrefl _ (UX (s.nX i hi).1 h1)
 ·by_cases hid:id1=id
  ·subst hid;rw [dc] at h1;cases h1;refine⟨b',base',c',e',by rw [hφ,if_pos ⟨rfl,rfl⟩],hw,hl,fun j a ha=>⟨(hr j a ha).1,?_⟩⟩;obtain⟨v,hv1,hv2⟩:=(hr j a ha).2;exact⟨v,hv1,hval hv2⟩
  ·rw [bW _ _ hid] at h1;obtain⟨b1,qxa,c1,e1,h2,h3,h4,h5⟩:=s.row id1 g1 qxx h1;have qzZ:b1≠b':=fun he=>qxK id1 _ qxa hid h1 (by subst he;simpa [gen] using h2)
   refine⟨b1,qxa,c1,e1,qxQ _ _ _ h2,by rw [hot b1 (Array.getElem?_eq_some_iff.1 h3).1 qzZ];exact h3,h4,fun j a ha=>⟨(h5 j a ha).1,?_⟩⟩;obtain⟨v,hv1,hv2⟩:=(h5 j a ha).2;exact⟨v,hv1,hval hv2⟩
 ·by_cases hid:id1=id
  ·subst hid;rw [dc] at h1;cases h1
  ·rw [bW _ _ hid] at h1;obtain⟨b1,mes,clk,h2,h3,h4,h5⟩:=s.map id1 es h1;have qzZ:b1≠b':=fun he=>qxK id1 _ 0 hid h1 (by subst he;simpa [gen] using h2)
   refine⟨b1,mes,clk,qxQ _ _ _ h2,by rw [hot b1 (Array.getElem?_eq_some_iff.1 h3).1 qzZ];exact h3,h4,fun j k v hj=>?_⟩;obtain⟨me,m1,m2,m3⟩:=h5 j k v hj;exact⟨me,m1,hval m2,hval m3⟩
 ·by_cases qzc:id1=id
  ·by_cases qza:id2=id
   ·omega
   ·exfalso;subst qzc;rw [dc] at h1;cases h1;rw [bW _ _ qza] at h2;simp only [gen] at p1;rw [hφ,if_pos ⟨rfl,rfl⟩] at p1;cases p1;exact qxK id2 ob2 qzE qza h2 (qxt _ _ _ qza h2 p2)
  ·by_cases qza:id2=id
   ·exfalso;subst qza;rw [dc] at h2;cases h2;rw [bW _ _ qzc] at h1;simp only [gen] at p2;rw [hφ,if_pos ⟨rfl,rfl⟩] at p2;cases p2;exact qxK id1 ob1 qxa qzc h1 (qxt _ _ _ qzc h1 p1)
   ·rw [bW _ _ qzc] at h1;rw [bW _ _ qza] at h2;exact s.inj id1 id2 ob1 ob2 i qxa qzE h1 h2 (qxt _ _ _ qzc h1 p1) (qxt _ _ _ qza h2 p2)
 ·by_cases hid:id1=id
  ·subst hid;rw [dc] at h1;cases h1;refine⟨(s.low _ _ hh).1,fun gg hgg=>?_⟩;simp only [gen] at hgg;rw [hφ,if_neg (by omega)];refine(s.low _ _ hh).2 gg ?_;simp only [gen];omega
  ·rw [bW _ _ hid] at h1;refine⟨(s.low id1 ob h1).1,fun gg hgg=>?_⟩;rw [hφ,if_neg (fun hc=>hid hc.1)];exact(s.low id1 ob h1).2 gg hgg
 ·intro ht;rw [hφ,if_neg]
  ·exact s.new id1 gg hid ht
  ·rintro⟨rfl,rfl⟩;exact(s.low _ _ hh).1 ⟨hid,ht⟩
 ·rintro rfl;rcases hb' with rfl|rfl
  ·exact hn qx4
  ·exact Nat.lt_irrefl _ hi
 ·by_cases hc:i=id/\gg=g'
  ·rw [hc.1,hh];exact .inr (.inr rfl)
  ·rw [hφ,if_neg hc] at hp;exact .inl hp
 ·by_cases hid:i=id
  ·rw [hid,hh];exact .inl rfl
  ·rw [bW _ _ hid] at hd;exact .inl hd
end Go.Ax
namespace Go.Ax
noncomputable def eC (h:bz):Option Di->Option (List AV)
 |none=>some []
 |some r=>match h r.id with
  |some (.row g cells)=>bif Nat.beq g r.g then cut cells r.off r.len else none
  |_=>none
def jR (h:bz):Option Nat->Option (Option fZ)
 |none=>some none
 |some id=>match h id with
  |some o=>some (some o)
  |none=>none
def wS (h:bz) (u:Option Nat) (ob:Option fZ):bz:=match ob with
 |none=>h
 |some ob=>match u with
  |some id=>BW h id (some ob)
  |none=>h
noncomputable def uW (p:bg) (h:bz) (nx:Nat):Option (AV×bz×Nat):=match p with
 |.val v=>some (v,h,nx)
 |.new f o=>some (f nx,BW h nx (some o),nx+1)
 |.look q u k=>match eC h q with
  |none=>none
  |some a=>match jR h u with
   |none=>none
   |some o=>match k a o with
    |none=>none
    |some out=>match out.new with
     |some ob=>some (out.val nx,BW (wS h u out.obj) nx (some ob),nx+1)
     |none=>some (out.val nx,wS h u out.obj,nx)
theorem oO (H:aU) (id:Nat) (ob:Option fZ):(H.put ob id).get=BW H.get id ob:=by funext j;rw [Map.aa];rfl
theorem Fb (H:aU) (q:Option Di):dr H q=eC H.get q:=by cases q<;>rfl
theorem Io (H:aU) (u:Option Nat):i_ H u=jR H.get u:=by cases u<;>rfl
theorem GO (H:aU) (u:Option Nat) (ob:Option fZ):(uT H u ob).get=wS H.get u ob:=by
 cases ob with
 |none=>rfl
 |some ob=>cases u with
  |none=>rfl
  |some id=>exact oO H id _
theorem zR {p:bg} {H H':aU} {nx nx':Nat} {v:AV} (hr:cO p H nx=some (v,H',nx')):uW p H.get nx=some (v,H'.get,nx'):=by
 cases p with
 |val v=>cases hr;rfl
 |new f o=>cases hr;rw [oO];rfl
 |look q u k=>
  simp only [cO,fq,Fb,Io] at hr;simp only [uW];cases hq:eC H.get q with
  |none=>rw [hq] at hr;cases hr
  |some a=>
   rw [hq] at hr;simp only at hr ⊢;cases hu:jR H.get u with
   |none=>rw [hu] at hr;cases hr
   |some o=>
    rw [hu] at hr;simp only at hr ⊢;cases hk:k a o with
    |none=>rw [hk] at hr;cases hr
    |some out=>
     rw [hk] at hr;simp only at hr ⊢;cases hn:out.new with
     |none=>rw [hn] at hr;cases hr;simp only [GO]
     |some ob=>rw [hn] at hr;cases hr;simp only [oO,GO]
def Sound (top:Nat) (P:Program) (φ:gW) (K:Nat->Prop) (h:bz) (nx:Nat) (w:World) (ρc:Operand->Value) (o:Oper) (p:bg):Prop:=
 ∀v h' nx',uW p h nx=some (v,h',nx')->nx'<=top->∃V w' φ' K',((execOp ρc o).run P w=.ok (.value V) w'\/((execOp ρc o).run P w=.ok .skip w'/\V=undef))/\c7 top φ K h nx w φ' K' h' nx' w'/\ax φ' K' w' v V
def JY:Value->AV->Bool
 |.bool a,.bool b=>a == b
 |.int k n,.int k' n'=>Jc k k'&&Gb n n'
 |.string s,.str s'=>s.data.toList == s'.data.toList
 |.slice none 0 0,.ay=>true
 |.pointer none,.qR=>true
 |_,_=>false
def yj:List Value->List AV->Bool
 |[],[]=>true
 |v::vs,a::as=>JY v a&&yj vs as
 |_,_=>false
def bV:Operand->aR->Bool
 |.tmp n,.t m=>Nat.beq n m
 |.const (.agg vs),.c (.agg as)=>yj vs.toList as
 |.const v,.c a=>JY v a
 |.func f,.c (.func g)=>Nat.beq f g
 |_,_=>false
def wk:List Operand->List aR->Bool
 |[],[]=>true
 |v::vs,a::as=>bV v a&&wk vs as
 |_,_=>false
def wU:Option Operand->Option aR->Bool
 |none,none=>true
 |some x,some y=>bV x y
 |_,_=>false
theorem yl {v:Value} {a:AV} (h:JY v a=true) (K:Nat->Prop) (w:World):fY K w a v/\a.one=true/\v.oneCell'=true:=by
 unfold JY at h;split at h
 ·simp at h;subst h;exact⟨.bool _,rfl,rfl⟩
 ·simp [sy] at h;obtain⟨h1,rfl⟩:=h;have:=vN h1;subst this;exact⟨.int _ _,rfl,rfl⟩
 ·rename_i s s';have e:s=s':=by cases s;cases s';simp at h;simp [h]
  subst e;exact⟨.str _,rfl,rfl⟩
 ·exact⟨.ay,rfl,rfl⟩
 ·exact⟨.qR,rfl,rfl⟩
 ·cases h
theorem qj {vs:List Value} {as:List AV} (h:yj vs as=true) (K:Nat->Prop) (w:World) :
  as.length=vs.length/\(∀(j:Nat) (a:AV),as[j]?=some a->a.one=true/\∃v,vs[j]?=some v/\fY K w a v)/\∀v∈vs,v.oneCell'=true:=by
 induction vs generalizing as with
 |nil=>cases as with
  |nil=>exact⟨rfl,fun j a ha=>by simp at ha,fun v hv=>by cases hv⟩
  |cons a as=>cases h
 |cons v vs ih=>cases as with
  |nil=>cases h
  |cons a as=>
   simp only [yj,UN] at h;obtain⟨h1,h2,h3⟩:=ih h.2;obtain⟨r1,r2,r3⟩:=yl h.1 K w;refine⟨by simp [h1],fun j a' ha'=>?_,fun v' hv'=>?_⟩
   ·cases j with
    |zero=>simp at ha';subst ha';exact⟨r2,v,rfl,r1⟩
    |succ j=>simpa using h2 j a' (by simpa using ha')
   ·rcases UI.1 hv' with rfl|hm
    ·exact r3
    ·exact h3 v' hm
section
variable {top:Nat} {P:Program} {φ:gW} {K:Nat->Prop} {h:bz} {nx:Nat} {w:World}
theorem DN {a:AV} {v:Value} (r:ax φ K w a v) (h1:a.one=true):v.oneCell'=true:=by
 cases r with
 |pure r=>cases r<;>first|rfl|cases h1
 |agg=>cases h1
 |iR=>cases h1
 |_=>rfl
theorem jo (s:ck top φ K h nx w) {id g off n:Nat} {cs:List AV} (hf:eC h (some ⟨id,g,off,n⟩)=some cs) :
  ∃(b base:Nat) (c:Array Value) (e:TypeId),φ id g=some (b,base)/\w.heap[b]?=some (.cells c e (0,0))/\base+(off+n)<=c.size/\cs.length=n/\
   ∀(j:Nat) (a:AV),cs[j]?=some a->a.one=true/\∃v,c[base+off+j]?=some v/\ax φ K w a v:=by
 simp only [eC] at hf;cases hh:h id with
 |none=>rw [hh] at hf;cases hf
 |some ob=>
  rw [hh] at hf;cases ob with
  |map es=>cases hf
  |row g' cells=>
   simp only [cond_eq_ite,UQ] at hf;split at hf
   ·rename_i hg;subst hg;obtain⟨b,base,c,e,h1,h2,h3,h4⟩:=s.row id g' cells hh;obtain⟨hl,hat⟩:=BB hf;have hfit:=(iu hf).1;refine⟨b,base,c,e,h1,h2,by omega,hl,fun j a ha=>?_⟩;have hj:j < n:=by
     rcases Nat.lt_or_ge j cs.length with hj|hj
     ·omega
     ·rw [Ut hj] at ha;cases ha
    rw [hat j hj] at ha;obtain⟨h5,v,h6,h7⟩:=h4 (off+j) a ha;exact⟨h5,v,by rw [←h6,Nat.add_assoc],h7⟩
   ·cases hf
theorem nv {b o:Nat} {c:Array Value} {e:TypeId} {fr:Nat×Nat} (hb:w.heap[b]?=some (.cells c e fr)):w.cell? ⟨b,o,none⟩=c[o]?:=by simp [World.cell?,hb]
def sn (c:Array Value) (o n:Nat):List Value:=(List.range n).map fun j=>c.getD (o+j) undef
theorem lJ (c:Array Value) (o n:Nat):(sn c o n).length=n:=by simp [sn]
theorem iX (c:Array Value) (o n j:Nat) (hj:j < n) (hc:o+j < c.size):(sn c o n)[j]?=c[o+j]?:=by simp [sn,hj,Array.getElem?_eq_getElem hc]
theorem qo (s:ck top φ K h nx w) {id g:Nat} {cells cells' cs:List AV} {off b base:Nat} {c:Array Value} {e:TypeId} (hh:h id=some (.row g cells)) (hb:φ id g=some (b,base))
  (hc:w.heap[b]?=some (.cells c e (0,0))) (hfit:base+cells.length<=c.size) (qxp:∀(j:Nat) (a:AV),cells[j]?=some a->a.one=true/\∃v,c[base+j]?=some v/\ax φ K w a v)
  (ho:dz cells off cs=some cells') (vs:List Value) (hvl:vs.length=cs.length)
  (qzI:∀(j:Nat) (a:AV) (v:Value),cs[j]?=some a->vs[j]?=some v->ax φ K w a v) (hone:∀(j:Nat) (a:AV),cs[j]?=some a->a.one=true) :
  c7 top φ K h nx w φ K (BW h id (some (.row g cells'))) nx (w.setRow b (c.toList.take (base+off)++vs++c.toList.drop (base+off+vs.length)).toArray):=by
 obtain⟨hl',hat⟩:=e9 ho;have hof:=(dR ho).1;have hsize:(c.toList.take (base+off)++vs++c.toList.drop (base+off+vs.length)).toArray.size=c.size:=by simp;omega
 have qjM:b < w.heap.size:=(Array.getElem?_eq_some_iff.1 hc).1;refine yN s hh hb g cells' b base _ e (fun i gg=>?_) (.inl ⟨rfl,rfl,rfl⟩) (.inl rfl) (setRow_heap w b c _ e (0,0) hc) (fun i hi hne=>setRow_other w b i _ hne) (by simp [World.setRow]) ?_ (fun a=>rj w hc _ a) rfl rfl rfl (by rw [hsize,hl'];exact hfit) ?_
 ·split
  ·rename_i hc';obtain⟨rfl,rfl⟩:=hc';exact hb
  ·rfl
 ·intro c1 e1 fr1 h1;rw [hc] at h1;cases h1;exact⟨rfl,rfl,hsize⟩
 ·intro j a ha;rw [hat j] at ha;by_cases hin:off<=j/\j < off+cs.length
  ·rw [if_pos hin] at ha;refine⟨hone _ a ha,?_⟩;have hj:j - off < vs.length:=by omega
   refine⟨vs[j - off],?_,qzI _ a _ ha (Un hj)⟩;simp only [List.getElem?_toArray];rw [Uq (by simp;omega),Ur (by simp;omega)];simp only [UA,Array.length_toList];rw [Un (by omega)];congr 1;congr 1;omega
  ·rw [if_neg hin] at ha;obtain⟨h1,v,h2,h3⟩:=qxp j a ha;refine⟨h1,v,?_,h3⟩;rw [←h2];simp only [List.getElem?_toArray];by_cases hlo:j < off
   ·rw [Uq (by simp;omega),Uq (by simp;omega),List.getElem?_take_of_lt (by omega),Array.getElem?_toList]
   ·rw [Ur (by simp;omega),Uv];simp only [Uz,UA,Array.length_toList];rw [←Array.getElem?_toList];congr 1;have:off+cs.length<=j:=by omega
    have hb2:base+off+cs.length<=c.size:=by omega
    omega
end
end Go.Ax
namespace Go.Ax
def tInfo (P:Program) (t:TypeId) (f:TypeInfo->Bool):Bool:=match P.info? t with|some i=>f i|none=>false
def ga (P:Program) (t:TypeId) (f:TypeDesc->Bool):Bool:=match P.underlying t with|some d=>f d|none=>false
def lR (P:Program) (t:TypeId) (n:Nat):Bool:=tInfo P t fun i=>Nat.beq i.size n
def nR:TypeDesc->Bool
 |.struct _=>true
 |.array _ _=>true
 |_=>false
def xy (P:Program) (t:TypeId) (sz:Option Nat):Bool:=match sz with
 |none=>ga P t fun d=>!nR d
 |some n=>(ga P t fun d=>nR d)&&lR P t n
theorem dY {P:Program} {t:TypeId} {f:TypeInfo->Bool} (h:tInfo P t f=true):∃i,P.info? t=some i/\f i=true:=by
 unfold tInfo at h;split at h
 ·rename_i i hi;exact⟨i,hi,h⟩
 ·cases h
theorem bP {P:Program} {t:TypeId} {f:TypeDesc->Bool} (h:ga P t f=true):∃d,P.underlying t=some d/\f d=true:=by
 unfold ga at h;split at h
 ·rename_i i hi;exact⟨i,hi,h⟩
 ·cases h
theorem fk {P:Program} {t:TypeId} {n:Nat} (h:lR P t n=true) (w:World):(sizeOf t).run P w=.ok n w:=by obtain⟨i,hi,hn⟩:=dY h;rw [UQ] at hn;simp [sizeOf,typeInfo,hi,hn]
theorem ew {P:Program} {t:TypeId} {d:TypeDesc} (h:P.underlying t=some d) (w:World):(isAgg t).run P w=.ok (nR d) w:=by cases d<;>simp [isAgg,run_underlying h,nR]
section
variable {top:Nat} {P:Program} {φ:gW} {K:Nat->Prop} {h:bz} {nx:Nat} {w:World} {ρ:aR->AV} {ρc:Operand->Value} {o:Oper}
theorem aY (s:ck top φ K h nx w) {v:AV} {V:Value} (hrun:(execOp ρc o).run P w=.ok (.value V) w) (hv:ax φ K w v V):Sound top P φ K h nx w ρc o (.val v):=by intro v' h' nx' hr qxe;cases hr;exact⟨V,w,φ,K,.inl hrun,c7.refl s,hv⟩
theorem eW {v:Option AV} {p:bg} (hp:fe v=some p):∃x,v=some x/\p=.val x:=by
 cases v with
 |none=>cases hp
 |some x=>cases hp;exact⟨x,rfl,rfl⟩
def Sn (o:Oper) (x:aR):Bool:=match o.op with
 |.move a=>bV a x
 |.assign a=>bV a x
 |_=>false
theorem Rb (s:ck top φ K h nx w) (hρ:∀x y,bV x y=true->ax φ K w (ρ y) (ρc x)) {x:aR} (hm:Sn o x=true):Sound top P φ K h nx w ρc o (.val (ρ x)):=by
 unfold Sn at hm;split at hm
 ·rename_i a ha;exact aY s (V:=ρc a) (by simp [execOp,ha]) (hρ _ _ hm)
 ·rename_i a ha;exact aY s (V:=ρc a) (by simp [execOp,ha]) (hρ _ _ hm)
 ·cases hm
theorem fc {b:Bool} {V:Value} (r:ax φ K w (.bool b) V):V=.bool b:=by
 cases r with
 |pure r=>cases r;rfl
theorem eo {k:IntKind} {n:Int} {V:Value} (r:ax φ K w (.int k n) V):V=.int k n:=by
 cases r with
 |pure r=>cases r;rfl
theorem ld {x:ByteArray} {V:Value} (r:ax φ K w (.str x) V):V=.string x:=by
 cases r with
 |pure r=>cases r;rfl
theorem dw {V:Value} (r:ax φ K w .ay V):V=.slice none 0 0:=by
 cases r with
 |pure r=>cases r;rfl
theorem tg {f:Nat} {V:Value} (r:ax φ K w (.func f) V):V=.func (.func f) #[] #[]:=by
 cases r with
 |pure r=>cases r;rfl
theorem mV {id g off:Nat} {V:Value} (r:ax φ K w (.ptr id g off) V):∃b base,φ id g=some (b,base)/\V=.pointer (some ⟨b,base+off,none⟩):=by
 cases r with
 |pure r=>cases r
 |ptr id g off b base h=>exact⟨b,base,h,rfl⟩
theorem Cf {cs:List AV} {off:Nat} {V:Value} (r:ax φ K w (.ic cs off) V):∃b o,K b/\V=.pointer (some ⟨b,o+off,none⟩)/\
  ∀(j:Nat) (a:AV),cs[j]?=some a->a.one=true/\∃v,w.cell? ⟨b,o+j,none⟩=some v/\fY K w a v:=by
 cases r with
 |pure r=>cases r with
  |ic cs b o off f hK hone hc hr=>
   refine⟨b,o,hK,rfl,fun j a ha=>⟨hone j a ha,f j,hc j ?_,hr j a ha⟩⟩;rcases Nat.lt_or_ge j cs.length with hj|hj
   ·exact hj
   ·rw [Ut hj] at ha;cases ha
theorem jf {cs:List AV} {n:Nat} {cap:Option Nat} {V:Value} (r:ax φ K w (.ei cs n cap) V):∃ad c',V=.slice (some ad) n c'/\n<=c'/\(∀c,cap=some c->c'=c)/\(cs≠[]->ad.spot=none/\K ad.block)/\
  ∀(j:Nat) (a:AV),cs[j]?=some a->a.one=true/\∃v,w.cell? ⟨ad.block,ad.off+j,none⟩=some v/\fY K w a v:=by
 cases r with
 |pure r=>cases r with
  |ei cs n cap ad c' f hK hn hcap hone hc hr=>
   refine⟨ad,c',rfl,hn,hcap,hK,fun j a ha=>⟨hone j a ha,f j,hc j ?_,hr j a ha⟩⟩;rcases Nat.lt_or_ge j cs.length with hj|hj
   ·exact hj
   ·rw [Ut hj] at ha;cases ha
theorem fu {id g off es len cap:Nat} {ex:Bool} {V:Value} (r:ax φ K w (.ref id g off es len cap ex) V):∃b base ad c',V=.slice (some ad) len c'/\φ id g=some (b,base)/\len<=cap/\cap<=c'/\(ex=true->c'=cap)/\
  (c'≠0->ad=⟨b,base+off,none⟩/\∃(c:Array Value) (e:TypeId) (fr:Nat×Nat),w.heap[b]?=some (Obj.cells c e fr)/\base+off+c'*es<=c.size):=by
 cases r with
 |pure r=>cases r
 |ref id g off es len cap ex b base ad c' h1 h2 h3 h4 h5=>exact⟨b,base,ad,c',rfl,h1,h2,h3,h4,h5⟩
theorem lg {cs:List AV} {V:Value} (r:ax φ K w (.agg cs) V):∃vs:Array Value,V=.agg vs/\cs.length=vs.size/\∀(j:Nat) (a:AV),cs[j]?=some a->a.one=true/\∃v,vs[j]?=some v/\ax φ K w a v:=by
 have key:∀(vs:Array Value) (R:AV->Value->Prop),cs.length=vs.size->(∀(j:Nat) (a:AV),cs[j]?=some a->a.one=true)->(∀(j:Nat) (a:AV) (v:Value),cs[j]?=some a->vs[j]?=some v->R a v)->
   ∀(j:Nat) (a:AV),cs[j]?=some a->a.one=true/\∃v,vs[j]?=some v/\R a v:=by
  intro vs R hl hone hr j a ha;have hj:j < vs.size:=by
   rcases Nat.lt_or_ge j cs.length with hj|hj
   ·omega
   ·rw [Ut hj] at ha;cases ha
  exact⟨hone j a ha,vs[j],Array.getElem?_eq_getElem hj,hr j a _ ha (Array.getElem?_eq_getElem hj)⟩
 cases r with
 |pure r=>cases r with
  |agg cs vs hl hone hr=>exact⟨vs,rfl,hl,key vs _ hl hone fun j a v h1 h2=>.pure (hr j a v h1 h2)⟩
 |agg cs vs hl hone hr=>exact⟨vs,rfl,hl,key vs _ hl hone hr⟩
theorem AX {cs:List AV} {V:Value} (r:ax φ K w (.iR cs) V):∃vs:Array Value,V=.tuple vs/\cs.length=vs.size/\∀(j:Nat) (a:AV),cs[j]?=some a->∃v,vs[j]?=some v/\ax φ K w a v:=by
 have key:∀(vs:Array Value) (R:AV->Value->Prop),cs.length=vs.size->(∀(j:Nat) (a:AV) (v:Value),cs[j]?=some a->vs[j]?=some v->R a v)->
   ∀(j:Nat) (a:AV),cs[j]?=some a->∃v,vs[j]?=some v/\R a v:=by
  intro vs R hl hr j a ha;have hj:j < vs.size:=by
   rcases Nat.lt_or_ge j cs.length with hj|hj
   ·omega
   ·rw [Ut hj] at ha;cases ha
  exact⟨vs[j],Array.getElem?_eq_getElem hj,hr j a _ ha (Array.getElem?_eq_getElem hj)⟩
 cases r with
 |pure r=>cases r with
  |iR cs vs hl hr=>exact⟨vs,rfl,hl,key vs _ hl fun j a v h1 h2=>.pure (hr j a v h1 h2)⟩
 |iR cs vs hl hr=>exact⟨vs,rfl,hl,key vs _ hl hr⟩
theorem uZ {a:AV} {V:Value} {cs:List AV} (r:ax φ K w a V) (hc:a.cells?=some cs):cs.length=V.cells.size/\∀(j:Nat) (x:AV),cs[j]?=some x->x.one=true/\∃v,V.cells[j]?=some v/\ax φ K w x v:=by
 by_cases h1:∃l,a=.agg l
 ·obtain⟨l,rfl⟩:=h1;cases hc;obtain⟨vs,rfl,hl,hr⟩:=lg r;exact⟨hl,hr⟩
 ·have ha:a.one=true/\cs=[a]:=by
   cases a<;>first
    |(exact absurd ⟨_,rfl⟩ h1)
    |(cases hc;done)
    |(cases hc;exact⟨rfl,rfl⟩)
  obtain⟨ha,rfl⟩:=ha;have hv:=DN r ha;have hV:V.cells=#[V]:=by cases V<;>first|rfl|cases hv
  rw [hV];refine⟨rfl,fun j x hx=>?_⟩;cases j with
  |zero=>simp at hx;subst hx;exact⟨ha,V,rfl,r⟩
  |succ j=>simp at hx
theorem gm {x:Sem Value} {V:Value} {w':World} (h:x.run P w=.ok V w'):(do pure (Next.value (←x)):Sem Next).run P w=.ok (.value V) w':=by simp [h]
theorem Ox {x:Sem Unit} {w':World} (h:x.run P w=.ok () w'):(do x;pure Next.skip:Sem Next).run P w=.ok .skip w':=by simp [h]
def HT (o:Oper) (c a b:aR):Bool:=match o.op with
 |.pick c' a' b'=>bV c' c&&bV a' a&&bV b' b
 |_=>false
theorem Lx (s:ck top φ K h nx w) (hρ:∀x y,bV x y=true->ax φ K w (ρ y) (ρc x)) {c a b:aR} (hm:HT o c a b=true) {p:bg} (hp:tj ρ c a b=some p):Sound top P φ K h nx w ρc o p:=by
 unfold HT at hm;split at hm
 ·rename_i c' a' b' ho;simp only [UN] at hm;obtain⟨⟨h1,h2⟩,h3⟩:=hm;unfold tj at hp;split at hp
  ·rename_i t ht;have hc:=hρ _ _ h1;rw [ht] at hc;have hc:=fc hc;cases t with
   |true=>cases hp;exact aY s (V:=ρc a') (by simp [execOp,ho,hc,asBool]) (hρ _ _ h2)
   |false=>cases hp;exact aY s (V:=ρc b') (by simp [execOp,ho,hc,asBool]) (hρ _ _ h3)
  ·cases hp
 ·cases hm
theorem qd (s:ck top φ K h nx w) (f:Nat->AV) (cells:List AV) (c:Array Value) (e:TypeId) (V:Value) (hrun:(execOp ρc o).run P w=.ok (.value V) (w.alloc (.cells c e))) (hl:cells.length<=c.size)
  (hr:∀(j:Nat) (a:AV),cells[j]?=some a->a.one=true/\∃v,c[j]?=some v/\ax φ K w a v)
  (hV:ax (fun id g=>if id=nx/\g=0 then some (w.heap.size,0) else φ id g) K (w.alloc (.cells c e)) (f nx) V):Sound top P φ K h nx w ρc o (.new f (.row 0 cells)):=by
 intro v h' nx' hrr qxe;cases hrr;exact⟨V,_,_,K,.inl hrun,CR s qxe cells c e hl (fun j a ha=>(hr j a ha).1) (fun j a ha=>(hr j a ha).2),hV⟩
def yh (P:Program) (t:TypeId) (zero:List AV):Bool:=tInfo P t fun i=>match i.zero with|some z=>yj z.cells.toList zero|none=>false
theorem qi {t:TypeId} {zero:List AV} (hz:yh P t zero=true) (K:Nat->Prop) (w:World):∃z,(zeroValue t).run P w=.ok z w/\yj z.cells.toList zero=true/\zero.length=z.cells.size/\∀(j:Nat) (a:AV),zero[j]?=some a->a.one=true/\∃v,z.cells[j]?=some v/\fY K w a v:=by
 obtain⟨i,hi,h1⟩:=dY hz;cases hzv:i.zero with
 |none=>rw [hzv] at h1;cases h1
 |some z=>rw [hzv] at h1;obtain⟨h2,h3,_⟩:=qj h1 K w;refine⟨z,by simp [zeroValue,typeInfo,hi,hzv],h1,by simpa using h2,fun j a ha=>?_⟩;obtain⟨r1,v,r2,r3⟩:=h3 j a ha;exact⟨r1,v,by simpa using r2,r3⟩
def D2 (P:Program) (o:Oper) (zero:List AV):Bool:=match o.op with
 |.alloc t=>yh P t zero
 |_=>false
theorem Jw (s:ck top φ K h nx w) {zero:List AV} (hm:D2 P o zero=true):Sound top P φ K h nx w ρc o (.new (fun id=>.ptr id 0 0) (.row 0 zero)):=by
 unfold D2 at hm;split at hm
 ·rename_i t ho;obtain⟨z,h1,h2,h3,h4⟩:=qi hm K w;refine qd s _ zero z.cells t (.pointer (some ⟨w.heap.size,0,none⟩)) ?_ (by omega) (fun j a ha=>⟨(h4 j a ha).1,let ⟨v,a1,a2⟩:=(h4 j a ha).2;⟨v,a1,.pure a2⟩⟩) ?_
  ·simp [execOp,ho,Instr.alloc,h1,newVar,newRow]
  ·exact .ptr nx 0 0 w.heap.size 0 (by simp)
 ·cases hm
def L_ (o:Oper) (x:aR):Bool:=match o.op with
 |.box _ x'=>bV x' x
 |_=>false
theorem On (s:ck top φ K h nx w) (hρ:∀x y,bV x y=true->ax φ K w (ρ y) (ρc x)) {x:aR} (hm:L_ o x=true) {p:bg} (hp:Cv ρ x=some p):Sound top P φ K h nx w ρc o p:=by
 unfold L_ at hm;split at hm
 ·rename_i t x' ho;unfold Cv at hp;split at hp
  ·rename_i cs hcs;cases hp;obtain⟨h1,h2⟩:=uZ (hρ _ _ hm) hcs;refine qd s _ cs (ρc x').cells t (.pointer (some ⟨w.heap.size,0,none⟩)) ?_ (by omega) h2 ?_
   ·simp [execOp,ho,Instr.box,newVar,newRow]
   ·exact .ptr nx 0 0 w.heap.size 0 (by simp)
  ·cases hp
 ·cases hm
def ofList (sz:Option Nat) (l:List Value):Value:=match sz with|none=>l.getD 0 undef|some _=>.agg l.toArray
theorem AY (s:ck top φ K h nx w) {sz:Option Nat} {t:TypeId} (ht:xy P t sz=true) {cs:List AV} {v:AV} (hv:DS sz cs=some v) (l:List Value) (hl:cs.length=l.length)
  (hr:∀(j:Nat) (a:AV),cs[j]?=some a->a.one=true/\∃u,l[j]?=some u/\ax φ K w a u) :
  ax φ K w v (ofList sz l):=by
 cases sz with
 |none=>
  show ax φ K w v (l.getD 0 undef);unfold DS at hv;simp only at hv;split at hv
  ·cases hv;obtain⟨_,u,h1,h2⟩:=hr 0 v rfl;simp only [List.getD_eq_getElem?_getD,h1,Option.getD_some];exact h2
  ·cases hv
 |some n=>cases hv;refine .agg cs l.toArray (by simpa using hl) (fun j a ha=>(hr j a ha).1) (fun j a u ha hu=>?_);obtain⟨_,u',h1,h2⟩:=hr j a ha;simp only [List.getElem?_toArray,h1,Option.some.injEq] at hu;subst hu;exact h2
theorem oa {t:TypeId} {sz:Option Nat} (ht:xy P t sz=true) (b o:Nat) (l:List Value) (hl:l.length=cP sz) (hc:∀j,j < l.length->w.cell? ⟨b,o+j,none⟩=l[j]?) :
  (loadVar t ⟨b,o,none⟩).run P w=.ok (ofList sz l) w:=by
 cases sz with
 |none=>
  obtain⟨d,hd,hag⟩:=bP ht;have h0:=hc 0 (by simp [hl,cP]);have hl1:0 < l.length:=by simp [hl,cP]
  rw [Un hl1] at h0;simp at hag;simp at h0;simp [loadVar,ew hd,hag,h0,ofList,Un hl1]
 |some n=>
  simp only [xy,UN] at ht;obtain⟨d,hd,hag⟩:=bP ht.1;have hs:=fk ht.2 w;simp only [cP] at hl;have hlc:=run_loadCells_list (P:=P) w ⟨b,o,none⟩ l (fun j v hv=>by rw [Addr.add_lit,hc j (by rcases Nat.lt_or_ge j l.length with hj|hj;exact hj;rw [Ut hj] at hv;cases hv)];exact hv)
  rw [hl] at hlc;simp [loadVar,ew hd,hag,hs,hlc,ofList]
def HV (P:Program) (o:Oper) (sz:Option Nat) (a:aR):Bool:=match o.op with
 |.load t a'=>bV a' a&&xy P t sz
 |_=>false
theorem Lz (s:ck top φ K h nx w) (hρ:∀x y,bV x y=true->ax φ K w (ρ y) (ρc x)) {sz:Option Nat} {a:aR} (hm:HV P o sz a=true) {p:bg} (hp:lp ρ sz a=some p):Sound top P φ K h nx w ρc o p:=by
 unfold HV at hm;split at hm
 ·rename_i t a' ho;simp only [UN] at hm;have hr:=hρ _ _ hm.1;unfold lp at hp;split at hp
  ·rename_i id g off ha;cases hp;rw [ha] at hr;obtain⟨b,base,hb,hV⟩:=mV hr;intro v h' nx' hrun qxe;simp only [uW,jR] at hrun;split at hrun
   ·cases hrun
   ·rename_i cs hcs;obtain⟨b1,qxa,c,e,h1,h2,h3,h4,h5⟩:=jo s hcs;rw [hb] at h1;cases h1;split at hrun
    ·cases hrun
    ·rename_i out hout;split at hout
     ·rename_i v1 hv1;cases hout;cases hrun;have hlen:=lJ c (base+off) (cP sz);have qxc:∀(j:Nat) (a:AV),cs[j]?=some a->a.one=true/\∃u,(sn c (base+off) (cP sz))[j]?=some u/\ax φ K w a u:=by
       intro j a ha;obtain⟨r1,u,r2,r3⟩:=h5 j a ha;have hj:j < cP sz:=by
        rcases Nat.lt_or_ge j cs.length with hj|hj
        ·omega
        ·rw [Ut hj] at ha;cases ha
       exact⟨r1,u,by rw [iX c _ _ j hj (by omega)];exact r2,r3⟩
      refine⟨_,w,φ,K,.inl ?_,c7.refl s,AY s hm.2 hv1 _ (by rw [h4,hlen]) qxc⟩;simp only [execOp,ho];refine gm ?_;simp only [Instr.loadAt,hV,Instr.sureAddr,Sem.run_bind,Sem.run_pure,Result.andThen_ok];refine oa hm.2 b (base+off) _ hlen (fun j hj=>?_);rw [nv h2,iX c _ _ j (by omega) (by omega)]
     ·cases hout
  ·rename_i cs off ha;split at hp
   ·rename_i cs' qxj;obtain⟨v,hv,rfl⟩:=eW hp;rw [ha] at hr;obtain⟨b,o1,hK,hV,qxp⟩:=Cf hr;obtain⟨hl,hat⟩:=BB qxj;have hfit:=(iu qxj).1;have qxc:∀(j:Nat) (a:AV),cs'[j]?=some a->a.one=true/\∃u,w.cell? ⟨b,o1+off+j,none⟩=some u/\ax φ K w a u:=by
     intro j a ha;have hj:j < cP sz:=by
      rcases Nat.lt_or_ge j cs'.length with hj|hj
      ·omega
      ·rw [Ut hj] at ha;cases ha
     rw [hat j hj] at ha;obtain⟨r1,u,r2,r3⟩:=qxp _ a ha;exact⟨r1,u,by rw [←r2,Nat.add_assoc],.pure r3⟩
    have hl2:((List.range (cP sz)).map fun j=>(w.cell? ⟨b,o1+off+j,none⟩).getD undef).length=cP sz:=by simp
    have hl3:∀j u,j < cP sz->w.cell? ⟨b,o1+off+j,none⟩=some u->((List.range (cP sz)).map fun j=>(w.cell? ⟨b,o1+off+j,none⟩).getD undef)[j]?=some u:=by intro j u hj hu;simp [hj,hu]
    refine aY s ?_ (AY s hm.2 hv ((List.range (cP sz)).map fun j=>(w.cell? ⟨b,o1+off+j,none⟩).getD undef) (by rw [hl,hl2]) ?_)
    ·simp only [execOp,ho];refine gm ?_;simp only [Instr.loadAt,hV,Instr.sureAddr,Sem.run_bind,Sem.run_pure,Result.andThen_ok];refine oa hm.2 b (o1+off) _ hl2 (fun j hj=>?_);have hj':j < cs'.length:=by omega
     obtain⟨_,u,r2,_⟩:=qxc j _ (Un hj');rw [r2,hl3 j u (by omega) r2]
    ·intro j a ha;obtain⟨r1,u,r2,r3⟩:=qxc j a ha;have hj:j < cP sz:=by
      rcases Nat.lt_or_ge j cs'.length with hj|hj
      ·omega
      ·rw [Ut hj] at ha;cases ha
     exact⟨r1,u,hl3 j u hj r2,r3⟩
   ·cases hp
  ·cases hp
 ·cases hm
theorem lT {q:Option Di} {id g:Nat} {k:List AV->List AV->Option Out} {v:AV} {h':bz} {nx':Nat} (hr:uW (.look q (some id) fun a=>uX g (k a)) h nx=some (v,h',nx')) :
  ∃a cells out,eC h q=some a/\h id=some (.row g cells)/\k a cells=some out/\(match out.new with
   |some ob=>some (out.val nx,BW (wS h (some id) out.obj) nx (some ob),nx+1)
   |none=>some (out.val nx,wS h (some id) out.obj,nx))=some (v,h',nx'):=by
 simp only [uW,jR] at hr;cases hq:eC h q with
 |none=>rw [hq] at hr;cases hr
 |some a=>
  rw [hq] at hr;simp only at hr;cases hh:h id with
  |none=>rw [hh] at hr;cases hr
  |some ob=>
   rw [hh] at hr;simp only at hr;cases ob with
   |map es=>simp only [uX] at hr;cases hr
   |row g' cells=>
    simp only [uX,cond_eq_ite,UQ] at hr;split at hr
    ·cases hr
    ·rename_i out hout;split at hout
     ·rename_i hg;subst hg;exact⟨a,cells,out,rfl,rfl,hout,hr⟩
     ·cases hout
def DU (P:Program) (o:Oper) (sz:Nat) (a x:aR):Bool:=match o.op with
 |.store t a' x'=>bV a' a&&bV x' x&&lR P t sz
 |_=>false
theorem Jp (s:ck top φ K h nx w) (hρ:∀x y,bV x y=true->ax φ K w (ρ y) (ρc x)) {sz:Nat} {a x:aR} (hm:DU P o sz a x=true) {p:bg} (hp:lF ρ sz a x=some p):Sound top P φ K h nx w ρc o p:=by
 unfold DU at hm;split at hm
 ·rename_i t a' x' ho;simp only [UN] at hm;obtain⟨⟨hma,xh⟩,hms⟩:=hm;have hra:=hρ _ _ hma;have hrx:=hρ _ _ xh;unfold lF at hp;split at hp
  ·rename_i id g off ha;split at hp
   ·rename_i cs hcs;simp only [cond_eq_ite,UQ] at hp;split at hp
    ·rename_i hsz;cases hp;rw [ha] at hra;obtain⟨b,base,hb,hV⟩:=mV hra;intro v h' nx' hrun qxe;obtain⟨_,cells,out,_,hh,hk,hend⟩:=lT (k:=fun _ cells=>match dz cells off cs with|some cells'=>some ⟨fun _=>dQ,some (.row g cells'),none⟩|none=>none) hrun;split at hk
     ·rename_i cells' hov;cases hk;cases hend;obtain⟨b1,qxa,c,e,h1,h2,h3,h4⟩:=s.row id g cells hh;rw [hb] at h1;cases h1;obtain⟨hcl,hcr⟩:=uZ hrx hcs;have hone:∀u∈(ρc x').cells.toList,u.oneCell'=true:=by
       intro u hu;obtain⟨j,hj,rfl⟩:=List.getElem_of_mem hu;have hj':j < cs.length:=by simpa [hcl] using hj
       obtain⟨r1,u',r2,r3⟩:=hcr j _ (Un hj');have:(ρc x').cells.toList[j]=u':=by have:=Array.getElem?_toList (xs:=(ρc x').cells) (i:=j);rw [Un hj,r2] at this;exact U0 this
       rw [this];exact DN r3 r1
      have hof:=(dR hov).1;have hst:=run_storeCells_at P b (base+off) e (ρc x').cells.toList 0 c w h2 (by simp [←hcl];omega) hone;simp only [Nat.add_zero] at hst;refine⟨undef,_,φ,K,.inr ⟨?_,rfl⟩,qo s hh hb h2 h3 h4 hov (ρc x').cells.toList (by simp [←hcl]) ?_ (fun j a ha=>(hcr j a ha).1),.pure (.iR [] #[] rfl (fun j a v ha=>by simp at ha))⟩
      ·simp only [execOp,ho];refine Ox ?_;have qzS:(ρc x').cells.size=sz:=by rw [←hcl,hsz]
       simp only [Instr.storeAt,hV,Instr.sureAddr,storeVar,Sem.run_bind,Sem.run_pure,Result.andThen_ok,fk hms,qzS,ne_eq,not_true_eq_false,if_false,hst]
      ·intro j a v ha hv;obtain⟨_,u,r2,r3⟩:=hcr j a ha;rw [Array.getElem?_toList,r2] at hv;cases hv;exact r3
     ·cases hk
    ·cases hp
   ·cases hp
  ·cases hp
 ·cases hm
end
end Go.Ax
