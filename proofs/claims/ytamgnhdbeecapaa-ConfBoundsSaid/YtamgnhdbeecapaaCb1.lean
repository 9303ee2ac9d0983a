/- Part 1 of the proof: Ax2, Ax3, Ax4. -/
import Derived.Test.YtamgnhdbeecapaaCb0
import Derived.Deep.Upon
import Derived.Laws.CopyRow
import Derived.Orders
import Derived.RowKit3

set_option linter.unusedSimpArgs false
set_option linter.unusedVariables false
namespace Go.Ax
abbrev Phi:=Nat→Nat→Option (Nat×Nat)
abbrev HeapF:=Nat→Option AObj
inductive RelP (K:Nat→Prop) (w:World):AV→Value→Prop where
 |bool (b:Bool):RelP K w (.bool b) (.bool b)
 |int (k:IntKind) (n:Int):RelP K w (.int k n) (.int k n)
 |str (s:ByteArray):RelP K w (.str s) (.string s)
 |nilp:RelP K w .nilp (.pointer none)
 |nils:RelP K w .nils (.slice none 0 0)
 |func (f:Nat):RelP K w (.func f) (.func (.func f) #[] #[])
 |iptr (cs:List AV) (b o off:Nat) (f:Nat→Value) (hK:K b) (hone:∀(j:Nat) (a:AV),cs[j]?=some a→a.one=true)
   (hc:∀j,j < cs.length→w.cell? ⟨b,o + j,none⟩=some (f j)) (hr:∀(j:Nat) (a:AV),cs[j]?=some a→RelP K w a (f j)) :
   RelP K w (.iptr cs off) (.pointer (some ⟨b,o + off,none⟩))
 |imm (cs:List AV) (n:Nat) (cap:Option Nat) (ad:Addr) (c':Nat) (f:Nat→Value) (hK:cs≠[]→ad.spot=none∧K ad.block) (hn:n≤c') (hcap:∀c,cap=some c→c'=c)
   (hone:∀(j:Nat) (a:AV),cs[j]?=some a→a.one=true)
   (hc:∀j,j < cs.length→w.cell? ⟨ad.block,ad.off + j,none⟩=some (f j)) (hr:∀(j:Nat) (a:AV),cs[j]?=some a→RelP K w a (f j)) :
   RelP K w (.imm cs n cap) (.slice (some ad) n c')
 |agg (cs:List AV) (vs:Array Value) (hl:cs.length=vs.size) (hone:∀(j:Nat) (a:AV),cs[j]?=some a→a.one=true)
   (hr:∀(j:Nat) (a:AV) (v:Value),cs[j]?=some a→vs[j]?=some v→RelP K w a v):RelP K w (.agg cs) (.agg vs)
 |tup (cs:List AV) (vs:Array Value) (hl:cs.length=vs.size) (hr:∀(j:Nat) (a:AV) (v:Value),cs[j]?=some a→vs[j]?=some v→RelP K w a v) :
   RelP K w (.tup cs) (.tuple vs)
inductive RelV (φ:Phi) (K:Nat→Prop) (w:World):AV→Value→Prop where
 |pure {a:AV} {v:Value} (h:RelP K w a v):RelV φ K w a v
 |ptr (id g off b base:Nat) (h:φ id g=some (b,base)):RelV φ K w (.ptr id g off) (.pointer (some ⟨b,base + off,none⟩))
 |ref (id g off es len cap:Nat) (ex:Bool) (b base:Nat) (ad:Addr) (c':Nat) (h:φ id g=some (b,base)) (hl:len≤cap) (hc:cap≤c') (hex:ex=true→c'=cap)
   (had:c'≠0→ad=⟨b,base + off,none⟩∧∃(c:Array Value) (e:TypeId) (fr:Nat×Nat),w.heap[b]?=some (Obj.cells c e fr)∧base + off + c'*es≤c.size) :
   RelV φ K w (.ref id g off es len cap ex) (.slice (some ad) len c')
 |agg (cs:List AV) (vs:Array Value) (hl:cs.length=vs.size) (hone:∀(j:Nat) (a:AV),cs[j]?=some a→a.one=true)
   (hr:∀(j:Nat) (a:AV) (v:Value),cs[j]?=some a→vs[j]?=some v→RelV φ K w a v):RelV φ K w (.agg cs) (.agg vs)
 |tup (cs:List AV) (vs:Array Value) (hl:cs.length=vs.size) (hr:∀(j:Nat) (a:AV) (v:Value),cs[j]?=some a→vs[j]?=some v→RelV φ K w a v) :
   RelV φ K w (.tup cs) (.tuple vs)
 |mapr (id b:Nat) (h:φ id 0=some (b,0)):RelV φ K w (.mapr id) (.map (some b))
def gen:AObj→Nat
 |.row g _=>g
 |.map _=>0
def Mut (φ:Phi) (h:HeapF) (b:Nat):Prop:=∃id ob base,h id=some ob∧φ id (gen ob)=some (b,base)
variable {top:Nat}
structure Sim (top:Nat) (φ:Phi) (K:Nat→Prop) (h:HeapF) (nx:Nat) (w:World):Prop where
 kin:∀b,K b→b < w.heap.size∧¬Mut φ h b
 row:∀id g cells,h id=some (.row g cells)→∃(b base:Nat) (c:Array Value) (e:TypeId),φ id g=some (b,base)∧w.heap[b]?=some (Obj.cells c e (0,0))∧base + cells.length≤c.size∧
  ∀(j:Nat) (a:AV),cells[j]?=some a→a.one=true∧∃v,c[base + j]?=some v∧RelV φ K w a v
 map:∀id es,h id=some (.map es)→∃(b:Nat) (mes:Array MapEntry) (clk:Nat),φ id 0=some (b,0)∧w.heap[b]?=some (Obj.map mes clk)∧es.length=mes.size∧
  ∀(j:Nat) (k v:AV),es[j]?=some (k,v)→∃me,mes[j]?=some me∧RelV φ K w k me.key∧RelV φ K w v me.val
 inj:∀id id' ob ob' b base base',h id=some ob→h id'=some ob'→φ id (gen ob)=some (b,base)→φ id' (gen ob')=some (b,base')→id=id'
 low:∀id ob,h id=some ob→¬(nx≤id∧id < top)∧∀g,gen ob < g→φ id g=none
 new:∀id g,nx≤id→id < top→φ id g=none
structure Ext (M:Nat→Prop) (w w':World):Prop where
 size:w.heap.size≤w'.heap.size
 same:∀b,b < w.heap.size→¬M b→w'.heap[b]?=w.heap[b]?
 shape:∀(b:Nat) (c:Array Value) (e:TypeId) (fr:Nat×Nat),w.heap[b]?=some (Obj.cells c e fr)→∃c':Array Value,w'.heap[b]?=some (Obj.cells c' e fr)∧c'.size=c.size
 os:w'.os=w.os
 tape:w'.tape=w.tape
 output:w'.output=w.output
 fz:∀a,w'.frozen? a=w.frozen? a
theorem Ext.refl (M:Nat→Prop) (w:World):Ext M w w:=⟨Nat.le_refl _,fun _ _ _=>rfl,fun _ c _ _ h=>⟨c,h,rfl⟩,rfl,rfl,rfl,fun _=>rfl⟩
theorem Ext.trans {M M':Nat→Prop} {w w' w'':World} (h:Ext M w w') (h':Ext M' w' w'') (hM:∀b,M' b→M b∨w.heap.size≤b):Ext M w w'' where
 size:=Nat.le_trans h.size h'.size
 same b hb hn:=by
  rw [h'.same b (Nat.lt_of_lt_of_le hb h.size) (fun hm=>(hM b hm).elim hn (fun hl=>Nat.lt_irrefl _ (Nat.lt_of_lt_of_le hb hl))),h.same b hb hn]
 shape b c e fr hb:=by
  obtain ⟨c1,h1,hs1⟩:=h.shape b c e fr hb
  obtain ⟨c2,h2,hs2⟩:=h'.shape b c1 e fr h1
  exact ⟨c2,h2,hs2.trans hs1⟩
 os:=h'.os.trans h.os
 tape:=h'.tape.trans h.tape
 output:=h'.output.trans h.output
 fz a:=(h'.fz a).trans (h.fz a)
theorem Ext.mono {M M':Nat→Prop} {w w':World} (h:Ext M w w') (hM:∀b,M b→M' b):Ext M' w w':=
 ⟨h.size,fun b hb hn=>h.same b hb (fun hm=>hn (hM b hm)),h.shape,h.os,h.tape,h.output,h.fz⟩
theorem Ext.drew {M:Nat→Prop} {w w':World} (h:Ext M w w'):Ext M w w'.drew:=⟨h.size,h.same,h.shape,h.os,h.tape,h.output,h.fz⟩
theorem cell_of {w w':World} {b:Nat} (h:w'.heap[b]?=w.heap[b]?) (o:Nat):w'.cell? ⟨b,o,none⟩=w.cell? ⟨b,o,none⟩:=by simp only [World.cell?,h]
theorem RelP.keep {K K':Nat→Prop} {w w':World} (hK:∀b,K b→K' b) (hw:∀b,K b→w'.heap[b]?=w.heap[b]?) {a:AV} {v:Value} (h:RelP K w a v):RelP K' w' a v:=by
 induction h with
 |bool b=>exact .bool b
 |int k n=>exact .int k n
 |str s=>exact .str s
 |nilp=>exact .nilp
 |nils=>exact .nils
 |func f=>exact .func f
 |iptr cs b o off f hKb hone hc hr ih=>exact .iptr cs b o off f (hK b hKb) hone (fun j hj=>by rw [cell_of (hw b hKb)];exact hc j hj) ih
 |imm cs n cap ad c' f hKb hn hcap hone hc hr ih=>
  refine .imm cs n cap ad c' f (fun hne=>⟨(hKb hne).1,hK _ (hKb hne).2⟩) hn hcap hone (fun j hj=>?_) ih
  have hne:cs≠[]:=by rintro rfl;simp at hj
  rw [cell_of (hw _ (hKb hne).2)]
  exact hc j hj
 |agg cs vs hl hone hr ih=>exact .agg cs vs hl hone ih
 |tup cs vs hl hr ih=>exact .tup cs vs hl ih
theorem RelV.keep {φ φ':Phi} {K K':Nat→Prop} {w w':World} (hφ:∀id g p,φ id g=some p→φ' id g=some p) (hK:∀b,K b→K' b) (hw:∀b,K b→w'.heap[b]?=w.heap[b]?)
  (hs:∀(b:Nat) (c:Array Value) (e:TypeId) (fr:Nat×Nat),w.heap[b]?=some (Obj.cells c e fr)→∃c':Array Value,w'.heap[b]?=some (Obj.cells c' e fr)∧c'.size=c.size) {a:AV} {v:Value} (h:RelV φ K w a v):RelV φ' K' w' a v:=by
 induction h with
 |pure h=>exact .pure (h.keep hK hw)
 |ptr id g off b base h=>exact .ptr id g off b base (hφ _ _ _ h)
 |ref id g off es len cap ex b base ad c' h hl hc hex had=>
  refine .ref id g off es len cap ex b base ad c' (hφ _ _ _ h) hl hc hex (fun h0=>?_)
  obtain ⟨h1,c,e,fr,h2,h3⟩:=had h0
  obtain ⟨c1,h4,h5⟩:=hs b c e fr h2
  exact ⟨h1,c1,e,fr,h4,by rw [h5];exact h3⟩
 |agg cs vs hl hone hr ih=>exact .agg cs vs hl hone ih
 |tup cs vs hl hr ih=>exact .tup cs vs hl ih
 |mapr id b h=>exact .mapr id b (hφ _ _ _ h)
structure Goes (top:Nat) (φ:Phi) (K:Nat→Prop) (h:HeapF) (nx:Nat) (w:World) (φ':Phi) (K':Nat→Prop) (h':HeapF) (nx':Nat) (w':World):Prop where
 phi:∀id g p,φ id g=some p→φ' id g=some p
 k:∀b,K b→K' b
 sim:Sim top φ' K' h' nx' w'
 ext:Ext (Mut φ h) w w'
 mu:∀b,Mut φ' h' b→Mut φ h b∨w.heap.size≤b
 newK:∀b,K' b→K b∨w.heap.size≤b∨Mut φ h b
 fr:∀id g p,φ' id g=some p→φ id g=some p∨(nx≤id∧id < nx')∨(h id).isSome=true
 dom:∀id,(h' id).isSome=true→(h id).isSome=true∨(nx≤id∧id < nx')
 nx:nx≤nx'
theorem Goes.refl {φ:Phi} {K:Nat→Prop} {h:HeapF} {nx:Nat} {w:World} (s:Sim top φ K h nx w):Goes top φ K h nx w φ K h nx w:=
 ⟨fun _ _ _ h=>h,fun _ h=>h,s,Ext.refl _ _,fun _ h=>.inl h,fun _ h=>.inl h,fun _ _ _ h=>.inl h,fun _ h=>.inl h,Nat.le_refl _⟩
theorem Goes.trans {φ φ' φ'':Phi} {K K' K'':Nat→Prop} {h h' h'':HeapF} {nx nx' nx'':Nat} {w w' w'':World} (g:Goes top φ K h nx w φ' K' h' nx' w') (g':Goes top φ' K' h' nx' w' φ'' K'' h'' nx'' w'') :
  Goes top φ K h nx w φ'' K'' h'' nx'' w'' where
 phi id gg p hp:=g'.phi _ _ _ (g.phi _ _ _ hp)
 k b hb:=g'.k b (g.k b hb)
 sim:=g'.sim
 ext:=g.ext.trans g'.ext g.mu
 mu b hb:=(g'.mu b hb).elim (g.mu b) (fun hl=>.inr (Nat.le_trans g.ext.size hl))
 newK b hb:=by
  rcases g'.newK b hb with h1 | h1 | h1
  ·exact g.newK b h1
  ·exact .inr (.inl (Nat.le_trans g.ext.size h1))
  ·rcases g.mu b h1 with h2 | h2
   ·exact .inr (.inr h2)
   ·exact .inr (.inl h2)
 fr id gg p hp:=by
  have l1:=g.nx
  have l2:=g'.nx
  rcases g'.fr id gg p hp with h1 | h1 | h1
  ·rcases g.fr id gg p h1 with h2 | h2 | h2
   ·exact .inl h2
   ·exact .inr (.inl (by omega))
   ·exact .inr (.inr h2)
  ·exact .inr (.inl (by omega))
  ·rcases g.dom id h1 with h2 | h2
   ·exact .inr (.inr h2)
   ·exact .inr (.inl (by omega))
 dom id hd:=by
  have l1:=g.nx
  have l2:=g'.nx
  rcases g'.dom id hd with h1 | h1
  ·rcases g.dom id h1 with h2 | h2
   ·exact .inl h2
   ·exact .inr (by omega)
  ·exact .inr (by omega)
 nx:=Nat.le_trans g.nx g'.nx
theorem Goes.val {φ φ':Phi} {K K':Nat→Prop} {h h':HeapF} {nx nx':Nat} {w w':World} (s:Sim top φ K h nx w) (g:Goes top φ K h nx w φ' K' h' nx' w') {a:AV} {v:Value} (r:RelV φ K w a v):RelV φ' K' w' a v:=
 r.keep g.phi g.k (fun b hb=>g.ext.same b (s.kin b hb).1 (s.kin b hb).2) g.ext.shape
theorem Sim.congr {φ:Phi} {K:Nat→Prop} {h h':HeapF} {nx:Nat} {w:World} (s:Sim top φ K h nx w) (e:∀id,h' id=h id):Sim top φ K h' nx w:=by
 obtain rfl:h'=h:=funext e
 exact s
theorem Sim.drew {φ:Phi} {K:Nat→Prop} {h:HeapF} {nx:Nat} {w:World} (s:Sim top φ K h nx w):Sim top φ K h nx w.drew:=by
 have hv:∀{a:AV} {v:Value},RelV φ K w a v→RelV φ K w.drew a v:=fun r=>RelV.keep (w:=w) (w':=w.drew) (fun _ _ _ h=>h) (fun _ h=>h) (fun _ _=>rfl) (fun _ c _ _ h=>⟨c,h,rfl⟩) r
 refine ⟨s.kin,fun id g cells hh=>?_,fun id es hh=>?_,s.inj,s.low,s.new⟩
 ·obtain ⟨b,base,c,e,h1,h2,h3,h4⟩:=s.row id g cells hh
  exact ⟨b,base,c,e,h1,h2,h3,fun j a ha=>⟨(h4 j a ha).1,let ⟨v,hv1,hv2⟩:=(h4 j a ha).2;⟨v,hv1,hv hv2⟩⟩⟩
 ·obtain ⟨b,mes,clk,h1,h2,h3,h4⟩:=s.map id es hh
  exact ⟨b,mes,clk,h1,h2,h3,fun j k v hj=>let ⟨me,m1,m2,m3⟩:=h4 j k v hj;⟨me,m1,hv m2,hv m3⟩⟩
theorem Sim.part {φ:Phi} {K:Nat→Prop} {h h':HeapF} {nx:Nat} {w:World} (s:Sim top φ K h nx w) (e:∀id o,h' id=some o→h id=some o):Sim top φ K h' nx w:=
 ⟨fun b hb=>⟨(s.kin b hb).1,fun ⟨id,ob,base,h1,h2⟩=>(s.kin b hb).2 ⟨id,ob,base,e _ _ h1,h2⟩⟩,fun id g cells hh=>s.row id g cells (e _ _ hh),fun id es hh=>s.map id es (e _ _ hh),
  fun id id' ob ob' b base base' h1 h2=>s.inj id id' ob ob' b base base' (e _ _ h1) (e _ _ h2),fun id ob hh=>s.low id ob (e _ _ hh),s.new⟩
def upd (h:HeapF) (id:Nat) (ob:Option AObj):HeapF:=fun j=>if j=id then ob else h j
theorem upd_same (h:HeapF) (id:Nat) (ob:Option AObj):upd h id ob id=ob:=if_pos rfl
theorem upd_other (h:HeapF) {id j:Nat} (ob:Option AObj) (hne:j≠id):upd h id ob j=h j:=if_neg hne
theorem alloc_old (w:World) (ob:Obj) {b:Nat} (h:b < w.heap.size):(w.alloc ob).heap[b]?=w.heap[b]?:=by
 show (w.heap.push ob)[b]?=_
 rw [Array.getElem?_push,if_neg (by omega)]
theorem alloc_at (w:World) (ob:Obj):(w.alloc ob).heap[w.heap.size]?=some ob:=by
 show (w.heap.push ob)[w.heap.size]?=_
 rw [Array.getElem?_push,if_pos rfl]
theorem goes_new {φ:Phi} {K:Nat→Prop} {h:HeapF} {nx:Nat} {w:World} (s:Sim top φ K h nx w) (htop:nx < top) (cells:List AV) (c:Array Value) (e:TypeId) (hl:cells.length≤c.size)
  (hone:∀(j:Nat) (a:AV),cells[j]?=some a→a.one=true) (hr:∀(j:Nat) (a:AV),cells[j]?=some a→∃v,c[j]?=some v∧RelV φ K w a v) :
  Goes top φ K h nx w (fun id g=>if id=nx∧g=0 then some (w.heap.size,0) else φ id g) K (upd h nx (some (.row 0 cells))) (nx + 1) (w.alloc (.cells c e)):=by
 have hphi:∀id g p,φ id g=some p→(if id=nx∧g=0 then some (w.heap.size,0) else φ id g)=some p:=by
  intro id g p hp
  rw [if_neg]
  ·exact hp
  ·rintro ⟨rfl,rfl⟩
   rw [s.new _ _ (Nat.le_refl _) htop] at hp
   cases hp
 have hsame:∀b,b < w.heap.size→(w.alloc (.cells c e)).heap[b]?=w.heap[b]?:=fun b hb=>alloc_old w _ hb
 have hshape:∀(b:Nat) (c0:Array Value) (e0:TypeId) (fr:Nat×Nat),w.heap[b]?=some (Obj.cells c0 e0 fr)→∃c':Array Value,(w.alloc (.cells c e)).heap[b]?=some (Obj.cells c' e0 fr)∧c'.size=c0.size:=by
  intro b c0 e0 fr hb
  have hlt:b < w.heap.size:=(Array.getElem?_eq_some_iff.1 hb).1
  exact ⟨c0,by rw [hsame b hlt];exact hb,rfl⟩
 have hval:∀{a:AV} {v:Value},RelV φ K w a v→RelV (fun id g=>if id=nx∧g=0 then some (w.heap.size,0) else φ id g) K (w.alloc (.cells c e)) a v:=
  fun r=>r.keep hphi (fun _ h=>h) (fun b hb=>hsame b (s.kin b hb).1) hshape
 have hold:∀id ob,h id=some ob→id≠nx:=fun id ob hh he=>by have:=(s.low id ob hh).1;omega
 have hmut:∀b,Mut (fun id g=>if id=nx∧g=0 then some (w.heap.size,0) else φ id g) (upd h nx (some (.row 0 cells))) b→Mut φ h b∨w.heap.size≤b:=by
  rintro b ⟨id,ob,base,h1,h2⟩
  by_cases hid:id=nx
  ·subst hid
   rw [upd_same] at h1
   cases h1
   simp [gen] at h2
   omega
  ·rw [upd_other _ _ hid] at h1
   simp only [hid,false_and,if_false] at h2
   exact .inl ⟨id,ob,base,h1,h2⟩
 have hlow:∀id ob b base,h id=some ob→φ id (gen ob)=some (b,base)→b < w.heap.size:=by
  intro id ob b base hh hp
  cases ob with
  |row g cells'=>
   obtain ⟨b1,base1,c1,e1,h1,h2,_⟩:=s.row id g cells' hh
   simp only [gen] at hp
   rw [h1] at hp
   cases hp
   exact (Array.getElem?_eq_some_iff.1 h2).1
  |map es=>
   obtain ⟨b1,mes,clk,h1,h2,_⟩:=s.map id es hh
   simp only [gen] at hp
   rw [h1] at hp
   cases hp
   exact (Array.getElem?_eq_some_iff.1 h2).1
 refine ⟨hphi,fun _ h=>h,⟨fun b hb=>⟨?_,fun hm=>?_⟩,fun id g cells' hh=>?_,fun id es hh=>?_,fun id id' ob ob' b base base' h1 h2 p1 p2=>?_,fun id ob hh=>?_,fun id g hid=>?_⟩,
  ⟨by rw [World.size_alloc];omega,fun b hb _=>hsame b hb,hshape,rfl,rfl,rfl,fun a=>RowKit.frozen?_alloc_cells w c e a⟩,hmut,fun _ h=>.inl h,fun id g p hp=>?_,fun id hd=>?_,Nat.le_succ _⟩
 ·have:=(s.kin b hb).1
  rw [World.size_alloc]
  omega
 ·rcases hmut b hm with h1 | h1
  ·exact (s.kin b hb).2 h1
  ·have:=(s.kin b hb).1;omega
 ·by_cases hid:id=nx
  ·subst hid
   rw [upd_same] at hh
   cases hh
   refine ⟨w.heap.size,0,c,e,by simp,alloc_at w _,by omega,fun j a ha=>⟨hone j a ha,?_⟩⟩
   obtain ⟨v,hv1,hv2⟩:=hr j a ha
   exact ⟨v,by simpa using hv1,hval hv2⟩
  ·rw [upd_other _ _ hid] at hh
   obtain ⟨b,base,c1,e1,h1,h2,h3,h4⟩:=s.row id g cells' hh
   refine ⟨b,base,c1,e1,hphi _ _ _ h1,by rw [hsame b (Array.getElem?_eq_some_iff.1 h2).1];exact h2,h3,fun j a ha=>⟨(h4 j a ha).1,?_⟩⟩
   obtain ⟨v,hv1,hv2⟩:=(h4 j a ha).2
   exact ⟨v,hv1,hval hv2⟩
 ·by_cases hid:id=nx
  ·subst hid
   rw [upd_same] at hh
   cases hh
  ·rw [upd_other _ _ hid] at hh
   obtain ⟨b,mes,clk,h1,h2,h3,h4⟩:=s.map id es hh
   refine ⟨b,mes,clk,hphi _ _ _ h1,by rw [hsame b (Array.getElem?_eq_some_iff.1 h2).1];exact h2,h3,fun j k v hj=>?_⟩
   obtain ⟨me,m1,m2,m3⟩:=h4 j k v hj
   exact ⟨me,m1,hval m2,hval m3⟩
 ·by_cases hid:id=nx
  ·by_cases hid':id'=nx
   ·omega
   ·subst hid
    rw [upd_same] at h1
    cases h1
    rw [upd_other _ _ hid'] at h2
    simp [gen] at p1
    simp only [hid',false_and,if_false] at p2
    have:=hlow id' ob' b base' h2 p2
    omega
  ·rw [upd_other _ _ hid] at h1
   simp only [hid,false_and,if_false] at p1
   by_cases hid':id'=nx
   ·subst hid'
    rw [upd_same] at h2
    cases h2
    simp [gen] at p2
    have:=hlow id ob b base h1 p1
    omega
   ·rw [upd_other _ _ hid'] at h2
    simp only [hid',false_and,if_false] at p2
    exact s.inj id id' ob ob' b base base' h1 h2 p1 p2
 ·by_cases hid:id=nx
  ·subst hid
   rw [upd_same] at hh
   cases hh
   refine ⟨by omega,fun g hg=>?_⟩
   simp only [gen] at hg
   rw [if_neg (by omega)]
   exact s.new _ _ (Nat.le_refl _) htop
  ·rw [upd_other _ _ hid] at hh
   refine ⟨by have:=(s.low id ob hh).1;omega,fun g hg=>?_⟩
   rw [if_neg (by omega)]
   exact (s.low id ob hh).2 g hg
 ·intro ht
  show (if id=nx∧g=0 then _ else _)=_
  rw [if_neg (by omega)]
  exact s.new _ _ (by omega) ht
 ·by_cases hc:id=nx∧g=0
  ·exact .inr (.inl (by omega))
  ·exact .inl (by rwa [if_neg hc] at hp)
 ·by_cases hid:id=nx
  ·exact .inr (by omega)
  ·rw [upd_other _ _ hid] at hd
   exact .inl hd
theorem place_lt {φ:Phi} {K:Nat→Prop} {h:HeapF} {nx:Nat} {w:World} (s:Sim top φ K h nx w) {id:Nat} {ob:AObj} {b base:Nat} (hh:h id=some ob) (hp:φ id (gen ob)=some (b,base)):b < w.heap.size:=by
 cases ob with
 |row g cells'=>
  obtain ⟨b1,base1,c1,e1,h1,h2,_⟩:=s.row id g cells' hh
  simp only [gen] at hp
  rw [h1] at hp
  cases hp
  exact (Array.getElem?_eq_some_iff.1 h2).1
 |map es=>
  obtain ⟨b1,mes,clk,h1,h2,_⟩:=s.map id es hh
  simp only [gen] at hp
  rw [h1] at hp
  cases hp
  exact (Array.getElem?_eq_some_iff.1 h2).1
theorem frozen_setRow (w:World) {b:Nat} {c:Array Value} {e:TypeId} {fr:Nat×Nat} (hb:w.heap[b]?=some (.cells c e fr)) (c':Array Value) (a:Addr):(w.setRow b c').frozen? a=w.frozen? a:=by
 by_cases h:a.block=b
 ·have h1:=setRow_heap w b c c' e fr hb
  rw [←h] at h1 hb
  simp only [World.frozen?,h,h1,hb]
  rw [h] at h1 hb
  rw [h1,hb]
 ·exact World.frozen?_of_block (setRow_other w b _ c' h)
theorem goes_obj {φ φ':Phi} {K:Nat→Prop} {h:HeapF} {nx:Nat} {w w':World} (s:Sim top φ K h nx w) {id:Nat} {g:Nat} {cells:List AV} (hh:h id=some (.row g cells)) {b base:Nat} (hb:φ id g=some (b,base))
  (g':Nat) (cells':List AV) (b' base':Nat) (c':Array Value) (e':TypeId) (hφ:∀i gg,φ' i gg=if i=id∧gg=g' then some (b',base') else φ i gg)
  (hg:(g'=g∧b'=b∧base'=base)∨g < g') (hb':b'=b∨b'=w.heap.size)
  (hw:w'.heap[b']?=some (.cells c' e' (0,0))) (hot:∀i,i < w.heap.size→i≠b'→w'.heap[i]?=w.heap[i]?) (hsz:w.heap.size≤w'.heap.size)
  (hshape:∀(c:Array Value) (e:TypeId) (fr:Nat×Nat),w.heap[b']?=some (Obj.cells c e fr)→e'=e∧fr=(0,0)∧c'.size=c.size)
  (hfz:∀a,w'.frozen? a=w.frozen? a) (hos:w'.os=w.os) (htape:w'.tape=w.tape) (hout:w'.output=w.output) (hl:base' + cells'.length≤c'.size)
  (hr:∀(j:Nat) (a:AV),cells'[j]?=some a→a.one=true∧∃v,c'[base' + j]?=some v∧RelV φ K w a v) :
  Goes top φ K h nx w φ' K (upd h id (some (.row g' cells'))) nx w':=by
 have hphi:∀i gg p,φ i gg=some p→φ' i gg=some p:=by
  intro i gg p hp
  rw [hφ]
  by_cases hc:i=id∧gg=g'
  ·obtain ⟨rfl,rfl⟩:=hc
   rw [if_pos ⟨rfl,rfl⟩]
   rcases hg with ⟨rfl,rfl,rfl⟩ | hg
   ·rw [hb] at hp;exact hp
   ·rw [(s.low _ _ hh).2 gg (by simpa [gen] using hg)] at hp;cases hp
  ·rw [if_neg hc];exact hp
 have hblt:b < w.heap.size:=place_lt s hh (by simpa [gen] using hb)
 have hmutb:Mut φ h b:=⟨id,_,base,hh,by simpa [gen] using hb⟩
 have hshape':∀(i:Nat) (c:Array Value) (e:TypeId) (fr:Nat×Nat),w.heap[i]?=some (Obj.cells c e fr)→∃c1:Array Value,w'.heap[i]?=some (Obj.cells c1 e fr)∧c1.size=c.size:=by
  intro i c e fr hi
  have hlt:i < w.heap.size:=(Array.getElem?_eq_some_iff.1 hi).1
  by_cases hib:i=b'
  ·subst hib
   obtain ⟨rfl,rfl,hs⟩:=hshape c e fr hi
   exact ⟨c',hw,hs⟩
  ·exact ⟨c,by rw [hot i hlt hib];exact hi,rfl⟩
 have hKb:∀i,K i→i≠b':=by
  intro i hi hib
  subst hib
  rcases hb' with rfl | rfl
  ·exact (s.kin _ hi).2 hmutb
  ·exact Nat.lt_irrefl _ (s.kin _ hi).1
 have hval:∀{a:AV} {v:Value},RelV φ K w a v→RelV φ' K w' a v:=
  fun r=>RelV.keep hphi (fun _ h=>h) (fun i hi=>hot i (s.kin i hi).1 (hKb i hi)) hshape' r
 have hplace:∀i ob p,i≠id→h i=some ob→φ' i (gen ob)=some p→φ i (gen ob)=some p:=by
  intro i ob p hne _ hp
  rw [hφ,if_neg (fun hc=>hne hc.1)] at hp
  exact hp
 have hne':∀i ob base1,i≠id→h i=some ob→φ i (gen ob)=some (b',base1)→False:=by
  intro i ob base1 hne hi hp
  rcases hb' with rfl | rfl
  ·exact hne (s.inj i id ob _ _ base1 base hi hh hp (by simpa [gen] using hb))
  ·exact Nat.lt_irrefl _ (place_lt s hi hp)
 have hmut:∀i,Mut φ' (upd h id (some (.row g' cells'))) i→Mut φ h i∨w.heap.size≤i:=by
  rintro i ⟨id1,ob,base1,h1,h2⟩
  by_cases hid:id1=id
  ·subst hid
   rw [upd_same] at h1
   cases h1
   simp only [gen] at h2
   rw [hφ,if_pos ⟨rfl,rfl⟩] at h2
   cases h2
   rcases hb' with rfl | rfl
   ·exact .inl hmutb
   ·exact .inr (Nat.le_refl _)
  ·rw [upd_other _ _ hid] at h1
   exact .inl ⟨id1,ob,base1,h1,hplace _ _ _ hid h1 h2⟩
 refine ⟨hphi,fun _ h=>h,⟨fun i hi=>⟨Nat.lt_of_lt_of_le (s.kin i hi).1 hsz,fun hm=>?_⟩,fun id1 g1 cells1 h1=>?_,fun id1 es h1=>?_,fun id1 id2 ob1 ob2 i base1 base2 h1 h2 p1 p2=>?_,fun id1 ob h1=>?_,fun id1 gg hid=>?_⟩,
  ⟨hsz,fun i hi hn=>hot i hi ?_,hshape',hos,htape,hout,hfz⟩,hmut,fun _ h=>.inl h,fun i gg p hp=>?_,fun i hd=>?_,Nat.le_refl _⟩
 ·rcases hmut i hm with h1 | h1
  ·exact (s.kin i hi).2 h1
  ·exact Nat.lt_irrefl _ (Nat.lt_of_lt_of_le (s.kin i hi).1 h1)
 ·by_cases hid:id1=id
  ·subst hid
   rw [upd_same] at h1
   cases h1
   refine ⟨b',base',c',e',by rw [hφ,if_pos ⟨rfl,rfl⟩],hw,hl,fun j a ha=>⟨(hr j a ha).1,?_⟩⟩
   obtain ⟨v,hv1,hv2⟩:=(hr j a ha).2
   exact ⟨v,hv1,hval hv2⟩
  ·rw [upd_other _ _ hid] at h1
   obtain ⟨b1,base1,c1,e1,h2,h3,h4,h5⟩:=s.row id1 g1 cells1 h1
   have hne1:b1≠b':=fun he=>hne' id1 _ base1 hid h1 (by subst he;simpa [gen] using h2)
   refine ⟨b1,base1,c1,e1,hphi _ _ _ h2,by rw [hot b1 (Array.getElem?_eq_some_iff.1 h3).1 hne1];exact h3,h4,fun j a ha=>⟨(h5 j a ha).1,?_⟩⟩
   obtain ⟨v,hv1,hv2⟩:=(h5 j a ha).2
   exact ⟨v,hv1,hval hv2⟩
 ·by_cases hid:id1=id
  ·subst hid
   rw [upd_same] at h1
   cases h1
  ·rw [upd_other _ _ hid] at h1
   obtain ⟨b1,mes,clk,h2,h3,h4,h5⟩:=s.map id1 es h1
   have hne1:b1≠b':=fun he=>hne' id1 _ 0 hid h1 (by subst he;simpa [gen] using h2)
   refine ⟨b1,mes,clk,hphi _ _ _ h2,by rw [hot b1 (Array.getElem?_eq_some_iff.1 h3).1 hne1];exact h3,h4,fun j k v hj=>?_⟩
   obtain ⟨me,m1,m2,m3⟩:=h5 j k v hj
   exact ⟨me,m1,hval m2,hval m3⟩
 ·by_cases hid1:id1=id
  ·by_cases hid2:id2=id
   ·omega
   ·exfalso
    subst hid1
    rw [upd_same] at h1
    cases h1
    rw [upd_other _ _ hid2] at h2
    simp only [gen] at p1
    rw [hφ,if_pos ⟨rfl,rfl⟩] at p1
    cases p1
    exact hne' id2 ob2 base2 hid2 h2 (hplace _ _ _ hid2 h2 p2)
  ·by_cases hid2:id2=id
   ·exfalso
    subst hid2
    rw [upd_same] at h2
    cases h2
    rw [upd_other _ _ hid1] at h1
    simp only [gen] at p2
    rw [hφ,if_pos ⟨rfl,rfl⟩] at p2
    cases p2
    exact hne' id1 ob1 base1 hid1 h1 (hplace _ _ _ hid1 h1 p1)
   ·rw [upd_other _ _ hid1] at h1
    rw [upd_other _ _ hid2] at h2
    exact s.inj id1 id2 ob1 ob2 i base1 base2 h1 h2 (hplace _ _ _ hid1 h1 p1) (hplace _ _ _ hid2 h2 p2)
 ·by_cases hid:id1=id
  ·subst hid
   rw [upd_same] at h1
   cases h1
   refine ⟨(s.low _ _ hh).1,fun gg hgg=>?_⟩
   simp only [gen] at hgg
   rw [hφ,if_neg (by omega)]
   refine (s.low _ _ hh).2 gg ?_
   simp only [gen]
   omega
  ·rw [upd_other _ _ hid] at h1
   refine ⟨(s.low id1 ob h1).1,fun gg hgg=>?_⟩
   rw [hφ,if_neg (fun hc=>hid hc.1)]
   exact (s.low id1 ob h1).2 gg hgg
 ·intro ht
  rw [hφ,if_neg]
  ·exact s.new id1 gg hid ht
  ·rintro ⟨rfl,rfl⟩
   exact (s.low _ _ hh).1 ⟨hid,ht⟩
 ·rintro rfl
  rcases hb' with rfl | rfl
  ·exact hn hmutb
  ·exact Nat.lt_irrefl _ hi
 ·by_cases hc:i=id∧gg=g'
  ·rw [hc.1,hh];exact .inr (.inr rfl)
  ·rw [hφ,if_neg hc] at hp;exact .inl hp
 ·by_cases hid:i=id
  ·rw [hid,hh];exact .inl rfl
  ·rw [upd_other _ _ hid] at hd;exact .inl hd
end Go.Ax

set_option linter.unusedSimpArgs false
set_option linter.unusedVariables false
namespace Go.Ax
noncomputable def fetchF (h:HeapF):Option Rng→Option (List AV)
 |none=>some []
 |some r=>match h r.id with
  |some (.row g cells)=>bif Nat.beq g r.g then cut cells r.off r.len else none
  |_=>none
def fetchOF (h:HeapF):Option Nat→Option (Option AObj)
 |none=>some none
 |some id=>match h id with
  |some o=>some (some o)
  |none=>none
def setF (h:HeapF) (u:Option Nat) (ob:Option AObj):HeapF:=match ob with
 |none=>h
 |some ob=>match u with
  |some id=>upd h id (some ob)
  |none=>h
noncomputable def runF (p:Plan) (h:HeapF) (nx:Nat):Option (AV×HeapF×Nat):=match p with
 |.val v=>some (v,h,nx)
 |.new f o=>some (f nx,upd h nx (some o),nx + 1)
 |.look q u k=>match fetchF h q with
  |none=>none
  |some a=>match fetchOF h u with
   |none=>none
   |some o=>match k a o with
    |none=>none
    |some out=>match out.new with
     |some ob=>some (out.val nx,upd (setF h u out.obj) nx (some ob),nx + 1)
     |none=>some (out.val nx,setF h u out.obj,nx)
theorem get_put_upd (H:Heap) (id:Nat) (ob:Option AObj):(H.put ob id).get=upd H.get id ob:=by
 funext j
 rw [Map.get_put]
 rfl
theorem fetch_F (H:Heap) (q:Option Rng):fetch H q=fetchF H.get q:=by cases q <;> rfl
theorem fetchO_F (H:Heap) (u:Option Nat):fetchO H u=fetchOF H.get u:=by cases u <;> rfl
theorem setO_F (H:Heap) (u:Option Nat) (ob:Option AObj):(setO H u ob).get=setF H.get u ob:=by
 cases ob with
 |none=>rfl
 |some ob=>cases u with
  |none=>rfl
  |some id=>exact get_put_upd H id _
theorem runPlan_F {p:Plan} {H H':Heap} {nx nx':Nat} {v:AV} (hr:runPlan p H nx=some (v,H',nx')):runF p H.get nx=some (v,H'.get,nx'):=by
 cases p with
 |val v=>cases hr;rfl
 |new f o=>cases hr;rw [get_put_upd];rfl
 |look q u k=>
  simp only [runPlan,runLook,fetch_F,fetchO_F] at hr
  simp only [runF]
  cases hq:fetchF H.get q with
  |none=>rw [hq] at hr;cases hr
  |some a=>
   rw [hq] at hr
   simp only at hr ⊢
   cases hu:fetchOF H.get u with
   |none=>rw [hu] at hr;cases hr
   |some o=>
    rw [hu] at hr
    simp only at hr ⊢
    cases hk:k a o with
    |none=>rw [hk] at hr;cases hr
    |some out=>
     rw [hk] at hr
     simp only at hr ⊢
     cases hn:out.new with
     |none=>rw [hn] at hr;cases hr;simp only [setO_F]
     |some ob=>rw [hn] at hr;cases hr;simp only [get_put_upd,setO_F]
def Sound (top:Nat) (P:Program) (φ:Phi) (K:Nat→Prop) (h:HeapF) (nx:Nat) (w:World) (ρc:Operand→Value) (o:Oper) (p:Plan):Prop:=
 ∀v h' nx',runF p h nx=some (v,h',nx')→nx'≤top→∃V w' φ' K',((execOp ρc o).run P w=.ok (.value V) w'∨((execOp ρc o).run P w=.ok .skip w'∧V=undef))∧Goes top φ K h nx w φ' K' h' nx' w'∧RelV φ' K' w' v V
def mVal:Value→AV→Bool
 |.bool a,.bool b=>a == b
 |.int k n,.int k' n'=>eqK k k'&&eqA n n'
 |.string s,.str s'=>s.data.toList == s'.data.toList
 |.slice none 0 0,.nils=>true
 |.pointer none,.nilp=>true
 |_,_=>false
def mVals:List Value→List AV→Bool
 |[],[]=>true
 |v :: vs,a :: as=>mVal v a&&mVals vs as
 |_,_=>false
def mOpd:Operand→Opd→Bool
 |.tmp n,.t m=>Nat.beq n m
 |.const v,.c a=>mVal v a
 |.func f,.c (.func g)=>Nat.beq f g
 |_,_=>false
def mOpds:List Operand→List Opd→Bool
 |[],[]=>true
 |v :: vs,a :: as=>mOpd v a&&mOpds vs as
 |_,_=>false
def mOpt:Option Operand→Option Opd→Bool
 |none,none=>true
 |some x,some y=>mOpd x y
 |_,_=>false
theorem mVal_rel {v:Value} {a:AV} (h:mVal v a=true) (K:Nat→Prop) (w:World):RelP K w a v∧a.one=true∧v.oneCell'=true:=by
 unfold mVal at h
 split at h
 ·simp at h;subst h;exact ⟨.bool _,rfl,rfl⟩
 ·simp [eqA_eq] at h;obtain ⟨h1,rfl⟩:=h;have:=eqK_eq h1;subst this;exact ⟨.int _ _,rfl,rfl⟩
 ·rename_i s s'
  have e:s=s':=by
   cases s;cases s'
   simp at h
   simp [h]
  subst e;exact ⟨.str _,rfl,rfl⟩
 ·exact ⟨.nils,rfl,rfl⟩
 ·exact ⟨.nilp,rfl,rfl⟩
 ·cases h
theorem mVals_rel {vs:List Value} {as:List AV} (h:mVals vs as=true) (K:Nat→Prop) (w:World) :
  as.length=vs.length∧(∀(j:Nat) (a:AV),as[j]?=some a→a.one=true∧∃v,vs[j]?=some v∧RelP K w a v)∧∀v∈vs,v.oneCell'=true:=by
 induction vs generalizing as with
 |nil=>cases as with
  |nil=>exact ⟨rfl,fun j a ha=>by simp at ha,fun v hv=>by cases hv⟩
  |cons a as=>cases h
 |cons v vs ih=>cases as with
  |nil=>cases h
  |cons a as=>
   simp only [mVals,Bool.and_eq_true] at h
   obtain ⟨h1,h2,h3⟩:=ih h.2
   obtain ⟨r1,r2,r3⟩:=mVal_rel h.1 K w
   refine ⟨by simp [h1],fun j a' ha'=>?_,fun v' hv'=>?_⟩
   ·cases j with
    |zero=>simp at ha';subst ha';exact ⟨r2,v,rfl,r1⟩
    |succ j=>simpa using h2 j a' (by simpa using ha')
   ·rcases List.mem_cons.1 hv' with rfl | hm
    ·exact r3
    ·exact h3 v' hm
section
variable {top:Nat} {P:Program} {φ:Phi} {K:Nat→Prop} {h:HeapF} {nx:Nat} {w:World}
theorem one_of {a:AV} {v:Value} (r:RelV φ K w a v) (h1:a.one=true):v.oneCell'=true:=by
 cases r with
 |pure r=>cases r <;> first | rfl | cases h1
 |agg=>cases h1
 |tup=>cases h1
 |_=>rfl
theorem fetch_cells (s:Sim top φ K h nx w) {id g off n:Nat} {cs:List AV} (hf:fetchF h (some ⟨id,g,off,n⟩)=some cs) :
  ∃(b base:Nat) (c:Array Value) (e:TypeId),φ id g=some (b,base)∧w.heap[b]?=some (.cells c e (0,0))∧base + (off + n)≤c.size∧cs.length=n∧
   ∀(j:Nat) (a:AV),cs[j]?=some a→a.one=true∧∃v,c[base + off + j]?=some v∧RelV φ K w a v:=by
 simp only [fetchF] at hf
 cases hh:h id with
 |none=>rw [hh] at hf;cases hf
 |some ob=>
  rw [hh] at hf
  cases ob with
  |map es=>cases hf
  |row g' cells=>
   simp only [cond_eq_ite,Nat.beq_eq] at hf
   split at hf
   ·rename_i hg
    subst hg
    obtain ⟨b,base,c,e,h1,h2,h3,h4⟩:=s.row id g' cells hh
    obtain ⟨hl,hat⟩:=cut_at hf
    have hfit:=(cut_some hf).1
    refine ⟨b,base,c,e,h1,h2,by omega,hl,fun j a ha=>?_⟩
    have hj:j < n:=by
     rcases Nat.lt_or_ge j cs.length with hj | hj
     ·omega
     ·rw [List.getElem?_eq_none hj] at ha;cases ha
    rw [hat j hj] at ha
    obtain ⟨h5,v,h6,h7⟩:=h4 (off + j) a ha
    exact ⟨h5,v,by rw [←h6,Nat.add_assoc],h7⟩
   ·cases hf
theorem cell_at {b o:Nat} {c:Array Value} {e:TypeId} {fr:Nat×Nat} (hb:w.heap[b]?=some (.cells c e fr)):w.cell? ⟨b,o,none⟩=c[o]?:=by
 simp [World.cell?,hb]
def listAt (c:Array Value) (o n:Nat):List Value:=(List.range n).map fun j=>c.getD (o + j) undef
theorem listAt_length (c:Array Value) (o n:Nat):(listAt c o n).length=n:=by simp [listAt]
theorem listAt_get (c:Array Value) (o n j:Nat) (hj:j < n) (hc:o + j < c.size):(listAt c o n)[j]?=c[o + j]?:=by
 simp [listAt,hj,Array.getElem?_eq_getElem hc]
theorem goes_over (s:Sim top φ K h nx w) {id g:Nat} {cells cells' cs:List AV} {off b base:Nat} {c:Array Value} {e:TypeId} (hh:h id=some (.row g cells)) (hb:φ id g=some (b,base))
  (hc:w.heap[b]?=some (.cells c e (0,0))) (hfit:base + cells.length≤c.size) (hcells:∀(j:Nat) (a:AV),cells[j]?=some a→a.one=true∧∃v,c[base + j]?=some v∧RelV φ K w a v)
  (ho:over cells off cs=some cells') (vs:List Value) (hvl:vs.length=cs.length)
  (hrel:∀(j:Nat) (a:AV) (v:Value),cs[j]?=some a→vs[j]?=some v→RelV φ K w a v) (hone:∀(j:Nat) (a:AV),cs[j]?=some a→a.one=true) :
  Goes top φ K h nx w φ K (upd h id (some (.row g cells'))) nx (w.setRow b (c.toList.take (base + off)++vs++c.toList.drop (base + off + vs.length)).toArray):=by
 obtain ⟨hl',hat⟩:=over_at ho
 have hof:=(over_some ho).1
 have hsize:(c.toList.take (base + off)++vs++c.toList.drop (base + off + vs.length)).toArray.size=c.size:=by
  simp
  omega
 have hblt:b < w.heap.size:=(Array.getElem?_eq_some_iff.1 hc).1
 refine goes_obj s hh hb g cells' b base _ e (fun i gg=>?_) (.inl ⟨rfl,rfl,rfl⟩) (.inl rfl) (setRow_heap w b c _ e (0,0) hc) (fun i hi hne=>setRow_other w b i _ hne) (by simp [World.setRow]) ?_ (fun a=>frozen_setRow w hc _ a) rfl rfl rfl (by rw [hsize,hl'];exact hfit) ?_
 ·split
  ·rename_i hc';obtain ⟨rfl,rfl⟩:=hc';exact hb
  ·rfl
 ·intro c1 e1 fr1 h1
  rw [hc] at h1
  cases h1
  exact ⟨rfl,rfl,hsize⟩
 ·intro j a ha
  rw [hat j] at ha
  by_cases hin:off≤j∧j < off + cs.length
  ·rw [if_pos hin] at ha
   refine ⟨hone _ a ha,?_⟩
   have hj:j - off < vs.length:=by omega
   refine ⟨vs[j - off],?_,hrel _ a _ ha (List.getElem?_eq_getElem hj)⟩
   simp only [List.getElem?_toArray]
   rw [List.getElem?_append_left (by simp;omega),List.getElem?_append_right (by simp;omega)]
   simp only [List.length_take,Array.length_toList]
   rw [List.getElem?_eq_getElem (by omega)]
   congr 1
   congr 1
   omega
  ·rw [if_neg hin] at ha
   obtain ⟨h1,v,h2,h3⟩:=hcells j a ha
   refine ⟨h1,v,?_,h3⟩
   rw [←h2]
   simp only [List.getElem?_toArray]
   by_cases hlo:j < off
   ·rw [List.getElem?_append_left (by simp;omega),List.getElem?_append_left (by simp;omega),List.getElem?_take_of_lt (by omega),Array.getElem?_toList]
   ·rw [List.getElem?_append_right (by simp;omega),List.getElem?_drop]
    simp only [List.length_append,List.length_take,Array.length_toList]
    rw [←Array.getElem?_toList]
    congr 1
    have:off + cs.length≤j:=by omega
    have hb2:base + off + cs.length≤c.size:=by omega
    omega
end
end Go.Ax

set_option linter.unusedSimpArgs false
set_option linter.unusedVariables false
namespace Go.Ax
def tInfo (P:Program) (t:TypeId) (f:TypeInfo→Bool):Bool:=match P.info? t with | some i=>f i | none=>false
def tDesc (P:Program) (t:TypeId) (f:TypeDesc→Bool):Bool:=match P.underlying t with | some d=>f d | none=>false
def tSize (P:Program) (t:TypeId) (n:Nat):Bool:=tInfo P t fun i=>Nat.beq i.size n
def aggOf:TypeDesc→Bool
 |.struct _=>true
 |.array _ _=>true
 |_=>false
def tVar (P:Program) (t:TypeId) (sz:Option Nat):Bool:=match sz with
 |none=>tDesc P t fun d=>!aggOf d
 |some n=>(tDesc P t fun d=>aggOf d)&&tSize P t n
theorem tInfo_some {P:Program} {t:TypeId} {f:TypeInfo→Bool} (h:tInfo P t f=true):∃i,P.info? t=some i∧f i=true:=by
 unfold tInfo at h
 split at h
 ·rename_i i hi;exact ⟨i,hi,h⟩
 ·cases h
theorem tDesc_some {P:Program} {t:TypeId} {f:TypeDesc→Bool} (h:tDesc P t f=true):∃d,P.underlying t=some d∧f d=true:=by
 unfold tDesc at h
 split at h
 ·rename_i i hi;exact ⟨i,hi,h⟩
 ·cases h
theorem tSize_run {P:Program} {t:TypeId} {n:Nat} (h:tSize P t n=true) (w:World):(sizeOf t).run P w=.ok n w:=by
 obtain ⟨i,hi,hn⟩:=tInfo_some h
 rw [Nat.beq_eq] at hn
 simp [sizeOf,typeInfo,hi,hn]
theorem isAgg_run {P:Program} {t:TypeId} {d:TypeDesc} (h:P.underlying t=some d) (w:World):(isAgg t).run P w=.ok (aggOf d) w:=by
 cases d <;> simp [isAgg,run_underlying h,aggOf]
section
variable {top:Nat} {P:Program} {φ:Phi} {K:Nat→Prop} {h:HeapF} {nx:Nat} {w:World} {ρ:Opd→AV} {ρc:Operand→Value} {o:Oper}
theorem sound_val (s:Sim top φ K h nx w) {v:AV} {V:Value} (hrun:(execOp ρc o).run P w=.ok (.value V) w) (hv:RelV φ K w v V):Sound top P φ K h nx w ρc o (.val v):=by
 intro v' h' nx' hr htop
 cases hr
 exact ⟨V,w,φ,K,.inl hrun,Goes.refl s,hv⟩
theorem sound_of_O {v:Option AV} {p:Plan} (hp:pureO v=some p):∃x,v=some x∧p=.val x:=by
 cases v with
 |none=>cases hp
 |some x=>cases hp;exact ⟨x,rfl,rfl⟩
def mMv (o:Oper) (x:Opd):Bool:=match o.op with
 |.move a=>mOpd a x
 |.assign a=>mOpd a x
 |_=>false
theorem s_mv (s:Sim top φ K h nx w) (hρ:∀x y,mOpd x y=true→RelV φ K w (ρ y) (ρc x)) {x:Opd} (hm:mMv o x=true):Sound top P φ K h nx w ρc o (.val (ρ x)):=by
 unfold mMv at hm
 split at hm
 ·rename_i a ha
  exact sound_val s (V:=ρc a) (by simp [execOp,ha]) (hρ _ _ hm)
 ·rename_i a ha
  exact sound_val s (V:=ρc a) (by simp [execOp,ha]) (hρ _ _ hm)
 ·cases hm
theorem rel_bool {b:Bool} {V:Value} (r:RelV φ K w (.bool b) V):V=.bool b:=by
 cases r with
 |pure r=>cases r;rfl
theorem rel_int {k:IntKind} {n:Int} {V:Value} (r:RelV φ K w (.int k n) V):V=.int k n:=by
 cases r with
 |pure r=>cases r;rfl
theorem rel_str {x:ByteArray} {V:Value} (r:RelV φ K w (.str x) V):V=.string x:=by
 cases r with
 |pure r=>cases r;rfl
theorem rel_nils {V:Value} (r:RelV φ K w .nils V):V=.slice none 0 0:=by
 cases r with
 |pure r=>cases r;rfl
theorem rel_func {f:Nat} {V:Value} (r:RelV φ K w (.func f) V):V=.func (.func f) #[] #[]:=by
 cases r with
 |pure r=>cases r;rfl
theorem rel_ptr {id g off:Nat} {V:Value} (r:RelV φ K w (.ptr id g off) V):∃b base,φ id g=some (b,base)∧V=.pointer (some ⟨b,base + off,none⟩):=by
 cases r with
 |pure r=>cases r
 |ptr id g off b base h=>exact ⟨b,base,h,rfl⟩
theorem rel_iptr {cs:List AV} {off:Nat} {V:Value} (r:RelV φ K w (.iptr cs off) V):∃b o,K b∧V=.pointer (some ⟨b,o + off,none⟩)∧
  ∀(j:Nat) (a:AV),cs[j]?=some a→a.one=true∧∃v,w.cell? ⟨b,o + j,none⟩=some v∧RelP K w a v:=by
 cases r with
 |pure r=>cases r with
  |iptr cs b o off f hK hone hc hr=>
   refine ⟨b,o,hK,rfl,fun j a ha=>⟨hone j a ha,f j,hc j ?_,hr j a ha⟩⟩
   rcases Nat.lt_or_ge j cs.length with hj | hj
   ·exact hj
   ·rw [List.getElem?_eq_none hj] at ha;cases ha
theorem rel_imm {cs:List AV} {n:Nat} {cap:Option Nat} {V:Value} (r:RelV φ K w (.imm cs n cap) V):∃ad c',V=.slice (some ad) n c'∧n≤c'∧(∀c,cap=some c→c'=c)∧(cs≠[]→ad.spot=none∧K ad.block)∧
  ∀(j:Nat) (a:AV),cs[j]?=some a→a.one=true∧∃v,w.cell? ⟨ad.block,ad.off + j,none⟩=some v∧RelP K w a v:=by
 cases r with
 |pure r=>cases r with
  |imm cs n cap ad c' f hK hn hcap hone hc hr=>
   refine ⟨ad,c',rfl,hn,hcap,hK,fun j a ha=>⟨hone j a ha,f j,hc j ?_,hr j a ha⟩⟩
   rcases Nat.lt_or_ge j cs.length with hj | hj
   ·exact hj
   ·rw [List.getElem?_eq_none hj] at ha;cases ha
theorem rel_ref {id g off es len cap:Nat} {ex:Bool} {V:Value} (r:RelV φ K w (.ref id g off es len cap ex) V):∃b base ad c',V=.slice (some ad) len c'∧φ id g=some (b,base)∧len≤cap∧cap≤c'∧(ex=true→c'=cap)∧
  (c'≠0→ad=⟨b,base + off,none⟩∧∃(c:Array Value) (e:TypeId) (fr:Nat×Nat),w.heap[b]?=some (Obj.cells c e fr)∧base + off + c'*es≤c.size):=by
 cases r with
 |pure r=>cases r
 |ref id g off es len cap ex b base ad c' h1 h2 h3 h4 h5=>exact ⟨b,base,ad,c',rfl,h1,h2,h3,h4,h5⟩
theorem rel_agg {cs:List AV} {V:Value} (r:RelV φ K w (.agg cs) V):∃vs:Array Value,V=.agg vs∧cs.length=vs.size∧∀(j:Nat) (a:AV),cs[j]?=some a→a.one=true∧∃v,vs[j]?=some v∧RelV φ K w a v:=by
 have key:∀(vs:Array Value) (R:AV→Value→Prop),cs.length=vs.size→(∀(j:Nat) (a:AV),cs[j]?=some a→a.one=true)→(∀(j:Nat) (a:AV) (v:Value),cs[j]?=some a→vs[j]?=some v→R a v)→
   ∀(j:Nat) (a:AV),cs[j]?=some a→a.one=true∧∃v,vs[j]?=some v∧R a v:=by
  intro vs R hl hone hr j a ha
  have hj:j < vs.size:=by
   rcases Nat.lt_or_ge j cs.length with hj | hj
   ·omega
   ·rw [List.getElem?_eq_none hj] at ha;cases ha
  exact ⟨hone j a ha,vs[j],Array.getElem?_eq_getElem hj,hr j a _ ha (Array.getElem?_eq_getElem hj)⟩
 cases r with
 |pure r=>cases r with
  |agg cs vs hl hone hr=>exact ⟨vs,rfl,hl,key vs _ hl hone fun j a v h1 h2=>.pure (hr j a v h1 h2)⟩
 |agg cs vs hl hone hr=>exact ⟨vs,rfl,hl,key vs _ hl hone hr⟩
theorem rel_tup {cs:List AV} {V:Value} (r:RelV φ K w (.tup cs) V):∃vs:Array Value,V=.tuple vs∧cs.length=vs.size∧∀(j:Nat) (a:AV),cs[j]?=some a→∃v,vs[j]?=some v∧RelV φ K w a v:=by
 have key:∀(vs:Array Value) (R:AV→Value→Prop),cs.length=vs.size→(∀(j:Nat) (a:AV) (v:Value),cs[j]?=some a→vs[j]?=some v→R a v)→
   ∀(j:Nat) (a:AV),cs[j]?=some a→∃v,vs[j]?=some v∧R a v:=by
  intro vs R hl hr j a ha
  have hj:j < vs.size:=by
   rcases Nat.lt_or_ge j cs.length with hj | hj
   ·omega
   ·rw [List.getElem?_eq_none hj] at ha;cases ha
  exact ⟨vs[j],Array.getElem?_eq_getElem hj,hr j a _ ha (Array.getElem?_eq_getElem hj)⟩
 cases r with
 |pure r=>cases r with
  |tup cs vs hl hr=>exact ⟨vs,rfl,hl,key vs _ hl fun j a v h1 h2=>.pure (hr j a v h1 h2)⟩
 |tup cs vs hl hr=>exact ⟨vs,rfl,hl,key vs _ hl hr⟩
theorem rel_cells {a:AV} {V:Value} {cs:List AV} (r:RelV φ K w a V) (hc:a.cells?=some cs):cs.length=V.cells.size∧∀(j:Nat) (x:AV),cs[j]?=some x→x.one=true∧∃v,V.cells[j]?=some v∧RelV φ K w x v:=by
 by_cases h1:∃l,a=.agg l
 ·obtain ⟨l,rfl⟩:=h1
  cases hc
  obtain ⟨vs,rfl,hl,hr⟩:=rel_agg r
  exact ⟨hl,hr⟩
 ·have ha:a.one=true∧cs=[a]:=by
   cases a <;> first
    |(exact absurd ⟨_,rfl⟩ h1)
    |(cases hc;done)
    |(cases hc;exact ⟨rfl,rfl⟩)
  obtain ⟨ha,rfl⟩:=ha
  have hv:=one_of r ha
  have hV:V.cells=#[V]:=by cases V <;> first | rfl | cases hv
  rw [hV]
  refine ⟨rfl,fun j x hx=>?_⟩
  cases j with
  |zero=>simp at hx;subst hx;exact ⟨ha,V,rfl,r⟩
  |succ j=>simp at hx
theorem run_v {x:Sem Value} {V:Value} {w':World} (h:x.run P w=.ok V w'):(do pure (Next.value (←x)):Sem Next).run P w=.ok (.value V) w':=by simp [h]
theorem run_u {x:Sem Unit} {w':World} (h:x.run P w=.ok () w'):(do x;pure Next.skip:Sem Next).run P w=.ok .skip w':=by simp [h]
def mPick (o:Oper) (c a b:Opd):Bool:=match o.op with
 |.pick c' a' b'=>mOpd c' c&&mOpd a' a&&mOpd b' b
 |_=>false
theorem s_pick (s:Sim top φ K h nx w) (hρ:∀x y,mOpd x y=true→RelV φ K w (ρ y) (ρc x)) {c a b:Opd} (hm:mPick o c a b=true) {p:Plan} (hp:pPick ρ c a b=some p):Sound top P φ K h nx w ρc o p:=by
 unfold mPick at hm
 split at hm
 ·rename_i c' a' b' ho
  simp only [Bool.and_eq_true] at hm
  obtain ⟨⟨h1,h2⟩,h3⟩:=hm
  unfold pPick at hp
  split at hp
  ·rename_i t ht
   have hc:=hρ _ _ h1
   rw [ht] at hc
   have hc:=rel_bool hc
   cases t with
   |true=>cases hp;exact sound_val s (V:=ρc a') (by simp [execOp,ho,hc,asBool]) (hρ _ _ h2)
   |false=>cases hp;exact sound_val s (V:=ρc b') (by simp [execOp,ho,hc,asBool]) (hρ _ _ h3)
  ·cases hp
 ·cases hm
theorem sound_new (s:Sim top φ K h nx w) (f:Nat→AV) (cells:List AV) (c:Array Value) (e:TypeId) (V:Value) (hrun:(execOp ρc o).run P w=.ok (.value V) (w.alloc (.cells c e))) (hl:cells.length≤c.size)
  (hr:∀(j:Nat) (a:AV),cells[j]?=some a→a.one=true∧∃v,c[j]?=some v∧RelV φ K w a v)
  (hV:RelV (fun id g=>if id=nx∧g=0 then some (w.heap.size,0) else φ id g) K (w.alloc (.cells c e)) (f nx) V):Sound top P φ K h nx w ρc o (.new f (.row 0 cells)):=by
 intro v h' nx' hrr htop
 cases hrr
 exact ⟨V,_,_,K,.inl hrun,goes_new s htop cells c e hl (fun j a ha=>(hr j a ha).1) (fun j a ha=>(hr j a ha).2),hV⟩
def mZero (P:Program) (t:TypeId) (zero:List AV):Bool:=tInfo P t fun i=>match i.zero with | some z=>mVals z.cells.toList zero | none=>false
theorem mZero_run {t:TypeId} {zero:List AV} (hz:mZero P t zero=true) (K:Nat→Prop) (w:World):∃z,(zeroValue t).run P w=.ok z w∧mVals z.cells.toList zero=true∧zero.length=z.cells.size∧∀(j:Nat) (a:AV),zero[j]?=some a→a.one=true∧∃v,z.cells[j]?=some v∧RelP K w a v:=by
 obtain ⟨i,hi,h1⟩:=tInfo_some hz
 cases hzv:i.zero with
 |none=>rw [hzv] at h1;cases h1
 |some z=>
  rw [hzv] at h1
  obtain ⟨h2,h3,_⟩:=mVals_rel h1 K w
  refine ⟨z,by simp [zeroValue,typeInfo,hi,hzv],h1,by simpa using h2,fun j a ha=>?_⟩
  obtain ⟨r1,v,r2,r3⟩:=h3 j a ha
  exact ⟨r1,v,by simpa using r2,r3⟩
def mAlloc (P:Program) (o:Oper) (zero:List AV):Bool:=match o.op with
 |.alloc t=>mZero P t zero
 |_=>false
theorem s_alloc (s:Sim top φ K h nx w) {zero:List AV} (hm:mAlloc P o zero=true):Sound top P φ K h nx w ρc o (.new (fun id=>.ptr id 0 0) (.row 0 zero)):=by
 unfold mAlloc at hm
 split at hm
 ·rename_i t ho
  obtain ⟨z,h1,h2,h3,h4⟩:=mZero_run hm K w
  refine sound_new s _ zero z.cells t (.pointer (some ⟨w.heap.size,0,none⟩)) ?_ (by omega) (fun j a ha=>⟨(h4 j a ha).1,let ⟨v,a1,a2⟩:=(h4 j a ha).2;⟨v,a1,.pure a2⟩⟩) ?_
  ·simp [execOp,ho,Instr.alloc,h1,newVar,newRow]
  ·exact .ptr nx 0 0 w.heap.size 0 (by simp)
 ·cases hm
def mBox (o:Oper) (x:Opd):Bool:=match o.op with
 |.box _ x'=>mOpd x' x
 |_=>false
theorem s_box (s:Sim top φ K h nx w) (hρ:∀x y,mOpd x y=true→RelV φ K w (ρ y) (ρc x)) {x:Opd} (hm:mBox o x=true) {p:Plan} (hp:pBox ρ x=some p):Sound top P φ K h nx w ρc o p:=by
 unfold mBox at hm
 split at hm
 ·rename_i t x' ho
  unfold pBox at hp
  split at hp
  ·rename_i cs hcs
   cases hp
   obtain ⟨h1,h2⟩:=rel_cells (hρ _ _ hm) hcs
   refine sound_new s _ cs (ρc x').cells t (.pointer (some ⟨w.heap.size,0,none⟩)) ?_ (by omega) h2 ?_
   ·simp [execOp,ho,Instr.box,newVar,newRow]
   ·exact .ptr nx 0 0 w.heap.size 0 (by simp)
  ·cases hp
 ·cases hm
def ofList (sz:Option Nat) (l:List Value):Value:=match sz with | none=>l.getD 0 undef | some _=>.agg l.toArray
theorem rel_mkv (s:Sim top φ K h nx w) {sz:Option Nat} {t:TypeId} (ht:tVar P t sz=true) {cs:List AV} {v:AV} (hv:mkv sz cs=some v) (l:List Value) (hl:cs.length=l.length)
  (hr:∀(j:Nat) (a:AV),cs[j]?=some a→a.one=true∧∃u,l[j]?=some u∧RelV φ K w a u) :
  RelV φ K w v (ofList sz l):=by
 cases sz with
 |none=>
  show RelV φ K w v (l.getD 0 undef)
  unfold mkv at hv
  simp only at hv
  split at hv
  ·cases hv
   obtain ⟨_,u,h1,h2⟩:=hr 0 v rfl
   simp only [List.getD_eq_getElem?_getD,h1,Option.getD_some]
   exact h2
  ·cases hv
 |some n=>
  cases hv
  refine .agg cs l.toArray (by simpa using hl) (fun j a ha=>(hr j a ha).1) (fun j a u ha hu=>?_)
  obtain ⟨_,u',h1,h2⟩:=hr j a ha
  simp only [List.getElem?_toArray,h1,Option.some.injEq] at hu
  subst hu
  exact h2
theorem run_loadVar {t:TypeId} {sz:Option Nat} (ht:tVar P t sz=true) (b o:Nat) (l:List Value) (hl:l.length=loadA sz) (hc:∀j,j < l.length→w.cell? ⟨b,o + j,none⟩=l[j]?) :
  (loadVar t ⟨b,o,none⟩).run P w=.ok (ofList sz l) w:=by
 cases sz with
 |none=>
  obtain ⟨d,hd,hag⟩:=tDesc_some ht
  have h0:=hc 0 (by simp [hl,loadA])
  have hl1:0 < l.length:=by simp [hl,loadA]
  rw [List.getElem?_eq_getElem hl1] at h0
  simp at hag
  simp at h0
  simp [loadVar,isAgg_run hd,hag,h0,ofList,List.getElem?_eq_getElem hl1]
 |some n=>
  simp only [tVar,Bool.and_eq_true] at ht
  obtain ⟨d,hd,hag⟩:=tDesc_some ht.1
  have hs:=tSize_run ht.2 w
  simp only [loadA] at hl
  have hlc:=run_loadCells_list (P:=P) w ⟨b,o,none⟩ l (fun j v hv=>by
   rw [Addr.add_lit,hc j (by rcases Nat.lt_or_ge j l.length with hj | hj;exact hj;rw [List.getElem?_eq_none hj] at hv;cases hv)];exact hv)
  rw [hl] at hlc
  simp [loadVar,isAgg_run hd,hag,hs,hlc,ofList]
def mLoad (P:Program) (o:Oper) (sz:Option Nat) (a:Opd):Bool:=match o.op with
 |.load t a'=>mOpd a' a&&tVar P t sz
 |_=>false
theorem s_load (s:Sim top φ K h nx w) (hρ:∀x y,mOpd x y=true→RelV φ K w (ρ y) (ρc x)) {sz:Option Nat} {a:Opd} (hm:mLoad P o sz a=true) {p:Plan} (hp:pLoad ρ sz a=some p):Sound top P φ K h nx w ρc o p:=by
 unfold mLoad at hm
 split at hm
 ·rename_i t a' ho
  simp only [Bool.and_eq_true] at hm
  have hr:=hρ _ _ hm.1
  unfold pLoad at hp
  split at hp
  ·rename_i id g off ha
   cases hp
   rw [ha] at hr
   obtain ⟨b,base,hb,hV⟩:=rel_ptr hr
   intro v h' nx' hrun htop
   simp only [runF,fetchOF] at hrun
   split at hrun
   ·cases hrun
   ·rename_i cs hcs
    obtain ⟨b1,base1,c,e,h1,h2,h3,h4,h5⟩:=fetch_cells s hcs
    rw [hb] at h1
    cases h1
    split at hrun
    ·cases hrun
    ·rename_i out hout
     split at hout
     ·rename_i v1 hv1
      cases hout
      cases hrun
      have hlen:=listAt_length c (base + off) (loadA sz)
      have hget:∀(j:Nat) (a:AV),cs[j]?=some a→a.one=true∧∃u,(listAt c (base + off) (loadA sz))[j]?=some u∧RelV φ K w a u:=by
       intro j a ha
       obtain ⟨r1,u,r2,r3⟩:=h5 j a ha
       have hj:j < loadA sz:=by
        rcases Nat.lt_or_ge j cs.length with hj | hj
        ·omega
        ·rw [List.getElem?_eq_none hj] at ha;cases ha
       exact ⟨r1,u,by rw [listAt_get c _ _ j hj (by omega)];exact r2,r3⟩
      refine ⟨_,w,φ,K,.inl ?_,Goes.refl s,rel_mkv s hm.2 hv1 _ (by rw [h4,hlen]) hget⟩
      simp only [execOp,ho]
      refine run_v ?_
      simp only [Instr.loadAt,hV,Instr.sureAddr,Sem.run_bind,Sem.run_pure,Result.andThen_ok]
      refine run_loadVar hm.2 b (base + off) _ hlen (fun j hj=>?_)
      rw [cell_at h2,listAt_get c _ _ j (by omega) (by omega)]
     ·cases hout
  ·rename_i cs off ha
   split at hp
   ·rename_i cs' hcut
    obtain ⟨v,hv,rfl⟩:=sound_of_O hp
    rw [ha] at hr
    obtain ⟨b,o1,hK,hV,hcells⟩:=rel_iptr hr
    obtain ⟨hl,hat⟩:=cut_at hcut
    have hfit:=(cut_some hcut).1
    have hget:∀(j:Nat) (a:AV),cs'[j]?=some a→a.one=true∧∃u,w.cell? ⟨b,o1 + off + j,none⟩=some u∧RelV φ K w a u:=by
     intro j a ha
     have hj:j < loadA sz:=by
      rcases Nat.lt_or_ge j cs'.length with hj | hj
      ·omega
      ·rw [List.getElem?_eq_none hj] at ha;cases ha
     rw [hat j hj] at ha
     obtain ⟨r1,u,r2,r3⟩:=hcells _ a ha
     exact ⟨r1,u,by rw [←r2,Nat.add_assoc],.pure r3⟩
    have hl2:((List.range (loadA sz)).map fun j=>(w.cell? ⟨b,o1 + off + j,none⟩).getD undef).length=loadA sz:=by simp
    have hl3:∀j u,j < loadA sz→w.cell? ⟨b,o1 + off + j,none⟩=some u→((List.range (loadA sz)).map fun j=>(w.cell? ⟨b,o1 + off + j,none⟩).getD undef)[j]?=some u:=by
     intro j u hj hu
     simp [hj,hu]
    refine sound_val s ?_ (rel_mkv s hm.2 hv ((List.range (loadA sz)).map fun j=>(w.cell? ⟨b,o1 + off + j,none⟩).getD undef) (by rw [hl,hl2]) ?_)
    ·simp only [execOp,ho]
     refine run_v ?_
     simp only [Instr.loadAt,hV,Instr.sureAddr,Sem.run_bind,Sem.run_pure,Result.andThen_ok]
     refine run_loadVar hm.2 b (o1 + off) _ hl2 (fun j hj=>?_)
     have hj':j < cs'.length:=by omega
     obtain ⟨_,u,r2,_⟩:=hget j _ (List.getElem?_eq_getElem hj')
     rw [r2,hl3 j u (by omega) r2]
    ·intro j a ha
     obtain ⟨r1,u,r2,r3⟩:=hget j a ha
     have hj:j < loadA sz:=by
      rcases Nat.lt_or_ge j cs'.length with hj | hj
      ·omega
      ·rw [List.getElem?_eq_none hj] at ha;cases ha
     exact ⟨r1,u,hl3 j u hj r2,r3⟩
   ·cases hp
  ·cases hp
 ·cases hm
theorem runF_row {q:Option Rng} {id g:Nat} {k:List AV→List AV→Option Out} {v:AV} {h':HeapF} {nx':Nat} (hr:runF (.look q (some id) fun a=>rowK g (k a)) h nx=some (v,h',nx')) :
  ∃a cells out,fetchF h q=some a∧h id=some (.row g cells)∧k a cells=some out∧(match out.new with
   |some ob=>some (out.val nx,upd (setF h (some id) out.obj) nx (some ob),nx + 1)
   |none=>some (out.val nx,setF h (some id) out.obj,nx))=some (v,h',nx'):=by
 simp only [runF,fetchOF] at hr
 cases hq:fetchF h q with
 |none=>rw [hq] at hr;cases hr
 |some a=>
  rw [hq] at hr
  simp only at hr
  cases hh:h id with
  |none=>rw [hh] at hr;cases hr
  |some ob=>
   rw [hh] at hr
   simp only at hr
   cases ob with
   |map es=>simp only [rowK] at hr;cases hr
   |row g' cells=>
    simp only [rowK,cond_eq_ite,Nat.beq_eq] at hr
    split at hr
    ·cases hr
    ·rename_i out hout
     split at hout
     ·rename_i hg
      subst hg
      exact ⟨a,cells,out,rfl,rfl,hout,hr⟩
     ·cases hout
def mStore (P:Program) (o:Oper) (sz:Nat) (a x:Opd):Bool:=match o.op with
 |.store t a' x'=>mOpd a' a&&mOpd x' x&&tSize P t sz
 |_=>false
theorem s_store (s:Sim top φ K h nx w) (hρ:∀x y,mOpd x y=true→RelV φ K w (ρ y) (ρc x)) {sz:Nat} {a x:Opd} (hm:mStore P o sz a x=true) {p:Plan} (hp:pStore ρ sz a x=some p):Sound top P φ K h nx w ρc o p:=by
 unfold mStore at hm
 split at hm
 ·rename_i t a' x' ho
  simp only [Bool.and_eq_true] at hm
  obtain ⟨⟨hma,hmx⟩,hms⟩:=hm
  have hra:=hρ _ _ hma
  have hrx:=hρ _ _ hmx
  unfold pStore at hp
  split at hp
  ·rename_i id g off ha
   split at hp
   ·rename_i cs hcs
    simp only [cond_eq_ite,Nat.beq_eq] at hp
    split at hp
    ·rename_i hsz
     cases hp
     rw [ha] at hra
     obtain ⟨b,base,hb,hV⟩:=rel_ptr hra
     intro v h' nx' hrun htop
     obtain ⟨_,cells,out,_,hh,hk,hend⟩:=runF_row (k:=fun _ cells=>match over cells off cs with | some cells'=>some ⟨fun _=>undefA,some (.row g cells'),none⟩ | none=>none) hrun
     split at hk
     ·rename_i cells' hov
      cases hk
      cases hend
      obtain ⟨b1,base1,c,e,h1,h2,h3,h4⟩:=s.row id g cells hh
      rw [hb] at h1
      cases h1
      obtain ⟨hcl,hcr⟩:=rel_cells hrx hcs
      have hone:∀u∈(ρc x').cells.toList,u.oneCell'=true:=by
       intro u hu
       obtain ⟨j,hj,rfl⟩:=List.getElem_of_mem hu
       have hj':j < cs.length:=by simpa [hcl] using hj
       obtain ⟨r1,u',r2,r3⟩:=hcr j _ (List.getElem?_eq_getElem hj')
       have:(ρc x').cells.toList[j]=u':=by
        have:=Array.getElem?_toList (xs:=(ρc x').cells) (i:=j)
        rw [List.getElem?_eq_getElem hj,r2] at this
        exact Option.some.inj this
       rw [this]
       exact one_of r3 r1
      have hof:=(over_some hov).1
      have hst:=run_storeCells_at P b (base + off) e (ρc x').cells.toList 0 c w h2 (by simp [←hcl];omega) hone
      simp only [Nat.add_zero] at hst
      refine ⟨undef,_,φ,K,.inr ⟨?_,rfl⟩,goes_over s hh hb h2 h3 h4 hov (ρc x').cells.toList (by simp [←hcl]) ?_ (fun j a ha=>(hcr j a ha).1),.pure (.tup [] #[] rfl (fun j a v ha=>by simp at ha))⟩
      ·simp only [execOp,ho]
       refine run_u ?_
       have hsz':(ρc x').cells.size=sz:=by rw [←hcl,hsz]
       simp only [Instr.storeAt,hV,Instr.sureAddr,storeVar,Sem.run_bind,Sem.run_pure,Result.andThen_ok,tSize_run hms,hsz',ne_eq,not_true_eq_false,if_false,hst]
      ·intro j a v ha hv
       obtain ⟨_,u,r2,r3⟩:=hcr j a ha
       rw [Array.getElem?_toList,r2] at hv
       cases hv
       exact r3
     ·cases hk
    ·cases hp
   ·cases hp
  ·cases hp
 ·cases hm
end
end Go.Ax
