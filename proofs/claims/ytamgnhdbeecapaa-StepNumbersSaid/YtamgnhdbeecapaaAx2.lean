/- What the interpreter's values and heaps are of a world: the relations, and what keeps them. -/
import Derived.Test.YtamgnhdbeecapaaAx1
import Derived.Deep.Upon
import Derived.Laws.CopyRow
import Derived.Orders
import Derived.RowKit3
set_option linter.unusedSimpArgs false
set_option linter.unusedVariables false
namespace Go.Ax

/-- where object `id`, as grown g times, stands: a block, the cell where it begins -/
abbrev Phi := Nat → Nat → Option (Nat × Nat)
abbrev HeapF := Nat → Option AObj

/-- Values that lead to no object; `K`: the blocks that never change. -/
inductive RelP (K : Nat → Prop) (w : World) : AV → Value → Prop where
  | bool (b : Bool) : RelP K w (.bool b) (.bool b)
  | int (k : IntKind) (n : Int) : RelP K w (.int k n) (.int k n)
  | str (s : ByteArray) : RelP K w (.str s) (.string s)
  | nilp : RelP K w .nilp (.pointer none)
  | nils : RelP K w .nils (.slice none 0 0)
  | func (f : Nat) : RelP K w (.func f) (.func (.func f) #[] #[])
  | iptr (cs : List AV) (b o off : Nat) (f : Nat → Value) (hK : K b) (hone : ∀ (j : Nat) (a : AV), cs[j]? = some a → a.one = true)
      (hc : ∀ j, j < cs.length → w.cell? ⟨b, o + j, none⟩ = some (f j)) (hr : ∀ (j : Nat) (a : AV), cs[j]? = some a → RelP K w a (f j)) :
      RelP K w (.iptr cs off) (.pointer (some ⟨b, o + off, none⟩))
  | imm (cs : List AV) (n : Nat) (cap : Option Nat) (ad : Addr) (c' : Nat) (f : Nat → Value) (hK : cs ≠ [] → ad.spot = none ∧ K ad.block) (hn : n ≤ c') (hcap : ∀ c, cap = some c → c' = c)
      (hone : ∀ (j : Nat) (a : AV), cs[j]? = some a → a.one = true)
      (hc : ∀ j, j < cs.length → w.cell? ⟨ad.block, ad.off + j, none⟩ = some (f j)) (hr : ∀ (j : Nat) (a : AV), cs[j]? = some a → RelP K w a (f j)) :
      RelP K w (.imm cs n cap) (.slice (some ad) n c')
  | agg (cs : List AV) (vs : Array Value) (hl : cs.length = vs.size) (hone : ∀ (j : Nat) (a : AV), cs[j]? = some a → a.one = true)
      (hr : ∀ (j : Nat) (a : AV) (v : Value), cs[j]? = some a → vs[j]? = some v → RelP K w a v) : RelP K w (.agg cs) (.agg vs)
  | tup (cs : List AV) (vs : Array Value) (hl : cs.length = vs.size) (hr : ∀ (j : Nat) (a : AV) (v : Value), cs[j]? = some a → vs[j]? = some v → RelP K w a v) :
      RelP K w (.tup cs) (.tuple vs)

inductive RelV (φ : Phi) (K : Nat → Prop) (w : World) : AV → Value → Prop where
  | pure {a : AV} {v : Value} (h : RelP K w a v) : RelV φ K w a v
  | ptr (id g off b base : Nat) (h : φ id g = some (b, base)) : RelV φ K w (.ptr id g off) (.pointer (some ⟨b, base + off, none⟩))
  | ref (id g off es len cap : Nat) (ex : Bool) (b base : Nat) (ad : Addr) (c' : Nat) (h : φ id g = some (b, base)) (hl : len ≤ cap) (hc : cap ≤ c') (hex : ex = true → c' = cap)
      (had : c' ≠ 0 → ad = ⟨b, base + off, none⟩ ∧ ∃ (c : Array Value) (e : TypeId) (fr : Nat × Nat), w.heap[b]? = some (Obj.cells c e fr) ∧ base + off + c' * es ≤ c.size) :
      RelV φ K w (.ref id g off es len cap ex) (.slice (some ad) len c')
  | agg (cs : List AV) (vs : Array Value) (hl : cs.length = vs.size) (hone : ∀ (j : Nat) (a : AV), cs[j]? = some a → a.one = true)
      (hr : ∀ (j : Nat) (a : AV) (v : Value), cs[j]? = some a → vs[j]? = some v → RelV φ K w a v) : RelV φ K w (.agg cs) (.agg vs)
  | tup (cs : List AV) (vs : Array Value) (hl : cs.length = vs.size) (hr : ∀ (j : Nat) (a : AV) (v : Value), cs[j]? = some a → vs[j]? = some v → RelV φ K w a v) :
      RelV φ K w (.tup cs) (.tuple vs)
  | mapr (id b : Nat) (h : φ id 0 = some (b, 0)) : RelV φ K w (.mapr id) (.map (some b))

def gen : AObj → Nat
  | .row g _ => g
  | .map _ => 0

/-- Blocks of objects. -/
def Mut (φ : Phi) (h : HeapF) (b : Nat) : Prop := ∃ id ob base, h id = some ob ∧ φ id (gen ob) = some (b, base)

variable {top : Nat}

/-- A heap, as it stands in a world. `nx` to `top`: the numbers that new objects may take. -/
structure Sim (top : Nat) (φ : Phi) (K : Nat → Prop) (h : HeapF) (nx : Nat) (w : World) : Prop where
  kin : ∀ b, K b → b < w.heap.size ∧ ¬ Mut φ h b
  row : ∀ id g cells, h id = some (.row g cells) → ∃ (b base : Nat) (c : Array Value) (e : TypeId), φ id g = some (b, base) ∧ w.heap[b]? = some (Obj.cells c e (0, 0)) ∧ base + cells.length ≤ c.size ∧
    ∀ (j : Nat) (a : AV), cells[j]? = some a → a.one = true ∧ ∃ v, c[base + j]? = some v ∧ RelV φ K w a v
  map : ∀ id es, h id = some (.map es) → ∃ (b : Nat) (mes : Array MapEntry) (clk : Nat), φ id 0 = some (b, 0) ∧ w.heap[b]? = some (Obj.map mes clk) ∧ es.length = mes.size ∧
    ∀ (j : Nat) (k v : AV), es[j]? = some (k, v) → ∃ me, mes[j]? = some me ∧ RelV φ K w k me.key ∧ RelV φ K w v me.val
  inj : ∀ id id' ob ob' b base base', h id = some ob → h id' = some ob' → φ id (gen ob) = some (b, base) → φ id' (gen ob') = some (b, base') → id = id'
  low : ∀ id ob, h id = some ob → ¬ (nx ≤ id ∧ id < top) ∧ ∀ g, gen ob < g → φ id g = none
  new : ∀ id g, nx ≤ id → id < top → φ id g = none

/-- The world goes on: what stood outside of some blocks stands; rows keep their sizes. -/
structure Ext (M : Nat → Prop) (w w' : World) : Prop where
  size : w.heap.size ≤ w'.heap.size
  same : ∀ b, b < w.heap.size → ¬ M b → w'.heap[b]? = w.heap[b]?
  shape : ∀ (b : Nat) (c : Array Value) (e : TypeId) (fr : Nat × Nat), w.heap[b]? = some (Obj.cells c e fr) → ∃ c' : Array Value, w'.heap[b]? = some (Obj.cells c' e fr) ∧ c'.size = c.size
  os : w'.os = w.os
  tape : w'.tape = w.tape
  output : w'.output = w.output
  fz : ∀ a, w'.frozen? a = w.frozen? a

theorem Ext.refl (M : Nat → Prop) (w : World) : Ext M w w := ⟨Nat.le_refl _, fun _ _ _ => rfl, fun _ c _ _ h => ⟨c, h, rfl⟩, rfl, rfl, rfl, fun _ => rfl⟩
theorem Ext.trans {M M' : Nat → Prop} {w w' w'' : World} (h : Ext M w w') (h' : Ext M' w' w'') (hM : ∀ b, M' b → M b ∨ w.heap.size ≤ b) : Ext M w w'' where
  size := Nat.le_trans h.size h'.size
  same b hb hn := by
    rw [h'.same b (Nat.lt_of_lt_of_le hb h.size) (fun hm => (hM b hm).elim hn (fun hl => Nat.lt_irrefl _ (Nat.lt_of_lt_of_le hb hl))), h.same b hb hn]
  shape b c e fr hb := by
    obtain ⟨c1, h1, hs1⟩ := h.shape b c e fr hb
    obtain ⟨c2, h2, hs2⟩ := h'.shape b c1 e fr h1
    exact ⟨c2, h2, hs2.trans hs1⟩
  os := h'.os.trans h.os
  tape := h'.tape.trans h.tape
  output := h'.output.trans h.output
  fz a := (h'.fz a).trans (h.fz a)
theorem Ext.mono {M M' : Nat → Prop} {w w' : World} (h : Ext M w w') (hM : ∀ b, M b → M' b) : Ext M' w w' :=
  ⟨h.size, fun b hb hn => h.same b hb (fun hm => hn (hM b hm)), h.shape, h.os, h.tape, h.output, h.fz⟩
theorem Ext.drew {M : Nat → Prop} {w w' : World} (h : Ext M w w') : Ext M w w'.drew := ⟨h.size, h.same, h.shape, h.os, h.tape, h.output, h.fz⟩

theorem cell_of {w w' : World} {b : Nat} (h : w'.heap[b]? = w.heap[b]?) (o : Nat) : w'.cell? ⟨b, o, none⟩ = w.cell? ⟨b, o, none⟩ := by simp only [World.cell?, h]

theorem RelP.keep {K K' : Nat → Prop} {w w' : World} (hK : ∀ b, K b → K' b) (hw : ∀ b, K b → w'.heap[b]? = w.heap[b]?) {a : AV} {v : Value} (h : RelP K w a v) : RelP K' w' a v := by
  induction h with
  | bool b => exact .bool b
  | int k n => exact .int k n
  | str s => exact .str s
  | nilp => exact .nilp
  | nils => exact .nils
  | func f => exact .func f
  | iptr cs b o off f hKb hone hc hr ih => exact .iptr cs b o off f (hK b hKb) hone (fun j hj => by rw [cell_of (hw b hKb)]; exact hc j hj) ih
  | imm cs n cap ad c' f hKb hn hcap hone hc hr ih =>
    refine .imm cs n cap ad c' f (fun hne => ⟨(hKb hne).1, hK _ (hKb hne).2⟩) hn hcap hone (fun j hj => ?_) ih
    have hne : cs ≠ [] := by rintro rfl; simp at hj
    rw [cell_of (hw _ (hKb hne).2)]
    exact hc j hj
  | agg cs vs hl hone hr ih => exact .agg cs vs hl hone ih
  | tup cs vs hl hr ih => exact .tup cs vs hl ih

theorem RelV.keep {φ φ' : Phi} {K K' : Nat → Prop} {w w' : World} (hφ : ∀ id g p, φ id g = some p → φ' id g = some p) (hK : ∀ b, K b → K' b) (hw : ∀ b, K b → w'.heap[b]? = w.heap[b]?)
    (hs : ∀ (b : Nat) (c : Array Value) (e : TypeId) (fr : Nat × Nat), w.heap[b]? = some (Obj.cells c e fr) → ∃ c' : Array Value, w'.heap[b]? = some (Obj.cells c' e fr) ∧ c'.size = c.size) {a : AV} {v : Value} (h : RelV φ K w a v) : RelV φ' K' w' a v := by
  induction h with
  | pure h => exact .pure (h.keep hK hw)
  | ptr id g off b base h => exact .ptr id g off b base (hφ _ _ _ h)
  | ref id g off es len cap ex b base ad c' h hl hc hex had =>
    refine .ref id g off es len cap ex b base ad c' (hφ _ _ _ h) hl hc hex (fun h0 => ?_)
    obtain ⟨h1, c, e, fr, h2, h3⟩ := had h0
    obtain ⟨c1, h4, h5⟩ := hs b c e fr h2
    exact ⟨h1, c1, e, fr, h4, by rw [h5]; exact h3⟩
  | agg cs vs hl hone hr ih => exact .agg cs vs hl hone ih
  | tup cs vs hl hr ih => exact .tup cs vs hl ih
  | mapr id b h => exact .mapr id b (hφ _ _ _ h)

/-- One step, or many: what was said of values stays said; the heap stands. -/
structure Goes (top : Nat) (φ : Phi) (K : Nat → Prop) (h : HeapF) (nx : Nat) (w : World) (φ' : Phi) (K' : Nat → Prop) (h' : HeapF) (nx' : Nat) (w' : World) : Prop where
  phi : ∀ id g p, φ id g = some p → φ' id g = some p
  k : ∀ b, K b → K' b
  sim : Sim top φ' K' h' nx' w'
  ext : Ext (Mut φ h) w w'
  mu : ∀ b, Mut φ' h' b → Mut φ h b ∨ w.heap.size ≤ b
  newK : ∀ b, K' b → K b ∨ w.heap.size ≤ b ∨ Mut φ h b
  fr : ∀ id g p, φ' id g = some p → φ id g = some p ∨ (nx ≤ id ∧ id < nx') ∨ (h id).isSome = true
  dom : ∀ id, (h' id).isSome = true → (h id).isSome = true ∨ (nx ≤ id ∧ id < nx')
  nx : nx ≤ nx'

theorem Goes.refl {φ : Phi} {K : Nat → Prop} {h : HeapF} {nx : Nat} {w : World} (s : Sim top φ K h nx w) : Goes top φ K h nx w φ K h nx w :=
  ⟨fun _ _ _ h => h, fun _ h => h, s, Ext.refl _ _, fun _ h => .inl h, fun _ h => .inl h, fun _ _ _ h => .inl h, fun _ h => .inl h, Nat.le_refl _⟩
theorem Goes.trans {φ φ' φ'' : Phi} {K K' K'' : Nat → Prop} {h h' h'' : HeapF} {nx nx' nx'' : Nat} {w w' w'' : World} (g : Goes top φ K h nx w φ' K' h' nx' w') (g' : Goes top φ' K' h' nx' w' φ'' K'' h'' nx'' w'') :
    Goes top φ K h nx w φ'' K'' h'' nx'' w'' where
  phi id gg p hp := g'.phi _ _ _ (g.phi _ _ _ hp)
  k b hb := g'.k b (g.k b hb)
  sim := g'.sim
  ext := g.ext.trans g'.ext g.mu
  mu b hb := (g'.mu b hb).elim (g.mu b) (fun hl => .inr (Nat.le_trans g.ext.size hl))
  newK b hb := by
    rcases g'.newK b hb with h1 | h1 | h1
    · exact g.newK b h1
    · exact .inr (.inl (Nat.le_trans g.ext.size h1))
    · rcases g.mu b h1 with h2 | h2
      · exact .inr (.inr h2)
      · exact .inr (.inl h2)
  fr id gg p hp := by
    have l1 := g.nx
    have l2 := g'.nx
    rcases g'.fr id gg p hp with h1 | h1 | h1
    · rcases g.fr id gg p h1 with h2 | h2 | h2
      · exact .inl h2
      · exact .inr (.inl (by omega))
      · exact .inr (.inr h2)
    · exact .inr (.inl (by omega))
    · rcases g.dom id h1 with h2 | h2
      · exact .inr (.inr h2)
      · exact .inr (.inl (by omega))
  dom id hd := by
    have l1 := g.nx
    have l2 := g'.nx
    rcases g'.dom id hd with h1 | h1
    · rcases g.dom id h1 with h2 | h2
      · exact .inl h2
      · exact .inr (by omega)
    · exact .inr (by omega)
  nx := Nat.le_trans g.nx g'.nx
theorem Goes.val {φ φ' : Phi} {K K' : Nat → Prop} {h h' : HeapF} {nx nx' : Nat} {w w' : World} (s : Sim top φ K h nx w) (g : Goes top φ K h nx w φ' K' h' nx' w') {a : AV} {v : Value} (r : RelV φ K w a v) : RelV φ' K' w' a v :=
  r.keep g.phi g.k (fun b hb => g.ext.same b (s.kin b hb).1 (s.kin b hb).2) g.ext.shape
theorem Goes.valP {φ φ' : Phi} {K K' : Nat → Prop} {h h' : HeapF} {nx nx' : Nat} {w w' : World} (s : Sim top φ K h nx w) (g : Goes top φ K h nx w φ' K' h' nx' w') {a : AV} {v : Value} (r : RelP K w a v) : RelP K' w' a v :=
  r.keep g.k (fun b hb => g.ext.same b (s.kin b hb).1 (s.kin b hb).2)

/-- Two heaps that answer alike are one. -/
theorem Sim.congr {φ : Phi} {K : Nat → Prop} {h h' : HeapF} {nx : Nat} {w : World} (s : Sim top φ K h nx w) (e : ∀ id, h' id = h id) : Sim top φ K h' nx w := by
  obtain rfl : h' = h := funext e
  exact s
/-- only the count of draws has turned -/
theorem Sim.drew {φ : Phi} {K : Nat → Prop} {h : HeapF} {nx : Nat} {w : World} (s : Sim top φ K h nx w) : Sim top φ K h nx w.drew := by
  have hv : ∀ {a : AV} {v : Value}, RelV φ K w a v → RelV φ K w.drew a v := fun r => RelV.keep (w := w) (w' := w.drew) (fun _ _ _ h => h) (fun _ h => h) (fun _ _ => rfl) (fun _ c _ _ h => ⟨c, h, rfl⟩) r
  refine ⟨s.kin, fun id g cells hh => ?_, fun id es hh => ?_, s.inj, s.low, s.new⟩
  · obtain ⟨b, base, c, e, h1, h2, h3, h4⟩ := s.row id g cells hh
    exact ⟨b, base, c, e, h1, h2, h3, fun j a ha => ⟨(h4 j a ha).1, let ⟨v, hv1, hv2⟩ := (h4 j a ha).2; ⟨v, hv1, hv hv2⟩⟩⟩
  · obtain ⟨b, mes, clk, h1, h2, h3, h4⟩ := s.map id es hh
    exact ⟨b, mes, clk, h1, h2, h3, fun j k v hj => let ⟨me, m1, m2, m3⟩ := h4 j k v hj; ⟨me, m1, hv m2, hv m3⟩⟩

/-- A part of the heap. -/
theorem Sim.part {φ : Phi} {K : Nat → Prop} {h h' : HeapF} {nx : Nat} {w : World} (s : Sim top φ K h nx w) (e : ∀ id o, h' id = some o → h id = some o) : Sim top φ K h' nx w :=
  ⟨fun b hb => ⟨(s.kin b hb).1, fun ⟨id, ob, base, h1, h2⟩ => (s.kin b hb).2 ⟨id, ob, base, e _ _ h1, h2⟩⟩, fun id g cells hh => s.row id g cells (e _ _ hh), fun id es hh => s.map id es (e _ _ hh),
    fun id id' ob ob' b base base' h1 h2 => s.inj id id' ob ob' b base base' (e _ _ h1) (e _ _ h2), fun id ob hh => s.low id ob (e _ _ hh), s.new⟩

def upd (h : HeapF) (id : Nat) (ob : Option AObj) : HeapF := fun j => if j = id then ob else h j
theorem upd_same (h : HeapF) (id : Nat) (ob : Option AObj) : upd h id ob id = ob := if_pos rfl
theorem upd_other (h : HeapF) {id j : Nat} (ob : Option AObj) (hne : j ≠ id) : upd h id ob j = h j := if_neg hne

theorem alloc_old (w : World) (ob : Obj) {b : Nat} (h : b < w.heap.size) : (w.alloc ob).heap[b]? = w.heap[b]? := by
  show (w.heap.push ob)[b]? = _
  rw [Array.getElem?_push, if_neg (by omega)]
theorem alloc_at (w : World) (ob : Obj) : (w.alloc ob).heap[w.heap.size]? = some ob := by
  show (w.heap.push ob)[w.heap.size]? = _
  rw [Array.getElem?_push, if_pos rfl]

/-- A new object, in a new block. -/
theorem goes_new {φ : Phi} {K : Nat → Prop} {h : HeapF} {nx : Nat} {w : World} (s : Sim top φ K h nx w) (htop : nx < top) (cells : List AV) (c : Array Value) (e : TypeId) (hl : cells.length ≤ c.size)
    (hone : ∀ (j : Nat) (a : AV), cells[j]? = some a → a.one = true) (hr : ∀ (j : Nat) (a : AV), cells[j]? = some a → ∃ v, c[j]? = some v ∧ RelV φ K w a v) :
    Goes top φ K h nx w (fun id g => if id = nx ∧ g = 0 then some (w.heap.size, 0) else φ id g) K (upd h nx (some (.row 0 cells))) (nx + 1) (w.alloc (.cells c e)) := by
  have hphi : ∀ id g p, φ id g = some p → (if id = nx ∧ g = 0 then some (w.heap.size, 0) else φ id g) = some p := by
    intro id g p hp
    rw [if_neg]
    · exact hp
    · rintro ⟨rfl, rfl⟩
      rw [s.new _ _ (Nat.le_refl _) htop] at hp
      cases hp
  have hsame : ∀ b, b < w.heap.size → (w.alloc (.cells c e)).heap[b]? = w.heap[b]? := fun b hb => alloc_old w _ hb
  have hshape : ∀ (b : Nat) (c0 : Array Value) (e0 : TypeId) (fr : Nat × Nat), w.heap[b]? = some (Obj.cells c0 e0 fr) → ∃ c' : Array Value, (w.alloc (.cells c e)).heap[b]? = some (Obj.cells c' e0 fr) ∧ c'.size = c0.size := by
    intro b c0 e0 fr hb
    have hlt : b < w.heap.size := (Array.getElem?_eq_some_iff.1 hb).1
    exact ⟨c0, by rw [hsame b hlt]; exact hb, rfl⟩
  have hval : ∀ {a : AV} {v : Value}, RelV φ K w a v → RelV (fun id g => if id = nx ∧ g = 0 then some (w.heap.size, 0) else φ id g) K (w.alloc (.cells c e)) a v :=
    fun r => r.keep hphi (fun _ h => h) (fun b hb => hsame b (s.kin b hb).1) hshape
  have hold : ∀ id ob, h id = some ob → id ≠ nx := fun id ob hh he => by have := (s.low id ob hh).1; omega
  have hmut : ∀ b, Mut (fun id g => if id = nx ∧ g = 0 then some (w.heap.size, 0) else φ id g) (upd h nx (some (.row 0 cells))) b → Mut φ h b ∨ w.heap.size ≤ b := by
    rintro b ⟨id, ob, base, h1, h2⟩
    by_cases hid : id = nx
    · subst hid
      rw [upd_same] at h1
      cases h1
      simp [gen] at h2
      omega
    · rw [upd_other _ _ hid] at h1
      simp only [hid, false_and, if_false] at h2
      exact .inl ⟨id, ob, base, h1, h2⟩
  have hlow : ∀ id ob b base, h id = some ob → φ id (gen ob) = some (b, base) → b < w.heap.size := by
    intro id ob b base hh hp
    cases ob with
    | row g cells' =>
      obtain ⟨b1, base1, c1, e1, h1, h2, _⟩ := s.row id g cells' hh
      simp only [gen] at hp
      rw [h1] at hp
      cases hp
      exact (Array.getElem?_eq_some_iff.1 h2).1
    | map es =>
      obtain ⟨b1, mes, clk, h1, h2, _⟩ := s.map id es hh
      simp only [gen] at hp
      rw [h1] at hp
      cases hp
      exact (Array.getElem?_eq_some_iff.1 h2).1
  refine ⟨hphi, fun _ h => h, ⟨fun b hb => ⟨?_, fun hm => ?_⟩, fun id g cells' hh => ?_, fun id es hh => ?_, fun id id' ob ob' b base base' h1 h2 p1 p2 => ?_, fun id ob hh => ?_, fun id g hid => ?_⟩,
    ⟨by rw [World.size_alloc]; omega, fun b hb _ => hsame b hb, hshape, rfl, rfl, rfl, fun a => RowKit.frozen?_alloc_cells w c e a⟩, hmut, fun _ h => .inl h, fun id g p hp => ?_, fun id hd => ?_, Nat.le_succ _⟩
  · have := (s.kin b hb).1
    rw [World.size_alloc]
    omega
  · rcases hmut b hm with h1 | h1
    · exact (s.kin b hb).2 h1
    · have := (s.kin b hb).1; omega
  · by_cases hid : id = nx
    · subst hid
      rw [upd_same] at hh
      cases hh
      refine ⟨w.heap.size, 0, c, e, by simp, alloc_at w _, by omega, fun j a ha => ⟨hone j a ha, ?_⟩⟩
      obtain ⟨v, hv1, hv2⟩ := hr j a ha
      exact ⟨v, by simpa using hv1, hval hv2⟩
    · rw [upd_other _ _ hid] at hh
      obtain ⟨b, base, c1, e1, h1, h2, h3, h4⟩ := s.row id g cells' hh
      refine ⟨b, base, c1, e1, hphi _ _ _ h1, by rw [hsame b (Array.getElem?_eq_some_iff.1 h2).1]; exact h2, h3, fun j a ha => ⟨(h4 j a ha).1, ?_⟩⟩
      obtain ⟨v, hv1, hv2⟩ := (h4 j a ha).2
      exact ⟨v, hv1, hval hv2⟩
  · by_cases hid : id = nx
    · subst hid
      rw [upd_same] at hh
      cases hh
    · rw [upd_other _ _ hid] at hh
      obtain ⟨b, mes, clk, h1, h2, h3, h4⟩ := s.map id es hh
      refine ⟨b, mes, clk, hphi _ _ _ h1, by rw [hsame b (Array.getElem?_eq_some_iff.1 h2).1]; exact h2, h3, fun j k v hj => ?_⟩
      obtain ⟨me, m1, m2, m3⟩ := h4 j k v hj
      exact ⟨me, m1, hval m2, hval m3⟩
  · by_cases hid : id = nx
    · by_cases hid' : id' = nx
      · omega
      · subst hid
        rw [upd_same] at h1
        cases h1
        rw [upd_other _ _ hid'] at h2
        simp [gen] at p1
        simp only [hid', false_and, if_false] at p2
        have := hlow id' ob' b base' h2 p2
        omega
    · rw [upd_other _ _ hid] at h1
      simp only [hid, false_and, if_false] at p1
      by_cases hid' : id' = nx
      · subst hid'
        rw [upd_same] at h2
        cases h2
        simp [gen] at p2
        have := hlow id ob b base h1 p1
        omega
      · rw [upd_other _ _ hid'] at h2
        simp only [hid', false_and, if_false] at p2
        exact s.inj id id' ob ob' b base base' h1 h2 p1 p2
  · by_cases hid : id = nx
    · subst hid
      rw [upd_same] at hh
      cases hh
      refine ⟨by omega, fun g hg => ?_⟩
      simp only [gen] at hg
      rw [if_neg (by omega)]
      exact s.new _ _ (Nat.le_refl _) htop
    · rw [upd_other _ _ hid] at hh
      refine ⟨by have := (s.low id ob hh).1; omega, fun g hg => ?_⟩
      rw [if_neg (by omega)]
      exact (s.low id ob hh).2 g hg
  · intro ht
    show (if id = nx ∧ g = 0 then _ else _) = _
    rw [if_neg (by omega)]
    exact s.new _ _ (by omega) ht
  · by_cases hc : id = nx ∧ g = 0
    · exact .inr (.inl (by omega))
    · exact .inl (by rwa [if_neg hc] at hp)
  · by_cases hid : id = nx
    · exact .inr (by omega)
    · rw [upd_other _ _ hid] at hd
      exact .inl hd

theorem place_lt {φ : Phi} {K : Nat → Prop} {h : HeapF} {nx : Nat} {w : World} (s : Sim top φ K h nx w) {id : Nat} {ob : AObj} {b base : Nat} (hh : h id = some ob) (hp : φ id (gen ob) = some (b, base)) : b < w.heap.size := by
  cases ob with
  | row g cells' =>
    obtain ⟨b1, base1, c1, e1, h1, h2, _⟩ := s.row id g cells' hh
    simp only [gen] at hp
    rw [h1] at hp
    cases hp
    exact (Array.getElem?_eq_some_iff.1 h2).1
  | map es =>
    obtain ⟨b1, mes, clk, h1, h2, _⟩ := s.map id es hh
    simp only [gen] at hp
    rw [h1] at hp
    cases hp
    exact (Array.getElem?_eq_some_iff.1 h2).1

theorem frozen_setRow (w : World) {b : Nat} {c : Array Value} {e : TypeId} {fr : Nat × Nat} (hb : w.heap[b]? = some (.cells c e fr)) (c' : Array Value) (a : Addr) : (w.setRow b c').frozen? a = w.frozen? a := by
  by_cases h : a.block = b
  · have h1 := setRow_heap w b c c' e fr hb
    rw [← h] at h1 hb
    simp only [World.frozen?, h, h1, hb]
    rw [h] at h1 hb
    rw [h1, hb]
  · exact World.frozen?_of_block (setRow_other w b _ c' h)

/-- An object's row is another one: written in its place, or grown (in its block, or in a new one). -/
theorem goes_obj {φ φ' : Phi} {K : Nat → Prop} {h : HeapF} {nx : Nat} {w w' : World} (s : Sim top φ K h nx w) {id : Nat} {g : Nat} {cells : List AV} (hh : h id = some (.row g cells)) {b base : Nat} (hb : φ id g = some (b, base))
    (g' : Nat) (cells' : List AV) (b' base' : Nat) (c' : Array Value) (e' : TypeId) (hφ : ∀ i gg, φ' i gg = if i = id ∧ gg = g' then some (b', base') else φ i gg)
    (hg : (g' = g ∧ b' = b ∧ base' = base) ∨ g < g') (hb' : b' = b ∨ b' = w.heap.size)
    (hw : w'.heap[b']? = some (.cells c' e' (0, 0))) (hot : ∀ i, i < w.heap.size → i ≠ b' → w'.heap[i]? = w.heap[i]?) (hsz : w.heap.size ≤ w'.heap.size)
    (hshape : ∀ (c : Array Value) (e : TypeId) (fr : Nat × Nat), w.heap[b']? = some (Obj.cells c e fr) → e' = e ∧ fr = (0, 0) ∧ c'.size = c.size)
    (hfz : ∀ a, w'.frozen? a = w.frozen? a) (hos : w'.os = w.os) (htape : w'.tape = w.tape) (hout : w'.output = w.output) (hl : base' + cells'.length ≤ c'.size)
    (hr : ∀ (j : Nat) (a : AV), cells'[j]? = some a → a.one = true ∧ ∃ v, c'[base' + j]? = some v ∧ RelV φ K w a v) :
    Goes top φ K h nx w φ' K (upd h id (some (.row g' cells'))) nx w' := by
  have hphi : ∀ i gg p, φ i gg = some p → φ' i gg = some p := by
    intro i gg p hp
    rw [hφ]
    by_cases hc : i = id ∧ gg = g'
    · obtain ⟨rfl, rfl⟩ := hc
      rw [if_pos ⟨rfl, rfl⟩]
      rcases hg with ⟨rfl, rfl, rfl⟩ | hg
      · rw [hb] at hp; exact hp
      · rw [(s.low _ _ hh).2 gg (by simpa [gen] using hg)] at hp; cases hp
    · rw [if_neg hc]; exact hp
  have hblt : b < w.heap.size := place_lt s hh (by simpa [gen] using hb)
  have hmutb : Mut φ h b := ⟨id, _, base, hh, by simpa [gen] using hb⟩
  have hshape' : ∀ (i : Nat) (c : Array Value) (e : TypeId) (fr : Nat × Nat), w.heap[i]? = some (Obj.cells c e fr) → ∃ c1 : Array Value, w'.heap[i]? = some (Obj.cells c1 e fr) ∧ c1.size = c.size := by
    intro i c e fr hi
    have hlt : i < w.heap.size := (Array.getElem?_eq_some_iff.1 hi).1
    by_cases hib : i = b'
    · subst hib
      obtain ⟨rfl, rfl, hs⟩ := hshape c e fr hi
      exact ⟨c', hw, hs⟩
    · exact ⟨c, by rw [hot i hlt hib]; exact hi, rfl⟩
  have hKb : ∀ i, K i → i ≠ b' := by
    intro i hi hib
    subst hib
    rcases hb' with rfl | rfl
    · exact (s.kin _ hi).2 hmutb
    · exact Nat.lt_irrefl _ (s.kin _ hi).1
  have hval : ∀ {a : AV} {v : Value}, RelV φ K w a v → RelV φ' K w' a v :=
    fun r => RelV.keep hphi (fun _ h => h) (fun i hi => hot i (s.kin i hi).1 (hKb i hi)) hshape' r
  have hplace : ∀ i ob p, i ≠ id → h i = some ob → φ' i (gen ob) = some p → φ i (gen ob) = some p := by
    intro i ob p hne _ hp
    rw [hφ, if_neg (fun hc => hne hc.1)] at hp
    exact hp
  have hne' : ∀ i ob base1, i ≠ id → h i = some ob → φ i (gen ob) = some (b', base1) → False := by
    intro i ob base1 hne hi hp
    rcases hb' with rfl | rfl
    · exact hne (s.inj i id ob _ _ base1 base hi hh hp (by simpa [gen] using hb))
    · exact Nat.lt_irrefl _ (place_lt s hi hp)
  have hmut : ∀ i, Mut φ' (upd h id (some (.row g' cells'))) i → Mut φ h i ∨ w.heap.size ≤ i := by
    rintro i ⟨id1, ob, base1, h1, h2⟩
    by_cases hid : id1 = id
    · subst hid
      rw [upd_same] at h1
      cases h1
      simp only [gen] at h2
      rw [hφ, if_pos ⟨rfl, rfl⟩] at h2
      cases h2
      rcases hb' with rfl | rfl
      · exact .inl hmutb
      · exact .inr (Nat.le_refl _)
    · rw [upd_other _ _ hid] at h1
      exact .inl ⟨id1, ob, base1, h1, hplace _ _ _ hid h1 h2⟩
  refine ⟨hphi, fun _ h => h, ⟨fun i hi => ⟨Nat.lt_of_lt_of_le (s.kin i hi).1 hsz, fun hm => ?_⟩, fun id1 g1 cells1 h1 => ?_, fun id1 es h1 => ?_, fun id1 id2 ob1 ob2 i base1 base2 h1 h2 p1 p2 => ?_, fun id1 ob h1 => ?_, fun id1 gg hid => ?_⟩,
    ⟨hsz, fun i hi hn => hot i hi ?_, hshape', hos, htape, hout, hfz⟩, hmut, fun _ h => .inl h, fun i gg p hp => ?_, fun i hd => ?_, Nat.le_refl _⟩
  · rcases hmut i hm with h1 | h1
    · exact (s.kin i hi).2 h1
    · exact Nat.lt_irrefl _ (Nat.lt_of_lt_of_le (s.kin i hi).1 h1)
  · by_cases hid : id1 = id
    · subst hid
      rw [upd_same] at h1
      cases h1
      refine ⟨b', base', c', e', by rw [hφ, if_pos ⟨rfl, rfl⟩], hw, hl, fun j a ha => ⟨(hr j a ha).1, ?_⟩⟩
      obtain ⟨v, hv1, hv2⟩ := (hr j a ha).2
      exact ⟨v, hv1, hval hv2⟩
    · rw [upd_other _ _ hid] at h1
      obtain ⟨b1, base1, c1, e1, h2, h3, h4, h5⟩ := s.row id1 g1 cells1 h1
      have hne1 : b1 ≠ b' := fun he => hne' id1 _ base1 hid h1 (by subst he; simpa [gen] using h2)
      refine ⟨b1, base1, c1, e1, hphi _ _ _ h2, by rw [hot b1 (Array.getElem?_eq_some_iff.1 h3).1 hne1]; exact h3, h4, fun j a ha => ⟨(h5 j a ha).1, ?_⟩⟩
      obtain ⟨v, hv1, hv2⟩ := (h5 j a ha).2
      exact ⟨v, hv1, hval hv2⟩
  · by_cases hid : id1 = id
    · subst hid
      rw [upd_same] at h1
      cases h1
    · rw [upd_other _ _ hid] at h1
      obtain ⟨b1, mes, clk, h2, h3, h4, h5⟩ := s.map id1 es h1
      have hne1 : b1 ≠ b' := fun he => hne' id1 _ 0 hid h1 (by subst he; simpa [gen] using h2)
      refine ⟨b1, mes, clk, hphi _ _ _ h2, by rw [hot b1 (Array.getElem?_eq_some_iff.1 h3).1 hne1]; exact h3, h4, fun j k v hj => ?_⟩
      obtain ⟨me, m1, m2, m3⟩ := h5 j k v hj
      exact ⟨me, m1, hval m2, hval m3⟩
  · by_cases hid1 : id1 = id
    · by_cases hid2 : id2 = id
      · omega
      · exfalso
        subst hid1
        rw [upd_same] at h1
        cases h1
        rw [upd_other _ _ hid2] at h2
        simp only [gen] at p1
        rw [hφ, if_pos ⟨rfl, rfl⟩] at p1
        cases p1
        exact hne' id2 ob2 base2 hid2 h2 (hplace _ _ _ hid2 h2 p2)
    · by_cases hid2 : id2 = id
      · exfalso
        subst hid2
        rw [upd_same] at h2
        cases h2
        rw [upd_other _ _ hid1] at h1
        simp only [gen] at p2
        rw [hφ, if_pos ⟨rfl, rfl⟩] at p2
        cases p2
        exact hne' id1 ob1 base1 hid1 h1 (hplace _ _ _ hid1 h1 p1)
      · rw [upd_other _ _ hid1] at h1
        rw [upd_other _ _ hid2] at h2
        exact s.inj id1 id2 ob1 ob2 i base1 base2 h1 h2 (hplace _ _ _ hid1 h1 p1) (hplace _ _ _ hid2 h2 p2)
  · by_cases hid : id1 = id
    · subst hid
      rw [upd_same] at h1
      cases h1
      refine ⟨(s.low _ _ hh).1, fun gg hgg => ?_⟩
      simp only [gen] at hgg
      rw [hφ, if_neg (by omega)]
      refine (s.low _ _ hh).2 gg ?_
      simp only [gen]
      omega
    · rw [upd_other _ _ hid] at h1
      refine ⟨(s.low id1 ob h1).1, fun gg hgg => ?_⟩
      rw [hφ, if_neg (fun hc => hid hc.1)]
      exact (s.low id1 ob h1).2 gg hgg
  · intro ht
    rw [hφ, if_neg]
    · exact s.new id1 gg hid ht
    · rintro ⟨rfl, rfl⟩
      exact (s.low _ _ hh).1 ⟨hid, ht⟩
  · rintro rfl
    rcases hb' with rfl | rfl
    · exact hn hmutb
    · exact Nat.lt_irrefl _ hi
  · by_cases hc : i = id ∧ gg = g'
    · rw [hc.1, hh]; exact .inr (.inr rfl)
    · rw [hφ, if_neg hc] at hp; exact .inl hp
  · by_cases hid : i = id
    · rw [hid, hh]; exact .inl rfl
    · rw [upd_other _ _ hid] at hd; exact .inl hd
end Go.Ax
