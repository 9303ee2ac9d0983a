/- Each operation of the interpreter is what the machine does: the operations without a call. -/
import Derived.Test.YtamgnhdbeecapaaAx2
set_option linter.unusedSimpArgs false
set_option linter.unusedVariables false
namespace Go.Ax

/-! ### 1. Heaps as functions -/
noncomputable def fetchF (h : HeapF) : Option Rng → Option (List AV)
  | none => some []
  | some r => match h r.id with
    | some (.row g cells) => bif Nat.beq g r.g then cut cells r.off r.len else none
    | _ => none
def fetchOF (h : HeapF) : Option Nat → Option (Option AObj)
  | none => some none
  | some id => match h id with
    | some o => some (some o)
    | none => none
def setF (h : HeapF) (u : Option Nat) (ob : Option AObj) : HeapF := match ob with
  | none => h
  | some ob => match u with
    | some id => upd h id (some ob)
    | none => h
noncomputable def runF (p : Plan) (h : HeapF) (nx : Nat) : Option (AV × HeapF × Nat) := match p with
  | .val v => some (v, h, nx)
  | .new f o => some (f nx, upd h nx (some o), nx + 1)
  | .look q u k => match fetchF h q with
    | none => none
    | some a => match fetchOF h u with
      | none => none
      | some o => match k a o with
        | none => none
        | some out => match out.new with
          | some ob => some (out.val nx, upd (setF h u out.obj) nx (some ob), nx + 1)
          | none => some (out.val nx, setF h u out.obj, nx)

theorem get_put_upd (H : Heap) (id : Nat) (ob : Option AObj) : (H.put ob id).get = upd H.get id ob := by
  funext j
  rw [Map.get_put]
  rfl
theorem fetch_F (H : Heap) (q : Option Rng) : fetch H q = fetchF H.get q := by cases q <;> rfl
theorem fetchO_F (H : Heap) (u : Option Nat) : fetchO H u = fetchOF H.get u := by cases u <;> rfl
theorem setO_F (H : Heap) (u : Option Nat) (ob : Option AObj) : (setO H u ob).get = setF H.get u ob := by
  cases ob with
  | none => rfl
  | some ob => cases u with
    | none => rfl
    | some id => exact get_put_upd H id _
theorem runPlan_F {p : Plan} {H H' : Heap} {nx nx' : Nat} {v : AV} (hr : runPlan p H nx = some (v, H', nx')) : runF p H.get nx = some (v, H'.get, nx') := by
  cases p with
  | val v => cases hr; rfl
  | new f o => cases hr; rw [get_put_upd]; rfl
  | look q u k =>
    simp only [runPlan, runLook, fetch_F, fetchO_F] at hr
    simp only [runF]
    cases hq : fetchF H.get q with
    | none => rw [hq] at hr; cases hr
    | some a =>
      rw [hq] at hr
      simp only at hr ⊢
      cases hu : fetchOF H.get u with
      | none => rw [hu] at hr; cases hr
      | some o =>
        rw [hu] at hr
        simp only at hr ⊢
        cases hk : k a o with
        | none => rw [hk] at hr; cases hr
        | some out =>
          rw [hk] at hr
          simp only at hr ⊢
          cases hn : out.new with
          | none => rw [hn] at hr; cases hr; simp only [setO_F]
          | some ob => rw [hn] at hr; cases hr; simp only [get_put_upd, setO_F]

/-! ### 2. What is to be shown of an operation -/
/-- The machine's operation comes to what the plan says. -/
def Sound (top : Nat) (P : Program) (φ : Phi) (K : Nat → Prop) (h : HeapF) (nx : Nat) (w : World) (ρc : Operand → Value) (o : Oper) (p : Plan) : Prop :=
  ∀ v h' nx', runF p h nx = some (v, h', nx') → nx' ≤ top → ∃ V w' φ' K', ((execOp ρc o).run P w = .ok (.value V) w' ∨ ((execOp ρc o).run P w = .ok .skip w' ∧ V = undef)) ∧ Goes top φ K h nx w φ' K' h' nx' w' ∧ RelV φ' K' w' v V

def mVal : Value → AV → Bool
  | .bool a, .bool b => a == b
  | .int k n, .int k' n' => eqK k k' && eqA n n'
  | .string s, .str s' => s.data.toList == s'.data.toList
  | .slice none 0 0, .nils => true
  | .pointer none, .nilp => true
  | _, _ => false
def mVals : List Value → List AV → Bool
  | [], [] => true
  | v :: vs, a :: as => mVal v a && mVals vs as
  | _, _ => false
def mOpd : Operand → Opd → Bool
  | .tmp n, .t m => Nat.beq n m
  | .const v, .c a => mVal v a
  | .func f, .c (.func g) => Nat.beq f g
  | _, _ => false
def mOpds : List Operand → List Opd → Bool
  | [], [] => true
  | v :: vs, a :: as => mOpd v a && mOpds vs as
  | _, _ => false
def mOpt : Option Operand → Option Opd → Bool
  | none, none => true
  | some x, some y => mOpd x y
  | _, _ => false

theorem mVal_rel {v : Value} {a : AV} (h : mVal v a = true) (K : Nat → Prop) (w : World) : RelP K w a v ∧ a.one = true ∧ v.oneCell' = true := by
  unfold mVal at h
  split at h
  · simp at h; subst h; exact ⟨.bool _, rfl, rfl⟩
  · simp [eqA_eq] at h; obtain ⟨h1, rfl⟩ := h; have := eqK_eq h1; subst this; exact ⟨.int _ _, rfl, rfl⟩
  · rename_i s s'
    have e : s = s' := by
      cases s; cases s'
      simp at h
      simp [h]
    subst e; exact ⟨.str _, rfl, rfl⟩
  · exact ⟨.nils, rfl, rfl⟩
  · exact ⟨.nilp, rfl, rfl⟩
  · cases h

theorem mVals_rel {vs : List Value} {as : List AV} (h : mVals vs as = true) (K : Nat → Prop) (w : World) :
    as.length = vs.length ∧ (∀ (j : Nat) (a : AV), as[j]? = some a → a.one = true ∧ ∃ v, vs[j]? = some v ∧ RelP K w a v) ∧ ∀ v ∈ vs, v.oneCell' = true := by
  induction vs generalizing as with
  | nil => cases as with
    | nil => exact ⟨rfl, fun j a ha => by simp at ha, fun v hv => by cases hv⟩
    | cons a as => cases h
  | cons v vs ih => cases as with
    | nil => cases h
    | cons a as =>
      simp only [mVals, Bool.and_eq_true] at h
      obtain ⟨h1, h2, h3⟩ := ih h.2
      obtain ⟨r1, r2, r3⟩ := mVal_rel h.1 K w
      refine ⟨by simp [h1], fun j a' ha' => ?_, fun v' hv' => ?_⟩
      · cases j with
        | zero => simp at ha'; subst ha'; exact ⟨r2, v, rfl, r1⟩
        | succ j => simpa using h2 j a' (by simpa using ha')
      · rcases List.mem_cons.1 hv' with rfl | hm
        · exact r3
        · exact h3 v' hm

/-! ### 3. Memory -/
section
variable {top : Nat} {P : Program} {φ : Phi} {K : Nat → Prop} {h : HeapF} {nx : Nat} {w : World}

theorem one_of {a : AV} {v : Value} (r : RelV φ K w a v) (h1 : a.one = true) : v.oneCell' = true := by
  cases r with
  | pure r => cases r <;> first | rfl | cases h1
  | agg => cases h1
  | tup => cases h1
  | _ => rfl

/-- Cells that are fetched stand in the world. -/
theorem fetch_cells (s : Sim top φ K h nx w) {id g off n : Nat} {cs : List AV} (hf : fetchF h (some ⟨id, g, off, n⟩) = some cs) :
    ∃ (b base : Nat) (c : Array Value) (e : TypeId), φ id g = some (b, base) ∧ w.heap[b]? = some (.cells c e (0, 0)) ∧ base + (off + n) ≤ c.size ∧ cs.length = n ∧
      ∀ (j : Nat) (a : AV), cs[j]? = some a → a.one = true ∧ ∃ v, c[base + off + j]? = some v ∧ RelV φ K w a v := by
  simp only [fetchF] at hf
  cases hh : h id with
  | none => rw [hh] at hf; cases hf
  | some ob =>
    rw [hh] at hf
    cases ob with
    | map es => cases hf
    | row g' cells =>
      simp only [cond_eq_ite, Nat.beq_eq] at hf
      split at hf
      · rename_i hg
        subst hg
        obtain ⟨b, base, c, e, h1, h2, h3, h4⟩ := s.row id g' cells hh
        obtain ⟨hl, hat⟩ := cut_at hf
        have hfit := (cut_some hf).1
        refine ⟨b, base, c, e, h1, h2, by omega, hl, fun j a ha => ?_⟩
        have hj : j < n := by
          rcases Nat.lt_or_ge j cs.length with hj | hj
          · omega
          · rw [List.getElem?_eq_none hj] at ha; cases ha
        rw [hat j hj] at ha
        obtain ⟨h5, v, h6, h7⟩ := h4 (off + j) a ha
        exact ⟨h5, v, by rw [← h6, Nat.add_assoc], h7⟩
      · cases hf

theorem cell_at {b o : Nat} {c : Array Value} {e : TypeId} {fr : Nat × Nat} (hb : w.heap[b]? = some (.cells c e fr)) : w.cell? ⟨b, o, none⟩ = c[o]? := by
  simp [World.cell?, hb]

/-- The first n cells behind an address, as a list. -/
def listAt (c : Array Value) (o n : Nat) : List Value := (List.range n).map fun j => c.getD (o + j) undef
theorem listAt_length (c : Array Value) (o n : Nat) : (listAt c o n).length = n := by simp [listAt]
theorem listAt_get (c : Array Value) (o n j : Nat) (hj : j < n) (hc : o + j < c.size) : (listAt c o n)[j]? = c[o + j]? := by
  simp [listAt, hj, Array.getElem?_eq_getElem hc]

theorem run_load_at {b : Nat} {c : Array Value} (hb : ∃ (e : TypeId) (fr : Nat × Nat), w.heap[b]? = some (Obj.cells c e fr)) (o n : Nat) (hn : o + n ≤ c.size) : (loadCells ⟨b, o, none⟩ n).run P w = .ok (listAt c o n).toArray w := by
  obtain ⟨e, fr, hb⟩ := hb
  rw [run_loadCells w ⟨b, o, none⟩ n (fun j => c.getD (o + j) undef)]
  · rfl
  · intro j hj
    have hlt : o + j < c.size := by omega
    rw [Addr.add_lit, cell_at hb]
    simp [Array.getElem?_eq_getElem hlt]

/-- a list of cells of the world, related to abstract cells -/
theorem listAt_rel {c : Array Value} {o n : Nat} {cs : List AV} (hl : cs.length = n) (hn : o + n ≤ c.size) (R : AV → Value → Prop) (hr : ∀ (j : Nat) (a : AV), cs[j]? = some a → ∃ v, c[o + j]? = some v ∧ R a v) :
    ∀ (j : Nat) (a : AV) (v : Value), cs[j]? = some a → (listAt c o n)[j]? = some v → R a v := by
  intro j a v ha hv
  have hj : j < n := by
    rcases Nat.lt_or_ge j cs.length with hj | hj
    · omega
    · rw [List.getElem?_eq_none hj] at ha; cases ha
  obtain ⟨v', h1, h2⟩ := hr j a ha
  rw [listAt_get c o n j hj (by omega), h1] at hv
  cases hv
  exact h2

/-- An object is written in its place. -/
theorem goes_over (s : Sim top φ K h nx w) {id g : Nat} {cells cells' cs : List AV} {off b base : Nat} {c : Array Value} {e : TypeId} (hh : h id = some (.row g cells)) (hb : φ id g = some (b, base))
    (hc : w.heap[b]? = some (.cells c e (0, 0))) (hfit : base + cells.length ≤ c.size) (hcells : ∀ (j : Nat) (a : AV), cells[j]? = some a → a.one = true ∧ ∃ v, c[base + j]? = some v ∧ RelV φ K w a v)
    (ho : over cells off cs = some cells') (vs : List Value) (hvl : vs.length = cs.length)
    (hrel : ∀ (j : Nat) (a : AV) (v : Value), cs[j]? = some a → vs[j]? = some v → RelV φ K w a v) (hone : ∀ (j : Nat) (a : AV), cs[j]? = some a → a.one = true) :
    Goes top φ K h nx w φ K (upd h id (some (.row g cells'))) nx (w.setRow b (c.toList.take (base + off) ++ vs ++ c.toList.drop (base + off + vs.length)).toArray) := by
  obtain ⟨hl', hat⟩ := over_at ho
  have hof := (over_some ho).1
  have hsize : (c.toList.take (base + off) ++ vs ++ c.toList.drop (base + off + vs.length)).toArray.size = c.size := by
    simp
    omega
  have hblt : b < w.heap.size := (Array.getElem?_eq_some_iff.1 hc).1
  refine goes_obj s hh hb g cells' b base _ e (fun i gg => ?_) (.inl ⟨rfl, rfl, rfl⟩) (.inl rfl) (setRow_heap w b c _ e (0, 0) hc) (fun i hi hne => setRow_other w b i _ hne) (by simp [World.setRow]) ?_ (fun a => frozen_setRow w hc _ a) rfl rfl rfl (by rw [hsize, hl']; exact hfit) ?_
  · split
    · rename_i hc'; obtain ⟨rfl, rfl⟩ := hc'; exact hb
    · rfl
  · intro c1 e1 fr1 h1
    rw [hc] at h1
    cases h1
    exact ⟨rfl, rfl, hsize⟩
  · intro j a ha
    rw [hat j] at ha
    by_cases hin : off ≤ j ∧ j < off + cs.length
    · rw [if_pos hin] at ha
      refine ⟨hone _ a ha, ?_⟩
      have hj : j - off < vs.length := by omega
      refine ⟨vs[j - off], ?_, hrel _ a _ ha (List.getElem?_eq_getElem hj)⟩
      simp only [List.getElem?_toArray]
      rw [List.getElem?_append_left (by simp; omega), List.getElem?_append_right (by simp; omega)]
      simp only [List.length_take, Array.length_toList]
      rw [List.getElem?_eq_getElem (by omega)]
      congr 1
      congr 1
      omega
    · rw [if_neg hin] at ha
      obtain ⟨h1, v, h2, h3⟩ := hcells j a ha
      refine ⟨h1, v, ?_, h3⟩
      rw [← h2]
      simp only [List.getElem?_toArray]
      by_cases hlo : j < off
      · rw [List.getElem?_append_left (by simp; omega), List.getElem?_append_left (by simp; omega), List.getElem?_take_of_lt (by omega), Array.getElem?_toList]
      · rw [List.getElem?_append_right (by simp; omega), List.getElem?_drop]
        simp only [List.length_append, List.length_take, Array.length_toList]
        rw [← Array.getElem?_toList]
        congr 1
        have : off + cs.length ≤ j := by omega
        have hb2 : base + off + cs.length ≤ c.size := by omega
        omega
end
end Go.Ax
