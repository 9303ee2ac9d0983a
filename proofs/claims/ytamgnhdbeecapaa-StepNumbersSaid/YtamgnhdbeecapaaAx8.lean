/- Each operation of the interpreter is what the machine does: new rows, literals, parts of slices. -/
import Derived.Test.YtamgnhdbeecapaaAx7
set_option linter.unusedSimpArgs false
set_option linter.unusedVariables false
namespace Go.Ax

theorem rep_get {α : Type} (l : List α) : ∀ (n k : Nat), k < n * l.length → (List.replicate n l).flatten[k]? = l[k % l.length]? := by
  intro n
  induction n with
  | zero => intro k h; simp at h
  | succ n ih =>
    intro k h
    rw [List.replicate_succ, List.flatten_cons]
    rcases Nat.lt_or_ge k l.length with hk | hk
    · rw [List.getElem?_append_left hk, Nat.mod_eq_of_lt hk]
    · rw [List.getElem?_append_right hk, ih (k - l.length) (by rw [Nat.succ_mul] at h; omega), Nat.mod_eq_sub_mod hk]
theorem made_get (z : Array Value) (n k : Nat) (hz : 0 < z.size) (hk : k < n) : ((Array.range n).map (z[· % z.size]!))[k]? = z[k % z.size]? := by
  have : k % z.size < z.size := Nat.mod_lt _ hz
  simp [Array.getElem?_map, Array.getElem?_range, hk, this]

theorem foldl_set (l : List Value) : ∀ (s off : Nat) (cells : Array Value), off + s + l.length ≤ cells.size →
    (((l.zipIdx s).foldl (fun cs (x : Value × Nat) => cs.setIfInBounds (off + x.2) x.1) cells).size = cells.size ∧
      ∀ k, ((l.zipIdx s).foldl (fun cs (x : Value × Nat) => cs.setIfInBounds (off + x.2) x.1) cells)[k]? = if off + s ≤ k ∧ k < off + s + l.length then l[k - (off + s)]? else cells[k]?) := by
  induction l with
  | nil => intro s off cells h; refine ⟨rfl, fun k => ?_⟩; rw [if_neg (fun hc => by simp only [List.length_nil] at hc; omega)]; rfl
  | cons v l ih =>
    intro s off cells h
    simp only [List.length_cons] at h
    obtain ⟨h1, h2⟩ := ih (s + 1) off (cells.setIfInBounds (off + s) v) (by simp; omega)
    simp only [List.zipIdx_cons, List.foldl_cons]
    refine ⟨by rw [h1]; simp, fun k => ?_⟩
    rw [h2 k]
    by_cases hk : k = off + s
    · subst hk
      rw [if_neg (by omega), if_pos (by simp only [List.length_cons]; omega), Array.getElem?_setIfInBounds_self_of_lt (by omega)]
      simp
    · rw [Array.getElem?_setIfInBounds_ne (by omega)]
      by_cases hin : off + (s + 1) ≤ k ∧ k < off + (s + 1) + l.length
      · rw [if_pos hin, if_pos (by simp only [List.length_cons]; omega)]
        rw [show k - (off + s) = (k - (off + (s + 1))) + 1 by omega]
        simp
      · rw [if_neg hin, if_neg (by simp only [List.length_cons]; omega)]

section
variable {top : Nat} {P : Program} {φ : Phi} {K : Nat → Prop} {h : HeapF} {nx : Nat} {w : World} {ρ : Opd → AV} {ρc : Operand → Value} {o : Oper}

/-- abstract cells and an array of as many -/
def CellsR (φ : Phi) (K : Nat → Prop) (w : World) (cs : List AV) (c : Array Value) : Prop := cs.length = c.size ∧ ∀ (j : Nat) (a : AV), cs[j]? = some a → a.one = true ∧ ∃ v, c[j]? = some v ∧ RelV φ K w a v

theorem fill_cons (ρ : Opd → AV) (p : Nat × Nat × Opd) (parts : List (Nat × Nat × Opd)) (cells : List AV) : fill ρ (p :: parts) cells = match (ρ p.2.2).cells? with
  | none => none
  | some cs => bif Nat.beq cs.length p.2.1 then match over cells p.1 cs with
      | some cells => fill ρ parts cells
      | none => none
    else none := rfl

def mParts (place : Nat → Nat → Nat → Bool) : List (Nat × Operand) → List (Nat × Nat × Opd) → Bool
  | [], [] => true
  | (i, x') :: l, (off, sz, x) :: m => place i off sz && mOpd x' x && mParts place l m
  | _, _ => false

theorem fill_run {place : Nat → Nat → Nat → Bool} {pl : Nat → Option (Nat × Nat)} (hpl : ∀ i off sz, place i off sz = true → pl i = some (off, sz)) :
    ∀ (parts' : List (Nat × Operand)) (parts : List (Nat × Nat × Opd)) (cells cells' : List AV) (c : Array Value), (∀ x y, y ∈ parts.map (·.2.2) → mOpd x y = true → RelV φ K w (ρ y) (ρc x)) → mParts place parts' parts = true → fill ρ parts cells = some cells' → CellsR φ K w cells c →
      ∃ c', Instr.fill pl c (parts'.map fun p => (p.1, ρc p.2)) = some c' ∧ CellsR φ K w cells' c'
  | [], [], cells, cells', c, _, _, hf, hc => by cases hf; exact ⟨c, rfl, hc⟩
  | [], _ :: _, _, _, _, _, hm, _, _ => by cases hm
  | _ :: _, [], _, _, _, _, hm, _, _ => by cases hm
  | (i, x') :: l, (off, sz, x) :: m, cells, cells', c, hρ, hm, hf, hc => by
    simp only [mParts, Bool.and_eq_true] at hm
    obtain ⟨⟨h1, h2⟩, h3⟩ := hm
    have hr := hρ _ _ (by simp) h2
    have hp := hpl _ _ _ h1
    rw [fill_cons] at hf
    simp only at hf
    split at hf
    · cases hf
    · rename_i cs hcs
      simp only [cond_eq_ite, Nat.beq_eq] at hf
      split at hf
      · rename_i hsz
        split at hf
        · rename_i cells1 hov
          obtain ⟨hl, hrr⟩ := rel_cells hr hcs
          obtain ⟨ho1, ho2⟩ := over_at hov
          have hof := (over_some hov).1
          have hcl : (ρc x').cells.toList.length = cs.length := by simp [hl]
          obtain ⟨f1, f2⟩ := foldl_set (ρc x').cells.toList 0 off c (by rw [hcl, ← hc.1]; omega)
          simp only [List.map_cons, Instr.fill, hp]
          rw [if_neg (by rw [← hc.1, ← hl]; simp only [ne_eq, hsz, not_true_eq_false, Bool.or_eq_true, decide_eq_true_eq, decide_false, Bool.false_eq_true, false_or]; omega)]
          have hfold : (ρc x').cells.zipIdx.foldl (fun cs (x : Value × Nat) => cs.setIfInBounds (off + x.2) x.1) c = (((ρc x').cells.toList.zipIdx 0).foldl (fun cs (x : Value × Nat) => cs.setIfInBounds (off + x.2) x.1) c) := by
            rw [← Array.foldl_toList, Array.toList_zipIdx]
          refine fill_run hpl l m cells1 cells' _ (fun x y hy => hρ x y (by rw [List.map_cons]; exact List.mem_cons_of_mem _ hy)) h3 hf ⟨?_, fun j a ha => ?_⟩
          · show cells1.length = ((ρc x').cells.zipIdx.foldl (fun cs (x : Value × Nat) => cs.setIfInBounds (off + x.2) x.1) c).size
            rw [hfold, f1, ho1, hc.1]
          · show a.one = true ∧ ∃ v, ((ρc x').cells.zipIdx.foldl (fun cs (x : Value × Nat) => cs.setIfInBounds (off + x.2) x.1) c)[j]? = some v ∧ _
            rw [hfold, f2 j]
            rw [ho2 j] at ha
            simp only [Nat.add_zero, hcl]
            by_cases hin : off ≤ j ∧ j < off + cs.length
            · rw [if_pos hin] at ha ⊢
              obtain ⟨r1, v, r2, r3⟩ := hrr _ a ha
              exact ⟨r1, v, by rw [Array.getElem?_toList]; exact r2, r3⟩
            · rw [if_neg hin] at ha ⊢
              exact hc.2 j a ha
        · cases hf
      · cases hf

theorem places_run (fs : List Field) (hs : ∀ f ∈ fs, (P.info? f.type).isSome = true) : (fs.mapM fun f => (do pure (f.offset, ← sizeOf f.type) : Sem (Nat × Nat))).run P w = .ok (fs.map fun f => (f.offset, P.cellsOf f.type)) w := by
  induction fs with
  | nil => simp
  | cons f fs ih =>
    obtain ⟨i, hi⟩ := Option.isSome_iff_exists.1 (hs f (by simp))
    have ih' := ih (fun g hg => hs g (by simp [hg]))
    simp only [List.mapM_cons, Sem.run_bind, Sem.run_pure, Result.andThen_ok, run_sizeOf w hi] at ih' ⊢
    rw [ih']
    simp

def mBuild (P : Program) (o : Oper) (zero : List AV) (parts : List (Nat × Nat × Opd)) : Bool := match o.op with
  | .build t ps => mZero P t zero && (match P.underlying t with
    | some (.struct fs) => (fs.toList.all fun f => (P.info? f.type).isSome) && mParts (fun i off sz => match fs[i]? with | some f => Nat.beq f.offset off && tSize P f.type sz | none => false) ps.toList parts
    | some (.array _ e) => (match P.info? e with | some ie => mParts (fun i off sz => Nat.beq off (i * ie.size) && Nat.beq sz ie.size) ps.toList parts | none => false)
    | _ => false)
  | _ => false
theorem s_build (s : Sim top φ K h nx w) (hρ : ∀ x y, mOpd x y = true → RelV φ K w (ρ y) (ρc x)) {zero : List AV} {parts : List (Nat × Nat × Opd)} (hm : mBuild P o zero parts = true) {p : Plan} (hp : pBuild ρ zero parts = some p) : Sound top P φ K h nx w ρc o p := by
  unfold mBuild at hm
  split at hm
  · rename_i t ps ho
    simp only [Bool.and_eq_true] at hm
    obtain ⟨h1, h2⟩ := hm
    obtain ⟨z, hz, _, hzl, hzr⟩ := mZero_run h1 K w
    have hcz : CellsR φ K w zero z.cells := ⟨hzl, fun j a ha => ⟨(hzr j a ha).1, let ⟨v, a1, a2⟩ := (hzr j a ha).2; ⟨v, a1, .pure a2⟩⟩⟩
    unfold pBuild at hp
    split at hp
    · rename_i cs hf
      cases hp
      have hps : (ps.map fun (x : Nat × Operand) => (x.1, ρc x.2)).toList = ps.toList.map fun p => (p.1, ρc p.2) := by simp
      split at h2
      · rename_i fs hu
        simp only [Bool.and_eq_true, List.all_eq_true] at h2
        obtain ⟨c', hc1, hc2⟩ := fill_run (ρ := ρ) (ρc := ρc) (pl := fun i => (fs.map fun f => (f.offset, P.cellsOf f.type))[i]?) (fun i off sz hpl => by
          split at hpl
          · rename_i f hff
            simp only [Bool.and_eq_true, Nat.beq_eq] at hpl
            obtain ⟨ii, hii, hsz⟩ := tInfo_some hpl.2
            rw [Nat.beq_eq] at hsz
            simp [hff, hpl.1, Program.cellsOf, hii, hsz]
          · cases hpl) ps.toList parts zero cs z.cells (fun x y _ => hρ x y) h2.2 hf hcz
        refine sound_val s (V := .agg c') ?_ (.agg _ _ hc2.1 (fun j a ha => (hc2.2 j a ha).1) (fun j a v ha hv => ?_))
        · simp only [execOp, ho]
          refine run_v ?_
          have hpr := places_run (P := P) (w := w) fs.toList h2.1
          have hpr' : (fs.mapM fun f => (do pure (f.offset, ← sizeOf f.type) : Sem (Nat × Nat))).run P w = .ok (fs.map fun f => (f.offset, P.cellsOf f.type)) w := by
            rw [Array.mapM_eq_mapM_toList, Sem.run_map, hpr, Result.andThen_ok]
            congr 1
            apply Array.ext'
            simp
          have hc1' : Instr.fill (fun x => ((fs.map fun f => (f.offset, P.cellsOf f.type))[x]? : Option (Nat × Nat))) z.cells (ps.map fun (x : Nat × Operand) => (x.1, ρc x.2)).toList = some c' := by rw [hps]; exact hc1
          simp only [Instr.build, Sem.run_bind, hz, Result.andThen_ok, run_underlying hu, hpr', hc1']
          rfl
        · obtain ⟨_, v', r1, r2⟩ := hc2.2 j a ha
          rw [r1] at hv
          cases hv
          exact r2
      · rename_i n e hu
        split at h2
        · rename_i ie hie
          obtain ⟨c', hc1, hc2⟩ := fill_run (ρ := ρ) (ρc := ρc) (pl := fun i => some (i * P.cellsOf e, P.cellsOf e)) (fun i off sz hpl => by
            simp only [Bool.and_eq_true, Nat.beq_eq] at hpl
            simp [hpl.1, hpl.2, Program.cellsOf, hie]) ps.toList parts zero cs z.cells (fun x y _ => hρ x y) h2 hf hcz
          refine sound_val s (V := .agg c') ?_ (.agg _ _ hc2.1 (fun j a ha => (hc2.2 j a ha).1) (fun j a v ha hv => ?_))
          · simp only [execOp, ho]
            refine run_v ?_
            have hc1' : Instr.fill (fun i => some (i * P.cellsOf e, P.cellsOf e)) z.cells (ps.map fun (x : Nat × Operand) => (x.1, ρc x.2)).toList = some c' := by rw [hps]; exact hc1
            simp only [Instr.build, Sem.run_bind, hz, Result.andThen_ok, run_underlying hu, run_sizeOf w hie, hc1']
            rfl
          · obtain ⟨_, v', r1, r2⟩ := hc2.2 j a ha
            rw [r1] at hv
            cases hv
            exact r2
        · cases h2
      · cases h2
    · cases hp
  · cases hm

/-- a literal slice: the row -/
def mLit (P : Program) (o : Oper) (es len : Nat) (zero : List AV) (parts : List (Nat × Nat × Opd)) : Bool := match o.op with
  | .buildSlice t n ps => Nat.beq n len && (match P.underlying t with
    | some (.slice e) => (match P.info? e with
      | some ie => Nat.beq ie.size es && Nat.ble (n * es) 16777216 && mParts (fun i off sz => Nat.beq off (i * ie.size) && Nat.beq sz ie.size) ps.toList parts && (match ie.zero with
        | some z => Nat.beq z.cells.size es && Nat.blt 0 es && mVals (List.replicate n z.cells.toList).flatten zero
        | none => false)
      | none => false)
    | _ => false)
  | _ => false
theorem lit_run (s : Sim top φ K h nx w) {es len : Nat} {zero cs : List AV} {parts : List (Nat × Nat × Opd)} (hρ : ∀ x y, y ∈ parts.map (·.2.2) → mOpd x y = true → RelV φ K w (ρ y) (ρc x)) (hm : mLit P o es len zero parts = true) (hf : fill ρ parts zero = some cs) :
    ∃ (c : Array Value) (e : TypeId), (execOp ρc o).run P w = .ok (.value (.slice (some ⟨w.heap.size, 0, none⟩) len len)) (w.alloc (.cells c e)) ∧ CellsR φ K w cs c ∧ c.size = len * es := by
  unfold mLit at hm
  split at hm
  · rename_i t n ps ho
    simp only [Bool.and_eq_true, Nat.beq_eq] at hm
    obtain ⟨rfl, hm⟩ := hm
    split at hm
    · rename_i e hu
      split at hm
      · rename_i ie hie
        simp only [Bool.and_eq_true, Nat.beq_eq, Nat.ble_eq] at hm
        obtain ⟨⟨⟨rfl, hsm⟩, hps⟩, hm⟩ := hm
        split at hm
        · rename_i z hz
          simp only [Bool.and_eq_true, Nat.beq_eq, Nat.blt_eq] at hm
          obtain ⟨⟨hzs, hpos⟩, hvals⟩ := hm
          obtain ⟨v1, v2, _⟩ := mVals_rel hvals K w
          have hsz := run_sizeOf w hie
          have hce : P.cellsOf e = ie.size := by simp [Program.cellsOf, hie]
          have hzv : (zeroValue e).run P w = .ok z w := by simp [zeroValue, typeInfo, hie, hz]
          have hlen : (List.replicate n z.cells.toList).flatten.length = n * ie.size := by simp [hzs]
          have hcz : CellsR φ K w zero ((Array.range (n * ie.size)).map (z.cells[· % z.cells.size]!)) := by
            refine ⟨by rw [v1, hlen]; simp, fun j a ha => ?_⟩
            obtain ⟨r1, v, r2, r3⟩ := v2 j a ha
            have hj : j < n * ie.size := by
              rcases Nat.lt_or_ge j zero.length with h' | h'
              · omega
              · rw [List.getElem?_eq_none h'] at ha; cases ha
            rw [rep_get _ n j (by simpa [hzs] using hj)] at r2
            exact ⟨r1, v, by rw [made_get _ _ _ (by omega) hj]; simpa using r2, .pure r3⟩
          obtain ⟨c', hc1, hc2⟩ := fill_run (ρ := ρ) (ρc := ρc) (pl := fun i => some (i * P.cellsOf e, P.cellsOf e)) (fun i off sz hpl => by
            simp only [Bool.and_eq_true, Nat.beq_eq] at hpl
            simp [hpl.1, hpl.2, hce]) ps.toList parts zero cs _ hρ hps hf hcz
          have hcs : c'.size = n * ie.size := by
            have hl : ∀ (parts : List (Nat × Nat × Opd)) (cells cells' : List AV), fill ρ parts cells = some cells' → cells'.length = cells.length := by
              intro parts
              induction parts with
              | nil => intro cells cells' hh; cases hh; rfl
              | cons p parts ih =>
                intro cells cells' hh
                rw [fill_cons] at hh
                split at hh
                · cases hh
                · simp only [cond_eq_ite] at hh
                  split at hh
                  · split at hh
                    · rename_i hov
                      rw [ih _ _ hh, (over_at hov).1]
                    · cases hh
                  · cases hh
            rw [← hc2.1, hl _ _ _ hf, v1, hlen]
          have hps' : (ps.map fun (x : Nat × Operand) => (x.1, ρc x.2)).toList = ps.toList.map fun p => (p.1, ρc p.2) := by simp
          refine ⟨c', e, ?_, hc2, hcs⟩
          simp only [execOp, ho]
          refine run_v ?_
          have h24 : ¬ (n * P.cellsOf e > 2 ^ 24) := by rw [hce]; omega
          have hc1' : Instr.fill (fun i => some (i * P.cellsOf e, P.cellsOf e)) ((Array.range (n * P.cellsOf e)).map (z.cells[· % z.cells.size]!)) (ps.map fun (x : Nat × Operand) => (x.1, ρc x.2)).toList = some c' := by rw [hps', hce]; rw [hce] at hc1; exact hc1
          simp only [Instr.buildSlice, Sem.run_bind, run_underlying hu, Result.andThen_ok, hsz, if_neg h24]
          by_cases hn0 : n * P.cellsOf e = 0
          · have hn : n = 0 := by
              rw [hce] at hn0
              rcases Nat.mul_eq_zero.1 hn0 with h0 | h0
              · exact h0
              · omega
            subst hn
            have e0 : Array.range (0 * P.cellsOf e) = #[] := by rw [Nat.zero_mul]; rfl
            rw [e0, Array.map_empty] at hc1'
            rw [if_pos hn0, e0]
            simp only [Sem.run_pure, Result.andThen_ok, Array.map_empty, hc1', Sem.run_bind, newRow, run_newObj]
            rfl
          · simp only [if_neg hn0, Sem.run_bind, hzv, Result.andThen_ok, Sem.run_pure, hc1']
            simp [newRow]
        · cases hm
      · cases hm
    · cases hm
  · cases hm

theorem s_bslice (s : Sim top φ K h nx w) (hρ : ∀ x y, mOpd x y = true → RelV φ K w (ρ y) (ρc x)) {es len : Nat} {zero : List AV} {parts : List (Nat × Nat × Opd)} (hm : mLit P o es len zero parts = true) {p : Plan} (hp : pBslice ρ es len zero parts = some p) : Sound top P φ K h nx w ρc o p := by
  unfold pBslice at hp
  split at hp
  · rename_i cs hf
    cases hp
    obtain ⟨c, e, h1, h2, h3⟩ := lit_run s (fun x y _ => hρ x y) hm hf
    refine sound_new s _ cs c e _ h1 (by rw [h2.1]; exact Nat.le_refl _) h2.2 ?_
    exact .ref nx 0 0 es len len false w.heap.size 0 ⟨w.heap.size, 0, none⟩ len (by simp) (Nat.le_refl _) (Nat.le_refl _) (fun h => by cases h) (fun _ => ⟨rfl, c, e, (0, 0), alloc_at w _, by omega⟩)
  · cases hp

theorem flat_rel {a : AV} {v : Value} (hf : a.flat = true) (r : RelV φ K w a v) : RelP K w a v := by
  cases r with
  | pure r => exact r
  | ptr => cases hf
  | ref => cases hf
  | agg => cases hf
  | tup => cases hf
  | mapr => cases hf

/-- A new block that never changes. -/
theorem goes_const (s : Sim top φ K h nx w) (c0 : Array Value) (e0 : TypeId) : Goes top φ K h nx w φ (fun b => K b ∨ b = w.heap.size) h nx (w.alloc (.cells c0 e0)) := by
  generalize hob : Obj.cells c0 e0 = ob
  have hsame : ∀ b, b < w.heap.size → (w.alloc ob).heap[b]? = w.heap[b]? := fun b hb => alloc_old w _ hb
  have hshape : ∀ (b : Nat) (c0 : Array Value) (e0 : TypeId) (fr : Nat × Nat), w.heap[b]? = some (Obj.cells c0 e0 fr) → ∃ c' : Array Value, (w.alloc ob).heap[b]? = some (Obj.cells c' e0 fr) ∧ c'.size = c0.size := by
    intro b c0 e0 fr hb
    exact ⟨c0, by rw [hsame b (Array.getElem?_eq_some_iff.1 hb).1]; exact hb, rfl⟩
  have hval : ∀ {a : AV} {v : Value}, RelV φ K w a v → RelV φ (fun b => K b ∨ b = w.heap.size) (w.alloc ob) a v := fun r => RelV.keep (fun _ _ _ h => h) (fun _ h => .inl h) (fun b hb => hsame b (s.kin b hb).1) hshape r
  have hmlt : ∀ b, Mut φ h b → b < w.heap.size := fun b ⟨id, ob', base, h1, h2⟩ => place_lt s h1 h2
  refine ⟨fun _ _ _ h => h, fun _ h => .inl h, ⟨fun b hb => ?_, fun id g cells hh => ?_, fun id es hh => ?_, s.inj, s.low, s.new⟩, ⟨by rw [World.size_alloc]; omega, fun b hb _ => hsame b hb, hshape, rfl, rfl, rfl, fun a => by rw [← hob]; exact RowKit.frozen?_alloc_cells w c0 e0 a⟩, fun b hb => .inl hb, fun b hb => ?_, fun _ _ _ h => .inl h, fun _ h => .inl h, Nat.le_refl _⟩
  · rw [World.size_alloc]
    rcases hb with hb | rfl
    · exact ⟨Nat.lt_succ_of_lt (s.kin b hb).1, (s.kin b hb).2⟩
    · exact ⟨Nat.lt_succ_self _, fun hm => Nat.lt_irrefl _ (hmlt _ hm)⟩
  · obtain ⟨b, base, c, e, h1, h2, h3, h4⟩ := s.row id g cells hh
    refine ⟨b, base, c, e, h1, by rw [hsame b (Array.getElem?_eq_some_iff.1 h2).1]; exact h2, h3, fun j a ha => ⟨(h4 j a ha).1, ?_⟩⟩
    obtain ⟨v, hv1, hv2⟩ := (h4 j a ha).2
    exact ⟨v, hv1, hval hv2⟩
  · obtain ⟨b, mes, clk, h1, h2, h3, h4⟩ := s.map id es hh
    refine ⟨b, mes, clk, h1, by rw [hsame b (Array.getElem?_eq_some_iff.1 h2).1]; exact h2, h3, fun j k v hj => ?_⟩
    obtain ⟨me, m1, m2, m3⟩ := h4 j k v hj
    exact ⟨me, m1, hval m2, hval m3⟩
  · rcases hb with hb | rfl
    · exact .inl hb
    · exact .inr (.inl (Nat.le_refl _))

theorem s_islice (s : Sim top φ K h nx w) {es len : Nat} {zero : List AV} {parts : List (Nat × Nat × Opd)} (hρ : ∀ x y, y ∈ parts.map (·.2.2) → mOpd x y = true → RelV φ K w (ρ y) (ρc x)) (hm : mLit P o es len zero parts = true) {p : Plan} (hp : pIslice ρ len zero parts = some p) : Sound top P φ K h nx w ρc o p := by
  unfold pIslice at hp
  split at hp
  · rename_i cs hf
    rw [cond_eq_ite] at hp
    split at hp
    · rename_i hflat
      rw [allB_true] at hflat
      cases hp
      obtain ⟨c, e, h1, h2, h3⟩ := lit_run s hρ hm hf
      intro v h' nx' hr htop
      cases hr
      have hg := goes_const s c e
      refine ⟨_, _, φ, _, .inl h1, hg, .pure ?_⟩
      refine .imm cs len (some len) ⟨w.heap.size, 0, none⟩ len (fun j => c.getD j undef) (fun _ => ⟨rfl, .inr rfl⟩) (Nat.le_refl _) (fun c hc => by cases hc; rfl) (fun j a ha => (h2.2 j a ha).1) (fun j hj => ?_) (fun j a ha => ?_)
      · have hj' : j < c.size := by rw [← h2.1]; exact hj
        simp [Array.getElem?_eq_getElem hj']
      · obtain ⟨_, v, r1, r2⟩ := h2.2 j a ha
        have hj' : j < c.size := (Array.getElem?_eq_some_iff.1 r1).1
        have hv : c.getD j undef = v := by rw [Array.getElem?_eq_getElem hj'] at r1; simp [hj']; exact Option.some.inj r1
        rw [hv]
        exact flat_rel (hflat a (List.mem_of_getElem? ha)) (hg.val s r2)
    · cases hp
  · cases hp

/-! bounds of a slice expression -/
theorem bnd_run (hρ : ∀ x y, mOpd x y = true → RelV φ K w (ρ y) (ρc x)) {x' : Option Operand} {x : Option Opd} (hm : mOpt x' x = true) {other y n : Nat} (hb : bnd ρ x other y = some n) (code : BoundsCode) :
    (x = none ∧ x' = none ∧ n = other) ∨ (∃ X, x'.map ρc = some X ∧ n ≤ y ∧ x.isSome = true ∧ ∀ y', n ≤ y' → ∀ code, (Instr.sliceBound X y' code).run P w = .ok n w) := by
  cases x with
  | none => cases x' with
    | none => cases hb; exact .inl ⟨rfl, rfl, rfl⟩
    | some x' => cases hm
  | some x => cases x' with
    | none => cases hm
    | some x' =>
      right
      have hr := hρ _ _ hm
      unfold bnd at hb
      simp only at hb
      split at hb
      · rename_i k i hx
        obtain ⟨rfl, hle⟩ := bdA_some hb
        rw [hx] at hr
        have hX := rel_int hr
        refine ⟨ρc x', rfl, hle, rfl, fun y' hy' code => ?_⟩
        simp [Instr.sliceBound, hX, asIntOf, hy']
      · cases hb

def capOf (mx : Option Opd) (c' m : Nat) : Nat := match mx with | none => c' | some _ => m
theorem if_some (c : Prop) [Decidable c] (a b : Addr) : (if c then some a else (some b : Option Addr)) = some (if c then a else b) := by split <;> rfl
theorem capOf_le (mx : Option Opd) {c' m : Nat} (h : m ≤ c') : m ≤ capOf mx c' m ∧ capOf mx c' m ≤ c' := by cases mx <;> simp [capOf, h]
/-- the three bounds; `cap'`: the machine's capacity, where the interpreter knows less -/
theorem bnds_none {ρ : Opd → AV} {lo hi : Option Opd} {len cap l hh m : Nat} (h : bnds ρ lo hi none len cap = some (l, hh, m)) : m = cap := by
  unfold bnds at h
  simp only [bnd] at h
  repeat' (split at h <;> try cases h)
  all_goals first | rfl | (cases h; rfl) | skip

theorem bnds_run (hρ : ∀ x y, mOpd x y = true → RelV φ K w (ρ y) (ρc x)) {lo' hi' mx' : Option Operand} {lo hi mx : Option Opd} (h1 : mOpt lo' lo = true) (h2 : mOpt hi' hi = true) (h3 : mOpt mx' mx = true) {len cap cap' l hh m : Nat}
    (hb : bnds ρ lo hi mx len cap = some (l, hh, m)) (hcc : cap ≤ cap') (hlc : len ≤ cap) (hhi : mx.isSome = true → hi.isSome = true) (isSlice : Bool) :
    (Instr.sliceBounds isSlice len cap' (lo'.map ρc) (hi'.map ρc) (mx'.map ρc)).run P w = .ok (l, hh, capOf mx cap' m) w ∧ l ≤ hh ∧ hh ≤ m ∧ m ≤ cap := by
  unfold bnds at hb
  split at hb
  · cases hb
  · rename_i m0 hm0
    split at hb
    · cases hb
    · rename_i h0 hh0
      split at hb
      · cases hb
      · rename_i l0 hl0
        cases hb
        rcases bnd_run (P := P) hρ h3 hm0 .index with ⟨rfl, rfl, rfl⟩ | ⟨M, eM, hM, hMs, rM⟩
        · rcases bnd_run (P := P) hρ h2 hh0 .index with ⟨rfl, rfl, rfl⟩ | ⟨Hh, eH, hH, _, rH⟩
          · rcases bnd_run (P := P) hρ h1 hl0 .index with ⟨rfl, rfl, rfl⟩ | ⟨Lo, eL, hL, _, rL⟩
            · exact ⟨by simp [Instr.sliceBounds, capOf], by omega, by omega, by omega⟩
            · refine ⟨?_, by omega, by omega, by omega⟩
              simp only [Instr.sliceBounds, capOf, Option.map_none, eL, Sem.run_bind, Sem.run_pure, Result.andThen_ok, rL _ hL]
          · rcases bnd_run (P := P) hρ h1 hl0 .index with ⟨rfl, rfl, rfl⟩ | ⟨Lo, eL, hL, _, rL⟩
            · refine ⟨?_, by omega, by omega, by omega⟩
              simp only [Instr.sliceBounds, capOf, Option.map_none, eH, Sem.run_bind, Sem.run_pure, Result.andThen_ok, rH cap' (by omega)]
            · refine ⟨?_, by omega, by omega, by omega⟩
              simp only [Instr.sliceBounds, capOf, Option.map_none, eH, eL, Sem.run_bind, Sem.run_pure, Result.andThen_ok, rH cap' (by omega), rL _ hL]
        · obtain ⟨mx, rfl⟩ := Option.isSome_iff_exists.1 hMs
          rcases bnd_run (P := P) hρ h2 hh0 .index with ⟨rfl, rfl, rfl⟩ | ⟨Hh, eH, hH, _, rH⟩
          · exact absurd (hhi rfl) (by simp)
          · rcases bnd_run (P := P) hρ h1 hl0 .index with ⟨rfl, rfl, rfl⟩ | ⟨Lo, eL, hL, _, rL⟩
            · refine ⟨?_, by omega, by omega, by omega⟩
              simp only [Instr.sliceBounds, capOf, Option.map_none, eM, eH, Sem.run_bind, Sem.run_pure, Result.andThen_ok, rM cap' (by omega), rH _ hH]
            · refine ⟨?_, by omega, by omega, by omega⟩
              simp only [Instr.sliceBounds, capOf, eM, eH, eL, Sem.run_bind, Sem.run_pure, Result.andThen_ok, rM cap' (by omega), rH _ hH, rL _ hL]

def mSlstr (P : Program) (o : Oper) (x : Opd) (lo hi : Option Opd) : Bool := match o.op with
  | .slice t x' lo' hi' none => mOpd x' x && mOpt lo' lo && mOpt hi' hi && tStr P t
  | _ => false
theorem s_slstr (s : Sim top φ K h nx w) (hρ : ∀ x y, mOpd x y = true → RelV φ K w (ρ y) (ρc x)) {x : Opd} {lo hi : Option Opd} (hm : mSlstr P o x lo hi = true) {p : Plan} (hp : pSlstr ρ x lo hi = some p) : Sound top P φ K h nx w ρc o p := by
  unfold mSlstr at hm
  split at hm
  · rename_i t x' lo' hi' ho
    simp only [Bool.and_eq_true] at hm
    obtain ⟨⟨⟨h1, h2⟩, h3⟩, h4⟩ := hm
    have hu := tStr_some h4
    have hr := hρ _ _ h1
    unfold pSlstr at hp
    split at hp
    · rename_i q hx
      split at hp
      · cases hp
      · rename_i l hh m hb
        cases hp
        rw [hx] at hr
        have hX := rel_str hr
        obtain ⟨hrun, _⟩ := bnds_run (P := P) (w := w) hρ (mx' := none) (mx := none) h2 h3 rfl hb (Nat.le_refl _) (Nat.le_refl _) (fun h => by cases h) false
        refine sound_val s (V := .string (q.extract l hh)) ?_ (.pure (.str _))
        simp only [execOp, ho]
        refine run_v ?_
        simp only [Option.map_none] at hrun
        simp [Instr.sliceAt, run_underlying hu, Instr.slice, hX, hrun]
    · cases hp
  · cases hm

def mSlsl (P : Program) (o : Oper) (es : Nat) (x : Opd) (lo hi mx : Option Opd) : Bool := match o.op with
  | .slice t x' lo' hi' mx' => mOpd x' x && mOpt lo' lo && mOpt hi' hi && mOpt mx' mx && tElem P t es && (match mx with | none => true | some _ => hi.isSome)
  | _ => false
theorem s_slsl (s : Sim top φ K h nx w) (hρ : ∀ x y, mOpd x y = true → RelV φ K w (ρ y) (ρc x)) {es : Nat} {x : Opd} {lo hi mx : Option Opd} (hm : mSlsl P o es x lo hi mx = true) {p : Plan} (hp : pureO (slA es ρ (ρ x) lo hi mx) = some p) : Sound top P φ K h nx w ρc o p := by
  unfold mSlsl at hm
  split at hm
  · rename_i t x' lo' hi' mx' ho
    simp only [Bool.and_eq_true] at hm
    obtain ⟨⟨⟨⟨⟨h1, h2⟩, h3⟩, h4⟩, h5⟩, h6⟩ := hm
    obtain ⟨e, hu, hs⟩ := tElem_some h5
    have hr := hρ _ _ h1
    have hhi : mx.isSome = true → hi.isSome = true := by
      intro hmx
      obtain ⟨q, rfl⟩ := Option.isSome_iff_exists.1 hmx
      exact h6
    obtain ⟨v, hv, rfl⟩ := sound_of_O hp
    have hex : ∀ V, (Instr.slice t (ρc x') (lo'.map ρc) (hi'.map ρc) (mx'.map ρc)).run P w = .ok V w → (execOp ρc o).run P w = .ok (.value V) w := by
      intro V hV
      simp only [execOp, ho]
      refine run_v ?_
      simp only [Instr.sliceAt, Sem.run_bind, run_underlying hu, Result.andThen_ok]
      exact hV
    have hsl : ∀ (a : Option Addr) (len c' l hh m : Nat), ρc x' = .slice a len c' → (Instr.sliceBounds true len c' (lo'.map ρc) (hi'.map ρc) (mx'.map ρc)).run P w = .ok (l, hh, m) w →
        (Instr.slice t (ρc x') (lo'.map ρc) (hi'.map ρc) (mx'.map ρc)).run P w = .ok (.slice (if m = l then a else a.map (·.add (l * es))) (hh - l) (m - l)) w := by
      intro a len c' l hh m hX hb
      simp [Instr.slice, hX, run_underlying hu, hb, tSize_run hs]
    unfold slA at hv
    split at hv
    · rename_i hx
      rw [hx] at hr
      have hX := rel_nils hr
      split at hv
      · cases hv
      · rename_i q hb
        cases hv
        obtain ⟨l, hh, m⟩ := q
        obtain ⟨hrun, hl1, hl2, hl3⟩ := bnds_run (P := P) (w := w) hρ h2 h3 h4 hb (Nat.le_refl 0) (Nat.le_refl 0) hhi true
        have hm0 : m = 0 := by omega
        have hh0 : hh = 0 := by omega
        have hl0 : l = 0 := by omega
        subst hm0 hh0 hl0
        have hrun' : (Instr.sliceBounds true 0 0 (lo'.map ρc) (hi'.map ρc) (mx'.map ρc)).run P w = .ok (0, 0, 0) w := by rw [hrun]; cases mx <;> rfl
        refine sound_val s (V := .slice none 0 0) (hex _ ?_) (.pure .nils)
        rw [hsl none 0 0 0 0 0 hX hrun']
        simp
    · rename_i cs n cap hx
      simp only [cond_eq_ite, Nat.beq_eq] at hv
      split at hv
      · rename_i hn
        split at hv
        · cases hv
        · rename_i l hh m hb
          split at hv
          · rename_i cs' hcut
            cases hv
            rw [hx] at hr
            obtain ⟨ad, c', hX, hnc, hcap, hspot, _, hsub⟩ := rel_imm2 hr
            obtain ⟨hrun, hl1, hl2, hl3⟩ := bnds_run (P := P) (w := w) hρ h2 h3 h4 hb hnc (Nat.le_refl n) hhi true
            obtain ⟨hcl, hat⟩ := cut_at hcut
            refine sound_val s (hex _ (hsl (some ad) n c' l hh _ hX hrun)) (.pure ?_)
            rw [Option.map_some, if_some]
            have hml := capOf_le mx (c' := c') (m := m) (by omega)
            refine hsub cs' (l * es) (hh - l) _ _ _ (fun j => ?_) (fun hne => ?_) (fun hne => ?_) (by omega) (fun c hc => ?_)
            · split
              · exact hat j (by omega)
              · exact List.getElem?_eq_none (by omega)
            · have hlt : l < hh := by
                rcases Nat.lt_or_ge l hh with h' | h'
                · exact h'
                · exfalso
                  apply hne
                  apply List.eq_nil_of_length_eq_zero
                  rw [hcl]
                  simp only [Nat.mul_eq, Nat.sub_eq]
                  rw [show hh - l = 0 by omega, Nat.zero_mul]
              have hne' : cs ≠ [] := by
                rintro rfl
                have := (cut_some hcut).1
                apply hne
                apply List.eq_nil_of_length_eq_zero
                rw [hcl]
                simp only [List.length_nil] at this
                simp only [Nat.mul_eq, Nat.sub_eq] at this ⊢
                omega
              rw [if_neg (by omega), addr_eta ad (hspot hne'), Addr.add_lit]
            · rintro rfl
              have := (cut_some hcut).1
              apply hne
              apply List.eq_nil_of_length_eq_zero
              rw [hcl]
              simp only [List.length_nil] at this
              simp only [Nat.mul_eq, Nat.sub_eq] at this ⊢
              omega
            · cases mx with
              | none =>
                cases cap with
                | none => cases hc
                | some c0 => cases hc; simp only [capOf]; rw [hcap c0 rfl]; rfl
              | some q => cases hc; rfl
          · cases hv
      · cases hv
    · rename_i id g off es' len cap ex hx
      simp only [cond_eq_ite, Nat.beq_eq] at hv
      split at hv
      · rename_i hes
        subst hes
        split at hv
        · cases hv
        · rename_i l hh m hb
          cases hv
          rw [hx] at hr
          obtain ⟨b, base, ad, c', hX, hp1, hlc, hcc, hexc, had⟩ := rel_ref hr
          obtain ⟨hrun, hl1, hl2, hl3⟩ := bnds_run (P := P) (w := w) hρ h2 h3 h4 hb hcc hlc hhi true
          refine sound_val s (hex _ (hsl (some ad) len c' l hh _ hX hrun)) ?_
          rw [Option.map_some, if_some]
          have hcm := capOf_le mx (c' := c') (m := m) (by omega)
          refine .ref id g _ es' _ _ _ b base _ _ hp1 (by simp only [Nat.sub_eq]; omega) (by simp only [Nat.sub_eq]; omega) (fun hx => ?_) (fun h0 => ?_)
          · cases mx with
            | none =>
              have h8 := bnds_none hb
              simp only [capOf] at hx ⊢
              rw [h8, hexc hx]; rfl
            | some q => rfl
          · have hne : capOf mx c' m ≠ l := by omega
            rw [if_neg hne]
            obtain ⟨rfl, c, e', fr, hc1, hc2⟩ := had (by omega)
            refine ⟨by rw [Addr.add_lit]; simp only [Nat.mul_eq, Nat.add_eq, Nat.add_assoc], c, e', fr, hc1, ?_⟩
            have h8 : (capOf mx c' m - l) * es' + l * es' ≤ c' * es' := by
              rw [← Nat.add_mul]
              exact Nat.mul_le_mul_right _ (by omega)
            simp only [Nat.mul_eq, Nat.add_eq]
            omega
      · cases hv
    · cases hv
  · cases hm
end
end Go.Ax
