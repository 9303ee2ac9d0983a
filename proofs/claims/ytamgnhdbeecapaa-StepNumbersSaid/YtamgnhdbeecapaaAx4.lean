/- Each operation of the interpreter is what the machine does: loads, stores, addresses, arithmetic. -/
import Derived.Test.YtamgnhdbeecapaaAx3
set_option linter.unusedSimpArgs false
set_option linter.unusedVariables false
namespace Go.Ax

/-! ### What the program's tables are asked -/
def tInfo (P : Program) (t : TypeId) (f : TypeInfo → Bool) : Bool := match P.info? t with | some i => f i | none => false
def tDesc (P : Program) (t : TypeId) (f : TypeDesc → Bool) : Bool := match P.underlying t with | some d => f d | none => false
def tSize (P : Program) (t : TypeId) (n : Nat) : Bool := tInfo P t fun i => Nat.beq i.size n
def aggOf : TypeDesc → Bool
  | .struct _ => true
  | .array _ _ => true
  | _ => false
/-- a variable of type t is of so many cells; none: one cell, no aggregate -/
def tVar (P : Program) (t : TypeId) (sz : Option Nat) : Bool := match sz with
  | none => tDesc P t fun d => !aggOf d
  | some n => (tDesc P t fun d => aggOf d) && tSize P t n
theorem tInfo_some {P : Program} {t : TypeId} {f : TypeInfo → Bool} (h : tInfo P t f = true) : ∃ i, P.info? t = some i ∧ f i = true := by
  unfold tInfo at h
  split at h
  · rename_i i hi; exact ⟨i, hi, h⟩
  · cases h
theorem tDesc_some {P : Program} {t : TypeId} {f : TypeDesc → Bool} (h : tDesc P t f = true) : ∃ d, P.underlying t = some d ∧ f d = true := by
  unfold tDesc at h
  split at h
  · rename_i i hi; exact ⟨i, hi, h⟩
  · cases h
theorem tSize_run {P : Program} {t : TypeId} {n : Nat} (h : tSize P t n = true) (w : World) : (sizeOf t).run P w = .ok n w := by
  obtain ⟨i, hi, hn⟩ := tInfo_some h
  rw [Nat.beq_eq] at hn
  simp [sizeOf, typeInfo, hi, hn]
theorem isAgg_run {P : Program} {t : TypeId} {d : TypeDesc} (h : P.underlying t = some d) (w : World) : (isAgg t).run P w = .ok (aggOf d) w := by
  cases d <;> simp [isAgg, run_underlying h, aggOf]

section
variable {top : Nat} {P : Program} {φ : Phi} {K : Nat → Prop} {h : HeapF} {nx : Nat} {w : World} {ρ : Opd → AV} {ρc : Operand → Value} {o : Oper}

theorem sound_val (s : Sim top φ K h nx w) {v : AV} {V : Value} (hrun : (execOp ρc o).run P w = .ok (.value V) w) (hv : RelV φ K w v V) : Sound top P φ K h nx w ρc o (.val v) := by
  intro v' h' nx' hr htop
  cases hr
  exact ⟨V, w, φ, K, .inl hrun, Goes.refl s, hv⟩

theorem sound_of_O {v : Option AV} {p : Plan} (hp : pureO v = some p) : ∃ x, v = some x ∧ p = .val x := by
  cases v with
  | none => cases hp
  | some x => cases hp; exact ⟨x, rfl, rfl⟩

def mMv (o : Oper) (x : Opd) : Bool := match o.op with
  | .move a => mOpd a x
  | .assign a => mOpd a x
  | _ => false
theorem s_mv (s : Sim top φ K h nx w) (hρ : ∀ x y, mOpd x y = true → RelV φ K w (ρ y) (ρc x)) {x : Opd} (hm : mMv o x = true) : Sound top P φ K h nx w ρc o (.val (ρ x)) := by
  unfold mMv at hm
  split at hm
  · rename_i a ha
    exact sound_val s (V := ρc a) (by simp [execOp, ha]) (hρ _ _ hm)
  · rename_i a ha
    exact sound_val s (V := ρc a) (by simp [execOp, ha]) (hρ _ _ hm)
  · cases hm

/-- what a value of some form is -/
theorem rel_bool {b : Bool} {V : Value} (r : RelV φ K w (.bool b) V) : V = .bool b := by
  cases r with
  | pure r => cases r; rfl
theorem rel_int {k : IntKind} {n : Int} {V : Value} (r : RelV φ K w (.int k n) V) : V = .int k n := by
  cases r with
  | pure r => cases r; rfl
theorem rel_str {x : ByteArray} {V : Value} (r : RelV φ K w (.str x) V) : V = .string x := by
  cases r with
  | pure r => cases r; rfl
theorem rel_nils {V : Value} (r : RelV φ K w .nils V) : V = .slice none 0 0 := by
  cases r with
  | pure r => cases r; rfl
theorem rel_func {f : Nat} {V : Value} (r : RelV φ K w (.func f) V) : V = .func (.func f) #[] #[] := by
  cases r with
  | pure r => cases r; rfl
theorem rel_ptr {id g off : Nat} {V : Value} (r : RelV φ K w (.ptr id g off) V) : ∃ b base, φ id g = some (b, base) ∧ V = .pointer (some ⟨b, base + off, none⟩) := by
  cases r with
  | pure r => cases r
  | ptr id g off b base h => exact ⟨b, base, h, rfl⟩
theorem rel_mapr {id : Nat} {V : Value} (r : RelV φ K w (.mapr id) V) : ∃ b, φ id 0 = some (b, 0) ∧ V = .map (some b) := by
  cases r with
  | pure r => cases r
  | mapr id b h => exact ⟨b, h, rfl⟩
theorem rel_iptr {cs : List AV} {off : Nat} {V : Value} (r : RelV φ K w (.iptr cs off) V) : ∃ b o, K b ∧ V = .pointer (some ⟨b, o + off, none⟩) ∧
    ∀ (j : Nat) (a : AV), cs[j]? = some a → a.one = true ∧ ∃ v, w.cell? ⟨b, o + j, none⟩ = some v ∧ RelP K w a v := by
  cases r with
  | pure r => cases r with
    | iptr cs b o off f hK hone hc hr =>
      refine ⟨b, o, hK, rfl, fun j a ha => ⟨hone j a ha, f j, hc j ?_, hr j a ha⟩⟩
      rcases Nat.lt_or_ge j cs.length with hj | hj
      · exact hj
      · rw [List.getElem?_eq_none hj] at ha; cases ha
theorem rel_imm {cs : List AV} {n : Nat} {cap : Option Nat} {V : Value} (r : RelV φ K w (.imm cs n cap) V) : ∃ ad c', V = .slice (some ad) n c' ∧ n ≤ c' ∧ (∀ c, cap = some c → c' = c) ∧ (cs ≠ [] → ad.spot = none ∧ K ad.block) ∧
    ∀ (j : Nat) (a : AV), cs[j]? = some a → a.one = true ∧ ∃ v, w.cell? ⟨ad.block, ad.off + j, none⟩ = some v ∧ RelP K w a v := by
  cases r with
  | pure r => cases r with
    | imm cs n cap ad c' f hK hn hcap hone hc hr =>
      refine ⟨ad, c', rfl, hn, hcap, hK, fun j a ha => ⟨hone j a ha, f j, hc j ?_, hr j a ha⟩⟩
      rcases Nat.lt_or_ge j cs.length with hj | hj
      · exact hj
      · rw [List.getElem?_eq_none hj] at ha; cases ha
theorem rel_ref {id g off es len cap : Nat} {ex : Bool} {V : Value} (r : RelV φ K w (.ref id g off es len cap ex) V) : ∃ b base ad c', V = .slice (some ad) len c' ∧ φ id g = some (b, base) ∧ len ≤ cap ∧ cap ≤ c' ∧ (ex = true → c' = cap) ∧
    (c' ≠ 0 → ad = ⟨b, base + off, none⟩ ∧ ∃ (c : Array Value) (e : TypeId) (fr : Nat × Nat), w.heap[b]? = some (Obj.cells c e fr) ∧ base + off + c' * es ≤ c.size) := by
  cases r with
  | pure r => cases r
  | ref id g off es len cap ex b base ad c' h1 h2 h3 h4 h5 => exact ⟨b, base, ad, c', rfl, h1, h2, h3, h4, h5⟩
theorem rel_agg {cs : List AV} {V : Value} (r : RelV φ K w (.agg cs) V) : ∃ vs : Array Value, V = .agg vs ∧ cs.length = vs.size ∧ ∀ (j : Nat) (a : AV), cs[j]? = some a → a.one = true ∧ ∃ v, vs[j]? = some v ∧ RelV φ K w a v := by
  have key : ∀ (vs : Array Value) (R : AV → Value → Prop), cs.length = vs.size → (∀ (j : Nat) (a : AV), cs[j]? = some a → a.one = true) → (∀ (j : Nat) (a : AV) (v : Value), cs[j]? = some a → vs[j]? = some v → R a v) →
      ∀ (j : Nat) (a : AV), cs[j]? = some a → a.one = true ∧ ∃ v, vs[j]? = some v ∧ R a v := by
    intro vs R hl hone hr j a ha
    have hj : j < vs.size := by
      rcases Nat.lt_or_ge j cs.length with hj | hj
      · omega
      · rw [List.getElem?_eq_none hj] at ha; cases ha
    exact ⟨hone j a ha, vs[j], Array.getElem?_eq_getElem hj, hr j a _ ha (Array.getElem?_eq_getElem hj)⟩
  cases r with
  | pure r => cases r with
    | agg cs vs hl hone hr => exact ⟨vs, rfl, hl, key vs _ hl hone fun j a v h1 h2 => .pure (hr j a v h1 h2)⟩
  | agg cs vs hl hone hr => exact ⟨vs, rfl, hl, key vs _ hl hone hr⟩
theorem rel_tup {cs : List AV} {V : Value} (r : RelV φ K w (.tup cs) V) : ∃ vs : Array Value, V = .tuple vs ∧ cs.length = vs.size ∧ ∀ (j : Nat) (a : AV), cs[j]? = some a → ∃ v, vs[j]? = some v ∧ RelV φ K w a v := by
  have key : ∀ (vs : Array Value) (R : AV → Value → Prop), cs.length = vs.size → (∀ (j : Nat) (a : AV) (v : Value), cs[j]? = some a → vs[j]? = some v → R a v) →
      ∀ (j : Nat) (a : AV), cs[j]? = some a → ∃ v, vs[j]? = some v ∧ R a v := by
    intro vs R hl hr j a ha
    have hj : j < vs.size := by
      rcases Nat.lt_or_ge j cs.length with hj | hj
      · omega
      · rw [List.getElem?_eq_none hj] at ha; cases ha
    exact ⟨vs[j], Array.getElem?_eq_getElem hj, hr j a _ ha (Array.getElem?_eq_getElem hj)⟩
  cases r with
  | pure r => cases r with
    | tup cs vs hl hr => exact ⟨vs, rfl, hl, key vs _ hl fun j a v h1 h2 => .pure (hr j a v h1 h2)⟩
  | tup cs vs hl hr => exact ⟨vs, rfl, hl, key vs _ hl hr⟩

/-- a value's cells -/
theorem rel_cells {a : AV} {V : Value} {cs : List AV} (r : RelV φ K w a V) (hc : a.cells? = some cs) : cs.length = V.cells.size ∧ ∀ (j : Nat) (x : AV), cs[j]? = some x → x.one = true ∧ ∃ v, V.cells[j]? = some v ∧ RelV φ K w x v := by
  by_cases h1 : ∃ l, a = .agg l
  · obtain ⟨l, rfl⟩ := h1
    cases hc
    obtain ⟨vs, rfl, hl, hr⟩ := rel_agg r
    exact ⟨hl, hr⟩
  · have ha : a.one = true ∧ cs = [a] := by
      cases a <;> first
        | (exact absurd ⟨_, rfl⟩ h1)
        | (cases hc; done)
        | (cases hc; exact ⟨rfl, rfl⟩)
    obtain ⟨ha, rfl⟩ := ha
    have hv := one_of r ha
    have hV : V.cells = #[V] := by cases V <;> first | rfl | cases hv
    rw [hV]
    refine ⟨rfl, fun j x hx => ?_⟩
    cases j with
    | zero => simp at hx; subst hx; exact ⟨ha, V, rfl, r⟩
    | succ j => simp at hx

theorem run_v {x : Sem Value} {V : Value} {w' : World} (h : x.run P w = .ok V w') : (do pure (Next.value (← x)) : Sem Next).run P w = .ok (.value V) w' := by simp [h]
theorem run_u {x : Sem Unit} {w' : World} (h : x.run P w = .ok () w') : (do x; pure Next.skip : Sem Next).run P w = .ok .skip w' := by simp [h]

def mPick (o : Oper) (c a b : Opd) : Bool := match o.op with
  | .pick c' a' b' => mOpd c' c && mOpd a' a && mOpd b' b
  | _ => false
theorem s_pick (s : Sim top φ K h nx w) (hρ : ∀ x y, mOpd x y = true → RelV φ K w (ρ y) (ρc x)) {c a b : Opd} (hm : mPick o c a b = true) {p : Plan} (hp : pPick ρ c a b = some p) : Sound top P φ K h nx w ρc o p := by
  unfold mPick at hm
  split at hm
  · rename_i c' a' b' ho
    simp only [Bool.and_eq_true] at hm
    obtain ⟨⟨h1, h2⟩, h3⟩ := hm
    unfold pPick at hp
    split at hp
    · rename_i t ht
      have hc := hρ _ _ h1
      rw [ht] at hc
      have hc := rel_bool hc
      cases t with
      | true => cases hp; exact sound_val s (V := ρc a') (by simp [execOp, ho, hc, asBool]) (hρ _ _ h2)
      | false => cases hp; exact sound_val s (V := ρc b') (by simp [execOp, ho, hc, asBool]) (hρ _ _ h3)
    · cases hp
  · cases hm

theorem sound_new (s : Sim top φ K h nx w) (f : Nat → AV) (cells : List AV) (c : Array Value) (e : TypeId) (V : Value) (hrun : (execOp ρc o).run P w = .ok (.value V) (w.alloc (.cells c e))) (hl : cells.length ≤ c.size)
    (hr : ∀ (j : Nat) (a : AV), cells[j]? = some a → a.one = true ∧ ∃ v, c[j]? = some v ∧ RelV φ K w a v)
    (hV : RelV (fun id g => if id = nx ∧ g = 0 then some (w.heap.size, 0) else φ id g) K (w.alloc (.cells c e)) (f nx) V) : Sound top P φ K h nx w ρc o (.new f (.row 0 cells)) := by
  intro v h' nx' hrr htop
  cases hrr
  exact ⟨V, _, _, K, .inl hrun, goes_new s htop cells c e hl (fun j a ha => (hr j a ha).1) (fun j a ha => (hr j a ha).2), hV⟩

def mZero (P : Program) (t : TypeId) (zero : List AV) : Bool := tInfo P t fun i => match i.zero with | some z => mVals z.cells.toList zero | none => false
theorem mZero_run {t : TypeId} {zero : List AV} (hz : mZero P t zero = true) (K : Nat → Prop) (w : World) : ∃ z, (zeroValue t).run P w = .ok z w ∧ mVals z.cells.toList zero = true ∧ zero.length = z.cells.size ∧ ∀ (j : Nat) (a : AV), zero[j]? = some a → a.one = true ∧ ∃ v, z.cells[j]? = some v ∧ RelP K w a v := by
  obtain ⟨i, hi, h1⟩ := tInfo_some hz
  cases hzv : i.zero with
  | none => rw [hzv] at h1; cases h1
  | some z =>
    rw [hzv] at h1
    obtain ⟨h2, h3, _⟩ := mVals_rel h1 K w
    refine ⟨z, by simp [zeroValue, typeInfo, hi, hzv], h1, by simpa using h2, fun j a ha => ?_⟩
    obtain ⟨r1, v, r2, r3⟩ := h3 j a ha
    exact ⟨r1, v, by simpa using r2, r3⟩

def mAlloc (P : Program) (o : Oper) (zero : List AV) : Bool := match o.op with
  | .alloc t => mZero P t zero
  | _ => false
theorem s_alloc (s : Sim top φ K h nx w) {zero : List AV} (hm : mAlloc P o zero = true) : Sound top P φ K h nx w ρc o (.new (fun id => .ptr id 0 0) (.row 0 zero)) := by
  unfold mAlloc at hm
  split at hm
  · rename_i t ho
    obtain ⟨z, h1, h2, h3, h4⟩ := mZero_run hm K w
    refine sound_new s _ zero z.cells t (.pointer (some ⟨w.heap.size, 0, none⟩)) ?_ (by omega) (fun j a ha => ⟨(h4 j a ha).1, let ⟨v, a1, a2⟩ := (h4 j a ha).2; ⟨v, a1, .pure a2⟩⟩) ?_
    · simp [execOp, ho, Instr.alloc, h1, newVar, newRow]
    · exact .ptr nx 0 0 w.heap.size 0 (by simp)
  · cases hm

def mBox (o : Oper) (x : Opd) : Bool := match o.op with
  | .box _ x' => mOpd x' x
  | _ => false
theorem s_box (s : Sim top φ K h nx w) (hρ : ∀ x y, mOpd x y = true → RelV φ K w (ρ y) (ρc x)) {x : Opd} (hm : mBox o x = true) {p : Plan} (hp : pBox ρ x = some p) : Sound top P φ K h nx w ρc o p := by
  unfold mBox at hm
  split at hm
  · rename_i t x' ho
    unfold pBox at hp
    split at hp
    · rename_i cs hcs
      cases hp
      obtain ⟨h1, h2⟩ := rel_cells (hρ _ _ hm) hcs
      refine sound_new s _ cs (ρc x').cells t (.pointer (some ⟨w.heap.size, 0, none⟩)) ?_ (by omega) h2 ?_
      · simp [execOp, ho, Instr.box, newVar, newRow]
      · exact .ptr nx 0 0 w.heap.size 0 (by simp)
    · cases hp
  · cases hm

/-- a value out of cells -/
def ofList (sz : Option Nat) (l : List Value) : Value := match sz with | none => l.getD 0 undef | some _ => .agg l.toArray
theorem rel_mkv (s : Sim top φ K h nx w) {sz : Option Nat} {t : TypeId} (ht : tVar P t sz = true) {cs : List AV} {v : AV} (hv : mkv sz cs = some v) (l : List Value) (hl : cs.length = l.length)
    (hr : ∀ (j : Nat) (a : AV), cs[j]? = some a → a.one = true ∧ ∃ u, l[j]? = some u ∧ RelV φ K w a u) :
    RelV φ K w v (ofList sz l) := by
  cases sz with
  | none =>
    show RelV φ K w v (l.getD 0 undef)
    unfold mkv at hv
    simp only at hv
    split at hv
    · cases hv
      obtain ⟨_, u, h1, h2⟩ := hr 0 v rfl
      simp only [List.getD_eq_getElem?_getD, h1, Option.getD_some]
      exact h2
    · cases hv
  | some n =>
    cases hv
    refine .agg cs l.toArray (by simpa using hl) (fun j a ha => (hr j a ha).1) (fun j a u ha hu => ?_)
    obtain ⟨_, u', h1, h2⟩ := hr j a ha
    simp only [List.getElem?_toArray, h1, Option.some.injEq] at hu
    subst hu
    exact h2

theorem run_loadVar {t : TypeId} {sz : Option Nat} (ht : tVar P t sz = true) (b o : Nat) (l : List Value) (hl : l.length = loadA sz) (hc : ∀ j, j < l.length → w.cell? ⟨b, o + j, none⟩ = l[j]?) :
    (loadVar t ⟨b, o, none⟩).run P w = .ok (ofList sz l) w := by
  cases sz with
  | none =>
    obtain ⟨d, hd, hag⟩ := tDesc_some ht
    have h0 := hc 0 (by simp [hl, loadA])
    have hl1 : 0 < l.length := by simp [hl, loadA]
    rw [List.getElem?_eq_getElem hl1] at h0
    simp at hag
    simp at h0
    simp [loadVar, isAgg_run hd, hag, h0, ofList, List.getElem?_eq_getElem hl1]
  | some n =>
    simp only [tVar, Bool.and_eq_true] at ht
    obtain ⟨d, hd, hag⟩ := tDesc_some ht.1
    have hs := tSize_run ht.2 w
    simp only [loadA] at hl
    have hlc := run_loadCells_list (P := P) w ⟨b, o, none⟩ l (fun j v hv => by
      rw [Addr.add_lit, hc j (by rcases Nat.lt_or_ge j l.length with hj | hj; exact hj; rw [List.getElem?_eq_none hj] at hv; cases hv)]; exact hv)
    rw [hl] at hlc
    simp [loadVar, isAgg_run hd, hag, hs, hlc, ofList]

def mLoad (P : Program) (o : Oper) (sz : Option Nat) (a : Opd) : Bool := match o.op with
  | .load t a' => mOpd a' a && tVar P t sz
  | _ => false
theorem s_load (s : Sim top φ K h nx w) (hρ : ∀ x y, mOpd x y = true → RelV φ K w (ρ y) (ρc x)) {sz : Option Nat} {a : Opd} (hm : mLoad P o sz a = true) {p : Plan} (hp : pLoad ρ sz a = some p) : Sound top P φ K h nx w ρc o p := by
  unfold mLoad at hm
  split at hm
  · rename_i t a' ho
    simp only [Bool.and_eq_true] at hm
    have hr := hρ _ _ hm.1
    unfold pLoad at hp
    split at hp
    · rename_i id g off ha
      cases hp
      rw [ha] at hr
      obtain ⟨b, base, hb, hV⟩ := rel_ptr hr
      intro v h' nx' hrun htop
      simp only [runF, fetchOF] at hrun
      split at hrun
      · cases hrun
      · rename_i cs hcs
        obtain ⟨b1, base1, c, e, h1, h2, h3, h4, h5⟩ := fetch_cells s hcs
        rw [hb] at h1
        cases h1
        split at hrun
        · cases hrun
        · rename_i out hout
          split at hout
          · rename_i v1 hv1
            cases hout
            cases hrun
            have hlen := listAt_length c (base + off) (loadA sz)
            have hget : ∀ (j : Nat) (a : AV), cs[j]? = some a → a.one = true ∧ ∃ u, (listAt c (base + off) (loadA sz))[j]? = some u ∧ RelV φ K w a u := by
              intro j a ha
              obtain ⟨r1, u, r2, r3⟩ := h5 j a ha
              have hj : j < loadA sz := by
                rcases Nat.lt_or_ge j cs.length with hj | hj
                · omega
                · rw [List.getElem?_eq_none hj] at ha; cases ha
              exact ⟨r1, u, by rw [listAt_get c _ _ j hj (by omega)]; exact r2, r3⟩
            refine ⟨_, w, φ, K, .inl ?_, Goes.refl s, rel_mkv s hm.2 hv1 _ (by rw [h4, hlen]) hget⟩
            simp only [execOp, ho]
            refine run_v ?_
            simp only [Instr.loadAt, hV, Instr.sureAddr, Sem.run_bind, Sem.run_pure, Result.andThen_ok]
            refine run_loadVar hm.2 b (base + off) _ hlen (fun j hj => ?_)
            rw [cell_at h2, listAt_get c _ _ j (by omega) (by omega)]
          · cases hout
    · rename_i cs off ha
      split at hp
      · rename_i cs' hcut
        obtain ⟨v, hv, rfl⟩ := sound_of_O hp
        rw [ha] at hr
        obtain ⟨b, o1, hK, hV, hcells⟩ := rel_iptr hr
        obtain ⟨hl, hat⟩ := cut_at hcut
        have hfit := (cut_some hcut).1
        have hget : ∀ (j : Nat) (a : AV), cs'[j]? = some a → a.one = true ∧ ∃ u, w.cell? ⟨b, o1 + off + j, none⟩ = some u ∧ RelV φ K w a u := by
          intro j a ha
          have hj : j < loadA sz := by
            rcases Nat.lt_or_ge j cs'.length with hj | hj
            · omega
            · rw [List.getElem?_eq_none hj] at ha; cases ha
          rw [hat j hj] at ha
          obtain ⟨r1, u, r2, r3⟩ := hcells _ a ha
          exact ⟨r1, u, by rw [← r2, Nat.add_assoc], .pure r3⟩
        have hl2 : ((List.range (loadA sz)).map fun j => (w.cell? ⟨b, o1 + off + j, none⟩).getD undef).length = loadA sz := by simp
        have hl3 : ∀ j u, j < loadA sz → w.cell? ⟨b, o1 + off + j, none⟩ = some u → ((List.range (loadA sz)).map fun j => (w.cell? ⟨b, o1 + off + j, none⟩).getD undef)[j]? = some u := by
          intro j u hj hu
          simp [hj, hu]
        refine sound_val s ?_ (rel_mkv s hm.2 hv ((List.range (loadA sz)).map fun j => (w.cell? ⟨b, o1 + off + j, none⟩).getD undef) (by rw [hl, hl2]) ?_)
        · simp only [execOp, ho]
          refine run_v ?_
          simp only [Instr.loadAt, hV, Instr.sureAddr, Sem.run_bind, Sem.run_pure, Result.andThen_ok]
          refine run_loadVar hm.2 b (o1 + off) _ hl2 (fun j hj => ?_)
          have hj' : j < cs'.length := by omega
          obtain ⟨_, u, r2, _⟩ := hget j _ (List.getElem?_eq_getElem hj')
          rw [r2, hl3 j u (by omega) r2]
        · intro j a ha
          obtain ⟨r1, u, r2, r3⟩ := hget j a ha
          have hj : j < loadA sz := by
            rcases Nat.lt_or_ge j cs'.length with hj | hj
            · omega
            · rw [List.getElem?_eq_none hj] at ha; cases ha
          exact ⟨r1, u, hl3 j u hj r2, r3⟩
      · cases hp
    · cases hp
  · cases hm

/-- An operation that changes one object. -/
theorem runF_row {q : Option Rng} {id g : Nat} {k : List AV → List AV → Option Out} {v : AV} {h' : HeapF} {nx' : Nat} (hr : runF (.look q (some id) fun a => rowK g (k a)) h nx = some (v, h', nx')) :
    ∃ a cells out, fetchF h q = some a ∧ h id = some (.row g cells) ∧ k a cells = some out ∧ (match out.new with
      | some ob => some (out.val nx, upd (setF h (some id) out.obj) nx (some ob), nx + 1)
      | none => some (out.val nx, setF h (some id) out.obj, nx)) = some (v, h', nx') := by
  simp only [runF, fetchOF] at hr
  cases hq : fetchF h q with
  | none => rw [hq] at hr; cases hr
  | some a =>
    rw [hq] at hr
    simp only at hr
    cases hh : h id with
    | none => rw [hh] at hr; cases hr
    | some ob =>
      rw [hh] at hr
      simp only at hr
      cases ob with
      | map es => simp only [rowK] at hr; cases hr
      | row g' cells =>
        simp only [rowK, cond_eq_ite, Nat.beq_eq] at hr
        split at hr
        · cases hr
        · rename_i out hout
          split at hout
          · rename_i hg
            subst hg
            exact ⟨a, cells, out, rfl, rfl, hout, hr⟩
          · cases hout

def mStore (P : Program) (o : Oper) (sz : Nat) (a x : Opd) : Bool := match o.op with
  | .store t a' x' => mOpd a' a && mOpd x' x && tSize P t sz
  | _ => false
theorem s_store (s : Sim top φ K h nx w) (hρ : ∀ x y, mOpd x y = true → RelV φ K w (ρ y) (ρc x)) {sz : Nat} {a x : Opd} (hm : mStore P o sz a x = true) {p : Plan} (hp : pStore ρ sz a x = some p) : Sound top P φ K h nx w ρc o p := by
  unfold mStore at hm
  split at hm
  · rename_i t a' x' ho
    simp only [Bool.and_eq_true] at hm
    obtain ⟨⟨hma, hmx⟩, hms⟩ := hm
    have hra := hρ _ _ hma
    have hrx := hρ _ _ hmx
    unfold pStore at hp
    split at hp
    · rename_i id g off ha
      split at hp
      · rename_i cs hcs
        simp only [cond_eq_ite, Nat.beq_eq] at hp
        split at hp
        · rename_i hsz
          cases hp
          rw [ha] at hra
          obtain ⟨b, base, hb, hV⟩ := rel_ptr hra
          intro v h' nx' hrun htop
          obtain ⟨_, cells, out, _, hh, hk, hend⟩ := runF_row (k := fun _ cells => match over cells off cs with | some cells' => some ⟨fun _ => undefA, some (.row g cells'), none⟩ | none => none) hrun
          split at hk
          · rename_i cells' hov
            cases hk
            cases hend
            obtain ⟨b1, base1, c, e, h1, h2, h3, h4⟩ := s.row id g cells hh
            rw [hb] at h1
            cases h1
            obtain ⟨hcl, hcr⟩ := rel_cells hrx hcs
            have hone : ∀ u ∈ (ρc x').cells.toList, u.oneCell' = true := by
              intro u hu
              obtain ⟨j, hj, rfl⟩ := List.getElem_of_mem hu
              have hj' : j < cs.length := by simpa [hcl] using hj
              obtain ⟨r1, u', r2, r3⟩ := hcr j _ (List.getElem?_eq_getElem hj')
              have : (ρc x').cells.toList[j] = u' := by
                have := Array.getElem?_toList (xs := (ρc x').cells) (i := j)
                rw [List.getElem?_eq_getElem hj, r2] at this
                exact Option.some.inj this
              rw [this]
              exact one_of r3 r1
            have hof := (over_some hov).1
            have hst := run_storeCells_at P b (base + off) e (ρc x').cells.toList 0 c w h2 (by simp [← hcl]; omega) hone
            simp only [Nat.add_zero] at hst
            refine ⟨undef, _, φ, K, .inr ⟨?_, rfl⟩, goes_over s hh hb h2 h3 h4 hov (ρc x').cells.toList (by simp [← hcl]) ?_ (fun j a ha => (hcr j a ha).1), .pure (.tup [] #[] rfl (fun j a v ha => by simp at ha))⟩
            · simp only [execOp, ho]
              refine run_u ?_
              have hsz' : (ρc x').cells.size = sz := by rw [← hcl, hsz]
              simp only [Instr.storeAt, hV, Instr.sureAddr, storeVar, Sem.run_bind, Sem.run_pure, Result.andThen_ok, tSize_run hms, hsz', ne_eq, not_true_eq_false, if_false, hst]
            · intro j a v ha hv
              obtain ⟨_, u, r2, r3⟩ := hcr j a ha
              rw [Array.getElem?_toList, r2] at hv
              cases hv
              exact r3
          · cases hk
        · cases hp
      · cases hp
    · cases hp
  · cases hm
end
end Go.Ax
