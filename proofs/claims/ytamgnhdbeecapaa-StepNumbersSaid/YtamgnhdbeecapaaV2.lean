/- States: those with names for objects, and the interpreter's. -/
import Derived.Test.YtamgnhdbeecapaaV1
set_option linter.unusedSimpArgs false
set_option linter.unusedVariables false
namespace Go.Ax.V

/-! ### Cells that are slices of objects -/
theorem ovAt_cons (j i : Nat) (w : VV) (r : List (Nat × VV)) : ovAt j ((i, w) :: r) = if i = j then some w else ovAt j r := by
  simp only [ovAt, cond_eq_ite, Nat.beq_eq]
theorem ovAt_add (off : Nat) (r : List (Nat × VV)) (j : Nat) : ∀ l, ovAt j (ovAdd off l r) = match (if off ≤ j then ovAt (j - off) l else none) with | some w => some w | none => ovAt j r
  | [] => by simp only [ovAdd, ovAt]; split <;> simp_all
  | (i, w) :: l => by
    simp only [ovAdd, ovAt_cons, ovAt_add off r j l]
    by_cases h : off ≤ j
    · simp only [if_pos h]
      by_cases e : i = j - off
      · rw [if_pos (by omega), if_pos e]
      · rw [if_neg (by omega), if_neg e]
    · simp only [if_neg h]
      rw [if_neg (by omega)]
theorem ovAt_cut (off n j : Nat) : ∀ l, ovAt j (ovCut off n l) = if off ≤ j ∧ j < off + n then none else ovAt j l
  | [] => by simp [ovCut, ovAt]
  | (i, w) :: l => by
    simp only [ovCut, cond_eq_ite, Bool.and_eq_true, Nat.ble_eq, Nat.blt_eq]
    by_cases h : off ≤ i ∧ i < off + n
    · rw [if_pos h, ovAt_cut off n j l, ovAt_cons]
      by_cases e : i = j
      · subst e; rw [if_pos h, if_pos h]
      · rw [if_neg e]
    · rw [if_neg h, ovAt_cons, ovAt_cons, ovAt_cut off n j l]
      by_cases e : i = j
      · subst e; rw [if_pos rfl, if_neg h, if_pos rfl]
      · rw [if_neg e, if_neg e]
theorem ovAt_sub (off n j : Nat) : ∀ l, ovAt j (ovSub off n l) = if j < n then ovAt (j + off) l else none
  | [] => by simp [ovSub, ovAt]
  | (i, w) :: l => by
    simp only [ovSub, cond_eq_ite, Bool.and_eq_true, Nat.ble_eq, Nat.blt_eq]
    by_cases h : off ≤ i ∧ i < off + n
    · rw [if_pos h, ovAt_cons, ovAt_sub off n j l, ovAt_cons]
      by_cases e : i - off = j
      · rw [if_pos e, if_pos (by omega), if_pos (by omega)]
      · rw [if_neg e]
        by_cases hj : j < n
        · rw [if_pos hj, if_pos hj, if_neg (by omega)]
        · rw [if_neg hj, if_neg hj]
    · rw [if_neg h, ovAt_sub off n j l, ovAt_cons]
      by_cases hj : j < n
      · rw [if_pos hj, if_pos hj, if_neg (by omega)]
      · rw [if_neg hj, if_neg hj]

/-! ### What stands for what -/
abbrev Tok := Nat → Option AV
def idOf : AV → Option Nat
  | .ptr id _ _ => some id
  | .ref id _ _ _ _ _ _ => some id
  | _ => none
def SlV (A : Tok) (w : VV) (x : AV) : Prop := match w with
  | .nil0 => x = .nils ∨ x = .imm [] 0 (some 0)
  | .sl O => A O = some x
  | _ => False
def CellR (A : Tok) (o : Option VV) (t : TV) (x : AV) : Prop := match o with
  | none => Can t x ∧ x.flat = true
  | some w => SlV A w x
structure CellsR (A : Tok) (v : TV) (ovs : List (Nat × VV)) (cs : List AV) (ts : List TV) : Prop where
  cells : cellsT v = some ts
  len : ts.length = cs.length
  keys : ∀ j w, ovAt j ovs = some w → j < ts.length
  at_ : ∀ (j : Nat) (t : TV) (x : AV), ts[j]? = some t → cs[j]? = some x → CellR A (ovAt j ovs) t x
inductive VR (A : Tok) : VV → AV → Prop where
  | bad {a} : VR A .bad a
  | tr {v a} (h : Can v a) : VR A (.tr v) a
  | nil0 : VR A .nil0 .nils
  | nil1 : VR A .nil0 (.imm [] 0 (some 0))
  | ptr {O off id} (h : A O = some (.ptr id 0 0)) : VR A (.ptr O off) (.ptr id 0 off)
  | pd {O off id} (h : A O = some (.ptr id 0 0)) : VR A (.pd O off) (.ptr id 0 off)
  | sl {O a} (h : A O = some a) : VR A (.sl O) a
  | ea {O i off id g b sz len cap ex} (h : A O = some (.ref id g b sz len cap ex)) : VR A (.ea O i off) (.ptr id g (b + i * sz + off))
  | pt {v cs b off n} (hl : b + n ≤ cs.length) (hf : ∀ x ∈ cs, AV.flat x = true) (h : CanC v ((cs.drop b).take n)) : VR A (.pt v off) (.iptr cs (b + off))
  | st {v ovs cs ts} (hv : v = .a ts) (h : CellsR A v ovs cs ts) : VR A (.st v ovs) (.agg cs)

/-- elements in a row of cells -/
structure ElR (sz : Nat) (es : List TV) (cs : List AV) : Prop where
  len : cs.length = es.length * sz
  flat : ∀ x ∈ cs, AV.flat x = true
  el : ∀ (j : Nat) (e : TV), es[j]? = some e → CanC e ((cs.drop (j * sz)).take sz)
def SlR (H : Heap) (sz : Nat) (es : List TV) (a : AV) : Prop := 0 < sz ∧ ((es = [] ∧ (a = .nils ∨ a = .imm [] 0 (some 0))) ∨
  ∃ id g b cells, a = .ref id g b sz es.length es.length false ∧ H.get id = some (.row g cells) ∧ b ≤ cells.length ∧ ElR sz es (cells.drop b))
def OR (A : Tok) (H : Heap) (o : VO) (a : AV) : Prop := match o with
  | .ob v ovs => ∃ id cs ts, a = .ptr id 0 0 ∧ H.get id = some (.row 0 cs) ∧ CellsR A v ovs cs ts
  | .gr sz es => SlR H sz es a

structure R (A : Tok) (V : VSt) (st : St) : Prop where
  env : ∀ t e, V.env.get t = some e → ∃ a, st.env.get t = some a ∧ ((∀ c bb, e.gd = some (c, bb) → c = .b bb) → VR A e.v a)
  heap : ∀ O o, V.H.get O = some o → ∃ a, A O = some a ∧ OR A st.H o a
  inj : ∀ O O' o o' a a' id, V.H.get O = some o → V.H.get O' = some o' → A O = some a → A O' = some a' → idOf a = some id → idOf a' = some id → O = O'
  used : ∀ O, V.us.get O = none → A O = none
  one : ∀ O a, A O = some a → a.one = true
  fresh : ∀ id o, st.H.get id = some o → id < st.nx
def Own (V : VSt) (A : Tok) (id : Nat) : Prop := ∃ O o a, V.H.get O = some o ∧ A O = some a ∧ idOf a = some id
/-- what a way leaves as it was -/
structure Fr (V : VSt) (A : Tok) (H : Heap) (nx : Nat) (V' : VSt) (A' : Tok) (H' : Heap) (nx' : Nat) : Prop where
  le : nx ≤ nx'
  same : ∀ id, id < nx → ¬ Own V A id → H'.get id = H.get id
  own : ∀ id, Own V' A' id → Own V A id ∨ nx ≤ id
theorem Fr.refl (V : VSt) (A : Tok) (H : Heap) (nx : Nat) : Fr V A H nx V A H nx := ⟨Nat.le_refl _, fun _ _ _ => rfl, fun _ h => .inl h⟩
theorem Fr.trans {V A H nx V1 A1 H1 nx1 V2 A2 H2 nx2} (h : Fr V A H nx V1 A1 H1 nx1) (h' : Fr V1 A1 H1 nx1 V2 A2 H2 nx2) : Fr V A H nx V2 A2 H2 nx2 where
  le := Nat.le_trans h.le h'.le
  same id hid hn := by
    rw [h'.same id (Nat.lt_of_lt_of_le hid h.le) (fun ho => (h.own id ho).elim hn (fun hle => by omega)), h.same id hid hn]
  own id ho := (h'.own id ho).elim (fun h1 => h.own id h1) (fun hle => .inr (Nat.le_trans h.le hle))
/-- the same objects, other temporaries -/
theorem Fr.ofH {V V' : VSt} {A : Tok} {H : Heap} {nx : Nat} (h : ∀ O o, V'.H.get O = some o → ∃ o', V.H.get O = some o') : Fr V A H nx V' A H nx :=
  ⟨Nat.le_refl _, fun _ _ _ => rfl, fun _ ⟨O, o, a, h1, h2, h3⟩ => let ⟨o', h'⟩ := h O o h1; .inl ⟨O, o', a, h', h2, h3⟩⟩

def act : G → Prop
  | none => True
  | some (c, bb) => c = .b bb

theorem SlV.mono {A A' : Tok} (h : ∀ O a, A O = some a → A' O = some a) {w : VV} {x : AV} (hs : SlV A w x) : SlV A' w x := by
  cases w <;> first | exact hs | exact h _ _ hs
theorem CellsR.mono {A A' : Tok} (h : ∀ O a, A O = some a → A' O = some a) {v : TV} {ovs : List (Nat × VV)} {cs : List AV} {ts : List TV} (hc : CellsR A v ovs cs ts) : CellsR A' v ovs cs ts :=
  ⟨hc.cells, hc.len, hc.keys, fun j t x ht hx => by
    have := hc.at_ j t x ht hx
    unfold CellR at this ⊢
    split at this
    · exact this
    · exact SlV.mono h this⟩
theorem VR.mono {A A' : Tok} (h : ∀ O a, A O = some a → A' O = some a) {w : VV} {x : AV} (hv : VR A w x) : VR A' w x := by
  cases hv with
  | bad => exact .bad
  | tr h => exact .tr h
  | nil0 => exact .nil0
  | nil1 => exact .nil1
  | ptr h1 => exact .ptr (h _ _ h1)
  | pd h1 => exact .pd (h _ _ h1)
  | sl h1 => exact .sl (h _ _ h1)
  | ea h1 => exact .ea (h _ _ h1)
  | pt hl hf h1 => exact .pt hl hf h1
  | st hv h1 => exact .st hv (h1.mono h)
theorem OR.mono {A A' : Tok} {H H' : Heap} (h : ∀ O a, A O = some a → A' O = some a) {o : VO} {a : AV} (hH : ∀ id, idOf a = some id → H'.get id = H.get id) (ho : OR A H o a) : OR A' H' o a := by
  cases o with
  | ob v ovs =>
    obtain ⟨id, cs, ts, rfl, h2, h3⟩ := ho
    exact ⟨id, cs, ts, rfl, by rw [hH id rfl]; exact h2, h3.mono h⟩
  | gr sz es =>
    obtain ⟨hz, h1⟩ := ho
    refine ⟨hz, h1.imp id ?_⟩
    rintro ⟨id, g, b, cells, rfl, h2, h3, h4⟩
    exact ⟨id, g, b, cells, rfl, by rw [hH id rfl]; exact h2, h3, h4⟩
/-- the object of a name is there -/
theorem OR.there {A : Tok} {H : Heap} {o : VO} {a : AV} (ho : OR A H o a) {id : Nat} (hi : idOf a = some id) : ∃ ob, H.get id = some ob := by
  cases o with
  | ob v ovs => obtain ⟨id', cs, ts, rfl, h2, h3⟩ := ho; cases hi; exact ⟨_, h2⟩
  | gr sz es =>
    obtain ⟨hz, h1⟩ := ho
    rcases h1 with ⟨_, rfl | rfl⟩ | ⟨id', g, b, cells, rfl, h2, _⟩
    · cases hi
    · cases hi
    · cases hi; exact ⟨_, h2⟩
theorem R.own_lt {A : Tok} {V : VSt} {st : St} (h : R A V st) {id : Nat} (ho : Own V A id) : id < st.nx := by
  obtain ⟨O, o, a, h1, h2, h3⟩ := ho
  obtain ⟨a', h4, h5⟩ := h.heap O o h1
  rw [h2] at h4; cases h4
  obtain ⟨ob, h6⟩ := h5.there h3
  exact h.fresh _ _ h6

/-! ### Operands -/
theorem can_nil1 : Can (.l []) (.imm [] 0 (some 0)) := .imm [] [] 0 1 _ rfl rfl (by omega) (fun x hx => by cases hx) (fun j e h => by simp at h)
theorem base_can {v : AV} (h : constOk v = true) : Can (baseOf v) v ∧ v.flat = true := by
  cases v <;> first | (cases h; done) | exact ⟨by constructor, rfl⟩
theorem bases_len : ∀ l, (basesOf l).length = l.length
  | [] => rfl
  | x :: xs => by simp [basesOf, bases_len xs]
theorem bases_at : ∀ (l : List AV) (j : Nat), (basesOf l)[j]? = l[j]?.map baseOf
  | [], j => by simp [basesOf]
  | x :: xs, 0 => rfl
  | x :: xs, j + 1 => by simp [basesOf, bases_at xs j]
theorem nilsAt_at : ∀ (l : List AV) (i j : Nat), ovAt j (nilsAt i l) = if i ≤ j then (match l[j - i]? with | some .nils => some .nil0 | _ => none) else none
  | [], i, j => by simp [nilsAt, ovAt]
  | x :: xs, i, j => by
    have ih := nilsAt_at xs (i + 1) j
    have rest : (if i + 1 ≤ j then (match xs[j - (i + 1)]? with | some .nils => some VV.nil0 | _ => none) else none) = if i ≤ j then (if i = j then none else (match (x :: xs)[j - i]? with | some .nils => some .nil0 | _ => none)) else none := by
      by_cases h : i + 1 ≤ j
      · rw [if_pos h, if_pos (by omega), if_neg (by omega), show j - i = (j - (i + 1)) + 1 by omega, List.getElem?_cons_succ]
      · rw [if_neg h]
        by_cases h2 : i ≤ j
        · rw [if_pos h2, if_pos (by omega)]
        · rw [if_neg h2]
    by_cases hx : x = .nils
    · subst hx
      simp only [nilsAt, ovAt_cons, ih, rest]
      by_cases h : i ≤ j
      · rw [if_pos h, if_pos h]
        by_cases e : i = j
        · subst e; simp
        · rw [if_neg e, if_neg e]
      · rw [if_neg h, if_neg h, if_neg (by omega)]
    · have : nilsAt i (x :: xs) = nilsAt (i + 1) xs := by cases x <;> first | rfl | exact absurd rfl hx
      rw [this, ih, rest]
      by_cases h : i ≤ j
      · rw [if_pos h, if_pos h]
        by_cases e : i = j
        · subst e
          rw [if_pos rfl]
          simp only [Nat.sub_self, List.getElem?_cons_zero]
          cases x <;> first | rfl | exact absurd rfl hx
        · rw [if_neg e]
      · rw [if_neg h, if_neg h]
theorem cells_const (A : Tok) {cs : List AV} (h : allB constOk cs = true) : CellsR A (.a (basesOf cs)) (nilsAt 0 cs) cs (basesOf cs) := by
  refine ⟨rfl, bases_len cs, fun j w hj => ?_, fun j t x ht hx => ?_⟩
  · rw [nilsAt_at, if_pos (Nat.zero_le _)] at hj
    rw [bases_len]
    cases hc : cs[j]? with
    | none => simp [hc] at hj
    | some y => exact (List.getElem?_eq_some_iff.1 hc).1
  · rw [bases_at, hx] at ht
    cases ht
    rw [nilsAt_at, if_pos (Nat.zero_le _), Nat.sub_zero, hx]
    have := base_can (allB_true.1 h x (List.mem_of_getElem? hx))
    cases x <;> first | exact this | exact .inl rfl
theorem const_vr (A : Tok) (v : AV) : VR A (constV v) v := by
  unfold constV
  split
  · exact .nil0
  · rename_i cs
    rw [cond_eq_ite]
    split
    · rename_i h; exact .st rfl (cells_const A h)
    · exact .bad
  · exact .bad
  · rw [cond_eq_ite]
    split
    · rename_i h; exact .tr (base_can h).1
    · exact .bad

section
variable {A : Tok} {V : VSt} {st : St} {g : G}
theorem ev_get {e : Env} {n : Nat} {a : AV} (h : e.get n = some a) : ev e (.t n) = a := by simp only [ev, h]
theorem rdK_sim (h : R A V st) (ha : act g) {x : Opd} {k : VV → Prop} (hk : rdK V g x k) : ∃ w, VR A w (ev st.env x) ∧ k w := by
  cases x with
  | c v => exact ⟨_, const_vr A v, hk⟩
  | t n =>
    simp only [rdK] at hk
    split at hk
    · cases hk
    rename_i e he
    obtain ⟨a, h1, h2⟩ := h.env n e he
    split at hk
    · rename_i hg
      exact ⟨e.v, by rw [ev_get h1]; exact h2 (fun c bb hc => by rw [hg] at hc; cases hc), hk⟩
    · rename_i q hq
      split at hk
      · cases hk
      rename_i p
      obtain ⟨rfl, hk⟩ := hk
      exact ⟨e.v, by rw [ev_get h1]; exact h2 (fun c bb hc => by rw [hq] at hc; cases hc; exact ha), hk⟩
theorem vr_tree {w : VV} {a : AV} (hv : VR A w a) {k : TV → Prop} (hk : treeK w k) : ∃ v, Can v a ∧ k v := by
  cases hv <;> first | (cases hk; done) | skip
  · rename_i v hc; exact ⟨v, hc, hk⟩
  · exact ⟨_, .nil, hk⟩
  · exact ⟨_, can_nil1, hk⟩
theorem rdT_sim (h : R A V st) (ha : act g) {x : Opd} {k : TV → Prop} (hk : rdT V g x k) : ∃ v, Can v (ev st.env x) ∧ k v := by
  obtain ⟨w, h1, h2⟩ := rdK_sim h ha hk
  exact vr_tree h1 h2
theorem ordT_sim (h : R A V st) (ha : act g) {x : Option Opd} {k : Option TV → Prop} (hk : ordT V g x k) : ∃ v, k v ∧ (match x with | none => v = none | some x => ∃ u, v = some u ∧ Can u (ev st.env x)) := by
  cases x with
  | none => exact ⟨none, hk, rfl⟩
  | some x => obtain ⟨v, h1, h2⟩ := rdT_sim h ha hk; exact ⟨some v, h2, v, rfl, h1⟩
theorem rdTs_sim (h : R A V st) (ha : act g) : ∀ {xs : List Opd} {k : List TV → Prop}, rdTs V g xs k → ∃ vs, CanL vs (xs.map (ev st.env)) ∧ k vs
  | [], k, hk => ⟨[], ⟨rfl, fun j t x ht => by simp at ht⟩, hk⟩
  | x :: xs, k, hk => by
    obtain ⟨v, h1, h2⟩ := rdT_sim h ha hk
    obtain ⟨vs, h3, h4⟩ := rdTs_sim h ha h2
    refine ⟨v :: vs, ⟨by simp [h3.1], fun j t y ht hy => ?_⟩, h4⟩
    cases j with
    | zero => simp at ht hy; subst ht; subst hy; exact h1
    | succ j => simp at ht hy; exact h3.2 j t y ht (by simpa using hy)
end

/-- the cells of a value that can be stored -/
theorem vr_cells {A : Tok} (hone : ∀ O a, A O = some a → a.one = true) {w : VV} {a : AV} (hv : VR A w a) {t : TV} {o : List (Nat × VV)} (hs : stOf w = some (t, o)) {ts : List TV} (hc : cellsT t = some ts) :
    ∃ as, a.cells? = some as ∧ CellsR A t o as ts := by
  have single : ∀ {w : VV} {x : AV}, SlV A w x → x.cells? = some [x] → CellsR A (.l []) [(0, w)] [x] [.l []] := fun {w x} h1 h2 =>
    ⟨rfl, rfl, (fun j u hj => by
      rw [ovAt_cons] at hj
      split at hj
      · subst_vars; simp
      · cases hj), (fun j u y hu hy => by
      cases j with
      | zero => simp at hu hy; subst hu; subst hy; rw [ovAt_cons, if_pos rfl]; exact h1
      | succ j => simp at hu)⟩
  cases hv <;> first | (cases hs; done) | skip
  · rename_i v h
    cases hs
    obtain ⟨as, h1, h2⟩ := can_cells h hc
    exact ⟨as, h1, hc, h2.1.1, fun j w hj => by simp [ovAt] at hj, fun j u x hu hx => ⟨h2.1.2 j u x hu hx, h2.2 x (List.mem_of_getElem? hx)⟩⟩
  · cases hs; cases hc; exact ⟨_, rfl, single (.inl rfl) rfl⟩
  · cases hs; cases hc; exact ⟨_, rfl, single (.inr rfl) rfl⟩
  · rename_i O h
    cases hs; cases hc
    have hc : a.cells? = some [a] := by have := hone _ _ h; cases a <;> first | rfl | cases this
    exact ⟨_, hc, single (w := .sl O) h hc⟩
  · rename_i v ovs cs ts' hv' h
    cases hs
    have := h.cells.symm.trans hc; cases this
    exact ⟨_, rfl, h⟩
/-- cells are put over others -/
theorem cells_put {A : Tok} {v u t : TV} {ovs o : List (Nat × VV)} {cs as : List AV} {vs ts : List TV} {off n : Nat} (hv : CellsR A v ovs cs vs) (ht : CellsR A t o as ts) (hp : putT v off n t = some u) :
    as.length = n ∧ ∃ cs' us, over cs off as = some cs' ∧ CellsR A u (ovAdd off o (ovCut off n ovs)) cs' us ∧ (∀ l, v = .a l → ∃ l', u = .a l') := by
  obtain ⟨ts', xs, us, h1, h2, h3, h4, h5, h6, h7⟩ := putT_some hp
  have e1 := hv.cells.symm.trans h1; cases e1
  have e2 := ht.cells.symm.trans h2; cases e2
  have hn : as.length = n := by rw [← ht.len]; exact h3
  have hov : over cs off as = some (cs.take off ++ as ++ cs.drop (off + as.length)) := by rw [over_eq, if_pos (by rw [hn, ← hv.len]; exact h6)]
  obtain ⟨hl', hat⟩ := over_at hov
  refine ⟨hn, _, us, hov, ⟨h4, by rw [h5, hl', hv.len], fun j w hj => ?_, fun j t' x ht' hx => ?_⟩, fun l e => ?_⟩
  · rw [ovAt_add] at hj
    rw [h5]
    by_cases ho : off ≤ j
    · simp only [if_pos ho] at hj
      cases hq : ovAt (j - off) o with
      | some w' => have := ht.keys _ _ hq; omega
      | none =>
        rw [hq, ovAt_cut] at hj
        simp only at hj
        split at hj
        · cases hj
        · exact hv.keys _ _ hj
    · simp only [if_neg ho, ovAt_cut] at hj
      split at hj
      · cases hj
      · exact hv.keys _ _ hj
  · rw [h7] at ht'
    rw [hat, hn] at hx
    rw [ovAt_add]
    by_cases hc : off ≤ j ∧ j < off + n
    · rw [if_pos hc] at ht' hx
      simp only [if_pos hc.1]
      have := ht.at_ _ _ _ ht' hx
      cases hq : ovAt (j - off) o with
      | some w' => rw [hq] at this; exact this
      | none =>
        rw [hq] at this
        simp only [ovAt_cut, if_pos hc]
        exact this
    · rw [if_neg hc] at ht' hx
      have := hv.at_ _ _ _ ht' hx
      by_cases ho : off ≤ j
      · simp only [if_pos ho]
        cases hq : ovAt (j - off) o with
        | some w' => have := ht.keys _ _ hq; omega
        | none => simp only [ovAt_cut, if_neg hc]; exact this
      · simp only [if_neg ho, ovAt_cut, if_neg hc]
        exact this
  · subst e
    unfold putT at hp
    simp only [h2, h3, cond_eq_ite, Nat.beq_eq, if_pos rfl] at hp
    split at hp
    · split at hp
      · exact ⟨_, (Option.some.inj hp).symm⟩
      · cases hp
    · rename_i hh; exact absurd (by first | rfl | trivial) hh
end Go.Ax.V
