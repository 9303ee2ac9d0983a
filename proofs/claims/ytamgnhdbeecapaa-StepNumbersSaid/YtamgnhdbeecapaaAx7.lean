/- Each operation of the interpreter is what the machine does: equalities, the greater and the smaller. -/
import Derived.Test.YtamgnhdbeecapaaAx6
import Derived.ChangeKeysEq
set_option linter.unusedSimpArgs false
set_option linter.unusedVariables false
namespace Go.Ax

theorem eqL_nil (a b : List AV) : eqL [] a b = match a with | [] => (match b with | [] => some true | _ :: _ => none) | _ :: _ => none := rfl
theorem eqL_cons (l : Leaf) (ls : List Leaf) (a b : List AV) : eqL (l :: ls) a b = match a with
  | [] => none
  | x :: xs => match b with
    | [] => none
    | y :: ys => match eqS l x y with
      | none => none
      | some u => match eqL ls xs ys with
        | none => none
        | some c => some (u && c) := rfl

theorem eqL_append (l1 l2 : List Leaf) : ∀ (a b : List AV) (r : Bool), eqL (l1 ++ l2) a b = some r → ∃ r1 r2, eqL l1 (a.take l1.length) (b.take l1.length) = some r1 ∧ eqL l2 (a.drop l1.length) (b.drop l1.length) = some r2 ∧ r = (r1 && r2) := by
  induction l1 with
  | nil => intro a b r h; exact ⟨true, r, by simp [eqL_nil], by simpa using h, by simp⟩
  | cons l ls ih =>
    intro a b r h
    rw [List.cons_append, eqL_cons] at h
    cases a with
    | nil => cases h
    | cons x xs =>
      cases b with
      | nil => cases h
      | cons y ys =>
        simp only at h
        cases hu : eqS l x y with
        | none => rw [hu] at h; cases h
        | some u =>
          rw [hu] at h
          simp only at h
          cases hc : eqL (ls ++ l2) xs ys with
          | none => rw [hc] at h; cases h
          | some c =>
            rw [hc] at h
            cases h
            obtain ⟨r1, r2, h1, h2, rfl⟩ := ih xs ys c hc
            refine ⟨u && r1, r2, ?_, by simpa using h2, by rw [Bool.and_assoc]⟩
            simp only [List.length_cons, List.take_succ_cons, eqL_cons, hu, h1]

def tLeafF (P : Program) (rec : TypeId → Option (List Leaf)) : List Field → Nat → Option (List Leaf)
  | [], _ => some []
  | f :: fs, k => bif decide (f.name ≠ "_") && Nat.beq f.offset k then match rec f.type with
    | none => none
    | some ls => match tLeafF P rec fs (k + ls.length) with
      | none => none
      | some rest => some (ls ++ rest)
    else none
/-- the kinds of a type's cells, if all are scalars -/
def tLeafs (P : Program) : Nat → TypeId → Option (List Leaf)
  | 0, _ => none
  | d + 1, t => match P.underlying t with
    | some (.int _) => some [.int]
    | some .bool => some [.bool]
    | some .string => some [.str]
    | some (.struct fs) => match tLeafF P (tLeafs P d) fs.toList 0 with
      | none => none
      | some ls => bif tSize P t ls.length && !(P.stoodInHeld t) then some ls else none
    | some (.array n e) => match tLeafs P d e with
      | none => none
      | some ls => bif tSize P e ls.length && tSize P t (n * ls.length) then some (List.replicate n ls).flatten else none
    | _ => none

section
variable {top : Nat} {P : Program} {φ : Phi} {K : Nat → Prop} {h : HeapF} {nx : Nat} {w : World} {ρ : Opd → AV} {ρc : Operand → Value} {o : Oper}

/-- concrete cells behind abstract ones -/
def CellsAt (φ : Phi) (K : Nat → Prop) (w : World) (a : List AV) (xs : Array Value) (off : Nat) : Prop := ∀ (j : Nat) (x : AV), a[j]? = some x → ∃ v, xs[off + j]? = some v ∧ RelV φ K w x v

theorem CellsAt.take {a : List AV} {xs : Array Value} {off n : Nat} (hc : CellsAt φ K w a xs off) : CellsAt φ K w (a.take n) xs off := fun j x hx => hc j x (by
  rw [List.getElem?_take] at hx
  split at hx
  · exact hx
  · cases hx)
theorem CellsAt.drop {a : List AV} {xs : Array Value} {off n : Nat} (hc : CellsAt φ K w a xs off) : CellsAt φ K w (a.drop n) xs (off + n) := fun j x hx => by
  obtain ⟨v, h1, h2⟩ := hc (n + j) x (by rwa [List.getElem?_drop] at hx)
  exact ⟨v, by rw [← h1, Nat.add_assoc], h2⟩

theorem eqS_rel {l : Leaf} {x y : AV} {X Y : Value} {r : Bool} (he : eqS l x y = some r) (hx : RelV φ K w x X) (hy : RelV φ K w y Y) :
    (l = .int ∧ ∃ k a b, X = .int k a ∧ Y = .int k b ∧ r = (a == b)) ∨ (l = .bool ∧ ∃ a b, X = .bool a ∧ Y = .bool b ∧ r = (a == b)) ∨ (l = .str ∧ ∃ a b, X = .string a ∧ Y = .string b ∧ r = (a == b)) := by
  cases l <;> unfold eqS at he <;> simp only at he
  · split at he
    · split at he
      · rw [cond_eq_ite] at he
        split at he
        · rename_i k n _ k' m hk
          cases he
          have := eqK_eq hk
          subst this
          have h1 := rel_int hx
          have h2 := rel_int hy
          exact .inl ⟨rfl, k, n, m, h1, h2, by rw [eqA_eq, Bool.beq_eq_decide_eq]⟩
        · cases he
      · cases he
    · cases he
  · split at he
    · split at he
      · cases he
        exact .inr (.inl ⟨rfl, _, _, rel_bool hx, rel_bool hy, rfl⟩)
      · cases he
    · cases he
  · split at he
    · split at he
      · cases he
        exact .inr (.inr ⟨rfl, _, _, rel_str hx, rel_str hy, rfl⟩)
      · cases he
    · cases he

/-- of two values of a type, at these cells: they are taken out, and told equal or not. -/
def EqT1 (P : Program) (φ : Phi) (K : Nat → Prop) (w : World) (d : Nat) (t : TypeId) (ls : List Leaf) : Prop :=
  ∀ (D : Nat) (xs ys : Array Value) (ox oy : Nat) (a b : List AV) (r : Bool), CellsAt φ K w a xs ox → CellsAt φ K w b ys oy → eqL ls a b = some r →
    ∃ VX VY, (part t xs ox).run P w = .ok VX w ∧ (part t ys oy).run P w = .ok VY w ∧ (Op.equalIn (D + d) t VX VY).run P w = .ok r w

theorem eqL_len {ls : List Leaf} : ∀ {a b : List AV} {r : Bool}, eqL ls a b = some r → a.length = ls.length ∧ b.length = ls.length := by
  induction ls with
  | nil =>
    intro a b r h
    cases a with
    | nil => cases b with
      | nil => exact ⟨rfl, rfl⟩
      | cons y ys => cases h
    | cons x xs => cases h
  | cons l ls ih =>
    intro a b r h
    rw [eqL_cons] at h
    cases a with
    | nil => cases h
    | cons x xs => cases b with
      | nil => cases h
      | cons y ys =>
        simp only at h
        cases hu : eqS l x y with
        | none => rw [hu] at h; cases h
        | some u =>
          rw [hu] at h
          simp only at h
          cases hc : eqL ls xs ys with
          | none => rw [hc] at h; cases h
          | some c => obtain ⟨h1, h2⟩ := ih hc; simp [h1, h2]

theorem eqFields_run {d : Nat} {rec : TypeId → Option (List Leaf)} (IH : ∀ t ls, rec t = some ls → EqT1 P φ K w d t ls) (D : Nat) (xs ys : Array Value) : ∀ (fs : List Field) (k : Nat) (ls : List Leaf) (a b : List AV) (r : Bool),
    tLeafF P rec fs k = some ls → CellsAt φ K w a xs k → CellsAt φ K w b ys k → eqL ls a b = some r → (Op.eqFields (D + d) xs ys fs).run P w = .ok r w := by
  intro fs
  induction fs with
  | nil =>
    intro k ls a b r hl ha hb he
    cases hl
    cases a with
    | nil => cases b with
      | nil => cases he; rfl
      | cons y ys => cases he
    | cons x xs => cases he
  | cons f fs ih =>
    intro k ls a b r hl ha hb he
    simp only [tLeafF, cond_eq_ite, Bool.and_eq_true, decide_eq_true_eq, Nat.beq_eq] at hl
    split at hl
    · rename_i hc
      obtain ⟨hname, rfl⟩ := hc
      cases hr1 : rec f.type with
      | none => rw [hr1] at hl; cases hl
      | some l1 =>
        rw [hr1] at hl
        simp only at hl
        cases hr2 : tLeafF P rec fs (f.offset + l1.length) with
        | none => rw [hr2] at hl; cases hl
        | some l2 =>
          rw [hr2] at hl
          cases hl
          obtain ⟨r1, r2, e1, e2, rfl⟩ := eqL_append l1 l2 a b r he
          obtain ⟨VX, VY, p1, p2, p3⟩ := IH _ _ hr1 D xs ys f.offset f.offset _ _ r1 ha.take hb.take e1
          have hrest := ih (f.offset + l1.length) l2 _ _ r2 hr2 ha.drop hb.drop e2
          simp only [Op.eqFields, ne_eq, hname, not_false_eq_true, if_true, Sem.run_bind, p1, p2, p3, Result.andThen_ok, Sem.run_ite]
          cases r1
          · simp
          · simpa using hrest
    · cases hl

theorem eqItems_run {d : Nat} {e : TypeId} {l1 : List Leaf} (IH : EqT1 P φ K w d e l1) (hs : P.cellsOf e = l1.length) (D : Nat) (xs ys : Array Value) : ∀ (n i : Nat) (a b : List AV) (r : Bool),
    CellsAt φ K w a xs (i * l1.length) → CellsAt φ K w b ys (i * l1.length) → eqL (List.replicate n l1).flatten a b = some r → (Op.eqItems (D + d) e (P.cellsOf e) xs ys (List.range' i n)).run P w = .ok r w := by
  intro n
  induction n with
  | zero =>
    intro i a b r ha hb he
    simp only [List.replicate_zero, List.flatten_nil] at he
    cases a with
    | nil => cases b with
      | nil => cases he; rfl
      | cons y ys => cases he
    | cons x xs => cases he
  | succ n ih =>
    intro i a b r ha hb he
    rw [List.replicate_succ, List.flatten_cons] at he
    obtain ⟨r1, r2, e1, e2, rfl⟩ := eqL_append l1 _ a b r he
    obtain ⟨VX, VY, p1, p2, p3⟩ := IH D xs ys _ _ _ _ r1 ha.take hb.take e1
    have hrest := ih (i + 1) _ _ r2 (by rw [Nat.succ_mul]; exact ha.drop) (by rw [Nat.succ_mul]; exact hb.drop) e2
    rw [List.range'_succ]
    rw [hs] at hrest ⊢
    simp only [Op.eqItems, Sem.run_bind, p1, p2, p3, Result.andThen_ok, Sem.run_ite]
    cases r1
    · simp
    · simpa using hrest

theorem eqT_run : ∀ (d : Nat) (t : TypeId) (ls : List Leaf), tLeafs P d t = some ls → EqT1 P φ K w d t ls
  | 0, _, _, hl => by cases hl
  | d + 1, t, ls, hl => by
    intro D xs ys ox oy a b r ha hb he
    simp only [tLeafs] at hl
    have scal : ∀ l : Leaf, ls = [l] → (∀ dd, P.underlying t = some dd → aggOf dd = false) → (∃ dd, P.underlying t = some dd) → ∃ x y, a = [x] ∧ b = [y] ∧ eqS l x y = some r ∧ ∃ X Y, (part t xs ox).run P w = .ok X w ∧ (part t ys oy).run P w = .ok Y w ∧ RelV φ K w x X ∧ RelV φ K w y Y := by
      rintro l rfl hag ⟨dd, hdd⟩
      obtain ⟨h1, h2⟩ := eqL_len he
      obtain ⟨x, rfl⟩ := List.length_eq_one_iff.1 h1
      obtain ⟨y, rfl⟩ := List.length_eq_one_iff.1 h2
      refine ⟨x, y, rfl, rfl, ?_, ?_⟩
      · rw [eqL_cons] at he
        simp only [eqL_nil] at he
        cases hu : eqS l x y with
        | none => rw [hu] at he; cases he
        | some u => rw [hu] at he; simp at he; rw [he]
      · obtain ⟨X, hX1, hX2⟩ := ha 0 x rfl
        obtain ⟨Y, hY1, hY2⟩ := hb 0 y rfl
        simp only [Nat.add_zero] at hX1 hY1
        have := hag dd hdd
        exact ⟨X, Y, by simp [part, isAgg_run hdd, this, hX1], by simp [part, isAgg_run hdd, this, hY1], hX2, hY2⟩
    cases hu : P.underlying t with
    | none => rw [hu] at hl; cases hl
    | some dd =>
      rw [hu] at hl
      cases dd <;> simp only at hl <;> try (cases hl; done)
      case bool =>
        cases hl
        obtain ⟨x, y, rfl, rfl, e1, X, Y, p1, p2, r1, r2⟩ := scal .bool rfl (fun dd h => by rw [hu] at h; cases h; rfl) ⟨_, hu⟩
        rcases eqS_rel e1 r1 r2 with ⟨hh, _⟩ | ⟨_, a, b, rfl, rfl, rfl⟩ | ⟨hh, _⟩
        · cases hh
        · exact ⟨_, _, p1, p2, run_equalIn_bool' w (D + d) t a b hu⟩
        · cases hh
      case int kk =>
        cases hl
        obtain ⟨x, y, rfl, rfl, e1, X, Y, p1, p2, r1, r2⟩ := scal .int rfl (fun dd h => by rw [hu] at h; cases h; rfl) ⟨_, hu⟩
        rcases eqS_rel e1 r1 r2 with ⟨_, k, a, b, rfl, rfl, rfl⟩ | ⟨hh, _⟩ | ⟨hh, _⟩
        · exact ⟨_, _, p1, p2, run_equalIn_int w (D + d) t k kk a b hu⟩
        · cases hh
        · cases hh
      case string =>
        cases hl
        obtain ⟨x, y, rfl, rfl, e1, X, Y, p1, p2, r1, r2⟩ := scal .str rfl (fun dd h => by rw [hu] at h; cases h; rfl) ⟨_, hu⟩
        rcases eqS_rel e1 r1 r2 with ⟨hh, _⟩ | ⟨hh, _⟩ | ⟨_, a, b, rfl, rfl, rfl⟩
        · cases hh
        · cases hh
        · refine ⟨_, _, p1, p2, ?_⟩
          rw [show D + (d + 1) = (D + d) + 1 from rfl, run_equalIn_string w (D + d) t a b hu, beq_toListBytes]
      case struct fs =>
        cases hf : tLeafF P (tLeafs P d) fs.toList 0 with
        | none => rw [hf] at hl; cases hl
        | some l1 =>
          rw [hf] at hl
          simp only [cond_eq_ite, Bool.and_eq_true, Bool.not_eq_true'] at hl
          split at hl
          · rename_i hc
            cases hl
            obtain ⟨hla, hlb⟩ := eqL_len he
            have hsz := tSize_run hc.1 w
            refine ⟨.agg (xs.extract ox (ox + ls.length)), .agg (ys.extract oy (oy + ls.length)), by simp [part, isAgg_run hu, aggOf, hsz], by simp [part, isAgg_run hu, aggOf, hsz], ?_⟩
            have hfo : P.fieldsOf t = fs := by simp [Program.fieldsOf, hu]
            rw [show D + (d + 1) = (D + d) + 1 from rfl, run_equalIn_struct w (D + d) t _ _ (by rw [hfo]; exact hu) hc.2, hfo]
            refine eqFields_run (fun t ls h => eqT_run d t ls h) D _ _ fs.toList 0 ls a b r hf (fun j x hx => ?_) (fun j x hx => ?_) he
            · obtain ⟨v, h1, h2⟩ := ha j x hx
              have hj : j < ls.length := by
                rcases Nat.lt_or_ge j a.length with h' | h'
                · omega
                · rw [List.getElem?_eq_none h'] at hx; cases hx
              exact ⟨v, by have hlt := (Array.getElem?_eq_some_iff.1 h1).1; rw [Array.getElem?_extract, if_pos (by omega), ← h1]; congr 1; omega, h2⟩
            · obtain ⟨v, h1, h2⟩ := hb j x hx
              have hj : j < ls.length := by
                rcases Nat.lt_or_ge j b.length with h' | h'
                · omega
                · rw [List.getElem?_eq_none h'] at hx; cases hx
              exact ⟨v, by have hlt := (Array.getElem?_eq_some_iff.1 h1).1; rw [Array.getElem?_extract, if_pos (by omega), ← h1]; congr 1; omega, h2⟩
          · cases hl
      case array n e =>
        cases hf : tLeafs P d e with
        | none => rw [hf] at hl; cases hl
        | some l1 =>
          rw [hf] at hl
          simp only [cond_eq_ite, Bool.and_eq_true] at hl
          split at hl
          · rename_i hc
            cases hl
            obtain ⟨hla, hlb⟩ := eqL_len he
            have hsz := tSize_run hc.2 w
            have hlen : (List.replicate n l1).flatten.length = n * l1.length := by simp
            rw [hlen] at hla hlb
            obtain ⟨i, hi, hin⟩ := tInfo_some hc.1
            rw [Nat.beq_eq] at hin
            have hce : P.cellsOf e = l1.length := by simp [Program.cellsOf, hi, hin]
            refine ⟨.agg (xs.extract ox (ox + n * l1.length)), .agg (ys.extract oy (oy + n * l1.length)), by simp [part, isAgg_run hu, aggOf, hsz], by simp [part, isAgg_run hu, aggOf, hsz], ?_⟩
            rw [show D + (d + 1) = (D + d) + 1 from rfl, run_equalIn_array w (D + d) _ _ hu hi, List.range_eq_range']
            refine eqItems_run (eqT_run d e l1 hf) hce D _ _ n 0 a b r (fun j x hx => ?_) (fun j x hx => ?_) he
            · obtain ⟨v, h1, h2⟩ := ha j x hx
              have hj : j < n * l1.length := by
                rcases Nat.lt_or_ge j a.length with h' | h'
                · omega
                · rw [List.getElem?_eq_none h'] at hx; cases hx
              exact ⟨v, by have hlt := (Array.getElem?_eq_some_iff.1 h1).1; rw [Array.getElem?_extract, if_pos (by omega), ← h1]; congr 1; omega, h2⟩
            · obtain ⟨v, h1, h2⟩ := hb j x hx
              have hj : j < n * l1.length := by
                rcases Nat.lt_or_ge j b.length with h' | h'
                · omega
                · rw [List.getElem?_eq_none h'] at hx; cases hx
              exact ⟨v, by have hlt := (Array.getElem?_eq_some_iff.1 h1).1; rw [Array.getElem?_extract, if_pos (by omega), ← h1]; congr 1; omega, h2⟩
          · cases hl

theorem tLeafs_agg {d : Nat} {t : TypeId} {ls : List Leaf} (hl : tLeafs P d t = some ls) (hag : tDesc P t aggOf = true) : tVar P t (some ls.length) = true := by
  simp only [tVar, hag, Bool.true_and]
  obtain ⟨dd, hu, ha⟩ := tDesc_some hag
  cases d with
  | zero => cases hl
  | succ d =>
    simp only [tLeafs, hu] at hl
    cases dd <;> simp only at hl <;> try (cases hl; done)
    case struct fs =>
      cases hf : tLeafF P (tLeafs P d) fs.toList 0 with
      | none => rw [hf] at hl; cases hl
      | some l1 =>
        rw [hf] at hl
        simp only [cond_eq_ite, Bool.and_eq_true] at hl
        split at hl
        · rename_i hc; cases hl; exact hc.1
        · cases hl
    case array n e =>
      cases hf : tLeafs P d e with
      | none => rw [hf] at hl; cases hl
      | some l1 =>
        rw [hf] at hl
        simp only [cond_eq_ite, Bool.and_eq_true] at hl
        split at hl
        · rename_i hc; cases hl; simpa using hc.2
        · cases hl
    all_goals cases ha

/-- two whole aggregates -/
theorem eqAgg_run {d : Nat} {t : TypeId} {ls : List Leaf} (hl : tLeafs P d t = some ls) (hag : tDesc P t aggOf = true) (D : Nat) {a b : List AV} {X Y : Value} {r : Bool} (hx : RelV φ K w (.agg a) X) (hy : RelV φ K w (.agg b) Y) (he : eqL ls a b = some r) :
    (∃ xs ys, X = .agg xs ∧ Y = .agg ys) ∧ (Op.equalIn (D + d) t X Y).run P w = .ok r w := by
  obtain ⟨xs, rfl, hlx, hrx⟩ := rel_agg hx
  obtain ⟨ys, rfl, hly, hry⟩ := rel_agg hy
  obtain ⟨hla, hlb⟩ := eqL_len he
  refine ⟨⟨_, _, rfl, rfl⟩, ?_⟩
  obtain ⟨VX, VY, p1, p2, p3⟩ := eqT_run d t ls hl D xs ys 0 0 a b r (fun j x hx => by simpa using (hrx j x hx).2) (fun j x hx => by simpa using (hry j x hx).2) he
  have hv := tLeafs_agg hl hag
  simp only [tVar, Bool.and_eq_true] at hv
  obtain ⟨dd, hu, ha⟩ := tDesc_some hag
  have hs := tSize_run hv.2 w
  simp only [part, Sem.run_bind, isAgg_run hu, ha, Result.andThen_ok, if_true, hs, Sem.run_pure, Nat.zero_add] at p1 p2
  cases p1
  cases p2
  rw [← hla, hlx] at p3
  rw [← hlx, hla, ← hlb, hly] at p3
  have e1 : xs.extract 0 ys.size = xs := by rw [show ys.size = xs.size by omega]; simp
  have e2 : ys.extract 0 ys.size = ys := by simp
  rwa [e1, e2] at p3

def mEqT (P : Program) (t : TypeId) : EqT → Bool
  | .one .bool => tDesc P t fun d => match d with | .bool => true | _ => false
  | .one .int => tDesc P t fun d => match d with | .int _ => true | _ => false
  | .one .str => tStr P t
  | .slice => tDesc P t fun d => match d with | .slice _ => true | _ => false
  | .agg ls => tDesc P t aggOf && (match tLeafs P 100 t with | some l => eqLeafs l ls | none => false) && !(P.eqGuardType P.depth t)
where
  eqLeafs : List Leaf → List Leaf → Bool
  | [], [] => true
  | .int :: l, .int :: m => eqLeafs l m
  | .bool :: l, .bool :: m => eqLeafs l m
  | .str :: l, .str :: m => eqLeafs l m
  | _, _ => false
theorem eqLeafs_eq : ∀ {l m : List Leaf}, mEqT.eqLeafs l m = true → l = m
  | [], [], _ => rfl
  | .int :: l, .int :: m, h => by rw [eqLeafs_eq (l := l) (m := m) h]
  | .bool :: l, .bool :: m, h => by rw [eqLeafs_eq (l := l) (m := m) h]
  | .str :: l, .str :: m, h => by rw [eqLeafs_eq (l := l) (m := m) h]

theorem run_eqSl_nn (d : Nat) (t e : TypeId) (hd : P.underlying t = some (.slice e)) : (Op.equalIn (d + 1) t (.slice none 0 0) (.slice none 0 0)).run P w = .ok true w := by simp [Op.equalIn, run_underlying hd]
theorem run_eqSl_ns (d : Nat) (t e : TypeId) (hd : P.underlying t = some (.slice e)) (ad : Addr) (n c : Nat) : (Op.equalIn (d + 1) t (.slice none 0 0) (.slice (some ad) n c)).run P w = .ok false w := by simp [Op.equalIn, run_underlying hd]
theorem run_eqSl_sn (d : Nat) (t e : TypeId) (hd : P.underlying t = some (.slice e)) (ad : Addr) (n c : Nat) : (Op.equalIn (d + 1) t (.slice (some ad) n c) (.slice none 0 0)).run P w = .ok false w := by simp [Op.equalIn, run_underlying hd]

theorem eqV_runD (D : Nat) {t : TypeId} {k : EqT} (hm : mEqT P t k = true) {x y : AV} {X Y : Value} {r : Bool} (he : eqV k x y = some r) (hx : RelV φ K w x X) (hy : RelV φ K w y Y) :
    (Op.equalIn (D + 99 + 1) t X Y).run P w = .ok r w := by
  cases k with
  | one l =>
    rcases eqS_rel he hx hy with ⟨rfl, k, a, b, rfl, rfl, rfl⟩ | ⟨rfl, a, b, rfl, rfl, rfl⟩ | ⟨rfl, a, b, rfl, rfl, rfl⟩
    · obtain ⟨d, hd, h1⟩ := tDesc_some hm
      split at h1
      · exact run_equalIn_int w (D + 99) t _ _ a b hd
      · cases h1
    · obtain ⟨d, hd, h1⟩ := tDesc_some hm
      split at h1
      · exact run_equalIn_bool' w (D + 99) t a b hd
      · cases h1
    · rw [run_equalIn_string w (D + 99) t a b (tStr_some hm), beq_toListBytes]
  | slice =>
    obtain ⟨d, hd, h1⟩ := tDesc_some hm
    split at h1
    · rename_i e
      have hnn := run_eqSl_nn (P := P) (w := w) (D + 99) t e hd
      have hns := run_eqSl_ns (P := P) (w := w) (D + 99) t e hd
      have hsn := run_eqSl_sn (P := P) (w := w) (D + 99) t e hd
      unfold eqV at he
      simp only at he
      split at he
      · have h1 := rel_nils hx
        split at he
        · have h2 := rel_nils hy; cases he; subst h1 h2; exact hnn
        · obtain ⟨ad, c', h2, _⟩ := rel_imm hy; cases he; subst h1 h2; exact hns _ _ _
        · obtain ⟨b, base, ad, c', h2, _⟩ := rel_ref hy; cases he; subst h1 h2; exact hns _ _ _
        · cases he
      · obtain ⟨ad, c', h1, _⟩ := rel_imm hx
        split at he
        · have h2 := rel_nils hy; cases he; subst h1 h2; exact hsn _ _ _
        · cases he
      · obtain ⟨b, base, ad, c', h1, _⟩ := rel_ref hx
        split at he
        · have h2 := rel_nils hy; cases he; subst h1 h2; exact hsn _ _ _
        · cases he
      · cases he
    · cases h1
  | agg ls =>
    simp only [mEqT, Bool.and_eq_true] at hm
    obtain ⟨⟨h1, h2⟩, h3⟩ := hm
    split at h2
    · rename_i l hl
      have := eqLeafs_eq h2
      subst this
      unfold eqV at he
      simp only at he
      split at he
      · split at he
        · exact (eqAgg_run hl h1 D hx hy he).2
        · cases he
      · cases he
    · cases h2

theorem eqV_run {t : TypeId} {k : EqT} (hm : mEqT P t k = true) {x y : AV} {X Y : Value} {r : Bool} (he : eqV k x y = some r) (hx : RelV φ K w x X) (hy : RelV φ K w y Y) :
    (Op.equal t X Y).run P w = .ok r w := eqV_runD 9900 hm he hx hy

def mEq (P : Program) (o : Oper) (k : EqT) (neg : Bool) (x y : Opd) : Bool := match o.op with
  | .binOp op t x' y' _ => (match op with | .eql => !neg | .neq => neg | _ => false) && mOpd x' x && mOpd y' y && mEqT P t k && (match k with | .one .bool => true | .slice => true | .agg _ => true | _ => false)
  | _ => false
theorem s_eq (s : Sim top φ K h nx w) (hρ : ∀ x y, mOpd x y = true → RelV φ K w (ρ y) (ρc x)) {k : EqT} {neg : Bool} {x y : Opd} (hm : mEq P o k neg x y = true) {p : Plan} (hp : pEq ρ k neg x y = some p) : Sound top P φ K h nx w ρc o p := by
  unfold mEq at hm
  split at hm
  · rename_i op t x' y' t' ho
    simp only [Bool.and_eq_true] at hm
    obtain ⟨⟨⟨⟨hop, h1⟩, h2⟩, h3⟩, h4⟩ := hm
    have hx := hρ _ _ h1
    have hy := hρ _ _ h2
    unfold pEq at hp
    split at hp
    · rename_i r he
      cases hp
      have hrun := eqV_run h3 he hx hy
      -- what the values are, and that nothing is guarded
      have hform : (eqGuard op t x' y' (ρc x') (ρc y')).run P w = .ok () w ∧ ((binOp .eql t (ρc x') (ρc y')).run P w = .ok (.bool r) w) ∧ ((binOp .neq t (ρc x') (ρc y')).run P w = .ok (.bool !r) w) := by
        cases k with
        | one l =>
          rcases eqS_rel he hx hy with ⟨rfl, _⟩ | ⟨rfl, a, b, hX, hY, rfl⟩ | ⟨rfl, _⟩
          · cases h4
          · rw [hX, hY] at hrun ⊢
            exact ⟨eqGuard_run op t x' y' _ _ (.inr (.inr ⟨_, rfl⟩)), by simp [binOp, hrun], by simp [binOp, hrun]⟩
          · cases h4
        | slice =>
          have hs : (∃ ad n c, ρc x' = .slice ad n c) ∧ (∃ ad n c, ρc y' = .slice ad n c) := by
            have key : ∀ {v : AV} {V : Value}, RelV φ K w v V → isSl v = true → ∃ ad n c, V = .slice ad n c := by
              intro v V hr hi
              cases v <;> first
                | (cases hi; done)
                | exact ⟨_, _, _, rel_nils hr⟩
                | (obtain ⟨ad, c', h2, _⟩ := rel_imm hr; exact ⟨_, _, _, h2⟩)
                | (obtain ⟨b, base, ad, c', h2, _⟩ := rel_ref hr; exact ⟨_, _, _, h2⟩)
            have : isSl (ρ x) = true ∧ isSl (ρ y) = true := by
              unfold eqV at he
              simp only at he
              split at he <;> first
                | (split at he <;> first | (simp_all [isSl]; done) | (cases he; done))
                | (cases he; done)
            exact ⟨key hx this.1, key hy this.2⟩
          obtain ⟨⟨a1, n1, c1, hX⟩, ⟨a2, n2, c2, hY⟩⟩ := hs
          rw [hX, hY] at hrun ⊢
          exact ⟨by cases op <;> simp [eqGuard], by simp [binOp, hrun], by simp [binOp, hrun]⟩
        | agg ls =>
          simp only [mEqT, Bool.and_eq_true, Bool.not_eq_true'] at h3
          have hag : (∃ a, ρ x = .agg a) ∧ (∃ b, ρ y = .agg b) := by
            unfold eqV at he
            simp only at he
            split at he
            · split at he
              · rename_i hxe _ _ hye
                exact ⟨⟨_, hxe⟩, ⟨_, hye⟩⟩
              · cases he
            · cases he
          obtain ⟨⟨a, hxa⟩, ⟨b, hyb⟩⟩ := hag
          rw [hxa] at hx
          rw [hyb] at hy
          obtain ⟨xs, hX, _⟩ := rel_agg hx
          obtain ⟨ys, hY, _⟩ := rel_agg hy
          rw [hX, hY] at hrun ⊢
          exact ⟨run_eqGuard_agg w op t x' y' xs ys h3.2, by simp [binOp, hrun], by simp [binOp, hrun]⟩
      obtain ⟨hg, hb1, hb2⟩ := hform
      cases op <;> simp only [Bool.false_eq_true] at hop
      · cases neg
        · refine sound_val s (V := .bool r) ?_ (.pure (.bool _))
          simp only [execOp, ho]
          refine run_v ?_
          simp [hg, hb1]
        · cases hop
      · cases neg
        · cases hop
        · refine sound_val s (V := .bool !r) ?_ (.pure (.bool _))
          simp only [execOp, ho]
          refine run_v ?_
          simp [hg, hb2]
    · cases hp
  · cases hm
end
end Go.Ax
