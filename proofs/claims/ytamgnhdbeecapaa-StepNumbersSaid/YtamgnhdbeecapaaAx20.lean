/- Regions of open order. -/
import Derived.Test.YtamgnhdbeecapaaAx19
set_option linter.unusedSimpArgs false
set_option linter.unusedVariables false
namespace Go.Ax
open Classical

def Touch (n0 : Nat) (r : Rec) (id : Nat) : Prop := TouchE n0 r.tch r.nx0 r.nx1 id

/-- What one operation does to the machine, given what it is said to do. -/
def StepOk (P : Program) (ops : Array Oper) (nt n0 : Nat) (o : Oper) (ao : AOper) (st st1 : St) (r : Rec) (v : AV) : Prop :=
  ∀ (φ : Phi) (K : Nat → Prop) (h : HeapF) (w : World) (a : Act) (f : Nat → AV), Sim st1.nx φ K h st.nx w → (∀ rd, rd ∈ r.rds → AgreeRd n0 h st.H.get rd) → EnvF φ K w f a → (∀ t, t ∈ ao.sees → f t = ev st.env (.t t)) → a.tmps.size = nt → a.defers = [] →
    ∀ (next : Act → World → Prop) (Q : Exit → Act → World → Prop),
      (∀ a' w', (∃ φ' K', Goes st1.nx φ K h st.nx w φ' K' (fun id => if Touch n0 r id then st1.H.get id else h id) st1.nx w' ∧ EnvF φ' K' w' (putF f ao.dst v) a' ∧ a'.tmps.size = nt ∧ a'.defers = []) → next a' w') →
      if Region.wanted o (yielded ops a.tmps) then o.wp P a w next Q else next (a.put o.dst undef) w

theorem putD_ev {nt : Nat} {e e' : Env} {d : Option Nat} {v : AV} (hp : putD nt e d v = some e') : (∀ t, d = some t → t < nt) ∧ ∀ t, ev e' (.t t) = if d = some t then v else ev e (.t t) := by
  cases d with
  | none => cases hp; exact ⟨fun t h => (by cases h), fun t => by simp⟩
  | some d =>
    simp only [putD, cond_eq_ite, Nat.blt_eq] at hp
    split at hp
    · rename_i hd
      cases hp
      refine ⟨fun t h => by cases h; exact hd, fun t => ?_⟩
      rw [ev_put]
      by_cases ht : t = d
      · subst ht; rw [if_pos rfl, if_pos rfl]
      · rw [if_neg ht, if_neg (fun h => ht (Option.some.inj h).symm)]
    · cases hp

theorem effStep_ok {P : Program} {ops : Array Oper} {nt n0 : Nat} {cf : FnF} {o : Oper} {ao : AOper} {st st1 : St} {r : Rec} (hcf : FnOk P cf) (hup : FnUp cf) (hm : mOper P ops o ao = true) (hn0 : n0 ≤ st.nx) (hd : effStep cf nt n0 ao st = some (st1, r)) :
    (r.H0 = st.H ∧ r.H1 = st1.H ∧ r.nx0 = st.nx ∧ r.nx1 = st1.nx) ∧ st.nx ≤ st1.nx ∧ (∀ id, ¬ Touch n0 r id → st1.H.get id = st.H.get id) ∧ (heapFree ao = true → r.rds = [] ∧ r.tch = .ids []) ∧ (upFree ao = true → r.tch = .ids []) ∧
    ∃ v, (∀ t, ev st1.env (.t t) = if ao.dst = some t then v else ev st.env (.t t)) ∧ StepOk P ops nt n0 o ao st st1 r v := by
  simp only [mOper, Bool.and_eq_true] at hm
  obtain ⟨⟨h1, h2⟩, h3⟩ := hm
  have hdst := mDst_eq h1
  unfold effStep at hd
  rw [cond_eq_ite] at hd
  split at hd
  · rename_i hw
    split at hd
    · cases hd
    · rename_i v H nx rds tch hE
      split at hd
      · cases hd
      · rename_i e' hp
        cases hd
        obtain ⟨l1, l2, l3, l4, l5⟩ := effFz_ok hcf hup h3 hn0 hE
        obtain ⟨p1, p2⟩ := putD_ev hp
        refine ⟨⟨rfl, rfl, rfl, rfl⟩, l1, l2, l3, l4, v, p2, ?_⟩
        intro φ K h w a f s ha hf hsees hs hdf next Q hn
        have hsee1 : ∀ x, x ∈ ao.op.opds → evF f x = ev st.env x := by
          intro x hx
          cases x with
          | t n => exact hsees n (List.mem_append_left _ (List.mem_flatMap.2 ⟨_, hx, by simp [opdT]⟩))
          | c v => rfl
        have hsee2 : wantedF f ao.gd = true := by
          rw [← hw, wanted_F]
          cases hg : ao.gd with
          | none => rfl
          | some q =>
            obtain ⟨g, b⟩ := q
            simp only [wantedF]
            rw [hsees g (List.mem_append_right _ (by rw [hg]; simp))]
        rw [wantedF_eq hf h2, if_pos hsee2]
        refine l5 φ K h w a (evF f) s ha hf.opd hsee1 next Q (fun V w' hEn => ?_)
        obtain ⟨φ', K', g, hv⟩ := hEn
        obtain ⟨q1, q2, q3⟩ := putF_rel (nt := nt) (d := ao.dst) (hf.keep s g) hs p1 hv
        rw [← hdst] at q1 q2 q3
        exact hn _ _ ⟨φ', K', g, by rw [← hdst]; exact q1, q2, by rw [q3, hdf]⟩
  · rename_i hw
    split at hd
    · cases hd
    · rename_i e' hp
      cases hd
      obtain ⟨p1, p2⟩ := putD_ev hp
      have hno : ∀ id, ¬ Touch n0 ⟨[], .ids [], st.H, st.H, st.nx, st.nx⟩ id := fun id h => h.elim (fun h => by cases h) (fun h => by have h' : st.nx ≤ id ∧ id < st.nx := h; omega)
      refine ⟨⟨rfl, rfl, rfl, rfl⟩, Nat.le_refl _, fun id _ => rfl, fun _ => ⟨rfl, rfl⟩, fun _ => rfl, undefA, p2, ?_⟩
      intro φ K h w a f s ha hf hsees hs hdf next Q hn
      have hsee2 : wantedF f ao.gd = false := by
        have : wanted st.env ao.gd = false := by simpa using hw
        rw [← this, wanted_F]
        cases hg : ao.gd with
        | none => rfl
        | some q =>
          obtain ⟨g, b⟩ := q
          simp only [wantedF]
          rw [hsees g (List.mem_append_right _ (by rw [hg]; simp))]
      rw [wantedF_eq hf h2, hsee2]
      obtain ⟨q1, q2, q3⟩ := putF_rel (nt := nt) (d := ao.dst) hf hs p1 undef_rel
      rw [← hdst] at q1 q2 q3
      refine hn _ _ ⟨φ, K, ?_, by rw [← hdst]; exact q1, q2, by rw [q3, hdf]⟩
      have e : (fun id => if Touch n0 ⟨[], .ids [], st.H, st.H, st.nx, st.nx⟩ id then st.H.get id else h id) = h := by
        funext id
        rw [if_neg (hno id)]
      show Goes st.nx φ K h st.nx w φ K (fun id => if Touch n0 ⟨[], .ids [], st.H, st.H, st.nx, st.nx⟩ id then st.H.get id else h id) st.nx w
      rw [e]
      exact Goes.refl s

/-- the states that the text's order goes through -/
theorem trace {cf : FnF} {nt n0 : Nat} : ∀ (al : List AOper) (st st' : St) (rs : List Rec), runDOps cf nt n0 al st = some (st', rs) →
    ∃ (S : Nat → St) (R : Nat → Rec), S 0 = st ∧ S al.length = st' ∧ rs.length = al.length ∧ ∀ k ao, al[k]? = some ao → rs[k]? = some (R k) ∧ effStep cf nt n0 ao (S k) = some (S (k + 1), R k)
  | [], st, st', rs, h => by
    cases h
    exact ⟨fun _ => st, fun _ => ⟨[], .ids [], .leaf, .leaf, 0, 0⟩, rfl, rfl, rfl, fun k ao h => by simp at h⟩
  | ao :: al, st, st', rs, h => by
    simp only [runDOps] at h
    split at h
    · cases h
    · rename_i st1 r h1
      split at h
      · cases h
      · rename_i st2 l h2
        cases h
        obtain ⟨S, R, s1, s2, s3, s4⟩ := trace al st1 st' l h2
        refine ⟨fun k => match k with | 0 => st | k + 1 => S k, fun k => match k with | 0 => r | k + 1 => R k, rfl, s2, by simp [s3], fun k ao' hk => ?_⟩
        cases k with
        | zero => simp at hk; subst hk; exact ⟨rfl, by show effStep cf nt n0 ao st = some (S 0, r); rw [s1]; exact h1⟩
        | succ k => simp at hk; exact s4 k ao' hk

theorem mOpers_at {P : Program} {ops : Array Oper} : ∀ {l : List Oper} {al : List AOper}, mOpers P ops l al = true → l.length = al.length ∧ ∀ (k : Nat) (o : Oper), l[k]? = some o → ∃ ao, al[k]? = some ao ∧ mOper P ops o ao = true
  | [], [], _ => ⟨rfl, fun k o h => by simp at h⟩
  | [], _ :: _, h => by cases h
  | _ :: _, [], h => by cases h
  | o :: l, ao :: al, h => by
    simp only [mOpers, Bool.and_eq_true] at h
    obtain ⟨h1, h2⟩ := mOpers_at h.2
    refine ⟨by simp [h1], fun k o' hk => ?_⟩
    cases k with
    | zero => simp at hk; subst hk; exact ⟨ao, rfl, h.1⟩
    | succ k => simp at hk; exact h2 k o' hk

/-! ### what is to be seen of a region once -/
def hasN (l : List Nat) (n : Nat) : Bool := l.any fun x => Nat.beq x n
theorem hasN_iff {l : List Nat} {n : Nat} : hasN l n = true ↔ n ∈ l := by
  simp only [hasN, List.any_eq_true, Nat.beq_eq]
  exact ⟨fun ⟨x, h1, h2⟩ => h2 ▸ h1, fun h => ⟨n, h, rfl⟩⟩
/-- no one writes what the other writes or looks at -/
def apartT (a b : AOper) : Bool :=
  (match a.dst with | none => true | some d => !hasN b.sees d && (match b.dst with | none => true | some d' => !Nat.beq d' d)) && (match b.dst with | none => true | some d => !hasN a.sees d)
def mPair (pairs : List (Nat × Nat)) (i j : Nat) (a b : AOper) : Bool :=
  apartT a b && (heapFree a || heapFree b || (upFree a && upFree b) || pairs.any fun p => Nat.beq p.1 i && Nat.beq p.2 j)
def mEdges (ops : Array Oper) (ahead : List (List Nat)) : Bool := (List.range ops.size).all fun i => match ops[i]? with
  | none => false
  | some o => match ahead[i]? with
    | none => false
    | some ah => (o.after.toList.all fun e => !Region.binds .any e || Nat.blt e.on i) &&
        (ah.all fun x => o.after.toList.any fun e => Region.binds .any e && (Nat.beq e.on x || (match ahead[e.on]? with | some ah' => hasN ah' x | none => false)))
def mAll (al : List AOper) (ahead : List (List Nat)) (pairs : List (Nat × Nat)) : Bool := (List.range al.length).all fun j => (List.range j).all fun i => match ahead[j]? with
  | none => false
  | some ah => hasN ah i || (match al[i]? with
    | none => false
    | some a => match al[j]? with
      | none => false
      | some b => mPair pairs i j a b)
def mDreg (P : Program) (ops : Array Oper) (al : List AOper) (ahead : List (List Nat)) (pairs : List (Nat × Nat)) : Bool :=
  mOpers P ops ops.toList al && Nat.beq ahead.length al.length && mEdges ops ahead && mAll al ahead pairs
end Go.Ax
