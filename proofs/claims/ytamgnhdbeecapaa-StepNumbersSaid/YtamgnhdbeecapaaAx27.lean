/- The walk: code by its form; calls and loops by what is known of them. -/
import Derived.Test.YtamgnhdbeecapaaAx26
set_option linter.unusedSimpArgs false
set_option linter.unusedVariables false
namespace Go.Ax

noncomputable def evC (cf : FnF) (lf : CodeF) (nt : Nat) (c : ACode) : St → Option (AExit × St) :=
  ACode.rec (motive := fun _ => St → Option (AExit × St))
    (fun st => some (.normal, st))
    (fun ops st => match runOps cf nt ops st with | some st => some (.normal, st) | none => none)
    (fun ops ahead pairs st => match runDreg cf nt ops ahead pairs st with | some st => some (.normal, st) | none => none)
    (fun _ _ ea eb st => match ea st with | some (.normal, st) => eb st | r => r)
    (fun c _ _ ea eb st => match ev st.env c with | .bool true => ea st | .bool false => eb st | _ => none)
    (fun id _ ec st => match ec st with | some (.exit i, st) => bif Nat.beq i id then some (.normal, st) else some (.exit i, st) | r => r)
    (fun c _ st => lf nt (.loop c) st)
    (fun id st => some (.exit id, st))
    (fun st => some (.ret, st)) c

section
variable {prog : Map AFunc} {cf : FnF} {lf : CodeF} {nt : Nat}
theorem evC_run (prog : Map AFunc) (nt : Nat) : ∀ (c : ACode) (st : St) (r : AExit × St), evC (runFn prog) (runCode prog) nt c st = some r → runCode prog nt c st = some r := by
  intro c
  induction c with
  | skip => intro st r h; exact run_code h
  | reg ops => intro st r h; exact run_code h
  | dreg ops ahead pairs => intro st r h; exact run_code h
  | exit id => intro st r h; exact run_code h
  | ret => intro st r h; exact run_code h
  | loop c ih => intro st r h; exact h
  | seq a b iha ihb =>
    intro st r h
    refine run_code ?_
    change (match evC (runFn prog) (runCode prog) nt a st with | some (.normal, st) => evC (runFn prog) (runCode prog) nt b st | r => r) = some r at h
    simp only [codeStep]
    split at h
    · rename_i st1 h1
      rw [iha _ _ h1]
      exact ihb _ _ h
    · rename_i hne
      rw [iha _ _ h]
      split
      · rename_i st1 heq; cases heq; exact absurd h (hne st1)
      · rfl
  | cond c a b iha ihb =>
    intro st r h
    refine run_code ?_
    change (match ev st.env c with | .bool true => evC (runFn prog) (runCode prog) nt a st | .bool false => evC (runFn prog) (runCode prog) nt b st | _ => none) = some r at h
    simp only [codeStep]
    split at h
    · rename_i hc; rw [hc]; exact iha _ _ h
    · rename_i hc; rw [hc]; exact ihb _ _ h
    · cases h
  | block id c ih =>
    intro st r h
    refine run_code ?_
    change (match evC (runFn prog) (runCode prog) nt c st with | some (.exit i, st) => bif Nat.beq i id then some (.normal, st) else some (.exit i, st) | r => r) = some r at h
    simp only [codeStep]
    split at h
    · rename_i i st1 h1
      rw [ih _ _ h1]
      exact h
    · rename_i hne
      rw [ih _ _ h]
      split
      · rename_i i st1 heq; cases heq; exact absurd h (hne i st1)
      · rfl

/-- the code ends, as Q says -/
def WC (cf : FnF) (lf : CodeF) (nt : Nat) (c : ACode) (st : St) (Q : AExit → St → Prop) : Prop := ∃ x st', evC cf lf nt c st = some (x, st') ∧ Q x st'
/-- operations in the text's order -/
def WR (cf : FnF) (nt : Nat) (ops : List AOper) (st : St) (Q : St → Prop) : Prop := ∃ st', runOps cf nt ops st = some st' ∧ Q st'

theorem wc_skip {st : St} {Q : AExit → St → Prop} (h : Q .normal st) : WC cf lf nt .skip st Q := ⟨_, _, rfl, h⟩
theorem wc_exit {id : Nat} {st : St} {Q : AExit → St → Prop} (h : Q (.exit id) st) : WC cf lf nt (.exit id) st Q := ⟨_, _, rfl, h⟩
theorem wc_ret {st : St} {Q : AExit → St → Prop} (h : Q .ret st) : WC cf lf nt .ret st Q := ⟨_, _, rfl, h⟩
theorem wc_reg {ops : List AOper} {st : St} {Q : AExit → St → Prop} (h : WR cf nt ops st (Q .normal)) : WC cf lf nt (.reg ops) st Q := by
  obtain ⟨st', h1, h2⟩ := h
  refine ⟨.normal, st', ?_, h2⟩
  show (match runOps cf nt ops st with | some st => some (AExit.normal, st) | none => none) = _
  rw [h1]
theorem wc_dreg {ops : List AOper} {ahead : List (List Nat)} {pairs : List (Nat × Nat)} {st st' : St} {Q : AExit → St → Prop} (h1 : runDreg cf nt ops ahead pairs st = some st') (h2 : Q .normal st') : WC cf lf nt (.dreg ops ahead pairs) st Q := by
  refine ⟨.normal, st', ?_, h2⟩
  show (match runDreg cf nt ops ahead pairs st with | some st => some (AExit.normal, st) | none => none) = _
  rw [h1]
/-- behind the first part -/
def thenQ (cf : FnF) (lf : CodeF) (nt : Nat) (b : ACode) (Q : AExit → St → Prop) : AExit → St → Prop
  | .normal, st => WC cf lf nt b st Q
  | x, st => Q x st
theorem wc_seq {a b : ACode} {st : St} {Q : AExit → St → Prop} (h : WC cf lf nt a st (thenQ cf lf nt b Q)) : WC cf lf nt (.seq a b) st Q := by
  obtain ⟨x, st1, h1, h2⟩ := h
  have e : evC cf lf nt (.seq a b) st = (match evC cf lf nt a st with | some (.normal, st) => evC cf lf nt b st | r => r) := rfl
  cases x with
  | normal =>
    obtain ⟨x', st', h3, h4⟩ := h2
    exact ⟨x', st', by rw [e, h1]; exact h3, h4⟩
  | exit id => exact ⟨_, st1, by rw [e, h1], h2⟩
  | ret => exact ⟨_, st1, by rw [e, h1], h2⟩
theorem wc_cond_true {c : Opd} {a b : ACode} {st : St} {Q : AExit → St → Prop} (hc : ev st.env c = .bool true) (h : WC cf lf nt a st Q) : WC cf lf nt (.cond c a b) st Q := by
  obtain ⟨x, st1, h1, h2⟩ := h
  refine ⟨x, st1, ?_, h2⟩
  show (match ev st.env c with | .bool true => evC cf lf nt a st | .bool false => evC cf lf nt b st | _ => none) = _
  rw [hc]
  exact h1
theorem wc_cond_false {c : Opd} {a b : ACode} {st : St} {Q : AExit → St → Prop} (hc : ev st.env c = .bool false) (h : WC cf lf nt b st Q) : WC cf lf nt (.cond c a b) st Q := by
  obtain ⟨x, st1, h1, h2⟩ := h
  refine ⟨x, st1, ?_, h2⟩
  show (match ev st.env c with | .bool true => evC cf lf nt a st | .bool false => evC cf lf nt b st | _ => none) = _
  rw [hc]
  exact h1
theorem wc_cond {c : Opd} {a b : ACode} {st : St} {Q : AExit → St → Prop} {t : Bool} (hc : ev st.env c = .bool t) (h1 : t = true → WC cf lf nt a st Q) (h2 : t = false → WC cf lf nt b st Q) : WC cf lf nt (.cond c a b) st Q := by
  cases t with
  | true => exact wc_cond_true hc (h1 rfl)
  | false => exact wc_cond_false hc (h2 rfl)
def blockQ (id : Nat) (Q : AExit → St → Prop) : AExit → St → Prop
  | .exit i, st => if i = id then Q .normal st else Q (.exit i) st
  | x, st => Q x st
theorem wc_block {id : Nat} {c : ACode} {st : St} {Q : AExit → St → Prop} (h : WC cf lf nt c st (blockQ id Q)) : WC cf lf nt (.block id c) st Q := by
  obtain ⟨x, st1, h1, h2⟩ := h
  have e : evC cf lf nt (.block id c) st = (match evC cf lf nt c st with | some (.exit i, st) => bif Nat.beq i id then some (.normal, st) else some (.exit i, st) | r => r) := rfl
  cases x with
  | normal => exact ⟨_, st1, by rw [e, h1], h2⟩
  | ret => exact ⟨_, st1, by rw [e, h1], h2⟩
  | exit i =>
    simp only [blockQ] at h2
    by_cases hi : i = id
    · rw [if_pos hi] at h2
      exact ⟨.normal, st1, by rw [e, h1]; simp [hi], h2⟩
    · rw [if_neg hi] at h2
      have : Nat.beq i id = false := by
        cases hb : Nat.beq i id with
        | false => rfl
        | true => rw [Nat.beq_eq] at hb; exact absurd hb hi
      exact ⟨.exit i, st1, by rw [e, h1]; simp [this], h2⟩
theorem wc_mono {c : ACode} {st : St} {Q Q' : AExit → St → Prop} (h : WC cf lf nt c st Q) (hq : ∀ x st', Q x st' → Q' x st') : WC cf lf nt c st Q' :=
  let ⟨x, st', h1, h2⟩ := h; ⟨x, st', h1, hq _ _ h2⟩
theorem wr_nil {st : St} {Q : St → Prop} (h : Q st) : WR cf nt [] st Q := ⟨st, rfl, h⟩
theorem wr_cons {o : AOper} {l : List AOper} {st st1 : St} {Q : St → Prop} (h1 : runOp cf nt o st = some st1) (h2 : WR cf nt l st1 Q) : WR cf nt (o :: l) st Q := by
  obtain ⟨st', h3, h4⟩ := h2
  exact ⟨st', by rw [runOps_cons, h1]; exact h3, h4⟩
theorem runOps_append (l m : List AOper) : ∀ (st : St), runOps cf nt (l ++ m) st = match runOps cf nt l st with | some st => runOps cf nt m st | none => none := by
  induction l with
  | nil => intro st; rfl
  | cons o l ih =>
    intro st
    rw [List.cons_append, runOps_cons, runOps_cons]
    cases runOp cf nt o st with
    | none => rfl
    | some st1 => exact ih st1
/-- a stretch of operations -/
theorem wr_append {l m : List AOper} {st st1 : St} {Q : St → Prop} (h1 : runOps cf nt l st = some st1) (h2 : WR cf nt m st1 Q) : WR cf nt (l ++ m) st Q := by
  obtain ⟨st', h3, h4⟩ := h2
  exact ⟨st', by rw [runOps_append, h1]; exact h3, h4⟩
theorem wr_all {l : List AOper} {st st1 : St} {Q : St → Prop} (h1 : runOps cf nt l st = some st1) (h2 : Q st1) : WR cf nt l st Q := ⟨st1, h1, h2⟩
end

/-- A loop, by an invariant over natural numbers that go down. -/
theorem wc_loop {prog : Map AFunc} {nt : Nat} {c : ACode} {Q : AExit → St → Prop} {α : Type} (I : α → St → Prop) (μ : α → Nat)
    (round : ∀ a st, I a st → WC (runFn prog) (runCode prog) nt c st (fun x st' => match x with | .normal => ∃ a', μ a' < μ a ∧ I a' st' | x => Q x st')) :
    ∀ a st, I a st → WC (runFn prog) (runCode prog) nt (.loop c) st Q := by
  have key : ∀ n a st, μ a = n → I a st → ∃ x st', runCode prog nt (.loop c) st = some (x, st') ∧ Q x st' := by
    intro n
    induction n using Nat.strongRecOn with
    | _ n ih =>
      intro a st hn hI
      obtain ⟨x, st1, h1, h2⟩ := round a st hI
      have h1' := evC_run prog nt _ _ _ h1
      cases x with
      | normal =>
        obtain ⟨a', hlt, hI'⟩ := h2
        obtain ⟨x', st', h3, h4⟩ := ih (μ a') (by omega) a' st1 rfl hI'
        exact ⟨x', st', run_code (by simp only [codeStep, h1']; exact h3), h4⟩
      | exit id => exact ⟨_, st1, run_code (by simp only [codeStep, h1']), h2⟩
      | ret => exact ⟨_, st1, run_code (by simp only [codeStep, h1']), h2⟩
  intro a st hI
  obtain ⟨x, st', h1, h2⟩ := key _ a st rfl hI
  exact ⟨x, st', h1, h2⟩

/-- A function, by its body. -/
theorem fn_of_body {prog : Map AFunc} {f : Nat} {af : AFunc} (hf : prog.get f = some af) {args : List AV} (ha : args.length = af.params) {H : Heap} {nx : Nat} {r : AV × Heap × Nat → Prop}
    (h : WC (runFn prog) (runCode prog) af.nt af.body ⟨initE args 0 .leaf, H, nx⟩ (fun x st => (x = .normal ∨ x = .ret) ∧ ∃ v, resA af.res st = some v ∧ r v)) : ∃ v, runFn prog f args H nx = some v ∧ r v := by
  obtain ⟨x, st, h1, hx, v, h2, h3⟩ := h
  refine ⟨v, run_fn ?_, h3⟩
  have h1' := evC_run prog _ _ _ _ h1
  simp only [fnStep, hf, cond_eq_ite, Nat.beq_eq, if_pos ha, h1']
  rcases hx with rfl | rfl <;> exact h2
end Go.Ax
