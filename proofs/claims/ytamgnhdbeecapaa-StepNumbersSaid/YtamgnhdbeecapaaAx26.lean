/- An evaluator without fuel: what the interpreter answers from some fuel on. -/
import Derived.Test.YtamgnhdbeecapaaAx25
set_option linter.unusedSimpArgs false
set_option linter.unusedVariables false
namespace Go.Ax
open Classical

/-- from some fuel on it answers r -/
def Ev {α : Type} (X : Nat → Option α) (r : α) : Prop := ∃ k0, ∀ k, k0 ≤ k → X k = some r
theorem Ev.const {α : Type} {x : Option α} {r : α} (h : x = some r) : Ev (fun _ => x) r := ⟨0, fun _ _ => h⟩
theorem Ev.bind {α β : Type} {X : Nat → Option α} {Y : Nat → α → Option β} {a : α} {b : β} (h1 : Ev X a) (h2 : Ev (fun k => Y k a) b) : Ev (fun k => match X k with | some x => Y k x | none => none) b := by
  obtain ⟨k1, h1⟩ := h1
  obtain ⟨k2, h2⟩ := h2
  exact ⟨max k1 k2, fun k hk => by simp only [h1 k (by omega)]; exact h2 k (by omega)⟩
theorem Ev.map {α β : Type} {X : Nat → Option α} (f : Option α → Option β) {a : α} {b : β} (h1 : Ev X a) (h2 : f (some a) = some b) : Ev (fun k => f (X k)) b := by
  obtain ⟨k1, h1⟩ := h1
  exact ⟨k1, fun k hk => by show f (X k) = some b; rw [h1 k hk]; exact h2⟩
theorem Ev.uniq {α : Type} {X : Nat → Option α} {a b : α} (h1 : Ev X a) (h2 : Ev X b) : a = b := by
  obtain ⟨k1, h1⟩ := h1
  obtain ⟨k2, h2⟩ := h2
  have e1 := h1 (max k1 k2) (by omega)
  have e2 := h2 (max k1 k2) (by omega)
  rw [e1] at e2
  exact Option.some.inj e2
theorem Ev.congr {α : Type} {X Y : Nat → Option α} {a : α} (h : Ev X a) (e : ∀ k, Y k = X k) : Ev Y a := by
  obtain ⟨k1, h1⟩ := h
  exact ⟨k1, fun k hk => by rw [e]; exact h1 k hk⟩

def FnEv (cfk : Nat → FnF) (cf : FnF) : Prop := ∀ f args H nx r, cf f args H nx = some r → Ev (fun k => cfk k f args H nx) r
def CodeEv (exk : Nat → CodeF) (ex : CodeF) : Prop := ∀ nt c st r, ex nt c st = some r → Ev (fun k => exk k nt c st) r

section
variable {cfk : Nat → FnF} {cf : FnF} {nt n0 : Nat}

theorem doCall_ev (h : FnEv cfk cf) {f : Nat} {args : List AV} {m : Mode} {H : Heap} {nx : Nat} {r : AV × Heap × Nat} (hd : doCall cf f args m H nx = some r) : Ev (fun k => doCall (cfk k) f args m H nx) r := by
  cases m with
  | share => exact h _ _ _ _ _ hd
  | borrow =>
    simp only [doCall, cond_eq_ite] at hd ⊢
    split at hd
    · rename_i hp
      simp only [if_pos hp]
      cases hc : cf f args .leaf 0 with
      | none => rw [hc] at hd; cases hd
      | some q =>
        rw [hc] at hd
        (obtain ⟨k1, e1⟩ := h _ _ _ _ _ hc; exact ⟨k1, fun k hk => by simp only [e1 k hk]; exact hd⟩)
    · rename_i hp
      simp only [if_neg hp]
      split at hd
      · cases hd
      · rename_i as has
        cases hc : cf f as .leaf 0 with
        | none => rw [hc] at hd; cases hd
        | some q =>
          rw [hc] at hd
          (obtain ⟨k1, e1⟩ := h _ _ _ _ _ hc; exact ⟨k1, fun k hk => by simp only [e1 k hk]; exact hd⟩)

theorem doFz_ev (h : FnEv cfk cf) {o : AOper} {ρ : Opd → AV} {H : Heap} {nx : Nat} {r : AV × Heap × Nat} (hd : doFz cf o ρ H nx = some r) : Ev (fun k => doFz (cfk k) o ρ H nx) r := by
  simp only [doFz, cond_eq_ite] at hd ⊢
  by_cases hz : o.fz = true
  · simp only [if_pos hz] at hd ⊢
    exact Ev.const hd
  · simp only [if_neg hz] at hd ⊢
    simp only [doOp] at hd ⊢
    cases hk : kind o.op with
    | plan p => rw [hk] at hd; exact Ev.const hd
    | call f args m => rw [hk] at hd; exact doCall_ev h hd
    | callv f args m =>
      rw [hk] at hd
      simp only at hd ⊢
      cases hf : ρ f <;> rw [hf] at hd <;> first | cases hd | exact doCall_ev h hd

theorem runOp_ev (h : FnEv cfk cf) {o : AOper} {st st' : St} (hd : runOp cf nt o st = some st') : Ev (fun k => runOp (cfk k) nt o st) st' := by
  simp only [runOp, cond_eq_ite] at hd ⊢
  by_cases hw : wanted st.env o.gd = true
  · simp only [if_pos hw] at hd ⊢
    cases hf : doFz cf o (ev st.env) st.H st.nx with
    | none => rw [hf] at hd; cases hd
    | some q =>
      rw [hf] at hd
      (obtain ⟨k1, e1⟩ := doFz_ev h hf; exact ⟨k1, fun k hk => by simp only [e1 k hk]; exact hd⟩)
  · simp only [if_neg hw] at hd ⊢
    exact Ev.const hd

theorem runOps_ev (h : FnEv cfk cf) : ∀ {l : List AOper} {st st' : St}, runOps cf nt l st = some st' → Ev (fun k => runOps (cfk k) nt l st) st' := by
  intro l
  induction l with
  | nil => intro st st' hd; exact Ev.const hd
  | cons o l ih =>
    intro st st' hd
    rw [runOps_cons] at hd
    split at hd
    · rename_i st1 h1
      exact (Ev.bind (Y := fun k st => runOps (cfk k) nt l st) (runOp_ev h h1) (ih hd)).congr (fun k => by rw [runOps_cons]; cases runOp (cfk k) nt o st <;> rfl)
    · cases hd

theorem effCall_ev (h : FnEv cfk cf) {f : Nat} {args : List AV} {m : Mode} {H : Heap} {nx : Nat} {r : Eff} (hd : effCall cf n0 f args m H nx = some r) : Ev (fun k => effCall (cfk k) n0 f args m H nx) r := by
  cases m with
  | share =>
    simp only [effCall] at hd ⊢
    cases hc : cf f args (H.upto fun i => Nat.blt i n0) nx with
    | none => rw [hc] at hd; cases hd
    | some q =>
      rw [hc] at hd
      (obtain ⟨k1, e1⟩ := h _ _ _ _ _ hc; exact ⟨k1, fun k hk => by simp only [e1 k hk]; exact hd⟩)
  | borrow =>
    simp only [effCall, cond_eq_ite] at hd ⊢
    by_cases hp : allB AV.plain args = true
    · simp only [if_pos hp] at hd ⊢
      cases hc : doCall cf f args .borrow H nx with
      | none => rw [hc] at hd; cases hd
      | some q =>
        rw [hc] at hd
        (obtain ⟨k1, e1⟩ := doCall_ev h hc; exact ⟨k1, fun k hk => by simp only [e1 k hk]; exact hd⟩)
    · simp only [if_neg hp] at hd ⊢
      cases hc : doCall cf f args .borrow (H.upto fun i => Nat.blt i n0) nx with
      | none => rw [hc] at hd; cases hd
      | some q =>
        rw [hc] at hd
        (obtain ⟨k1, e1⟩ := doCall_ev h hc; exact ⟨k1, fun k hk => by simp only [e1 k hk]; exact hd⟩)

theorem effFz_ev (h : FnEv cfk cf) {o : AOper} {ρ : Opd → AV} {H : Heap} {nx : Nat} {r : Eff} (hd : effFz cf n0 o ρ H nx = some r) : Ev (fun k => effFz (cfk k) n0 o ρ H nx) r := by
  simp only [effFz, cond_eq_ite] at hd ⊢
  by_cases hz : o.fz = true
  · simp only [if_pos hz] at hd ⊢
    exact Ev.const hd
  · simp only [if_neg hz] at hd ⊢
    simp only [effOp] at hd ⊢
    cases hk : kind o.op with
    | plan p => rw [hk] at hd; exact Ev.const hd
    | call f args m => rw [hk] at hd; exact effCall_ev h hd
    | callv f args m =>
      rw [hk] at hd
      simp only at hd ⊢
      cases hf : ρ f <;> rw [hf] at hd <;> first | cases hd | exact effCall_ev h hd

theorem effStep_ev (h : FnEv cfk cf) {o : AOper} {st : St} {r : St × Rec} (hd : effStep cf nt n0 o st = some r) : Ev (fun k => effStep (cfk k) nt n0 o st) r := by
  simp only [effStep, cond_eq_ite] at hd ⊢
  by_cases hw : wanted st.env o.gd = true
  · simp only [if_pos hw] at hd ⊢
    cases hf : effFz cf n0 o (ev st.env) st.H st.nx with
    | none => rw [hf] at hd; cases hd
    | some q =>
      rw [hf] at hd
      (obtain ⟨k1, e1⟩ := effFz_ev h hf; exact ⟨k1, fun k hk => by simp only [e1 k hk]; exact hd⟩)
  · simp only [if_neg hw] at hd ⊢
    exact Ev.const hd

theorem runDOps_ev (h : FnEv cfk cf) : ∀ {l : List AOper} {st : St} {r : St × List Rec}, runDOps cf nt n0 l st = some r → Ev (fun k => runDOps (cfk k) nt n0 l st) r := by
  intro l
  induction l with
  | nil => intro st r hd; exact Ev.const hd
  | cons o l ih =>
    intro st r hd
    simp only [runDOps] at hd ⊢
    split at hd
    · cases hd
    · rename_i st1 r1 h1
      split at hd
      · cases hd
      · rename_i st2 l2 h2
        obtain ⟨k1, e1⟩ := effStep_ev (cfk := cfk) h h1
        obtain ⟨k2, e2⟩ := ih h2
        exact ⟨max k1 k2, fun k hk => by simp only [e1 k (by omega), e2 k (by omega)]; exact hd⟩

theorem runDreg_ev (h : FnEv cfk cf) {ops : List AOper} {ahead : List (List Nat)} {pairs : List (Nat × Nat)} {st st' : St} (hd : runDreg cf nt ops ahead pairs st = some st') : Ev (fun k => runDreg (cfk k) nt ops ahead pairs st) st' := by
  simp only [runDreg] at hd ⊢
  cases hr : runDOps cf nt st.nx ops st with
  | none => rw [hr] at hd; cases hd
  | some q =>
    rw [hr] at hd
    (obtain ⟨k1, e1⟩ := runDOps_ev h hr; exact ⟨k1, fun k hk => by simp only [e1 k hk]; exact hd⟩)

theorem codeStep_ev {exk : Nat → CodeF} {ex : CodeF} (h : FnEv cfk cf) (hc : CodeEv exk ex) : CodeEv (fun k => codeStep (exk k) (cfk k)) (codeStep ex cf) := by
  intro nt c st r hd
  cases c with
  | skip => exact Ev.const hd
  | exit id => exact Ev.const hd
  | ret => exact Ev.const hd
  | reg ops =>
    simp only [codeStep] at hd ⊢
    cases hr : runOps cf nt ops st with
    | none => rw [hr] at hd; cases hd
    | some q => rw [hr] at hd; (obtain ⟨k1, e1⟩ := runOps_ev h hr; exact ⟨k1, fun k hk => by simp only [e1 k hk]; exact hd⟩)
  | dreg ops ahead pairs =>
    simp only [codeStep] at hd ⊢
    cases hr : runDreg cf nt ops ahead pairs st with
    | none => rw [hr] at hd; cases hd
    | some q => rw [hr] at hd; (obtain ⟨k1, e1⟩ := runDreg_ev h hr; exact ⟨k1, fun k hk => by simp only [e1 k hk]; exact hd⟩)
  | seq a b =>
    simp only [codeStep] at hd ⊢
    split at hd
    · rename_i st1 h1
      obtain ⟨k1, e1⟩ := hc _ _ _ _ h1
      obtain ⟨k2, e2⟩ := hc _ _ _ _ hd
      exact ⟨max k1 k2, fun k hk => by simp only [e1 k (by omega)]; exact e2 k (by omega)⟩
    · rename_i hne
      obtain ⟨k1, e1⟩ := hc _ _ _ _ hd
      refine ⟨k1, fun k hk => ?_⟩
      simp only [e1 k hk]
      split
      · rename_i st1 heq; cases heq; exact absurd hd (hne st1)
      · rfl
  | cond c a b =>
    simp only [codeStep] at hd ⊢
    split at hd
    · exact hc _ _ _ _ hd
    · exact hc _ _ _ _ hd
    · cases hd
  | block id c =>
    simp only [codeStep] at hd ⊢
    split at hd
    · rename_i i st1 h1
      obtain ⟨k1, e1⟩ := hc _ _ _ _ h1
      exact ⟨k1, fun k hk => by simp only [e1 k hk]; exact hd⟩
    · rename_i hne
      obtain ⟨k1, e1⟩ := hc _ _ _ _ hd
      refine ⟨k1, fun k hk => ?_⟩
      simp only [e1 k hk]
      split
      · rename_i i st1 heq; cases heq; exact absurd hd (hne i st1)
      · rfl
  | loop c =>
    simp only [codeStep] at hd ⊢
    split at hd
    · rename_i st1 h1
      obtain ⟨k1, e1⟩ := hc _ _ _ _ h1
      obtain ⟨k2, e2⟩ := hc _ _ _ _ hd
      exact ⟨max k1 k2, fun k hk => by simp only [e1 k (by omega)]; exact e2 k (by omega)⟩
    · rename_i hne
      obtain ⟨k1, e1⟩ := hc _ _ _ _ hd
      refine ⟨k1, fun k hk => ?_⟩
      simp only [e1 k hk]
      split
      · rename_i st1 heq; cases heq; exact absurd hd (hne st1)
      · rfl

theorem fnStep_ev {prog : Map AFunc} {exk : Nat → CodeF} {ex : CodeF} (hc : CodeEv exk ex) : FnEv (fun k => fnStep prog (exk k)) (fnStep prog ex) := by
  intro f args H nx r hd
  simp only [fnStep] at hd ⊢
  split at hd
  · cases hd
  · rename_i af haf
    simp only [cond_eq_ite] at hd ⊢
    split at hd
    · rename_i hl
      simp only [if_pos hl]
      cases hr : ex af.nt af.body ⟨initE args 0 .leaf, H, nx⟩ with
      | none => rw [hr] at hd; cases hd
      | some q =>
        rw [hr] at hd
        (obtain ⟨k1, e1⟩ := hc _ _ _ _ hr; exact ⟨k1, fun k hk => by simp only [e1 k hk]; exact hd⟩)
    · cases hd
end

/-! ### The evaluator without fuel -/
noncomputable def runFn (prog : Map AFunc) : FnF := fun f args H nx => if h : ∃ r, Ev (fun k => (interp prog k).fn f args H nx) r then some (Classical.choose h) else none
noncomputable def runCode (prog : Map AFunc) : CodeF := fun nt c st => if h : ∃ r, Ev (fun k => (interp prog k).code nt c st) r then some (Classical.choose h) else none

theorem runFn_ev (prog : Map AFunc) : FnEv (fun k => (interp prog k).fn) (runFn prog) := by
  intro f args H nx r h
  unfold runFn at h
  split at h
  · rename_i hh; cases h; exact Classical.choose_spec hh
  · cases h
theorem runCode_ev (prog : Map AFunc) : CodeEv (fun k => (interp prog k).code) (runCode prog) := by
  intro nt c st r h
  unfold runCode at h
  split at h
  · rename_i hh; cases h; exact Classical.choose_spec hh
  · cases h
theorem runFn_of {prog : Map AFunc} {f : Nat} {args : List AV} {H : Heap} {nx : Nat} {r : AV × Heap × Nat} (h : Ev (fun k => (interp prog k).fn f args H nx) r) : runFn prog f args H nx = some r := by
  have hh : ∃ r, Ev (fun k => (interp prog k).fn f args H nx) r := ⟨r, h⟩
  unfold runFn
  rw [dif_pos hh]
  exact congrArg some (Ev.uniq (Classical.choose_spec hh) h)
theorem runCode_of {prog : Map AFunc} {nt : Nat} {c : ACode} {st : St} {r : AExit × St} (h : Ev (fun k => (interp prog k).code nt c st) r) : runCode prog nt c st = some r := by
  have hh : ∃ r, Ev (fun k => (interp prog k).code nt c st) r := ⟨r, h⟩
  unfold runCode
  rw [dif_pos hh]
  exact congrArg some (Ev.uniq (Classical.choose_spec hh) h)
theorem ev_succ {α : Type} {X : Nat → Option α} {r : α} (h : Ev (fun k => X (k + 1)) r) : Ev X r := by
  obtain ⟨k0, h⟩ := h
  exact ⟨k0 + 1, fun k hk => by have h1 : X (k - 1 + 1) = some r := h (k - 1) (by omega); rwa [show k - 1 + 1 = k by omega] at h1⟩
/-- A STEP: code. -/
theorem run_code {prog : Map AFunc} {nt : Nat} {c : ACode} {st : St} {r : AExit × St} (h : codeStep (runCode prog) (runFn prog) nt c st = some r) : runCode prog nt c st = some r :=
  runCode_of (ev_succ (X := fun k => (interp prog k).code nt c st) (codeStep_ev (runFn_ev prog) (runCode_ev prog) nt c st r h))
/-- A STEP: a function. -/
theorem run_fn {prog : Map AFunc} {f : Nat} {args : List AV} {H : Heap} {nx : Nat} {r : AV × Heap × Nat} (h : fnStep prog (runCode prog) f args H nx = some r) : runFn prog f args H nx = some r :=
  runFn_of (ev_succ (X := fun k => (interp prog k).fn f args H nx) (fnStep_ev (runCode_ev prog) f args H nx r h))
/-- WHAT IT ANSWERS, CALLS ANSWER. -/
theorem runFn_ok {P : Program} {prog : Map AFunc} (h : ∀ k, FnOk P (interp prog k).fn) : FnOk P (runFn prog) := by
  intro f args H nx v H' nx' hr
  obtain ⟨k0, hk⟩ := runFn_ev prog f args H nx _ hr
  exact h k0 f args H nx v H' nx' (hk k0 (Nat.le_refl _))
end Go.Ax
