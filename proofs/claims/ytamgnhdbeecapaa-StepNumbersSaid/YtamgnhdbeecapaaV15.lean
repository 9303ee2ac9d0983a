/- Calls that ask nothing; from values to a statement. -/
import Derived.Test.YtamgnhdbeecapaaV14
set_option linter.unusedSimpArgs false
set_option linter.unusedVariables false
namespace Go.Ax.V

theorem interp_run (prog : Map AFunc) : ∀ k, FnEv (fun _ => runFn prog) (interp prog k).fn ∧ CodeEv (fun _ => runCode prog) (interp prog k).code
  | 0 => ⟨fun f args H nx r h => (by cases h), fun nt c st r h => (by cases h)⟩
  | k + 1 => by
    obtain ⟨h1, h2⟩ := interp_run prog k
    constructor
    · intro f args H nx r h
      obtain ⟨k0, hk⟩ := fnStep_ev (prog := prog) h2 f args H nx r h
      exact Ev.const (run_fn (hk k0 (Nat.le_refl _)))
    · intro nt c st r h
      obtain ⟨k0, hk⟩ := codeStep_ev h1 h2 nt c st r h
      exact Ev.const (run_code (hk k0 (Nat.le_refl _)))
theorem run_of_interp {prog : Map AFunc} {k f : Nat} {args : List AV} {H : Heap} {nx : Nat} {r : AV × Heap × Nat} (h : (interp prog k).fn f args H nx = some r) : runFn prog f args H nx = some r := by
  obtain ⟨k0, hk⟩ := (interp_run prog k).1 f args H nx r h
  exact hk k0 (Nat.le_refl _)
/-- a call that asks nothing, carried out by the kernel -/
theorem vs_closed {prog : Map AFunc} {k f : Nat} (h : isTrue ((interp prog k).fn f [] .leaf 0) = true) : VS prog f [] (fun r => r = .b true) := by
  intro as ha
  have : as = [] := List.length_eq_zero_iff.1 ha.1.symm
  subst this
  obtain ⟨H, nx, hr⟩ := isTrue_some h
  exact ⟨_, H, nx, run_of_interp hr, _, rfl, _, .b true, rfl⟩
theorem vs_true {prog : Map AFunc} {f : Nat} {ts : List TV} {as : List AV} (h : VS prog f ts (fun r => r = .b true)) (ha : CanL ts as) : isTrue (runFn prog f as .leaf 0) = true := by
  obtain ⟨v, H, nx, h1, a, h2, r, h3, rfl⟩ := h as ha
  cases h3
  have := imm_back (d := 29) h2 (fun _ _ _ h => by cases h) (fun _ h => by cases h) (fun _ h => by cases h)
  subst this
  rw [h1]
  rfl
theorem canL_nil : CanL [] [] := ⟨rfl, fun j t x ht => by simp at ht⟩
theorem canL_cons {t : TV} {x : AV} {ts : List TV} {as : List AV} (h : Can t x) (hs : CanL ts as) : CanL (t :: ts) (x :: as) := by
  refine ⟨by simp [hs.1], fun j u y hu hy => ?_⟩
  cases j with
  | zero => simp at hu hy; subst hu; subst hy; exact h
  | succ j => exact hs.2 j u y (by simpa using hu) (by simpa using hy)

/-! numbers -/
theorem wrap_id {n : Int} (h1 : -9223372036854775808 ≤ n) (h2 : n < 9223372036854775808) : wrapA .i64 n = n := by
  unfold wrapA
  have : inR .i64 n = true := by
    cases n with
    | ofNat m => have h2' : (m : Int) < 9223372036854775808 := h2; simp only [inR]; simp; omega
    | negSucc m => simp only [inR]; simp; omega
  rw [this]; rfl
end Go.Ax.V
