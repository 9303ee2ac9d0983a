/- From what the interpreter answers to what a statement asks: a call, whose arguments are trees, of which nothing is changed. -/
import Derived.Test.YtamgnhdbeecapaaAx24
set_option linter.unusedSimpArgs false
set_option linter.unusedVariables false
namespace Go.Ax

theorem grown_of_ext {W W' : World} (e : Ext (fun _ => False) W W') : RowKit.Grown W W' := by
  refine ⟨⟨e.os, e.output, fun i hi => ?_⟩, e.fz, e.size⟩
  rw [e.same i hi (fun h => h)]
  cases h : W.heap[i]? with
  | none => rfl
  | some ob =>
    cases ob with
    | cells c t fr => exact ⟨rfl, rfl, rfl, fun _ _ => rfl⟩
    | map es clk => exact .inr ⟨rfl, rfl⟩
    | _ => rfl

/-- the answer true, asked of the kernel -/
def isTrue : Option (AV × Heap × Nat) → Bool
  | some (.bool b, _, _) => b
  | _ => false
theorem isTrue_some {r : Option (AV × Heap × Nat)} (h : isTrue r = true) : ∃ H nx, r = some (.bool true, H, nx) := by
  unfold isTrue at h
  split at h
  · subst h; exact ⟨_, _, rfl⟩
  · cases h

theorem calls_true {P : Program} {cf : FnF} (hcf : FnOk P cf) {f : Nat} {args : List AV} (h : isTrue (cf f args .leaf 0) = true) {cargs : Array Value} {W : World} (ha : ArgsR noPhi (fun b => b < W.heap.size) W args cargs) :
    Calls P f cargs W fun e W' => e = .returned (.bool true) ∧ RowKit.Grown W W' := by
  obtain ⟨H, nx, hr⟩ := isTrue_some h
  refine Calls.mono ((hcf f args .leaf 0 _ H nx hr).2 nx noPhi (fun b => b < W.heap.size) W cargs (Nat.le_refl _) (sim_none _ (fun b hb => hb)) ha) (fun e W' he => ?_)
  cases e with
  | returned V =>
    obtain ⟨φ', K', g, hv⟩ := he
    rw [rel_bool hv]
    exact ⟨rfl, grown_of_ext (g.ext.mono (fun b hb => (no_mut hb).elim))⟩
  | panicked _ => exact he.elim
  | outgrown => exact he.elim

theorem args_one {φ : Phi} {K : Nat → Prop} {w : World} {a : AV} {V : Value} (h : RelV φ K w a V) : ArgsR φ K w [a] #[V] :=
  ⟨rfl, fun j b U hb hU => by
    cases j with
    | zero => simp at hb hU; subst hb; subst hU; exact h
    | succ j => simp at hb⟩
def mF (P : Program) (fn : Func) (af : AFunc) : Bool := match fn.body with | some c => mFunc P fn c af | none => false
theorem matched_of {P : Program} {f : Nat} {fn : Func} {af : AFunc} (hf : P.funcs[f]? = some fn) (hm : mF P fn af = true) (hcall : ∀ args w, (callFunc f args).run P w = .ok (.enter f args) w) : Matched P f af := by
  unfold mF at hm
  split at hm
  · rename_i c hc; exact ⟨⟨fn, c, hf, hc, hm⟩, hcall⟩
  · cases hm

/-- A program all of whose functions are matched, leaf by leaf. -/
def AllM (M : Nat → AFunc → Prop) : Map AFunc → (Nat → Nat) → Prop
  | .leaf, _ => True
  | .node v l r, p => (match v with | some af => M (p 0) af | none => True) ∧ AllM M l (fun k => p (2 * k + 1)) ∧ AllM M r (fun k => p (2 * k + 2))
theorem allM_get {M : Nat → AFunc → Prop} : ∀ (m : Map AFunc) (p : Nat → Nat), AllM M m p → ∀ i af, m.get i = some af → M (p i) af
  | .leaf, p, _, i, af, h => by cases h
  | .node v l r, p, h, i, af, hg => by
    obtain ⟨h1, h2, h3⟩ := h
    rw [Map.get_node] at hg
    by_cases h0 : i = 0
    · subst h0
      simp at hg
      subst hg
      exact h1
    · rw [if_neg h0] at hg
      split at hg
      · have := allM_get l _ h2 _ af hg
        rwa [show 2 * (i / 2) + 1 = i by omega] at this
      · have := allM_get r _ h3 _ af hg
        rwa [show 2 * (i / 2 - 1) + 2 = i by omega] at this
end Go.Ax
