/- StepNumbers: of any two numbers of 32 bits the law answers true. By an AI agent. -/
import Derived.Test.YtamgnhdbeecapaaRows
import Derived.Test.YtamgnhdbeecapaaLsOk
import Derived.Test.YtamgnhdbeecapaaLsQ
import Derived.WalkKit
import Derived.ProofKit
import Derived.OpenShut
import Derived.JoinedCond
namespace Go.Proofs.Ytamgnhdbeecapaa.stepNumbers
open Go.ChangeShapes Go.WideShapes Go.ChangeAt Go.RowKit Go.Ax Go.Ax.TryLs
set_option linter.unusedVariables false

theorem own : ownKnob Try.prog.godebug = none := by kernel_rfl
theorem runOk : FnOk Try.prog (runFn prog) := runFn_ok fnOk

theorem args_two {φ : Phi} {K : Nat → Prop} {w : World} {a b : AV} {U V : Value} (h : RelV φ K w a U) (h' : RelV φ K w b V) : ArgsR φ K w [a, b] #[U, V] :=
  ⟨rfl, fun j x y hx hy => by
    cases j with
    | zero => simp at hx hy; subst hx; subst hy; exact h
    | succ j =>
      cases j with
      | zero => simp at hx hy; subst hx; subst hy; exact h'
      | succ j => simp at hx⟩
theorem small_wf {n : Int} (h : (Lit.int .i32 n).wf = true) : small n := by
  have h' : decide (IntKind.i32.min ≤ n) && decide (n ≤ IntKind.i32.max) := h
  rw [Bool.and_eq_true, decide_eq_true_eq, decide_eq_true_eq] at h'
  have e1 : IntKind.i32.min = -2147483648 := by decide
  have e2 : IntKind.i32.max = 2147483647 := by decide
  rw [e1, e2] at h'
  exact h'

set_option maxRecDepth 100000 in
theorem walk (a0 a1 : Int) (h0 : small a0) (h1 : small a1) (W : World) : Calls Try.prog 10 #[.int .i32 a0, .int .i32 a1] W fun e W' => e = .returned (.bool true) ∧ Grown W W' :=
  calls_true runOk (V.vs_true (law a0 a1 h0 h1) (V.canL_cons (.i _ _) (V.canL_cons (.i _ _) V.canL_nil))) (args_two (.pure (.int _ _)) (.pure (.int _ _)))

set_option maxRecDepth 100000 in
theorem contract (H : Type) (enc : TypeId × Value → H) (W : World) (base : Nat) (args : Array Value) (ds gs : List (DataW H)) (before : List MemPlace)
    (hval : ∀ (j : Nat) t v, Try.f10.params[j]? = some t → args[j]? = some v → Value.okWide Try.prog W .any base t v)
    (hW : DataW.Whole enc Try.prog Try.f10.params.toList Rows.stepNumbersSpec.vars false W args.toList ds gs before) :
    Calls Try.prog 10 args W fun e W' => ∃ v, e = .returned v ∧ Rows.stepNumbersSpec.post enc Try.prog Try.f10 false true false false W args v W' := by
  have hW' := hW
  obtain ⟨p, q, hA0, hV, rfl, hfz, hnd⟩ := hW
  have hA : DataW.TrodAll enc Try.prog W 0 (fun _ => true) true Try.f10.params.toList args.toList ds p := hA0
  rw [Try.params10] at hA hval
  obtain ⟨v0, vs0, d0, ds0, p0, q0, hargs, rfl, rfl, h0, r0⟩ := trodAll_cons hA
  obtain ⟨v1, vs1, d1, ds1, p1, q1, hargs1, rfl, rfl, h1, r1⟩ := trodAll_cons r0
  subst hargs1
  obtain ⟨rfl, rfl, rfl⟩ := trodAll_nil r1
  obtain rfl : args = #[v0, v1] := by cases args; simp_all
  obtain ⟨rfl, rfl⟩ := trodVars_none hV
  obtain ⟨a0, rfl, rfl, rfl, w0⟩ := open_int Try.underlying21 (hval 0 21 v0 rfl rfl) h0
  obtain ⟨a1, rfl, rfl, rfl, w1⟩ := open_int Try.underlying21 (hval 1 21 v1 rfl rfl) h1
  clear hA0
  simp only [List.append_nil] at hW'
  refine (walk a0 a1 (small_wf w0) (small_wf w1) W).mono fun e W' ⟨he, hg⟩ => ?_
  subst he
  exact ⟨_, rfl, post_of_same (pa := []) (pv := []) hW' (fun _ _ _ => (trodAll_cons_mk (shut_bool Try.underlying4 _) trodAll_mk0)) (fun sp _ => (trodAll_cons_mk (shut_int Try.underlying21 w0) (trodAll_cons_mk (shut_int Try.underlying21 w1) trodAll_mk0))) (fun _ _ => rfl) rfl
    (hg.frame _) hg.2.1 (ok_one (by kernel_rfl) rfl (okWide_bool_mk Try.underlying4 _))⟩

set_option maxRecDepth 100000 in
theorem lifted (os : Os) (started : os.Started) (H : Type) (enc : TypeId × Value → H) :
    ReturnsInHanded {} Try.checked os 10 .any (Rows.stepNumbersSpec.pre6 enc Try.prog Try.f10 Rows.stepNumbersRow.domain false) (Rows.stepNumbersSpec.post enc Try.prog Try.f10 false true false false) := by
  refine returnsInHanded_of_change (C := Try.checked) own started (by kernel_rfl) Try.func10
    (ChangeSpec.witness6 (enc := enc) (C := Try.checked) false ⟨#[], #[.int .i32 0, .int .i32 0], []⟩ 8 (by kernel_rfl) (by kernel_rfl) (by kernel_rfl) (by kernel_rfl)) ?_
  intro W base args ds gs before hval hW _ _
  exact contract H enc W base args ds gs before hval hW

theorem proved : Rows.StepNumbersSaid :=
  OpenClaim.holds_of_wide 10 Try.f10 rfl rfl rfl rfl rfl rfl rfl ⟨rfl, rfl, rfl, rfl, rfl⟩ rfl rfl rfl rfl rfl (by kernel_rfl) Try.func10 (by kernel_rfl)
    (of_decide_eq_true (by kernel_rfl)) (by unfold Func.isWrapper; first | (rw [if_pos (by decide +kernel)]; kernel_rfl) | (rw [if_neg (by decide +kernel)]; exact ⟨rfl, rfl⟩))
    (fun os started H enc _ => lifted os started H enc)
end Go.Proofs.Ytamgnhdbeecapaa.stepNumbers
