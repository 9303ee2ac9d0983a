/- FlowNots. By an AI agent. -/
import Derived.Test.YtamgnhdbeecapaaRows
import Derived.Test.YtamgnhdbeecapaaLnOk
import Derived.WalkKit
import Derived.ProofKit
import Derived.OpenShut
import Derived.JoinedCond
namespace Go.Proofs.Ytamgnhdbeecapaa.flowNots
open Go.ChangeShapes Go.WideShapes Go.ChangeAt Go.RowKit Go.Ax Go.Ax.TryLn
set_option linter.unusedVariables false

theorem own : ownKnob Try.prog.godebug = none := by kernel_rfl

theorem neg (m : Nat) : isTrue ((interp prog 1000).fn 12 [.int .i64 (.negSucc m)] .leaf 0) = true := by kernel_rfl
theorem big (m : Nat) : isTrue ((interp prog 1000).fn 12 [.int .i64 (.ofNat (m + 7))] .leaf 0) = true := by kernel_rfl
theorem t0 : isTrue ((interp prog 1000).fn 12 [.int .i64 (.ofNat 0)] .leaf 0) = true := by kernel_rfl
theorem t1 : isTrue ((interp prog 1000).fn 12 [.int .i64 (.ofNat 1)] .leaf 0) = true := by kernel_rfl
theorem t2 : isTrue ((interp prog 1000).fn 12 [.int .i64 (.ofNat 2)] .leaf 0) = true := by kernel_rfl
theorem t3 : isTrue ((interp prog 1000).fn 12 [.int .i64 (.ofNat 3)] .leaf 0) = true := by kernel_rfl
theorem t4 : isTrue ((interp prog 1000).fn 12 [.int .i64 (.ofNat 4)] .leaf 0) = true := by kernel_rfl
theorem t5 : isTrue ((interp prog 1000).fn 12 [.int .i64 (.ofNat 5)] .leaf 0) = true := by kernel_rfl
theorem t6 : isTrue ((interp prog 1000).fn 12 [.int .i64 (.ofNat 6)] .leaf 0) = true := by kernel_rfl
theorem every : ∀ n : Int, isTrue ((interp prog 1000).fn 12 [.int .i64 n] .leaf 0) = true
  | .negSucc m => neg m
  | .ofNat 0 => t0
  | .ofNat 1 => t1
  | .ofNat 2 => t2
  | .ofNat 3 => t3
  | .ofNat 4 => t4
  | .ofNat 5 => t5
  | .ofNat 6 => t6
  | .ofNat (m + 7) => big m

set_option maxRecDepth 100000 in
theorem walk (a0 : Int) (W : World) : Calls Try.prog 12 #[.int .i64 a0] W fun e W' => e = .returned (.bool true) ∧ Grown W W' :=
  calls_true (fnOk 1000) (every a0) (args_one (.pure (.int _ _)))

set_option maxRecDepth 100000 in
theorem contract (H : Type) (enc : TypeId × Value → H) (W : World) (base : Nat) (args : Array Value) (ds gs : List (DataW H)) (before : List MemPlace)
    (hval : ∀ (j : Nat) t v, Try.f12.params[j]? = some t → args[j]? = some v → Value.okWide Try.prog W .any base t v)
    (hW : DataW.Whole enc Try.prog Try.f12.params.toList Rows.flowNotsSpec.vars false W args.toList ds gs before) :
    Calls Try.prog 12 args W fun e W' => ∃ v, e = .returned v ∧ Rows.flowNotsSpec.post enc Try.prog Try.f12 false true false false W args v W' := by
  have hW' := hW
  obtain ⟨p, q, hA0, hV, rfl, hfz, hnd⟩ := hW
  have hA : DataW.TrodAll enc Try.prog W 0 (fun _ => true) true Try.f12.params.toList args.toList ds p := hA0
  rw [Try.params12] at hA hval
  obtain ⟨v0, vs0, d0, ds0, p0, q0, hargs, rfl, rfl, h0, r0⟩ := trodAll_cons hA
  obtain ⟨rfl, rfl, rfl⟩ := trodAll_nil r0
  obtain rfl : args = #[v0] := by cases args; simp_all
  obtain ⟨rfl, rfl⟩ := trodVars_none hV
  obtain ⟨a0, rfl, rfl, rfl, w0⟩ := open_int Try.underlying3 (hval 0 3 v0 rfl rfl) h0
  clear hA0
  simp only [List.append_nil] at hW'
  refine (walk a0 W).mono fun e W' ⟨he, hg⟩ => ?_
  subst he
  exact ⟨_, rfl, post_of_same (pa := []) (pv := []) hW' (fun _ _ _ => (trodAll_cons_mk (shut_bool Try.underlying4 _) trodAll_mk0)) (fun sp _ => (trodAll_cons_mk (shut_int Try.underlying3 w0) trodAll_mk0)) (fun _ _ => rfl) rfl
    (hg.frame _) hg.2.1 (ok_one (by kernel_rfl) rfl (okWide_bool_mk Try.underlying4 _))⟩

set_option maxRecDepth 100000 in
theorem lifted (os : Os) (started : os.Started) (H : Type) (enc : TypeId × Value → H) (F : Stop.Interp) :
    ReturnsInHanded {} Try.checked os 12 .any ((Rows.OpenSpec.upto Rows.flowNotsSpec).pre6 enc Try.prog Try.f12 Rows.flowNotsUptoRow.domain false) (((Rows.OpenSpec.upto Rows.flowNotsSpec).at F).post enc Try.prog Try.f12 false true false false) := by
  refine returnsInHanded_of_cond (C := Try.checked) (s := Rows.OpenSpec.upto Rows.flowNotsSpec) (k := Rows.uptoSmall) rfl own started (by kernel_rfl) Try.func12
    (OpenSpec.witness (enc := enc) (C := Try.checked) (s := Rows.OpenSpec.upto Rows.flowNotsSpec) (k := Rows.uptoSmall) rfl false ⟨#[], #[.int .i64 0], []⟩ 8 (by kernel_rfl) (by kernel_rfl) (by kernel_rfl)
      (x := ([.lit (.int .i64 0)], [], [])) (by kernel_rfl) rfl (by kernel_rfl)) ?_
  intro W base args ds gs before hval hW _ hk _
  exact contract H enc W base args ds gs before hval hW

theorem over : Rows.flowNotsUptoRow.holds Try.pinned (Rows.OpenSpec.upto Rows.flowNotsSpec) :=
  OpenClaim.holds_of_cond 12 Try.f12 rfl rfl rfl rfl rfl rfl rfl ⟨rfl, rfl, rfl, rfl, rfl⟩ rfl rfl rfl rfl rfl (by kernel_rfl) Try.func12 (by kernel_rfl)
    (of_decide_eq_true (by kernel_rfl)) (by unfold Func.isWrapper; first | (rw [if_pos (by decide +kernel)]; kernel_rfl) | (rw [if_neg (by decide +kernel)]; exact ⟨rfl, rfl⟩))
    (fun os started H enc _ F => lifted os started H enc F)

theorem proved : Rows.FlowNotsUptoSaid :=
  over
end Go.Proofs.Ytamgnhdbeecapaa.flowNots
