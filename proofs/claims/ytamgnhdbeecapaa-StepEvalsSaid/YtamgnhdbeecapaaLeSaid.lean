/- StepEvals: of any two expressions and three variables the law answers true. By an AI agent. -/
import Derived.Test.YtamgnhdbeecapaaRows
import Derived.Test.YtamgnhdbeecapaaLeOk
import Derived.Test.YtamgnhdbeecapaaLeP
import Derived.Test.YtamgnhdbeecapaaV17
import Derived.WalkKit
import Derived.ProofKit
import Derived.OpenShut
import Derived.JoinedCond
namespace Go.Proofs.Ytamgnhdbeecapaa.stepEvals
open Go.ChangeShapes Go.WideShapes Go.ChangeAt Go.RowKit Go.Ax Go.Ax.TryLe
set_option linter.unusedVariables false

theorem own : ownKnob Try.prog.godebug = none := by kernel_rfl
theorem laid : laidOutB Try.prog = true := by kernel_rfl
theorem runOk : FnOk Try.prog (runFn prog) := runFn_ok fnOk
def LL : List TypeId := [92, 90, 3, 93, 21]
theorem good : ∀ t ∈ LL, V.goodB Try.prog LL t = true := by
  have h : LL.all (fun t => V.goodB Try.prog LL t) = true := by kernel_rfl
  exact fun t ht => List.all_eq_true.1 h t ht
theorem r93 : V.rowOf Try.prog 93 = some (.ar 3 21) := by kernel_rfl
theorem r21 : V.rowOf Try.prog 21 = some (.int .i32) := by kernel_rfl
theorem small_wf {n : Int} (h : (Lit.int .i32 n).wf = true) : small n := bounds_i32 h
theorem ty_vars {n : Nat} {ts : List V.TV} (h : V.TyT Try.prog n 93 ts) : ∃ x y z, ts = [.i .i32 x, .i .i32 y, .i .i32 z] ∧ small x ∧ small y ∧ small z := by
  cases n with
  | zero => cases h
  | succ n =>
    unfold V.TyT at h
    rw [r93] at h
    obtain ⟨tss, hl, rfl, hu⟩ := h
    have one : ∀ u, V.TyT Try.prog n 21 u → ∃ x, u = [.i .i32 x] ∧ small x := by
      intro u h
      cases n with
      | zero => cases h
      | succ n =>
        unfold V.TyT at h
        rw [r21] at h
        obtain ⟨x, rfl, hw⟩ := h
        exact ⟨x, rfl, small_wf hw⟩
    match tss, hl with
    | [a, b, c], _ =>
      obtain ⟨x, rfl, hx⟩ := one a (hu 0 _ rfl)
      obtain ⟨y, rfl, hy⟩ := one b (hu 1 _ rfl)
      obtain ⟨z, rfl, hz⟩ := one c (hu 2 _ rfl)
      exact ⟨x, y, z, rfl, hx, hy, hz⟩

set_option maxRecDepth 100000 in
theorem contract (H : Type) (enc : TypeId × Value → H) (W : World) (base : Nat) (args : Array Value) (ds gs : List (DataW H)) (before : List MemPlace)
    (hval : ∀ (j : Nat) t v, Try.f9.params[j]? = some t → args[j]? = some v → Value.okWide Try.prog W .any base t v)
    (hW : DataW.Whole enc Try.prog Try.f9.params.toList Rows.stepEvalsSpec.vars false W args.toList ds gs before) :
    Calls Try.prog 9 args W fun e W' => ∃ v, e = .returned v ∧ Rows.stepEvalsSpec.post enc Try.prog Try.f9 false true false false W args v W' := by
  have hW' := hW
  have hlt := fun x hx => hW.lt x hx
  obtain ⟨p, q, hA0, hV, rfl, hfz, hnd⟩ := hW
  have hA : DataW.TrodAll enc Try.prog W 0 (fun _ => true) true Try.f9.params.toList args.toList ds p := hA0
  rw [Try.params9] at hA hval
  obtain ⟨v0, vs0, d0, ds0, p0, q0, hargs, rfl, rfl, h0, r0⟩ := trodAll_cons hA
  obtain ⟨v1, vs1, d1, ds1, p1, q1, hargs1, rfl, rfl, h1, r1⟩ := trodAll_cons r0
  subst hargs1
  obtain ⟨v2, vs2, d2, ds2, p2, q2, hargs2, rfl, rfl, h2, r2⟩ := trodAll_cons r1
  subst hargs2
  obtain ⟨rfl, rfl, rfl⟩ := trodAll_nil r2
  obtain rfl : args = #[v0, v1, v2] := by cases args; simp_all
  obtain ⟨rfl, rfl⟩ := trodVars_none hV
  obtain ⟨n0, t0, a0, y0, c0, e0, _⟩ := V.open_agg good (by decide) (by kernel_rfl) (hval 0 92 v0 rfl rfl) h0
  obtain ⟨n1, t1, a1, y1, c1, e1, _⟩ := V.open_agg good (by decide) (by kernel_rfl) (hval 1 92 v1 rfl rfl) h1
  obtain ⟨n2, t2, a2, y2, c2, e2, _⟩ := V.open_agg good (by decide) (by kernel_rfl) (hval 2 93 v2 rfl rfl) h2
  obtain ⟨x, y, z, rfl, hx, hy, hz⟩ := ty_vars y2
  clear hA0
  simp only [List.append_nil] at hW' hlt
  have w := calls_true runOk (V.vs_true (law y0 y1 hx hy hz) (V.canL_cons c0 (V.canL_cons c1 (V.canL_cons c2 V.canL_nil)))) (V.args_three e0 e1 e2)
  refine w.mono fun e W' ⟨he, hg⟩ => ?_
  subst he
  exact ⟨_, rfl, post_of_same (pa := p0 ++ (p1 ++ p2)) (pv := []) hW' (fun _ _ _ => (trodAll_cons_mk (shut_bool Try.underlying4 _) trodAll_mk0))
    (fun sp hs => by
      have k0 := V.carry (sp := sp) laid (by kernel_rfl) (of_decide_eq_true (by kernel_rfl)) h0 hg (fun x hx => hlt x (by simp [hx])) (fun x hx => hs x (by simp [hx]))
      have k1 := V.carry (sp := sp) laid (by kernel_rfl) (of_decide_eq_true (by kernel_rfl)) h1 hg (fun x hx => hlt x (by simp [hx])) (fun x hx => hs x (by simp [hx]))
      have k2 := V.carry (sp := sp) laid (by kernel_rfl) (of_decide_eq_true (by kernel_rfl)) h2 hg (fun x hx => hlt x (by simp [hx])) (fun x hx => hs x (by simp [hx]))
      have := trodAll_cons_mk k0 (trodAll_cons_mk k1 (trodAll_cons_mk k2 trodAll_mk0))
      simp only [List.append_nil] at this
      exact this)
    (fun _ _ => rfl) (by simp)
    (hg.frame _) hg.2.1 (ok_one (by kernel_rfl) rfl (okWide_bool_mk Try.underlying4 _))⟩

set_option maxRecDepth 100000 in
theorem lifted (os : Os) (started : os.Started) (H : Type) (enc : TypeId × Value → H) :
    ReturnsInHanded {} Try.checked os 9 .any (Rows.stepEvalsSpec.pre6 enc Try.prog Try.f9 Rows.stepEvalsRow.domain false) (Rows.stepEvalsSpec.post enc Try.prog Try.f9 false true false false) := by
  refine returnsInHanded_of_change (C := Try.checked) own started (by kernel_rfl) Try.func9
    (ChangeSpec.witness6 (enc := enc) (C := Try.checked) false ⟨#[], #[.agg #[.int .i64 0, .int .i64 0, .int .i64 0, .slice none 0 0], .agg #[.int .i64 0, .int .i64 0, .int .i64 0, .slice none 0 0], .agg #[.int .i32 0, .int .i32 0, .int .i32 0]], []⟩ 8 (by kernel_rfl) (by kernel_rfl) (by kernel_rfl) (by kernel_rfl)) ?_
  intro W base args ds gs before hval hW _ _
  exact contract H enc W base args ds gs before hval hW

theorem proved : Rows.StepEvalsSaid :=
  OpenClaim.holds_of_wide 9 Try.f9 rfl rfl rfl rfl rfl rfl rfl ⟨rfl, rfl, rfl, rfl, rfl⟩ rfl rfl rfl rfl rfl (by kernel_rfl) Try.func9 (by kernel_rfl)
    (of_decide_eq_true (by kernel_rfl)) (by unfold Func.isWrapper; first | (rw [if_pos (by decide +kernel)]; kernel_rfl) | (rw [if_neg (by decide +kernel)]; exact ⟨rfl, rfl⟩))
    (fun os started H enc _ => lifted os started H enc)
end Go.Proofs.Ytamgnhdbeecapaa.stepEvals
