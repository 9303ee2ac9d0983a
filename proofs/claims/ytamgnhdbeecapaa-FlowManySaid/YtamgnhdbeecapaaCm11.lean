/- Part 11 of the proof: LmSaid. -/
import Derived.Test.YtamgnhdbeecapaaCm7
import Derived.Test.YtamgnhdbeecapaaCm10
import Derived.Test.YtamgnhdbeecapaaRows
import Derived.WalkKit
import Derived.ProofKit
import Derived.OpenShut
import Derived.JoinedCond
set_option linter.unusedSimpArgs false
set_option linter.unusedVariables false
namespace Go.Proofs.Ytamgnhdbeecapaa.flowMany
open Go.ChangeShapes Go.WideShapes Go.ChangeAt Go.RowKit Go.Ax Go.Ax.ek
theorem own:ownKnob Try.prog.godebug=none:=by kernel_rfl
theorem hb:Try.f13.body=some cG:=by kernel_rfl
set_option maxRecDepth 100000 in
theorem walk (n:Int) (W:World):Calls Try.prog 13 #[.int .i64 n] W fun e W'=>e=.returned (.bool true)/\Grown W W':=
 J7 (nt:=96) (params:=1) (res:=Qx.res) (args:=[.int .i64 n]) Try.func13 hb (by kernel_rfl) (by decide) (by kernel_rfl) rfl (body n) (IN (.pure (.int _ _)))
set_option maxRecDepth 100000 in
theorem contract (H:Type) (enc:TypeId×Value->H) (W:World) (base:Nat) (args:Array Value) (ds gs:List (DataW H)) (before:List MemPlace)
  (hval:∀(j:Nat) t v,Try.f13.params[j]?=some t->args[j]?=some v->Value.okWide Try.prog W .any base t v)
  (hW:DataW.Whole enc Try.prog Try.f13.params.toList Rows.flowManySpec.vars false W args.toList ds gs before) :
  Calls Try.prog 13 args W fun e W'=>∃v,e=.returned v/\Rows.flowManySpec.post enc Try.prog Try.f13 false true false false W args v W':=by
 have hW':=hW;obtain⟨p,q,hA0,hV,rfl,hfz,hnd⟩:=hW;have hA:DataW.TrodAll enc Try.prog W 0 (fun _=>true) true Try.f13.params.toList args.toList ds p:=hA0;rw [Try.params13] at hA hval;obtain⟨v0,vs0,d0,ds0,p0,q0,hargs,rfl,rfl,h0,r0⟩:=trodAll_cons hA;obtain⟨rfl,rfl,rfl⟩:=trodAll_nil r0;obtain rfl:args=#[v0]:=by cases args;simp_all
 obtain⟨rfl,rfl⟩:=trodVars_none hV;obtain⟨a0,rfl,rfl,rfl,w0⟩:=open_int Try.underlying3 (hval 0 3 v0 rfl rfl) h0;clear hA0;simp only [List.append_nil] at hW';refine(walk a0 W).mono fun e W' ⟨he,hg⟩=>?_
 subst he;exact⟨_,rfl,post_of_same (pa:=[]) (pv:=[]) hW' (fun _ _ _=>(trodAll_cons_mk (shut_bool Try.underlying4 _) trodAll_mk0)) (fun sp _=>(trodAll_cons_mk (shut_int Try.underlying3 w0) trodAll_mk0)) (fun _ _=>rfl) rfl
  (hg.frame _) hg.2.1 (ok_one (by kernel_rfl) rfl (okWide_bool_mk Try.underlying4 _))⟩
set_option maxRecDepth 100000 in
theorem lifted (os:Os) (started:os.Started) (H:Type) (enc:TypeId×Value->H) :
  ReturnsInHanded {} Try.checked os 13 .any (Rows.flowManySpec.pre6 enc Try.prog Try.f13 Rows.flowManyRow.domain false) (Rows.flowManySpec.post enc Try.prog Try.f13 false true false false):=by
 refine returnsInHanded_of_change (C:=Try.checked) own started (by kernel_rfl) Try.func13
  (ChangeSpec.witness6 (enc:=enc) (C:=Try.checked) false ⟨#[],#[.int .i64 0],[]⟩ 8 (by kernel_rfl) (by kernel_rfl) (by kernel_rfl) (by kernel_rfl)) ?_
 intro W base args ds gs before hval hW _ _;exact contract H enc W base args ds gs before hval hW
theorem proved:Rows.FlowManySaid:=
 OpenClaim.holds_of_wide 13 Try.f13 rfl rfl rfl rfl rfl rfl rfl ⟨rfl,rfl,rfl,rfl,rfl⟩ rfl rfl rfl rfl rfl (by kernel_rfl) Try.func13 (by kernel_rfl)
  (of_decide_eq_true (by kernel_rfl)) (by unfold Func.isWrapper;first|(rw [if_pos (by decide +kernel)];kernel_rfl)|(rw [if_neg (by decide +kernel)];exact⟨rfl,rfl⟩))
  (fun os started H enc _=>lifted os started H enc)
end Go.Proofs.Ytamgnhdbeecapaa.flowMany
