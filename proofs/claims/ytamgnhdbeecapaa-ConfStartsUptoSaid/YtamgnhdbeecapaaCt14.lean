/- Part 14 of the proof: LtSaid. -/
import Derived.Test.YtamgnhdbeecapaaCt1
import Derived.Test.YtamgnhdbeecapaaCt9
import Derived.Test.YtamgnhdbeecapaaCt12
import Derived.Test.YtamgnhdbeecapaaCt13
import Derived.Test.YtamgnhdbeecapaaRows
import Derived.WalkKit
import Derived.ProofKit
import Derived.OpenShut
import Derived.JoinedCond
set_option linter.unusedSimpArgs false
set_option linter.unusedVariables false
namespace Go.Proofs.Ytamgnhdbeecapaa.confStarts
open Go.ChangeShapes Go.WideShapes Go.ChangeAt Go.RowKit Go.Ax Go.Ax.dg
theorem own:ownKnob Try.prog.godebug=none:=by kernel_rfl
theorem laid:laidOutB Try.prog=true:=by kernel_rfl
theorem Za:Aq Try.prog (ey prog):=PZ fnOk
def LL:List TypeId:=[26,22,23,24,179,187,184,9,3,174,185,190,182,225,220,218,222,223,231]
theorem good:∀t∈LL,V.KA Try.prog LL t=true:=by
 have h:LL.all (fun t=>V.KA Try.prog LL t)=true:=by kernel_rfl
 exact fun t ht=>qqA.1 h t ht
theorem s20:V.VS prog 20 [] (fun r=>r=.b true):=V.N8 (k:=1000) (by kernel_rfl)
theorem law {n:Nat} {ts:List V.TV} (h:V.we Try.prog n 26 ts) (hb:V.fj ts<=1048576):V.VS prog 7 [.a ts] (fun r=>r=.b true):=by obtain⟨s,e,hz,hB⟩:=Ft.SN h (by omega);rw [e];exact s7 s hz (fun p hp=>by have:=hB p hp;omega) s20
set_option maxRecDepth 100000 in
theorem contract (H:Type) (enc:TypeId×Value->H) (W:World) (base:Nat) (args:Array Value) (ds gs:List (DataW H)) (before:List MemPlace)
  (hval:∀(j:Nat) t v,Try.f7.params[j]?=some t->args[j]?=some v->Value.okWide Try.prog W .any base t v)
  (hk:Rows.uptoSmall H (ds++gs)=true)
  (hW:DataW.Whole enc Try.prog Try.f7.params.toList Rows.confStartsSpec.vars false W args.toList ds gs before) :
  Calls Try.prog 7 args W fun e W'=>∃v,e=.returned v/\Rows.confStartsSpec.post enc Try.prog Try.f7 false true false false W args v W':=by
 have hW':=hW;have hlt:=fun x hx=>hW.lt x hx
 obtain⟨p,q,hA0,hV,rfl,hfz,hnd⟩:=hW;have hA:DataW.TrodAll enc Try.prog W 0 (fun _=>true) true Try.f7.params.toList args.toList ds p:=hA0;rw [Try.params7] at hA hval;obtain⟨v0,vs0,d0,ds0,p0,q0,hargs,rfl,rfl,h0,r0⟩:=trodAll_cons hA;obtain⟨rfl,rfl,rfl⟩:=trodAll_nil r0;obtain rfl:args=#[v0]:=by cases args;simp_all
 obtain⟨rfl,rfl⟩:=trodVars_none hV;have hd:Rows.uptoBulk d0<=1048576:=by have h:=of_decide_eq_true hk;simp only [List.append_nil,Rows.uptoBulkAll] at h;omega
 obtain⟨n0,t0,a0,y0,c0,e0,b0⟩:=V.Qu good (by decide) (by kernel_rfl) (hval 0 26 v0 rfl rfl) h0;clear hA0;simp only [List.append_nil] at hW' hlt;have w:=MP Za (V.Su (law y0 (by omega)) (V.Eb c0 V.Dq)) (RV e0);refine w.mono fun e W' ⟨he,hg⟩=>?_
 subst he;exact⟨_,rfl,post_of_same (pa:=p0) (pv:=[]) hW' (fun _ _ _=>(trodAll_cons_mk (shut_bool Try.underlying4 _) trodAll_mk0))
  (fun sp hs=>by have k0:=V.carry (sp:=sp) laid (by kernel_rfl) (of_decide_eq_true (by kernel_rfl)) h0 hg (fun x hx=>hlt x (by simp [hx])) (fun x hx=>hs x (by simp [hx]));have:=trodAll_cons_mk k0 trodAll_mk0;simp only [List.append_nil] at this;exact this)
  (fun _ _=>rfl) (by simp)
  (hg.frame _) hg.2.1 (ok_one (by kernel_rfl) rfl (okWide_bool_mk Try.underlying4 _))⟩
set_option maxRecDepth 100000 in
theorem lifted (os:Os) (started:os.Started) (H:Type) (enc:TypeId×Value->H) (F:Stop.Interp) :
  ReturnsInHanded {} Try.checked os 7 .any ((Rows.OpenSpec.upto Rows.confStartsSpec).pre6 enc Try.prog Try.f7 Rows.confStartsUptoRow.domain false) (((Rows.OpenSpec.upto Rows.confStartsSpec).at F).post enc Try.prog Try.f7 false true false false):=by
 refine returnsInHanded_of_cond (C:=Try.checked) (s:=Rows.OpenSpec.upto Rows.confStartsSpec) (k:=Rows.uptoSmall) rfl own started (by kernel_rfl) Try.func7
  (OpenSpec.witness (enc:=enc) (C:=Try.checked) (s:=Rows.OpenSpec.upto Rows.confStartsSpec) (k:=Rows.uptoSmall) rfl false ⟨#[],#[.agg #[.slice none 0 0,.slice none 0 0,.slice none 0 0]],[]⟩ 8 (by kernel_rfl) (by kernel_rfl) (by kernel_rfl)
   (x:=([.agg [.nil,.nil,.nil]],[],[])) (by kernel_rfl) rfl (by kernel_rfl)) ?_
 intro W base args ds gs before hval hW _ hk _;exact contract H enc W base args ds gs before hval hk hW
theorem jl:Rows.confStartsUptoRow.holds Try.pinned (Rows.OpenSpec.upto Rows.confStartsSpec):=
 OpenClaim.holds_of_cond 7 Try.f7 rfl rfl rfl rfl rfl rfl rfl ⟨rfl,rfl,rfl,rfl,rfl⟩ rfl rfl rfl rfl rfl (by kernel_rfl) Try.func7 facts
  (of_decide_eq_true (by kernel_rfl)) (by unfold Func.isWrapper;first|(rw [if_pos (by decide +kernel)];kernel_rfl)|(rw [if_neg (by decide +kernel)];exact⟨rfl,rfl⟩))
  (fun os started H enc _ F=>lifted os started H enc F)
theorem proved:Rows.ConfStartsUptoSaid:=
 jl
end Go.Proofs.Ytamgnhdbeecapaa.confStarts
