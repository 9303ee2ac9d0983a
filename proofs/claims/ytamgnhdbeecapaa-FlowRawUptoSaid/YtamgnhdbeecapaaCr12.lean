/- Part 12 of the proof: LrSaid. -/
import Derived.Test.YtamgnhdbeecapaaCr1
import Derived.Test.YtamgnhdbeecapaaCr8
import Derived.Test.YtamgnhdbeecapaaCr10
import Derived.Test.YtamgnhdbeecapaaCr11
import Derived.Test.YtamgnhdbeecapaaRows
import Derived.WalkKit
import Derived.ProofKit
import Derived.OpenShut
import Derived.JoinedCond

namespace Go.Proofs.Ytamgnhdbeecapaa.flowRaw
open Go.ChangeShapes Go.WideShapes Go.ChangeAt Go.RowKit Go.Ax Go.Ax.TryLr
set_option linter.unusedVariables false
theorem own:ownKnob Try.prog.godebug=none:=by kernel_rfl
theorem laid:laidOutB Try.prog=true:=by kernel_rfl
theorem runOk:FnOk Try.prog (runFn prog):=runFn_ok fnOk
def LL:List TypeId:=[110,32,108,151,3,28,27,169,167,210,92,90,103,208,212]
theorem good:∀t∈LL,V.goodB Try.prog LL t=true:=by
 have h:LL.all (fun t=>V.goodB Try.prog LL t)=true:=by kernel_rfl
 exact fun t ht=>List.all_eq_true.1 h t ht
theorem s46:V.VS prog 46 [] (fun r=>r=.b true):=V.vs_closed (k:=1000) (by kernel_rfl)
theorem law {n:Nat} {ts:List V.TV} (h:V.TyT Try.prog n 110 ts) (hb:V.bulks ts≤4194304):V.VS prog 11 [.a ts] (fun r=>r=.b true):=by
 obtain ⟨p,e,hz⟩:=Ft.rd_prog h hb
 rw [e]
 exact s11 p hz s46
set_option maxRecDepth 100000 in
theorem contract (H:Type) (enc:TypeId×Value→H) (W:World) (base:Nat) (args:Array Value) (ds gs:List (DataW H)) (before:List MemPlace)
  (hval:∀(j:Nat) t v,Try.f11.params[j]?=some t→args[j]?=some v→Value.okWide Try.prog W .any base t v)
  (hk:Rows.uptoSmall H (ds++gs)=true)
  (hW:DataW.Whole enc Try.prog Try.f11.params.toList Rows.flowRawSpec.vars false W args.toList ds gs before) :
  Calls Try.prog 11 args W fun e W'=>∃v,e=.returned v∧Rows.flowRawSpec.post enc Try.prog Try.f11 false true false false W args v W':=by
 have hW':=hW
 have hlt:=fun x hx=>hW.lt x hx
 obtain ⟨p,q,hA0,hV,rfl,hfz,hnd⟩:=hW
 have hA:DataW.TrodAll enc Try.prog W 0 (fun _=>true) true Try.f11.params.toList args.toList ds p:=hA0
 rw [Try.params11] at hA hval
 obtain ⟨v0,vs0,d0,ds0,p0,q0,hargs,rfl,rfl,h0,r0⟩:=trodAll_cons hA
 obtain ⟨rfl,rfl,rfl⟩:=trodAll_nil r0
 obtain rfl:args=#[v0]:=by cases args;simp_all
 obtain ⟨rfl,rfl⟩:=trodVars_none hV
 have hd:Rows.uptoBulk d0≤1048576:=by
  have h:=of_decide_eq_true hk
  simp only [List.append_nil,Rows.uptoBulkAll] at h
  omega
 obtain ⟨n0,t0,a0,y0,c0,e0,b0⟩:=V.open_agg good (by decide) (by kernel_rfl) (hval 0 110 v0 rfl rfl) h0
 clear hA0
 simp only [List.append_nil] at hW' hlt
 have w:=calls_true runOk (V.vs_true (law y0 (by omega)) (V.canL_cons c0 V.canL_nil)) (args_one e0)
 refine w.mono fun e W' ⟨he,hg⟩=>?_
 subst he
 exact ⟨_,rfl,post_of_same (pa:=p0) (pv:=[]) hW' (fun _ _ _=>(trodAll_cons_mk (shut_bool Try.underlying4 _) trodAll_mk0))
  (fun sp hs=>by
   have k0:=V.carry (sp:=sp) laid (by kernel_rfl) (of_decide_eq_true (by kernel_rfl)) h0 hg (fun x hx=>hlt x (by simp [hx])) (fun x hx=>hs x (by simp [hx]))
   have:=trodAll_cons_mk k0 trodAll_mk0
   simp only [List.append_nil] at this
   exact this)
  (fun _ _=>rfl) (by simp)
  (hg.frame _) hg.2.1 (ok_one (by kernel_rfl) rfl (okWide_bool_mk Try.underlying4 _))⟩
set_option maxRecDepth 100000 in
theorem lifted (os:Os) (started:os.Started) (H:Type) (enc:TypeId×Value→H) (F:Stop.Interp) :
  ReturnsInHanded {} Try.checked os 11 .any ((Rows.OpenSpec.upto Rows.flowRawSpec).pre6 enc Try.prog Try.f11 Rows.flowRawUptoRow.domain false) (((Rows.OpenSpec.upto Rows.flowRawSpec).at F).post enc Try.prog Try.f11 false true false false):=by
 refine returnsInHanded_of_cond (C:=Try.checked) (s:=Rows.OpenSpec.upto Rows.flowRawSpec) (k:=Rows.uptoSmall) rfl own started (by kernel_rfl) Try.func11
  (OpenSpec.witness (enc:=enc) (C:=Try.checked) (s:=Rows.OpenSpec.upto Rows.flowRawSpec) (k:=Rows.uptoSmall) rfl false ⟨#[],#[.agg #[.slice none 0 0,.slice none 0 0]],[]⟩ 8 (by kernel_rfl) (by kernel_rfl) (by kernel_rfl)
   (x:=([.agg [.nil,.nil]],[],[])) (by kernel_rfl) rfl (by kernel_rfl)) ?_
 intro W base args ds gs before hval hW _ hk _
 exact contract H enc W base args ds gs before hval hk hW
theorem over:Rows.flowRawUptoRow.holds Try.pinned (Rows.OpenSpec.upto Rows.flowRawSpec):=
 OpenClaim.holds_of_cond 11 Try.f11 rfl rfl rfl rfl rfl rfl rfl ⟨rfl,rfl,rfl,rfl,rfl⟩ rfl rfl rfl rfl rfl (by kernel_rfl) Try.func11 facts
  (of_decide_eq_true (by kernel_rfl)) (by unfold Func.isWrapper;first | (rw [if_pos (by decide +kernel)];kernel_rfl) | (rw [if_neg (by decide +kernel)];exact ⟨rfl,rfl⟩))
  (fun os started H enc _ F=>lifted os started H enc F)
theorem proved:Rows.FlowRawUptoSaid:=
 over
end Go.Proofs.Ytamgnhdbeecapaa.flowRaw
