/- Part 13 of the proof: LpSaid. -/
import Derived.Test.YtamgnhdbeecapaaCp1
import Derived.Test.YtamgnhdbeecapaaCp9
import Derived.Test.YtamgnhdbeecapaaCp11
import Derived.Test.YtamgnhdbeecapaaCp12
import Derived.Test.YtamgnhdbeecapaaRows
import Derived.WalkKit
import Derived.ProofKit
import Derived.OpenShut
import Derived.JoinedCond

namespace Go.Proofs.Ytamgnhdbeecapaa.flowPaths
open Go.ChangeShapes Go.WideShapes Go.ChangeAt Go.RowKit Go.Ax Go.Ax.eo
theorem own:ownKnob Try.prog.godebug=none:=by kernel_rfl
theorem laid:laidOutB Try.prog=true:=by kernel_rfl
theorem Ys:zk Try.prog (fe prog):=OX fnOk
def LL:List TypeId:=[26,22,23,24,179,187,184,9,3,174,185,190,182,225,220,218,222,223,231]
theorem good:∀t∈LL,V.JP Try.prog LL t=true:=by
 have h:LL.all (fun t=>V.JP Try.prog LL t)=true:=by kernel_rfl
 exact fun t ht=>List.all_eq_true.1 h t ht
theorem s46:V.VS prog 46 [] (fun r=>r=.b true):=V.M_ (k:=1000) (by kernel_rfl)
theorem law {n:Nat} {ts:List V.TV} (h:V.vh Try.prog n 26 ts) (hb:V.fm ts<=4194304):V.VS prog 14 [.a ts] (fun r=>r=.b true):=by
 obtain⟨s,e,hz⟩:=Ft.TK h hb
 rw [e]
 exact s14 s (s49 s hz) s46
set_option maxRecDepth 100000 in
theorem contract (H:Type) (enc:TypeId×Value->H) (W:World) (base:Nat) (args:Array Value) (ds gs:List (DataW H)) (before:List MemPlace)
  (hval:∀(j:Nat) t v,Try.f14.params[j]?=some t->args[j]?=some v->Value.okWide Try.prog W .any base t v)
  (hk:Rows.uptoSmall H (ds++gs)=true)
  (hW:DataW.Whole enc Try.prog Try.f14.params.toList Rows.flowPathsSpec.vars false W args.toList ds gs before) :
  Calls Try.prog 14 args W fun e W'=>∃v,e=.returned v/\Rows.flowPathsSpec.post enc Try.prog Try.f14 false true false false W args v W':=by
 have hW':=hW
 have hlt:=fun x hx=>hW.lt x hx
 obtain⟨p,q,hA0,hV,rfl,hfz,hnd⟩:=hW
 have hA:DataW.TrodAll enc Try.prog W 0 (fun _=>true) true Try.f14.params.toList args.toList ds p:=hA0
 rw [Try.params14] at hA hval
 obtain⟨v0,vs0,d0,ds0,p0,q0,hargs,rfl,rfl,h0,r0⟩:=trodAll_cons hA
 obtain⟨rfl,rfl,rfl⟩:=trodAll_nil r0
 obtain rfl:args=#[v0]:=by cases args;simp_all
 obtain⟨rfl,rfl⟩:=trodVars_none hV
 have hd:Rows.uptoBulk d0<=1048576:=by
  have h:=of_decide_eq_true hk
  simp only [List.append_nil,Rows.uptoBulkAll] at h
  omega
 obtain⟨n0,t0,a0,y0,c0,e0,b0⟩:=V.Pu good (by decide) (by kernel_rfl) (hval 0 26 v0 rfl rfl) h0
 clear hA0
 simp only [List.append_nil] at hW' hlt
 have w:=LV Ys (V.RC (law y0 (by omega)) (V.Dz c0 V.CS)) (QL e0)
 refine w.mono fun e W' ⟨he,hg⟩=>?_
 subst he
 exact⟨_,rfl,post_of_same (pa:=p0) (pv:=[]) hW' (fun _ _ _=>(trodAll_cons_mk (shut_bool Try.underlying4 _) trodAll_mk0))
  (fun sp hs=>by
   have k0:=V.carry (sp:=sp) laid (by kernel_rfl) (of_decide_eq_true (by kernel_rfl)) h0 hg (fun x hx=>hlt x (by simp [hx])) (fun x hx=>hs x (by simp [hx]))
   have:=trodAll_cons_mk k0 trodAll_mk0
   simp only [List.append_nil] at this
   exact this)
  (fun _ _=>rfl) (by simp)
  (hg.frame _) hg.2.1 (ok_one (by kernel_rfl) rfl (okWide_bool_mk Try.underlying4 _))⟩
set_option maxRecDepth 100000 in
theorem lifted (os:Os) (started:os.Started) (H:Type) (enc:TypeId×Value->H) (F:Stop.Interp) :
  ReturnsInHanded {} Try.checked os 14 .any ((Rows.OpenSpec.upto Rows.flowPathsSpec).pre6 enc Try.prog Try.f14 Rows.flowPathsUptoRow.domain false) (((Rows.OpenSpec.upto Rows.flowPathsSpec).at F).post enc Try.prog Try.f14 false true false false):=by
 refine returnsInHanded_of_cond (C:=Try.checked) (s:=Rows.OpenSpec.upto Rows.flowPathsSpec) (k:=Rows.uptoSmall) rfl own started (by kernel_rfl) Try.func14
  (OpenSpec.witness (enc:=enc) (C:=Try.checked) (s:=Rows.OpenSpec.upto Rows.flowPathsSpec) (k:=Rows.uptoSmall) rfl false ⟨#[],#[.agg #[.slice none 0 0,.slice none 0 0,.slice none 0 0]],[]⟩ 8 (by kernel_rfl) (by kernel_rfl) (by kernel_rfl)
   (x:=([.agg [.nil,.nil,.nil]],[],[])) (by kernel_rfl) rfl (by kernel_rfl)) ?_
 intro W base args ds gs before hval hW _ hk _
 exact contract H enc W base args ds gs before hval hk hW
theorem jm:Rows.flowPathsUptoRow.holds Try.pinned (Rows.OpenSpec.upto Rows.flowPathsSpec):=
 OpenClaim.holds_of_cond 14 Try.f14 rfl rfl rfl rfl rfl rfl rfl ⟨rfl,rfl,rfl,rfl,rfl⟩ rfl rfl rfl rfl rfl (by kernel_rfl) Try.func14 facts
  (of_decide_eq_true (by kernel_rfl)) (by unfold Func.isWrapper;first|(rw [if_pos (by decide +kernel)];kernel_rfl)|(rw [if_neg (by decide +kernel)];exact⟨rfl,rfl⟩))
  (fun os started H enc _ F=>lifted os started H enc F)
theorem proved:Rows.FlowPathsUptoSaid:=
 jm
end Go.Proofs.Ytamgnhdbeecapaa.flowPaths
