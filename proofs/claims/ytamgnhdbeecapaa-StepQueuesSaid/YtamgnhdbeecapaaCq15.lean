/- Part 15 of the proof: LqSaid. -/
import Derived.Test.YtamgnhdbeecapaaCq8
import Derived.Test.YtamgnhdbeecapaaCq14
import Derived.Test.YtamgnhdbeecapaaRows
import Derived.WalkKit
import Derived.ProofKit
import Derived.OpenShut
import Derived.JoinedCond
set_option linter.unusedSimpArgs false
set_option linter.unusedVariables false
namespace Go.Proofs.Ytamgnhdbeecapaa.stepQueues
open Go.ChangeShapes Go.WideShapes Go.ChangeAt Go.RowKit Go.Ax Go.Ax.dR
theorem own:ownKnob Try.prog.godebug=none:=by kernel_rfl
theorem laid:laidOutB Try.prog=true:=by kernel_rfl
theorem Jh:j7 Try.prog (aN prog):=Cy Nf
def LL:List TypeId:=[129,4,133,21]
theorem good:∀t∈LL,V.xN Try.prog LL t=true:=by
 have h:LL.all (fun t=>V.xN Try.prog LL t)=true:=by kernel_rfl
 exact fun t ht=>Qj.1 h t ht
theorem LX:V.rowOf Try.prog 129=some (.sl 4):=by kernel_rfl
theorem r4:V.rowOf Try.prog 4=some .bool:=by kernel_rfl
theorem B7 {n:Nat} {x:V.TV} (h:V.qd Try.prog n 129 [x]):∃bs:List Bool,x=.l (bs.map V.TV.b):=by
 cases n with
 |zero=>cases h
 |succ n=>
  unfold V.qd at h;rw [LX] at h;obtain⟨es,e,_,hu⟩:=h;have e:x=.l es:=by injection e
  subst e;have key:∀es:List V.TV,(∀(j:Nat) (x:V.TV),es[j]?=some x->∃us,x=V.FV (V.jX (V.rowOf Try.prog 4)) us/\V.qd Try.prog n 4 us)->∃bs:List Bool,es=bs.map V.TV.b:=by
   intro es
   induction es with
   |nil=>exact fun _=>⟨[],rfl⟩
   |cons y es ih=>
    intro hu;obtain⟨us,e1,h1⟩:=hu 0 y rfl;obtain⟨bs,e2⟩:=ih (fun j x hx=>hu (j+1) x hx);cases n with
    |zero=>cases h1
    |succ n=>unfold V.qd at h1;rw [r4] at h1;obtain⟨b,rfl⟩:=h1;rw [r4] at e1;exact⟨b::bs,by rw [e1,e2];rfl⟩
  obtain⟨bs,rfl⟩:=key es hu;exact⟨bs,rfl⟩
theorem vi:V.rowOf Try.prog 133=some (.sl 21):=by kernel_rfl
theorem NN:V.rowOf Try.prog 21=some (.int .i32):=by kernel_rfl
theorem E7 {n:Nat} {x:V.TV} (h:V.qd Try.prog n 133 [x]):∃ms:List Int,x=.l (ms.map (V.TV.i .i32)):=by
 cases n with
 |zero=>cases h
 |succ n=>
  unfold V.qd at h;rw [vi] at h;obtain⟨es,e,_,hu⟩:=h;have e:x=.l es:=by injection e
  subst e;have key:∀es:List V.TV,(∀(j:Nat) (x:V.TV),es[j]?=some x->∃us,x=V.FV (V.jX (V.rowOf Try.prog 21)) us/\V.qd Try.prog n 21 us)->∃ms:List Int,es=ms.map (V.TV.i .i32):=by
   intro es
   induction es with
   |nil=>exact fun _=>⟨[],rfl⟩
   |cons y es ih=>
    intro hu;obtain⟨us,e1,h1⟩:=hu 0 y rfl;obtain⟨bs,e2⟩:=ih (fun j x hx=>hu (j+1) x hx);cases n with
    |zero=>cases h1
    |succ n=>unfold V.qd at h1;rw [NN] at h1;obtain⟨b,rfl,_⟩:=h1;rw [NN] at e1;exact⟨b::bs,by rw [e1,e2];rfl⟩
  obtain⟨ms,rfl⟩:=key es hu;exact⟨ms,rfl⟩
set_option maxRecDepth 100000 in
theorem contract (H:Type) (enc:TypeId×Value->H) (W:World) (base:Nat) (args:Array Value) (ds gs:List (DataW H)) (before:List MemPlace)
  (hval:∀(j:Nat) t v,Try.f16.params[j]?=some t->args[j]?=some v->Value.okWide Try.prog W .any base t v)
  (hW:DataW.Whole enc Try.prog Try.f16.params.toList Rows.stepQueuesSpec.vars false W args.toList ds gs before) :
  Calls Try.prog 16 args W fun e W'=>∃v,e=.returned v/\Rows.stepQueuesSpec.post enc Try.prog Try.f16 false true false false W args v W':=by
 have hW':=hW;have hlt:=fun x hx=>hW.lt x hx
 obtain⟨p,q,hA0,hV,rfl,hfz,hnd⟩:=hW;have hA:DataW.TrodAll enc Try.prog W 0 (fun _=>true) true Try.f16.params.toList args.toList ds p:=hA0;rw [Try.params16] at hA hval;obtain⟨v0,vs0,d0,ds0,p0,q0,hargs,rfl,rfl,h0,r0⟩:=trodAll_cons hA;obtain⟨v1,vs1,d1,ds1,p1,q1,qje,rfl,rfl,h1,r1⟩:=trodAll_cons r0;subst qje;obtain⟨v2,vs2,d2,ds2,p2,q2,qjd,rfl,rfl,h2,r2⟩:=trodAll_cons r1;subst qjd;obtain⟨rfl,rfl,rfl⟩:=trodAll_nil r2;obtain rfl:args=#[v0,v1,v2]:=by cases args;simp_all
 obtain⟨rfl,rfl⟩:=trodVars_none hV;obtain⟨a0,rfl,rfl,rfl,w0⟩:=open_int Try.underlying3 (hval 0 3 v0 rfl rfl) h0;obtain⟨n1,x1,a1,y1,c1,e1,_⟩:=V.tY good (by decide) (by kernel_rfl) (by intro cs e;have h:=hval 1 129 v1 rfl rfl;subst e;unfold Value.okWide Cell.okWide Cell.ok at h;rw [Try.underlying129] at h;exact h) h1
 obtain⟨n2,x2,a2,y2,c2,e2,_⟩:=V.tY good (by decide) (by kernel_rfl) (by intro cs e;have h:=hval 2 133 v2 rfl rfl;subst e;unfold Value.okWide Cell.okWide Cell.ok at h;rw [Try.underlying133] at h;exact h) h2
 obtain⟨bs,rfl⟩:=B7 y1;obtain⟨ms,rfl⟩:=E7 y2;clear hA0;simp only [List.append_nil] at hW' hlt;have w:=zS Jh (law a0 bs ms a1 a2 c1 c2) (V.zW (.pure (.int _ _)) e1 e2);refine w.mono fun e W' ⟨he,hg⟩=>?_
 subst he;exact⟨_,rfl,post_of_same (pa:=p1++p2) (pv:=[]) hW' (fun _ _ _=>(trodAll_cons_mk (shut_bool Try.underlying4 _) trodAll_mk0))
  (fun sp hs=>by have k2:=V.carry (sp:=sp) laid (by kernel_rfl) (of_decide_eq_true (by kernel_rfl)) h2 hg (fun x hx=>hlt x (by simp [hx])) (fun x hx=>hs x (by simp [hx]));have k1:=V.carry (sp:=sp) laid (by kernel_rfl) (of_decide_eq_true (by kernel_rfl)) h1 hg (fun x hx=>hlt x (by simp [hx])) (fun x hx=>hs x (by simp [hx]));have:=trodAll_cons_mk (shut_int Try.underlying3 w0) (trodAll_cons_mk k1 (trodAll_cons_mk k2 trodAll_mk0));simp only [List.append_nil,List.nil_append] at this;exact this)
  (fun _ _=>rfl) (by simp)
  (hg.frame _) hg.2.1 (ok_one (by kernel_rfl) rfl (okWide_bool_mk Try.underlying4 _))⟩
set_option maxRecDepth 100000 in
theorem lifted (os:Os) (started:os.Started) (H:Type) (enc:TypeId×Value->H) :
  ReturnsInHanded {} Try.checked os 16 .any (Rows.stepQueuesSpec.pre6 enc Try.prog Try.f16 Rows.stepQueuesRow.domain false) (Rows.stepQueuesSpec.post enc Try.prog Try.f16 false true false false):=by
 refine returnsInHanded_of_change (C:=Try.checked) own started (by kernel_rfl) Try.func16
  (ChangeSpec.witness6 (enc:=enc) (C:=Try.checked) false ⟨#[],#[.int .i64 0,.slice none 0 0,.slice none 0 0],[]⟩ 8 (by kernel_rfl) (by kernel_rfl) (by kernel_rfl) (by kernel_rfl)) ?_
 intro W base args ds gs before hval hW _ _;exact contract H enc W base args ds gs before hval hW
theorem proved:Rows.StepQueuesSaid:=
 OpenClaim.holds_of_wide 16 Try.f16 rfl rfl rfl rfl rfl rfl rfl ⟨rfl,rfl,rfl,rfl,rfl⟩ rfl rfl rfl rfl rfl (by kernel_rfl) Try.func16 (by kernel_rfl)
  (of_decide_eq_true (by kernel_rfl)) (by unfold Func.isWrapper;first|(rw [if_pos (by decide +kernel)];kernel_rfl)|(rw [if_neg (by decide +kernel)];exact⟨rfl,rfl⟩))
  (fun os started H enc _=>lifted os started H enc)
end Go.Proofs.Ytamgnhdbeecapaa.stepQueues
