/- Part 11 of the proof: LaSaid. -/
import Derived.Test.YtamgnhdbeecapaaCa8
import Derived.Test.YtamgnhdbeecapaaCa10
import Derived.Test.YtamgnhdbeecapaaRows
import Derived.WalkKit
import Derived.ProofKit
import Derived.OpenShut
import Derived.JoinedCond
set_option linter.unusedSimpArgs false
set_option linter.unusedVariables false
namespace Go.Proofs.Ytamgnhdbeecapaa.stepAlone
open Go.ChangeShapes Go.WideShapes Go.ChangeAt Go.RowKit Go.Ax Go.Ax.fE
theorem own:ownKnob Try.prog.godebug=none:=by kernel_rfl
theorem laid:laidOutB Try.prog=true:=by kernel_rfl
theorem IF:j8 Try.prog (aM prog):=Ci Mq
def LL:List TypeId:=[129,4,133,21]
theorem good:∀t∈LL,V.xD Try.prog LL t=true:=by
 have h:LL.all (fun t=>V.xD Try.prog LL t)=true:=by kernel_rfl
 exact fun t ht=>OU.1 h t ht
theorem La:V.rowOf Try.prog 129=some (.sl 4):=by kernel_rfl
theorem r4:V.rowOf Try.prog 4=some .bool:=by kernel_rfl
theorem BW {n:Nat} {x:V.TV} (h:V.qa Try.prog n 129 [x]):∃bs:List Bool,x=.l (bs.map V.TV.b):=by
 cases n with
 |zero=>cases h
 |succ n=>
  unfold V.qa at h;rw [La] at h;obtain⟨es,e,_,hu⟩:=h;have e:x=.l es:=by injection e
  subst e;have key:∀es:List V.TV,(∀(j:Nat) (x:V.TV),es[j]?=some x->∃us,x=V.Fi (V.j0 (V.rowOf Try.prog 4)) us/\V.qa Try.prog n 4 us)->∃bs:List Bool,es=bs.map V.TV.b:=by
   intro es
   induction es with
   |nil=>exact fun _=>⟨[],rfl⟩
   |cons y es ih=>
    intro hu;obtain⟨us,e1,h1⟩:=hu 0 y rfl;obtain⟨bs,e2⟩:=ih (fun j x hx=>hu (j+1) x hx);cases n with
    |zero=>cases h1
    |succ n=>unfold V.qa at h1;rw [r4] at h1;obtain⟨b,rfl⟩:=h1;rw [r4] at e1;exact⟨b::bs,by rw [e1,e2];rfl⟩
  obtain⟨bs,rfl⟩:=key es hu;exact⟨bs,rfl⟩
theorem K_:V.rowOf Try.prog 133=some (.sl 21):=by kernel_rfl
theorem MQ:V.rowOf Try.prog 21=some (.int .i32):=by kernel_rfl
theorem Eo {n:Nat} {x:V.TV} (h:V.qa Try.prog n 133 [x]):∃ms:List Int,x=.l (ms.map (V.TV.i .i32)):=by
 cases n with
 |zero=>cases h
 |succ n=>
  unfold V.qa at h;rw [K_] at h;obtain⟨es,e,_,hu⟩:=h;have e:x=.l es:=by injection e
  subst e;have key:∀es:List V.TV,(∀(j:Nat) (x:V.TV),es[j]?=some x->∃us,x=V.Fi (V.j0 (V.rowOf Try.prog 21)) us/\V.qa Try.prog n 21 us)->∃ms:List Int,es=ms.map (V.TV.i .i32):=by
   intro es
   induction es with
   |nil=>exact fun _=>⟨[],rfl⟩
   |cons y es ih=>
    intro hu;obtain⟨us,e1,h1⟩:=hu 0 y rfl;obtain⟨bs,e2⟩:=ih (fun j x hx=>hu (j+1) x hx);cases n with
    |zero=>cases h1
    |succ n=>unfold V.qa at h1;rw [MQ] at h1;obtain⟨b,rfl,_⟩:=h1;rw [MQ] at e1;exact⟨b::bs,by rw [e1,e2];rfl⟩
  obtain⟨ms,rfl⟩:=key es hu;exact⟨ms,rfl⟩
set_option maxRecDepth 100000 in
theorem contract (H:Type) (enc:TypeId×Value->H) (W:World) (base:Nat) (args:Array Value) (ds gs:List (DataW H)) (before:List MemPlace)
  (hval:∀(j:Nat) t v,Try.f17.params[j]?=some t->args[j]?=some v->Value.okWide Try.prog W .any base t v)
  (hW:DataW.Whole enc Try.prog Try.f17.params.toList Rows.stepAloneSpec.vars false W args.toList ds gs before) :
  Calls Try.prog 17 args W fun e W'=>∃v,e=.returned v/\Rows.stepAloneSpec.post enc Try.prog Try.f17 false true false false W args v W':=by
 have hW':=hW;have hlt:=fun x hx=>hW.lt x hx
 obtain⟨p,q,hA0,hV,rfl,hfz,hnd⟩:=hW;have hA:DataW.TrodAll enc Try.prog W 0 (fun _=>true) true Try.f17.params.toList args.toList ds p:=hA0;rw [Try.params17] at hA hval;obtain⟨v0,vs0,d0,ds0,p0,q0,hargs,rfl,rfl,h0,r0⟩:=trodAll_cons hA;obtain⟨v1,vs1,d1,ds1,p1,q1,qzM,rfl,rfl,h1,r1⟩:=trodAll_cons r0;subst qzM;obtain⟨rfl,rfl,rfl⟩:=trodAll_nil r1;obtain rfl:args=#[v0,v1]:=by cases args;simp_all
 obtain⟨rfl,rfl⟩:=trodVars_none hV;obtain⟨n0,x0,a0,y0,c0,e0,_⟩:=V.tO good (by decide) (by kernel_rfl) (by intro cs e;have h:=hval 0 133 v0 rfl rfl;subst e;unfold Value.okWide Cell.okWide Cell.ok at h;rw [Try.underlying133] at h;exact h) h0
 obtain⟨n1,x1,a1,y1,c1,e1,_⟩:=V.tO good (by decide) (by kernel_rfl) (by intro cs e;have h:=hval 1 129 v1 rfl rfl;subst e;unfold Value.okWide Cell.okWide Cell.ok at h;rw [Try.underlying129] at h;exact h) h1
 obtain⟨ms,rfl⟩:=Eo y0;obtain⟨bs,rfl⟩:=BW y1;clear hA0;simp only [List.append_nil] at hW' hlt;have w:=zD IF (law ms bs a0 a1 c0 c1) (V.DU e0 e1);refine w.mono fun e W' ⟨he,hg⟩=>?_
 subst he;exact⟨_,rfl,post_of_same (pa:=p0++p1) (pv:=[]) hW' (fun _ _ _=>(trodAll_cons_mk (shut_bool Try.underlying4 _) trodAll_mk0))
  (fun sp hs=>by have k0:=V.carry (sp:=sp) laid (by kernel_rfl) (of_decide_eq_true (by kernel_rfl)) h0 hg (fun x hx=>hlt x (by simp [hx])) (fun x hx=>hs x (by simp [hx]));have k1:=V.carry (sp:=sp) laid (by kernel_rfl) (of_decide_eq_true (by kernel_rfl)) h1 hg (fun x hx=>hlt x (by simp [hx])) (fun x hx=>hs x (by simp [hx]));have:=trodAll_cons_mk k0 (trodAll_cons_mk k1 trodAll_mk0);simp only [List.append_nil] at this;exact this)
  (fun _ _=>rfl) (by simp)
  (hg.frame _) hg.2.1 (ok_one (by kernel_rfl) rfl (okWide_bool_mk Try.underlying4 _))⟩
set_option maxRecDepth 100000 in
theorem lifted (os:Os) (started:os.Started) (H:Type) (enc:TypeId×Value->H) :
  ReturnsInHanded {} Try.checked os 17 .any (Rows.stepAloneSpec.pre6 enc Try.prog Try.f17 Rows.stepAloneRow.domain false) (Rows.stepAloneSpec.post enc Try.prog Try.f17 false true false false):=by
 refine returnsInHanded_of_change (C:=Try.checked) own started (by kernel_rfl) Try.func17
  (ChangeSpec.witness6 (enc:=enc) (C:=Try.checked) false ⟨#[],#[.slice none 0 0,.slice none 0 0],[]⟩ 8 (by kernel_rfl) (by kernel_rfl) (by kernel_rfl) (by kernel_rfl)) ?_
 intro W base args ds gs before hval hW _ _;exact contract H enc W base args ds gs before hval hW
theorem proved:Rows.StepAloneSaid:=
 OpenClaim.holds_of_wide 17 Try.f17 rfl rfl rfl rfl rfl rfl rfl ⟨rfl,rfl,rfl,rfl,rfl⟩ rfl rfl rfl rfl rfl (by kernel_rfl) Try.func17 (by kernel_rfl)
  (of_decide_eq_true (by kernel_rfl)) (by unfold Func.isWrapper;first|(rw [if_pos (by decide +kernel)];kernel_rfl)|(rw [if_neg (by decide +kernel)];exact⟨rfl,rfl⟩))
  (fun os started H enc _=>lifted os started H enc)
end Go.Proofs.Ytamgnhdbeecapaa.stepAlone
