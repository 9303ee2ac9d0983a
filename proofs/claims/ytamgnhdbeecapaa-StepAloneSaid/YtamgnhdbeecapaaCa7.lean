/- Part 7 of the proof: LaW. -/
import Derived.Test.YtamgnhdbeecapaaCa4
import Derived.Test.YtamgnhdbeecapaaCa5
import Derived.Test.YtamgnhdbeecapaaCa6
import Derived.KernelRfl
set_option linter.unusedSimpArgs false
set_option linter.unusedVariables false
set_option maxRecDepth 100000
namespace Go.Ax.fE
open Go Go.Ax Go.Ax.V
def gd (a:TV) (x:Bool) (b:TV) (y:Bool):Prop:=(a,x)=((b,y):TV×Bool)
abbrev eS {α:Type} (x:Option α) (k:α->Prop):Prop:=∃v,x=some v/\k v
abbrev eX (x i:TV) (n:Nat) (k:TV->Prop):Prop:=∃v,(dH x i=some v/\dg n v)/\k v
abbrev gT (c:TV) (x:Option TV) (k:TV->Prop):Prop:=∃v,gV c true (fun r=>x=some r) v/\k v
abbrev gF (c:TV) (x:Option TV) (k:TV->Prop):Prop:=∃v,gV c false (fun r=>x=some r) v/\k v
abbrev dT (a:TV):Prop:=gd a true a true
abbrev dF (a:TV):Prop:=gd a false a false
abbrev eL (n:Nat) (k:Nat->Prop):Prop:=∃m,m < n/\k m
abbrev iI (n:Int):TV:=TV.i .i64 n
abbrev uC (x:TV) (i:Nat) (k:TV->Prop):Prop:=∃v,eP (cu x i)=some v/\k v
abbrev lC (x:TV) (i:Nat) (k:TV->Prop):Prop:=∃v,jF x i none=some v/\k v
abbrev bI (p:BinOp) (x y:TV) (k:TV->Prop):Prop:=∃v,cz p x y=some v/\k v
abbrev nL:TV:=TV.l []
abbrev rR (Q:TV->Prop) (x:TV):Prop:=True/\gH [x]/\Q x
abbrev rF (Q:TV->Prop):Prop:=True/\gH [TV.b false]/\Q (TV.b false)
abbrev rT (Q:TV->Prop):Prop:=True/\gH [TV.b true]/\Q (TV.b true)
abbrev rP (Q:TV->Prop) (l:List TV):Prop:=gH l/\Q (TV.tp l)
abbrev cL (f:Nat) (l:List TV) (k:TV->Prop):Prop:=VS prog f l fun r=>lT true r/\k r
abbrev gC (c:TV) (b:Bool) (f:Nat) (l:List TV) (k:TV->Prop):Prop:=∃v,gV c b (fun r=>VS prog f l fun r'=>r'=r/\lT true r) v/\k v
abbrev pN (x:TV) (i:Nat) (k:TV->Prop):Prop:=∃v,cN x i 1 (TV.l [])=some v/\k v
abbrev pF (x y:TV) (k:TV->Prop):Prop:=∃v,fe x y (TV.b false)=some v/\k v
abbrev pT (x y:TV) (k:TV->Prop):Prop:=∃v,fe x (TV.b true) y=some v/\k v
abbrev nb (a j s n:Nat):Prop:=(Nat.beq a (j*s)&&Nat.beq n s)=true
abbrev aI (x:TV) (n:Nat) (k:TV->Nat->Prop):Prop:=∃v,cz .add x (iI 1)=some v/\∃m,m < n/\k v m
abbrev lN (x:TV) (k:TV->Prop):Prop:=∃v,pZ x=some v/\k v
abbrev gTu (c x:TV) (i:Nat) (k:TV->Prop):Prop:=∃v,gV c true (fun r=>eP (cu x i)=some r) v/\k v
abbrev gFu (c x:TV) (i:Nat) (k:TV->Prop):Prop:=∃v,gV c false (fun r=>eP (cu x i)=some r) v/\k v
abbrev Ty0:=Nat->TV->TV->TV->TV->TV->Prop
abbrev Ty1:=Nat->TV->TV->TV->TV->TV->TV->TV->TV->Prop
abbrev Ty2:=Nat->TV->TV->TV->TV->Prop
def Kz:TV:=TV.a [(TV.l []),(TV.l []),(TV.l []),(TV.l [])]
def Ky:TV:=TV.a [(TV.b false),(TV.i .i64 0),(TV.i .i64 0),(TV.i .i64 0)]
def Ny:TV:=TV.a [(TV.i .i64 0),(TV.i .i64 0),(TV.i .i64 0),(TV.i .i64 0),(TV.i .i64 0),(TV.l [])]
def Nz:Map Nx:=.leaf
noncomputable def Il:Sh:=⟨fun f=>Nz.get f,Nw prog,fun _=>none,fun _=>[],fun _=>0,fun _=>[],fun f=>false⟩
theorem Mc:n5 prog Il:=⟨rfl,fun f T h=>by cases h⟩
noncomputable abbrev sh:Sh:=Il
theorem pS:n5 prog sh:=Mc
theorem vq {f:Nat} {ts:List TV} {Q:TV->Prop} {P:Prop} {sh:Sh} (af:aq) (vc:b_) (hsh:n5 prog sh) (h:P) (a:(prog.get f,vc.ok,ts.length)=(some af,true,af.params)) (c:vc.code=af.body) (e:P=Jq sh prog af vc ts Q):VS prog f ts Q:=HQ (congrArg (·.1) a) c (congrArg (·.2.1) a) (congrArg (·.2.2) a) hsh (e▸h)
def Nt (a0 a1 a2:TV) (Q:TV->Prop):Prop:=
 TV.iy a0=false/\TV.iy a1=false/\TV.iy a2=false/\eS (cG a0 0 3) fun aA=>eS (cG a1 0 4) fun bA=>cL 22 [aA,bA] fun cA=>eS (zN .not cA) fun dA=>ck dA (eS (cN Kz 0 4 Kz) fun eA=>eS (cN Ky 0 4 Ky) fun fA=>True/\eS (cG eA 0 4) fun hA=>pN hA 3 fun iA=>pN iA 2 fun jA=>pN jA 1 fun kA=>pN kA 0 fun mA=>eS (cG fA 0 4) fun nA=>rP Q [mA,nA,(iI 1)]) (eS (cG a0 0 3) fun pA=>eS (cG a1 0 4) fun qA=>eS (cG a2 0 3) fun rA=>cL 73 [pA,qA,rA] fun sA=>eS (dX 0 sA) fun tA=>eS (dX 1 sA) fun uA=>eS (cN Kz 0 4 tA) fun vA=>eS (cN Ky 0 4 uA) fun wA=>eS (cG vA 0 4) fun xA=>eS (cG wA 0 4) fun yA=>eS (cN Kz 0 4 xA) fun zA=>eS (cN Ky 0 4 yA) fun aB=>True/\eS (cG zA 0 4) fun bB=>eS (cG aB 0 4) fun cB=>rP Q [bB,cB,(iI 0)])
theorem KT (a0 a1 a2:TV) (Q:TV->Prop) (h:Nt a0 a1 a2 Q):VS prog 52 [a0,a1,a2] Q:=vq (sh:=sh) MI H8 pS h (by kernel_rfl) rfl (by kernel_rfl)
def Nv (a0 a1:TV) (Q:TV->Prop):Prop:=
 TV.iy a0=false/\TV.iy a1=false/\eS (cG a0 0 3) fun aA=>cL 53 [aA] fun bA=>gT bA (cG a0 0 3) fun cA=>gT bA (cG a1 0 4) fun dA=>gC bA true 54 [cA,dA] fun eA=>pF bA eA fun fA=>rR Q fA
theorem KV (a0 a1:TV) (Q:TV->Prop) (h:Nv a0 a1 Q):VS prog 22 [a0,a1] Q:=vq (sh:=sh) MK H_ pS h (by kernel_rfl) rfl (by kernel_rfl)
def Ns (a0 a1:TV) (Q:TV->Prop):Prop:=
 TV.iy a0=false/\TV.iy a1=false/\eS (cG a0 0 3) fun aA=>eS (cG a1 0 4) fun bA=>cL 76 [aA,bA] fun cA=>eS (zN .not cA) fun dA=>ck dA (rF Q) (uC a0 1 fun eA=>lN eA fun fA=>∃hA:Ty0,(∃iA,hA iA a0 a1 eA fA (iI 0))/\∀iA jA kA mA nA pA,hA iA jA kA mA nA pA->bI .lss pA nA fun qA=>ck qA (eX mA pA 3 fun rA=>eS (jF rA 0 (some 3)) fun sA=>eS (cN (TV.a [(iI 0),nL,nL]) 0 3 sA) fun tA=>uC kA 0 fun uA=>eX uA pA 1 fun vA=>lC vA 0 fun wA=>uC tA 0 fun xA=>cL 77 [wA,xA] fun yA=>eS (zN .not yA) fun zA=>dF zA/\gFu zA kA 1 fun aB=>gF zA (some pA) fun bB=>∃cB,gV zA false (fun r=>(dH aB bB=some r/\dg 1 r)) cB/\dF zA/\gF zA (jF cB 0 none) fun dB=>gF zA (pZ dB) fun eB=>dF zA/\gFu zA jA 2 fun fB=>gF zA (some pA) fun hB=>∃iB,gV zA false (fun r=>(dH fB hB=some r/\dg 1 r)) iB/\dF zA/\gF zA (jF iB 0 none) fun jB=>gF zA (cz .neq eB jB) fun kB=>pT zA kB fun mB=>ck mB (rF Q) (uC kA 1 fun nB=>eX nB pA 1 fun pB=>lC pB 0 fun qB=>lN qB fun rB=>∃sB:Ty1,(∃tB,sB tB jA kA mA nA pA qB rB (iI 0))/\∀tB uB vB wB xB yB zB aC bC,sB tB uB vB wB xB yB zB aC bC->bI .lss bC aC fun cC=>ck cC (eX zB bC 1 fun dC=>lC dC 0 fun fC=>cL 78 [fC] fun hC=>eS (zN .not hC) fun iC=>ck iC (rF Q) (aI bC tB fun jC kC=>sB kC uB vB wB xB yB zB aC jC)) (aI yB iA fun mC nC=>hA nC uB vB wB xB mC))) (uC jA 0 fun pC=>lN pC fun qC=>∃rC:Ty2,(∃sC,rC sC kA pC qC (iI 0))/\∀sC tC vC wC xC,rC sC tC vC wC xC->bI .lss xC wC fun yC=>ck yC (eX vC xC 6 fun zC=>eS (jF zC 0 (some 6)) fun aD=>eS (cN Ny 0 6 aD) fun bD=>eS (cG bD 0 6) fun cD=>uC tC 2 fun dD=>eX dD xC 1 fun eD=>lC eD 0 fun fD=>cL 79 [cD,fD] fun hD=>eS (zN .not hD) fun iD=>dF iD/\gFu iD tC 3 fun jD=>gF iD (some xC) fun kD=>∃mD,gV iD false (fun r=>(dH jD kD=some r/\dg 1 r)) mD/\dF iD/\gF iD (jF mD 0 none) fun nD=>dF iD/\gFu iD bD 5 fun pD=>gF iD (pZ pD) fun qD=>gF iD (C4 true [qD,(iI 1)]) fun rD=>gC iD false 77 [nD,rD] fun sD=>gF iD (zN .not sD) fun tD=>pT iD tD fun uD=>ck uD (rF Q) (aI xC sC fun vD wD=>rC wD tC vC wC vD)) (rT Q)))
theorem KS (a0 a1:TV) (Q:TV->Prop) (h:Ns a0 a1 Q):VS prog 54 [a0,a1] Q:=vq (sh:=sh) MH H7 pS h (by kernel_rfl) rfl (by kernel_rfl)
def Nr (a0 a1:TV) (Q:TV->Prop):Prop:=
 TV.iy a0=false/\TV.iy a1=false/\uC a0 1 fun aA=>lN aA fun bA=>uC a0 0 fun cA=>lN cA fun dA=>uC a1 0 fun eA=>lN eA fun fA=>bI .eql fA bA fun hA=>dT hA/\gTu hA a1 1 fun iA=>gT hA (pZ iA) fun jA=>gT hA (some bA) fun kA=>gT hA (cz .eql jA kA) fun mA=>pF hA mA fun nA=>dT nA/\gTu nA a1 2 fun pA=>gT nA (pZ pA) fun qA=>gT nA (some dA) fun rA=>gT nA (cz .eql qA rA) fun sA=>pF nA sA fun tA=>dT tA/\gTu tA a1 3 fun uA=>gT tA (pZ uA) fun vA=>gT tA (some dA) fun wA=>gT tA (cz .eql vA wA) fun xA=>pF tA xA fun yA=>rR Q yA
theorem KR (a0 a1:TV) (Q:TV->Prop) (h:Nr a0 a1 Q):VS prog 76 [a0,a1] Q:=vq (sh:=sh) MF H6 pS h (by kernel_rfl) rfl (by kernel_rfl)
def Nq (a0 a1:TV) (Q:TV->Prop):Prop:=
 bI .geq a0 (iI 0) fun aA=>gT aA (some a0) fun bA=>gT aA (some a1) fun cA=>gT aA (cz .lss bA cA) fun dA=>pF aA dA fun eA=>rR Q eA
theorem KQ (a0 a1:TV) (Q:TV->Prop) (h:Nq a0 a1 Q):VS prog 77 [a0,a1] Q:=vq (sh:=sh) ME HZ pS h (by kernel_rfl) rfl (by kernel_rfl)
def Np (a0:TV) (Q:TV->Prop):Prop:=
 eS (cz .geq a0 (TV.i .i64 (-2147483648))) fun aA=>gT aA (some a0) fun bA=>gT aA (cz .leq bA (iI 2147483647)) fun cA=>pF aA cA fun dA=>rR Q dA
theorem KP (a0:TV) (Q:TV->Prop) (h:Np a0 Q):VS prog 78 [a0] Q:=vq (sh:=sh) MD HY pS h (by kernel_rfl) rfl (by kernel_rfl)
def No (a0 a1:TV) (Q:TV->Prop):Prop:=
 TV.iy a0=false/\lN a1 fun aA=>∃bA:Ty0,(∃cA,bA cA a0 a1 a1 aA (iI 0))/\∀cA dA eA fA hA iA,bA cA dA eA fA hA iA->bI .lss iA hA fun jA=>ck jA (eX fA iA 2 fun kA=>eS (jF kA 0 (some 2)) fun mA=>eS (cN (TV.a [(iI 0),(iI 0)]) 0 2 mA) fun nA=>uC nA 0 fun pA=>uC dA 4 fun qA=>cL 77 [pA,qA] fun rA=>eS (zN .not rA) fun sA=>dF sA/\gFu sA nA 1 fun tA=>gC sA false 78 [tA] fun uA=>gF sA (zN .not uA) fun vA=>pT sA vA fun wA=>ck wA (rF Q) (aI iA cA fun xA yA=>bA yA dA eA fA hA xA)) (lN eA fun zA=>uC dA 1 fun aB=>bI .leq zA aB fun bB=>rR Q bB)
theorem KO (a0 a1:TV) (Q:TV->Prop) (h:No a0 a1 Q):VS prog 79 [a0,a1] Q:=vq (sh:=sh) MC HW pS h (by kernel_rfl) rfl (by kernel_rfl)
def Nu (a0 a1:TV) (Q:TV->Prop):Prop:=
 TV.iy a0=false/\eS (cG a0 0 4) fun aA=>cL 58 [aA,a1] fun bA=>eS (dX 0 bA) fun cA=>eS (dX 1 bA) fun dA=>bI .neq dA (iI 0) fun eA=>ck eA (True/\rP Q [(iI 0),dA]) (eS (cz .lss cA (TV.i .i64 (-2147483648))) fun fA=>gF fA (some cA) fun hA=>gF fA (cz .gtr hA (iI 2147483647)) fun iA=>pT fA iA fun jA=>ck jA (True/\rP Q [(iI 0),(iI 2)]) (True/\rP Q [cA,(iI 0)]))
theorem KU (a0 a1:TV) (Q:TV->Prop) (h:Nu a0 a1 Q):VS prog 35 [a0,a1] Q:=vq (sh:=sh) MJ H9 pS h (by kernel_rfl) rfl (by kernel_rfl)
def KH (a0 a1:TV) (Q:TV->Prop):Prop:=
 TV.iy a0=false/\uC a0 0 fun aA=>bI .eql aA (iI 1) fun bA=>ck bA (uC a0 1 fun cA=>True/\rP Q [cA,(iI 0)]) (uC a0 0 fun dA=>bI .eql dA (iI 2) fun eA=>dT eA/\gTu eA a0 2 fun fA=>gT eA (cz .geq fA (iI 0)) fun hA=>pF eA hA fun iA=>dT iA/\gTu iA a0 2 fun jA=>gT iA (some a1) fun kA=>gT iA (pZ kA) fun mA=>gT iA (cz .lss jA mA) fun nA=>pF iA nA fun pA=>ck pA (uC a0 2 fun qA=>eX a1 qA 1 fun rA=>lC rA 0 fun sA=>True/\rP Q [sA,(iI 0)]) (uC a0 0 fun tA=>bI .eql tA (iI 3) fun uA=>dT uA/\gTu uA a0 3 fun vA=>gT uA (pZ vA) fun wA=>gT uA (cz .eql wA (iI 1)) fun xA=>pF uA xA fun yA=>ck yA (uC a0 3 fun zA=>∃aB,(dH zA (iI 0)=some aB/\dg 4 aB)/\eS (jF aB 0 (some 4)) fun bB=>cL 35 [bB,a1] fun cB=>eS (dX 0 cB) fun dB=>eS (dX 1 cB) fun eB=>eS (zN .neg dB) fun fB=>True/\rP Q [fB,eB]) (uC a0 0 fun hB=>bI .geq hB (iI 4) fun iB=>dT iB/\gTu iB a0 0 fun jB=>gT iB (cz .leq jB (iI 8)) fun kB=>pF iB kB fun mB=>dT mB/\gTu mB a0 3 fun nB=>gT mB (pZ nB) fun pB=>gT mB (cz .eql pB (iI 2)) fun qB=>pF mB qB fun rB=>ck rB (eS (cG a0 0 4) fun sB=>cL 80 [sB,a1] fun tB=>eS (dX 0 tB) fun uB=>eS (dX 1 tB) fun vB=>True/\rP Q [uB,vB]) (True/\rP Q [(iI 0),(iI 0)]))))
theorem F6 (a0 a1:TV) (Q:TV->Prop) (h:KH a0 a1 Q):VS prog 58 [a0,a1] Q:=vq (sh:=sh) MG n8 pS h (by kernel_rfl) rfl (by kernel_rfl)
def Nn (a0 a1:TV) (Q:TV->Prop):Prop:=
 TV.iy a0=false/\uC a0 3 fun aA=>∃bA,(dH aA (iI 0)=some bA/\dg 4 bA)/\eS (jF bA 0 (some 4)) fun cA=>cL 35 [cA,a1] fun dA=>eS (dX 0 dA) fun eA=>eS (dX 1 dA) fun fA=>bI .neq fA (iI 0) fun hA=>ck hA (True/\rP Q [(iI 0),fA]) (uC a0 3 fun iA=>∃jA,(dH iA (iI 1)=some jA/\dg 4 jA)/\eS (jF jA 0 (some 4)) fun kA=>cL 35 [kA,a1] fun mA=>eS (dX 0 mA) fun nA=>eS (dX 1 mA) fun pA=>bI .neq pA (iI 0) fun qA=>ck qA (True/\rP Q [(iI 0),pA]) (uC a0 0 fun rA=>cL 103 [rA,eA,nA] fun sA=>eS (dX 0 sA) fun tA=>eS (dX 1 sA) fun uA=>True/\rP Q [tA,uA]))
theorem KN (a0 a1:TV) (Q:TV->Prop) (h:Nn a0 a1 Q):VS prog 80 [a0,a1] Q:=vq (sh:=sh) MB HV pS h (by kernel_rfl) rfl (by kernel_rfl)
def Ks (a0 a1 a2:TV) (Q:TV->Prop):Prop:=
 bI .eql a0 (iI 4) fun aA=>ck aA (bI .add a1 a2 fun bA=>True/\rP Q [bA,(iI 0)]) (bI .eql a0 (iI 5) fun cA=>ck cA (bI .sub a1 a2 fun dA=>True/\rP Q [dA,(iI 0)]) (bI .eql a0 (iI 6) fun eA=>ck eA (bI .mul a1 a2 fun fA=>True/\rP Q [fA,(iI 0)]) (bI .eql a2 (iI 0) fun hA=>ck hA (True/\rP Q [(iI 0),(iI 3)]) (bI .eql a0 (iI 7) fun iA=>ck iA (bI .quo a1 a2 fun jA=>True/\rP Q [jA,(iI 0)]) (bI .rem a1 a2 fun kA=>True/\rP Q [kA,(iI 0)])))))
theorem HR (a0 a1 a2:TV) (Q:TV->Prop) (h:Ks a0 a1 a2 Q):VS prog 103 [a0,a1,a2] Q:=vq (sh:=sh) Hx BU pS h (by kernel_rfl) rfl (by kernel_rfl)
def Em:b_:=.seq (.seq (.aa FG) (.block 0 (.loop [.ob 7 [],.ob 9 [],.ob 11 [],.tr 0,.tr 1,.pt 7 7 0,.pt 9 9 0,.pt 11 11 0,.tr 12,.tr 13] (.seq (.seq (.aa CH) (.cond (.t 62) .skip (.exit 0))) (.seq (.block 1 (.seq (.aa CF) (.seq (.seq (.aa CE) (.cond (.t 68) (.aa CD) .skip)) (.seq (.seq (.aa CC) (.cond (.t 77) (.seq (.aa CB) (.exit 1)) .skip)) (.seq (.aa CA) (.seq (.aa Cz) (.seq (.aa Cy) (.seq (.aT Cx DS []) (.cond (.t 149) (.seq (.aa Cw) .ret) .skip))))))))) (.aa CG)))))) (.seq (.aa Cv) .ret)
def Fy (a7 a9 a11 a0 a1 a12:TV) (Q:TV->Prop):Prop:=
 ∃I1:Nat->TV->TV->TV->TV->TV->TV->TV->Prop,(∃n2,I1 n2 a7 a9 a11 a0 a1 a12 (TV.i .i64 0))/\∀n2:Nat,
 ∀o4:TV,∀o5:TV,∀o6:TV,∀x7:TV,∀x8:TV,∀x9:TV,∀x10:TV,I1 n2 o4 o5 o6 x7 x8 x9 x10->
 ∃v11,pZ x8=some v11/\
 ∃v12,cz .lss x10 v11=some v12/\
 ∃v13,gV v12 true (fun r=>some x10=some r) v13/\
 ∃v14,gV v12 true (fun r=>cz .lss v13 (TV.i .i64 40)=some r) v14/\
 ∃v15,fe v12 v14 (TV.b false)=some v15/\
 ck v15
 (∃v16,pZ x7=some v16/\
 ∃v17,cz .lss x9 v16=some v17/\
 ck v17
 (∃v18,(dH x7 x9=some v18/\dg 1 v18)/\
 ∃v19,jF v18 0 none=some v19/\
 ∃v20,AB .i64 v19=some v20/\
 ∃v21,(dH x8 x10=some v21/\dg 1 v21)/\
 ∃H_,jF v21 0 none=some H_/\
 ck H_
 (∃v23,cG o4 0 3=some v23/\
 ∃v24,cG o5 0 4=some v24/\
 ∃v25,cN (TV.a [(TV.i .i64 0),(TV.b false),(TV.i .i64 0)]) 0 1 (TV.i .i64 1)=some v25/\
 ∃v26,cN v25 2 1 x10=some v26/\
 VS prog 52 [v23,v24,v26] fun r27=>lT true r27/\
 ∃v28,dX 0 r27=some v28/\
 ∃v29,dX 1 r27=some v29/\
 ∃v30,dX 2 r27=some v30/\
 ∃v31,cN o5 0 4 v28=some v31/\
 ∃v32,cz .add x10 (TV.i .i64 1)=some v32/\
 ∃m3,m3 < n2/\I1 m3 o4 v31 o6 x7 x8 x9 v32)
 (∃v33,cz .add x9 (TV.i .i64 1)=some v33/\
 ∃v34,cG o4 0 3=some v34/\
 ∃H9,cG o5 0 4=some H9/\
 ∃v36,cN (TV.a [(TV.i .i64 0),(TV.b false),(TV.i .i64 0)]) 2 1 v20=some v36/\
 VS prog 52 [v34,H9,v36] fun r37=>lT true r37/\
 ∃v38,dX 0 r37=some v38/\
 ∃v39,dX 1 r37=some v39/\
 ∃v40,dX 2 r37=some v40/\
 ∃v41,cN o5 0 4 v38=some v41/\
 ∃v42,cG o4 0 3=some v42/\
 ∃v43,cG o6 0 4=some v43/\
 ∃v44,cN (TV.a [(TV.i .i64 0),(TV.b false),(TV.i .i64 0)]) 2 1 v20=some v44/\
 VS prog 52 [v42,v43,v44] fun r45=>lT true r45/\
 ∃v46,dX 0 r45=some v46/\
 ∃v47,dX 1 r45=some v47/\
 ∃v48,dX 2 r45=some v48/\
 ∃v49,cN o6 0 4 v46=some v49/\
 ∃v50,cz .neq v40 (TV.i .i64 0)=some v50/\
 gd v50 false v50 false/\∃v51,gV v50 false (fun r=>eP (cu v41 0)=some r) v51/\
 ∃H8,gV v50 false (fun r=>(dH v51 (TV.i .i64 0)=some r/\dg 1 r)) H8/\
 gd v50 false v50 false/\∃v53,gV v50 false (fun r=>jF H8 0 none=some r) v53/\
 gd v50 false v50 false/\∃H7,gV v50 false (fun r=>eP (cu v49 0)=some r) H7/\
 ∃v55,gV v50 false (fun r=>(dH H7 (TV.i .i64 0)=some r/\dg 1 r)) v55/\
 gd v50 false v50 false/\∃v56,gV v50 false (fun r=>jF v55 0 none=some r) v56/\
 ∃v57,gV v50 false (fun r=>cz .neq v53 v56=some r) v57/\
 ∃n8,fe v50 (TV.b true) v57=some n8/\
 gd n8 false n8 false/\∃v59,gV n8 false (fun r=>eP (cu v41 1)=some r) v59/\
 ∃v60,gV n8 false (fun r=>(dH v59 (TV.i .i64 0)=some r/\dg 1 r)) v60/\
 gd n8 false n8 false/\∃v61,gV n8 false (fun r=>jF v60 0 none=some r) v61/\
 ∃v62,gV n8 false (fun r=>(dH v61 (TV.i .i64 0)=some r/\dg 1 r)) v62/\
 gd n8 false n8 false/\∃v63,gV n8 false (fun r=>jF v62 0 none=some r) v63/\
 gd n8 false n8 false/\∃v64,gV n8 false (fun r=>eP (cu v49 1)=some r) v64/\
 ∃v65,gV n8 false (fun r=>(dH v64 (TV.i .i64 0)=some r/\dg 1 r)) v65/\
 gd n8 false n8 false/\∃v66,gV n8 false (fun r=>jF v65 0 none=some r) v66/\
 ∃v67,gV n8 false (fun r=>(dH v66 (TV.i .i64 0)=some r/\dg 1 r)) v67/\
 gd n8 false n8 false/\∃v68,gV n8 false (fun r=>jF v67 0 none=some r) v68/\
 ∃v69,gV n8 false (fun r=>cz .neq v63 v68=some r) v69/\
 ∃v70,fe n8 (TV.b true) v69=some v70/\
 gd v70 false v70 false/\∃v71,gV v70 false (fun r=>eP (cu v41 1)=some r) v71/\
 ∃v72,gV v70 false (fun r=>(dH v71 (TV.i .i64 0)=some r/\dg 1 r)) v72/\
 gd v70 false v70 false/\∃v73,gV v70 false (fun r=>jF v72 0 none=some r) v73/\
 ∃v74,gV v70 false (fun r=>(dH v73 (TV.i .i64 1)=some r/\dg 1 r)) v74/\
 gd v70 false v70 false/\∃v75,gV v70 false (fun r=>jF v74 0 none=some r) v75/\
 gd v70 false v70 false/\∃H6,gV v70 false (fun r=>eP (cu v49 1)=some r) H6/\
 ∃HZ,gV v70 false (fun r=>(dH H6 (TV.i .i64 0)=some r/\dg 1 r)) HZ/\
 gd v70 false v70 false/\∃HY,gV v70 false (fun r=>jF HZ 0 none=some r) HY/\
 ∃HW,gV v70 false (fun r=>(dH HY (TV.i .i64 1)=some r/\dg 1 r)) HW/\
 gd v70 false v70 false/\∃HV,gV v70 false (fun r=>jF HW 0 none=some r) HV/\
 ∃v81,gV v70 false (fun r=>cz .neq v75 HV=some r) v81/\
 ∃v82,fe v70 (TV.b true) v81=some v82/\
 ck v82
 (True/\gH [(TV.b false)]/\Q (TV.b false))
 (∃v83,cz .add x10 (TV.i .i64 1)=some v83/\
 ∃m3,m3 < n2/\I1 m3 o4 v41 v49 x7 x8 v33 v83)))
 (∃v84,(dH x8 x10=some v84/\dg 1 v84)/\
 ∃v85,jF v84 0 none=some v85/\
 ck v85
 (∃v86,cG o4 0 3=some v86/\
 ∃v87,cG o5 0 4=some v87/\
 ∃v88,cN (TV.a [(TV.i .i64 0),(TV.b false),(TV.i .i64 0)]) 0 1 (TV.i .i64 1)=some v88/\
 ∃v89,cN v88 2 1 x10=some v89/\
 VS prog 52 [v86,v87,v89] fun r90=>lT true r90/\
 ∃v91,dX 0 r90=some v91/\
 ∃v92,dX 1 r90=some v92/\
 ∃v93,dX 2 r90=some v93/\
 ∃v94,cN o5 0 4 v91=some v94/\
 ∃v95,cz .add x10 (TV.i .i64 1)=some v95/\
 ∃m3,m3 < n2/\I1 m3 o4 v94 o6 x7 x8 x9 v95)
 (∃v96,cz .add x9 (TV.i .i64 1)=some v96/\
 ∃v97,cG o4 0 3=some v97/\
 ∃v98,cG o5 0 4=some v98/\
 ∃v99,cN (TV.a [(TV.i .i64 0),(TV.b false),(TV.i .i64 0)]) 2 1 (TV.i .i64 0)=some v99/\
 VS prog 52 [v97,v98,v99] fun qzT=>lT true qzT/\
 ∃qjX,dX 0 qzT=some qjX/\
 ∃qj9,dX 1 qzT=some qj9/\
 ∃BU,dX 2 qzT=some BU/\
 ∃qzk,cN o5 0 4 qjX=some qzk/\
 ∃qjW,cG o4 0 3=some qjW/\
 ∃qjV,cG o6 0 4=some qjV/\
 ∃qjU,cN (TV.a [(TV.i .i64 0),(TV.b false),(TV.i .i64 0)]) 2 1 (TV.i .i64 0)=some qjU/\
 VS prog 52 [qjW,qjV,qjU] fun qzS=>lT true qzS/\
 ∃qjT,dX 0 qzS=some qjT/\
 ∃qj8,dX 1 qzS=some qj8/\
 ∃qj7,dX 2 qzS=some qj7/\
 ∃qzj,cN o6 0 4 qjT=some qzj/\
 ∃qxq,cz .neq BU (TV.i .i64 0)=some qxq/\
 gd qxq false qxq false/\∃qjS,gV qxq false (fun r=>eP (cu qzk 0)=some r) qjS/\
 ∃qjR,gV qxq false (fun r=>(dH qjS (TV.i .i64 0)=some r/\dg 1 r)) qjR/\
 gd qxq false qxq false/\∃qjQ,gV qxq false (fun r=>jF qjR 0 none=some r) qjQ/\
 gd qxq false qxq false/\∃qjP,gV qxq false (fun r=>eP (cu qzj 0)=some r) qjP/\
 ∃qjO,gV qxq false (fun r=>(dH qjP (TV.i .i64 0)=some r/\dg 1 r)) qjO/\
 gd qxq false qxq false/\∃qjN,gV qxq false (fun r=>jF qjO 0 none=some r) qjN/\
 ∃qjM,gV qxq false (fun r=>cz .neq qjQ qjN=some r) qjM/\
 ∃qxf,fe qxq (TV.b true) qjM=some qxf/\
 gd qxf false qxf false/\∃qjL,gV qxf false (fun r=>eP (cu qzk 1)=some r) qjL/\
 ∃qjK,gV qxf false (fun r=>(dH qjL (TV.i .i64 0)=some r/\dg 1 r)) qjK/\
 gd qxf false qxf false/\∃qjJ,gV qxf false (fun r=>jF qjK 0 none=some r) qjJ/\
 ∃qjI,gV qxf false (fun r=>(dH qjJ (TV.i .i64 0)=some r/\dg 1 r)) qjI/\
 gd qxf false qxf false/\∃qjH,gV qxf false (fun r=>jF qjI 0 none=some r) qjH/\
 gd qxf false qxf false/\∃qjG,gV qxf false (fun r=>eP (cu qzj 1)=some r) qjG/\
 ∃qjF,gV qxf false (fun r=>(dH qjG (TV.i .i64 0)=some r/\dg 1 r)) qjF/\
 gd qxf false qxf false/\∃qjE,gV qxf false (fun r=>jF qjF 0 none=some r) qjE/\
 ∃qjD,gV qxf false (fun r=>(dH qjE (TV.i .i64 0)=some r/\dg 1 r)) qjD/\
 gd qxf false qxf false/\∃qjC,gV qxf false (fun r=>jF qjD 0 none=some r) qjC/\
 ∃qjB,gV qxf false (fun r=>cz .neq qjH qjC=some r) qjB/\
 ∃qxe,fe qxf (TV.b true) qjB=some qxe/\
 gd qxe false qxe false/\∃qjA,gV qxe false (fun r=>eP (cu qzk 1)=some r) qjA/\
 ∃qjz,gV qxe false (fun r=>(dH qjA (TV.i .i64 0)=some r/\dg 1 r)) qjz/\
 gd qxe false qxe false/\∃qjy,gV qxe false (fun r=>jF qjz 0 none=some r) qjy/\
 ∃qjx,gV qxe false (fun r=>(dH qjy (TV.i .i64 1)=some r/\dg 1 r)) qjx/\
 gd qxe false qxe false/\∃qjw,gV qxe false (fun r=>jF qjx 0 none=some r) qjw/\
 gd qxe false qxe false/\∃qjv,gV qxe false (fun r=>eP (cu qzj 1)=some r) qjv/\
 ∃qju,gV qxe false (fun r=>(dH qjv (TV.i .i64 0)=some r/\dg 1 r)) qju/\
 gd qxe false qxe false/\∃qjt,gV qxe false (fun r=>jF qju 0 none=some r) qjt/\
 ∃qjs,gV qxe false (fun r=>(dH qjt (TV.i .i64 1)=some r/\dg 1 r)) qjs/\
 gd qxe false qxe false/\∃qjr,gV qxe false (fun r=>jF qjs 0 none=some r) qjr/\
 ∃qjq,gV qxe false (fun r=>cz .neq qjw qjr=some r) qjq/\
 ∃qjp,fe qxe (TV.b true) qjq=some qjp/\
 ck qjp
 (True/\gH [(TV.b false)]/\Q (TV.b false))
 (∃qjo,cz .add x10 (TV.i .i64 1)=some qjo/\
 ∃m3,m3 < n2/\I1 m3 o4 qzk qzj x7 x8 v96 qjo))))
 (∃qzi,eP (cu o6 0)=some qzi/\
 ∃qx2,(dH qzi (TV.i .i64 1)=some qx2/\dg 1 qx2)/\
 ∃qzh,jF qx2 0 none=some qzh/\
 ∃qx1,cz .eql qzh (TV.i .i64 0)=some qx1/\
 True/\gH [qx1]/\Q qx1)
theorem KM (a7 a9 a11 a0 a1 a12:TV) (i7 i9 i11:Nat) (Q:TV->Prop) (h:Fy a7 a9 a11 a0 a1 a12 Q):BJ sh prog Hw.nt Em (gm [(7,a7,i7),(9,a9,i9),(11,a11,i11)] [(0,a0),(1,a1),(12,a12)]) (fun x V=>(match x with|.exit _=>False|_=>True)/\yL V Hw.res fun rs=>gH rs/\Q (yo rs)):=((show Fy a7 a9 a11 a0 a1 a12 Q=BJ sh prog Hw.nt Em (gm [(7,a7,i7),(9,a9,i9),(11,a11,i11)] [(0,a0),(1,a1),(12,a12)]) (fun x V=>(match x with|.exit _=>False|_=>True)/\yL V Hw.res fun rs=>gH rs/\Q (yo rs)) by kernel_rfl)▸h)
end Go.Ax.fE
