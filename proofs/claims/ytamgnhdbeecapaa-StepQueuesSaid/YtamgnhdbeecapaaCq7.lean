/- Part 7 of the proof: LqW. -/
import Derived.Test.YtamgnhdbeecapaaCq4
import Derived.Test.YtamgnhdbeecapaaCq5
import Derived.Test.YtamgnhdbeecapaaCq6
import Derived.KernelRfl
set_option linter.unusedSimpArgs false
set_option linter.unusedVariables false
set_option maxRecDepth 100000
namespace Go.Ax.dR
open Go Go.Ax Go.Ax.V
def gd (a:TV) (x:Bool) (b:TV) (y:Bool):Prop:=(a,x)=((b,y):TV×Bool)
abbrev jJ0:List tg:=[.ob 11 [],.ob 13 [],.ob 22 [],.ob 23 [],.tr 1,.tr 2,.tr 7,.pt 11 11 0,.pt 13 13 0,.sl 15 1,.sl 16 1,.tr 17,.tr 18,.tr 19,.tr 20,.tr 21,.pt 22 22 0,.pt 23 23 0]
abbrev eS {α:Type} (x:Option α) (k:α->Prop):Prop:=∃v,x=some v/\k v
abbrev eX (x i:TV) (n:Nat) (k:TV->Prop):Prop:=∃v,(fo x i=some v/\eo n v)/\k v
abbrev gT (c:TV) (x:Option TV) (k:TV->Prop):Prop:=∃v,gV c true (fun r=>x=some r) v/\k v
abbrev gF (c:TV) (x:Option TV) (k:TV->Prop):Prop:=∃v,gV c false (fun r=>x=some r) v/\k v
abbrev dT (a:TV):Prop:=gd a true a true
abbrev dF (a:TV):Prop:=gd a false a false
abbrev eL (n:Nat) (k:Nat->Prop):Prop:=∃m,m < n/\k m
abbrev iI (n:Int):TV:=TV.i .i64 n
abbrev uC (x:TV) (i:Nat) (k:TV->Prop):Prop:=∃v,ej (ck x i)=some v/\k v
abbrev lC (x:TV) (i:Nat) (k:TV->Prop):Prop:=∃v,mN x i none=some v/\k v
abbrev bI (p:BinOp) (x y:TV) (k:TV->Prop):Prop:=∃v,bF p x y=some v/\k v
abbrev nL:TV:=TV.l []
abbrev rR (Q:TV->Prop) (x:TV):Prop:=True/\eU [x]/\Q x
abbrev rF (Q:TV->Prop):Prop:=True/\eU [TV.b false]/\Q (TV.b false)
abbrev rT (Q:TV->Prop):Prop:=True/\eU [TV.b true]/\Q (TV.b true)
abbrev rP (Q:TV->Prop) (l:List TV):Prop:=eU l/\Q (TV.tp l)
abbrev cL (f:Nat) (l:List TV) (k:TV->Prop):Prop:=VS prog f l fun r=>qR true r/\k r
abbrev gC (c:TV) (b:Bool) (f:Nat) (l:List TV) (k:TV->Prop):Prop:=∃v,gV c b (fun r=>VS prog f l fun r'=>r'=r/\qR true r) v/\k v
abbrev pN (x:TV) (i:Nat) (k:TV->Prop):Prop:=∃v,dS x i 1 (TV.l [])=some v/\k v
abbrev pF (x y:TV) (k:TV->Prop):Prop:=∃v,c_ x y (TV.b false)=some v/\k v
abbrev pT (x y:TV) (k:TV->Prop):Prop:=∃v,c_ x (TV.b true) y=some v/\k v
abbrev nb (a j s n:Nat):Prop:=(Nat.beq a (j*s)&&Nat.beq n s)=true
abbrev aI (x:TV) (n:Nat) (k:TV->Nat->Prop):Prop:=∃v,bF .add x (iI 1)=some v/\∃m,m < n/\k v m
abbrev lN (x:TV) (k:TV->Prop):Prop:=∃v,f_ x=some v/\k v
abbrev gTu (c x:TV) (i:Nat) (k:TV->Prop):Prop:=∃v,gV c true (fun r=>ej (ck x i)=some r) v/\k v
abbrev gFu (c x:TV) (i:Nat) (k:TV->Prop):Prop:=∃v,gV c false (fun r=>ej (ck x i)=some r) v/\k v
abbrev Ty0:=Nat->TV->TV->TV->TV->TV->Prop
abbrev Ty1:=Nat->TV->TV->TV->TV->TV->TV->TV->TV->Prop
abbrev Ty2:=Nat->TV->TV->TV->TV->Prop
def II:TV:=TV.a [(TV.l []),(TV.l []),(TV.l []),(TV.l [])]
def IG:TV:=TV.a [(TV.b false),(TV.i .i64 0),(TV.i .i64 0),(TV.i .i64 0)]
def Oy:TV:=TV.a [(TV.i .i64 0),(TV.i .i64 0),(TV.i .i64 0),(TV.i .i64 0),(TV.i .i64 0),(TV.l [])]
def OA:Map Ow:=.leaf
noncomputable def I4:Sh:=⟨fun f=>OA.get f,Ov prog,fun _=>none,fun _=>[],fun _=>0,fun _=>[],fun f=>false⟩
theorem M1:n9 prog I4:=⟨rfl,fun f T h=>by cases h⟩
noncomputable abbrev sh:Sh:=I4
theorem tq:n9 prog sh:=M1
theorem vq {f:Nat} {ts:List TV} {Q:TV->Prop} {P:Prop} {sh:Sh} (af:aq) (vc:cm) (hsh:n9 prog sh) (h:P) (a:(prog.get f,vc.ok,ts.length)=(some af,true,af.params)) (c:vc.code=af.body) (e:P=J6 sh prog af vc ts Q):VS prog f ts Q:=IJ (congrArg (·.1) a) c (congrArg (·.2.1) a) (congrArg (·.2.2) a) hsh (e▸h)
def Oq (a0 a1 a2:TV) (Q:TV->Prop):Prop:=
 TV.ja a0=false/\TV.ja a1=false/\TV.ja a2=false/\eS (dr a0 0 3) fun aA=>eS (dr a1 0 4) fun bA=>cL 22 [aA,bA] fun cA=>eS (yu .not cA) fun dA=>b9 dA (eS (dS II 0 4 II) fun eA=>eS (dS IG 0 4 IG) fun fA=>True/\eS (dr eA 0 4) fun hA=>pN hA 3 fun iA=>pN iA 2 fun jA=>pN jA 1 fun kA=>pN kA 0 fun mA=>eS (dr fA 0 4) fun nA=>rP Q [mA,nA,(iI 1)]) (eS (dr a0 0 3) fun pA=>eS (dr a1 0 4) fun qA=>eS (dr a2 0 3) fun rA=>cL 73 [pA,qA,rA] fun sA=>eS (nT 0 sA) fun tA=>eS (nT 1 sA) fun uA=>eS (dS II 0 4 tA) fun vA=>eS (dS IG 0 4 uA) fun wA=>eS (dr vA 0 4) fun xA=>eS (dr wA 0 4) fun yA=>eS (dS II 0 4 xA) fun zA=>eS (dS IG 0 4 yA) fun aB=>True/\eS (dr zA 0 4) fun bB=>eS (dr aB 0 4) fun cB=>rP Q [bB,cB,(iI 0)])
theorem LG (a0 a1 a2:TV) (Q:TV->Prop) (h:Oq a0 a1 a2 Q):VS prog 52 [a0,a1,a2] Q:=vq (sh:=sh) Nu NH tq h (by kernel_rfl) rfl (by kernel_rfl)
def Ou (a0 a1:TV) (Q:TV->Prop):Prop:=
 TV.ja a0=false/\TV.ja a1=false/\eS (dr a0 0 3) fun aA=>cL 53 [aA] fun bA=>gT bA (dr a0 0 3) fun cA=>gT bA (dr a1 0 4) fun dA=>gC bA true 54 [cA,dA] fun eA=>pF bA eA fun fA=>rR Q fA
theorem LI (a0 a1:TV) (Q:TV->Prop) (h:Ou a0 a1 Q):VS prog 22 [a0,a1] Q:=vq (sh:=sh) Nw NJ tq h (by kernel_rfl) rfl (by kernel_rfl)
def Oo (a0 a1:TV) (Q:TV->Prop):Prop:=
 TV.ja a0=false/\TV.ja a1=false/\eS (dr a0 0 3) fun aA=>eS (dr a1 0 4) fun bA=>cL 76 [aA,bA] fun cA=>eS (yu .not cA) fun dA=>b9 dA (rF Q) (uC a0 1 fun eA=>lN eA fun fA=>∃hA:Ty0,(∃iA,hA iA a0 a1 eA fA (iI 0))/\∀iA jA kA mA nA pA,hA iA jA kA mA nA pA->bI .lss pA nA fun qA=>b9 qA (eX mA pA 3 fun rA=>eS (mN rA 0 (some 3)) fun sA=>eS (dS (TV.a [(iI 0),nL,nL]) 0 3 sA) fun tA=>uC kA 0 fun uA=>eX uA pA 1 fun vA=>lC vA 0 fun wA=>uC tA 0 fun xA=>cL 77 [wA,xA] fun yA=>eS (yu .not yA) fun zA=>dF zA/\gFu zA kA 1 fun aB=>gF zA (some pA) fun bB=>∃cB,gV zA false (fun r=>(fo aB bB=some r/\eo 1 r)) cB/\dF zA/\gF zA (mN cB 0 none) fun dB=>gF zA (f_ dB) fun eB=>dF zA/\gFu zA jA 2 fun fB=>gF zA (some pA) fun hB=>∃iB,gV zA false (fun r=>(fo fB hB=some r/\eo 1 r)) iB/\dF zA/\gF zA (mN iB 0 none) fun jB=>gF zA (bF .neq eB jB) fun kB=>pT zA kB fun mB=>b9 mB (rF Q) (uC kA 1 fun nB=>eX nB pA 1 fun pB=>lC pB 0 fun qB=>lN qB fun rB=>∃sB:Ty1,(∃tB,sB tB jA kA mA nA pA qB rB (iI 0))/\∀tB uB vB wB xB yB zB aC bC,sB tB uB vB wB xB yB zB aC bC->bI .lss bC aC fun cC=>b9 cC (eX zB bC 1 fun dC=>lC dC 0 fun fC=>cL 78 [fC] fun hC=>eS (yu .not hC) fun iC=>b9 iC (rF Q) (aI bC tB fun jC kC=>sB kC uB vB wB xB yB zB aC jC)) (aI yB iA fun mC nC=>hA nC uB vB wB xB mC))) (uC jA 0 fun pC=>lN pC fun qC=>∃rC:Ty2,(∃sC,rC sC kA pC qC (iI 0))/\∀sC tC vC wC xC,rC sC tC vC wC xC->bI .lss xC wC fun yC=>b9 yC (eX vC xC 6 fun zC=>eS (mN zC 0 (some 6)) fun aD=>eS (dS Oy 0 6 aD) fun bD=>eS (dr bD 0 6) fun cD=>uC tC 2 fun dD=>eX dD xC 1 fun eD=>lC eD 0 fun fD=>cL 79 [cD,fD] fun hD=>eS (yu .not hD) fun iD=>dF iD/\gFu iD tC 3 fun jD=>gF iD (some xC) fun kD=>∃mD,gV iD false (fun r=>(fo jD kD=some r/\eo 1 r)) mD/\dF iD/\gF iD (mN mD 0 none) fun nD=>dF iD/\gFu iD bD 5 fun pD=>gF iD (f_ pD) fun qD=>gF iD (DD true [qD,(iI 1)]) fun rD=>gC iD false 77 [nD,rD] fun sD=>gF iD (yu .not sD) fun tD=>pT iD tD fun uD=>b9 uD (rF Q) (aI xC sC fun vD wD=>rC wD tC vC wC vD)) (rT Q)))
theorem LF (a0 a1:TV) (Q:TV->Prop) (h:Oo a0 a1 Q):VS prog 54 [a0,a1] Q:=vq (sh:=sh) Nt NG tq h (by kernel_rfl) rfl (by kernel_rfl)
def Om (a0 a1:TV) (Q:TV->Prop):Prop:=
 TV.ja a0=false/\TV.ja a1=false/\uC a0 1 fun aA=>lN aA fun bA=>uC a0 0 fun cA=>lN cA fun dA=>uC a1 0 fun eA=>lN eA fun fA=>bI .eql fA bA fun hA=>dT hA/\gTu hA a1 1 fun iA=>gT hA (f_ iA) fun jA=>gT hA (some bA) fun kA=>gT hA (bF .eql jA kA) fun mA=>pF hA mA fun nA=>dT nA/\gTu nA a1 2 fun pA=>gT nA (f_ pA) fun qA=>gT nA (some dA) fun rA=>gT nA (bF .eql qA rA) fun sA=>pF nA sA fun tA=>dT tA/\gTu tA a1 3 fun uA=>gT tA (f_ uA) fun vA=>gT tA (some dA) fun wA=>gT tA (bF .eql vA wA) fun xA=>pF tA xA fun yA=>rR Q yA
theorem LC (a0 a1:TV) (Q:TV->Prop) (h:Om a0 a1 Q):VS prog 76 [a0,a1] Q:=vq (sh:=sh) Nr NF tq h (by kernel_rfl) rfl (by kernel_rfl)
def Ol (a0 a1:TV) (Q:TV->Prop):Prop:=
 bI .geq a0 (iI 0) fun aA=>gT aA (some a0) fun bA=>gT aA (some a1) fun cA=>gT aA (bF .lss bA cA) fun dA=>pF aA dA fun eA=>rR Q eA
theorem LB (a0 a1:TV) (Q:TV->Prop) (h:Ol a0 a1 Q):VS prog 77 [a0,a1] Q:=vq (sh:=sh) Nq IQ tq h (by kernel_rfl) rfl (by kernel_rfl)
def Ok (a0:TV) (Q:TV->Prop):Prop:=
 eS (bF .geq a0 (TV.i .i64 (-2147483648))) fun aA=>gT aA (some a0) fun bA=>gT aA (bF .leq bA (iI 2147483647)) fun cA=>pF aA cA fun dA=>rR Q dA
theorem LA (a0:TV) (Q:TV->Prop) (h:Ok a0 Q):VS prog 78 [a0] Q:=vq (sh:=sh) Np IP tq h (by kernel_rfl) rfl (by kernel_rfl)
def Oj (a0 a1:TV) (Q:TV->Prop):Prop:=
 TV.ja a0=false/\lN a1 fun aA=>∃bA:Ty0,(∃cA,bA cA a0 a1 a1 aA (iI 0))/\∀cA dA eA fA hA iA,bA cA dA eA fA hA iA->bI .lss iA hA fun jA=>b9 jA (eX fA iA 2 fun kA=>eS (mN kA 0 (some 2)) fun mA=>eS (dS (TV.a [(iI 0),(iI 0)]) 0 2 mA) fun nA=>uC nA 0 fun pA=>uC dA 4 fun qA=>cL 77 [pA,qA] fun rA=>eS (yu .not rA) fun sA=>dF sA/\gFu sA nA 1 fun tA=>gC sA false 78 [tA] fun uA=>gF sA (yu .not uA) fun vA=>pT sA vA fun wA=>b9 wA (rF Q) (aI iA cA fun xA yA=>bA yA dA eA fA hA xA)) (lN eA fun zA=>uC dA 1 fun aB=>bI .leq zA aB fun bB=>rR Q bB)
theorem Lz (a0 a1:TV) (Q:TV->Prop) (h:Oj a0 a1 Q):VS prog 79 [a0,a1] Q:=vq (sh:=sh) No IN tq h (by kernel_rfl) rfl (by kernel_rfl)
def Ot (a0 a1:TV) (Q:TV->Prop):Prop:=
 TV.ja a0=false/\eS (dr a0 0 4) fun aA=>cL 58 [aA,a1] fun bA=>eS (nT 0 bA) fun cA=>eS (nT 1 bA) fun dA=>bI .neq dA (iI 0) fun eA=>b9 eA (True/\rP Q [(iI 0),dA]) (eS (bF .lss cA (TV.i .i64 (-2147483648))) fun fA=>gF fA (some cA) fun hA=>gF fA (bF .gtr hA (iI 2147483647)) fun iA=>pT fA iA fun jA=>b9 jA (True/\rP Q [(iI 0),(iI 2)]) (True/\rP Q [cA,(iI 0)]))
theorem LH (a0 a1:TV) (Q:TV->Prop) (h:Ot a0 a1 Q):VS prog 35 [a0,a1] Q:=vq (sh:=sh) Nv NI tq h (by kernel_rfl) rfl (by kernel_rfl)
def On (a0 a1:TV) (Q:TV->Prop):Prop:=
 TV.ja a0=false/\uC a0 0 fun aA=>bI .eql aA (iI 1) fun bA=>b9 bA (uC a0 1 fun cA=>True/\rP Q [cA,(iI 0)]) (uC a0 0 fun dA=>bI .eql dA (iI 2) fun eA=>dT eA/\gTu eA a0 2 fun fA=>gT eA (bF .geq fA (iI 0)) fun hA=>pF eA hA fun iA=>dT iA/\gTu iA a0 2 fun jA=>gT iA (some a1) fun kA=>gT iA (f_ kA) fun mA=>gT iA (bF .lss jA mA) fun nA=>pF iA nA fun pA=>b9 pA (uC a0 2 fun qA=>eX a1 qA 1 fun rA=>lC rA 0 fun sA=>True/\rP Q [sA,(iI 0)]) (uC a0 0 fun tA=>bI .eql tA (iI 3) fun uA=>dT uA/\gTu uA a0 3 fun vA=>gT uA (f_ vA) fun wA=>gT uA (bF .eql wA (iI 1)) fun xA=>pF uA xA fun yA=>b9 yA (uC a0 3 fun zA=>∃aB,(fo zA (iI 0)=some aB/\eo 4 aB)/\eS (mN aB 0 (some 4)) fun bB=>cL 35 [bB,a1] fun cB=>eS (nT 0 cB) fun dB=>eS (nT 1 cB) fun eB=>eS (yu .neg dB) fun fB=>True/\rP Q [fB,eB]) (uC a0 0 fun hB=>bI .geq hB (iI 4) fun iB=>dT iB/\gTu iB a0 0 fun jB=>gT iB (bF .leq jB (iI 8)) fun kB=>pF iB kB fun mB=>dT mB/\gTu mB a0 3 fun nB=>gT mB (f_ nB) fun pB=>gT mB (bF .eql pB (iI 2)) fun qB=>pF mB qB fun rB=>b9 rB (eS (dr a0 0 4) fun sB=>cL 80 [sB,a1] fun tB=>eS (nT 0 tB) fun uB=>eS (nT 1 tB) fun vB=>True/\rP Q [uB,vB]) (True/\rP Q [(iI 0),(iI 0)]))))
theorem LD (a0 a1:TV) (Q:TV->Prop) (h:On a0 a1 Q):VS prog 58 [a0,a1] Q:=vq (sh:=sh) Ns Iy tq h (by kernel_rfl) rfl (by kernel_rfl)
def E5:cm:=.seq (.aa Gk) (.seq (.seq (.aa Gj) (.block 0 (.loop [.ob 11 [],.ob 13 [],.tr 1,.tr 2,.tr 7,.pt 11 11 0,.pt 13 13 0,.sl 15 1,.sl 16 1,.tr 17] (.seq (.seq (.aa Dd) (.cond (.t 85) .skip (.exit 0))) (.seq (.block 1 (.seq (.aa Db) (.seq (.join [.ob 11 [],.ob 13 [],.tr 1,.tr 2,.tr 7,.pt 11 11 0,.pt 13 13 0,.sl 15 1,.sl 16 1,.tr 17,.tr 18] (.seq (.aa Da) (.cond (.t 91) (.aa C_) .skip))) (.seq (.aa C9) (.seq (.join [.ob 11 [],.ob 13 [],.tr 1,.tr 2,.tr 7,.pt 11 11 0,.pt 13 13 0,.sl 15 1,.sl 16 1,.tr 17,.tr 18,.tr 19] (.seq (.aa C8) (.cond (.t 100) (.aa C7) .skip))) (.seq (.aa C6) (.seq (.seq (.aa C5) (.block 2 (.loop [.ob 11 [],.ob 13 [],.tr 1,.tr 2,.tr 7,.pt 11 11 0,.pt 13 13 0,.sl 15 1,.sl 16 1,.tr 17,.tr 18,.tr 19,.tr 20,.tr 21] (.seq (.seq (.aa C4) (.cond (.t 107) .skip (.exit 2))) (.seq (.block 3 (.seq (.aa C2) (.seq (.seq (.aa C1) (.cond (.t 126) (.seq (.aa C0) .ret) .skip)) (.seq (.join jJ0 (.seq (.aT CZ Ez []) (.cond (.t 137) (.aT CY Ey []) .skip))) (.seq (.join jJ0 (.seq (.aT CX Ew []) (.cond (.t 164) (.aa CW) .skip))) (.seq (.seq (.aa CV) (.cond (.t 202) (.seq (.aa CU) .ret) .skip)) (.aa CT))))))) (.aa C3)))))) (.seq (.aa CS) (.cond (.t 236) (.seq (.aa CR) .ret) .skip))))))))) (.aa Dc)))))) (.seq (.seq (.aa CQ) (.cond (.t 254) (.seq (.aa CP) .ret) .skip)) (.seq (.seq (.aa CO) (.block 4 (.loop [.sl 15 1,.sl 16 1,.tr 25] (.seq (.seq (.aa CN) (.cond (.t 258) .skip (.exit 4))) (.seq (.block 5 (.seq (.aT CL Eu []) (.cond (.t 269) (.seq (.aa CK) .ret) .skip))) (.aa CM)))))) (.seq (.aa CJ) .ret))))
def Ga (a11 a13 a1 a2 a7:TV) (Q:TV->Prop):Prop:=
 ∃I1:Nat->TV->TV->TV->TV->TV->List TV->List TV->TV->Prop,(∃n2,I1 n2 a11 a13 a1 a2 a7 [] [] (TV.i .i64 0))/\∀n2:Nat,
 ∀o4:TV,∀o5:TV,∀x6:TV,∀x7:TV,∀x8:TV,∀l9:List TV,∀l10:List TV,∀x11:TV,I1 n2 o4 o5 x6 x7 x8 l9 l10 x11->
 ∃v17,f_ x6=some v17/\
 ∃v18,bF .lss x11 v17=some v18/\
 ∃v19,gV v18 true (fun r=>some x11=some r) v19/\
 ∃v20,gV v18 true (fun r=>bF .lss v19 (TV.i .i64 50)=some r) v20/\
 ∃v21,c_ v18 v20 (TV.b false)=some v21/\
 b9 v21
 (∃I27:TV->TV->TV->TV->TV->List TV->List TV->TV->TV->Prop,
 (∃v28,f_ x7=some v28/\
 ∃v29,bF .lss x11 v28=some v29/\
 b9 v29
 (∃v30,(fo x7 x11=some v30/\eo 1 v30)/\
 ∃v31,mN v30 0 none=some v31/\
 ∃v32,AU .i64 v31=some v32/\
 I27 o4 o5 x6 x7 x8 l9 l10 x11 v32)
 (I27 o4 o5 x6 x7 x8 l9 l10 x11 (TV.i .i64 0)))/\
 ∀o33:TV,∀o34:TV,∀x35:TV,∀x36:TV,∀x37:TV,∀l38:List TV,∀l39:List TV,∀x40:TV,∀x41:TV,I27 o33 o34 x35 x36 x37 l38 l39 x40 x41->∃I44:TV->TV->TV->TV->TV->List TV->List TV->TV->TV->TV->Prop,
 (∃v45,(fo x35 x40=some v45/\eo 1 v45)/\
 ∃v46,mN v45 0 none=some v46/\
 b9 v46
 (I44 o33 o34 x35 x36 x37 l38 l39 x40 x41 (TV.i .i64 1))
 (I44 o33 o34 x35 x36 x37 l38 l39 x40 x41 (TV.i .i64 0)))/\
 ∀o47:TV,∀o48:TV,∀x49:TV,∀x50:TV,∀x51:TV,∀l52:List TV,∀l53:List TV,∀x54:TV,∀x55:TV,∀x56:TV,I44 o47 o48 x49 x50 x51 l52 l53 x54 x55 x56->∃v57,ej (ck o48 2)=some v57/\
 ∃Iy,(fo v57 (TV.i .i64 0)=some Iy/\eo 1 Iy)/\
 ∃v59,mN Iy 0 none=some v59/\
 ∃v60,f_ v59=some v60/\
 ∃I61:Nat->TV->TV->TV->TV->TV->List TV->List TV->TV->TV->TV->TV->TV->Prop,(∃n62,I61 n62 o47 o48 x49 x50 x51 l52 l53 x54 x55 x56 v60 (TV.i .i64 0))/\∀n62:Nat,
 ∀o64:TV,∀o65:TV,∀x66:TV,∀x67:TV,∀x68:TV,∀l69:List TV,∀l70:List TV,∀x71:TV,∀x72:TV,∀x73:TV,∀x74:TV,∀x75:TV,I61 n62 o64 o65 x66 x67 x68 l69 l70 x71 x72 x73 x74 x75->
 ∃IQ,bF .lss x75 (TV.i .i64 4)=some IQ/\
 b9 IQ
 (∃IP,dr o64 0 3=some IP/\
 ∃IN,dr o65 0 4=some IN/\
 ∃Lq,dS (TV.a [(TV.i .i64 0),(TV.b false),(TV.i .i64 0)]) 0 1 x73=some Lq/\
 ∃v81,dS Lq 2 1 x72=some v81/\
 VS prog 52 [IP,IN,v81] fun r82=>qR true r82/\
 ∃v83,nT 0 r82=some v83/\
 ∃v84,nT 1 r82=some v84/\
 ∃v85,nT 2 r82=some v85/\
 ∃v86,dS II 0 4 v83=some v86/\
 ∃v87,dS IG 0 4 v84=some v87/\
 ∃v92,bF .neq v85 (TV.i .i64 0)=some v92/\
 gd v92 false v92 false/\∃v93,gV v92 false (fun r=>ej (ck v87 1)=some r) v93/\
 ∃v94,gV v92 false (fun r=>bF .neq v93 (TV.i .i64 0)=some r) v94/\
 ∃v95,c_ v92 (TV.b true) v94=some v95/\
 b9 v95
 (True/\eU [(TV.b false)]/\Q (TV.b false))
 (∃qki:TV->TV->TV->TV->TV->TV->TV->List TV->List TV->TV->TV->TV->TV->TV->Prop,
 (∃qwx,ej (ck v86 2)=some qwx/\
 ∃qjL,(fo qwx (TV.i .i64 0)=some qjL/\eo 1 qjL)/\
 ∃qww,mN qjL 0 none=some qww/\
 ∃qwv,f_ qww=some qwv/\
 ∃qwu,ej (ck o65 2)=some qwu/\
 ∃qjK,(fo qwu (TV.i .i64 0)=some qjK/\eo 1 qjK)/\
 ∃qwt,mN qjK 0 none=some qwt/\
 ∃qws,f_ qwt=some qws/\
 ∃qwr,bF .gtr qwv qws=some qwr/\
 b9 qwr
 (∃qwq,ej (ck v86 2)=some qwq/\
 ∃qjJ,(fo qwq (TV.i .i64 0)=some qjJ/\eo 1 qjJ)/\
 ∃qwp,mN qjJ 0 none=some qwp/\
 ∃qwo,ej (ck v86 2)=some qwo/\
 ∃qjI,(fo qwo (TV.i .i64 0)=some qjI/\eo 1 qjI)/\
 ∃qwn,mN qjI 0 none=some qwn/\
 ∃qwm,f_ qwn=some qwm/\
 ∃qwl,bF .sub qwm (TV.i .i64 1)=some qwl/\
 ∃qjH,(fo qwp qwl=some qjH/\eo 2 qjH)/\
 ∃qjG,mN qjH 1 none=some qjG/\
 (Nat.beq 0 (0*1)&&Nat.beq 1 1)=true/\eo 1 qjG/\
 ∃qjF,uq (TV.l [qjG])=some qjF/\Bc 1 qjF/\
 ∃qwk,k8 8 l69 qjF=some qwk/\
 qki o64 o65 v86 v87 x66 x67 x68 qwk l70 x71 x72 x73 x74 x75)
 (qki o64 o65 v86 v87 x66 x67 x68 l69 l70 x71 x72 x73 x74 x75))/\
 ∀qjN:TV,∀qjn:TV,∀qzO:TV,∀qjM:TV,∀qjy:TV,∀qjx:TV,∀qjw:TV,∀qjP:List TV,∀qjO:List TV,∀qjv:TV,∀qju:TV,∀qjt:TV,∀qjs:TV,∀qjr:TV,qki qjN qjn qzO qjM qjy qjx qjw qjP qjO qjv qju qjt qjs qjr->∃qkh:TV->TV->TV->TV->TV->TV->TV->List TV->List TV->TV->TV->TV->TV->TV->Prop,
 (∃qwj,ej (ck qzO 2)=some qwj/\
 ∃qjE,(fo qwj (TV.i .i64 0)=some qjE/\eo 1 qjE)/\
 ∃qwi,mN qjE 0 none=some qwi/\
 ∃qwh,f_ qwi=some qwh/\
 ∃qwg,ej (ck qjn 2)=some qwg/\
 ∃qjD,(fo qwg (TV.i .i64 0)=some qjD/\eo 1 qjD)/\
 ∃qwf,mN qjD 0 none=some qwf/\
 ∃qwe,f_ qwf=some qwe/\
 ∃qwd,bF .lss qwh qwe=some qwd/\
 b9 qwd
 (∃qwc,ej (ck qzO 1)=some qwc/\
 ∃qjC,(fo qwc (TV.i .i64 1)=some qjC/\eo 1 qjC)/\
 ∃qwb,mN qjC 0 none=some qwb/\
 ∃qjB,(fo qwb (TV.i .i64 0)=some qjB/\eo 1 qjB)/\
 ∃qjA,mN qjB 0 none=some qjA/\
 (Nat.beq 0 (0*1)&&Nat.beq 1 1)=true/\eo 1 qjA/\
 ∃qjz,uq (TV.l [qjA])=some qjz/\Bc 1 qjz/\
 ∃qwa,k8 8 qjO qjz=some qwa/\
 qkh qjN qjn qzO qjM qjy qjx qjw qjP qwa qjv qju qjt qjs qjr)
 (qkh qjN qjn qzO qjM qjy qjx qjw qjP qjO qjv qju qjt qjs qjr))/\
 ∀qwA:TV,∀qjm:TV,∀qwz:TV,∀qwy:TV,∀qko:TV,∀qkn:TV,∀qjq:TV,∀qwC:List TV,∀qwB:List TV,∀qkm:TV,∀qkl:TV,∀qjj:TV,∀qkk:TV,∀qkj:TV,qkh qwA qjm qwz qwy qko qkn qjq qwC qwB qkm qkl qjj qkk qkj->∃qk9,ej (ck qwy 0)=some qk9/\
 ∃qxU,yu .not qk9=some qxU/\
 ∃qk8,gV qxU true (fun r=>some qjj=some r) qk8/\
 ∃qk7,gV qxU true (fun r=>bF .eql qk8 (TV.i .i64 0)=some r) qk7/\
 ∃qxB,gV qxU true (fun r=>some qk7=some r) qxB/\
 gd qxB true qxB true/\∃qk6,gV qxB true (fun r=>ej (ck qjm 2)=some r) qk6/\
 ∃qk5,gV qxB true (fun r=>(fo qk6 (TV.i .i64 0)=some r/\eo 1 r)) qk5/\
 gd qxB true qxB true/\∃qk4,gV qxB true (fun r=>mN qk5 0 none=some r) qk4/\
 ∃qk3,gV qxB true (fun r=>f_ qk4=some r) qk3/\
 ∃qk2,gV qxB true (fun r=>some qjq=some r) qk2/\
 ∃qk1,gV qxB true (fun r=>bF .eql qk3 qk2=some r) qk1/\
 ∃qk0,gV qxU true (fun r=>c_ qxB qk1 (TV.b false)=some r) qk0/\
 ∃qzo,gV qxU true (fun r=>some qk0=some r) qzo/\
 ∃qkZ,gV qzo false (fun r=>some qjj=some r) qkZ/\
 ∃qkY,gV qzo false (fun r=>bF .eql qkZ (TV.i .i64 1)=some r) qkY/\
 ∃qxF,gV qzo false (fun r=>some qkY=some r) qxF/\
 gd qxF true qxF true/\∃qkX,gV qxF true (fun r=>ej (ck qjm 2)=some r) qkX/\
 ∃qkW,gV qxF true (fun r=>(fo qkX (TV.i .i64 0)=some r/\eo 1 r)) qkW/\
 gd qxF true qxF true/\∃qkV,gV qxF true (fun r=>mN qkW 0 none=some r) qkV/\
 ∃qkU,gV qxF true (fun r=>f_ qkV=some r) qkU/\
 ∃qkT,gV qxF true (fun r=>bF .eql qkU (TV.i .i64 0)=some r) qkT/\
 ∃qkS,gV qzo false (fun r=>c_ qxF qkT (TV.b false)=some r) qkS/\
 ∃qkR,gV qxU true (fun r=>c_ qzo (TV.b true) qkS=some r) qkR/\
 ∃qkQ,gV qxU true (fun r=>yu .not qkR=some r) qkQ/\
 ∃qkP,c_ qxU qkQ (TV.b false)=some qkP/\
 b9 qkP
 (True/\eU [(TV.b false)]/\Q (TV.b false))
 (∃qkO,dr qwz 0 4=some qkO/\
 ∃qkN,dS qjm 0 4 qkO=some qkN/\
 ∃qkM,bF .add qkj (TV.i .i64 1)=some qkM/\
 ∃JP,JP < n62/\I61 JP qwA qkN qko qkn qjq qwC qwB qkm qkl qjj qkk qkM)))
 (∃qzN,bF .eql x73 (TV.i .i64 0)=some qzN/\
 ∃qkL,gV qzN true (fun r=>some x74=some r) qkL/\
 ∃qkK,gV qzN true (fun r=>some x68=some r) qkK/\
 ∃qkJ,gV qzN true (fun r=>bF .lss qkL qkK=some r) qkJ/\
 ∃qxA,c_ qzN qkJ (TV.b false)=some qxA/\
 gd qxA true qxA true/\∃qkI,gV qxA true (fun r=>ej (ck o65 2)=some r) qkI/\
 ∃qkH,gV qxA true (fun r=>(fo qkI (TV.i .i64 0)=some r/\eo 1 r)) qkH/\
 gd qxA true qxA true/\∃qkG,gV qxA true (fun r=>mN qkH 0 none=some r) qkG/\
 ∃qkF,gV qxA true (fun r=>f_ qkG=some r) qkF/\
 ∃qkE,gV qxA true (fun r=>some x74=some r) qkE/\
 ∃qkD,gV qxA true (fun r=>bF .leq qkF qkE=some r) qkD/\
 ∃qx5,c_ qxA qkD (TV.b false)=some qx5/\
 ∃qkC,gV qx5 false (fun r=>some x73=some r) qkC/\
 ∃qkB,gV qx5 false (fun r=>bF .eql qkC (TV.i .i64 1)=some r) qkB/\
 ∃qjl,gV qx5 false (fun r=>some qkB=some r) qjl/\
 ∃qkA,gV qjl true (fun r=>some x74=some r) qkA/\
 ∃qkz,gV qjl true (fun r=>bF .gtr qkA (TV.i .i64 0)=some r) qkz/\
 ∃qky,gV qx5 false (fun r=>c_ qjl qkz (TV.b false)=some r) qky/\
 ∃qxz,gV qx5 false (fun r=>some qky=some r) qxz/\
 gd qxz true qxz true/\∃qkx,gV qxz true (fun r=>ej (ck o65 2)=some r) qkx/\
 ∃qkw,gV qxz true (fun r=>(fo qkx (TV.i .i64 0)=some r/\eo 1 r)) qkw/\
 gd qxz true qxz true/\∃qkv,gV qxz true (fun r=>mN qkw 0 none=some r) qkv/\
 ∃qku,gV qxz true (fun r=>f_ qkv=some r) qku/\
 ∃qkt,gV qxz true (fun r=>some x74=some r) qkt/\
 ∃qks,gV qxz true (fun r=>bF .geq qku qkt=some r) qks/\
 ∃qkr,gV qx5 false (fun r=>c_ qxz qks (TV.b false)=some r) qkr/\
 ∃qkq,c_ qx5 (TV.b true) qkr=some qkq/\
 b9 qkq
 (True/\eU [(TV.b false)]/\Q (TV.b false))
 (∃qkp,bF .add x71 (TV.i .i64 1)=some qkp/\
 ∃m3,m3 < n2/\I1 m3 o64 o65 x66 x67 x68 l69 l70 qkp)))
 (∃qzM,some (TV.i .i64 (List.length l10))=some qzM/\
 ∃qzL,some (TV.i .i64 (List.length l9))=some qzL/\
 ∃qxa,bF .gtr qzM qzL=some qxa/\
 gd qxa false qxa false/\∃qzK,gV qxa false (fun r=>some (TV.i .i64 (List.length l9))=some r) qzK/\
 gd qxa false qxa false/\∃qzJ,gV qxa false (fun r=>some (TV.i .i64 (List.length l10))=some r) qzJ/\
 ∃qzI,gV qxa false (fun r=>bF .sub qzK qzJ=some r) qzI/\
 gd qxa false qxa false/\∃qzH,gV qxa false (fun r=>ej (ck o5 2)=some r) qzH/\
 ∃qzG,gV qxa false (fun r=>(fo qzH (TV.i .i64 0)=some r/\eo 1 r)) qzG/\
 gd qxa false qxa false/\∃qzF,gV qxa false (fun r=>mN qzG 0 none=some r) qzF/\
 ∃qzE,gV qxa false (fun r=>f_ qzF=some r) qzE/\
 ∃qzD,gV qxa false (fun r=>bF .neq qzI qzE=some r) qzD/\
 ∃qzC,c_ qxa (TV.b true) qzD=some qzC/\
 b9 qzC
 (True/\eU [(TV.b false)]/\Q (TV.b false))
 (∃qzn:Nat->List TV->List TV->TV->Prop,(∃qxV,qzn qxV l9 l10 (TV.i .i64 0))/\∀qxV:Nat,
 ∀qxW:List TV,∀qxH:List TV,∀qxE:TV,qzn qxV qxW qxH qxE->
 ∃qzB,some (TV.i .i64 (List.length qxH))=some qzB/\
 ∃qzA,bF .lss qxE qzB=some qzA/\
 b9 qzA
 (∃qzz,vw qxE (List.length qxH)=some qzz/\
 ∃qzy,yx qxH qzz 0 none=some qzy/\
 ∃qzx,vw qxE (List.length qxW)=some qzx/\
 ∃qzw,yx qxW qzx 0 none=some qzw/\
 ∃qzv,bF .neq qzy qzw=some qzv/\
 b9 qzv
 (True/\eU [(TV.b false)]/\Q (TV.b false))
 (∃qzu,bF .add qxE (TV.i .i64 1)=some qzu/\
 ∃qzP,qzP < qxV/\qzn qzP qxW qxH qzu))
 (True/\eU [(TV.b true)]/\Q (TV.b true))))
theorem Ly (a11 a13 a1 a2 a7:TV) (i11 i13:Nat) (Q:TV->Prop) (h:Ga a11 a13 a1 a2 a7 Q):BX sh prog Il.nt E5 (gi [(11,a11,i11),(13,a13,i13)] [(1,a1),(2,a2),(7,a7)]) (fun x V=>(match x with|.exit _=>False|_=>True)/\yV V Il.res fun rs=>eU rs/\Q (yF rs)):=((show Ga a11 a13 a1 a2 a7 Q=BX sh prog Il.nt E5 (gi [(11,a11,i11),(13,a13,i13)] [(1,a1),(2,a2),(7,a7)]) (fun x V=>(match x with|.exit _=>False|_=>True)/\yV V Il.res fun rs=>eU rs/\Q (yF rs)) by kernel_rfl)▸h)
end Go.Ax.dR
