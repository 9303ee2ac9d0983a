/- Part 6 of the proof: LmW. -/
import Derived.Test.YtamgnhdbeecapaaCm4
import Derived.Test.YtamgnhdbeecapaaCm5
import Derived.KernelRfl
set_option linter.unusedSimpArgs false
set_option linter.unusedVariables false
set_option maxRecDepth 100000
namespace Go.Ax.ek
open Go Go.Ax Go.Ax.V
def gd (a:TV) (x:Bool) (b:TV) (y:Bool):Prop:=(a,x)=((b,y):TV×Bool)
abbrev eS {α:Type} (x:Option α) (k:α->Prop):Prop:=∃v,x=some v/\k v
abbrev eX (x i:TV) (n:Nat) (k:TV->Prop):Prop:=∃v,(D5 x i=some v/\lE n v)/\k v
abbrev gT (c:TV) (x:Option TV) (k:TV->Prop):Prop:=∃v,gV c true (fun r=>x=some r) v/\k v
abbrev gF (c:TV) (x:Option TV) (k:TV->Prop):Prop:=∃v,gV c false (fun r=>x=some r) v/\k v
abbrev dT (a:TV):Prop:=gd a true a true
abbrev dF (a:TV):Prop:=gd a false a false
abbrev eL (n:Nat) (k:Nat->Prop):Prop:=∃m,m < n/\k m
abbrev iI (n:Int):TV:=TV.i .i64 n
abbrev uC (x:TV) (i:Nat) (k:TV->Prop):Prop:=∃v,k4 (ej x i)=some v/\k v
abbrev lC (x:TV) (i:Nat) (k:TV->Prop):Prop:=∃v,zn x i none=some v/\k v
abbrev bI (p:BinOp) (x y:TV) (k:TV->Prop):Prop:=∃v,b7 p x y=some v/\k v
abbrev nL:TV:=TV.l []
abbrev bZ:TV:=TV.b false
abbrev bO:TV:=TV.b true
abbrev rR (Q:TV->Prop) (x:TV):Prop:=True/\lP [x]/\Q x
abbrev rQ (Q:TV->Prop) (x:TV):Prop:=lP [x]/\Q x
abbrev rF (Q:TV->Prop):Prop:=True/\lP [TV.b false]/\Q (TV.b false)
abbrev rT (Q:TV->Prop):Prop:=True/\lP [TV.b true]/\Q (TV.b true)
abbrev rP (Q:TV->Prop) (l:List TV):Prop:=lP l/\Q (TV.tp l)
abbrev cL (f:Nat) (l:List TV) (k:TV->Prop):Prop:=VS prog f l fun r=>qz true r/\k r
abbrev gC (c:TV) (b:Bool) (f:Nat) (l:List TV) (k:TV->Prop):Prop:=∃v,gV c b (fun r=>VS prog f l fun r'=>r'=r/\qz true r) v/\k v
abbrev pN (x:TV) (i:Nat) (k:TV->Prop):Prop:=∃v,bf x i 1 (TV.l [])=some v/\k v
abbrev pF (x y:TV) (k:TV->Prop):Prop:=∃v,fR x y (TV.b false)=some v/\k v
abbrev pT (x y:TV) (k:TV->Prop):Prop:=∃v,fR x (TV.b true) y=some v/\k v
abbrev nb (a j s n:Nat):Prop:=(Nat.beq a (j*s)&&Nat.beq n s)=true
abbrev aP (a j s n:Nat) (x:TV) (b:Nat) (l:List TV) (k:List TV->List TV->Prop):Prop:=nb a j s n/\lE n x/\∃u,oD (TV.l [x])=some u/\uR n u/\∃w,jT b l u=some w/\k u w
abbrev aI (x:TV) (n:Nat) (k:TV->Nat->Prop):Prop:=∃v,b7 .add x (iI 1)=some v/\∃m,m < n/\k v m
abbrev lN (x:TV) (k:TV->Prop):Prop:=∃v,Bl x=some v/\k v
abbrev gTu (c x:TV) (i:Nat) (k:TV->Prop):Prop:=∃v,gV c true (fun r=>k4 (ej x i)=some r) v/\k v
abbrev gFu (c x:TV) (i:Nat) (k:TV->Prop):Prop:=∃v,gV c false (fun r=>k4 (ej x i)=some r) v/\k v
abbrev Ty0:=Nat->TV->List TV->List TV->List TV->TV->List TV->List TV->TV->TV->TV->Prop
abbrev Ty1:=Nat->TV->TV->TV->TV->Prop
abbrev Ty2:=Nat->List TV->TV->TV->TV->Prop
abbrev Ty3:=Nat->TV->List TV->List TV->TV->TV->TV->TV->TV->TV->Prop
abbrev Ty4:=Nat->TV->TV->TV->TV->TV->Prop
abbrev Ty5:=Nat->TV->TV->TV->TV->TV->TV->TV->TV->TV->Prop
abbrev Ty6:=Nat->TV->List TV->TV->List TV->TV->TV->TV->Prop
abbrev Ty7:=Nat->TV->TV->TV->TV->TV->TV->TV->Prop
abbrev Ty8:=Nat->List TV->TV->TV->TV->TV->TV->Prop
abbrev Ty9:=Nat->List TV->TV->TV->TV->TV->Prop
def S4:TV:=TV.a [(TV.i .i64 0),(TV.i .i64 0),(TV.i .i64 0),(TV.i .i64 0),(TV.i .i64 0),(TV.l [])]
def TE:TV:=TV.a [(TV.l []),(TV.l []),(TV.i .i64 0),(TV.i .i64 0)]
def Nm:TV:=TV.a [(TV.i .i64 0),(TV.i .i64 0),(TV.i .i64 0),(TV.i .i64 0),(TV.i .i64 0),(TV.i .i64 0),(TV.i .i64 0),(TV.l []),(TV.i .i64 0),(TV.i .i64 0),(TV.i .i64 0),(TV.i .i64 0),(TV.l []),(TV.i .i64 0),(TV.i .i64 0),(TV.i .i64 0),(TV.l []),(TV.l []),(TV.l []),(TV.l [])]
def QA:TV:=TV.a [(TV.i .i64 0),(TV.i .i64 0),(TV.i .i64 0),(TV.l [])]
def Qq:TV:=TV.a [(TV.i .i64 0),(TV.i .i64 0),(TV.i .i64 0),(TV.i .i64 0),(TV.l []),(TV.i .i64 0),(TV.i .i64 0),(TV.i .i64 0),(TV.l [])]
def KI:TV:=TV.s tB0
def TD:TV:=TV.a [(TV.b false),(TV.b false),(TV.b false),(TV.b false)]
def Je:TV:=TV.a [(TV.i .i64 0),(TV.i .i64 0),(TV.i .i64 0),(TV.i .i64 0),(TV.i .i64 0),(TV.i .i64 0),(TV.i .i64 0),(TV.i .i64 0),(TV.i .i64 0),(TV.l []),(TV.i .i64 0),(TV.i .i64 0),(TV.i .i64 0),(TV.i .i64 0),(TV.l []),(TV.i .i64 0),(TV.i .i64 0),(TV.i .i64 0),(TV.l [])]
def TH:Map TC:=.node none (.node none (.node none (.node none (.node none (.node none (.node (some ⟨[.sl 1],.tr⟩) (.leaf) (.leaf)) (.leaf)) (.node none (.leaf) (.node (some ⟨[.ob [(1,19),(2,1)],.tr,.tr,.tr],.tr⟩) (.leaf) (.leaf)))) (.node none (.leaf) (.node none (.node (some ⟨[.sl 1,.tr,.tr,.tr],.tr⟩) (.leaf) (.leaf)) (.node (some ⟨[.sl 1,.tr,.tr,.tr],.tr⟩) (.leaf) (.leaf))))) (.node none (.node none (.leaf) (.node none (.leaf) (.node (some ⟨[.sl 1,.tr,.tr],.tr⟩) (.leaf) (.leaf)))) (.leaf))) (.node none (.node none (.node none (.leaf) (.node none (.leaf) (.node (some ⟨[.sl 1,.tr,.tr],.tr⟩) (.leaf) (.leaf)))) (.node none (.leaf) (.node none (.node none (.node (some ⟨[.sl 1,.tr,.ob []],.tr⟩) (.leaf) (.leaf)) (.leaf)) (.leaf)))) (.node none (.node none (.leaf) (.node none (.node (some ⟨[.ob [(1,19),(2,1)]],.tr⟩) (.leaf) (.leaf)) (.node (some ⟨[.sl 1,.tr,.tr],.tr⟩) (.leaf) (.leaf)))) (.leaf)))) (.node none (.node none (.node none (.node none (.leaf) (.node none (.leaf) (.node (some ⟨[.sl 1,.tr,.tr],.tr⟩) (.leaf) (.leaf)))) (.node none (.leaf) (.node none (.node none (.node (some ⟨[.ob []],.tr⟩) (.leaf) (.leaf)) (.leaf)) (.node (some ⟨[.sl 1,.tr,.tr,.tr],.tr⟩) (.leaf) (.leaf))))) (.node none (.node none (.leaf) (.node none (.node (some ⟨[.ob [(1,19),(2,1)],.tr],.tr⟩) (.leaf) (.leaf)) (.node (some ⟨[.sl 1,.tr,.tr],.tr⟩) (.leaf) (.leaf)))) (.node none (.node none (.leaf) (.node (some ⟨[.ob [(1,19),(2,1)],.tr,.tr,.tr,.tr],.tr⟩) (.leaf) (.leaf))) (.leaf)))) (.node none (.node none (.node none (.leaf) (.node none (.leaf) (.node (some ⟨[.sl 1,.tr,.tr],.tr⟩) (.leaf) (.leaf)))) (.node none (.leaf) (.node none (.node none (.node (some ⟨[.sl 1,.tr,.tr,.tr,.ob []],.tr⟩) (.leaf) (.leaf)) (.leaf)) (.leaf)))) (.node none (.node none (.leaf) (.node none (.node (some ⟨[.ob [(1,19),(2,1)],.tr,.tr,.tr],.tr⟩) (.node (some ⟨[.sl 1,.tr,.tr,.tr],.tr⟩) (.leaf) (.leaf)) (.leaf)) (.leaf))) (.node none (.node none (.leaf) (.node (some ⟨[.ob [(1,19),(2,1)],.tr,.tr,.tr],.tr⟩) (.leaf) (.leaf))) (.node (some ⟨[.ob [(1,19),(2,1)],.tr,.tr,.tr],.tr⟩) (.leaf) (.leaf))))))
noncomputable def N_:Sh:=⟨fun f=>TH.get f,BI prog,fun _=>none,fun _=>[],fun _=>0,fun _=>[],fun f=>false⟩
theorem Si:uw prog N_:=⟨rfl,fun f T h=>by cases h⟩
noncomputable abbrev sh:Sh:=N_
theorem fm:uw prog sh:=Si
theorem vq {f:Nat} {ts:List TV} {Q:TV->Prop} {P:Prop} {sh:Sh} (af:ak) (vc:bh) (hsh:uw prog sh) (h:P) (a:(prog.get f,vc.ok,ts.length)=(some af,true,af.params)) (c:vc.code=af.body) (e:P=Pd sh prog af vc ts Q):VS prog f ts Q:=No (congrArg (·.1) a) c (congrArg (·.2.1) a) (congrArg (·.2.2) a) hsh (e▸h)
def Nk (Q:TV->List TV->List TV->TV->Prop) (x0:TV) (x1:List TV) (x2:List TV) (x3:TV) (x4:TV) (x5:TV):Prop:=BI prog 62 4 (oH [.ob [(1,19),(2,1)],.tr,.tr,.tr] 0) (en 4 (.tr) [.ob [(1,19),(2,1)],.tr,.tr,.tr] 0) Q x0 x1 x2 x3 x4 x5
def SZ (Q:List TV->TV->Prop) (x0:List TV):Prop:=BI prog 63 1 (oH [.sl 1] 0) (en 1 (.tr) [.sl 1] 0) Q x0
def I5 (Q:TV->List TV->List TV->TV->Prop) (x0:TV) (x1:List TV) (x2:List TV) (x3:TV):Prop:=BI prog 84 2 (oH [.ob [(1,19),(2,1)],.tr] 0) (en 2 (.tr) [.ob [(1,19),(2,1)],.tr] 0) Q x0 x1 x2 x3
def Nj (Q:TV->List TV->List TV->TV->Prop) (x0:TV) (x1:List TV) (x2:List TV):Prop:=BI prog 85 1 (oH [.ob [(1,19),(2,1)]] 0) (en 1 (.tr) [.ob [(1,19),(2,1)]] 0) Q x0 x1 x2
def Qy (Q:TV->List TV->List TV->TV->Prop) (x0:TV) (x1:List TV) (x2:List TV) (x3:TV) (x4:TV) (x5:TV):Prop:=BI prog 86 4 (oH [.ob [(1,19),(2,1)],.tr,.tr,.tr] 0) (en 4 (.tr) [.ob [(1,19),(2,1)],.tr,.tr,.tr] 0) Q x0 x1 x2 x3 x4 x5
def BQ (Q:List TV->TV->Prop) (x0:List TV) (x1:TV) (x2:TV) (x3:TV):Prop:=BI prog 87 4 (oH [.sl 1,.tr,.tr,.tr] 0) (en 4 (.tr) [.sl 1,.tr,.tr,.tr] 0) Q x0 x1 x2 x3
def KF (Q:TV->List TV->List TV->TV->Prop) (x0:TV) (x1:List TV) (x2:List TV) (x3:TV) (x4:TV) (x5:TV) (x6:TV):Prop:=BI prog 108 5 (oH [.ob [(1,19),(2,1)],.tr,.tr,.tr,.tr] 0) (en 5 (.tr) [.ob [(1,19),(2,1)],.tr,.tr,.tr,.tr] 0) Q x0 x1 x2 x3 x4 x5 x6
def M7 (Q:TV->List TV->List TV->TV->Prop) (x0:TV) (x1:List TV) (x2:List TV) (x3:TV) (x4:TV) (x5:TV):Prop:=BI prog 110 4 (oH [.ob [(1,19),(2,1)],.tr,.tr,.tr] 0) (en 4 (.tr) [.ob [(1,19),(2,1)],.tr,.tr,.tr] 0) Q x0 x1 x2 x3 x4 x5
def M6 (Q:TV->List TV->List TV->TV->Prop) (x0:TV) (x1:List TV) (x2:List TV) (x3:TV) (x4:TV) (x5:TV):Prop:=BI prog 111 4 (oH [.ob [(1,19),(2,1)],.tr,.tr,.tr] 0) (en 4 (.tr) [.ob [(1,19),(2,1)],.tr,.tr,.tr] 0) Q x0 x1 x2 x3 x4 x5
def Qn (Q:List TV->TV->Prop) (x0:List TV) (x1:TV) (x2:TV):Prop:=BI prog 112 3 (oH [.sl 1,.tr,.tr] 0) (en 3 (.tr) [.sl 1,.tr,.tr] 0) Q x0 x1 x2
def S1 (Q:List TV->TV->Prop) (x0:List TV) (x1:TV) (x2:TV):Prop:=BI prog 113 3 (oH [.sl 1,.tr,.tr] 0) (en 3 (.tr) [.sl 1,.tr,.tr] 0) Q x0 x1 x2
def S0 (Q:List TV->TV->Prop) (x0:List TV) (x1:TV) (x2:TV):Prop:=BI prog 114 3 (oH [.sl 1,.tr,.tr] 0) (en 3 (.tr) [.sl 1,.tr,.tr] 0) Q x0 x1 x2
def Qm (Q:List TV->TV->Prop) (x0:List TV) (x1:TV) (x2:TV):Prop:=BI prog 115 3 (oH [.sl 1,.tr,.tr] 0) (en 3 (.tr) [.sl 1,.tr,.tr] 0) Q x0 x1 x2
def Ql (Q:List TV->TV->Prop) (x0:List TV) (x1:TV) (x2:TV):Prop:=BI prog 116 3 (oH [.sl 1,.tr,.tr] 0) (en 3 (.tr) [.sl 1,.tr,.tr] 0) Q x0 x1 x2
def KE (Q:List TV->TV->Prop) (x0:List TV) (x1:TV) (x2:TV):Prop:=BI prog 117 3 (oH [.sl 1,.tr,.tr] 0) (en 3 (.tr) [.sl 1,.tr,.tr] 0) Q x0 x1 x2
def Dh (Q:List TV->TV->Prop) (x0:List TV) (x1:TV) (x2:TV) (x3:TV):Prop:=BI prog 119 4 (oH [.sl 1,.tr,.tr,.tr] 0) (en 4 (.tr) [.sl 1,.tr,.tr,.tr] 0) Q x0 x1 x2 x3
def Dg (Q:List TV->TV->Prop) (x0:List TV) (x1:TV) (x2:TV) (x3:TV):Prop:=BI prog 120 4 (oH [.sl 1,.tr,.tr,.tr] 0) (en 4 (.tr) [.sl 1,.tr,.tr,.tr] 0) Q x0 x1 x2 x3
def TA (a0:TV) (Q:TV->Prop):Prop:=
 TV.gw a0=false/\eS (b9 a0 0 2) fun aA=>cL 60 [aA] fun bA=>eS (v_ .not bA) fun cA=>aW cA (eS (bf (TV.a [nL,nL,nL]) 0 3 (TV.a [nL,nL,nL])) fun dA=>True/\eS (b9 dA 0 3) fun eA=>pN eA 2 fun fA=>pN fA 1 fun hA=>pN hA 0 fun iA=>rP Q [iA,(iI 1)]) (uC a0 0 fun jA=>cL 61 [jA] fun kA=>eS (bf (TV.a [nL,nL,nL]) 0 1 kA) fun mA=>eS (bf (TV.a [nL,nL,nL]) 0 3 mA) fun nA=>uC a0 1 fun pA=>lN pA fun qA=>∃rA:Ty0,(∃sA,rA sA (TV.a [nL,nL,nL]) [] [] [] nA [] [] pA qA (iI 0))/\∀sA tA uA vA wA xA yA zA aB bB cB,rA sA tA uA vA wA xA yA zA aB bB cB->bI .lss cB bB fun dB=>aW dB (eX aB cB 2 fun eB=>eS (zn eB 0 (some 2)) fun fB=>eS (bf (TV.a [(iI 0),nL]) 0 2 fB) fun hB=>eS (bf (TV.a [(iI 0),nL,nL]) 0 1 (iI 2)) fun iB=>eS (bf (TV.a [(iI 0),nL,nL]) 0 3 iB) fun jB=>uC hB 1 fun kB=>Nk (fun (mB:TV) (nB:List TV) (pB:List TV) (qB:TV)=>eS (some (TV.i .i64 (List.length nB))) fun rB=>bI .gtr rB (iI 400) fun sB=>aW sB (eS (bf tA 0 3 (TV.a [nL,nL,nL])) fun tB=>True/\eS (b9 tB 0 3) fun uB=>pN uB 2 fun vB=>pN vB 1 fun wB=>pN wB 0 fun xB=>rP Q [xB,(iI 10)]) (SZ (fun (yB:List TV) (zB:TV)=>eS (b9 mB 0 3) fun aC=>nb 0 0 3 3/\true=true/\eS (bf aC 2 1 (TV.l yB)) fun bC=>eS (bf bC 1 1 (TV.l nB)) fun cC=>lE 3 cC/\eS (oD (TV.l [cC])) fun dC=>uR 3 dC/\eS (jT 56 yA dC) fun fC=>uC hB 0 fun hC=>aP 0 0 1 1 hC 8 zA fun iC jC=>pN xA 1 fun kC=>pN kC 2 fun mC=>aI cB sA fun nC pC=>rA pC tA uA vA wA mC fC jC aB bB nC) pB)) jB [] [] kB (iI 0) (iI 1)) (eS (b9 xA 0 3) fun qC=>eS (bf tA 0 3 qC) fun rC=>True/\eS (b9 rC 0 3) fun sC=>eS (bf sC 2 1 (TV.l zA)) fun tC=>eS (bf tC 1 1 (TV.l yA)) fun vC=>rP Q [vC,(iI 0)]))
theorem QT (a0:TV) (Q:TV->Prop) (h:TA a0 Q):VS prog 43 [a0] Q:=vq (sh:=sh) SX Th fm h (by kernel_rfl) rfl (by kernel_rfl)
def TB (a0:TV) (Q:TV->Prop):Prop:=
 bI .eql a0 (iI 1) fun aA=>aW aA (rR Q (iI 2)) (bI .eql a0 (iI 2) fun bA=>aW bA (rR Q (iI 1)) (bI .eql a0 (iI 3) fun cA=>aW cA (rR Q (iI 6)) (bI .eql a0 (iI 4) fun dA=>aW dA (rR Q (iI 5)) (bI .eql a0 (iI 5) fun eA=>aW eA (rR Q (iI 4)) (bI .eql a0 (iI 6) fun fA=>aW fA (rR Q (iI 3)) (rR Q (iI 0)))))))
theorem QU (a0:TV) (Q:TV->Prop) (h:TB a0 Q):VS prog 41 [a0] Q:=vq (sh:=sh) SY Ti fm h (by kernel_rfl) rfl (by kernel_rfl)
def Ty (a0:TV) (Q:TV->Prop):Prop:=
 TV.gw a0=false/\uC a0 0 fun aA=>lN aA fun bA=>bI .gtr bA (iI 4) fun cA=>dF cA/\gFu cA a0 1 fun dA=>gF cA (Bl dA) fun eA=>gC cA false 81 [eA,(iI 1),(iI 4)] fun fA=>gF cA (v_ .not fA) fun hA=>pT cA hA fun iA=>aW iA (rF Q) (uC a0 0 fun jA=>lN jA fun kA=>∃mA:Ty1,(∃nA,mA nA a0 jA kA (iI 0))/\∀nA pA qA rA sA,mA nA pA qA rA sA->bI .lss sA rA fun tA=>aW tA (eX qA sA 6 fun uA=>eS (zn uA 0 (some 6)) fun vA=>eS (bf S4 0 6 vA) fun wA=>eS (b9 wA 0 6) fun xA=>uC pA 1 fun yA=>lN yA fun zA=>cL 82 [xA,zA] fun aB=>eS (v_ .not aB) fun bB=>aW bB (rF Q) (aI sA nA fun cB dB=>mA dB pA qA rA cB)) (uC pA 1 fun eB=>lN eB fun fB=>∃hB:Ty1,(∃iB,hB iB pA eB fB (iI 0))/\∀iB jB kB mB nB,hB iB jB kB mB nB->bI .lss nB mB fun pB=>aW pB (eX kB nB 2 fun qB=>eS (zn qB 0 (some 2)) fun rB=>eS (bf (TV.a [(iI 0),nL]) 0 2 rB) fun sB=>uC sB 0 fun tB=>cL 81 [tB,(iI 0),(iI 6)] fun uB=>eS (v_ .not uB) fun vB=>gF vB (b9 jB 0 2) fun wB=>gF vB (some nB) fun xB=>dF vB/\gFu vB sB 0 fun yB=>gF vB (u6 [(0,2,wB),(2,1,xB),(3,1,yB)] TE) fun zB=>dF vB/\gFu vB sB 1 fun aC=>gC vB false 83 [zB,aC] fun bC=>gF vB (v_ .not bC) fun cC=>pT vB cC fun dC=>aW dC (rF Q) (aI nB iB fun fC hC=>hB hC jB kB mB fC)) (rT Q)))
theorem QO (a0:TV) (Q:TV->Prop) (h:Ty a0 Q):VS prog 60 [a0] Q:=vq (sh:=sh) SV Tf fm h (by kernel_rfl) rfl (by kernel_rfl)
def Tx (a0:TV) (Q:TV->Prop):Prop:=
 lN a0 fun aA=>∃bA:Ty2,(∃cA,bA cA [] a0 aA (iI 0))/\∀cA dA eA fA hA,bA cA dA eA fA hA->bI .lss hA fA fun iA=>aW iA (eX eA hA 6 fun jA=>eS (zn jA 0 (some 6)) fun kA=>eS (bf S4 0 6 kA) fun mA=>uC mA 5 fun nA=>pN mA 5 fun pA=>lN nA fun qA=>∃rA:Ty3,(∃sA,rA sA pA [] dA eA fA hA nA qA (iI 0))/\∀sA tA uA vA wA xA yA zA aB bB,rA sA tA uA vA wA xA yA zA aB bB->bI .lss bB aB fun cB=>aW cB (eX zA bB 1 fun dB=>lC dB 0 fun eB=>cL 56 [eB] fun fB=>aP 0 0 1 1 fB 24 uA fun hB iB=>pN tA 5 fun jB=>aI bB sA fun kB mB=>rA mB jB iB vA wA xA yA zA aB kB) (eS (b9 tA 0 6) fun nB=>nb 0 0 6 6/\true=true/\eS (bf nB 5 1 (TV.l uA)) fun pB=>lE 6 pB/\eS (oD (TV.l [pB])) fun qB=>uR 6 qB/\eS (jT 64 vA qB) fun rB=>aI yA cA fun sB tB=>bA tB rB wA xA sB)) (rR Q (TV.l dA))
theorem QN (a0:TV) (Q:TV->Prop) (h:Tx a0 Q):VS prog 61 [a0] Q:=vq (sh:=sh) SU Te fm h (by kernel_rfl) rfl (by kernel_rfl)
def Tw (a0 a1 a2:TV) (Q:TV->Prop):Prop:=
 bI .geq a0 a1 fun aA=>gT aA (some a0) fun bA=>gT aA (some a2) fun cA=>gT aA (b7 .leq bA cA) fun dA=>pF aA dA fun eA=>rR Q eA
theorem QM (a0 a1 a2:TV) (Q:TV->Prop) (h:Tw a0 a1 a2 Q):VS prog 81 [a0,a1,a2] Q:=vq (sh:=sh) SQ Tb fm h (by kernel_rfl) rfl (by kernel_rfl)
def Tv (a0 a1:TV) (Q:TV->Prop):Prop:=
 TV.gw a0=false/\uC a0 0 fun aA=>cL 81 [aA,(iI 0),(iI 2)] fun bA=>dT bA/\gTu bA a0 1 fun cA=>gC bA true 81 [cA,(iI 1),(iI 16)] fun dA=>pF bA dA fun eA=>dT eA/\gTu eA a0 4 fun fA=>gC eA true 81 [fA,(iI 1),(iI 4)] fun hA=>pF eA hA fun iA=>dT iA/\gTu iA a0 2 fun jA=>gT iA (some a1) fun kA=>gT iA (b7 .sub kA (iI 1)) fun mA=>gC iA true 81 [jA,(iI 0),mA] fun nA=>pF iA nA fun pA=>dT pA/\gTu pA a0 3 fun qA=>gT pA (some a1) fun rA=>gT pA (b7 .sub rA (iI 1)) fun sA=>gC pA true 81 [qA,(iI 0),sA] fun tA=>pF pA tA fun uA=>dT uA/\gTu uA a0 2 fun vA=>dT uA/\gTu uA a0 3 fun wA=>gT uA (b7 .neq vA wA) fun xA=>pF uA xA fun yA=>gT yA (b9 a0 0 6) fun zA=>gC yA true 104 [zA] fun aB=>pF yA aB fun bB=>rR Q bB
theorem QL (a0 a1:TV) (Q:TV->Prop) (h:Tv a0 a1 Q):VS prog 82 [a0,a1] Q:=vq (sh:=sh) SP Ta fm h (by kernel_rfl) rfl (by kernel_rfl)
def Tu (a0 a1:TV) (Q:TV->Prop):Prop:=
 TV.gw a0=false/\lN a1 fun aA=>∃bA:Ty1,(∃cA,bA cA a0 a1 aA (iI 0))/\∀cA dA eA fA hA,bA cA dA eA fA hA->bI .lss hA fA fun iA=>aW iA (eX eA hA 20 fun jA=>eS (zn jA 0 (some 20)) fun kA=>eS (bf Nm 0 20 kA) fun mA=>eS (b9 dA 0 4) fun nA=>eS (b9 mA 0 20) fun pA=>cL 105 [nA,pA] fun qA=>eS (v_ .not qA) fun rA=>aW rA (rF Q) (aI hA cA fun sA tA=>bA tA dA eA fA sA)) (rT Q)
theorem QK (a0 a1:TV) (Q:TV->Prop) (h:Tu a0 a1 Q):VS prog 83 [a0,a1] Q:=vq (sh:=sh) SO S_ fm h (by kernel_rfl) rfl (by kernel_rfl)
def Tt (a0:TV) (Q:TV->Prop):Prop:=
 aW bZ (eS (gy .u32 a0) fun aA=>cL 121 [aA] fun bA=>rR Q bA) (cL 122 [a0] fun cA=>rR Q cA)
theorem QJ (a0:TV) (Q:TV->Prop) (h:Tt a0 Q):VS prog 88 [a0] Q:=vq (sh:=sh) SJ S5 fm h (by kernel_rfl) rfl (by kernel_rfl)
def Qh (a0:TV) (Q:TV->Prop):Prop:=
 TV.gw a0=false/\uC a0 5 fun aA=>lN aA fun bA=>∃cA:Ty4,(∃dA,cA dA a0 (iI 0) aA bA (iI 0))/\∀dA eA fA hA iA jA,cA dA eA fA hA iA jA->bI .lss jA iA fun kA=>aW kA (eX hA jA 1 fun mA=>lC mA 0 fun nA=>lN nA fun pA=>uC eA 4 fun qA=>bI .neq pA qA fun rA=>aW rA (rF Q) (lN nA fun sA=>∃tA:Ty5,(∃uA,tA uA eA fA jA hA iA jA nA sA (iI 0))/\∀uA vA wA xA yA zA aB bB cB dB,tA uA vA wA xA yA zA aB bB cB dB->bI .lss dB cB fun eB=>aW eB (eX bB dB 1 fun fB=>lC fB 0 fun hB=>uC vA 5 fun iB=>lN iB fun jB=>bI .sub jB (iI 1) fun kB=>cL 81 [hB,(TV.i .i64 (-1)),kB] fun mB=>eS (v_ .not mB) fun nB=>aW nB (rF Q) (eS (b7 .neq hB (TV.i .i64 (-1))) fun pB=>aW pB (eS (HR true [wA,xA,hB]) fun qB=>aI dB uA fun rB sB=>tA sB vA qB xA yA zA aB bB cB rB) (aI dB uA fun tB sB=>tA sB vA wA xA yA zA aB bB cB tB))) (aI aB dA fun uB vB=>cA vB vA wA yA zA uB))) (uC eA 5 fun wB=>lN wB fun xB=>bI .eql xB (iI 0) fun yB=>gF yB (some fA) fun zB=>dF yB/\gFu yB eA 5 fun aC=>gF yB (Bl aC) fun bC=>gF yB (b7 .sub bC (iI 1)) fun cC=>gF yB (b7 .eql zB cC) fun dC=>gF yB (some dC) fun fC=>dT fC/\gTu fC eA 5 fun hC=>gT fC (Bl hC) fun iC=>gT fC (b7 .leq iC (iI 8)) fun jC=>gF yB (fR fC jC bZ) fun kC=>pT yB kC fun mC=>rR Q mC)
theorem NF (a0:TV) (Q:TV->Prop) (h:Qh a0 Q):VS prog 104 [a0] Q:=vq (sh:=sh) MV N1 fm h (by kernel_rfl) rfl (by kernel_rfl)
def Qg (a0 a1:TV) (Q:TV->Prop):Prop:=
 TV.gw a0=false/\TV.gw a1=false/\eS (b9 a1 4 4) fun aA=>cL 141 [aA] fun bA=>eS (b9 a1 8 9) fun cA=>cL 142 [cA] fun dA=>uC a1 17 fun eA=>lN eA fun fA=>bI .eql fA (iI 0) fun hA=>uC a1 19 fun iA=>lN iA fun jA=>bI .eql jA (iI 0) fun kA=>uC a1 18 fun mA=>lN mA fun nA=>bI .eql nA (iI 0) fun pA=>uC a1 1 fun qA=>bI .eql qA (iI 0) fun rA=>uC a1 2 fun sA=>bI .eql sA (iI 0) fun tA=>dT tA/\gTu tA a1 3 fun uA=>gT tA (b7 .eql uA (iI 0)) fun vA=>pF tA vA fun wA=>uC a1 0 fun xA=>bI .eql xA (iI 1) fun yA=>aW yA (gT dA (some hA) fun zA=>pF dA zA fun aB=>gT aB (some pA) fun bB=>pF aB bB fun cB=>gT cB (some kA) fun dB=>pF cB dB fun eB=>gT eB (some wA) fun fB=>pF eB fB fun hB=>dT hB/\gTu hB a1 1 fun iB=>dT hB/\gTu hB a0 3 fun jB=>gT hB (b7 .sub jB (iI 1)) fun kB=>gC hB true 81 [iB,(iI 0),kB] fun mB=>pF hB mB fun nB=>dT nB/\gT nB (b9 a1 4 4) fun pB=>dT nB/\gTu nB a0 3 fun qB=>gC nB true 143 [pB,qB] fun rB=>pF nB rB fun sB=>rR Q sB) (bI .eql xA (iI 7) fun tB=>aW tB (gT bA (some dA) fun uB=>pF bA uB fun vB=>gT vB (some hA) fun wB=>pF vB wB fun xB=>gT xB (some pA) fun yB=>pF xB yB fun zB=>gT zB (some kA) fun aC=>pF zB aC fun bC=>gT bC (some wA) fun cC=>pF bC cC fun dC=>dT dC/\gTu dC a1 1 fun fC=>dT dC/\gTu dC a0 3 fun hC=>gT dC (b7 .sub hC (iI 1)) fun iC=>gC dC true 81 [fC,(iI 0),iC] fun jC=>pF dC jC fun kC=>rR Q kC) (bI .eql xA (iI 6) fun mC=>aW mC (gT bA (some hA) fun nC=>pF bA nC fun pC=>gT pC (some pA) fun qC=>pF pC qC fun rC=>gT rC (some kA) fun sC=>pF rC sC fun tC=>gT tC (some wA) fun vC=>pF tC vC fun wC=>gT wC (some rA) fun xC=>pF wC xC fun yC=>dT yC/\gT yC (b9 a1 8 9) fun zC=>dT yC/\gTu yC a0 3 fun aD=>gC yC true 144 [zC,aD] fun bD=>pF yC bD fun cD=>rR Q cD) (bI .eql xA (iI 3) fun dD=>aW dD (gT bA (some pA) fun eD=>pF bA eD fun fD=>gT fD (some kA) fun hD=>pF fD hD fun iD=>gT iD (some wA) fun jD=>pF iD jD fun kD=>gT kD (some rA) fun mD=>pF kD mD fun nD=>dT nD/\gT nD (b9 a1 8 9) fun pD=>dT nD/\gTu nD a0 3 fun qD=>gC nD true 144 [pD,qD] fun rD=>pF nD rD fun sD=>gT sD (b9 a0 0 4) fun tD=>dT sD/\gTu sD a1 17 fun uD=>gC sD true 83 [tD,uD] fun vD=>pF sD vD fun wD=>rR Q wD) (bI .eql xA (iI 2) fun xD=>aW xD (gT bA (some kA) fun yD=>pF bA yD fun zD=>gT zD (some wA) fun aE=>pF zD aE fun bE=>gT bE (some rA) fun cE=>pF bE cE fun dE=>dT dE/\gT dE (b9 a1 8 9) fun eE=>dT dE/\gTu dE a0 3 fun fE=>gC dE true 144 [eE,fE] fun hE=>pF dE hE fun iE=>gT iE (b9 a0 0 4) fun jE=>dT iE/\gTu iE a1 17 fun kE=>gC iE true 83 [jE,kE] fun mE=>pF iE mE fun nE=>gT nE (b9 a0 0 4) fun pE=>dT nE/\gTu nE a1 18 fun qE=>gC nE true 83 [pE,qE] fun rE=>pF nE rE fun sE=>rR Q sE) (bI .eql xA (iI 4) fun tE=>aW tE (gT dA (some hA) fun uE=>pF dA uE fun vE=>gT vE (some pA) fun wE=>pF vE wE fun xE=>gT xE (some kA) fun yE=>pF xE yE fun zE=>gT zE (some rA) fun aF=>pF zE aF fun bF=>gT bF (b9 a0 0 4) fun cF=>dT bF/\gTu bF a1 2 fun eF=>gC bF true 145 [cF,eF,(TV.f 146)] fun fF=>pF bF fF fun hF=>gT hF (b9 a0 0 4) fun iF=>dT hF/\gTu hF a1 2 fun jF=>dT hF/\gTu hF a1 3 fun kF=>gC hF true 147 [iF,jF,kF] fun mF=>pF hF mF fun nF=>dT nF/\gT nF (b9 a1 4 4) fun qF=>dT nF/\gTu nF a0 3 fun sF=>gC nF true 143 [qF,sF] fun tF=>pF nF tF fun uF=>rR Q uF) (bI .eql xA (iI 5) fun vF=>aW vF (gT bA (some dA) fun wF=>pF bA wF fun xF=>gT xF (some hA) fun yF=>pF xF yF fun zF=>gT zF (some pA) fun aG=>pF zF aG fun bG=>gT bG (some rA) fun cG=>pF bG cG fun dG=>dT dG/\gTu dG a1 3 fun eG=>gT dG (b7 .eql eG (iI 0)) fun fG=>pF dG fG fun hG=>gT hG (b9 a0 0 4) fun iG=>dT hG/\gTu hG a1 2 fun jG=>gC hG true 145 [iG,jG,(TV.f 148)] fun kG=>pF hG kG fun mG=>gT mG (b9 a0 0 4) fun nG=>dT mG/\gTu mG a1 2 fun pG=>dT mG/\gTu mG a1 19 fun qG=>gC mG true 149 [nG,pG,qG] fun rG=>pF mG rG fun sG=>rR Q sG) (rF Q)))))))
theorem ND (a0 a1:TV) (Q:TV->Prop) (h:Qg a0 a1 Q):VS prog 105 [a0,a1] Q:=vq (sh:=sh) MU N0 fm h (by kernel_rfl) rfl (by kernel_rfl)
def Qf (a0:TV) (Q:TV->Prop):Prop:=
 TV.gw a0=false/\uC a0 3 fun aA=>pN a0 3 fun bA=>lN aA fun cA=>∃dA:Ty6,(∃eA,dA eA bA [] QA [] aA cA (iI 0))/\∀eA fA hA iA jA kA mA nA,dA eA fA hA iA jA kA mA nA->bI .lss nA mA fun pA=>aW pA (eX kA nA 4 fun qA=>eS (zn qA 0 (some 4)) fun rA=>eS (bf QA 0 4 rA) fun sA=>eS (b9 sA 0 4) fun tA=>cL 106 [tA] fun uA=>aP 0 0 4 4 uA 48 hA fun vA wA=>pN fA 3 fun xA=>aI nA eA fun yA zA=>dA zA xA wA iA jA kA mA yA) (eS (b9 fA 0 4) fun aB=>eS (bf iA 0 4 aB) fun bB=>True/\eS (b9 bB 0 4) fun cB=>eS (bf cB 3 1 (TV.l hA)) fun dB=>rQ Q dB)
theorem NC (a0:TV) (Q:TV->Prop) (h:Qf a0 Q):VS prog 106 [a0] Q:=vq (sh:=sh) MT NZ fm h (by kernel_rfl) rfl (by kernel_rfl)
def Qe (a0:TV) (Q:TV->Prop):Prop:=
 TV.gw a0=false/\uC a0 0 fun aA=>eS (b9 a0 1 4) fun bA=>cL 106 [bA] fun cA=>eS (b9 a0 5 4) fun dA=>cL 106 [dA] fun eA=>eS (bf Qq 0 1 aA) fun fA=>eS (bf fA 1 4 cA) fun hA=>eS (bf hA 5 4 eA) fun iA=>eS (bf Qq 0 9 iA) fun jA=>True/\eS (b9 jA 0 9) fun kA=>rQ Q kA
theorem NB (a0:TV) (Q:TV->Prop) (h:Qe a0 Q):VS prog 107 [a0] Q:=vq (sh:=sh) MS NY fm h (by kernel_rfl) rfl (by kernel_rfl)
def Qd (a0:TV) (Q:TV->Prop):Prop:=
 TV.gw a0=false/\eS (b9 a0 0 9) fun aA=>cL 107 [aA] fun bA=>eS (bf Qq 0 9 bA) fun cA=>uC a0 0 fun dA=>cL 41 [dA] fun eA=>eS (bf cA 0 1 eA) fun fA=>eS (b9 fA 0 9) fun hA=>eS (bf Qq 0 9 hA) fun iA=>True/\eS (b9 iA 0 9) fun jA=>rQ Q jA
theorem NA (a0:TV) (Q:TV->Prop) (h:Qd a0 Q):VS prog 109 [a0] Q:=vq (sh:=sh) MQ NW fm h (by kernel_rfl) rfl (by kernel_rfl)
def Tz (a0:TV) (Q:TV->Prop):Prop:=
 ∃aA:List TV,oD a0=some aA/\∀b2:Bool,(aA≠[]->b2=false)->aW (TV.b b2) (rR Q nL) (eS (oD a0) fun bA=>uR 1 bA/\eS (jT 8 [] bA) fun cA=>rR Q (TV.l cA))
theorem QS (a0:TV) (Q:TV->Prop) (h:Tz a0 Q):VS prog 56 [a0] Q:=vq (sh:=sh) SW Tg fm h (by kernel_rfl) rfl (by kernel_rfl)
def Qc (a0:TV) (Q:TV->Prop):Prop:=
 eS (b7 .geq a0 (TV.i .u64 4294967296)) fun aA=>aW aA (eS (b7 .shr a0 (TV.i .u64 32)) fun bA=>eS (b7 .geq bA (TV.i .u64 65536)) fun cA=>aW cA (eS (b7 .shr bA (TV.i .u64 16)) fun dA=>bI .add (iI 32) (iI 16) fun eA=>eS (b7 .geq dA (TV.i .u64 256)) fun fA=>aW fA (eS (b7 .shr dA (TV.i .u64 8)) fun hA=>bI .add eA (iI 8) fun iA=>eS (gy .u8 hA) fun jA=>eS (oK KI jA) fun kA=>eS (gy .i64 kA) fun mA=>bI .add iA mA fun nA=>rR Q nA) (eS (gy .u8 dA) fun pA=>eS (oK KI pA) fun qA=>eS (gy .i64 qA) fun rA=>bI .add eA rA fun sA=>rR Q sA)) (eS (b7 .geq bA (TV.i .u64 256)) fun tA=>aW tA (eS (b7 .shr bA (TV.i .u64 8)) fun uA=>bI .add (iI 32) (iI 8) fun vA=>eS (gy .u8 uA) fun wA=>eS (oK KI wA) fun xA=>eS (gy .i64 xA) fun yA=>bI .add vA yA fun zA=>rR Q zA) (eS (gy .u8 bA) fun aB=>eS (oK KI aB) fun bB=>eS (gy .i64 bB) fun cB=>bI .add (iI 32) cB fun dB=>rR Q dB))) (eS (b7 .geq a0 (TV.i .u64 65536)) fun eB=>aW eB (eS (b7 .shr a0 (TV.i .u64 16)) fun fB=>bI .add (iI 0) (iI 16) fun hB=>eS (b7 .geq fB (TV.i .u64 256)) fun iB=>aW iB (eS (b7 .shr fB (TV.i .u64 8)) fun jB=>bI .add hB (iI 8) fun kB=>eS (gy .u8 jB) fun mB=>eS (oK KI mB) fun nB=>eS (gy .i64 nB) fun pB=>bI .add kB pB fun qB=>rR Q qB) (eS (gy .u8 fB) fun rB=>eS (oK KI rB) fun sB=>eS (gy .i64 sB) fun tB=>bI .add hB tB fun uB=>rR Q uB)) (eS (b7 .geq a0 (TV.i .u64 256)) fun vB=>aW vB (eS (b7 .shr a0 (TV.i .u64 8)) fun wB=>bI .add (iI 0) (iI 8) fun xB=>eS (gy .u8 wB) fun yB=>eS (oK KI yB) fun zB=>eS (gy .i64 zB) fun aC=>bI .add xB aC fun bC=>rR Q bC) (eS (gy .u8 a0) fun cC=>eS (oK KI cC) fun dC=>eS (gy .i64 dC) fun fC=>bI .add (iI 0) fC fun hC=>rR Q hC)))
theorem Nz (a0:TV) (Q:TV->Prop) (h:Qc a0 Q):VS prog 122 [a0] Q:=vq (sh:=sh) MM NS fm h (by kernel_rfl) rfl (by kernel_rfl)
def Qb (a0:TV) (Q:TV->Prop):Prop:=
 TV.gw a0=false/\uC a0 0 fun aA=>bI .eql aA (iI 0) fun bA=>dT bA/\gTu bA a0 1 fun cA=>gT bA (b7 .eql cA (iI 0)) fun dA=>pF bA dA fun eA=>dT eA/\gTu eA a0 2 fun fA=>gT eA (b7 .eql fA (iI 0)) fun hA=>pF eA hA fun iA=>dT iA/\gTu iA a0 3 fun jA=>gT iA (Bl jA) fun kA=>gT iA (b7 .eql kA (iI 0)) fun mA=>pF iA mA fun nA=>rR Q nA
theorem Ny (a0:TV) (Q:TV->Prop) (h:Qb a0 Q):VS prog 141 [a0] Q:=vq (sh:=sh) ML NR fm h (by kernel_rfl) rfl (by kernel_rfl)
def Qa (a0:TV) (Q:TV->Prop):Prop:=
 TV.gw a0=false/\uC a0 0 fun aA=>bI .eql aA (iI 0) fun bA=>dT bA/\gT bA (b9 a0 1 4) fun cA=>gC bA true 141 [cA] fun dA=>pF bA dA fun eA=>dT eA/\gT eA (b9 a0 5 4) fun fA=>gC eA true 141 [fA] fun hA=>pF eA hA fun iA=>rR Q iA
theorem Nx (a0:TV) (Q:TV->Prop) (h:Qa a0 Q):VS prog 142 [a0] Q:=vq (sh:=sh) MK NQ fm h (by kernel_rfl) rfl (by kernel_rfl)
def P_ (a0 a1:TV) (Q:TV->Prop):Prop:=
 TV.gw a0=false/\uC a0 3 fun aA=>lN aA fun bA=>uC a0 0 fun cA=>cL 166 [cA] fun dA=>bI .neq bA dA fun eA=>aW eA (rF Q) (uC a0 0 fun fA=>bI .neq fA (iI 1) fun hA=>dT hA/\gTu hA a0 1 fun iA=>gT hA (b7 .neq iA (iI 0)) fun jA=>pF hA jA fun kA=>dF kA/\gFu kA a0 0 fun mA=>gF kA (b7 .neq mA (iI 2)) fun nA=>gF kA (some nA) fun pA=>dT pA/\gTu pA a0 2 fun qA=>gT pA (b7 .neq qA (iI 0)) fun rA=>gF kA (fR pA rA bZ) fun sA=>pT kA sA fun tA=>dF tA/\gFu tA a0 0 fun uA=>gF tA (b7 .eql uA (iI 2)) fun vA=>gF tA (some vA) fun wA=>dT wA/\gTu wA a0 2 fun xA=>gT wA (some a1) fun yA=>gT wA (b7 .sub yA (iI 1)) fun zA=>gC wA true 81 [xA,(iI 0),zA] fun aB=>gT wA (v_ .not aB) fun bB=>gF tA (fR wA bB bZ) fun cB=>pT tA cB fun dB=>aW dB (rF Q) (uC a0 3 fun eB=>lN eB fun fB=>∃hB:Ty4,(∃iB,hB iB a0 a1 eB fB (iI 0))/\∀iB jB kB mB nB pB,hB iB jB kB mB nB pB->bI .lss pB nB fun qB=>aW qB (eX mB pB 4 fun rB=>eS (zn rB 0 (some 4)) fun sB=>eS (bf QA 0 4 sB) fun tB=>eS (b9 tB 0 4) fun uB=>cL 143 [uB,kB] fun vB=>eS (v_ .not vB) fun wB=>aW wB (rF Q) (aI pB iB fun xB yB=>hB yB jB kB mB nB xB)) (uC jB 1 fun zB=>cL 81 [zB,(iI 0),(iI 2147483647)] fun aC=>rR Q aC)))
theorem Nw (a0 a1:TV) (Q:TV->Prop) (h:P_ a0 a1 Q):VS prog 143 [a0,a1] Q:=vq (sh:=sh) MJ NP fm h (by kernel_rfl) rfl (by kernel_rfl)
def P9 (a0 a1:TV) (Q:TV->Prop):Prop:=
 TV.gw a0=false/\uC a0 0 fun aA=>cL 81 [aA,(iI 1),(iI 6)] fun bA=>dT bA/\gT bA (b9 a0 1 4) fun cA=>gT bA (some a1) fun dA=>gC bA true 143 [cA,dA] fun eA=>pF bA eA fun fA=>dT fA/\gT fA (b9 a0 5 4) fun hA=>gT fA (some a1) fun iA=>gC fA true 143 [hA,iA] fun jA=>pF fA jA fun kA=>rR Q kA
theorem Nv (a0 a1:TV) (Q:TV->Prop) (h:P9 a0 a1 Q):VS prog 144 [a0,a1] Q:=vq (sh:=sh) MI NO fm h (by kernel_rfl) rfl (by kernel_rfl)
def P8 (a0 a1 a2:TV) (Q:TV->Prop):Prop:=
 TV.gw a0=false/\uC a0 0 fun aA=>lN aA fun bA=>bI .sub bA (iI 1) fun cA=>cL 81 [a1,(iI 0),cA] fun dA=>gT dA (some a2) fun eA=>dT dA/\dT dA/\gTu dA a0 0 fun fA=>gT dA (some a1) fun hA=>∃iA,gV dA true (fun r=>(D5 fA hA=some r/\lE 6 r)) iA/\dT dA/\gT dA (zn iA 0 (some 6)) fun jA=>∃kA,(dA=.b true->eA=.f kA)/\∃mA,gV dA true (fun r=>VS prog kA [jA] fun r'=>r'=r/\qz true r) mA/\dT dA/\gTu dA a0 2 fun nA=>gT dA (b7 .eql mA nA) fun pA=>pF dA pA fun qA=>rR Q qA
theorem Nu (a0 a1 a2:TV) (Q:TV->Prop) (h:P8 a0 a1 a2 Q):VS prog 145 [a0,a1,a2] Q:=vq (sh:=sh) MH NN fm h (by kernel_rfl) rfl (by kernel_rfl)
def P7 (a0:TV) (Q:TV->Prop):Prop:=
 TV.gw a0=false/\uC a0 2 fun aA=>rR Q aA
theorem Nt (a0:TV) (Q:TV->Prop) (h:P7 a0 Q):VS prog 146 [a0] Q:=vq (sh:=sh) MG NM fm h (by kernel_rfl) rfl (by kernel_rfl)
def P6 (a0 a1 a2:TV) (Q:TV->Prop):Prop:=
 TV.gw a0=false/\uC a0 0 fun aA=>eX aA a1 6 fun bA=>lC bA 4 fun cA=>bI .sub cA (iI 1) fun dA=>cL 81 [a2,(iI 0),dA] fun eA=>rR Q eA
theorem Ns (a0 a1 a2:TV) (Q:TV->Prop) (h:P6 a0 a1 a2 Q):VS prog 147 [a0,a1,a2] Q:=vq (sh:=sh) MF NL fm h (by kernel_rfl) rfl (by kernel_rfl)
def P5 (a0:TV) (Q:TV->Prop):Prop:=
 TV.gw a0=false/\uC a0 3 fun aA=>rR Q aA
theorem Nr (a0:TV) (Q:TV->Prop) (h:P5 a0 Q):VS prog 148 [a0] Q:=vq (sh:=sh) ME NK fm h (by kernel_rfl) rfl (by kernel_rfl)
def P4 (a0 a1 a2:TV) (Q:TV->Prop):Prop:=
 TV.gw a0=false/\lN a2 fun aA=>∃bA:Ty7,(∃cA,bA cA a0 TD a1 a2 a2 aA (iI 0))/\∀cA dA eA fA hA iA jA kA,bA cA dA eA fA hA iA jA kA->bI .lss kA jA fun mA=>aW mA (eX iA kA 3 fun nA=>eS (zn nA 0 (some 3)) fun pA=>eS (bf (TV.a [(iI 0),(iI 0),nL]) 0 3 pA) fun qA=>eS (b9 dA 0 4) fun rA=>uC qA 0 fun sA=>cL 147 [rA,fA,sA] fun tA=>eS (v_ .not tA) fun uA=>dF uA/\gFu uA qA 0 fun vA=>∃wA,(uA=.b false->lY vA 4=some wA)/\dF uA/\gF uA (zn eA (0+wA*1) none) fun xA=>pT uA xA fun yA=>dF yA/\gFu yA qA 1 fun zA=>dF yA/\gFu yA dA 3 fun aB=>gF yA (b7 .sub aB (iI 1)) fun bB=>gC yA false 81 [zA,(iI 0),bB] fun cB=>gF yA (v_ .not cB) fun dB=>pT yA dB fun eB=>gF eB (b9 dA 0 4) fun fB=>dF eB/\gFu eB qA 2 fun hB=>gC eB false 83 [fB,hB] fun iB=>gF eB (v_ .not iB) fun jB=>pT eB jB fun kB=>aW kB (rF Q) (uC qA 0 fun mB=>eS (lY mB 4) fun nB=>eS (bf eA (0+nB*1) 1 bO) fun pB=>aI kA cA fun qB rB=>bA rB dA pB fA hA iA jA qB)) (lN hA fun sB=>bI .gtr sB (iI 0) fun tB=>rR Q tB)
theorem Nq (a0 a1 a2:TV) (Q:TV->Prop) (h:P4 a0 a1 a2 Q):VS prog 149 [a0,a1,a2] Q:=vq (sh:=sh) MD NJ fm h (by kernel_rfl) rfl (by kernel_rfl)
def P3 (a0:TV) (Q:TV->Prop):Prop:=
 bI .eql a0 (iI 1) fun aA=>gF aA (some a0) fun bA=>gF aA (b7 .eql bA (iI 2)) fun cA=>pT aA cA fun dA=>aW dA (rR Q (iI 0)) (bI .eql a0 (iI 3) fun eA=>aW eA (rR Q (iI 1)) (cL 81 [a0,(iI 4),(iI 8)] fun fA=>aW fA (rR Q (iI 2)) (rR Q (TV.i .i64 (-1)))))
theorem Np (a0:TV) (Q:TV->Prop) (h:P3 a0 Q):VS prog 166 [a0] Q:=vq (sh:=sh) MC NI fm h (by kernel_rfl) rfl (by kernel_rfl)
def M3 (Q:TV->List TV->List TV->TV->Prop) (o0_:TV) (qq9:List TV) (qq8:List TV) (a1:TV) (a2:TV) (a3:TV):Prop:=
 lN a1 fun aA=>bI .eql aA (iI 0) fun bA=>aW bA (eS (bf Je 0 1 a2) fun cA=>eS (bf cA 1 1 a3) fun dA=>eS (kn [(9,VV.bX),(14,VV.bX),(18,VV.bX)] dA) fun eA=>I5 (fun (fA:TV) (hA:List TV) (iA:List TV) (jA:TV)=>True/\eg []/\Q fA hA iA (TV.tp [])) o0_ qq9 qq8 eA) (lN a1 fun kA=>bI .sub kA (iI 1) fun mA=>∃nA,(Qr a1 none (some mA)=some nA/\∀es,a1=.l es->uR 20 es)/\lN nA fun pA=>∃qA:Ty3,(∃rA,qA rA o0_ qq9 qq8 a1 a2 a3 nA pA (iI 0))/\∀rA sA tA uA vA wA xA yA zA aB,qA rA sA tA uA vA wA xA yA zA aB->bI .lss aB zA fun bB=>aW bB (eX yA aB 20 fun cB=>eS (zn cB 0 (some 20)) fun dB=>eS (bf Nm 0 20 dB) fun eB=>Nj (fun (fB:TV) (hB:List TV) (iB:List TV) (jB:TV)=>eS (b9 eB 0 20) fun kB=>Qy (fun (mB:TV) (nB:List TV) (pB:List TV) (qB:TV)=>aI aB rA fun rB sB=>qA sB mB nB pB vA jB xA yA zA rB) fB hB iB kB wA jB) sA tA uA) (lN vA fun tB=>bI .sub tB (iI 1) fun uB=>eX vA uB 20 fun vB=>eS (zn vB 0 (some 20)) fun wB=>Qy (fun (xB:TV) (yB:List TV) (zB:List TV) (aC:TV)=>True/\eg []/\Q xB yB zB (TV.tp [])) sA tA uA wB wA xA))
theorem Q_ (Q:TV->List TV->List TV->TV->Prop) (o0_:TV) (qq9:List TV) (qq8:List TV) (a1:TV) (a2:TV) (a3:TV) (h:M3 Q o0_ qq9 qq8 a1 a2 a3):Nk Q o0_ qq9 qq8 a1 a2 a3:=by
 refine lD (sh:=sh) (af:=SS) (vc:=Td) (p:=kept [.ob [(1,19),(2,1)],.tr,.tr,.tr]) (np:=4) (by kernel_rfl) (by kernel_rfl) (by kernel_rfl) (by kernel_rfl) (by kernel_rfl) fm ?_;refine Eq.mp (?_:M3 Q o0_ qq9 qq8 a1 a2 a3=_) h
 kernel_rfl
def M1 (Q:List TV->TV->Prop) (l0_:List TV):Prop:=
 eS (some (TV.i .i64 (List.length l0_))) fun aA=>eS (gy .u64 aA) fun bA=>cL 88 [bA] fun cA=>BQ (fun (dA:List TV) (eA:TV)=>True/\eg []/\Q dA (TV.tp [])) l0_ (iI 0) aA cA
theorem Q9 (Q:List TV->TV->Prop) (l0_:List TV) (h:M1 Q l0_):SZ Q l0_:=by
 refine lD (sh:=sh) (af:=SR) (vc:=Tc) (p:=kept [.sl 1]) (np:=1) (by kernel_rfl) (by kernel_rfl) (by kernel_rfl) (by kernel_rfl) (by kernel_rfl) fm ?_;refine Eq.mp (?_:M1 Q l0_=_) h
 kernel_rfl
def M0 (Q:TV->List TV->List TV->TV->Prop) (o0_:TV) (qq9:List TV) (qq8:List TV) (a1:TV):Prop:=
 TV.gw a1=false/\eS (b9 a1 0 19) fun aA=>aP 0 0 19 19 aA 200 qq9 fun bA cA=>pN o0_ 1 fun dA=>True/\eg []/\Q dA cA qq8 (TV.tp [])
theorem Q8 (Q:TV->List TV->List TV->TV->Prop) (o0_:TV) (qq9:List TV) (qq8:List TV) (a1:TV) (h:M0 Q o0_ qq9 qq8 a1):I5 Q o0_ qq9 qq8 a1:=by
 refine lD (sh:=sh) (af:=SN) (vc:=S9) (p:=kept [.ob [(1,19),(2,1)],.tr]) (np:=2) (by kernel_rfl) (by kernel_rfl) (by kernel_rfl) (by kernel_rfl) (by kernel_rfl) fm ?_;refine Eq.mp (?_:M0 Q o0_ qq9 qq8 a1=_) h
 kernel_rfl
def MZ (Q:TV->List TV->List TV->TV->Prop) (o0_:TV) (qq9:List TV) (qq8:List TV):Prop:=
 uC o0_ 0 fun aA=>bI .add aA (iI 1) fun bA=>eS (bf o0_ 0 1 bA) fun cA=>uC cA 0 fun dA=>bI .sub dA (iI 1) fun eA=>True/\Q cA qq9 qq8 eA
theorem Q7 (Q:TV->List TV->List TV->TV->Prop) (o0_:TV) (qq9:List TV) (qq8:List TV) (h:MZ Q o0_ qq9 qq8):Nj Q o0_ qq9 qq8:=by
 refine lD (sh:=sh) (af:=SM) (vc:=S8) (p:=kept [.ob [(1,19),(2,1)]]) (np:=1) (by kernel_rfl) (by kernel_rfl) (by kernel_rfl) (by kernel_rfl) (by kernel_rfl) fm ?_;refine Eq.mp (?_:MZ Q o0_ qq9 qq8=_) h
 kernel_rfl
def MY (Q:TV->List TV->List TV->TV->Prop) (o0_:TV) (qq9:List TV) (qq8:List TV) (a1:TV) (a2:TV) (a3:TV):Prop:=
 TV.gw a1=false/\uC a1 0 fun aA=>bI .eql aA (iI 1) fun bA=>aW bA (uC a1 1 fun cA=>eS (b9 a1 4 4) fun dA=>cL 106 [dA] fun eA=>eS (bf Je 0 1 a2) fun fA=>eS (bf fA 1 1 a3) fun hA=>eS (bf hA 2 1 (iI 1)) fun iA=>eS (bf iA 3 1 cA) fun jA=>eS (bf jA 6 4 eA) fun kA=>eS (kn [(14,VV.bX),(18,VV.bX)] kA) fun mA=>I5 (fun (nA:TV) (pA:List TV) (qA:List TV) (rA:TV)=>True/\eg []/\Q nA pA qA (TV.tp [])) o0_ qq9 qq8 mA) (bI .eql aA (iI 4) fun sA=>aW sA (uC a1 2 fun tA=>uC a1 3 fun uA=>eS (b9 a1 4 4) fun vA=>cL 106 [vA] fun wA=>eS (bf Je 0 1 a2) fun xA=>eS (bf xA 1 1 a3) fun yA=>eS (bf yA 2 1 (iI 3)) fun zA=>eS (bf zA 4 1 tA) fun aB=>eS (bf aB 5 1 uA) fun bB=>eS (bf bB 6 4 wA) fun cB=>eS (kn [(14,VV.bX),(18,VV.bX)] cB) fun dB=>I5 (fun (eB:TV) (fB:List TV) (hB:List TV) (iB:TV)=>True/\eg []/\Q eB fB hB (TV.tp [])) o0_ qq9 qq8 dB) (bI .eql aA (iI 6) fun jB=>aW jB (eS (b9 a1 8 9) fun kB=>cL 107 [kB] fun mB=>eS (bf Je 0 1 a2) fun nB=>eS (bf nB 1 1 a3) fun pB=>eS (bf pB 2 1 (iI 5)) fun qB=>eS (bf qB 10 9 mB) fun rB=>eS (kn [(9,VV.bX)] rB) fun sB=>I5 (fun (tB:TV) (uB:List TV) (vB:List TV) (wB:TV)=>True/\eg []/\Q tB uB vB (TV.tp [])) o0_ qq9 qq8 sB) (bI .eql aA (iI 7) fun xB=>aW xB (uC a1 1 fun yB=>eS (bf Je 0 1 a2) fun zB=>eS (bf zB 1 1 a3) fun aC=>eS (bf aC 2 1 (iI 6)) fun bC=>eS (bf bC 3 1 yB) fun cC=>eS (kn [(9,VV.bX),(14,VV.bX),(18,VV.bX)] cC) fun dC=>I5 (fun (fC:TV) (hC:List TV) (iC:List TV) (jC:TV)=>True/\eg []/\Q fC hC iC (TV.tp [])) o0_ qq9 qq8 dC) (bI .eql aA (iI 2) fun kC=>aW kC (eS (b9 a1 8 9) fun mC=>cL 107 [mC] fun nC=>uC a1 17 fun pC=>KF (fun (qC:TV) (rC:List TV) (sC:List TV) (tC:TV)=>eS (b9 a1 8 9) fun vC=>cL 109 [vC] fun wC=>uC a1 18 fun xC=>KF (fun (yC:TV) (zC:List TV) (aD:List TV) (bD:TV)=>True/\eg []/\Q yC zC aD (TV.tp [])) qC rC sC wC xC a2 a3) o0_ qq9 qq8 nC pC a2 a3) (bI .eql aA (iI 3) fun cD=>aW cD (eS (b9 a1 0 20) fun dD=>M7 (fun (eD:TV) (fD:List TV) (hD:List TV) (iD:TV)=>True/\eg []/\Q eD fD hD (TV.tp [])) o0_ qq9 qq8 dD a2 a3) (bI .eql aA (iI 5) fun jD=>aW jD (eS (b9 a1 0 20) fun kD=>M6 (fun (mD:TV) (nD:List TV) (pD:List TV) (qD:TV)=>True/\eg []/\Q mD nD pD (TV.tp [])) o0_ qq9 qq8 kD a2 a3) (True/\eg []/\Q o0_ qq9 qq8 (TV.tp []))))))))
theorem Q6 (Q:TV->List TV->List TV->TV->Prop) (o0_:TV) (qq9:List TV) (qq8:List TV) (a1:TV) (a2:TV) (a3:TV) (h:MY Q o0_ qq9 qq8 a1 a2 a3):Qy Q o0_ qq9 qq8 a1 a2 a3:=by
 refine lD (sh:=sh) (af:=SL) (vc:=S7) (p:=kept [.ob [(1,19),(2,1)],.tr,.tr,.tr]) (np:=4) (by kernel_rfl) (by kernel_rfl) (by kernel_rfl) (by kernel_rfl) (by kernel_rfl) fm ?_;refine Eq.mp (?_:MY Q o0_ qq9 qq8 a1 a2 a3=_) h
 kernel_rfl
def MX (Q:List TV->TV->Prop) (l0_:List TV) (a1:TV) (a2:TV) (a3:TV):Prop:=
 ∃aA:Ty8,(∃bA,aA bA l0_ a1 a2 a3 bO bO)/\∀bA cA dA eA fA hA iA,aA bA cA dA eA fA hA iA->bI .sub eA dA fun jA=>bI .leq jA (iI 12) fun kA=>aW kA (Qn (fun (mA:List TV) (nA:TV)=>True/\eg []/\Q mA (TV.tp [])) cA dA eA) (bI .eql fA (iI 0) fun pA=>aW pA (S1 (fun (qA:List TV) (rA:TV)=>True/\eg []/\Q qA (TV.tp [])) cA dA eA) (eS (v_ .not hA) fun sA=>aW sA (S0 (fun (tA:List TV) (uA:TV)=>bI .sub fA (iI 1) fun vA=>Qm (fun (wA:List TV) (xA:TV)=>eS (jw 0 xA) fun yA=>eS (jw 1 xA) fun zA=>bI .eql zA (iI 2) fun aB=>aW aB (Ql (fun (bB:List TV) (cB:TV)=>bI .sub eA (iI 1) fun dB=>bI .sub yA dA fun eB=>bI .sub dB eB fun fB=>gT hA (some iA) fun hB=>pF hA hB fun iB=>gT iB (some (iI 1)) fun jB=>gT iB (b7 .eql jB (iI 1)) fun kB=>pF iB kB fun mB=>aW mB (KE (fun (nB:List TV) (pB:TV)=>aW pB (True/\eg []/\Q nB (TV.tp [])) (bI .gtr dA (iI 0) fun qB=>gT qB (some dA) fun rB=>gT qB (b7 .sub rB (iI 1)) fun sB=>dT qB/\∃tB,(qB=.b true->lY sB (List.length nB)=some tB)/\dT qB/\gT qB (sS nB tB 0 none) fun uB=>gT qB (some fB) fun vB=>dT qB/\∃wB,(qB=.b true->lY vB (List.length nB)=some wB)/\dT qB/\gT qB (sS nB wB 0 none) fun xB=>gC qB true 118 [uB,xB] fun yB=>gT qB (v_ .not yB) fun zB=>pF qB zB fun aC=>aW aC (Dh (fun (bC:List TV) (cC:TV)=>eL bA fun dC=>aA dC bC cC eA vA hA iA) nB dA eA fB) (Dg (fun (fC:List TV) (hC:TV)=>eS (jw 0 hC) fun iC=>eS (jw 1 hC) fun jC=>bI .sub iC dA fun kC=>bI .sub eA iC fun mC=>bI .quo jA (iI 8) fun nC=>bI .lss kC mC fun pC=>aW pC (bI .geq kC nC fun qC=>BQ (fun (rC:List TV) (sC:TV)=>aI iC bA fun tC dC=>aA dC rC tC eA vA qC jC) fC dA iC vA) (bI .geq mC nC fun vC=>bI .add iC (iI 1) fun wC=>BQ (fun (xC:List TV) (yC:TV)=>eL bA fun dC=>aA dC xC dA iC vA vC jC) fC wC eA vA)) nB dA eA fB))) bB dA eA) (bI .gtr dA (iI 0) fun zC=>gT zC (some dA) fun aD=>gT zC (b7 .sub aD (iI 1)) fun bD=>dT zC/\∃cD,(zC=.b true->lY bD (List.length bB)=some cD)/\dT zC/\gT zC (sS bB cD 0 none) fun dD=>gT zC (some fB) fun eD=>dT zC/\∃fD,(zC=.b true->lY eD (List.length bB)=some fD)/\dT zC/\gT zC (sS bB fD 0 none) fun hD=>gC zC true 118 [dD,hD] fun iD=>gT zC (v_ .not iD) fun jD=>pF zC jD fun kD=>aW kD (Dh (fun (mD:List TV) (nD:TV)=>eL bA fun dC=>aA dC mD nD eA vA hA iA) bB dA eA fB) (Dg (fun (pD:List TV) (qD:TV)=>eS (jw 0 qD) fun rD=>eS (jw 1 qD) fun sD=>bI .sub rD dA fun tD=>bI .sub eA rD fun uD=>bI .quo jA (iI 8) fun vD=>bI .lss tD uD fun wD=>aW wD (bI .geq tD vD fun xD=>BQ (fun (yD:List TV) (zD:TV)=>aI rD bA fun aE dC=>aA dC yD aE eA vA xD sD) pD dA rD vA) (bI .geq uD vD fun bE=>bI .add rD (iI 1) fun cE=>BQ (fun (dE:List TV) (eE:TV)=>eL bA fun dC=>aA dC dE dA rD vA bE sD) pD cE eA vA)) bB dA eA fB))) wA dA eA) (gT hA (some iA) fun fE=>pF hA fE fun hE=>gT hE (some zA) fun iE=>gT hE (b7 .eql iE (iI 1)) fun jE=>pF hE jE fun kE=>aW kE (KE (fun (mE:List TV) (nE:TV)=>aW nE (True/\eg []/\Q mE (TV.tp [])) (bI .gtr dA (iI 0) fun pE=>gT pE (some dA) fun qE=>gT pE (b7 .sub qE (iI 1)) fun rE=>dT pE/\∃sE,(pE=.b true->lY rE (List.length mE)=some sE)/\dT pE/\gT pE (sS mE sE 0 none) fun tE=>gT pE (some yA) fun uE=>dT pE/\∃vE,(pE=.b true->lY uE (List.length mE)=some vE)/\dT pE/\gT pE (sS mE vE 0 none) fun wE=>gC pE true 118 [tE,wE] fun xE=>gT pE (v_ .not xE) fun yE=>pF pE yE fun zE=>aW zE (Dh (fun (aF:List TV) (bF:TV)=>eL bA fun dC=>aA dC aF bF eA vA hA iA) mE dA eA yA) (Dg (fun (cF:List TV) (eF:TV)=>eS (jw 0 eF) fun fF=>eS (jw 1 eF) fun hF=>bI .sub fF dA fun iF=>bI .sub eA fF fun jF=>bI .quo jA (iI 8) fun kF=>bI .lss iF jF fun mF=>aW mF (bI .geq iF kF fun nF=>BQ (fun (qF:List TV) (sF:TV)=>aI fF bA fun tF dC=>aA dC qF tF eA vA nF hF) cF dA fF vA) (bI .geq jF kF fun uF=>bI .add fF (iI 1) fun vF=>BQ (fun (wF:List TV) (xF:TV)=>eL bA fun dC=>aA dC wF dA fF vA uF hF) cF vF eA vA)) mE dA eA yA))) wA dA eA) (bI .gtr dA (iI 0) fun yF=>gT yF (some dA) fun zF=>gT yF (b7 .sub zF (iI 1)) fun aG=>dT yF/\∃bG,(yF=.b true->lY aG (List.length wA)=some bG)/\dT yF/\gT yF (sS wA bG 0 none) fun cG=>gT yF (some yA) fun dG=>dT yF/\∃eG,(yF=.b true->lY dG (List.length wA)=some eG)/\dT yF/\gT yF (sS wA eG 0 none) fun fG=>gC yF true 118 [cG,fG] fun hG=>gT yF (v_ .not hG) fun iG=>pF yF iG fun jG=>aW jG (Dh (fun (kG:List TV) (mG:TV)=>eL bA fun dC=>aA dC kG mG eA vA hA iA) wA dA eA yA) (Dg (fun (nG:List TV) (pG:TV)=>eS (jw 0 pG) fun qG=>eS (jw 1 pG) fun rG=>bI .sub qG dA fun sG=>bI .sub eA qG fun tG=>bI .quo jA (iI 8) fun uG=>bI .lss sG tG fun vG=>aW vG (bI .geq sG uG fun wG=>BQ (fun (xG:List TV) (yG:TV)=>aI qG bA fun zG dC=>aA dC xG zG eA vA wG rG) nG dA qG vA) (bI .geq tG uG fun aH=>bI .add qG (iI 1) fun bH=>BQ (fun (cH:List TV) (dH:TV)=>eL bA fun dC=>aA dC cH dA qG vA aH rG) nG bH eA vA)) wA dA eA yA)))) tA dA eA) cA dA eA) (Qm (fun (eH:List TV) (fH:TV)=>eS (jw 0 fH) fun hH=>eS (jw 1 fH) fun iH=>bI .eql iH (iI 2) fun jH=>aW jH (Ql (fun (kH:List TV) (mH:TV)=>bI .sub eA (iI 1) fun nH=>bI .sub hH dA fun pH=>bI .sub nH pH fun qH=>gT hA (some iA) fun rH=>pF hA rH fun sH=>gT sH (some (iI 1)) fun tH=>gT sH (b7 .eql tH (iI 1)) fun uH=>pF sH uH fun vH=>aW vH (KE (fun (wH:List TV) (xH:TV)=>aW xH (True/\eg []/\Q wH (TV.tp [])) (bI .gtr dA (iI 0) fun yH=>gT yH (some dA) fun zH=>gT yH (b7 .sub zH (iI 1)) fun cI=>dT yH/\∃dI,(yH=.b true->lY cI (List.length wH)=some dI)/\dT yH/\gT yH (sS wH dI 0 none) fun eI=>gT yH (some qH) fun fI=>dT yH/\∃hI,(yH=.b true->lY fI (List.length wH)=some hI)/\dT yH/\gT yH (sS wH hI 0 none) fun jI=>gC yH true 118 [eI,jI] fun kI=>gT yH (v_ .not kI) fun mI=>pF yH mI fun nI=>aW nI (Dh (fun (pI:List TV) (qI:TV)=>eL bA fun dC=>aA dC pI qI eA fA hA iA) wH dA eA qH) (Dg (fun (rI:List TV) (sI:TV)=>eS (jw 0 sI) fun tI=>eS (jw 1 sI) fun uI=>bI .sub tI dA fun vI=>bI .sub eA tI fun wI=>bI .quo jA (iI 8) fun xI=>bI .lss vI wI fun yI=>aW yI (bI .geq vI xI fun zI=>BQ (fun (aJ:List TV) (bJ:TV)=>aI tI bA fun cJ dC=>aA dC aJ cJ eA fA zI uI) rI dA tI fA) (bI .geq wI xI fun dJ=>bI .add tI (iI 1) fun eJ=>BQ (fun (fJ:List TV) (hJ:TV)=>eL bA fun dC=>aA dC fJ dA tI fA dJ uI) rI eJ eA fA)) wH dA eA qH))) kH dA eA) (bI .gtr dA (iI 0) fun iJ=>gT iJ (some dA) fun kJ=>gT iJ (b7 .sub kJ (iI 1)) fun mJ=>dT iJ/\∃nJ,(iJ=.b true->lY mJ (List.length kH)=some nJ)/\dT iJ/\gT iJ (sS kH nJ 0 none) fun pJ=>gT iJ (some qH) fun qJ=>dT iJ/\∃rJ,(iJ=.b true->lY qJ (List.length kH)=some rJ)/\dT iJ/\gT iJ (sS kH rJ 0 none) fun sJ=>gC iJ true 118 [pJ,sJ] fun tJ=>gT iJ (v_ .not tJ) fun uJ=>pF iJ uJ fun vJ=>aW vJ (Dh (fun (wJ:List TV) (xJ:TV)=>eL bA fun dC=>aA dC wJ xJ eA fA hA iA) kH dA eA qH) (Dg (fun (yJ:List TV) (zJ:TV)=>eS (jw 0 zJ) fun aK=>eS (jw 1 zJ) fun bK=>bI .sub aK dA fun cK=>bI .sub eA aK fun dK=>bI .quo jA (iI 8) fun eK=>bI .lss cK dK fun fK=>aW fK (bI .geq cK eK fun hK=>BQ (fun (iK:List TV) (jK:TV)=>aI aK bA fun kK dC=>aA dC iK kK eA fA hK bK) yJ dA aK fA) (bI .geq dK eK fun mK=>bI .add aK (iI 1) fun nK=>BQ (fun (pK:List TV) (qK:TV)=>eL bA fun dC=>aA dC pK dA aK fA mK bK) yJ nK eA fA)) kH dA eA qH))) eH dA eA) (gT hA (some iA) fun rK=>pF hA rK fun sK=>gT sK (some iH) fun tK=>gT sK (b7 .eql tK (iI 1)) fun uK=>pF sK uK fun vK=>aW vK (KE (fun (wK:List TV) (xK:TV)=>aW xK (True/\eg []/\Q wK (TV.tp [])) (bI .gtr dA (iI 0) fun yK=>gT yK (some dA) fun zK=>gT yK (b7 .sub zK (iI 1)) fun aL=>dT yK/\∃bL,(yK=.b true->lY aL (List.length wK)=some bL)/\dT yK/\gT yK (sS wK bL 0 none) fun dL=>gT yK (some hH) fun fL=>dT yK/\∃hL,(yK=.b true->lY fL (List.length wK)=some hL)/\dT yK/\gT yK (sS wK hL 0 none) fun iL=>gC yK true 118 [dL,iL] fun jL=>gT yK (v_ .not jL) fun kL=>pF yK kL fun mL=>aW mL (Dh (fun (pL:List TV) (qL:TV)=>eL bA fun dC=>aA dC pL qL eA fA hA iA) wK dA eA hH) (Dg (fun (rL:List TV) (sL:TV)=>eS (jw 0 sL) fun tL=>eS (jw 1 sL) fun uL=>bI .sub tL dA fun vL=>bI .sub eA tL fun wL=>bI .quo jA (iI 8) fun xL=>bI .lss vL wL fun yL=>aW yL (bI .geq vL xL fun zL=>BQ (fun (aM:List TV) (bM:TV)=>aI tL bA fun cM dC=>aA dC aM cM eA fA zL uL) rL dA tL fA) (bI .geq wL xL fun dM=>bI .add tL (iI 1) fun eM=>BQ (fun (fM:List TV) (hM:TV)=>eL bA fun dC=>aA dC fM dA tL fA dM uL) rL eM eA fA)) wK dA eA hH))) eH dA eA) (bI .gtr dA (iI 0) fun iM=>gT iM (some dA) fun jM=>gT iM (b7 .sub jM (iI 1)) fun kM=>dT iM/\∃mM,(iM=.b true->lY kM (List.length eH)=some mM)/\dT iM/\gT iM (sS eH mM 0 none) fun nM=>gT iM (some hH) fun pM=>dT iM/\∃qM,(iM=.b true->lY pM (List.length eH)=some qM)/\dT iM/\gT iM (sS eH qM 0 none) fun rM=>gC iM true 118 [nM,rM] fun sM=>gT iM (v_ .not sM) fun tM=>pF iM tM fun uM=>aW uM (Dh (fun (vM:List TV) (wM:TV)=>eL bA fun dC=>aA dC vM wM eA fA hA iA) eH dA eA hH) (Dg (fun (xM:List TV) (yM:TV)=>eS (jw 0 yM) fun zM=>eS (jw 1 yM) fun aN=>bI .sub zM dA fun bN=>bI .sub eA zM fun cN=>bI .quo jA (iI 8) fun dN=>bI .lss bN cN fun eN=>aW eN (bI .geq bN dN fun fN=>BQ (fun (hN:List TV) (iN:TV)=>aI zM bA fun jN dC=>aA dC hN jN eA fA fN aN) xM dA zM fA) (bI .geq cN dN fun kN=>bI .add zM (iI 1) fun mN=>BQ (fun (nN:List TV) (qN:TV)=>eL bA fun dC=>aA dC nN dA zM fA kN aN) xM mN eA fA)) eH dA eA hH)))) cA dA eA)))
theorem Q5 (Q:List TV->TV->Prop) (l0_:List TV) (a1:TV) (a2:TV) (a3:TV) (h:MX Q l0_ a1 a2 a3):BQ Q l0_ a1 a2 a3:=by
 refine lD (sh:=sh) (af:=SK) (vc:=S6) (p:=kept [.sl 1,.tr,.tr,.tr]) (np:=4) (by kernel_rfl) (by kernel_rfl) (by kernel_rfl) (by kernel_rfl) (by kernel_rfl) fm ?_;refine Eq.mp (?_:MX Q l0_ a1 a2 a3=_) h
 kernel_rfl
def I2 (Q:TV->List TV->List TV->TV->Prop) (o0_:TV) (qq9:List TV) (qq8:List TV) (a1:TV) (a2:TV) (a3:TV) (a4:TV):Prop:=
 TV.gw a1=false/\Nj (fun (aA:TV) (bA:List TV) (cA:List TV) (dA:TV)=>eS (b9 a1 0 9) fun eA=>eS (bf Je 0 1 a3) fun fA=>eS (bf fA 1 1 dA) fun hA=>eS (bf hA 2 1 (iI 2)) fun iA=>eS (bf iA 10 9 eA) fun jA=>eS (kn [(9,VV.bX)] jA) fun kA=>I5 (fun (mA:TV) (nA:List TV) (pA:List TV) (qA:TV)=>Nk (fun (rA:TV) (sA:List TV) (tA:List TV) (uA:TV)=>True/\eg []/\Q rA sA tA (TV.tp [])) mA nA pA a2 dA a4) aA bA cA kA) o0_ qq9 qq8
theorem Od (Q:TV->List TV->List TV->TV->Prop) (o0_:TV) (qq9:List TV) (qq8:List TV) (a1:TV) (a2:TV) (a3:TV) (a4:TV) (h:I2 Q o0_ qq9 qq8 a1 a2 a3 a4):KF Q o0_ qq9 qq8 a1 a2 a3 a4:=by
 refine lD (sh:=sh) (af:=MR) (vc:=NX) (p:=kept [.ob [(1,19),(2,1)],.tr,.tr,.tr,.tr]) (np:=5) (by kernel_rfl) (by kernel_rfl) (by kernel_rfl) (by kernel_rfl) (by kernel_rfl) fm ?_;refine Eq.mp (?_:I2 Q o0_ qq9 qq8 a1 a2 a3 a4=_) h
 kernel_rfl
def I1 (Q:TV->List TV->List TV->TV->Prop) (o0_:TV) (qq9:List TV) (qq8:List TV) (a1:TV) (a2:TV) (a3:TV):Prop:=
 TV.gw a1=false/\aP 0 0 1 1 a2 8 qq8 fun aA bA=>pN o0_ 2 fun cA=>Nj (fun (dA:TV) (eA:List TV) (fA:List TV) (hA:TV)=>eS (b9 a1 8 9) fun iA=>cL 107 [iA] fun jA=>eS (bf Je 0 1 a2) fun kA=>eS (bf kA 1 1 hA) fun mA=>eS (bf mA 2 1 (iI 2)) fun nA=>eS (bf nA 10 9 jA) fun pA=>eS (kn [(9,VV.bX)] pA) fun qA=>I5 (fun (rA:TV) (sA:List TV) (tA:List TV) (uA:TV)=>eS (b9 a1 8 9) fun vA=>cL 109 [vA] fun wA=>eS (bf Je 0 1 a2) fun xA=>eS (bf xA 1 1 a3) fun yA=>eS (bf yA 2 1 (iI 2)) fun zA=>eS (bf zA 10 9 wA) fun aB=>eS (kn [(9,VV.bX)] aB) fun bB=>I5 (fun (cB:TV) (dB:List TV) (eB:List TV) (fB:TV)=>uC a1 17 fun hB=>Nk (fun (iB:TV) (jB:List TV) (kB:List TV) (mB:TV)=>True/\eg []/\Q iB jB kB (TV.tp [])) cB dB eB hB hA a2) rA sA tA bB) dA eA fA qA) cA qq9 bA
theorem Oc (Q:TV->List TV->List TV->TV->Prop) (o0_:TV) (qq9:List TV) (qq8:List TV) (a1:TV) (a2:TV) (a3:TV) (h:I1 Q o0_ qq9 qq8 a1 a2 a3):M7 Q o0_ qq9 qq8 a1 a2 a3:=by
 refine lD (sh:=sh) (af:=MP) (vc:=NV) (p:=kept [.ob [(1,19),(2,1)],.tr,.tr,.tr]) (np:=4) (by kernel_rfl) (by kernel_rfl) (by kernel_rfl) (by kernel_rfl) (by kernel_rfl) fm ?_;refine Eq.mp (?_:I1 Q o0_ qq9 qq8 a1 a2 a3=_) h
 kernel_rfl
def IZ (Q:TV->List TV->List TV->TV->Prop) (o0_:TV) (qq9:List TV) (qq8:List TV) (a1:TV) (a2:TV) (a3:TV):Prop:=
 TV.gw a1=false/\uC a1 19 fun aA=>lN aA fun bA=>∃cA:Ty3,(∃dA,cA dA o0_ qq9 qq8 a1 a2 a3 aA bA (iI 0))/\∀dA eA fA hA iA jA kA mA nA pA,cA dA eA fA hA iA jA kA mA nA pA->bI .lss pA nA fun qA=>aW qA (eX mA pA 3 fun rA=>eS (zn rA 0 (some 3)) fun sA=>eS (bf (TV.a [(iI 0),(iI 0),nL]) 0 3 sA) fun tA=>Nj (fun (uA:TV) (vA:List TV) (wA:List TV) (xA:TV)=>uC iA 2 fun yA=>uC tA 0 fun zA=>uC tA 1 fun aB=>eS (bf Je 0 1 jA) fun bB=>eS (bf bB 1 1 xA) fun cB=>eS (bf cB 2 1 (iI 4)) fun dB=>eS (bf dB 4 1 yA) fun eB=>eS (bf eB 5 1 zA) fun fB=>eS (bf fB 3 1 aB) fun hB=>eS (kn [(9,VV.bX),(14,VV.bX),(18,VV.bX)] hB) fun iB=>I5 (fun (jB:TV) (kB:List TV) (mB:List TV) (nB:TV)=>uC tA 2 fun pB=>Nk (fun (qB:TV) (rB:List TV) (sB:List TV) (tB:TV)=>aI pA dA fun uB vB=>cA vB qB rB sB iA jA kA mA nA uB) jB kB mB pB xA kA) uA vA wA iB) eA fA hA) (True/\eg []/\Q eA fA hA (TV.tp []))
theorem Ob (Q:TV->List TV->List TV->TV->Prop) (o0_:TV) (qq9:List TV) (qq8:List TV) (a1:TV) (a2:TV) (a3:TV) (h:IZ Q o0_ qq9 qq8 a1 a2 a3):M6 Q o0_ qq9 qq8 a1 a2 a3:=by
 refine lD (sh:=sh) (af:=MO) (vc:=NU) (p:=kept [.ob [(1,19),(2,1)],.tr,.tr,.tr]) (np:=4) (by kernel_rfl) (by kernel_rfl) (by kernel_rfl) (by kernel_rfl) (by kernel_rfl) fm ?_;refine Eq.mp (?_:IZ Q o0_ qq9 qq8 a1 a2 a3=_) h
 kernel_rfl
def IY (Q:List TV->TV->Prop) (l0_:List TV) (a1:TV) (a2:TV):Prop:=
 bI .add a1 (iI 1) fun aA=>∃bA:Ty2,(∃cA,bA cA l0_ a1 a2 aA)/\∀cA dA eA fA hA,bA cA dA eA fA hA->bI .lss hA fA fun iA=>aW iA (∃jA:Ty9,(∃kA,jA kA dA eA fA hA hA)/\∀kA mA nA pA qA rA,jA kA mA nA pA qA rA->bI .gtr rA nA fun sA=>gT sA (some rA) fun tA=>dT sA/\∃uA,(sA=.b true->lY tA (List.length mA)=some uA)/\dT sA/\gT sA (sS mA uA 0 none) fun vA=>gT sA (some rA) fun wA=>gT sA (b7 .sub wA (iI 1)) fun xA=>dT sA/\∃yA,(sA=.b true->lY xA (List.length mA)=some yA)/\dT sA/\gT sA (sS mA yA 0 none) fun zA=>gC sA true 118 [vA,zA] fun aB=>pF sA aB fun bB=>aW bB (bI .sub rA (iI 1) fun cB=>bI .sub rA (iI 1) fun dB=>eS (lY dB (List.length mA)) fun eB=>eS (sS mA eB 0 none) fun fB=>eS (lY rA (List.length mA)) fun hB=>eS (sS mA hB 0 none) fun iB=>eS (lY rA (List.length mA)) fun jB=>eS (jt mA jB 0 1 fB) fun kB=>eS (lY cB (List.length kB)) fun mB=>eS (jt kB mB 0 1 iB) fun nB=>bI .sub rA (iI 1) fun pB=>eL kA fun qB=>jA qB nB nA pA qA pB) (aI qA cA fun rB sB=>bA sB mA nA pA rB)) (True/\eg []/\Q dA (TV.tp []))
theorem Oa (Q:List TV->TV->Prop) (l0_:List TV) (a1:TV) (a2:TV) (h:IY Q l0_ a1 a2):Qn Q l0_ a1 a2:=by
 refine lD (sh:=sh) (af:=MN) (vc:=NT) (p:=kept [.sl 1,.tr,.tr]) (np:=3) (by kernel_rfl) (by kernel_rfl) (by kernel_rfl) (by kernel_rfl) (by kernel_rfl) fm ?_;refine Eq.mp (?_:IY Q l0_ a1 a2=_) h
 kernel_rfl
abbrev uO:List vY:=[.ob 4 [(1,1075840020)],.pt 4 4 0,.tr 3,.tr 5]
def BV:bh:=.seq (.aQ Hq) (.cond (.t 18) .skip (.exit 0))
def P0 (o1:TV) (l2:List TV) (x3 x4:TV) (I E:TV->List TV->TV->TV->Prop):Prop:=
 ∃v5,b7 .lss x4 x3=some v5/\
 aW v5
 (I o1 l2 x3 x4)
 (E o1 l2 x3 x4)
theorem Nn (I0 I E:TV->List TV->TV->TV->Prop) (h:∀(o1:TV) (l2:List TV) (x3 x4:TV),I0 o1 l2 x3 x4->P0 o1 l2 x3 x4 I E):gU uO V0 I0 (fun V=>wV sh prog 96 BV V (fun x V=>match x with|.normal=>nT uO V I|.exit _=>nT uO V E|.ret=>False)):=((show (∀(o1:TV) (l2:List TV) (x3 x4:TV),I0 o1 l2 x3 x4->P0 o1 l2 x3 x4 I E)=gU uO V0 I0 (fun V=>wV sh prog 96 BV V (fun x V=>match x with|.normal=>nT uO V I|.exit _=>nT uO V E|.ret=>False)) by kernel_rfl)▸h)
def Ld:bh:=.seq (.aQ EL) (.seq (.cj Hl IM [(1,8),(3,8),(6,8),(1,9)]) (.aQ zW))
def KB (o1:TV) (l2:List TV) (x3 x4:TV) (I E:TV->List TV->TV->TV->Prop):Prop:=
 ∃v5,bf (TV.a [(TV.b false)]) 0 1 (TV.b true)=some v5/\
 ∃v6,bf v5 0 1 (TV.b false)=some v6/\
 ∃v7,k4 (ej v6 0)=some v7/\
 ∃v8,lY (TV.i .i64 0) (List.length l2)=some v8/\
 ∃v9,l2[v8]?=some v9/\
 ∃v10,bf Nm 0 1 (TV.i .i64 7)=some v10/\
 (Nat.beq 0 (0*20)&&Nat.beq 20 20)=true/\true=true/\∃v11,bf v10 19 1 (TV.l [])=some v11/\
 ∃v12,bf v11 18 1 (TV.l [])=some v12/\
 ∃v13,bf v12 17 1 (TV.l [])=some v13/\
 ∃v14,bf v13 16 1 (TV.l [])=some v14/\
 ∃v15,bf v14 12 1 (TV.l [])=some v15/\
 ∃v16,bf v15 7 1 (TV.l [])=some v16/\
 lE 20 v16/\
 ∃v17,oD (TV.l [v16])=some v17/\uR 20 v17/\
 ∃v18,su l2 v8 1=some v18/\
 ∃v19,jT 256 v18 v17=some v19/\
 ∃v20,lY (TV.i .i64 0) (List.length l2)=some v20/\
 v8=v8/\v8=v8/\v8=v20/\∃v21,jt l2 v20 1 1 (TV.l v19)=some v21/\
 ∃v22,b7 .add x4 (TV.i .i64 1)=some v22/\
 I o1 v21 x3 v22
theorem QE (I0 I E:TV->List TV->TV->TV->Prop) (h:∀(o1:TV) (l2:List TV) (x3 x4:TV),I0 o1 l2 x3 x4->KB o1 l2 x3 x4 I E):gU uO V0 I0 (fun V=>wV sh prog 96 Ld V (fun x V=>match x with|.normal=>nT uO V I|.exit _=>False|.ret=>False)):=((show (∀(o1:TV) (l2:List TV) (x3 x4:TV),I0 o1 l2 x3 x4->KB o1 l2 x3 x4 I E)=gU uO V0 I0 (fun V=>wV sh prog 96 Ld V (fun x V=>match x with|.normal=>nT uO V I|.exit _=>False|.ret=>False)) by kernel_rfl)▸h)
def Lc:bh:=.seq (.aQ DI) (.seq (.seq (.aQ Hp) (.aQ Ho)) (.aQ zW))
def KA (o1:TV) (l2:List TV) (x3 x4:TV) (I E:TV->List TV->TV->TV->Prop):Prop:=
 ∃v5,bf (TV.a [(TV.b false)]) 0 1 (TV.b false)=some v5/\
 ∃v6,bf v5 0 1 (TV.b true)=some v6/\
 ∃v7,k4 (ej v6 0)=some v7/\
 ∃v8,lY (TV.i .i64 0) (List.length l2)=some v8/\
 ∃v9,l2[v8]?=some v9/\
 ∃v10,bf Nm 0 1 (TV.i .i64 7)=some v10/\
 ∃v11,Mc l2 v8 1=some v11/\
 (Nat.beq 0 (0*20)&&Nat.beq 20 20)=true/\true=true/\∃v12,bf Nm 19 1 (TV.l [])=some v12/\
 ∃v13,bf v12 18 1 (TV.l [])=some v13/\
 ∃v14,bf v13 17 1 (TV.l [])=some v14/\
 ∃v15,bf v14 16 1 (TV.l [])=some v15/\
 ∃v16,bf v15 12 1 (TV.l [])=some v16/\
 ∃v17,bf v16 7 1 (TV.l [])=some v17/\
 lE 20 v17/\
 ∃v18,oD (TV.l [v17])=some v18/\uR 20 v18/\
 ∃v19,su l2 v8 1=some v19/\
 ∃v20,jT 256 v19 v18=some v20/\
 ∃v21,lY (TV.i .i64 0) (List.length l2)=some v21/\
 v8=v21/\∃v22,jt l2 v21 1 1 (TV.l v20)=some v22/\
 ∃v23,Sr v22 v21 1 v11=some v23/\
 ∃v24,kn [(7,VV.bX),(12,VV.bX),(16,VV.bX),(17,VV.bX),(18,VV.bX),(19,VV.bX)] v10=some v24/\
 ∃v25,su v22 v21 1=some v25/\
 ∃v26,jt v25 v23 0 20 v24=some v26/\
 ∃v27,jt v22 v21 1 1 (TV.l v26)=some v27/\
 ∃v28,b7 .add x4 (TV.i .i64 1)=some v28/\
 I o1 v27 x3 v28
theorem QD (I0 I E:TV->List TV->TV->TV->Prop) (h:∀(o1:TV) (l2:List TV) (x3 x4:TV),I0 o1 l2 x3 x4->KA o1 l2 x3 x4 I E):gU uO V0 I0 (fun V=>wV sh prog 96 Lc V (fun x V=>match x with|.normal=>nT uO V I|.exit _=>False|.ret=>False)):=((show (∀(o1:TV) (l2:List TV) (x3 x4:TV),I0 o1 l2 x3 x4->KA o1 l2 x3 x4 I E)=gU uO V0 I0 (fun V=>wV sh prog 96 Lc V (fun x V=>match x with|.normal=>nT uO V I|.exit _=>False|.ret=>False)) by kernel_rfl)▸h)
def Le:bh:=.aQ A5
def PZ (o1:TV) (l2:List TV) (x3 x4:TV) (Q:TV->TV->Prop):Prop:=
 ∃v5,b9 o1 0 2=some v5/\
 ∃v6,bf v5 1 1 (TV.l l2)=some v6/\
 Q v6 x3
theorem QF (I0:TV->List TV->TV->TV->Prop) (Q:TV->TV->Prop) (h:∀(o1:TV) (l2:List TV) (x3 x4:TV),I0 o1 l2 x3 x4->PZ o1 l2 x3 x4 Q):gU uO V0 I0 (fun V=>wV sh prog 96 Le V (fun x V=>match x with|.normal=>uY V [.tmp 48,.tmp 3] (fun rs=>match rs with|[a,b]=>Q a b|_=>False)|_=>False)):=((show (∀(o1:TV) (l2:List TV) (x3 x4:TV),I0 o1 l2 x3 x4->PZ o1 l2 x3 x4 Q)=gU uO V0 I0 (fun V=>wV sh prog 96 Le V (fun x V=>match x with|.normal=>uY V [.tmp 48,.tmp 3] (fun rs=>match rs with|[a,b]=>Q a b|_=>False)|_=>False)) by kernel_rfl)▸h)
def Lb:bh:=.aQ EL
def PY (o1:TV) (l2:List TV) (x3 x4:TV) (Q:TV->Prop):Prop:=
 ∃v5,bf (TV.a [(TV.b false)]) 0 1 (TV.b true)=some v5/\
 ∃v6,bf v5 0 1 (TV.b false)=some v6/\
 ∃v7,k4 (ej v6 0)=some v7/\
 Q v7
theorem QC (I0:TV->List TV->TV->TV->Prop) (Q:TV->Prop) (h:∀(o1:TV) (l2:List TV) (x3 x4:TV),I0 o1 l2 x3 x4->PY o1 l2 x3 x4 Q):gU uO V0 I0 (fun V=>wV sh prog 96 Lb V (fun x V=>match x with|.normal=>uY V [.tmp 22] (fun rs=>match rs with|[a]=>Q a|_=>False)|_=>False)):=((show (∀(o1:TV) (l2:List TV) (x3 x4:TV),I0 o1 l2 x3 x4->PY o1 l2 x3 x4 Q)=gU uO V0 I0 (fun V=>wV sh prog 96 Lb V (fun x V=>match x with|.normal=>uY V [.tmp 22] (fun rs=>match rs with|[a]=>Q a|_=>False)|_=>False)) by kernel_rfl)▸h)
def La:bh:=.aQ DI
def PX (o1:TV) (l2:List TV) (x3 x4:TV) (Q:TV->Prop):Prop:=
 ∃v5,bf (TV.a [(TV.b false)]) 0 1 (TV.b false)=some v5/\
 ∃v6,bf v5 0 1 (TV.b true)=some v6/\
 ∃v7,k4 (ej v6 0)=some v7/\
 Q v7
theorem QB (I0:TV->List TV->TV->TV->Prop) (Q:TV->Prop) (h:∀(o1:TV) (l2:List TV) (x3 x4:TV),I0 o1 l2 x3 x4->PX o1 l2 x3 x4 Q):gU uO V0 I0 (fun V=>wV sh prog 96 La V (fun x V=>match x with|.normal=>uY V [.tmp 22] (fun rs=>match rs with|[a]=>Q a|_=>False)|_=>False)):=((show (∀(o1:TV) (l2:List TV) (x3 x4:TV),I0 o1 l2 x3 x4->PX o1 l2 x3 x4 Q)=gU uO V0 I0 (fun V=>wV sh prog 96 La V (fun x V=>match x with|.normal=>uY V [.tmp 22] (fun rs=>match rs with|[a]=>Q a|_=>False)|_=>False)) by kernel_rfl)▸h)
def GA:bh:=.seq (.aQ AZ) (.seq (.seq (.aQ Ht) (.cond (.t 53) (.seq (.aQ Hs) .ret) .skip)) (.seq (.aQ Hr) .ret))
def KC (a3 a48:TV) (Q:TV->Prop):Prop:=
 VS prog 43 [a48] fun r1=>qz true r1/\
 ∃v2,jw 0 r1=some v2/\
 ∃v3,jw 1 r1=some v3/\
 ∃v4,bf (TV.a [(TV.l []),(TV.l []),(TV.l [])]) 0 3 v2=some v4/\
 ∃v5,b7 .gtr a3 (TV.i .i64 400)=some v5/\
 aW v5
 (VS prog 46 [] fun r6=>qz true r6/\
 ∃v7,gV r6 true (fun r=>some v3=some r) v7/\
 ∃v8,gV r6 true (fun r=>b7 .eql v7 (TV.i .i64 10)=some r) v8/\
 ∃v9,fR r6 v8 (TV.b false)=some v9/\
 gd v9 true v9 true/\∃v10,gV v9 true (fun r=>k4 (ej v4 1)=some r) v10/\
 ∃v11,gV v9 true (fun r=>Bl v10=some r) v11/\
 ∃v12,gV v9 true (fun r=>b7 .eql v11 (TV.i .i64 0)=some r) v12/\
 ∃v13,fR v9 v12 (TV.b false)=some v13/\
 True/\lP [v13]/\Q v13)
 (VS prog 46 [] fun r14=>qz true r14/\
 ∃v15,gV r14 true (fun r=>some v3=some r) v15/\
 ∃v16,gV r14 true (fun r=>b7 .eql v15 (TV.i .i64 0)=some r) v16/\
 ∃v17,fR r14 v16 (TV.b false)=some v17/\
 gd v17 true v17 true/\∃v18,gV v17 true (fun r=>k4 (ej v4 1)=some r) v18/\
 ∃v19,gV v17 true (fun r=>Bl v18=some r) v19/\
 ∃v20,gV v17 true (fun r=>b7 .eql v19 (TV.i .i64 1)=some r) v20/\
 ∃v21,fR v17 v20 (TV.b false)=some v21/\
 gd v21 true v21 true/\∃v22,gV v21 true (fun r=>k4 (ej v4 1)=some r) v22/\
 ∃v23,gV v21 true (fun r=>(D5 v22 (TV.i .i64 0)=some r/\lE 3 r)) v23/\
 gd v21 true v21 true/\gd v21 true v21 true/\∃v24,gV v21 true (fun r=>zn v23 1 none=some r) v24/\
 ∃v25,gV v21 true (fun r=>Bl v24=some r) v25/\
 ∃v26,gV v21 true (fun r=>some a3=some r) v26/\
 ∃v27,gV v21 true (fun r=>b7 .eql v25 v26=some r) v27/\
 ∃v28,fR v21 v27 (TV.b false)=some v28/\
 gd v28 true v28 true/\∃v29,gV v28 true (fun r=>k4 (ej v4 1)=some r) v29/\
 ∃v30,gV v28 true (fun r=>(D5 v29 (TV.i .i64 0)=some r/\lE 3 r)) v30/\
 gd v28 true v28 true/\gd v28 true v28 true/\∃v31,gV v28 true (fun r=>zn v30 0 none=some r) v31/\
 ∃v32,gV v28 true (fun r=>some a3=some r) v32/\
 ∃v33,gV v28 true (fun r=>b7 .add v32 (TV.i .i64 1)=some r) v33/\
 ∃v34,gV v28 true (fun r=>b7 .eql v31 v33=some r) v34/\
 ∃v35,fR v28 v34 (TV.b false)=some v35/\
 True/\lP [v35]/\Q v35)
theorem QG (a3 a48:TV) (Q:TV->Prop) (h:KC a3 a48 Q):wV sh prog 96 GA (lB [] [(3,a3),(48,a48)]) (fun x V=>(match x with|.exit _=>False|_=>True)/\uY V Qx.res fun rs=>lP rs/\Q (FD rs)):=((show KC a3 a48 Q=wV sh prog 96 GA (lB [] [(3,a3),(48,a48)]) (fun x V=>(match x with|.exit _=>False|_=>True)/\uY V Qx.res fun rs=>lP rs/\Q (FD rs)) by kernel_rfl)▸h)
end Go.Ax.ek
