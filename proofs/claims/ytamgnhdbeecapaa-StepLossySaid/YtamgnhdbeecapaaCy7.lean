/- Part 7 of the proof: LyW. -/
import Derived.Test.YtamgnhdbeecapaaCy4
import Derived.Test.YtamgnhdbeecapaaCy5
import Derived.Test.YtamgnhdbeecapaaCy6
import Derived.KernelRfl
set_option linter.unusedSimpArgs false
set_option linter.unusedVariables false
set_option maxRecDepth 100000
namespace Go.Ax.eB
open Go Go.Ax Go.Ax.V
def gd (a:TV) (x:Bool) (b:TV) (y:Bool):Prop:=(a,x)=((b,y):TV×Bool)
abbrev eS {α:Type} (x:Option α) (k:α->Prop):Prop:=∃v,x=some v/\k v
abbrev gT (c:TV) (x:Option TV) (k:TV->Prop):Prop:=∃v,gV c true (fun r=>x=some r) v/\k v
abbrev dT (a:TV):Prop:=gd a true a true
abbrev eL (n:Nat) (k:Nat->Prop):Prop:=∃m,m < n/\k m
abbrev iI (n:Int):TV:=TV.i .i64 n
abbrev rR (Q:TV->Prop) (x:TV):Prop:=True/\gX [x]/\Q x
abbrev rP (Q:TV->Prop) (l:List TV):Prop:=gX l/\Q (TV.tp l)
abbrev cL (f:Nat) (l:List TV) (k:TV->Prop):Prop:=VS prog f l fun r=>qf true r/\k r
abbrev gC (c:TV) (b:Bool) (f:Nat) (l:List TV) (k:TV->Prop):Prop:=∃v,gV c b (fun r=>VS prog f l fun r'=>r'=r/\qf true r) v/\k v
abbrev pN (x:TV) (i:Nat) (k:TV->Prop):Prop:=∃v,dG x i 1 (TV.l [])=some v/\k v
abbrev pF (x y:TV) (k:TV->Prop):Prop:=∃v,kC x y (TV.b false)=some v/\k v
abbrev nb (a j s n:Nat):Prop:=(Nat.beq a (j*s)&&Nat.beq n s)=true
def ER:TV:=TV.a [(TV.l []),(TV.l []),(TV.l []),(TV.l [])]
def EP:TV:=TV.a [(TV.b false),(TV.i .i64 0),(TV.i .i64 0),(TV.i .i64 0)]
def JW:Map JU:=.leaf
noncomputable def E6:Sh:=⟨fun f=>JW.get f,JS prog,fun _=>none,fun _=>[],fun _=>0,fun _=>[],fun f=>false⟩
theorem IM:mg prog E6:=⟨rfl,fun f T h=>by cases h⟩
noncomputable abbrev sh:Sh:=E6
theorem Dz:mg prog sh:=IM
theorem vq {f:Nat} {ts:List TV} {Q:TV->Prop} {P:Prop} {sh:Sh} (af:aq) (vc:b9) (hsh:mg prog sh) (h:P) (a:(prog.get f,vc.ok,ts.length)=(some af,true,af.params)) (c:vc.code=af.body) (e:P=FT sh prog af vc ts Q):VS prog f ts Q:=EU (congrArg (·.1) a) c (congrArg (·.2.1) a) (congrArg (·.2.2) a) hsh (e▸h)
def JQ (a0 a1 a2:TV) (Q:TV->Prop):Prop:=
 TV.oY a0=false/\TV.oY a1=false/\TV.oY a2=false/\eS (dB a0 0 3) fun aA=>eS (dB a1 0 4) fun bA=>cL 22 [aA,bA] fun cA=>eS (C6 .not cA) fun dA=>jH dA (eS (dG ER 0 4 ER) fun eA=>eS (dG EP 0 4 EP) fun fA=>True/\eS (dB eA 0 4) fun hA=>pN hA 3 fun iA=>pN iA 2 fun jA=>pN jA 1 fun kA=>pN kA 0 fun mA=>eS (dB fA 0 4) fun nA=>rP Q [mA,nA,(iI 1)]) (eS (dB a0 0 3) fun pA=>eS (dB a1 0 4) fun qA=>eS (dB a2 0 3) fun rA=>cL 73 [pA,qA,rA] fun sA=>eS (u0 0 sA) fun tA=>eS (u0 1 sA) fun uA=>eS (dG ER 0 4 tA) fun vA=>eS (dG EP 0 4 uA) fun wA=>eS (dB vA 0 4) fun xA=>eS (dB wA 0 4) fun yA=>eS (dG ER 0 4 xA) fun zA=>eS (dG EP 0 4 yA) fun aB=>True/\eS (dB zA 0 4) fun bB=>eS (dB aB 0 4) fun cB=>rP Q [bB,cB,(iI 0)])
theorem Hr (a0 a1 a2:TV) (Q:TV->Prop) (h:JQ a0 a1 a2 Q):VS prog 52 [a0,a1,a2] Q:=vq (sh:=sh) I6 EY Dz h (by kernel_rfl) rfl (by kernel_rfl)
def JR (a0 a1:TV) (Q:TV->Prop):Prop:=
 TV.oY a0=false/\TV.oY a1=false/\eS (dB a0 0 3) fun aA=>cL 53 [aA] fun bA=>gT bA (dB a0 0 3) fun cA=>gT bA (dB a1 0 4) fun dA=>gC bA true 54 [cA,dA] fun eA=>pF bA eA fun fA=>rR Q fA
theorem Hs (a0 a1:TV) (Q:TV->Prop) (h:JR a0 a1 Q):VS prog 22 [a0,a1] Q:=vq (sh:=sh) I7 I_ Dz h (by kernel_rfl) rfl (by kernel_rfl)
def B0:b9:=.seq (.seq (.aa Af) (.block 0 (.loop [.ob 9 [],.ob 11 [],.tr 1,.tr 5,.pt 9 9 0,.pt 11 11 0,.tr 13,.tr 14] (.seq (.seq (.aa Ae) (.cond (.t 71) .skip (.exit 0))) (.seq (.block 1 (.seq (.seq (.aa Ac) (.block 2 (.loop [.ob 9 [],.ob 11 [],.tr 1,.tr 5,.pt 9 9 0,.pt 11 11 0,.tr 13,.tr 14,.tr 15] (.seq (.seq (.aa Ab) (.cond (.t 75) .skip (.exit 2))) (.seq (.block 3 (.seq (.aP z_ BB []) (.seq (.seq (.aa z9) (.cond (.t 96) (.seq (.aa z8) .ret) .skip)) (.aa z7)))) (.aa Aa)))))) (.seq (.seq (.aa z6) (.cond (.t 107) (.aa z5) .skip)) (.seq (.aa z0) (.cond (.t 126) (.seq (.aa zZ) .ret) .skip))))) (.aa Ad)))))) (.seq (.aa zY) .ret)
def CZ (a9 a11 a1 a5 a13:TV) (Q:TV->Prop):Prop:=
 ∃I1:Nat->TV->TV->TV->TV->TV->TV->Prop,(∃n2,I1 n2 a9 a11 a1 a5 a13 (TV.i .i64 0))/\∀n2:Nat,
 ∀o4:TV,∀o5:TV,∀x6:TV,∀x7:TV,∀x8:TV,∀x9:TV,I1 n2 o4 o5 x6 x7 x8 x9->
 ∃v10,AQ x6=some v10/\
 ∃v11,eN .lss x9 v10=some v11/\
 ∃v12,gV v11 true (fun r=>some x9=some r) v12/\
 ∃v13,gV v11 true (fun r=>eN .lss v12 (TV.i .i64 40)=some r) v13/\
 ∃v14,kC v11 v13 (TV.b false)=some v14/\
 jH v14
 (∃I15:Nat->TV->TV->TV->TV->TV->TV->TV->Prop,(∃n16,I15 n16 o4 o5 x6 x7 x8 x9 (TV.i .i64 0))/\∀n16:Nat,
 ∀o18:TV,∀o19:TV,∀x20:TV,∀x21:TV,∀x22:TV,∀x23:TV,∀x24:TV,I15 n16 o18 o19 x20 x21 x22 x23 x24->
 ∃v25,eN .lss x24 (TV.i .i64 2)=some v25/\
 jH v25
 (∃v26,dB o18 0 3=some v26/\
 ∃v27,dB o19 0 4=some v27/\
 ∃v28,(o8 x20 x23=some v28/\ld 1 v28)/\
 ∃v29,AR v28 0 none=some v29/\
 ∃v30,dG (TV.a [(TV.i .i64 0),(TV.b false),(TV.i .i64 0)]) 1 1 v29=some v30/\
 VS prog 52 [v26,v27,v30] fun r31=>qf true r31/\
 ∃v32,u0 0 r31=some v32/\
 ∃v33,u0 1 r31=some v33/\
 ∃v34,u0 2 r31=some v34/\
 ∃v35,dG ER 0 4 v32=some v35/\
 ∃v36,dG EP 0 4 v33=some v36/\
 ∃v37,eN .neq v34 (TV.i .i64 0)=some v37/\
 gd v37 false v37 false/\∃v38,gV v37 false (fun r=>nq (dL v36 0)=some r) v38/\
 ∃v39,gV v37 false (fun r=>C6 .not v38=some r) v39/\
 ∃v40,kC v37 (TV.b true) v39=some v40/\
 jH v40
 (True/\gX [(TV.b false)]/\Q (TV.b false))
 (∃v41,dB v35 0 4=some v41/\
 ∃v42,dG o19 0 4 v41=some v42/\
 ∃v43,eN .add x24 (TV.i .i64 1)=some v43/\
 ∃m17,m17 < n16/\I15 m17 o18 v42 x20 x21 x22 x23 v43))
 (∃v44,(o8 x20 x23=some v44/\ld 1 v44)/\
 ∃v45,AR v44 0 none=some v45/\
 ∃v46,C6 .not v45=some v46/\
 ∃v47,gV v46 true (fun r=>some x22=some r) v47/\
 ∃v48,gV v46 true (fun r=>some x21=some r) v48/\
 ∃v49,gV v46 true (fun r=>eN .lss v47 v48=some r) v49/\
 ∃v50,kC v46 v49 (TV.b false)=some v50/\
 jH v50
 (∃v51,eN .add x22 (TV.i .i64 1)=some v51/\
 ∃EY,nq (dL o19 2)=some EY/\
 ∃EH,(o8 EY (TV.i .i64 0)=some EH/\ld 1 EH)/\
 ∃G8,AR EH 0 none=some G8/\
 ∃v55,AQ G8=some v55/\
 ∃v56,eN .neq v55 v51=some v56/\
 gd v56 false v56 false/\∃v57,gV v56 false (fun r=>nq (dL o19 3)=some r) v57/\
 ∃v58,gV v56 false (fun r=>(o8 v57 (TV.i .i64 0)=some r/\ld 1 r)) v58/\
 gd v56 false v56 false/\∃v59,gV v56 false (fun r=>AR v58 0 none=some r) v59/\
 ∃v60,gV v56 false (fun r=>some x23=some r) v60/\
 ∃v61,gV v56 false (fun r=>eN .add v60 (TV.i .i64 1)=some r) v61/\
 ∃v62,gV v56 false (fun r=>eN .rem v61 (TV.i .i64 2)=some r) v62/\
 ∃v63,gV v56 false (fun r=>eN .neq v59 v62=some r) v63/\
 ∃v64,kC v56 (TV.b true) v63=some v64/\
 jH v64
 (True/\gX [(TV.b false)]/\Q (TV.b false))
 (∃v65,eN .add x23 (TV.i .i64 1)=some v65/\
 ∃m3,m3 < n2/\I1 m3 o18 o19 x20 x21 v51 v65))
 (∃v66,nq (dL o19 2)=some v66/\
 ∃v67,(o8 v66 (TV.i .i64 0)=some v67/\ld 1 v67)/\
 ∃v68,AR v67 0 none=some v68/\
 ∃v69,AQ v68=some v69/\
 ∃v70,eN .neq v69 x22=some v70/\
 gd v70 false v70 false/\∃v71,gV v70 false (fun r=>nq (dL o19 3)=some r) v71/\
 ∃v72,gV v70 false (fun r=>(o8 v71 (TV.i .i64 0)=some r/\ld 1 r)) v72/\
 gd v70 false v70 false/\∃v73,gV v70 false (fun r=>AR v72 0 none=some r) v73/\
 ∃v74,gV v70 false (fun r=>some x23=some r) v74/\
 ∃v75,gV v70 false (fun r=>eN .add v74 (TV.i .i64 1)=some r) v75/\
 ∃G7,gV v70 false (fun r=>eN .rem v75 (TV.i .i64 2)=some r) G7/\
 ∃G6,gV v70 false (fun r=>eN .neq v73 G7=some r) G6/\
 ∃G5,kC v70 (TV.b true) G6=some G5/\
 jH G5
 (True/\gX [(TV.b false)]/\Q (TV.b false))
 (∃G4,eN .add x23 (TV.i .i64 1)=some G4/\
 ∃m3,m3 < n2/\I1 m3 o18 o19 x20 x21 x22 G4))))
 (True/\gX [(TV.b true)]/\Q (TV.b true))
theorem Hq (a9 a11 a1 a5 a13:TV) (i9 i11:Nat) (Q:TV->Prop) (h:CZ a9 a11 a1 a5 a13 Q):za sh prog Ey.nt B0 (fm [(9,a9,i9),(11,a11,i11)] [(1,a1),(5,a5),(13,a13)]) (fun x V=>(match x with|.exit _=>False|_=>True)/\vV V Ey.res fun rs=>gX rs/\Q (vE rs)):=((show CZ a9 a11 a1 a5 a13 Q=za sh prog Ey.nt B0 (fm [(9,a9,i9),(11,a11,i11)] [(1,a1),(5,a5),(13,a13)]) (fun x V=>(match x with|.exit _=>False|_=>True)/\vV V Ey.res fun rs=>gX rs/\Q (vE rs)) by kernel_rfl)▸h)
end Go.Ax.eB
