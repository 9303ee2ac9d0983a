/- Part 6 of the proof: LbW. -/
import Derived.Test.YtamgnhdbeecapaaCb0
import Derived.Test.YtamgnhdbeecapaaCb5
import Derived.KernelRfl

set_option linter.unusedVariables false
set_option maxRecDepth 100000
namespace Go.Ax.TryLb
open Go Go.Ax Go.Ax.V
def gd (a:TV) (x:Bool) (b:TV) (y:Bool):Prop:=(a,x)=((b,y):TV×Bool)
def zz0:TV:=TV.a [(TV.i .i64 0),(TV.i .i64 0),(TV.i .i64 0),(TV.i .i64 0),(TV.i .i64 0),(TV.l [])]
def sgm:Map Sig:=.leaf
noncomputable def sh:Sh:=⟨fun f=>sgm.get f,VSh prog⟩
def v22:VCode:=.seq (.reg r22_0) (.seq (.reg r22_1) (.ret))
def v54:VCode:=.seq (.reg r54_0) (.seq (.seq (.reg r54_1) (.cond (.t 14) (.seq (.reg r54_2) (.ret)) (.skip))) (.seq (.seq (.reg r54_3) (.block 0 (.loop [.ob 2 [],.ob 3 [],.pt 2 2 0,.pt 3 3 0,.tr 16,.tr 17,.tr 18] (.seq (.reg r54_4) (.seq (.cond (.t 19) (.skip) (.exit 0)) (.seq (.block 1 (.seq (.reg r54_5) (.seq (.seq (.dreg r54_6 b54_6 []) (.cond (.t 45) (.seq (.reg r54_7) (.ret)) (.skip))) (.seq (.reg r54_8) (.block 2 (.loop [.ob 2 [],.ob 3 [],.pt 2 2 0,.pt 3 3 0,.tr 16,.tr 17,.tr 18,.tr 50,.tr 51,.tr 52] (.seq (.reg r54_9) (.seq (.cond (.t 53) (.skip) (.exit 2)) (.seq (.block 3 (.seq (.reg r54_10) (.seq (.reg r54_11) (.cond (.t 58) (.seq (.reg r54_12) (.ret)) (.skip))))) (.reg r54_13)))))))))) (.reg r54_14))))))) (.seq (.seq (.reg r54_15) (.block 4 (.loop [.ob 3 [],.pt 3 3 0,.tr 62,.tr 63,.tr 64] (.seq (.reg r54_16) (.seq (.cond (.t 65) (.skip) (.exit 4)) (.seq (.block 5 (.seq (.reg r54_17) (.seq (.dreg r54_18 b54_18 []) (.cond (.t 89) (.seq (.reg r54_19) (.ret)) (.skip))))) (.reg r54_20))))))) (.seq (.reg r54_21) (.ret)))))
def W54 (a0 a1:TV) (Q:TV→Prop):Prop:=
 TV.isTp a0=false∧
 TV.isTp a1=false∧
 ∃v1,subT a0 0 3=some v1∧
 ∃v2,subT a1 0 4=some v2∧
 VS prog 76 [v1,v2] fun r3=>scOk true r3∧
 ∃v4,unT .not r3=some v4∧
 condK v4
 (True∧tupOk [(TV.b false)]∧Q (TV.b false))
 (∃v5,cellT a0 1=some v5∧
 ∃v6,lenT v5=some v6∧
 ∃I7:Nat→TV→TV→TV→TV→TV→Prop,(∃n8,I7 n8 a0 a1 v5 v6 (TV.i .i64 0))∧∀n8 o10 o11 x12 x13 x14,I7 n8 o10 o11 x12 x13 x14→
 ∃v15,binT .lss x14 x13=some v15∧
 condK v15
 (∃v16,(idxT x12 x14=some v16∧szOk 3 v16)∧
 ∃v17,ldT v16 0 (some 3)=some v17∧
 ∃v18,putT (TV.a [(TV.i .i64 0),(TV.l []),(TV.l [])]) 0 3 v17=some v18∧
 ∃v19,cellT o11 0=some v19∧
 ∃v20,(idxT v19 x14=some v20∧szOk 1 v20)∧
 ∃v21,ldT v20 0 none=some v21∧
 ∃v22,cellT v18 0=some v22∧
 VS prog 77 [v21,v22] fun r23=>scOk true r23∧
 ∃v24,unT .not r23=some v24∧
 gd v24 false v24 false∧∃v25,gV v24 false (fun r=>cellT o11 1=some r) v25∧
 ∃v26,gV v24 false (fun r=>some x14=some r) v26∧
 ∃v27,gV v24 false (fun r=>(idxT v25 v26=some r∧szOk 1 r)) v27∧
 gd v24 false v24 false∧∃v28,gV v24 false (fun r=>ldT v27 0 none=some r) v28∧
 ∃v29,gV v24 false (fun r=>lenT v28=some r) v29∧
 gd v24 false v24 false∧∃v30,gV v24 false (fun r=>cellT o10 2=some r) v30∧
 ∃v31,gV v24 false (fun r=>some x14=some r) v31∧
 ∃v32,gV v24 false (fun r=>(idxT v30 v31=some r∧szOk 1 r)) v32∧
 gd v24 false v24 false∧∃v33,gV v24 false (fun r=>ldT v32 0 none=some r) v33∧
 ∃v34,gV v24 false (fun r=>binT .neq v29 v33=some r) v34∧
 ∃v35,pickT v24 (TV.b true) v34=some v35∧
 condK v35
 (True∧tupOk [(TV.b false)]∧Q (TV.b false))
 (∃v36,cellT o11 1=some v36∧
 ∃v37,(idxT v36 x14=some v37∧szOk 1 v37)∧
 ∃v38,ldT v37 0 none=some v38∧
 ∃v39,lenT v38=some v39∧
 ∃I40:Nat→TV→TV→TV→TV→TV→TV→TV→TV→Prop,(∃n41,I40 n41 o10 o11 x12 x13 x14 v38 v39 (TV.i .i64 0))∧∀n41 o43 o44 x45 x46 x47 x48 x49 x50,I40 n41 o43 o44 x45 x46 x47 x48 x49 x50→
 ∃v51,binT .lss x50 x49=some v51∧
 condK v51
 (∃v52,(idxT x48 x50=some v52∧szOk 1 v52)∧
 ∃v53,ldT v52 0 none=some v53∧
 VS prog 78 [v53] fun r54=>scOk true r54∧
 ∃v55,unT .not r54=some v55∧
 condK v55
 (True∧tupOk [(TV.b false)]∧Q (TV.b false))
 (∃v56,binT .add x50 (TV.i .i64 1)=some v56∧
 ∃m42,m42 < n41∧I40 m42 o43 o44 x45 x46 x47 x48 x49 v56))
 (∃v57,binT .add x47 (TV.i .i64 1)=some v57∧
 ∃m9,m9 < n8∧I7 m9 o43 o44 x45 x46 v57)))
 (∃v58,cellT o10 0=some v58∧
 ∃v59,lenT v58=some v59∧
 ∃I60:Nat→TV→TV→TV→TV→Prop,(∃n61,I60 n61 o11 v58 v59 (TV.i .i64 0))∧∀n61 o63 x64 x65 x66,I60 n61 o63 x64 x65 x66→
 ∃v67,binT .lss x66 x65=some v67∧
 condK v67
 (∃v68,(idxT x64 x66=some v68∧szOk 6 v68)∧
 ∃v69,ldT v68 0 (some 6)=some v69∧
 ∃v70,putT zz0 0 6 v69=some v70∧
 ∃v71,subT v70 0 6=some v71∧
 ∃v72,cellT o63 2=some v72∧
 ∃v73,(idxT v72 x66=some v73∧szOk 1 v73)∧
 ∃v74,ldT v73 0 none=some v74∧
 VS prog 79 [v71,v74] fun r75=>scOk true r75∧
 ∃v76,unT .not r75=some v76∧
 gd v76 false v76 false∧∃v77,gV v76 false (fun r=>cellT o63 3=some r) v77∧
 ∃v78,gV v76 false (fun r=>some x66=some r) v78∧
 ∃v79,gV v76 false (fun r=>(idxT v77 v78=some r∧szOk 1 r)) v79∧
 gd v76 false v76 false∧∃v80,gV v76 false (fun r=>ldT v79 0 none=some r) v80∧
 gd v76 false v76 false∧∃v81,gV v76 false (fun r=>cellT v70 5=some r) v81∧
 ∃v82,gV v76 false (fun r=>lenT v81=some r) v82∧
 ∃v83,gV v76 false (fun r=>mnxT true [v82,(TV.i .i64 1)]=some r) v83∧
 ∃v84,gV v76 false (fun r=>VS prog 77 [v80,v83] fun r'=>r'=r∧scOk true r) v84∧
 ∃v85,gV v76 false (fun r=>unT .not v84=some r) v85∧
 ∃v86,pickT v76 (TV.b true) v85=some v86∧
 condK v86
 (True∧tupOk [(TV.b false)]∧Q (TV.b false))
 (∃v87,binT .add x66 (TV.i .i64 1)=some v87∧
 ∃m62,m62 < n61∧I60 m62 o63 x64 x65 v87))
 (True∧tupOk [(TV.b true)]∧Q (TV.b true))))
theorem vs54 (a0 a1:TV) (Q:TV→Prop) (h:W54 a0 a1 Q):VS prog 54 [a0,a1] Q:=vs_of (sh:=sh) (af:=a54) (vc:=v54) (by kernel_rfl) (by kernel_rfl) (by kernel_rfl) (by kernel_rfl) rfl ((show W54 a0 a1 Q=evFn sh prog a54 v54 [a0,a1] Q by kernel_rfl)▸h)
def v76:VCode:=.seq (.reg r76_0) (.seq (.dreg r76_1 b76_1 []) (.seq (.reg r76_2) (.ret)))
def W76 (a0 a1:TV) (Q:TV→Prop):Prop:=
 TV.isTp a0=false∧
 TV.isTp a1=false∧
 ∃v1,cellT a0 1=some v1∧
 ∃v2,lenT v1=some v2∧
 ∃v3,cellT a0 0=some v3∧
 ∃v4,lenT v3=some v4∧
 ∃v5,cellT a1 0=some v5∧
 ∃v6,lenT v5=some v6∧
 ∃v7,binT .eql v6 v2=some v7∧
 gd v7 true v7 true∧∃v8,gV v7 true (fun r=>cellT a1 1=some r) v8∧
 ∃v9,gV v7 true (fun r=>lenT v8=some r) v9∧
 ∃v10,gV v7 true (fun r=>some v2=some r) v10∧
 ∃v11,gV v7 true (fun r=>binT .eql v9 v10=some r) v11∧
 ∃v12,pickT v7 v11 (TV.b false)=some v12∧
 gd v12 true v12 true∧∃v13,gV v12 true (fun r=>cellT a1 2=some r) v13∧
 ∃v14,gV v12 true (fun r=>lenT v13=some r) v14∧
 ∃v15,gV v12 true (fun r=>some v4=some r) v15∧
 ∃v16,gV v12 true (fun r=>binT .eql v14 v15=some r) v16∧
 ∃v17,pickT v12 v16 (TV.b false)=some v17∧
 gd v17 true v17 true∧∃v18,gV v17 true (fun r=>cellT a1 3=some r) v18∧
 ∃v19,gV v17 true (fun r=>lenT v18=some r) v19∧
 ∃v20,gV v17 true (fun r=>some v4=some r) v20∧
 ∃v21,gV v17 true (fun r=>binT .eql v19 v20=some r) v21∧
 ∃v22,pickT v17 v21 (TV.b false)=some v22∧
 True∧tupOk [v22]∧Q v22
theorem vs76 (a0 a1:TV) (Q:TV→Prop) (h:W76 a0 a1 Q):VS prog 76 [a0,a1] Q:=vs_of (sh:=sh) (af:=a76) (vc:=v76) (by kernel_rfl) (by kernel_rfl) (by kernel_rfl) (by kernel_rfl) rfl ((show W76 a0 a1 Q=evFn sh prog a76 v76 [a0,a1] Q by kernel_rfl)▸h)
def v77:VCode:=.seq (.reg r77_0) (.seq (.reg r77_1) (.ret))
def W77 (a0 a1:TV) (Q:TV→Prop):Prop:=
 ∃v1,binT .geq a0 (TV.i .i64 0)=some v1∧
 ∃v2,gV v1 true (fun r=>some a0=some r) v2∧
 ∃v3,gV v1 true (fun r=>some a1=some r) v3∧
 ∃v4,gV v1 true (fun r=>binT .lss v2 v3=some r) v4∧
 ∃v5,pickT v1 v4 (TV.b false)=some v5∧
 True∧tupOk [v5]∧Q v5
theorem vs77 (a0 a1:TV) (Q:TV→Prop) (h:W77 a0 a1 Q):VS prog 77 [a0,a1] Q:=vs_of (sh:=sh) (af:=a77) (vc:=v77) (by kernel_rfl) (by kernel_rfl) (by kernel_rfl) (by kernel_rfl) rfl ((show W77 a0 a1 Q=evFn sh prog a77 v77 [a0,a1] Q by kernel_rfl)▸h)
def v78:VCode:=.seq (.reg r78_0) (.seq (.reg r78_1) (.ret))
def W78 (a0:TV) (Q:TV→Prop):Prop:=
 ∃v1,binT .geq a0 (TV.i .i64 (-2147483648))=some v1∧
 ∃v2,gV v1 true (fun r=>some a0=some r) v2∧
 ∃v3,gV v1 true (fun r=>binT .leq v2 (TV.i .i64 2147483647)=some r) v3∧
 ∃v4,pickT v1 v3 (TV.b false)=some v4∧
 True∧tupOk [v4]∧Q v4
theorem vs78 (a0:TV) (Q:TV→Prop) (h:W78 a0 Q):VS prog 78 [a0] Q:=vs_of (sh:=sh) (af:=a78) (vc:=v78) (by kernel_rfl) (by kernel_rfl) (by kernel_rfl) (by kernel_rfl) rfl ((show W78 a0 Q=evFn sh prog a78 v78 [a0] Q by kernel_rfl)▸h)
def v79:VCode:=.seq (.reg r79_0) (.seq (.seq (.reg r79_1) (.block 0 (.loop [.ob 2 [],.tr 1,.pt 2 2 0,.tr 7,.tr 8,.tr 9] (.seq (.reg r79_2) (.seq (.cond (.t 10) (.skip) (.exit 0)) (.seq (.block 1 (.seq (.reg r79_3) (.seq (.reg r79_4) (.cond (.t 24) (.seq (.reg r79_5) (.ret)) (.skip))))) (.reg r79_6))))))) (.seq (.reg r79_7) (.ret)))
def W79 (a0 a1:TV) (Q:TV→Prop):Prop:=
 TV.isTp a0=false∧
 ∃v1,lenT a1=some v1∧
 ∃I2:Nat→TV→TV→TV→TV→TV→Prop,(∃n3,I2 n3 a0 a1 a1 v1 (TV.i .i64 0))∧∀n3 o5 x6 x7 x8 x9,I2 n3 o5 x6 x7 x8 x9→
 ∃v10,binT .lss x9 x8=some v10∧
 condK v10
 (∃v11,(idxT x7 x9=some v11∧szOk 2 v11)∧
 ∃v12,ldT v11 0 (some 2)=some v12∧
 ∃v13,putT (TV.a [(TV.i .i64 0),(TV.i .i64 0)]) 0 2 v12=some v13∧
 ∃v14,cellT v13 0=some v14∧
 ∃v15,cellT o5 4=some v15∧
 VS prog 77 [v14,v15] fun r16=>scOk true r16∧
 ∃v17,unT .not r16=some v17∧
 gd v17 false v17 false∧∃v18,gV v17 false (fun r=>cellT v13 1=some r) v18∧
 ∃v19,gV v17 false (fun r=>VS prog 78 [v18] fun r'=>r'=r∧scOk true r) v19∧
 ∃v20,gV v17 false (fun r=>unT .not v19=some r) v20∧
 ∃v21,pickT v17 (TV.b true) v20=some v21∧
 condK v21
 (True∧tupOk [(TV.b false)]∧Q (TV.b false))
 (∃v22,binT .add x9 (TV.i .i64 1)=some v22∧
 ∃m4,m4 < n3∧I2 m4 o5 x6 x7 x8 v22))
 (∃v23,lenT x6=some v23∧
 ∃v24,cellT o5 1=some v24∧
 ∃v25,binT .leq v23 v24=some v25∧
 True∧tupOk [v25]∧Q v25)
theorem vs79 (a0 a1:TV) (Q:TV→Prop) (h:W79 a0 a1 Q):VS prog 79 [a0,a1] Q:=vs_of (sh:=sh) (af:=a79) (vc:=v79) (by kernel_rfl) (by kernel_rfl) (by kernel_rfl) (by kernel_rfl) rfl ((show W79 a0 a1 Q=evFn sh prog a79 v79 [a0,a1] Q by kernel_rfl)▸h)
end Go.Ax.TryLb
