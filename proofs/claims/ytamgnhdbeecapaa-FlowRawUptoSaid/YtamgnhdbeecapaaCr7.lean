/- Part 7 of the proof: LrW. -/
import Derived.Test.YtamgnhdbeecapaaCr0
import Derived.Test.YtamgnhdbeecapaaCr6
import Derived.KernelRfl

set_option linter.unusedVariables false
set_option maxRecDepth 100000
namespace Go.Ax.TryLr
open Go Go.Ax Go.Ax.V
def gd (a:TV) (x:Bool) (b:TV) (y:Bool):Prop:=(a,x)=((b,y):TV×Bool)
def zz0:TV:=TV.a [(TV.i .i64 0),(TV.i .i64 0),(TV.i .i64 0),(TV.l [])]
def zz1:TV:=TV.a [(TV.i .i64 0),(TV.i .i64 0),(TV.i .i64 0),(TV.i .i64 0),(TV.i .i64 0),(TV.l [])]
def zz2:TV:=TV.a [(TV.i .i64 0),(TV.i .i64 0),(TV.i .i64 0),(TV.i .i64 0),(TV.i .i64 0),(TV.i .i64 0),(TV.i .i64 0),(TV.l []),(TV.i .i64 0),(TV.i .i64 0),(TV.i .i64 0),(TV.i .i64 0),(TV.l []),(TV.i .i64 0),(TV.i .i64 0),(TV.i .i64 0),(TV.l []),(TV.l []),(TV.l []),(TV.l [])]
def zz3:TV:=TV.a [(TV.l []),(TV.l []),(TV.i .i64 0),(TV.i .i64 0)]
def zz4:TV:=TV.a [(TV.i .i64 0),(TV.i .i64 0),(TV.i .i64 0),(TV.i .i64 0),(TV.i .i64 0),(TV.i .i64 0),(TV.i .i64 0),(TV.i .i64 0),(TV.i .i64 0),(TV.l []),(TV.i .i64 0),(TV.i .i64 0),(TV.i .i64 0),(TV.i .i64 0),(TV.l []),(TV.i .i64 0),(TV.i .i64 0),(TV.i .i64 0),(TV.l [])]
def zz5:TV:=TV.a [(TV.i .i64 0),(TV.i .i64 0),(TV.i .i64 0),(TV.i .i64 0),(TV.l []),(TV.i .i64 0),(TV.i .i64 0),(TV.i .i64 0),(TV.l [])]
def zz6:TV:=TV.a [(TV.b false),(TV.b false),(TV.b false),(TV.b false)]
def zz7:TV:=TV.s ⟨#[0,1,2,2,3,3,3,3,4,4,4,4,4,4,4,4,5,5,5,5,5,5,5,5,5,5,5,5,5,5,5,5,6,6,6,6,6,6,6,6,6,6,6,6,6,6,6,6,6,6,6,6,6,6,6,6,6,6,6,6,6,6,6,6,7,7,7,7,7,7,7,7,7,7,7,7,7,7,7,7,7,7,7,7,7,7,7,7,7,7,7,7,7,7,7,7,7,7,7,7,7,7,7,7,7,7,7,7,7,7,7,7,7,7,7,7,7,7,7,7,7,7,7,7,7,7,7,7,8,8,8,8,8,8,8,8,8,8,8,8,8,8,8,8,8,8,8,8,8,8,8,8,8,8,8,8,8,8,8,8,8,8,8,8,8,8,8,8,8,8,8,8,8,8,8,8,8,8,8,8,8,8,8,8,8,8,8,8,8,8,8,8,8,8,8,8,8,8,8,8,8,8,8,8,8,8,8,8,8,8,8,8,8,8,8,8,8,8,8,8,8,8,8,8,8,8,8,8,8,8,8,8,8,8,8,8,8,8,8,8,8,8,8,8,8,8,8,8,8,8,8,8,8,8,8,8]⟩
def sgm:Map Sig:=.node none (.node none (.node none (.node none (.node none (.node none (.node (some ⟨[.sl 1],.tr⟩) (.leaf) (.leaf)) (.leaf)) (.node none (.leaf) (.node (some ⟨[.ob [(1,19),(2,1)],.tr,.tr,.tr],.tr⟩) (.leaf) (.leaf)))) (.node none (.node none (.leaf) (.node none (.node (some ⟨[.sl 1,.tr,.tr,.ob []],.tr⟩) (.leaf) (.leaf)) (.leaf))) (.node none (.node (some ⟨[.sl 1,.tr,.tr,.tr],.tr⟩) (.leaf) (.leaf)) (.node (some ⟨[.sl 1,.tr,.tr,.tr],.tr⟩) (.leaf) (.leaf))))) (.node none (.node none (.leaf) (.node none (.leaf) (.node (some ⟨[.sl 1,.tr,.tr],.tr⟩) (.leaf) (.leaf)))) (.leaf))) (.node none (.node none (.node none (.node none (.node (some ⟨[.ob [(1,19),(2,1)],.tr,.tr,.tr],.tr⟩) (.leaf) (.leaf)) (.leaf)) (.node none (.leaf) (.node (some ⟨[.sl 1,.tr,.tr],.tr⟩) (.leaf) (.leaf)))) (.node none (.leaf) (.node none (.node (some ⟨[.ob [(1,19),(2,1)]],.tr⟩) (.node (some ⟨[.sl 1,.tr,.ob []],.tr⟩) (.leaf) (.leaf)) (.leaf)) (.leaf)))) (.node none (.node none (.leaf) (.node none (.node (some ⟨[.ob [(1,19),(2,1)]],.tr⟩) (.leaf) (.leaf)) (.node (some ⟨[.sl 1,.tr,.tr],.tr⟩) (.leaf) (.leaf)))) (.leaf)))) (.node none (.node none (.node none (.node none (.leaf) (.node none (.leaf) (.node (some ⟨[.sl 1,.tr,.tr],.tr⟩) (.leaf) (.leaf)))) (.node none (.leaf) (.node none (.node none (.node (some ⟨[.ob []],.tr⟩) (.leaf) (.leaf)) (.leaf)) (.node (some ⟨[.sl 1,.tr,.tr,.tr],.tr⟩) (.leaf) (.leaf))))) (.node none (.node none (.leaf) (.node none (.node (some ⟨[.ob [(1,19),(2,1)],.tr],.tr⟩) (.leaf) (.leaf)) (.node (some ⟨[.sl 1,.tr,.tr],.tr⟩) (.leaf) (.leaf)))) (.node none (.node none (.leaf) (.node (some ⟨[.ob [(1,19),(2,1)],.tr,.tr,.tr,.tr],.tr⟩) (.leaf) (.leaf))) (.leaf)))) (.node none (.node none (.node none (.leaf) (.node none (.leaf) (.node (some ⟨[.sl 1,.tr,.tr],.tr⟩) (.leaf) (.leaf)))) (.node none (.leaf) (.node none (.node (some ⟨[.ob [(1,19),(2,1)],.tr,.tr,.tr],.tr⟩) (.node (some ⟨[.sl 1,.tr,.tr,.tr,.ob []],.tr⟩) (.leaf) (.leaf)) (.leaf)) (.leaf)))) (.node none (.node none (.leaf) (.node none (.node (some ⟨[.ob [(1,19),(2,1)],.tr,.tr,.tr],.tr⟩) (.node (some ⟨[.sl 1,.tr,.tr,.tr],.tr⟩) (.leaf) (.leaf)) (.leaf)) (.leaf))) (.node none (.node none (.leaf) (.node (some ⟨[.ob [(1,19),(2,1)],.tr,.tr,.tr],.tr⟩) (.leaf) (.leaf))) (.node (some ⟨[.ob [(1,19),(2,1)],.tr,.tr,.tr],.tr⟩) (.leaf) (.leaf))))))
noncomputable def sh:Sh:=⟨fun f=>sgm.get f,VSh prog⟩
def S62 (Q:TV→List TV→List TV→TV→Prop) (x0:TV) (x1:List TV) (x2:List TV) (x3:TV) (x4:TV) (x5:TV):Prop:=VSh prog 62 4 (jin [.ob [(1,19),(2,1)],.tr,.tr,.tr] 0) (jout 4 (.tr) [.ob [(1,19),(2,1)],.tr,.tr,.tr] 0) Q x0 x1 x2 x3 x4 x5
def S63 (Q:List TV→TV→Prop) (x0:List TV):Prop:=VSh prog 63 1 (jin [.sl 1] 0) (jout 1 (.tr) [.sl 1] 0) Q x0
def S65 (Q:TV→List TV→List TV→TV→Prop) (x0:TV) (x1:List TV) (x2:List TV) (x3:TV) (x4:TV) (x5:TV):Prop:=VSh prog 65 4 (jin [.ob [(1,19),(2,1)],.tr,.tr,.tr] 0) (jout 4 (.tr) [.ob [(1,19),(2,1)],.tr,.tr,.tr] 0) Q x0 x1 x2 x3 x4 x5
def S84 (Q:TV→List TV→List TV→TV→Prop) (x0:TV) (x1:List TV) (x2:List TV) (x3:TV):Prop:=VSh prog 84 2 (jin [.ob [(1,19),(2,1)],.tr] 0) (jout 2 (.tr) [.ob [(1,19),(2,1)],.tr] 0) Q x0 x1 x2 x3
def S85 (Q:TV→List TV→List TV→TV→Prop) (x0:TV) (x1:List TV) (x2:List TV):Prop:=VSh prog 85 1 (jin [.ob [(1,19),(2,1)]] 0) (jout 1 (.tr) [.ob [(1,19),(2,1)]] 0) Q x0 x1 x2
def S86 (Q:TV→List TV→List TV→TV→Prop) (x0:TV) (x1:List TV) (x2:List TV) (x3:TV) (x4:TV) (x5:TV):Prop:=VSh prog 86 4 (jin [.ob [(1,19),(2,1)],.tr,.tr,.tr] 0) (jout 4 (.tr) [.ob [(1,19),(2,1)],.tr,.tr,.tr] 0) Q x0 x1 x2 x3 x4 x5
def S87 (Q:List TV→TV→Prop) (x0:List TV) (x1:TV) (x2:TV) (x3:TV):Prop:=VSh prog 87 4 (jin [.sl 1,.tr,.tr,.tr] 0) (jout 4 (.tr) [.sl 1,.tr,.tr,.tr] 0) Q x0 x1 x2 x3
def S89 (Q:TV→List TV→List TV→TV→Prop) (x0:TV) (x1:List TV) (x2:List TV):Prop:=VSh prog 89 1 (jin [.ob [(1,19),(2,1)]] 0) (jout 1 (.tr) [.ob [(1,19),(2,1)]] 0) Q x0 x1 x2
def S90 (Q:TV→List TV→List TV→TV→Prop) (x0:TV) (x1:List TV) (x2:List TV) (x3:TV) (x4:TV) (x5:TV):Prop:=VSh prog 90 4 (jin [.ob [(1,19),(2,1)],.tr,.tr,.tr] 0) (jout 4 (.tr) [.ob [(1,19),(2,1)],.tr,.tr,.tr] 0) Q x0 x1 x2 x3 x4 x5
def S108 (Q:TV→List TV→List TV→TV→Prop) (x0:TV) (x1:List TV) (x2:List TV) (x3:TV) (x4:TV) (x5:TV) (x6:TV):Prop:=VSh prog 108 5 (jin [.ob [(1,19),(2,1)],.tr,.tr,.tr,.tr] 0) (jout 5 (.tr) [.ob [(1,19),(2,1)],.tr,.tr,.tr,.tr] 0) Q x0 x1 x2 x3 x4 x5 x6
def S110 (Q:TV→List TV→List TV→TV→Prop) (x0:TV) (x1:List TV) (x2:List TV) (x3:TV) (x4:TV) (x5:TV):Prop:=VSh prog 110 4 (jin [.ob [(1,19),(2,1)],.tr,.tr,.tr] 0) (jout 4 (.tr) [.ob [(1,19),(2,1)],.tr,.tr,.tr] 0) Q x0 x1 x2 x3 x4 x5
def S111 (Q:TV→List TV→List TV→TV→Prop) (x0:TV) (x1:List TV) (x2:List TV) (x3:TV) (x4:TV) (x5:TV):Prop:=VSh prog 111 4 (jin [.ob [(1,19),(2,1)],.tr,.tr,.tr] 0) (jout 4 (.tr) [.ob [(1,19),(2,1)],.tr,.tr,.tr] 0) Q x0 x1 x2 x3 x4 x5
def S112 (Q:List TV→TV→Prop) (x0:List TV) (x1:TV) (x2:TV):Prop:=VSh prog 112 3 (jin [.sl 1,.tr,.tr] 0) (jout 3 (.tr) [.sl 1,.tr,.tr] 0) Q x0 x1 x2
def S113 (Q:List TV→TV→Prop) (x0:List TV) (x1:TV) (x2:TV):Prop:=VSh prog 113 3 (jin [.sl 1,.tr,.tr] 0) (jout 3 (.tr) [.sl 1,.tr,.tr] 0) Q x0 x1 x2
def S114 (Q:List TV→TV→Prop) (x0:List TV) (x1:TV) (x2:TV):Prop:=VSh prog 114 3 (jin [.sl 1,.tr,.tr] 0) (jout 3 (.tr) [.sl 1,.tr,.tr] 0) Q x0 x1 x2
def S115 (Q:List TV→TV→Prop) (x0:List TV) (x1:TV) (x2:TV):Prop:=VSh prog 115 3 (jin [.sl 1,.tr,.tr] 0) (jout 3 (.tr) [.sl 1,.tr,.tr] 0) Q x0 x1 x2
def S116 (Q:List TV→TV→Prop) (x0:List TV) (x1:TV) (x2:TV):Prop:=VSh prog 116 3 (jin [.sl 1,.tr,.tr] 0) (jout 3 (.tr) [.sl 1,.tr,.tr] 0) Q x0 x1 x2
def S117 (Q:List TV→TV→Prop) (x0:List TV) (x1:TV) (x2:TV):Prop:=VSh prog 117 3 (jin [.sl 1,.tr,.tr] 0) (jout 3 (.tr) [.sl 1,.tr,.tr] 0) Q x0 x1 x2
def S119 (Q:List TV→TV→Prop) (x0:List TV) (x1:TV) (x2:TV) (x3:TV):Prop:=VSh prog 119 4 (jin [.sl 1,.tr,.tr,.tr] 0) (jout 4 (.tr) [.sl 1,.tr,.tr,.tr] 0) Q x0 x1 x2 x3
def S120 (Q:List TV→TV→Prop) (x0:List TV) (x1:TV) (x2:TV) (x3:TV):Prop:=VSh prog 120 4 (jin [.sl 1,.tr,.tr,.tr] 0) (jout 4 (.tr) [.sl 1,.tr,.tr,.tr] 0) Q x0 x1 x2 x3
def S150 (Q:List TV→TV→Prop) (x0:List TV) (x1:TV) (x2:TV) (x3:TV):Prop:=VSh prog 150 4 (jin [.sl 1,.tr,.tr,.tr] 0) (jout 4 (.tr) [.sl 1,.tr,.tr,.tr] 0) Q x0 x1 x2 x3
def S152 (Q:TV→TV→Prop) (x0:TV):Prop:=VSh prog 152 1 (jin [.ob []] 0) (jout 1 (.tr) [.ob []] 0) Q x0
def S153 (Q:List TV→TV→TV→Prop) (x0:List TV) (x1:TV) (x2:TV):Prop:=VSh prog 153 3 (jin [.sl 1,.tr,.ob []] 0) (jout 3 (.tr) [.sl 1,.tr,.ob []] 0) Q x0 x1 x2
def S154 (Q:List TV→TV→TV→Prop) (x0:List TV) (x1:TV) (x2:TV) (x3:TV) (x4:TV):Prop:=VSh prog 154 5 (jin [.sl 1,.tr,.tr,.tr,.ob []] 0) (jout 5 (.tr) [.sl 1,.tr,.tr,.tr,.ob []] 0) Q x0 x1 x2 x3 x4
def S167 (Q:List TV→TV→TV→Prop) (x0:List TV) (x1:TV) (x2:TV) (x3:TV):Prop:=VSh prog 167 4 (jin [.sl 1,.tr,.tr,.ob []] 0) (jout 4 (.tr) [.sl 1,.tr,.tr,.ob []] 0) Q x0 x1 x2 x3
def v11:VCode:=.seq (.reg r11_0) (.seq (.reg r11_1) (.seq (.reg r11_2) (.seq (.seq (.reg r11_3) (.cond (.t 33) (.seq (.reg r11_4) (.ret)) (.skip))) (.seq (.reg r11_5) (.ret)))))
def W11 (a0:TV) (Q:TV→Prop):Prop:=
 TV.isTp a0=false∧
 ∃v1,subT a0 0 2=some v1∧
 VS prog 44 [v1] fun r2=>scOk true r2∧
 VS prog 43 [r2] fun r3=>scOk true r3∧
 ∃v4,extT 0 r3=some v4∧
 ∃v5,extT 1 r3=some v5∧
 ∃v6,putT (TV.a [(TV.l []),(TV.l []),(TV.l [])]) 0 3 v4=some v6∧
 ∃v7,subT a0 0 2=some v7∧
 VS prog 45 [v7] fun r8=>scOk true r8∧
 ∃v9,extT 0 r8=some v9∧
 ∃v10,extT 1 r8=some v10∧
 ∃v11,putT (TV.a [(TV.l []),(TV.l []),(TV.l [])]) 0 3 v9=some v11∧
 VS prog 46 [] fun r12=>scOk true r12∧
 ∃v13,unT .not r12=some v13∧
 ∃v14,gV v13 false (fun r=>some v5=some r) v14∧
 ∃v15,gV v13 false (fun r=>some v10=some r) v15∧
 ∃v16,gV v13 false (fun r=>binT .neq v14 v15=some r) v16∧
 ∃v17,pickT v13 (TV.b true) v16=some v17∧
 gd v17 false v17 false∧∃v18,gV v17 false (fun r=>cellT v6 1=some r) v18∧
 ∃v19,gV v17 false (fun r=>lenT v18=some r) v19∧
 gd v17 false v17 false∧∃v20,gV v17 false (fun r=>cellT v11 1=some r) v20∧
 ∃v21,gV v17 false (fun r=>lenT v20=some r) v21∧
 ∃v22,gV v17 false (fun r=>binT .neq v19 v21=some r) v22∧
 ∃v23,pickT v17 (TV.b true) v22=some v23∧
 condK v23
 (True∧tupOk [(TV.b false)]∧Q (TV.b false))
 (∃v24,binT .neq v5 (TV.i .i64 1)=some v24∧
 ∃v25,gV v24 false (fun r=>subT a0 0 2=some r) v25∧
 ∃v26,gV v24 false (fun r=>VS prog 47 [v25] fun r'=>r'=r∧scOk true r) v26∧
 ∃v27,gV v24 false (fun r=>unT .not v26=some r) v27∧
 ∃v28,pickT v24 (TV.b true) v27=some v28∧
 True∧tupOk [v28]∧Q v28)
theorem vs11 (a0:TV) (Q:TV→Prop) (h:W11 a0 Q):VS prog 11 [a0] Q:=vs_of (sh:=sh) (af:=a11) (vc:=v11) (by kernel_rfl) (by kernel_rfl) (by kernel_rfl) (by kernel_rfl) rfl ((show W11 a0 Q=evFn sh prog a11 v11 [a0] Q by kernel_rfl)▸h)
def v36:VCode:=.seq (.reg r36_0) (.seq (.reg r36_1) (.seq (.seq (.reg r36_2) (.block 0 (.loop [.ob 1 [],.ob 2 [(3,4)],.ob 3 [(3,4)],.pt 1 1 0,.pt 2 2 0,.pt 3 3 0,.tr 4] (.seq (.seq (.reg r36_3) (.cond (.t 16) (.skip) (.exit 0))) (.seq (.block 1 (.dreg r36_5 b36_5 [(1,8)])) (.reg r36_4)))))) (.seq (.reg r36_6) (.ret))))
def W36 (a0:TV) (Q:TV→Prop):Prop:=
 TV.isTp a0=false∧
 ∃v1,cellT a0 0=some v1∧
 ∃v2,cellT a0 1=some v2∧
 ∃v3,cellT a0 2=some v3∧
 ∃v4,putT zz0 0 1 v1=some v4∧
 ∃v5,putT v4 1 1 v2=some v5∧
 ∃v6,putT v5 2 1 v3=some v6∧
 ∃v7,putT zz0 0 4 v6=some v7∧
 ∃I8:Nat→TV→TV→List TV→TV→List TV→TV→Prop,(∃n9,I8 n9 a0 zz0 [] v7 [] (TV.i .i64 0))∧∀n9 o11 o12 l13 o14 l15 x16,I8 n9 o11 o12 l13 o14 l15 x16→
 ∃v17,cellT o11 3=some v17∧
 ∃v18,lenT v17=some v18∧
 ∃v19,binT .lss x16 v18=some v19∧
 condK v19
 (∃v20,cellT o11 3=some v20∧
 ∃v21,(idxT v20 x16=some v21∧szOk 4 v21)∧
 ∃v22,ldT v21 0 (some 4)=some v22∧
 VS prog 36 [v22] fun r23=>scOk true r23∧
 (Nat.beq 0 (0*4)&&Nat.beq 4 4)=true∧szOk 4 r23∧
 ∃v24,listT (TV.l [r23])=some v24∧szHd 4 v24∧
 ∃v25,appT 48 l15 v24=some v25∧
 ∃v26,putT o14 3 1 (TV.l [])=some v26∧
 ∃v27,binT .add x16 (TV.i .i64 1)=some v27∧
 ∃m10,m10 < n9∧I8 m10 o11 o12 l13 v26 v25 v27)
 (∃v28,subT o14 0 4=some v28∧
 ∃v29,putT o12 0 4 v28=some v29∧
 True∧∃v30,subT v29 0 4=some v30∧
 ∃v31,putT v30 3 1 (TV.l l15)=some v31∧
 tupOk [v31]∧Q v31)
theorem vs36 (a0:TV) (Q:TV→Prop) (h:W36 a0 Q):VS prog 36 [a0] Q:=vs_of (sh:=sh) (af:=a36) (vc:=v36) (by kernel_rfl) (by kernel_rfl) (by kernel_rfl) (by kernel_rfl) rfl ((show W36 a0 Q=evFn sh prog a36 v36 [a0] Q by kernel_rfl)▸h)
def v41:VCode:=.seq (.reg r41_0) (.seq (.seq (.reg r41_1) (.block 0 (.seq (.reg r41_2) (.cond (.t 4) (.seq (.reg r41_3) (.ret)) (.seq (.reg r41_4) (.cond (.t 6) (.seq (.reg r41_5) (.ret)) (.seq (.reg r41_6) (.cond (.t 8) (.seq (.reg r41_7) (.ret)) (.seq (.reg r41_8) (.cond (.t 10) (.seq (.reg r41_9) (.ret)) (.seq (.reg r41_10) (.cond (.t 12) (.seq (.reg r41_11) (.ret)) (.seq (.reg r41_12) (.cond (.t 14) (.seq (.reg r41_13) (.ret)) (.skip))))))))))))))) (.seq (.reg r41_14) (.ret)))
def W41 (a0:TV) (Q:TV→Prop):Prop:=
 ∃v1,binT .eql a0 (TV.i .i64 1)=some v1∧
 condK v1
 (True∧tupOk [(TV.i .i64 2)]∧Q (TV.i .i64 2))
 (∃v2,binT .eql a0 (TV.i .i64 2)=some v2∧
 condK v2
 (True∧tupOk [(TV.i .i64 1)]∧Q (TV.i .i64 1))
 (∃v3,binT .eql a0 (TV.i .i64 3)=some v3∧
 condK v3
 (True∧tupOk [(TV.i .i64 6)]∧Q (TV.i .i64 6))
 (∃v4,binT .eql a0 (TV.i .i64 4)=some v4∧
 condK v4
 (True∧tupOk [(TV.i .i64 5)]∧Q (TV.i .i64 5))
 (∃v5,binT .eql a0 (TV.i .i64 5)=some v5∧
 condK v5
 (True∧tupOk [(TV.i .i64 4)]∧Q (TV.i .i64 4))
 (∃v6,binT .eql a0 (TV.i .i64 6)=some v6∧
 condK v6
 (True∧tupOk [(TV.i .i64 3)]∧Q (TV.i .i64 3))
 (True∧tupOk [(TV.i .i64 0)]∧Q (TV.i .i64 0)))))))
theorem vs41 (a0:TV) (Q:TV→Prop) (h:W41 a0 Q):VS prog 41 [a0] Q:=vs_of (sh:=sh) (af:=a41) (vc:=v41) (by kernel_rfl) (by kernel_rfl) (by kernel_rfl) (by kernel_rfl) rfl ((show W41 a0 Q=evFn sh prog a41 v41 [a0] Q by kernel_rfl)▸h)
def v43:VCode:=.seq (.reg r43_0) (.seq (.seq (.reg r43_1) (.cond (.t 10) (.seq (.reg r43_2) (.ret)) (.skip))) (.seq (.reg r43_3) (.seq (.seq (.reg r43_4) (.block 0 (.loop [.ob 2 [(0,6),(1,3),(2,1)],.ob 4 [(1,3),(2,1)],.pt 2 2 0,.pt 4 4 0,.tr 17,.tr 18,.tr 19] (.seq (.reg r43_5) (.seq (.cond (.t 20) (.skip) (.exit 0)) (.seq (.block 1 (.seq (.reg r43_6) (.seq (.reg r43_7) (.seq (.reg r43_8) (.seq (.seq (.reg r43_9) (.cond (.t 30) (.seq (.reg r43_10) (.ret)) (.skip))) (.seq (.reg r43_11) (.dreg r43_12 b43_12 [(1,3),(3,6),(4,6),(3,8),(4,8)]))))))) (.reg r43_13))))))) (.seq (.reg r43_14) (.ret)))))
def W43 (a0:TV) (Q:TV→Prop):Prop:=
 TV.isTp a0=false∧
 ∃v1,subT a0 0 2=some v1∧
 VS prog 60 [v1] fun r2=>scOk true r2∧
 ∃v3,unT .not r2=some v3∧
 condK v3
 (∃v4,putT (TV.a [(TV.l []),(TV.l []),(TV.l [])]) 0 3 (TV.a [(TV.l []),(TV.l []),(TV.l [])])=some v4∧
 True∧∃v5,subT v4 0 3=some v5∧
 ∃v6,putT v5 2 1 (TV.l [])=some v6∧
 ∃v7,putT v6 1 1 (TV.l [])=some v7∧
 ∃v8,putT v7 0 1 (TV.l [])=some v8∧
 tupOk [v8,(TV.i .i64 1)]∧Q (TV.tp [v8,(TV.i .i64 1)]))
 (∃v9,cellT a0 0=some v9∧
 VS prog 61 [v9] fun r10=>scOk true r10∧
 ∃v11,putT (TV.a [(TV.l []),(TV.l []),(TV.l [])]) 0 1 r10=some v11∧
 ∃v12,putT (TV.a [(TV.l []),(TV.l []),(TV.l [])]) 0 3 v11=some v12∧
 ∃v13,cellT a0 1=some v13∧
 ∃v14,lenT v13=some v14∧
 ∃I15:Nat→TV→List TV→List TV→List TV→TV→List TV→List TV→TV→TV→TV→Prop,(∃n16,I15 n16 (TV.a [(TV.l []),(TV.l []),(TV.l [])]) [] [] [] v12 [] [] v13 v14 (TV.i .i64 0))∧∀n16 o18 l19 l20 l21 o22 l23 l24 x25 x26 x27,I15 n16 o18 l19 l20 l21 o22 l23 l24 x25 x26 x27→
 ∃v28,binT .lss x27 x26=some v28∧
 condK v28
 (∃v29,(idxT x25 x27=some v29∧szOk 2 v29)∧
 ∃v30,ldT v29 0 (some 2)=some v30∧
 ∃v31,putT (TV.a [(TV.i .i64 0),(TV.l [])]) 0 2 v30=some v31∧
 ∃v32,putT (TV.a [(TV.i .i64 0),(TV.l []),(TV.l [])]) 0 1 (TV.i .i64 2)=some v32∧
 ∃v33,putT (TV.a [(TV.i .i64 0),(TV.l []),(TV.l [])]) 0 3 v32=some v33∧
 ∃v34,cellT v31 1=some v34∧
 S62 (fun (o35:TV) (l36:List TV) (l37:List TV) (r38:TV)=>
 ∃v39,some (TV.i .i64 (List.length l36))=some v39∧
 ∃v40,binT .gtr v39 (TV.i .i64 400)=some v40∧
 condK v40
 (∃v41,putT o18 0 3 (TV.a [(TV.l []),(TV.l []),(TV.l [])])=some v41∧
 True∧∃v42,subT v41 0 3=some v42∧
 ∃v43,putT v42 2 1 (TV.l [])=some v43∧
 ∃v44,putT v43 1 1 (TV.l [])=some v44∧
 ∃v45,putT v44 0 1 (TV.l [])=some v45∧
 tupOk [v45,(TV.i .i64 10)]∧Q (TV.tp [v45,(TV.i .i64 10)]))
 (S63 (fun (l46:List TV) (r47:TV)=>
 ∃v48,subT o35 0 3=some v48∧
 (Nat.beq 0 (0*3)&&Nat.beq 3 3)=true∧true=true∧∃v49,putT v48 2 1 (TV.l l46)=some v49∧
 ∃v50,putT v49 1 1 (TV.l l36)=some v50∧
 szOk 3 v50∧
 ∃v51,listT (TV.l [v50])=some v51∧szHd 3 v51∧
 ∃v52,appT 56 l23 v51=some v52∧
 ∃v53,cellT v31 0=some v53∧
 (Nat.beq 0 (0*1)&&Nat.beq 1 1)=true∧szOk 1 v53∧
 ∃v54,listT (TV.l [v53])=some v54∧szHd 1 v54∧
 ∃v55,appT 8 l24 v54=some v55∧
 ∃v56,putT o22 1 1 (TV.l [])=some v56∧
 ∃v57,putT v56 2 1 (TV.l [])=some v57∧
 ∃v58,binT .add x27 (TV.i .i64 1)=some v58∧
 ∃m17,m17 < n16∧I15 m17 o18 l19 l20 l21 v57 v52 v55 x25 x26 v58)
 l37))
 v33 [] [] v34 (TV.i .i64 0) (TV.i .i64 1))
 (∃v59,subT o22 0 3=some v59∧
 ∃v60,putT o18 0 3 v59=some v60∧
 True∧∃v61,subT v60 0 3=some v61∧
 ∃v62,putT v61 2 1 (TV.l l24)=some v62∧
 ∃v63,putT v62 1 1 (TV.l l23)=some v63∧
 tupOk [v63,(TV.i .i64 0)]∧Q (TV.tp [v63,(TV.i .i64 0)])))
theorem vs43 (a0:TV) (Q:TV→Prop) (h:W43 a0 Q):VS prog 43 [a0] Q:=vs_of (sh:=sh) (af:=a43) (vc:=v43) (by kernel_rfl) (by kernel_rfl) (by kernel_rfl) (by kernel_rfl) rfl ((show W43 a0 Q=evFn sh prog a43 v43 [a0] Q by kernel_rfl)▸h)
def v44:VCode:=.seq (.reg r44_0) (.seq (.reg r44_1) (.seq (.seq (.reg r44_2) (.block 0 (.loop [.ob 1 [],.ob 2 [(0,6),(1,2)],.ob 3 [(0,6),(1,2)],.pt 1 1 0,.pt 2 2 0,.pt 3 3 0,.tr 4] (.seq (.seq (.reg r44_3) (.cond (.t 13) (.skip) (.exit 0))) (.seq (.block 1 (.seq (.reg r44_5) (.seq (.reg r44_6) (.seq (.seq (.reg r44_7) (.block 2 (.loop [.ob 1 [],.ob 2 [(0,6),(1,2)],.ob 3 [(0,6),(1,2)],.ob 5 [],.ob 6 [(5,1)],.pt 1 1 0,.pt 2 2 0,.pt 3 3 0,.tr 4,.pt 5 5 0,.pt 6 6 0,.tr 7] (.seq (.seq (.reg r44_8) (.cond (.t 36) (.skip) (.exit 2))) (.seq (.block 3 (.dreg r44_10 b44_10 [(1,8),(1,9)])) (.reg r44_9)))))) (.reg r44_11))))) (.reg r44_4)))))) (.seq (.seq (.reg r44_12) (.block 4 (.loop [.ob 1 [],.ob 2 [(0,6),(1,2)],.ob 3 [(0,6),(1,2)],.pt 1 1 0,.pt 2 2 0,.pt 3 3 0,.tr 8] (.seq (.seq (.reg r44_13) (.cond (.t 61) (.skip) (.exit 4))) (.seq (.block 5 (.dreg r44_15 b44_15 [(1,16)])) (.reg r44_14)))))) (.seq (.reg r44_16) (.ret)))))
def W44 (a0:TV) (Q:TV→Prop):Prop:=
 TV.isTp a0=false∧
 ∃I1:Nat→TV→TV→List TV→List TV→TV→List TV→List TV→TV→Prop,(∃n2,I1 n2 a0 (TV.a [(TV.l []),(TV.l [])]) [] [] (TV.a [(TV.l []),(TV.l [])]) [] [] (TV.i .i64 0))∧∀n2 o4 o5 l6 l7 o8 l9 l10 x11,I1 n2 o4 o5 l6 l7 o8 l9 l10 x11→
 ∃v12,cellT o4 0=some v12∧
 ∃v13,lenT v12=some v13∧
 ∃v14,binT .lss x11 v13=some v14∧
 condK v14
 (∃v15,cellT o4 0=some v15∧
 ∃v16,(idxT v15 x11=some v16∧szOk 6 v16)∧
 ∃v17,ldT v16 0 (some 6)=some v17∧
 ∃v18,putT zz1 0 6 v17=some v18∧
 ∃v19,cellT v18 0=some v19∧
 ∃v20,cellT v18 1=some v20∧
 ∃v21,cellT v18 2=some v21∧
 ∃v22,cellT v18 3=some v22∧
 ∃v23,cellT v18 4=some v23∧
 ∃v24,putT zz1 0 1 v19=some v24∧
 ∃v25,putT v24 1 1 v20=some v25∧
 ∃v26,putT v25 2 1 v21=some v26∧
 ∃v27,putT v26 3 1 v22=some v27∧
 ∃v28,putT v27 4 1 v23=some v28∧
 ∃v29,putT zz1 0 6 v28=some v29∧
 ∃I30:Nat→TV→TV→List TV→List TV→TV→List TV→List TV→TV→TV→List TV→TV→TV→Prop,(∃n31,I30 n31 o4 o5 l6 l7 o8 l9 l10 v18 v29 [] x11 (TV.i .i64 0))∧∀n31 o33 o34 l35 l36 o37 l38 l39 o40 o41 l42 x43 x44,I30 n31 o33 o34 l35 l36 o37 l38 l39 o40 o41 l42 x43 x44→
 ∃v45,cellT o40 5=some v45∧
 ∃v46,lenT v45=some v46∧
 ∃v47,binT .lss x44 v46=some v47∧
 condK v47
 (∃v48,cellT o40 5=some v48∧
 ∃v49,(idxT v48 x44=some v49∧szOk 1 v49)∧
 ∃v50,ldT v49 0 none=some v50∧
 ∃v51,listT v50=some v51∧szHd 1 v51∧
 ∃v52,appT 8 [] v51=some v52∧
 (Nat.beq 0 (0*1)&&Nat.beq 1 1)=true∧true=true∧1=1∧∃v53,listT (TV.l [(TV.l v52)])=some v53∧szHd 1 v53∧
 ∃v54,appT 24 l42 v53=some v54∧
 ∃v55,putT o41 5 1 (TV.l [])=some v55∧
 ∃v56,binT .add x44 (TV.i .i64 1)=some v56∧
 ∃m32,m32 < n31∧I30 m32 o33 o34 l35 l36 o37 l38 l39 o40 v55 v54 x43 v56)
 (∃v57,subT o41 0 6=some v57∧
 (Nat.beq 0 (0*6)&&Nat.beq 6 6)=true∧true=true∧∃v58,putT v57 5 1 (TV.l l42)=some v58∧
 szOk 6 v58∧
 ∃v59,listT (TV.l [v58])=some v59∧szHd 6 v59∧
 ∃v60,appT 64 l38 v59=some v60∧
 ∃v61,putT o37 0 1 (TV.l [])=some v61∧
 ∃v62,binT .add x43 (TV.i .i64 1)=some v62∧
 ∃m3,m3 < n2∧I1 m3 o33 o34 l35 l36 v61 v60 l39 v62))
 (∃I63:Nat→TV→TV→List TV→List TV→TV→List TV→List TV→TV→Prop,(∃n64,I63 n64 o4 o5 l6 l7 o8 l9 l10 (TV.i .i64 0))∧∀n64 o66 o67 l68 l69 o70 l71 l72 x73,I63 n64 o66 o67 l68 l69 o70 l71 l72 x73→
 ∃v74,cellT o66 1=some v74∧
 ∃v75,lenT v74=some v75∧
 ∃v76,binT .lss x73 v75=some v76∧
 condK v76
 (∃v77,cellT o66 1=some v77∧
 ∃v78,(idxT v77 x73=some v78∧szOk 2 v78)∧
 ∃v79,ldT v78 0 none=some v79∧
 ∃v80,cellT o66 1=some v80∧
 ∃v81,(idxT v80 x73=some v81∧szOk 2 v81)∧
 ∃v82,ldT v81 1 none=some v82∧
 VS prog 64 [v82] fun r83=>scOk true r83∧
 ∃v84,putT (TV.a [(TV.i .i64 0),(TV.l [])]) 0 1 v79=some v84∧
 ∃v85,putT v84 1 1 r83=some v85∧
 (Nat.beq 0 (0*2)&&Nat.beq 2 2)=true∧szOk 2 v85∧
 ∃v86,listT (TV.l [v85])=some v86∧szHd 2 v86∧
 ∃v87,appT 32 l72 v86=some v87∧
 ∃v88,putT o70 1 1 (TV.l [])=some v88∧
 ∃v89,binT .add x73 (TV.i .i64 1)=some v89∧
 ∃m65,m65 < n64∧I63 m65 o66 o67 l68 l69 v88 l71 v87 v89)
 (∃v90,subT o70 0 2=some v90∧
 ∃v91,putT o67 0 2 v90=some v91∧
 True∧∃v92,subT v91 0 2=some v92∧
 ∃v93,putT v92 1 1 (TV.l l72)=some v93∧
 ∃v94,putT v93 0 1 (TV.l l71)=some v94∧
 tupOk [v94]∧Q v94))
theorem vs44 (a0:TV) (Q:TV→Prop) (h:W44 a0 Q):VS prog 44 [a0] Q:=vs_of (sh:=sh) (af:=a44) (vc:=v44) (by kernel_rfl) (by kernel_rfl) (by kernel_rfl) (by kernel_rfl) rfl ((show W44 a0 Q=evFn sh prog a44 v44 [a0] Q by kernel_rfl)▸h)
def v45:VCode:=.seq (.reg r45_0) (.seq (.seq (.reg r45_1) (.cond (.t 11) (.seq (.reg r45_2) (.ret)) (.skip))) (.seq (.reg r45_3) (.seq (.seq (.reg r45_4) (.block 0 (.loop [.ob 1 [],.ob 2 [(0,6),(1,3),(2,1)],.ob 4 [(1,3),(2,1)],.pt 1 1 0,.pt 2 2 0,.pt 4 4 0,.tr 5] (.seq (.seq (.reg r45_5) (.cond (.t 20) (.skip) (.exit 0))) (.seq (.block 1 (.seq (.reg r45_7) (.seq (.reg r45_8) (.seq (.seq (.reg r45_9) (.cond (.t 34) (.seq (.reg r45_10) (.ret)) (.skip))) (.seq (.seq (.reg r45_11) (.block 2 (.loop [.ob 1 [],.ob 2 [(0,6),(1,3),(2,1)],.ob 4 [(1,3),(2,1)],.ob 6 [(1,19),(2,1)],.pt 1 1 0,.pt 2 2 0,.pt 4 4 0,.tr 5,.pt 6 6 0,.tr 7] (.seq (.seq (.reg r45_12) (.cond (.t 40) (.skip) (.exit 2))) (.seq (.block 3 (.seq (.reg r45_14) (.block 4 (.loop [.ob 1 [],.ob 2 [(0,6),(1,3),(2,1)],.ob 4 [(1,3),(2,1)],.ob 6 [(1,19),(2,1)],.pt 1 1 0,.pt 2 2 0,.pt 4 4 0,.tr 5,.pt 6 6 0,.tr 7,.tr 8] (.seq (.seq (.dreg r45_15 b45_15 []) (.cond (.t 59) (.skip) (.exit 4))) (.seq (.block 5 (.dreg r45_17 b45_17 [])) (.reg r45_16))))))) (.reg r45_13)))))) (.dreg r45_18 b45_18 [(1,3),(3,6),(4,6),(3,8),(4,8),(3,12),(4,12)])))))) (.reg r45_6)))))) (.seq (.reg r45_19) (.ret)))))
def W45 (a0:TV) (Q:TV→Prop):Prop:=
 TV.isTp a0=false∧
 ∃v1,subT a0 0 2=some v1∧
 VS prog 47 [v1] fun r2=>scOk true r2∧
 ∃v3,unT .not r2=some v3∧
 condK v3
 (∃v4,putT (TV.a [(TV.l []),(TV.l []),(TV.l [])]) 0 3 (TV.a [(TV.l []),(TV.l []),(TV.l [])])=some v4∧
 True∧∃v5,subT v4 0 3=some v5∧
 ∃v6,putT v5 2 1 (TV.l [])=some v6∧
 ∃v7,putT v6 1 1 (TV.l [])=some v7∧
 ∃v8,putT v7 0 1 (TV.l [])=some v8∧
 tupOk [v8,(TV.i .i64 1)]∧Q (TV.tp [v8,(TV.i .i64 1)]))
 (∃v9,cellT a0 0=some v9∧
 ∃v10,putT (TV.a [(TV.l []),(TV.l []),(TV.l [])]) 0 1 v9=some v10∧
 ∃v11,putT (TV.a [(TV.l []),(TV.l []),(TV.l [])]) 0 3 v10=some v11∧
 ∃I12:Nat→TV→TV→List TV→List TV→List TV→TV→List TV→List TV→TV→Prop,(∃n13,I12 n13 a0 (TV.a [(TV.l []),(TV.l []),(TV.l [])]) [] [] [] v11 [] [] (TV.i .i64 0))∧∀n13 o15 o16 l17 l18 l19 o20 l21 l22 x23,I12 n13 o15 o16 l17 l18 l19 o20 l21 l22 x23→
 ∃v24,cellT o15 1=some v24∧
 ∃v25,lenT v24=some v25∧
 ∃v26,binT .lss x23 v25=some v26∧
 condK v26
 (∃v27,putT (TV.a [(TV.i .i64 0),(TV.l []),(TV.l [])]) 0 1 (TV.i .i64 2)=some v27∧
 ∃v28,putT (TV.a [(TV.i .i64 0),(TV.l []),(TV.l [])]) 0 3 v27=some v28∧
 ∃v29,cellT o15 1=some v29∧
 ∃v30,(idxT v29 x23=some v30∧szOk 2 v30)∧
 ∃v31,ldT v30 1 none=some v31∧
 S65 (fun (o32:TV) (l33:List TV) (l34:List TV) (r35:TV)=>
 ∃v36,some (TV.i .i64 (List.length l33))=some v36∧
 ∃v37,binT .gtr v36 (TV.i .i64 400)=some v37∧
 condK v37
 (∃v38,putT o16 0 3 (TV.a [(TV.l []),(TV.l []),(TV.l [])])=some v38∧
 True∧∃v39,subT v38 0 3=some v39∧
 ∃v40,putT v39 2 1 (TV.l [])=some v40∧
 ∃v41,putT v40 1 1 (TV.l [])=some v41∧
 ∃v42,putT v41 0 1 (TV.l [])=some v42∧
 tupOk [v42,(TV.i .i64 10)]∧Q (TV.tp [v42,(TV.i .i64 10)]))
 (∃I43:Nat→TV→TV→List TV→List TV→List TV→TV→List TV→List TV→TV→List TV→List TV→TV→TV→Prop,(∃n44,I43 n44 o15 o16 l17 l18 l19 o20 l21 l22 o32 l33 l34 x23 (TV.i .i64 1))∧∀n44 o46 o47 l48 l49 l50 o51 l52 l53 o54 l55 l56 x57 x58,I43 n44 o46 o47 l48 l49 l50 o51 l52 l53 o54 l55 l56 x57 x58→
 ∃v59,some (TV.i .i64 (List.length l56))=some v59∧
 ∃v60,binT .lss x58 v59=some v60∧
 condK v60
 (∃I61:Nat→TV→TV→List TV→List TV→List TV→TV→List TV→List TV→TV→List TV→List TV→TV→TV→TV→Prop,(∃n62,I61 n62 o46 o47 l48 l49 l50 o51 l52 l53 o54 l55 l56 x57 x58 x58)∧∀n62 o64 o65 l66 l67 l68 o69 l70 l71 o72 l73 l74 x75 x76 x77,I61 n62 o64 o65 l66 l67 l68 o69 l70 l71 o72 l73 l74 x75 x76 x77→
 ∃v78,binT .gtr x77 (TV.i .i64 0)=some v78∧
 gd v78 true v78 true∧∃v79,gV v78 true (fun r=>some x77=some r) v79∧
 ∃v80,gV v78 true (fun r=>binT .sub v79 (TV.i .i64 1)=some r) v80∧
 gd v78 true v78 true∧∃v81,(v78=.b true→ixN v80 (List.length l74)=some v81)∧
 gd v78 true v78 true∧∃v82,gV v78 true (fun r=>ldE l74 v81 0 none=some r) v82∧
 gd v78 true v78 true∧∃v83,gV v78 true (fun r=>some x77=some r) v83∧
 gd v78 true v78 true∧∃v84,(v78=.b true→ixN v83 (List.length l74)=some v84)∧
 gd v78 true v78 true∧∃v85,gV v78 true (fun r=>ldE l74 v84 0 none=some r) v85∧
 ∃v86,gV v78 true (fun r=>binT .gtr v82 v85=some r) v86∧
 ∃v87,pickT v78 v86 (TV.b false)=some v87∧
 condK v87
 (∃v88,binT .sub x77 (TV.i .i64 1)=some v88∧
 ∃v89,ixN x77 (List.length l74)=some v89∧
 ∃v90,ldE l74 v89 0 none=some v90∧
 ∃v91,binT .sub x77 (TV.i .i64 1)=some v91∧
 ∃v92,ixN v91 (List.length l74)=some v92∧
 ∃v93,ldE l74 v92 0 none=some v93∧
 ∃v94,ixN v88 (List.length l74)=some v94∧
 ∃v95,setE l74 v94 0 1 v90=some v95∧
 ∃v96,ixN x77 (List.length v95)=some v96∧
 ∃v97,setE v95 v96 0 1 v93=some v97∧
 ∃v98,binT .sub x77 (TV.i .i64 1)=some v98∧
 ∃m63,m63 < n62∧I61 m63 o64 o65 l66 l67 l68 o69 l70 l71 o72 l73 v97 x75 x76 v98)
 (∃v99,binT .add x76 (TV.i .i64 1)=some v99∧
 ∃m45,m45 < n44∧I43 m45 o64 o65 l66 l67 l68 o69 l70 l71 o72 l73 l74 x75 v99))
 (∃v100,subT o54 0 3=some v100∧
 (Nat.beq 0 (0*3)&&Nat.beq 3 3)=true∧true=true∧∃v101,putT v100 2 1 (TV.l l56)=some v101∧
 ∃v102,putT v101 1 1 (TV.l l55)=some v102∧
 szOk 3 v102∧
 ∃v103,listT (TV.l [v102])=some v103∧szHd 3 v103∧
 ∃v104,appT 56 l52 v103=some v104∧
 ∃v105,cellT o46 1=some v105∧
 ∃v106,(idxT v105 x57=some v106∧szOk 2 v106)∧
 ∃v107,ldT v106 0 none=some v107∧
 (Nat.beq 0 (0*1)&&Nat.beq 1 1)=true∧szOk 1 v107∧
 ∃v108,listT (TV.l [v107])=some v108∧szHd 1 v108∧
 ∃v109,appT 8 l53 v108=some v109∧
 ∃v110,putT o51 1 1 (TV.l [])=some v110∧
 ∃v111,putT v110 2 1 (TV.l [])=some v111∧
 ∃v112,binT .add x57 (TV.i .i64 1)=some v112∧
 ∃m14,m14 < n13∧I12 m14 o46 o47 l48 l49 l50 v111 v104 v109 v112)))
 v28 [] [] v31 (TV.i .i64 0) (TV.i .i64 1))
 (∃v113,subT o20 0 3=some v113∧
 ∃v114,putT o16 0 3 v113=some v114∧
 True∧∃v115,subT v114 0 3=some v115∧
 ∃v116,putT v115 2 1 (TV.l l22)=some v116∧
 ∃v117,putT v116 1 1 (TV.l l21)=some v117∧
 tupOk [v117,(TV.i .i64 0)]∧Q (TV.tp [v117,(TV.i .i64 0)])))
theorem vs45 (a0:TV) (Q:TV→Prop) (h:W45 a0 Q):VS prog 45 [a0] Q:=vs_of (sh:=sh) (af:=a45) (vc:=v45) (by kernel_rfl) (by kernel_rfl) (by kernel_rfl) (by kernel_rfl) rfl ((show W45 a0 Q=evFn sh prog a45 v45 [a0] Q by kernel_rfl)▸h)
def v46:VCode:=.seq (.reg r46_0) (.seq (.reg r46_1) (.seq (.reg r46_2) (.ret)))
def v47:VCode:=.seq (.reg r47_0) (.seq (.seq (.reg r47_1) (.cond (.t 25) (.seq (.reg r47_2) (.ret)) (.skip))) (.seq (.seq (.reg r47_3) (.block 0 (.loop [.ob 1 [],.pt 1 1 0,.tr 3] (.seq (.seq (.reg r47_4) (.cond (.t 30) (.skip) (.exit 0))) (.seq (.block 1 (.seq (.reg r47_6) (.seq (.seq (.reg r47_7) (.cond (.t 104) (.seq (.reg r47_8) (.ret)) (.skip))) (.seq (.reg r47_9) (.seq (.seq (.reg r47_10) (.block 2 (.loop [.ob 1 [],.ob 4 [],.pt 1 1 0,.tr 3,.pt 4 4 0,.tr 5,.tr 6] (.seq (.seq (.reg r47_11) (.cond (.t 109) (.skip) (.exit 2))) (.seq (.block 3 (.seq (.seq (.dreg r47_13 b47_13 []) (.cond (.t 120) (.seq (.reg r47_14) (.ret)) (.skip))) (.seq (.reg r47_15) (.block 4 (.loop [.ob 1 [],.ob 4 [],.pt 1 1 0,.tr 3,.pt 4 4 0,.tr 5,.tr 6,.tr 7] (.seq (.seq (.reg r47_16) (.cond (.t 124) (.skip) (.exit 4))) (.seq (.block 5 (.seq (.reg r47_18) (.seq (.seq (.reg r47_19) (.cond (.t 143) (.seq (.reg r47_20) (.ret)) (.skip))) (.seq (.reg r47_21) (.cond (.t 145) (.reg r47_22) (.skip)))))) (.reg r47_17)))))))) (.reg r47_12)))))) (.seq (.reg r47_23) (.cond (.t 161) (.seq (.reg r47_24) (.ret)) (.skip)))))))) (.reg r47_5)))))) (.seq (.seq (.reg r47_25) (.block 6 (.loop [.ob 1 [],.pt 1 1 0,.tr 9] (.seq (.seq (.reg r47_26) (.cond (.t 166) (.skip) (.exit 6))) (.seq (.block 7 (.seq (.dreg r47_28 b47_28 []) (.cond (.t 196) (.seq (.reg r47_29) (.ret)) (.skip)))) (.reg r47_27)))))) (.seq (.reg r47_30) (.ret)))))
def W47 (a0:TV) (Q:TV→Prop):Prop:=
 TV.isTp a0=false∧
 ∃v1,cellT a0 0=some v1∧
 ∃v2,lenT v1=some v2∧
 ∃v3,binT .gtr v2 (TV.i .i64 4)=some v3∧
 gd v3 false v3 false∧∃v4,gV v3 false (fun r=>cellT a0 1=some r) v4∧
 ∃v5,gV v3 false (fun r=>lenT v4=some r) v5∧
 ∃v6,gV v3 false (fun r=>binT .lss v5 (TV.i .i64 1)=some r) v6∧
 ∃v7,pickT v3 (TV.b true) v6=some v7∧
 gd v7 false v7 false∧∃v8,gV v7 false (fun r=>cellT a0 1=some r) v8∧
 ∃v9,gV v7 false (fun r=>lenT v8=some r) v9∧
 ∃v10,gV v7 false (fun r=>binT .gtr v9 (TV.i .i64 4)=some r) v10∧
 ∃v11,pickT v7 (TV.b true) v10=some v11∧
 condK v11
 (True∧tupOk [(TV.b false)]∧Q (TV.b false))
 (∃I12:Nat→TV→TV→Prop,(∃n13,I12 n13 a0 (TV.i .i64 0))∧∀n13 o15 x16,I12 n13 o15 x16→
 ∃v17,cellT o15 0=some v17∧
 ∃v18,lenT v17=some v18∧
 ∃v19,binT .lss x16 v18=some v19∧
 condK v19
 (∃v20,cellT o15 0=some v20∧
 ∃v21,(idxT v20 x16=some v21∧szOk 6 v21)∧
 ∃v22,ldT v21 0 (some 6)=some v22∧
 ∃v23,putT zz1 0 6 v22=some v23∧
 ∃v24,cellT v23 0=some v24∧
 ∃v25,binT .lss v24 (TV.i .i64 0)=some v25∧
 gd v25 false v25 false∧∃v26,gV v25 false (fun r=>cellT v23 0=some r) v26∧
 ∃v27,gV v25 false (fun r=>binT .gtr v26 (TV.i .i64 2)=some r) v27∧
 ∃v28,pickT v25 (TV.b true) v27=some v28∧
 gd v28 false v28 false∧∃v29,gV v28 false (fun r=>cellT v23 1=some r) v29∧
 ∃v30,gV v28 false (fun r=>binT .lss v29 (TV.i .i64 1)=some r) v30∧
 ∃v31,pickT v28 (TV.b true) v30=some v31∧
 gd v31 false v31 false∧∃v32,gV v31 false (fun r=>cellT v23 1=some r) v32∧
 ∃v33,gV v31 false (fun r=>binT .gtr v32 (TV.i .i64 16)=some r) v33∧
 ∃v34,pickT v31 (TV.b true) v33=some v34∧
 gd v34 false v34 false∧∃v35,gV v34 false (fun r=>cellT v23 4=some r) v35∧
 ∃v36,gV v34 false (fun r=>binT .lss v35 (TV.i .i64 1)=some r) v36∧
 ∃v37,pickT v34 (TV.b true) v36=some v37∧
 gd v37 false v37 false∧∃v38,gV v37 false (fun r=>cellT v23 4=some r) v38∧
 ∃v39,gV v37 false (fun r=>binT .gtr v38 (TV.i .i64 4)=some r) v39∧
 ∃v40,pickT v37 (TV.b true) v39=some v40∧
 gd v40 false v40 false∧∃v41,gV v40 false (fun r=>cellT v23 2=some r) v41∧
 ∃v42,gV v40 false (fun r=>binT .lss v41 (TV.i .i64 0)=some r) v42∧
 ∃v43,pickT v40 (TV.b true) v42=some v43∧
 gd v43 false v43 false∧∃v44,gV v43 false (fun r=>cellT v23 2=some r) v44∧
 gd v43 false v43 false∧∃v45,gV v43 false (fun r=>cellT o15 1=some r) v45∧
 ∃v46,gV v43 false (fun r=>lenT v45=some r) v46∧
 ∃v47,gV v43 false (fun r=>binT .geq v44 v46=some r) v47∧
 ∃v48,pickT v43 (TV.b true) v47=some v48∧
 gd v48 false v48 false∧∃v49,gV v48 false (fun r=>cellT v23 3=some r) v49∧
 ∃v50,gV v48 false (fun r=>binT .lss v49 (TV.i .i64 0)=some r) v50∧
 ∃v51,pickT v48 (TV.b true) v50=some v51∧
 gd v51 false v51 false∧∃v52,gV v51 false (fun r=>cellT v23 3=some r) v52∧
 gd v51 false v51 false∧∃v53,gV v51 false (fun r=>cellT o15 1=some r) v53∧
 ∃v54,gV v51 false (fun r=>lenT v53=some r) v54∧
 ∃v55,gV v51 false (fun r=>binT .geq v52 v54=some r) v55∧
 ∃v56,pickT v51 (TV.b true) v55=some v56∧
 gd v56 false v56 false∧∃v57,gV v56 false (fun r=>cellT v23 2=some r) v57∧
 gd v56 false v56 false∧∃v58,gV v56 false (fun r=>cellT v23 3=some r) v58∧
 ∃v59,gV v56 false (fun r=>binT .eql v57 v58=some r) v59∧
 ∃v60,pickT v56 (TV.b true) v59=some v60∧
 gd v60 false v60 false∧∃v61,gV v60 false (fun r=>cellT v23 5=some r) v61∧
 ∃v62,gV v60 false (fun r=>lenT v61=some r) v62∧
 ∃v63,gV v60 false (fun r=>binT .gtr v62 (TV.i .i64 8)=some r) v63∧
 ∃v64,pickT v60 (TV.b true) v63=some v64∧
 condK v64
 (True∧tupOk [(TV.b false)]∧Q (TV.b false))
 (∃I65:Nat→TV→TV→TV→TV→TV→Prop,(∃n66,I65 n66 o15 v23 x16 (TV.i .i64 0) (TV.i .i64 0))∧∀n66 o68 o69 x70 x71 x72,I65 n66 o68 o69 x70 x71 x72→
 ∃v73,cellT o69 5=some v73∧
 ∃v74,lenT v73=some v74∧
 ∃v75,binT .lss x72 v74=some v75∧
 condK v75
 (∃v76,cellT o69 5=some v76∧
 ∃v77,(idxT v76 x72=some v77∧szOk 1 v77)∧
 ∃v78,ldT v77 0 none=some v78∧
 ∃v79,lenT v78=some v79∧
 ∃v80,cellT o69 4=some v80∧
 ∃v81,binT .neq v79 v80=some v81∧
 condK v81
 (True∧tupOk [(TV.b false)]∧Q (TV.b false))
 (∃I82:Nat→TV→TV→TV→TV→TV→TV→Prop,(∃n83,I82 n83 o68 o69 x70 x71 x72 (TV.i .i64 0))∧∀n83 o85 o86 x87 x88 x89 x90,I82 n83 o85 o86 x87 x88 x89 x90→
 ∃v91,cellT o86 4=some v91∧
 ∃v92,binT .lss x90 v91=some v92∧
 condK v92
 (∃v93,cellT o86 5=some v93∧
 ∃v94,(idxT v93 x89=some v94∧szOk 1 v94)∧
 ∃v95,ldT v94 0 none=some v95∧
 ∃v96,(idxT v95 x90=some v96∧szOk 1 v96)∧
 ∃v97,ldT v96 0 none=some v97∧
 ∃v98,binT .lss v97 (TV.i .i64 (-1))=some v98∧
 ∃v99,gV v98 false (fun r=>some v97=some r) v99∧
 gd v98 false v98 false∧∃v100,gV v98 false (fun r=>cellT o86 5=some r) v100∧
 ∃v101,gV v98 false (fun r=>lenT v100=some r) v101∧
 ∃v102,gV v98 false (fun r=>binT .geq v99 v101=some r) v102∧
 ∃v103,pickT v98 (TV.b true) v102=some v103∧
 condK v103
 (True∧tupOk [(TV.b false)]∧Q (TV.b false))
 (∃v104,binT .geq v97 (TV.i .i64 0)=some v104∧
 condK v104
 (∃v105,mnxT true [x88,x89,v97]=some v105∧
 ∃v106,binT .add x90 (TV.i .i64 1)=some v106∧
 ∃m84,m84 < n83∧I82 m84 o85 o86 x87 v105 x89 v106)
 (∃v107,binT .add x90 (TV.i .i64 1)=some v107∧
 ∃m84,m84 < n83∧I82 m84 o85 o86 x87 x88 x89 v107)))
 (∃v108,binT .add x89 (TV.i .i64 1)=some v108∧
 ∃m67,m67 < n66∧I65 m67 o85 o86 x87 x88 v108)))
 (∃v109,cellT o69 5=some v109∧
 ∃v110,lenT v109=some v110∧
 ∃v111,binT .gtr v110 (TV.i .i64 0)=some v111∧
 ∃v112,gV v111 true (fun r=>some x71=some r) v112∧
 gd v111 true v111 true∧∃v113,gV v111 true (fun r=>cellT o69 5=some r) v113∧
 ∃v114,gV v111 true (fun r=>lenT v113=some r) v114∧
 ∃v115,gV v111 true (fun r=>binT .sub v114 (TV.i .i64 1)=some r) v115∧
 ∃v116,gV v111 true (fun r=>binT .neq v112 v115=some r) v116∧
 ∃v117,pickT v111 v116 (TV.b false)=some v117∧
 condK v117
 (True∧tupOk [(TV.b false)]∧Q (TV.b false))
 (∃v118,binT .add x70 (TV.i .i64 1)=some v118∧
 ∃m14,m14 < n13∧I12 m14 o68 v118))))
 (∃I119:Nat→TV→TV→Prop,(∃n120,I119 n120 o15 (TV.i .i64 0))∧∀n120 o122 x123,I119 n120 o122 x123→
 ∃v124,cellT o122 1=some v124∧
 ∃v125,lenT v124=some v125∧
 ∃v126,binT .lss x123 v125=some v126∧
 condK v126
 (∃v127,cellT o122 1=some v127∧
 ∃v128,(idxT v127 x123=some v128∧szOk 2 v128)∧
 ∃v129,ldT v128 0 none=some v129∧
 ∃v130,binT .lss v129 (TV.i .i64 0)=some v130∧
 gd v130 false v130 false∧∃v131,gV v130 false (fun r=>cellT o122 1=some r) v131∧
 ∃v132,gV v130 false (fun r=>some x123=some r) v132∧
 ∃v133,gV v130 false (fun r=>(idxT v131 v132=some r∧szOk 2 r)) v133∧
 gd v130 false v130 false∧gd v130 false v130 false∧∃v134,gV v130 false (fun r=>ldT v133 0 none=some r) v134∧
 ∃v135,gV v130 false (fun r=>binT .gtr v134 (TV.i .i64 6)=some r) v135∧
 ∃v136,pickT v130 (TV.b true) v135=some v136∧
 gd v136 false v136 false∧∃v137,gV v136 false (fun r=>cellT o122 1=some r) v137∧
 ∃v138,gV v136 false (fun r=>some x123=some r) v138∧
 ∃v139,gV v136 false (fun r=>(idxT v137 v138=some r∧szOk 2 r)) v139∧
 gd v136 false v136 false∧gd v136 false v136 false∧∃v140,gV v136 false (fun r=>ldT v139 1 none=some r) v140∧
 ∃v141,gV v136 false (fun r=>subT o122 0 2=some r) v141∧
 ∃v142,gV v136 false (fun r=>some x123=some r) v142∧
 ∃v143,gV v136 false (fun r=>VS prog 66 [v140,v141,v142] fun r'=>r'=r∧scOk true r) v143∧
 ∃v144,gV v136 false (fun r=>unT .not v143=some r) v144∧
 ∃v145,pickT v136 (TV.b true) v144=some v145∧
 condK v145
 (True∧tupOk [(TV.b false)]∧Q (TV.b false))
 (∃v146,binT .add x123 (TV.i .i64 1)=some v146∧
 ∃m121,m121 < n120∧I119 m121 o122 v146))
 (True∧tupOk [(TV.b true)]∧Q (TV.b true))))
theorem vs47 (a0:TV) (Q:TV→Prop) (h:W47 a0 Q):VS prog 47 [a0] Q:=vs_of (sh:=sh) (af:=a47) (vc:=v47) (by kernel_rfl) (by kernel_rfl) (by kernel_rfl) (by kernel_rfl) rfl ((show W47 a0 Q=evFn sh prog a47 v47 [a0] Q by kernel_rfl)▸h)
def v48:VCode:=.seq (.reg r48_0) (.seq (.seq (.reg r48_1) (.cond (.t 8) (.seq (.reg r48_2) (.ret)) (.skip))) (.seq (.reg r48_3) (.ret)))
def W48 (a0:TV) (Q:TV→Prop):Prop:=
 ∃v1,binT .lss a0 (TV.i .i64 1)=some v1∧
 ∃v2,gV v1 false (fun r=>some a0=some r) v2∧
 ∃v3,gV v1 false (fun r=>binT .gtr v2 (TV.i .i64 6)=some r) v3∧
 ∃v4,pickT v1 (TV.b true) v3=some v4∧
 condK v4
 (True∧tupOk [(TV.i .i64 0)]∧Q (TV.i .i64 0))
 ((Nat.beq 0 (0*1)&&Nat.beq 1 1)=true∧szOk 1 (TV.i .i64 2)∧
 (Nat.beq 1 (1*1)&&Nat.beq 1 1)=true∧szOk 1 (TV.i .i64 1)∧
 (Nat.beq 2 (2*1)&&Nat.beq 1 1)=true∧szOk 1 (TV.i .i64 6)∧
 (Nat.beq 3 (3*1)&&Nat.beq 1 1)=true∧szOk 1 (TV.i .i64 5)∧
 (Nat.beq 4 (4*1)&&Nat.beq 1 1)=true∧szOk 1 (TV.i .i64 4)∧
 (Nat.beq 5 (5*1)&&Nat.beq 1 1)=true∧szOk 1 (TV.i .i64 3)∧
 ∃v5,binT .sub a0 (TV.i .i64 1)=some v5∧
 ∃v6,(idxT (TV.l [(TV.i .i64 2),(TV.i .i64 1),(TV.i .i64 6),(TV.i .i64 5),(TV.i .i64 4),(TV.i .i64 3)]) v5=some v6∧szOk 1 v6)∧
 ∃v7,ldT v6 0 none=some v7∧
 True∧tupOk [v7]∧Q v7)
theorem vs48 (a0:TV) (Q:TV→Prop) (h:W48 a0 Q):VS prog 48 [a0] Q:=vs_of (sh:=sh) (af:=a48) (vc:=v48) (by kernel_rfl) (by kernel_rfl) (by kernel_rfl) (by kernel_rfl) rfl ((show W48 a0 Q=evFn sh prog a48 v48 [a0] Q by kernel_rfl)▸h)
def v60:VCode:=.seq (.reg r60_0) (.seq (.seq (.reg r60_1) (.cond (.t 17) (.seq (.reg r60_2) (.ret)) (.skip))) (.seq (.seq (.reg r60_3) (.block 0 (.loop [.ob 1 [],.pt 1 1 0,.tr 19,.tr 20,.tr 21] (.seq (.reg r60_4) (.seq (.cond (.t 22) (.skip) (.exit 0)) (.seq (.block 1 (.seq (.reg r60_5) (.seq (.reg r60_6) (.cond (.t 30) (.seq (.reg r60_7) (.ret)) (.skip))))) (.reg r60_8))))))) (.seq (.seq (.reg r60_9) (.block 2 (.loop [.ob 1 [],.pt 1 1 0,.tr 33,.tr 34,.tr 35] (.seq (.reg r60_10) (.seq (.cond (.t 36) (.skip) (.exit 2)) (.seq (.block 3 (.seq (.reg r60_11) (.seq (.reg r60_12) (.cond (.t 54) (.seq (.reg r60_13) (.ret)) (.skip))))) (.reg r60_14))))))) (.seq (.reg r60_15) (.ret)))))
def W60 (a0:TV) (Q:TV→Prop):Prop:=
 TV.isTp a0=false∧
 ∃v1,cellT a0 0=some v1∧
 ∃v2,lenT v1=some v2∧
 ∃v3,binT .gtr v2 (TV.i .i64 4)=some v3∧
 gd v3 false v3 false∧∃v4,gV v3 false (fun r=>cellT a0 1=some r) v4∧
 ∃v5,gV v3 false (fun r=>lenT v4=some r) v5∧
 ∃v6,gV v3 false (fun r=>VS prog 81 [v5,(TV.i .i64 1),(TV.i .i64 4)] fun r'=>r'=r∧scOk true r) v6∧
 ∃v7,gV v3 false (fun r=>unT .not v6=some r) v7∧
 ∃v8,pickT v3 (TV.b true) v7=some v8∧
 condK v8
 (True∧tupOk [(TV.b false)]∧Q (TV.b false))
 (∃v9,cellT a0 0=some v9∧
 ∃v10,lenT v9=some v10∧
 ∃I11:Nat→TV→TV→TV→TV→Prop,(∃n12,I11 n12 a0 v9 v10 (TV.i .i64 0))∧∀n12 o14 x15 x16 x17,I11 n12 o14 x15 x16 x17→
 ∃v18,binT .lss x17 x16=some v18∧
 condK v18
 (∃v19,(idxT x15 x17=some v19∧szOk 6 v19)∧
 ∃v20,ldT v19 0 (some 6)=some v20∧
 ∃v21,putT zz1 0 6 v20=some v21∧
 ∃v22,subT v21 0 6=some v22∧
 ∃v23,cellT o14 1=some v23∧
 ∃v24,lenT v23=some v24∧
 VS prog 82 [v22,v24] fun r25=>scOk true r25∧
 ∃v26,unT .not r25=some v26∧
 condK v26
 (True∧tupOk [(TV.b false)]∧Q (TV.b false))
 (∃v27,binT .add x17 (TV.i .i64 1)=some v27∧
 ∃m13,m13 < n12∧I11 m13 o14 x15 x16 v27))
 (∃v28,cellT o14 1=some v28∧
 ∃v29,lenT v28=some v29∧
 ∃I30:Nat→TV→TV→TV→TV→Prop,(∃n31,I30 n31 o14 v28 v29 (TV.i .i64 0))∧∀n31 o33 x34 x35 x36,I30 n31 o33 x34 x35 x36→
 ∃v37,binT .lss x36 x35=some v37∧
 condK v37
 (∃v38,(idxT x34 x36=some v38∧szOk 2 v38)∧
 ∃v39,ldT v38 0 (some 2)=some v39∧
 ∃v40,putT (TV.a [(TV.i .i64 0),(TV.l [])]) 0 2 v39=some v40∧
 ∃v41,cellT v40 0=some v41∧
 VS prog 81 [v41,(TV.i .i64 0),(TV.i .i64 6)] fun r42=>scOk true r42∧
 ∃v43,unT .not r42=some v43∧
 ∃v44,gV v43 false (fun r=>subT o33 0 2=some r) v44∧
 ∃v45,gV v43 false (fun r=>some x36=some r) v45∧
 gd v43 false v43 false∧∃v46,gV v43 false (fun r=>cellT v40 0=some r) v46∧
 ∃v47,gV v43 false (fun r=>partsO [(0,2,v44),(2,1,v45),(3,1,v46)] zz3=some r) v47∧
 gd v43 false v43 false∧∃v48,gV v43 false (fun r=>cellT v40 1=some r) v48∧
 ∃v49,gV v43 false (fun r=>VS prog 83 [v47,v48] fun r'=>r'=r∧scOk true r) v49∧
 ∃v50,gV v43 false (fun r=>unT .not v49=some r) v50∧
 ∃v51,pickT v43 (TV.b true) v50=some v51∧
 condK v51
 (True∧tupOk [(TV.b false)]∧Q (TV.b false))
 (∃v52,binT .add x36 (TV.i .i64 1)=some v52∧
 ∃m32,m32 < n31∧I30 m32 o33 x34 x35 v52))
 (True∧tupOk [(TV.b true)]∧Q (TV.b true))))
theorem vs60 (a0:TV) (Q:TV→Prop) (h:W60 a0 Q):VS prog 60 [a0] Q:=vs_of (sh:=sh) (af:=a60) (vc:=v60) (by kernel_rfl) (by kernel_rfl) (by kernel_rfl) (by kernel_rfl) rfl ((show W60 a0 Q=evFn sh prog a60 v60 [a0] Q by kernel_rfl)▸h)
def v61:VCode:=.seq (.reg r61_0) (.seq (.reg r61_1) (.seq (.seq (.reg r61_2) (.block 0 (.loop [.sl 3 6,.tr 9,.tr 10,.tr 11] (.seq (.reg r61_3) (.seq (.cond (.t 12) (.skip) (.exit 0)) (.seq (.block 1 (.seq (.reg r61_4) (.seq (.reg r61_5) (.seq (.reg r61_6) (.seq (.seq (.reg r61_7) (.block 2 (.loop [.ob 5 [(5,1)],.sl 3 6,.pt 5 5 0,.tr 9,.tr 10,.tr 11,.tr 18,.tr 19,.tr 20] (.seq (.reg r61_8) (.seq (.cond (.t 21) (.skip) (.exit 2)) (.seq (.block 3 (.seq (.reg r61_9) (.dreg r61_10 b61_10 [(1,4)]))) (.reg r61_11))))))) (.reg r61_12)))))) (.reg r61_13))))))) (.seq (.reg r61_14) (.ret))))
def W61 (a0:TV) (Q:TV→Prop):Prop:=
 ∃v1,lenT a0=some v1∧
 ∃I2:Nat→List TV→TV→TV→TV→Prop,(∃n3,I2 n3 [] a0 v1 (TV.i .i64 0))∧∀n3 l5 x6 x7 x8,I2 n3 l5 x6 x7 x8→
 ∃v9,binT .lss x8 x7=some v9∧
 condK v9
 (∃v10,(idxT x6 x8=some v10∧szOk 6 v10)∧
 ∃v11,ldT v10 0 (some 6)=some v11∧
 ∃v12,putT zz1 0 6 v11=some v12∧
 ∃v13,cellT v12 5=some v13∧
 ∃v14,putT v12 5 1 (TV.l [])=some v14∧
 ∃v15,lenT v13=some v15∧
 ∃I16:Nat→TV→List TV→List TV→TV→TV→TV→TV→TV→TV→Prop,(∃n17,I16 n17 v14 [] l5 x6 x7 x8 v13 v15 (TV.i .i64 0))∧∀n17 o19 l20 l21 x22 x23 x24 x25 x26 x27,I16 n17 o19 l20 l21 x22 x23 x24 x25 x26 x27→
 ∃v28,binT .lss x27 x26=some v28∧
 condK v28
 (∃v29,(idxT x25 x27=some v29∧szOk 1 v29)∧
 ∃v30,ldT v29 0 none=some v30∧
 VS prog 56 [v30] fun r31=>scOk true r31∧
 (Nat.beq 0 (0*1)&&Nat.beq 1 1)=true∧szOk 1 r31∧
 ∃v32,listT (TV.l [r31])=some v32∧szHd 1 v32∧
 ∃v33,appT 24 l20 v32=some v33∧
 ∃v34,putT o19 5 1 (TV.l [])=some v34∧
 ∃v35,binT .add x27 (TV.i .i64 1)=some v35∧
 ∃m18,m18 < n17∧I16 m18 v34 v33 l21 x22 x23 x24 x25 x26 v35)
 (∃v36,subT o19 0 6=some v36∧
 (Nat.beq 0 (0*6)&&Nat.beq 6 6)=true∧true=true∧∃v37,putT v36 5 1 (TV.l l20)=some v37∧
 szOk 6 v37∧
 ∃v38,listT (TV.l [v37])=some v38∧szHd 6 v38∧
 ∃v39,appT 64 l21 v38=some v39∧
 ∃v40,binT .add x24 (TV.i .i64 1)=some v40∧
 ∃m4,m4 < n3∧I2 m4 v39 x22 x23 v40))
 (True∧tupOk [(TV.l l5)]∧Q (TV.l l5))
theorem vs61 (a0:TV) (Q:TV→Prop) (h:W61 a0 Q):VS prog 61 [a0] Q:=vs_of (sh:=sh) (af:=a61) (vc:=v61) (by kernel_rfl) (by kernel_rfl) (by kernel_rfl) (by kernel_rfl) rfl ((show W61 a0 Q=evFn sh prog a61 v61 [a0] Q by kernel_rfl)▸h)
def v64:VCode:=.seq (.reg r64_0) (.seq (.reg r64_1) (.seq (.seq (.reg r64_2) (.block 0 (.loop [.tr 0,.sl 3 20,.tr 4] (.seq (.seq (.reg r64_3) (.cond (.t 11) (.skip) (.exit 0))) (.seq (.block 1 (.seq (.reg r64_5) (.seq (.dreg r64_6 b64_6 []) (.seq (.seq (.reg r64_7) (.block 2 (.loop [.ob 5 [],.ob 6 [(19,3)],.tr 0,.sl 3 20,.tr 4,.pt 5 5 0,.pt 6 6 0,.tr 7] (.seq (.seq (.reg r64_8) (.cond (.t 52) (.skip) (.exit 2))) (.seq (.block 3 (.dreg r64_10 b64_10 [(1,22)])) (.reg r64_9)))))) (.reg r64_11))))) (.reg r64_4)))))) (.seq (.reg r64_12) (.ret))))
def W64 (a0:TV) (Q:TV→Prop):Prop:=
 ∃I1:Nat→TV→List TV→TV→Prop,(∃n2,I1 n2 a0 [] (TV.i .i64 0))∧∀n2 x4 l5 x6,I1 n2 x4 l5 x6→
 ∃v7,lenT x4=some v7∧
 ∃v8,binT .lss x6 v7=some v8∧
 condK v8
 (∃v9,(idxT x4 x6=some v9∧szOk 20 v9)∧
 ∃v10,ldT v9 0 (some 20)=some v10∧
 ∃v11,putT zz2 0 20 v10=some v11∧
 ∃v12,cellT v11 0=some v12∧
 ∃v13,cellT v11 1=some v13∧
 ∃v14,cellT v11 2=some v14∧
 ∃v15,cellT v11 3=some v15∧
 ∃v16,subT v11 4 4=some v16∧
 VS prog 36 [v16] fun r17=>scOk true r17∧
 ∃v18,cellT v11 8=some v18∧
 ∃v19,subT v11 9 4=some v19∧
 VS prog 36 [v19] fun r20=>scOk true r20∧
 ∃v21,subT v11 13 4=some v21∧
 VS prog 36 [v21] fun r22=>scOk true r22∧
 ∃v23,putT zz5 0 1 v18=some v23∧
 ∃v24,putT v23 1 4 r20=some v24∧
 ∃v25,putT v24 5 4 r22=some v25∧
 ∃v26,cellT v11 17=some v26∧
 VS prog 64 [v26] fun r27=>scOk true r27∧
 ∃v28,cellT v11 18=some v28∧
 VS prog 64 [v28] fun r29=>scOk true r29∧
 ∃v30,putT zz2 0 1 v12=some v30∧
 ∃v31,putT v30 1 1 v13=some v31∧
 ∃v32,putT v31 2 1 v14=some v32∧
 ∃v33,putT v32 3 1 v15=some v33∧
 ∃v34,putT v33 4 4 r17=some v34∧
 ∃v35,putT v34 8 9 v25=some v35∧
 ∃v36,putT v35 17 1 r27=some v36∧
 ∃v37,putT v36 18 1 r29=some v37∧
 ∃v38,putT zz2 0 20 v37=some v38∧
 ∃I39:Nat→TV→TV→List TV→TV→List TV→TV→TV→Prop,(∃n40,I39 n40 v11 v38 [] x4 l5 x6 (TV.i .i64 0))∧∀n40 o42 o43 l44 x45 l46 x47 x48,I39 n40 o42 o43 l44 x45 l46 x47 x48→
 ∃v49,cellT o42 19=some v49∧
 ∃v50,lenT v49=some v50∧
 ∃v51,binT .lss x48 v50=some v51∧
 condK v51
 (∃v52,cellT o42 19=some v52∧
 ∃v53,(idxT v52 x48=some v53∧szOk 3 v53)∧
 ∃v54,ldT v53 0 none=some v54∧
 ∃v55,cellT o42 19=some v55∧
 ∃v56,(idxT v55 x48=some v56∧szOk 3 v56)∧
 ∃v57,ldT v56 1 none=some v57∧
 ∃v58,cellT o42 19=some v58∧
 ∃v59,(idxT v58 x48=some v59∧szOk 3 v59)∧
 ∃v60,ldT v59 2 none=some v60∧
 VS prog 64 [v60] fun r61=>scOk true r61∧
 ∃v62,putT (TV.a [(TV.i .i64 0),(TV.i .i64 0),(TV.l [])]) 0 1 v54=some v62∧
 ∃v63,putT v62 1 1 v57=some v63∧
 ∃v64,putT v63 2 1 r61=some v64∧
 (Nat.beq 0 (0*3)&&Nat.beq 3 3)=true∧szOk 3 v64∧
 ∃v65,listT (TV.l [v64])=some v65∧szHd 3 v65∧
 ∃v66,appT 40 l44 v65=some v66∧
 ∃v67,putT o43 19 1 (TV.l [])=some v67∧
 ∃v68,binT .add x48 (TV.i .i64 1)=some v68∧
 ∃m41,m41 < n40∧I39 m41 o42 v67 v66 x45 l46 x47 v68)
 (∃v69,subT o43 0 20=some v69∧
 (Nat.beq 0 (0*20)&&Nat.beq 20 20)=true∧true=true∧∃v70,putT v69 19 1 (TV.l l44)=some v70∧
 szOk 20 v70∧
 ∃v71,listT (TV.l [v70])=some v71∧szHd 20 v71∧
 ∃v72,appT 256 l46 v71=some v72∧
 ∃v73,binT .add x47 (TV.i .i64 1)=some v73∧
 ∃m3,m3 < n2∧I1 m3 x45 v72 v73))
 (True∧tupOk [(TV.l l5)]∧Q (TV.l l5))
theorem vs64 (a0:TV) (Q:TV→Prop) (h:W64 a0 Q):VS prog 64 [a0] Q:=vs_of (sh:=sh) (af:=a64) (vc:=v64) (by kernel_rfl) (by kernel_rfl) (by kernel_rfl) (by kernel_rfl) rfl ((show W64 a0 Q=evFn sh prog a64 v64 [a0] Q by kernel_rfl)▸h)
def v66:VCode:=.seq (.reg r66_0) (.seq (.seq (.reg r66_1) (.block 0 (.loop [.ob 4 [],.tr 0,.tr 2,.pt 4 4 0,.tr 7] (.seq (.seq (.reg r66_2) (.cond (.t 11) (.skip) (.exit 0))) (.seq (.block 1 (.seq (.dreg r66_4 b66_4 []) (.cond (.t 21) (.seq (.reg r66_5) (.ret)) (.skip)))) (.reg r66_3)))))) (.seq (.reg r66_6) (.ret)))
def W66 (a0 a1 a2:TV) (Q:TV→Prop):Prop:=
 TV.isTp a1=false∧
 ∃I1:Nat→TV→TV→TV→TV→Prop,(∃n2,I1 n2 a1 a0 a2 (TV.i .i64 0))∧∀n2 o4 x5 x6 x7,I1 n2 o4 x5 x6 x7→
 ∃v8,lenT x5=some v8∧
 ∃v9,binT .lss x7 v8=some v9∧
 condK v9
 (∃v10,(idxT x5 x7=some v10∧szOk 20 v10)∧
 ∃v11,ldT v10 0 (some 20)=some v11∧
 ∃v12,subT o4 0 2=some v12∧
 VS prog 91 [v11,v12,x6] fun r13=>scOk true r13∧
 ∃v14,unT .not r13=some v14∧
 condK v14
 (True∧tupOk [(TV.b false)]∧Q (TV.b false))
 (∃v15,binT .add x7 (TV.i .i64 1)=some v15∧
 ∃m3,m3 < n2∧I1 m3 o4 x5 x6 v15))
 (True∧tupOk [(TV.b true)]∧Q (TV.b true))
theorem vs66 (a0 a1 a2:TV) (Q:TV→Prop) (h:W66 a0 a1 a2 Q):VS prog 66 [a0,a1,a2] Q:=vs_of (sh:=sh) (af:=a66) (vc:=v66) (by kernel_rfl) (by kernel_rfl) (by kernel_rfl) (by kernel_rfl) rfl ((show W66 a0 a1 a2 Q=evFn sh prog a66 v66 [a0,a1,a2] Q by kernel_rfl)▸h)
def v81:VCode:=.seq (.reg r81_0) (.seq (.reg r81_1) (.ret))
def W81 (a0 a1 a2:TV) (Q:TV→Prop):Prop:=
 ∃v1,binT .geq a0 a1=some v1∧
 ∃v2,gV v1 true (fun r=>some a0=some r) v2∧
 ∃v3,gV v1 true (fun r=>some a2=some r) v3∧
 ∃v4,gV v1 true (fun r=>binT .leq v2 v3=some r) v4∧
 ∃v5,pickT v1 v4 (TV.b false)=some v5∧
 True∧tupOk [v5]∧Q v5
theorem vs81 (a0 a1 a2:TV) (Q:TV→Prop) (h:W81 a0 a1 a2 Q):VS prog 81 [a0,a1,a2] Q:=vs_of (sh:=sh) (af:=a81) (vc:=v81) (by kernel_rfl) (by kernel_rfl) (by kernel_rfl) (by kernel_rfl) rfl ((show W81 a0 a1 a2 Q=evFn sh prog a81 v81 [a0,a1,a2] Q by kernel_rfl)▸h)
def v82:VCode:=.seq (.reg r82_0) (.seq (.reg r82_1) (.seq (.reg r82_2) (.ret)))
def W82 (a0 a1:TV) (Q:TV→Prop):Prop:=
 TV.isTp a0=false∧
 ∃v1,cellT a0 0=some v1∧
 VS prog 81 [v1,(TV.i .i64 0),(TV.i .i64 2)] fun r2=>scOk true r2∧
 gd r2 true r2 true∧∃v3,gV r2 true (fun r=>cellT a0 1=some r) v3∧
 ∃v4,gV r2 true (fun r=>VS prog 81 [v3,(TV.i .i64 1),(TV.i .i64 16)] fun r'=>r'=r∧scOk true r) v4∧
 ∃v5,pickT r2 v4 (TV.b false)=some v5∧
 gd v5 true v5 true∧∃v6,gV v5 true (fun r=>cellT a0 4=some r) v6∧
 ∃v7,gV v5 true (fun r=>VS prog 81 [v6,(TV.i .i64 1),(TV.i .i64 4)] fun r'=>r'=r∧scOk true r) v7∧
 ∃v8,pickT v5 v7 (TV.b false)=some v8∧
 gd v8 true v8 true∧∃v9,gV v8 true (fun r=>cellT a0 2=some r) v9∧
 ∃v10,gV v8 true (fun r=>some a1=some r) v10∧
 ∃v11,gV v8 true (fun r=>binT .sub v10 (TV.i .i64 1)=some r) v11∧
 ∃v12,gV v8 true (fun r=>VS prog 81 [v9,(TV.i .i64 0),v11] fun r'=>r'=r∧scOk true r) v12∧
 ∃v13,pickT v8 v12 (TV.b false)=some v13∧
 gd v13 true v13 true∧∃v14,gV v13 true (fun r=>cellT a0 3=some r) v14∧
 ∃v15,gV v13 true (fun r=>some a1=some r) v15∧
 ∃v16,gV v13 true (fun r=>binT .sub v15 (TV.i .i64 1)=some r) v16∧
 ∃v17,gV v13 true (fun r=>VS prog 81 [v14,(TV.i .i64 0),v16] fun r'=>r'=r∧scOk true r) v17∧
 ∃v18,pickT v13 v17 (TV.b false)=some v18∧
 gd v18 true v18 true∧∃v19,gV v18 true (fun r=>cellT a0 2=some r) v19∧
 gd v18 true v18 true∧∃v20,gV v18 true (fun r=>cellT a0 3=some r) v20∧
 ∃v21,gV v18 true (fun r=>binT .neq v19 v20=some r) v21∧
 ∃v22,pickT v18 v21 (TV.b false)=some v22∧
 ∃v23,gV v22 true (fun r=>subT a0 0 6=some r) v23∧
 ∃v24,gV v22 true (fun r=>VS prog 104 [v23] fun r'=>r'=r∧scOk true r) v24∧
 ∃v25,pickT v22 v24 (TV.b false)=some v25∧
 True∧tupOk [v25]∧Q v25
theorem vs82 (a0 a1:TV) (Q:TV→Prop) (h:W82 a0 a1 Q):VS prog 82 [a0,a1] Q:=vs_of (sh:=sh) (af:=a82) (vc:=v82) (by kernel_rfl) (by kernel_rfl) (by kernel_rfl) (by kernel_rfl) rfl ((show W82 a0 a1 Q=evFn sh prog a82 v82 [a0,a1] Q by kernel_rfl)▸h)
def v83:VCode:=.seq (.reg r83_0) (.seq (.seq (.reg r83_1) (.block 0 (.loop [.ob 2 [],.pt 2 2 0,.tr 7,.tr 8,.tr 9] (.seq (.reg r83_2) (.seq (.cond (.t 10) (.skip) (.exit 0)) (.seq (.block 1 (.seq (.reg r83_3) (.seq (.reg r83_4) (.cond (.t 16) (.seq (.reg r83_5) (.ret)) (.skip))))) (.reg r83_6))))))) (.seq (.reg r83_7) (.ret)))
def W83 (a0 a1:TV) (Q:TV→Prop):Prop:=
 TV.isTp a0=false∧
 ∃v1,lenT a1=some v1∧
 ∃I2:Nat→TV→TV→TV→TV→Prop,(∃n3,I2 n3 a0 a1 v1 (TV.i .i64 0))∧∀n3 o5 x6 x7 x8,I2 n3 o5 x6 x7 x8→
 ∃v9,binT .lss x8 x7=some v9∧
 condK v9
 (∃v10,(idxT x6 x8=some v10∧szOk 20 v10)∧
 ∃v11,ldT v10 0 (some 20)=some v11∧
 ∃v12,putT zz2 0 20 v11=some v12∧
 ∃v13,subT o5 0 4=some v13∧
 ∃v14,subT v12 0 20=some v14∧
 VS prog 105 [v13,v14] fun r15=>scOk true r15∧
 ∃v16,unT .not r15=some v16∧
 condK v16
 (True∧tupOk [(TV.b false)]∧Q (TV.b false))
 (∃v17,binT .add x8 (TV.i .i64 1)=some v17∧
 ∃m4,m4 < n3∧I2 m4 o5 x6 x7 v17))
 (True∧tupOk [(TV.b true)]∧Q (TV.b true))
theorem vs83 (a0 a1:TV) (Q:TV→Prop) (h:W83 a0 a1 Q):VS prog 83 [a0,a1] Q:=vs_of (sh:=sh) (af:=a83) (vc:=v83) (by kernel_rfl) (by kernel_rfl) (by kernel_rfl) (by kernel_rfl) rfl ((show W83 a0 a1 Q=evFn sh prog a83 v83 [a0,a1] Q by kernel_rfl)▸h)
def v88:VCode:=.seq (.reg r88_0) (.seq (.cond (.c (.bool false)) (.seq (.reg r88_1) (.ret)) (.skip)) (.seq (.reg r88_2) (.ret)))
def W88 (a0:TV) (Q:TV→Prop):Prop:=
 condK (TV.b false)
 (∃v1,convT .u32 a0=some v1∧
 VS prog 121 [v1] fun r2=>scOk true r2∧
 True∧tupOk [r2]∧Q r2)
 (VS prog 122 [a0] fun r3=>scOk true r3∧
 True∧tupOk [r3]∧Q r3)
theorem vs88 (a0:TV) (Q:TV→Prop) (h:W88 a0 Q):VS prog 88 [a0] Q:=vs_of (sh:=sh) (af:=a88) (vc:=v88) (by kernel_rfl) (by kernel_rfl) (by kernel_rfl) (by kernel_rfl) rfl ((show W88 a0 Q=evFn sh prog a88 v88 [a0] Q by kernel_rfl)▸h)
def v91:VCode:=.seq (.reg r91_0) (.seq (.reg r91_1) (.seq (.reg r91_2) (.seq (.reg r91_3) (.seq (.reg r91_4) (.seq (.seq (.reg r91_5) (.block 0 (.seq (.reg r91_6) (.cond (.t 58) (.seq (.reg r91_7) (.ret)) (.seq (.seq (.reg r91_8) (.cond (.t 85) (.skip) (.reg r91_9))) (.cond (.t 85) (.seq (.reg r91_10) (.ret)) (.seq (.reg r91_11) (.cond (.t 143) (.seq (.dreg r91_12 b91_12 []) (.ret)) (.seq (.reg r91_13) (.cond (.t 193) (.seq (.seq (.reg r91_14) (.cond (.t 247) (.seq (.reg r91_15) (.ret)) (.skip))) (.seq (.reg r91_16) (.seq (.seq (.reg r91_17) (.block 1 (.loop [.ob 3 [],.ob 4 [],.ob 11 [],.tr 2,.pt 3 3 0,.pt 4 4 0,.tr 7,.pt 11 11 0,.tr 12] (.seq (.seq (.reg r91_18) (.cond (.t 252) (.skip) (.exit 1))) (.seq (.block 2 (.seq (.reg r91_20) (.seq (.seq (.dreg r91_21 b91_21 []) (.cond (.t 299) (.seq (.reg r91_22) (.ret)) (.skip))) (.reg r91_23)))) (.reg r91_19)))))) (.seq (.reg r91_24) (.ret))))) (.seq (.reg r91_25) (.cond (.t 303) (.seq (.reg r91_26) (.ret)) (.seq (.reg r91_27) (.cond (.t 332) (.seq (.reg r91_28) (.ret)) (.skip))))))))))))))) (.seq (.reg r91_29) (.ret)))))))
def W91 (a0 a1 a2:TV) (Q:TV→Prop):Prop:=
 TV.isTp a0=false∧
 TV.isTp a1=false∧
 ∃v1,cellT a1 1=some v1∧
 ∃v2,(idxT v1 a2=some v2∧szOk 2 v2)∧
 ∃v3,ldT v2 0 none=some v3∧
 ∃v4,cellT a0 17=some v4∧
 ∃v5,lenT v4=some v5∧
 ∃v6,binT .eql v5 (TV.i .i64 0)=some v6∧
 gd v6 true v6 true∧∃v7,gV v6 true (fun r=>cellT a0 18=some r) v7∧
 ∃v8,gV v6 true (fun r=>lenT v7=some r) v8∧
 ∃v9,gV v6 true (fun r=>binT .eql v8 (TV.i .i64 0)=some r) v9∧
 ∃v10,pickT v6 v9 (TV.b false)=some v10∧
 gd v10 true v10 true∧∃v11,gV v10 true (fun r=>cellT a0 19=some r) v11∧
 ∃v12,gV v10 true (fun r=>lenT v11=some r) v12∧
 ∃v13,gV v10 true (fun r=>binT .eql v12 (TV.i .i64 0)=some r) v13∧
 ∃v14,pickT v10 v13 (TV.b false)=some v14∧
 ∃v15,cellT a0 1=some v15∧
 ∃v16,binT .geq v15 (TV.i .i64 0)=some v16∧
 gd v16 true v16 true∧∃v17,gV v16 true (fun r=>cellT a0 1=some r) v17∧
 ∃v18,gV v16 true (fun r=>some v3=some r) v18∧
 ∃v19,gV v16 true (fun r=>binT .lss v17 v18=some r) v19∧
 ∃v20,pickT v16 v19 (TV.b false)=some v20∧
 ∃v21,cellT a0 2=some v21∧
 ∃v22,binT .geq v21 (TV.i .i64 0)=some v22∧
 gd v22 true v22 true∧∃v23,gV v22 true (fun r=>cellT a0 2=some r) v23∧
 gd v22 true v22 true∧∃v24,gV v22 true (fun r=>cellT a1 0=some r) v24∧
 ∃v25,gV v22 true (fun r=>lenT v24=some r) v25∧
 ∃v26,gV v22 true (fun r=>binT .lss v23 v25=some r) v26∧
 ∃v27,pickT v22 v26 (TV.b false)=some v27∧
 ∃v28,cellT a0 0=some v28∧
 ∃v29,binT .eql v28 (TV.i .i64 1)=some v29∧
 condK v29
 (∃v30,gV v14 true (fun r=>some v20=some r) v30∧
 ∃v31,pickT v14 v30 (TV.b false)=some v31∧
 gd v31 true v31 true∧∃v32,gV v31 true (fun r=>cellT a0 2=some r) v32∧
 ∃v33,gV v31 true (fun r=>binT .eql v32 (TV.i .i64 0)=some r) v33∧
 ∃v34,pickT v31 v33 (TV.b false)=some v34∧
 gd v34 true v34 true∧∃v35,gV v34 true (fun r=>cellT a0 3=some r) v35∧
 ∃v36,gV v34 true (fun r=>binT .eql v35 (TV.i .i64 0)=some r) v36∧
 ∃v37,pickT v34 v36 (TV.b false)=some v37∧
 gd v37 true v37 true∧∃v38,gV v37 true (fun r=>subT a0 4 4=some r) v38∧
 ∃v39,gV v37 true (fun r=>some v3=some r) v39∧
 ∃v40,gV v37 true (fun r=>VS prog 123 [v38,v39] fun r'=>r'=r∧scOk true r) v40∧
 ∃v41,pickT v37 v40 (TV.b false)=some v41∧
 gd v41 true v41 true∧∃v42,gV v41 true (fun r=>subT a0 8 9=some r) v42∧
 ∃v43,gV v41 true (fun r=>VS prog 124 [v42] fun r'=>r'=r∧scOk true r) v43∧
 ∃v44,pickT v41 v43 (TV.b false)=some v44∧
 True∧tupOk [v44]∧Q v44)
 (∃v45,binT .eql v28 (TV.i .i64 2)=some v45∧
 condK v45
 (condK v45
 (∃v46,cellT a0 19=some v46∧
 ∃v47,lenT v46=some v47∧
 ∃v48,binT .eql v47 (TV.i .i64 0)=some v48∧
 gd v48 true v48 true∧∃v49,gV v48 true (fun r=>cellT a0 0=some r) v49∧
 ∃v50,gV v48 true (fun r=>binT .eql v49 (TV.i .i64 2)=some r) v50∧
 ∃v51,gV v48 true (fun r=>some v50=some r) v51∧
 gd v51 false v51 false∧∃v52,gV v51 false (fun r=>cellT a0 18=some r) v52∧
 ∃v53,gV v51 false (fun r=>lenT v52=some r) v53∧
 ∃v54,gV v51 false (fun r=>binT .eql v53 (TV.i .i64 0)=some r) v54∧
 ∃v55,gV v48 true (fun r=>pickT v51 (TV.b true) v54=some r) v55∧
 ∃v56,pickT v48 v55 (TV.b false)=some v56∧
 gd v56 true v56 true∧∃v57,gV v56 true (fun r=>cellT a0 1=some r) v57∧
 ∃v58,gV v56 true (fun r=>binT .eql v57 (TV.i .i64 0)=some r) v58∧
 ∃v59,pickT v56 v58 (TV.b false)=some v59∧
 gd v59 true v59 true∧∃v60,gV v59 true (fun r=>cellT a0 2=some r) v60∧
 ∃v61,gV v59 true (fun r=>binT .eql v60 (TV.i .i64 0)=some r) v61∧
 ∃v62,pickT v59 v61 (TV.b false)=some v62∧
 gd v62 true v62 true∧∃v63,gV v62 true (fun r=>cellT a0 3=some r) v63∧
 ∃v64,gV v62 true (fun r=>binT .eql v63 (TV.i .i64 0)=some r) v64∧
 ∃v65,pickT v62 v64 (TV.b false)=some v65∧
 gd v65 true v65 true∧∃v66,gV v65 true (fun r=>subT a0 4 4=some r) v66∧
 ∃v67,gV v65 true (fun r=>VS prog 125 [v66] fun r'=>r'=r∧scOk true r) v67∧
 ∃v68,pickT v65 v67 (TV.b false)=some v68∧
 gd v68 true v68 true∧∃v69,gV v68 true (fun r=>subT a0 8 9=some r) v69∧
 ∃v70,gV v68 true (fun r=>some v3=some r) v70∧
 ∃v71,gV v68 true (fun r=>VS prog 126 [v69,v70] fun r'=>r'=r∧scOk true r) v71∧
 ∃v72,pickT v68 v71 (TV.b false)=some v72∧
 gd v72 true v72 true∧∃v73,gV v72 true (fun r=>cellT a0 17=some r) v73∧
 ∃v74,gV v72 true (fun r=>subT a1 0 2=some r) v74∧
 ∃v75,gV v72 true (fun r=>some a2=some r) v75∧
 ∃v76,gV v72 true (fun r=>VS prog 66 [v73,v74,v75] fun r'=>r'=r∧scOk true r) v76∧
 ∃v77,pickT v72 v76 (TV.b false)=some v77∧
 gd v77 true v77 true∧∃v78,gV v77 true (fun r=>cellT a0 18=some r) v78∧
 ∃v79,gV v77 true (fun r=>subT a1 0 2=some r) v79∧
 ∃v80,gV v77 true (fun r=>some a2=some r) v80∧
 ∃v81,gV v77 true (fun r=>VS prog 66 [v78,v79,v80] fun r'=>r'=r∧scOk true r) v81∧
 ∃v82,pickT v77 v81 (TV.b false)=some v82∧
 True∧tupOk [v82]∧Q v82)
 (∃v83,binT .eql v28 (TV.i .i64 4)=some v83∧
 condK v83
 (∃v84,gV v14 true (fun r=>some v27=some r) v84∧
 ∃v85,pickT v14 v84 (TV.b false)=some v85∧
 gd v85 true v85 true∧∃v86,gV v85 true (fun r=>cellT a0 1=some r) v86∧
 ∃v87,gV v85 true (fun r=>binT .eql v86 (TV.i .i64 0)=some r) v87∧
 ∃v88,pickT v85 v87 (TV.b false)=some v88∧
 gd v88 true v88 true∧∃v89,gV v88 true (fun r=>cellT a0 3=some r) v89∧
 ∃v90,gV v88 true (fun r=>binT .geq v89 (TV.i .i64 0)=some r) v90∧
 ∃v91,pickT v88 v90 (TV.b false)=some v91∧
 gd v91 true v91 true∧∃v92,gV v91 true (fun r=>cellT a0 3=some r) v92∧
 gd v91 true v91 true∧∃v93,gV v91 true (fun r=>cellT a1 0=some r) v93∧
 gd v91 true v91 true∧∃v94,gV v91 true (fun r=>cellT a0 2=some r) v94∧
 ∃v95,gV v91 true (fun r=>(idxT v93 v94=some r∧szOk 6 r)) v95∧
 gd v91 true v91 true∧gd v91 true v91 true∧∃v96,gV v91 true (fun r=>ldT v95 4 none=some r) v96∧
 ∃v97,gV v91 true (fun r=>binT .lss v92 v96=some r) v97∧
 ∃v98,pickT v91 v97 (TV.b false)=some v98∧
 gd v98 true v98 true∧∃v99,gV v98 true (fun r=>cellT a1 0=some r) v99∧
 gd v98 true v98 true∧∃v100,gV v98 true (fun r=>cellT a0 2=some r) v100∧
 ∃v101,gV v98 true (fun r=>(idxT v99 v100=some r∧szOk 6 r)) v101∧
 gd v98 true v98 true∧gd v98 true v98 true∧∃v102,gV v98 true (fun r=>ldT v101 2 none=some r) v102∧
 ∃v103,gV v98 true (fun r=>some a2=some r) v103∧
 ∃v104,gV v98 true (fun r=>binT .eql v102 v103=some r) v104∧
 ∃v105,pickT v98 v104 (TV.b false)=some v105∧
 gd v105 true v105 true∧∃v106,gV v105 true (fun r=>subT a0 4 4=some r) v106∧
 ∃v107,gV v105 true (fun r=>some v3=some r) v107∧
 ∃v108,gV v105 true (fun r=>VS prog 123 [v106,v107] fun r'=>r'=r∧scOk true r) v108∧
 ∃v109,pickT v105 v108 (TV.b false)=some v109∧
 gd v109 true v109 true∧∃v110,gV v109 true (fun r=>subT a0 8 9=some r) v110∧
 ∃v111,gV v109 true (fun r=>VS prog 124 [v110] fun r'=>r'=r∧scOk true r) v111∧
 ∃v112,pickT v109 v111 (TV.b false)=some v112∧
 True∧tupOk [v112]∧Q v112)
 (∃v113,binT .eql v28 (TV.i .i64 5)=some v113∧
 condK v113
 (∃v114,unT .not v27=some v114∧
 gd v114 false v114 false∧∃v115,gV v114 false (fun r=>cellT a0 17=some r) v115∧
 ∃v116,gV v114 false (fun r=>lenT v115=some r) v116∧
 ∃v117,gV v114 false (fun r=>binT .gtr v116 (TV.i .i64 0)=some r) v117∧
 ∃v118,pickT v114 (TV.b true) v117=some v118∧
 gd v118 false v118 false∧∃v119,gV v118 false (fun r=>cellT a0 18=some r) v119∧
 ∃v120,gV v118 false (fun r=>lenT v119=some r) v120∧
 ∃v121,gV v118 false (fun r=>binT .gtr v120 (TV.i .i64 0)=some r) v121∧
 ∃v122,pickT v118 (TV.b true) v121=some v122∧
 gd v122 false v122 false∧∃v123,gV v122 false (fun r=>cellT a0 19=some r) v123∧
 ∃v124,gV v122 false (fun r=>lenT v123=some r) v124∧
 ∃v125,gV v122 false (fun r=>binT .eql v124 (TV.i .i64 0)=some r) v125∧
 ∃v126,pickT v122 (TV.b true) v125=some v126∧
 gd v126 false v126 false∧∃v127,gV v126 false (fun r=>cellT a0 1=some r) v127∧
 ∃v128,gV v126 false (fun r=>binT .neq v127 (TV.i .i64 0)=some r) v128∧
 ∃v129,pickT v126 (TV.b true) v128=some v129∧
 gd v129 false v129 false∧∃v130,gV v129 false (fun r=>cellT a0 3=some r) v130∧
 ∃v131,gV v129 false (fun r=>binT .neq v130 (TV.i .i64 0)=some r) v131∧
 ∃v132,pickT v129 (TV.b true) v131=some v132∧
 gd v132 false v132 false∧∃v133,gV v132 false (fun r=>cellT a1 0=some r) v133∧
 gd v132 false v132 false∧∃v134,gV v132 false (fun r=>cellT a0 2=some r) v134∧
 ∃v135,gV v132 false (fun r=>(idxT v133 v134=some r∧szOk 6 r)) v135∧
 gd v132 false v132 false∧gd v132 false v132 false∧∃v136,gV v132 false (fun r=>ldT v135 3 none=some r) v136∧
 ∃v137,gV v132 false (fun r=>some a2=some r) v137∧
 ∃v138,gV v132 false (fun r=>binT .neq v136 v137=some r) v138∧
 ∃v139,pickT v132 (TV.b true) v138=some v139∧
 gd v139 false v139 false∧∃v140,gV v139 false (fun r=>subT a0 4 4=some r) v140∧
 ∃v141,gV v139 false (fun r=>VS prog 125 [v140] fun r'=>r'=r∧scOk true r) v141∧
 ∃v142,gV v139 false (fun r=>unT .not v141=some r) v142∧
 ∃v143,pickT v139 (TV.b true) v142=some v143∧
 gd v143 false v143 false∧∃v144,gV v143 false (fun r=>subT a0 8 9=some r) v144∧
 ∃v145,gV v143 false (fun r=>VS prog 124 [v144] fun r'=>r'=r∧scOk true r) v145∧
 ∃v146,gV v143 false (fun r=>unT .not v145=some r) v146∧
 ∃v147,pickT v143 (TV.b true) v146=some v147∧
 condK v147
 (True∧tupOk [(TV.b false)]∧Q (TV.b false))
 (∃I148:Nat→TV→TV→TV→TV→TV→TV→Prop,(∃n149,I148 n149 a0 a1 zz6 a2 v3 (TV.i .i64 0))∧∀n149 o151 o152 o153 x154 x155 x156,I148 n149 o151 o152 o153 x154 x155 x156→
 ∃v157,cellT o151 19=some v157∧
 ∃v158,lenT v157=some v158∧
 ∃v159,binT .lss x156 v158=some v159∧
 condK v159
 (∃v160,cellT o151 19=some v160∧
 ∃v161,(idxT v160 x156=some v161∧szOk 3 v161)∧
 ∃v162,ldT v161 0 (some 3)=some v162∧
 ∃v163,putT (TV.a [(TV.i .i64 0),(TV.i .i64 0),(TV.l [])]) 0 3 v162=some v163∧
 ∃v164,cellT v163 0=some v164∧
 ∃v165,binT .lss v164 (TV.i .i64 0)=some v165∧
 gd v165 false v165 false∧∃v166,gV v165 false (fun r=>cellT v163 0=some r) v166∧
 gd v165 false v165 false∧∃v167,gV v165 false (fun r=>cellT o152 0=some r) v167∧
 gd v165 false v165 false∧∃v168,gV v165 false (fun r=>cellT o151 2=some r) v168∧
 ∃v169,gV v165 false (fun r=>(idxT v167 v168=some r∧szOk 6 r)) v169∧
 gd v165 false v165 false∧gd v165 false v165 false∧∃v170,gV v165 false (fun r=>ldT v169 4 none=some r) v170∧
 ∃v171,gV v165 false (fun r=>binT .geq v166 v170=some r) v171∧
 ∃v172,pickT v165 (TV.b true) v171=some v172∧
 gd v172 false v172 false∧∃v173,gV v172 false (fun r=>cellT v163 0=some r) v173∧
 ∃v174,(v172=.b false→ixN v173 4=some v174)∧
 gd v172 false v172 false∧∃v175,gV v172 false (fun r=>ldT o153 (0 + v174*1) none=some r) v175∧
 ∃v176,pickT v172 (TV.b true) v175=some v176∧
 gd v176 false v176 false∧∃v177,gV v176 false (fun r=>cellT v163 1=some r) v177∧
 ∃v178,gV v176 false (fun r=>binT .lss v177 (TV.i .i64 0)=some r) v178∧
 ∃v179,pickT v176 (TV.b true) v178=some v179∧
 gd v179 false v179 false∧∃v180,gV v179 false (fun r=>cellT v163 1=some r) v180∧
 ∃v181,gV v179 false (fun r=>some x155=some r) v181∧
 ∃v182,gV v179 false (fun r=>binT .geq v180 v181=some r) v182∧
 ∃v183,pickT v179 (TV.b true) v182=some v183∧
 gd v183 false v183 false∧∃v184,gV v183 false (fun r=>cellT v163 2=some r) v184∧
 ∃v185,gV v183 false (fun r=>subT o152 0 2=some r) v185∧
 ∃v186,gV v183 false (fun r=>some x154=some r) v186∧
 ∃v187,gV v183 false (fun r=>VS prog 66 [v184,v185,v186] fun r'=>r'=r∧scOk true r) v187∧
 ∃v188,gV v183 false (fun r=>unT .not v187=some r) v188∧
 ∃v189,pickT v183 (TV.b true) v188=some v189∧
 condK v189
 (True∧tupOk [(TV.b false)]∧Q (TV.b false))
 (∃v190,cellT v163 0=some v190∧
 ∃v191,ixN v190 4=some v191∧
 ∃v192,putT o153 (0 + v191*1) 1 (TV.b true)=some v192∧
 ∃v193,binT .add x156 (TV.i .i64 1)=some v193∧
 ∃m150,m150 < n149∧I148 m150 o151 o152 v192 x154 x155 v193))
 (True∧tupOk [(TV.b true)]∧Q (TV.b true))))
 (∃v194,binT .eql v28 (TV.i .i64 6)=some v194∧
 condK v194
 (gd v14 true v14 true∧∃v195,gV v14 true (fun r=>cellT a0 1=some r) v195∧
 ∃v196,gV v14 true (fun r=>binT .eql v195 (TV.i .i64 0)=some r) v196∧
 ∃v197,pickT v14 v196 (TV.b false)=some v197∧
 gd v197 true v197 true∧∃v198,gV v197 true (fun r=>cellT a0 2=some r) v198∧
 ∃v199,gV v197 true (fun r=>binT .eql v198 (TV.i .i64 0)=some r) v199∧
 ∃v200,pickT v197 v199 (TV.b false)=some v200∧
 gd v200 true v200 true∧∃v201,gV v200 true (fun r=>cellT a0 3=some r) v201∧
 ∃v202,gV v200 true (fun r=>binT .eql v201 (TV.i .i64 0)=some r) v202∧
 ∃v203,pickT v200 v202 (TV.b false)=some v203∧
 gd v203 true v203 true∧∃v204,gV v203 true (fun r=>subT a0 4 4=some r) v204∧
 ∃v205,gV v203 true (fun r=>VS prog 125 [v204] fun r'=>r'=r∧scOk true r) v205∧
 ∃v206,pickT v203 v205 (TV.b false)=some v206∧
 gd v206 true v206 true∧∃v207,gV v206 true (fun r=>subT a0 8 9=some r) v207∧
 ∃v208,gV v206 true (fun r=>some v3=some r) v208∧
 ∃v209,gV v206 true (fun r=>VS prog 126 [v207,v208] fun r'=>r'=r∧scOk true r) v209∧
 ∃v210,pickT v206 v209 (TV.b false)=some v210∧
 True∧tupOk [v210]∧Q v210)
 (∃v211,binT .eql v28 (TV.i .i64 7)=some v211∧
 condK v211
 (∃v212,gV v14 true (fun r=>some v20=some r) v212∧
 ∃v213,pickT v14 v212 (TV.b false)=some v213∧
 gd v213 true v213 true∧∃v214,gV v213 true (fun r=>cellT a0 2=some r) v214∧
 ∃v215,gV v213 true (fun r=>binT .eql v214 (TV.i .i64 0)=some r) v215∧
 ∃v216,pickT v213 v215 (TV.b false)=some v216∧
 gd v216 true v216 true∧∃v217,gV v216 true (fun r=>cellT a0 3=some r) v217∧
 ∃v218,gV v216 true (fun r=>binT .eql v217 (TV.i .i64 0)=some r) v218∧
 ∃v219,pickT v216 v218 (TV.b false)=some v219∧
 gd v219 true v219 true∧∃v220,gV v219 true (fun r=>subT a0 4 4=some r) v220∧
 ∃v221,gV v219 true (fun r=>VS prog 125 [v220] fun r'=>r'=r∧scOk true r) v221∧
 ∃v222,pickT v219 v221 (TV.b false)=some v222∧
 gd v222 true v222 true∧∃v223,gV v222 true (fun r=>subT a0 8 9=some r) v223∧
 ∃v224,gV v222 true (fun r=>VS prog 124 [v223] fun r'=>r'=r∧scOk true r) v224∧
 ∃v225,pickT v222 v224 (TV.b false)=some v225∧
 True∧tupOk [v225]∧Q v225)
 (True∧tupOk [(TV.b false)]∧Q (TV.b false)))))))
 (∃v226,binT .eql v28 (TV.i .i64 3)=some v226∧
 condK v226
 (∃v227,cellT a0 19=some v227∧
 ∃v228,lenT v227=some v228∧
 ∃v229,binT .eql v228 (TV.i .i64 0)=some v229∧
 gd v229 true v229 true∧∃v230,gV v229 true (fun r=>cellT a0 0=some r) v230∧
 ∃v231,gV v229 true (fun r=>binT .eql v230 (TV.i .i64 2)=some r) v231∧
 ∃v232,gV v229 true (fun r=>some v231=some r) v232∧
 gd v232 false v232 false∧∃v233,gV v232 false (fun r=>cellT a0 18=some r) v233∧
 ∃v234,gV v232 false (fun r=>lenT v233=some r) v234∧
 ∃v235,gV v232 false (fun r=>binT .eql v234 (TV.i .i64 0)=some r) v235∧
 ∃v236,gV v229 true (fun r=>pickT v232 (TV.b true) v235=some r) v236∧
 ∃v237,pickT v229 v236 (TV.b false)=some v237∧
 gd v237 true v237 true∧∃v238,gV v237 true (fun r=>cellT a0 1=some r) v238∧
 ∃v239,gV v237 true (fun r=>binT .eql v238 (TV.i .i64 0)=some r) v239∧
 ∃v240,pickT v237 v239 (TV.b false)=some v240∧
 gd v240 true v240 true∧∃v241,gV v240 true (fun r=>cellT a0 2=some r) v241∧
 ∃v242,gV v240 true (fun r=>binT .eql v241 (TV.i .i64 0)=some r) v242∧
 ∃v243,pickT v240 v242 (TV.b false)=some v243∧
 gd v243 true v243 true∧∃v244,gV v243 true (fun r=>cellT a0 3=some r) v244∧
 ∃v245,gV v243 true (fun r=>binT .eql v244 (TV.i .i64 0)=some r) v245∧
 ∃v246,pickT v243 v245 (TV.b false)=some v246∧
 gd v246 true v246 true∧∃v247,gV v246 true (fun r=>subT a0 4 4=some r) v247∧
 ∃v248,gV v246 true (fun r=>VS prog 125 [v247] fun r'=>r'=r∧scOk true r) v248∧
 ∃v249,pickT v246 v248 (TV.b false)=some v249∧
 gd v249 true v249 true∧∃v250,gV v249 true (fun r=>subT a0 8 9=some r) v250∧
 ∃v251,gV v249 true (fun r=>some v3=some r) v251∧
 ∃v252,gV v249 true (fun r=>VS prog 126 [v250,v251] fun r'=>r'=r∧scOk true r) v252∧
 ∃v253,pickT v249 v252 (TV.b false)=some v253∧
 gd v253 true v253 true∧∃v254,gV v253 true (fun r=>cellT a0 17=some r) v254∧
 ∃v255,gV v253 true (fun r=>subT a1 0 2=some r) v255∧
 ∃v256,gV v253 true (fun r=>some a2=some r) v256∧
 ∃v257,gV v253 true (fun r=>VS prog 66 [v254,v255,v256] fun r'=>r'=r∧scOk true r) v257∧
 ∃v258,pickT v253 v257 (TV.b false)=some v258∧
 gd v258 true v258 true∧∃v259,gV v258 true (fun r=>cellT a0 18=some r) v259∧
 ∃v260,gV v258 true (fun r=>subT a1 0 2=some r) v260∧
 ∃v261,gV v258 true (fun r=>some a2=some r) v261∧
 ∃v262,gV v258 true (fun r=>VS prog 66 [v259,v260,v261] fun r'=>r'=r∧scOk true r) v262∧
 ∃v263,pickT v258 v262 (TV.b false)=some v263∧
 True∧tupOk [v263]∧Q v263)
 (∃v264,binT .eql v28 (TV.i .i64 4)=some v264∧
 condK v264
 (∃v265,gV v14 true (fun r=>some v27=some r) v265∧
 ∃v266,pickT v14 v265 (TV.b false)=some v266∧
 gd v266 true v266 true∧∃v267,gV v266 true (fun r=>cellT a0 1=some r) v267∧
 ∃v268,gV v266 true (fun r=>binT .eql v267 (TV.i .i64 0)=some r) v268∧
 ∃v269,pickT v266 v268 (TV.b false)=some v269∧
 gd v269 true v269 true∧∃v270,gV v269 true (fun r=>cellT a0 3=some r) v270∧
 ∃v271,gV v269 true (fun r=>binT .geq v270 (TV.i .i64 0)=some r) v271∧
 ∃v272,pickT v269 v271 (TV.b false)=some v272∧
 gd v272 true v272 true∧∃v273,gV v272 true (fun r=>cellT a0 3=some r) v273∧
 gd v272 true v272 true∧∃v274,gV v272 true (fun r=>cellT a1 0=some r) v274∧
 gd v272 true v272 true∧∃v275,gV v272 true (fun r=>cellT a0 2=some r) v275∧
 ∃v276,gV v272 true (fun r=>(idxT v274 v275=some r∧szOk 6 r)) v276∧
 gd v272 true v272 true∧gd v272 true v272 true∧∃v277,gV v272 true (fun r=>ldT v276 4 none=some r) v277∧
 ∃v278,gV v272 true (fun r=>binT .lss v273 v277=some r) v278∧
 ∃v279,pickT v272 v278 (TV.b false)=some v279∧
 gd v279 true v279 true∧∃v280,gV v279 true (fun r=>cellT a1 0=some r) v280∧
 gd v279 true v279 true∧∃v281,gV v279 true (fun r=>cellT a0 2=some r) v281∧
 ∃v282,gV v279 true (fun r=>(idxT v280 v281=some r∧szOk 6 r)) v282∧
 gd v279 true v279 true∧gd v279 true v279 true∧∃v283,gV v279 true (fun r=>ldT v282 2 none=some r) v283∧
 ∃v284,gV v279 true (fun r=>some a2=some r) v284∧
 ∃v285,gV v279 true (fun r=>binT .eql v283 v284=some r) v285∧
 ∃v286,pickT v279 v285 (TV.b false)=some v286∧
 gd v286 true v286 true∧∃v287,gV v286 true (fun r=>subT a0 4 4=some r) v287∧
 ∃v288,gV v286 true (fun r=>some v3=some r) v288∧
 ∃v289,gV v286 true (fun r=>VS prog 123 [v287,v288] fun r'=>r'=r∧scOk true r) v289∧
 ∃v290,pickT v286 v289 (TV.b false)=some v290∧
 gd v290 true v290 true∧∃v291,gV v290 true (fun r=>subT a0 8 9=some r) v291∧
 ∃v292,gV v290 true (fun r=>VS prog 124 [v291] fun r'=>r'=r∧scOk true r) v292∧
 ∃v293,pickT v290 v292 (TV.b false)=some v293∧
 True∧tupOk [v293]∧Q v293)
 (∃v294,binT .eql v28 (TV.i .i64 5)=some v294∧
 condK v294
 (∃v295,unT .not v27=some v295∧
 gd v295 false v295 false∧∃v296,gV v295 false (fun r=>cellT a0 17=some r) v296∧
 ∃v297,gV v295 false (fun r=>lenT v296=some r) v297∧
 ∃v298,gV v295 false (fun r=>binT .gtr v297 (TV.i .i64 0)=some r) v298∧
 ∃v299,pickT v295 (TV.b true) v298=some v299∧
 gd v299 false v299 false∧∃v300,gV v299 false (fun r=>cellT a0 18=some r) v300∧
 ∃v301,gV v299 false (fun r=>lenT v300=some r) v301∧
 ∃v302,gV v299 false (fun r=>binT .gtr v301 (TV.i .i64 0)=some r) v302∧
 ∃v303,pickT v299 (TV.b true) v302=some v303∧
 gd v303 false v303 false∧∃v304,gV v303 false (fun r=>cellT a0 19=some r) v304∧
 ∃v305,gV v303 false (fun r=>lenT v304=some r) v305∧
 ∃v306,gV v303 false (fun r=>binT .eql v305 (TV.i .i64 0)=some r) v306∧
 ∃v307,pickT v303 (TV.b true) v306=some v307∧
 gd v307 false v307 false∧∃v308,gV v307 false (fun r=>cellT a0 1=some r) v308∧
 ∃v309,gV v307 false (fun r=>binT .neq v308 (TV.i .i64 0)=some r) v309∧
 ∃v310,pickT v307 (TV.b true) v309=some v310∧
 gd v310 false v310 false∧∃v311,gV v310 false (fun r=>cellT a0 3=some r) v311∧
 ∃v312,gV v310 false (fun r=>binT .neq v311 (TV.i .i64 0)=some r) v312∧
 ∃v313,pickT v310 (TV.b true) v312=some v313∧
 gd v313 false v313 false∧∃v314,gV v313 false (fun r=>cellT a1 0=some r) v314∧
 gd v313 false v313 false∧∃v315,gV v313 false (fun r=>cellT a0 2=some r) v315∧
 ∃v316,gV v313 false (fun r=>(idxT v314 v315=some r∧szOk 6 r)) v316∧
 gd v313 false v313 false∧gd v313 false v313 false∧∃v317,gV v313 false (fun r=>ldT v316 3 none=some r) v317∧
 ∃v318,gV v313 false (fun r=>some a2=some r) v318∧
 ∃v319,gV v313 false (fun r=>binT .neq v317 v318=some r) v319∧
 ∃v320,pickT v313 (TV.b true) v319=some v320∧
 gd v320 false v320 false∧∃v321,gV v320 false (fun r=>subT a0 4 4=some r) v321∧
 ∃v322,gV v320 false (fun r=>VS prog 125 [v321] fun r'=>r'=r∧scOk true r) v322∧
 ∃v323,gV v320 false (fun r=>unT .not v322=some r) v323∧
 ∃v324,pickT v320 (TV.b true) v323=some v324∧
 gd v324 false v324 false∧∃v325,gV v324 false (fun r=>subT a0 8 9=some r) v325∧
 ∃v326,gV v324 false (fun r=>VS prog 124 [v325] fun r'=>r'=r∧scOk true r) v326∧
 ∃v327,gV v324 false (fun r=>unT .not v326=some r) v327∧
 ∃v328,pickT v324 (TV.b true) v327=some v328∧
 condK v328
 (True∧tupOk [(TV.b false)]∧Q (TV.b false))
 (∃I329:Nat→TV→TV→TV→TV→TV→TV→Prop,(∃n330,I329 n330 a0 a1 zz6 a2 v3 (TV.i .i64 0))∧∀n330 o332 o333 o334 x335 x336 x337,I329 n330 o332 o333 o334 x335 x336 x337→
 ∃v338,cellT o332 19=some v338∧
 ∃v339,lenT v338=some v339∧
 ∃v340,binT .lss x337 v339=some v340∧
 condK v340
 (∃v341,cellT o332 19=some v341∧
 ∃v342,(idxT v341 x337=some v342∧szOk 3 v342)∧
 ∃v343,ldT v342 0 (some 3)=some v343∧
 ∃v344,putT (TV.a [(TV.i .i64 0),(TV.i .i64 0),(TV.l [])]) 0 3 v343=some v344∧
 ∃v345,cellT v344 0=some v345∧
 ∃v346,binT .lss v345 (TV.i .i64 0)=some v346∧
 gd v346 false v346 false∧∃v347,gV v346 false (fun r=>cellT v344 0=some r) v347∧
 gd v346 false v346 false∧∃v348,gV v346 false (fun r=>cellT o333 0=some r) v348∧
 gd v346 false v346 false∧∃v349,gV v346 false (fun r=>cellT o332 2=some r) v349∧
 ∃v350,gV v346 false (fun r=>(idxT v348 v349=some r∧szOk 6 r)) v350∧
 gd v346 false v346 false∧gd v346 false v346 false∧∃v351,gV v346 false (fun r=>ldT v350 4 none=some r) v351∧
 ∃v352,gV v346 false (fun r=>binT .geq v347 v351=some r) v352∧
 ∃v353,pickT v346 (TV.b true) v352=some v353∧
 gd v353 false v353 false∧∃v354,gV v353 false (fun r=>cellT v344 0=some r) v354∧
 ∃v355,(v353=.b false→ixN v354 4=some v355)∧
 gd v353 false v353 false∧∃v356,gV v353 false (fun r=>ldT o334 (0 + v355*1) none=some r) v356∧
 ∃v357,pickT v353 (TV.b true) v356=some v357∧
 gd v357 false v357 false∧∃v358,gV v357 false (fun r=>cellT v344 1=some r) v358∧
 ∃v359,gV v357 false (fun r=>binT .lss v358 (TV.i .i64 0)=some r) v359∧
 ∃v360,pickT v357 (TV.b true) v359=some v360∧
 gd v360 false v360 false∧∃v361,gV v360 false (fun r=>cellT v344 1=some r) v361∧
 ∃v362,gV v360 false (fun r=>some x336=some r) v362∧
 ∃v363,gV v360 false (fun r=>binT .geq v361 v362=some r) v363∧
 ∃v364,pickT v360 (TV.b true) v363=some v364∧
 gd v364 false v364 false∧∃v365,gV v364 false (fun r=>cellT v344 2=some r) v365∧
 ∃v366,gV v364 false (fun r=>subT o333 0 2=some r) v366∧
 ∃v367,gV v364 false (fun r=>some x335=some r) v367∧
 ∃v368,gV v364 false (fun r=>VS prog 66 [v365,v366,v367] fun r'=>r'=r∧scOk true r) v368∧
 ∃v369,gV v364 false (fun r=>unT .not v368=some r) v369∧
 ∃v370,pickT v364 (TV.b true) v369=some v370∧
 condK v370
 (True∧tupOk [(TV.b false)]∧Q (TV.b false))
 (∃v371,cellT v344 0=some v371∧
 ∃v372,ixN v371 4=some v372∧
 ∃v373,putT o334 (0 + v372*1) 1 (TV.b true)=some v373∧
 ∃v374,binT .add x337 (TV.i .i64 1)=some v374∧
 ∃m331,m331 < n330∧I329 m331 o332 o333 v373 x335 x336 v374))
 (True∧tupOk [(TV.b true)]∧Q (TV.b true))))
 (∃v375,binT .eql v28 (TV.i .i64 6)=some v375∧
 condK v375
 (gd v14 true v14 true∧∃v376,gV v14 true (fun r=>cellT a0 1=some r) v376∧
 ∃v377,gV v14 true (fun r=>binT .eql v376 (TV.i .i64 0)=some r) v377∧
 ∃v378,pickT v14 v377 (TV.b false)=some v378∧
 gd v378 true v378 true∧∃v379,gV v378 true (fun r=>cellT a0 2=some r) v379∧
 ∃v380,gV v378 true (fun r=>binT .eql v379 (TV.i .i64 0)=some r) v380∧
 ∃v381,pickT v378 v380 (TV.b false)=some v381∧
 gd v381 true v381 true∧∃v382,gV v381 true (fun r=>cellT a0 3=some r) v382∧
 ∃v383,gV v381 true (fun r=>binT .eql v382 (TV.i .i64 0)=some r) v383∧
 ∃v384,pickT v381 v383 (TV.b false)=some v384∧
 gd v384 true v384 true∧∃v385,gV v384 true (fun r=>subT a0 4 4=some r) v385∧
 ∃v386,gV v384 true (fun r=>VS prog 125 [v385] fun r'=>r'=r∧scOk true r) v386∧
 ∃v387,pickT v384 v386 (TV.b false)=some v387∧
 gd v387 true v387 true∧∃v388,gV v387 true (fun r=>subT a0 8 9=some r) v388∧
 ∃v389,gV v387 true (fun r=>some v3=some r) v389∧
 ∃v390,gV v387 true (fun r=>VS prog 126 [v388,v389] fun r'=>r'=r∧scOk true r) v390∧
 ∃v391,pickT v387 v390 (TV.b false)=some v391∧
 True∧tupOk [v391]∧Q v391)
 (∃v392,binT .eql v28 (TV.i .i64 7)=some v392∧
 condK v392
 (∃v393,gV v14 true (fun r=>some v20=some r) v393∧
 ∃v394,pickT v14 v393 (TV.b false)=some v394∧
 gd v394 true v394 true∧∃v395,gV v394 true (fun r=>cellT a0 2=some r) v395∧
 ∃v396,gV v394 true (fun r=>binT .eql v395 (TV.i .i64 0)=some r) v396∧
 ∃v397,pickT v394 v396 (TV.b false)=some v397∧
 gd v397 true v397 true∧∃v398,gV v397 true (fun r=>cellT a0 3=some r) v398∧
 ∃v399,gV v397 true (fun r=>binT .eql v398 (TV.i .i64 0)=some r) v399∧
 ∃v400,pickT v397 v399 (TV.b false)=some v400∧
 gd v400 true v400 true∧∃v401,gV v400 true (fun r=>subT a0 4 4=some r) v401∧
 ∃v402,gV v400 true (fun r=>VS prog 125 [v401] fun r'=>r'=r∧scOk true r) v402∧
 ∃v403,pickT v400 v402 (TV.b false)=some v403∧
 gd v403 true v403 true∧∃v404,gV v403 true (fun r=>subT a0 8 9=some r) v404∧
 ∃v405,gV v403 true (fun r=>VS prog 124 [v404] fun r'=>r'=r∧scOk true r) v405∧
 ∃v406,pickT v403 v405 (TV.b false)=some v406∧
 True∧tupOk [v406]∧Q v406)
 (True∧tupOk [(TV.b false)]∧Q (TV.b false))))))))
theorem vs91 (a0 a1 a2:TV) (Q:TV→Prop) (h:W91 a0 a1 a2 Q):VS prog 91 [a0,a1,a2] Q:=vs_of (sh:=sh) (af:=a91) (vc:=v91) (by kernel_rfl) (by kernel_rfl) (by kernel_rfl) (by kernel_rfl) rfl ((show W91 a0 a1 a2 Q=evFn sh prog a91 v91 [a0,a1,a2] Q by kernel_rfl)▸h)
def v104:VCode:=.seq (.reg r104_0) (.seq (.reg r104_1) (.seq (.seq (.reg r104_2) (.block 0 (.loop [.ob 1 [],.pt 1 1 0,.tr 3,.tr 9,.tr 10,.tr 11] (.seq (.reg r104_3) (.seq (.cond (.t 12) (.skip) (.exit 0)) (.seq (.block 1 (.seq (.reg r104_4) (.seq (.seq (.reg r104_5) (.cond (.t 20) (.seq (.reg r104_6) (.ret)) (.skip))) (.seq (.reg r104_7) (.block 2 (.loop [.ob 1 [],.pt 1 1 0,.tr 3,.tr 4,.tr 9,.tr 10,.tr 11,.tr 21,.tr 22,.tr 23] (.seq (.reg r104_8) (.seq (.cond (.t 24) (.skip) (.exit 2)) (.seq (.block 3 (.seq (.reg r104_9) (.seq (.seq (.reg r104_10) (.cond (.t 33) (.seq (.reg r104_11) (.ret)) (.skip))) (.seq (.reg r104_12) (.cond (.t 35) (.reg r104_13) (.skip)))))) (.reg r104_14)))))))))) (.reg r104_15))))))) (.seq (.reg r104_16) (.ret))))
def W104 (a0:TV) (Q:TV→Prop):Prop:=
 TV.isTp a0=false∧
 ∃v1,cellT a0 5=some v1∧
 ∃v2,lenT v1=some v2∧
 ∃I3:Nat→TV→TV→TV→TV→TV→Prop,(∃n4,I3 n4 a0 (TV.i .i64 0) v1 v2 (TV.i .i64 0))∧∀n4 o6 x7 x8 x9 x10,I3 n4 o6 x7 x8 x9 x10→
 ∃v11,binT .lss x10 x9=some v11∧
 condK v11
 (∃v12,(idxT x8 x10=some v12∧szOk 1 v12)∧
 ∃v13,ldT v12 0 none=some v13∧
 ∃v14,lenT v13=some v14∧
 ∃v15,cellT o6 4=some v15∧
 ∃v16,binT .neq v14 v15=some v16∧
 condK v16
 (True∧tupOk [(TV.b false)]∧Q (TV.b false))
 (∃v17,lenT v13=some v17∧
 ∃I18:Nat→TV→TV→TV→TV→TV→TV→TV→TV→TV→Prop,(∃n19,I18 n19 o6 x7 x10 x8 x9 x10 v13 v17 (TV.i .i64 0))∧∀n19 o21 x22 x23 x24 x25 x26 x27 x28 x29,I18 n19 o21 x22 x23 x24 x25 x26 x27 x28 x29→
 ∃v30,binT .lss x29 x28=some v30∧
 condK v30
 (∃v31,(idxT x27 x29=some v31∧szOk 1 v31)∧
 ∃v32,ldT v31 0 none=some v32∧
 ∃v33,cellT o21 5=some v33∧
 ∃v34,lenT v33=some v34∧
 ∃v35,binT .sub v34 (TV.i .i64 1)=some v35∧
 VS prog 81 [v32,(TV.i .i64 (-1)),v35] fun r36=>scOk true r36∧
 ∃v37,unT .not r36=some v37∧
 condK v37
 (True∧tupOk [(TV.b false)]∧Q (TV.b false))
 (∃v38,binT .neq v32 (TV.i .i64 (-1))=some v38∧
 condK v38
 (∃v39,mnxT true [x22,x23,v32]=some v39∧
 ∃v40,binT .add x29 (TV.i .i64 1)=some v40∧
 ∃m20,m20 < n19∧I18 m20 o21 v39 x23 x24 x25 x26 x27 x28 v40)
 (∃v41,binT .add x29 (TV.i .i64 1)=some v41∧
 ∃m20,m20 < n19∧I18 m20 o21 x22 x23 x24 x25 x26 x27 x28 v41)))
 (∃v42,binT .add x26 (TV.i .i64 1)=some v42∧
 ∃m5,m5 < n4∧I3 m5 o21 x22 x24 x25 v42)))
 (∃v43,cellT o6 5=some v43∧
 ∃v44,lenT v43=some v44∧
 ∃v45,binT .eql v44 (TV.i .i64 0)=some v45∧
 ∃v46,gV v45 false (fun r=>some x7=some r) v46∧
 gd v45 false v45 false∧∃v47,gV v45 false (fun r=>cellT o6 5=some r) v47∧
 ∃v48,gV v45 false (fun r=>lenT v47=some r) v48∧
 ∃v49,gV v45 false (fun r=>binT .sub v48 (TV.i .i64 1)=some r) v49∧
 ∃v50,gV v45 false (fun r=>binT .eql v46 v49=some r) v50∧
 ∃v51,gV v45 false (fun r=>some v50=some r) v51∧
 gd v51 true v51 true∧∃v52,gV v51 true (fun r=>cellT o6 5=some r) v52∧
 ∃v53,gV v51 true (fun r=>lenT v52=some r) v53∧
 ∃v54,gV v51 true (fun r=>binT .leq v53 (TV.i .i64 8)=some r) v54∧
 ∃v55,gV v45 false (fun r=>pickT v51 v54 (TV.b false)=some r) v55∧
 ∃v56,pickT v45 (TV.b true) v55=some v56∧
 True∧tupOk [v56]∧Q v56)
theorem vs104 (a0:TV) (Q:TV→Prop) (h:W104 a0 Q):VS prog 104 [a0] Q:=vs_of (sh:=sh) (af:=a104) (vc:=v104) (by kernel_rfl) (by kernel_rfl) (by kernel_rfl) (by kernel_rfl) rfl ((show W104 a0 Q=evFn sh prog a104 v104 [a0] Q by kernel_rfl)▸h)
def v105:VCode:=.seq (.reg r105_0) (.seq (.dreg r105_1 b105_1 []) (.seq (.dreg r105_2 b105_2 []) (.seq (.dreg r105_3 b105_3 []) (.seq (.reg r105_4) (.seq (.seq (.reg r105_5) (.block 0 (.seq (.reg r105_6) (.cond (.t 43) (.seq (.reg r105_7) (.ret)) (.seq (.reg r105_8) (.cond (.t 73) (.seq (.reg r105_9) (.ret)) (.seq (.reg r105_10) (.cond (.t 99) (.seq (.reg r105_11) (.ret)) (.seq (.reg r105_12) (.cond (.t 124) (.seq (.reg r105_13) (.ret)) (.seq (.reg r105_14) (.cond (.t 152) (.seq (.reg r105_15) (.ret)) (.seq (.reg r105_16) (.cond (.t 183) (.seq (.reg r105_17) (.ret)) (.seq (.reg r105_18) (.cond (.t 219) (.seq (.reg r105_19) (.ret)) (.skip))))))))))))))))) (.seq (.reg r105_20) (.ret)))))))
def W105 (a0 a1:TV) (Q:TV→Prop):Prop:=
 TV.isTp a0=false∧
 TV.isTp a1=false∧
 ∃v1,subT a1 4 4=some v1∧
 VS prog 141 [v1] fun r2=>scOk true r2∧
 ∃v3,subT a1 8 9=some v3∧
 VS prog 142 [v3] fun r4=>scOk true r4∧
 ∃v5,cellT a1 17=some v5∧
 ∃v6,lenT v5=some v6∧
 ∃v7,binT .eql v6 (TV.i .i64 0)=some v7∧
 ∃v8,cellT a1 19=some v8∧
 ∃v9,lenT v8=some v9∧
 ∃v10,binT .eql v9 (TV.i .i64 0)=some v10∧
 ∃v11,cellT a1 18=some v11∧
 ∃v12,lenT v11=some v12∧
 ∃v13,binT .eql v12 (TV.i .i64 0)=some v13∧
 ∃v14,cellT a1 1=some v14∧
 ∃v15,binT .eql v14 (TV.i .i64 0)=some v15∧
 ∃v16,cellT a1 2=some v16∧
 ∃v17,binT .eql v16 (TV.i .i64 0)=some v17∧
 gd v17 true v17 true∧∃v18,gV v17 true (fun r=>cellT a1 3=some r) v18∧
 ∃v19,gV v17 true (fun r=>binT .eql v18 (TV.i .i64 0)=some r) v19∧
 ∃v20,pickT v17 v19 (TV.b false)=some v20∧
 ∃v21,cellT a1 0=some v21∧
 ∃v22,binT .eql v21 (TV.i .i64 1)=some v22∧
 condK v22
 (∃v23,gV r4 true (fun r=>some v7=some r) v23∧
 ∃v24,pickT r4 v23 (TV.b false)=some v24∧
 ∃v25,gV v24 true (fun r=>some v13=some r) v25∧
 ∃v26,pickT v24 v25 (TV.b false)=some v26∧
 ∃v27,gV v26 true (fun r=>some v10=some r) v27∧
 ∃v28,pickT v26 v27 (TV.b false)=some v28∧
 ∃v29,gV v28 true (fun r=>some v20=some r) v29∧
 ∃v30,pickT v28 v29 (TV.b false)=some v30∧
 gd v30 true v30 true∧∃v31,gV v30 true (fun r=>cellT a1 1=some r) v31∧
 gd v30 true v30 true∧∃v32,gV v30 true (fun r=>cellT a0 3=some r) v32∧
 ∃v33,gV v30 true (fun r=>binT .sub v32 (TV.i .i64 1)=some r) v33∧
 ∃v34,gV v30 true (fun r=>VS prog 81 [v31,(TV.i .i64 0),v33] fun r'=>r'=r∧scOk true r) v34∧
 ∃v35,pickT v30 v34 (TV.b false)=some v35∧
 gd v35 true v35 true∧∃v36,gV v35 true (fun r=>subT a1 4 4=some r) v36∧
 gd v35 true v35 true∧∃v37,gV v35 true (fun r=>cellT a0 3=some r) v37∧
 ∃v38,gV v35 true (fun r=>VS prog 143 [v36,v37] fun r'=>r'=r∧scOk true r) v38∧
 ∃v39,pickT v35 v38 (TV.b false)=some v39∧
 True∧tupOk [v39]∧Q v39)
 (∃v40,binT .eql v21 (TV.i .i64 7)=some v40∧
 condK v40
 (∃v41,gV r2 true (fun r=>some r4=some r) v41∧
 ∃v42,pickT r2 v41 (TV.b false)=some v42∧
 ∃v43,gV v42 true (fun r=>some v7=some r) v43∧
 ∃v44,pickT v42 v43 (TV.b false)=some v44∧
 ∃v45,gV v44 true (fun r=>some v13=some r) v45∧
 ∃v46,pickT v44 v45 (TV.b false)=some v46∧
 ∃v47,gV v46 true (fun r=>some v10=some r) v47∧
 ∃v48,pickT v46 v47 (TV.b false)=some v48∧
 ∃v49,gV v48 true (fun r=>some v20=some r) v49∧
 ∃v50,pickT v48 v49 (TV.b false)=some v50∧
 gd v50 true v50 true∧∃v51,gV v50 true (fun r=>cellT a1 1=some r) v51∧
 gd v50 true v50 true∧∃v52,gV v50 true (fun r=>cellT a0 3=some r) v52∧
 ∃v53,gV v50 true (fun r=>binT .sub v52 (TV.i .i64 1)=some r) v53∧
 ∃v54,gV v50 true (fun r=>VS prog 81 [v51,(TV.i .i64 0),v53] fun r'=>r'=r∧scOk true r) v54∧
 ∃v55,pickT v50 v54 (TV.b false)=some v55∧
 True∧tupOk [v55]∧Q v55)
 (∃v56,binT .eql v21 (TV.i .i64 6)=some v56∧
 condK v56
 (∃v57,gV r2 true (fun r=>some v7=some r) v57∧
 ∃v58,pickT r2 v57 (TV.b false)=some v58∧
 ∃v59,gV v58 true (fun r=>some v13=some r) v59∧
 ∃v60,pickT v58 v59 (TV.b false)=some v60∧
 ∃v61,gV v60 true (fun r=>some v10=some r) v61∧
 ∃v62,pickT v60 v61 (TV.b false)=some v62∧
 ∃v63,gV v62 true (fun r=>some v20=some r) v63∧
 ∃v64,pickT v62 v63 (TV.b false)=some v64∧
 ∃v65,gV v64 true (fun r=>some v15=some r) v65∧
 ∃v66,pickT v64 v65 (TV.b false)=some v66∧
 gd v66 true v66 true∧∃v67,gV v66 true (fun r=>subT a1 8 9=some r) v67∧
 gd v66 true v66 true∧∃v68,gV v66 true (fun r=>cellT a0 3=some r) v68∧
 ∃v69,gV v66 true (fun r=>VS prog 144 [v67,v68] fun r'=>r'=r∧scOk true r) v69∧
 ∃v70,pickT v66 v69 (TV.b false)=some v70∧
 True∧tupOk [v70]∧Q v70)
 (∃v71,binT .eql v21 (TV.i .i64 3)=some v71∧
 condK v71
 (∃v72,gV r2 true (fun r=>some v13=some r) v72∧
 ∃v73,pickT r2 v72 (TV.b false)=some v73∧
 ∃v74,gV v73 true (fun r=>some v10=some r) v74∧
 ∃v75,pickT v73 v74 (TV.b false)=some v75∧
 ∃v76,gV v75 true (fun r=>some v20=some r) v76∧
 ∃v77,pickT v75 v76 (TV.b false)=some v77∧
 ∃v78,gV v77 true (fun r=>some v15=some r) v78∧
 ∃v79,pickT v77 v78 (TV.b false)=some v79∧
 gd v79 true v79 true∧∃v80,gV v79 true (fun r=>subT a1 8 9=some r) v80∧
 gd v79 true v79 true∧∃v81,gV v79 true (fun r=>cellT a0 3=some r) v81∧
 ∃v82,gV v79 true (fun r=>VS prog 144 [v80,v81] fun r'=>r'=r∧scOk true r) v82∧
 ∃v83,pickT v79 v82 (TV.b false)=some v83∧
 ∃v84,gV v83 true (fun r=>subT a0 0 4=some r) v84∧
 gd v83 true v83 true∧∃v85,gV v83 true (fun r=>cellT a1 17=some r) v85∧
 ∃v86,gV v83 true (fun r=>VS prog 83 [v84,v85] fun r'=>r'=r∧scOk true r) v86∧
 ∃v87,pickT v83 v86 (TV.b false)=some v87∧
 True∧tupOk [v87]∧Q v87)
 (∃v88,binT .eql v21 (TV.i .i64 2)=some v88∧
 condK v88
 (∃v89,gV r2 true (fun r=>some v10=some r) v89∧
 ∃v90,pickT r2 v89 (TV.b false)=some v90∧
 ∃v91,gV v90 true (fun r=>some v20=some r) v91∧
 ∃v92,pickT v90 v91 (TV.b false)=some v92∧
 ∃v93,gV v92 true (fun r=>some v15=some r) v93∧
 ∃v94,pickT v92 v93 (TV.b false)=some v94∧
 gd v94 true v94 true∧∃v95,gV v94 true (fun r=>subT a1 8 9=some r) v95∧
 gd v94 true v94 true∧∃v96,gV v94 true (fun r=>cellT a0 3=some r) v96∧
 ∃v97,gV v94 true (fun r=>VS prog 144 [v95,v96] fun r'=>r'=r∧scOk true r) v97∧
 ∃v98,pickT v94 v97 (TV.b false)=some v98∧
 ∃v99,gV v98 true (fun r=>subT a0 0 4=some r) v99∧
 gd v98 true v98 true∧∃v100,gV v98 true (fun r=>cellT a1 17=some r) v100∧
 ∃v101,gV v98 true (fun r=>VS prog 83 [v99,v100] fun r'=>r'=r∧scOk true r) v101∧
 ∃v102,pickT v98 v101 (TV.b false)=some v102∧
 ∃v103,gV v102 true (fun r=>subT a0 0 4=some r) v103∧
 gd v102 true v102 true∧∃v104,gV v102 true (fun r=>cellT a1 18=some r) v104∧
 ∃v105,gV v102 true (fun r=>VS prog 83 [v103,v104] fun r'=>r'=r∧scOk true r) v105∧
 ∃v106,pickT v102 v105 (TV.b false)=some v106∧
 True∧tupOk [v106]∧Q v106)
 (∃v107,binT .eql v21 (TV.i .i64 4)=some v107∧
 condK v107
 (∃v108,gV r4 true (fun r=>some v7=some r) v108∧
 ∃v109,pickT r4 v108 (TV.b false)=some v109∧
 ∃v110,gV v109 true (fun r=>some v13=some r) v110∧
 ∃v111,pickT v109 v110 (TV.b false)=some v111∧
 ∃v112,gV v111 true (fun r=>some v10=some r) v112∧
 ∃v113,pickT v111 v112 (TV.b false)=some v113∧
 ∃v114,gV v113 true (fun r=>some v15=some r) v114∧
 ∃v115,pickT v113 v114 (TV.b false)=some v115∧
 ∃v116,gV v115 true (fun r=>subT a0 0 4=some r) v116∧
 gd v115 true v115 true∧∃v117,gV v115 true (fun r=>cellT a1 2=some r) v117∧
 ∃v118,gV v115 true (fun r=>VS prog 145 [v116,v117,(TV.f 146)] fun r'=>r'=r∧scOk true r) v118∧
 ∃v119,pickT v115 v118 (TV.b false)=some v119∧
 ∃v120,gV v119 true (fun r=>subT a0 0 4=some r) v120∧
 gd v119 true v119 true∧∃v121,gV v119 true (fun r=>cellT a1 2=some r) v121∧
 gd v119 true v119 true∧∃v122,gV v119 true (fun r=>cellT a1 3=some r) v122∧
 ∃v123,gV v119 true (fun r=>VS prog 147 [v120,v121,v122] fun r'=>r'=r∧scOk true r) v123∧
 ∃v124,pickT v119 v123 (TV.b false)=some v124∧
 gd v124 true v124 true∧∃v125,gV v124 true (fun r=>subT a1 4 4=some r) v125∧
 gd v124 true v124 true∧∃v126,gV v124 true (fun r=>cellT a0 3=some r) v126∧
 ∃v127,gV v124 true (fun r=>VS prog 143 [v125,v126] fun r'=>r'=r∧scOk true r) v127∧
 ∃v128,pickT v124 v127 (TV.b false)=some v128∧
 True∧tupOk [v128]∧Q v128)
 (∃v129,binT .eql v21 (TV.i .i64 5)=some v129∧
 condK v129
 (∃v130,gV r2 true (fun r=>some r4=some r) v130∧
 ∃v131,pickT r2 v130 (TV.b false)=some v131∧
 ∃v132,gV v131 true (fun r=>some v7=some r) v132∧
 ∃v133,pickT v131 v132 (TV.b false)=some v133∧
 ∃v134,gV v133 true (fun r=>some v13=some r) v134∧
 ∃v135,pickT v133 v134 (TV.b false)=some v135∧
 ∃v136,gV v135 true (fun r=>some v15=some r) v136∧
 ∃v137,pickT v135 v136 (TV.b false)=some v137∧
 gd v137 true v137 true∧∃v138,gV v137 true (fun r=>cellT a1 3=some r) v138∧
 ∃v139,gV v137 true (fun r=>binT .eql v138 (TV.i .i64 0)=some r) v139∧
 ∃v140,pickT v137 v139 (TV.b false)=some v140∧
 ∃v141,gV v140 true (fun r=>subT a0 0 4=some r) v141∧
 gd v140 true v140 true∧∃v142,gV v140 true (fun r=>cellT a1 2=some r) v142∧
 ∃v143,gV v140 true (fun r=>VS prog 145 [v141,v142,(TV.f 148)] fun r'=>r'=r∧scOk true r) v143∧
 ∃v144,pickT v140 v143 (TV.b false)=some v144∧
 ∃v145,gV v144 true (fun r=>subT a0 0 4=some r) v145∧
 gd v144 true v144 true∧∃v146,gV v144 true (fun r=>cellT a1 2=some r) v146∧
 gd v144 true v144 true∧∃v147,gV v144 true (fun r=>cellT a1 19=some r) v147∧
 ∃v148,gV v144 true (fun r=>VS prog 149 [v145,v146,v147] fun r'=>r'=r∧scOk true r) v148∧
 ∃v149,pickT v144 v148 (TV.b false)=some v149∧
 True∧tupOk [v149]∧Q v149)
 (True∧tupOk [(TV.b false)]∧Q (TV.b false))))))))
theorem vs105 (a0 a1:TV) (Q:TV→Prop) (h:W105 a0 a1 Q):VS prog 105 [a0,a1] Q:=vs_of (sh:=sh) (af:=a105) (vc:=v105) (by kernel_rfl) (by kernel_rfl) (by kernel_rfl) (by kernel_rfl) rfl ((show W105 a0 a1 Q=evFn sh prog a105 v105 [a0,a1] Q by kernel_rfl)▸h)
def v106:VCode:=.seq (.reg r106_0) (.seq (.reg r106_1) (.seq (.reg r106_2) (.seq (.seq (.reg r106_3) (.block 0 (.loop [.ob 1 [(3,4)],.ob 2 [(3,4)],.pt 1 1 0,.pt 2 2 0,.tr 9,.tr 10,.tr 11] (.seq (.reg r106_4) (.seq (.cond (.t 12) (.skip) (.exit 0)) (.seq (.block 1 (.seq (.reg r106_5) (.dreg r106_6 b106_6 [(1,4)]))) (.reg r106_7))))))) (.seq (.reg r106_8) (.ret)))))
def W106 (a0:TV) (Q:TV→Prop):Prop:=
 TV.isTp a0=false∧
 ∃v1,cellT a0 3=some v1∧
 ∃v2,putT a0 3 1 (TV.l [])=some v2∧
 ∃v3,lenT v1=some v3∧
 ∃I4:Nat→TV→List TV→TV→List TV→TV→TV→TV→Prop,(∃n5,I4 n5 v2 [] zz0 [] v1 v3 (TV.i .i64 0))∧∀n5 o7 l8 o9 l10 x11 x12 x13,I4 n5 o7 l8 o9 l10 x11 x12 x13→
 ∃v14,binT .lss x13 x12=some v14∧
 condK v14
 (∃v15,(idxT x11 x13=some v15∧szOk 4 v15)∧
 ∃v16,ldT v15 0 (some 4)=some v16∧
 ∃v17,putT zz0 0 4 v16=some v17∧
 ∃v18,subT v17 0 4=some v18∧
 VS prog 106 [v18] fun r19=>scOk true r19∧
 (Nat.beq 0 (0*4)&&Nat.beq 4 4)=true∧szOk 4 r19∧
 ∃v20,listT (TV.l [r19])=some v20∧szHd 4 v20∧
 ∃v21,appT 48 l8 v20=some v21∧
 ∃v22,putT o7 3 1 (TV.l [])=some v22∧
 ∃v23,binT .add x13 (TV.i .i64 1)=some v23∧
 ∃m6,m6 < n5∧I4 m6 v22 v21 o9 l10 x11 x12 v23)
 (∃v24,subT o7 0 4=some v24∧
 ∃v25,putT o9 0 4 v24=some v25∧
 True∧∃v26,subT v25 0 4=some v26∧
 ∃v27,putT v26 3 1 (TV.l l8)=some v27∧
 tupOk [v27]∧Q v27)
theorem vs106 (a0:TV) (Q:TV→Prop) (h:W106 a0 Q):VS prog 106 [a0] Q:=vs_of (sh:=sh) (af:=a106) (vc:=v106) (by kernel_rfl) (by kernel_rfl) (by kernel_rfl) (by kernel_rfl) rfl ((show W106 a0 Q=evFn sh prog a106 v106 [a0] Q by kernel_rfl)▸h)
def v107:VCode:=.seq (.reg r107_0) (.seq (.dreg r107_1 b107_1 []) (.ret))
def W107 (a0:TV) (Q:TV→Prop):Prop:=
 TV.isTp a0=false∧
 ∃v1,cellT a0 0=some v1∧
 ∃v2,subT a0 1 4=some v2∧
 VS prog 106 [v2] fun r3=>scOk true r3∧
 ∃v4,subT a0 5 4=some v4∧
 VS prog 106 [v4] fun r5=>scOk true r5∧
 ∃v6,putT zz5 0 1 v1=some v6∧
 ∃v7,putT v6 1 4 r3=some v7∧
 ∃v8,putT v7 5 4 r5=some v8∧
 ∃v9,putT zz5 0 9 v8=some v9∧
 True∧∃v10,subT v9 0 9=some v10∧
 tupOk [v10]∧Q v10
theorem vs107 (a0:TV) (Q:TV→Prop) (h:W107 a0 Q):VS prog 107 [a0] Q:=vs_of (sh:=sh) (af:=a107) (vc:=v107) (by kernel_rfl) (by kernel_rfl) (by kernel_rfl) (by kernel_rfl) rfl ((show W107 a0 Q=evFn sh prog a107 v107 [a0] Q by kernel_rfl)▸h)
def v109:VCode:=.seq (.reg r109_0) (.seq (.reg r109_1) (.seq (.reg r109_2) (.seq (.reg r109_3) (.ret))))
def W109 (a0:TV) (Q:TV→Prop):Prop:=
 TV.isTp a0=false∧
 ∃v1,subT a0 0 9=some v1∧
 VS prog 107 [v1] fun r2=>scOk true r2∧
 ∃v3,putT zz5 0 9 r2=some v3∧
 ∃v4,cellT a0 0=some v4∧
 VS prog 41 [v4] fun r5=>scOk true r5∧
 ∃v6,putT v3 0 1 r5=some v6∧
 ∃v7,subT v6 0 9=some v7∧
 ∃v8,putT zz5 0 9 v7=some v8∧
 True∧∃v9,subT v8 0 9=some v9∧
 tupOk [v9]∧Q v9
theorem vs109 (a0:TV) (Q:TV→Prop) (h:W109 a0 Q):VS prog 109 [a0] Q:=vs_of (sh:=sh) (af:=a109) (vc:=v109) (by kernel_rfl) (by kernel_rfl) (by kernel_rfl) (by kernel_rfl) rfl ((show W109 a0 Q=evFn sh prog a109 v109 [a0] Q by kernel_rfl)▸h)
def v56:VCode:=.seq (.reg r56_0) (.seq (.seq (.reg r56_1) (.cond (.t 4) (.seq (.reg r56_2) (.ret)) (.skip))) (.seq (.reg r56_3) (.ret)))
def W56 (a0:TV) (Q:TV→Prop):Prop:=
 ∃v1:List TV,listT a0=some v1∧∀b2:Bool,(v1≠[]→b2=false)→
 condK (TV.b b2)
 (True∧tupOk [(TV.l [])]∧Q (TV.l []))
 (∃v3,listT a0=some v3∧szHd 1 v3∧
 ∃v4,appT 8 [] v3=some v4∧
 True∧tupOk [(TV.l v4)]∧Q (TV.l v4))
theorem vs56 (a0:TV) (Q:TV→Prop) (h:W56 a0 Q):VS prog 56 [a0] Q:=vs_of (sh:=sh) (af:=a56) (vc:=v56) (by kernel_rfl) (by kernel_rfl) (by kernel_rfl) (by kernel_rfl) rfl ((show W56 a0 Q=evFn sh prog a56 v56 [a0] Q by kernel_rfl)▸h)
def v118:VCode:=.seq (.reg r118_0) (.seq (.reg r118_1) (.ret))
def W118 (a0 a1:TV) (Q:TV→Prop):Prop:=
 VS prog 155 [a0] fun r1=>scOk true r1∧
 ∃v2,gV r1 true (fun r=>some a1=some r) v2∧
 ∃v3,gV r1 true (fun r=>VS prog 155 [v2] fun r'=>r'=r∧scOk true r) v3∧
 ∃v4,gV r1 true (fun r=>unT .not v3=some r) v4∧
 ∃v5,pickT r1 v4 (TV.b false)=some v5∧
 ∃v6,gV v5 false (fun r=>some a0=some r) v6∧
 ∃v7,gV v5 false (fun r=>some a1=some r) v7∧
 ∃v8,gV v5 false (fun r=>binT .lss v6 v7=some r) v8∧
 ∃v9,pickT v5 (TV.b true) v8=some v9∧
 True∧tupOk [v9]∧Q v9
theorem vs118 (a0 a1:TV) (Q:TV→Prop) (h:W118 a0 a1 Q):VS prog 118 [a0,a1] Q:=vs_of (sh:=sh) (af:=a118) (vc:=v118) (by kernel_rfl) (by kernel_rfl) (by kernel_rfl) (by kernel_rfl) rfl ((show W118 a0 a1 Q=evFn sh prog a118 v118 [a0,a1] Q by kernel_rfl)▸h)
def v122:VCode:=.seq (.reg r122_0) (.seq (.seq (.reg r122_1) (.cond (.t 4) (.seq (.reg r122_2) (.reg r122_3)) (.skip))) (.seq (.seq (.reg r122_4) (.cond (.t 8) (.seq (.reg r122_5) (.reg r122_6)) (.skip))) (.seq (.seq (.reg r122_7) (.cond (.t 14) (.seq (.reg r122_8) (.reg r122_9)) (.skip))) (.seq (.reg r122_10) (.ret)))))
def W122 (a0:TV) (Q:TV→Prop):Prop:=
 ∃v1,binT .geq a0 (TV.i .u64 4294967296)=some v1∧
 condK v1
 (∃v2,binT .shr a0 (TV.i .u64 32)=some v2∧
 ∃v3,binT .geq v2 (TV.i .u64 65536)=some v3∧
 condK v3
 (∃v4,binT .shr v2 (TV.i .u64 16)=some v4∧
 ∃v5,binT .add (TV.i .i64 32) (TV.i .i64 16)=some v5∧
 ∃v6,binT .geq v4 (TV.i .u64 256)=some v6∧
 condK v6
 (∃v7,binT .shr v4 (TV.i .u64 8)=some v7∧
 ∃v8,binT .add v5 (TV.i .i64 8)=some v8∧
 ∃v9,convT .u8 v7=some v9∧
 ∃v10,idxST zz7 v9=some v10∧
 ∃v11,convT .i64 v10=some v11∧
 ∃v12,binT .add v8 v11=some v12∧
 True∧tupOk [v12]∧Q v12)
 (∃v13,convT .u8 v4=some v13∧
 ∃v14,idxST zz7 v13=some v14∧
 ∃v15,convT .i64 v14=some v15∧
 ∃v16,binT .add v5 v15=some v16∧
 True∧tupOk [v16]∧Q v16))
 (∃v17,binT .geq v2 (TV.i .u64 256)=some v17∧
 condK v17
 (∃v18,binT .shr v2 (TV.i .u64 8)=some v18∧
 ∃v19,binT .add (TV.i .i64 32) (TV.i .i64 8)=some v19∧
 ∃v20,convT .u8 v18=some v20∧
 ∃v21,idxST zz7 v20=some v21∧
 ∃v22,convT .i64 v21=some v22∧
 ∃v23,binT .add v19 v22=some v23∧
 True∧tupOk [v23]∧Q v23)
 (∃v24,convT .u8 v2=some v24∧
 ∃v25,idxST zz7 v24=some v25∧
 ∃v26,convT .i64 v25=some v26∧
 ∃v27,binT .add (TV.i .i64 32) v26=some v27∧
 True∧tupOk [v27]∧Q v27)))
 (∃v28,binT .geq a0 (TV.i .u64 65536)=some v28∧
 condK v28
 (∃v29,binT .shr a0 (TV.i .u64 16)=some v29∧
 ∃v30,binT .add (TV.i .i64 0) (TV.i .i64 16)=some v30∧
 ∃v31,binT .geq v29 (TV.i .u64 256)=some v31∧
 condK v31
 (∃v32,binT .shr v29 (TV.i .u64 8)=some v32∧
 ∃v33,binT .add v30 (TV.i .i64 8)=some v33∧
 ∃v34,convT .u8 v32=some v34∧
 ∃v35,idxST zz7 v34=some v35∧
 ∃v36,convT .i64 v35=some v36∧
 ∃v37,binT .add v33 v36=some v37∧
 True∧tupOk [v37]∧Q v37)
 (∃v38,convT .u8 v29=some v38∧
 ∃v39,idxST zz7 v38=some v39∧
 ∃v40,convT .i64 v39=some v40∧
 ∃v41,binT .add v30 v40=some v41∧
 True∧tupOk [v41]∧Q v41))
 (∃v42,binT .geq a0 (TV.i .u64 256)=some v42∧
 condK v42
 (∃v43,binT .shr a0 (TV.i .u64 8)=some v43∧
 ∃v44,binT .add (TV.i .i64 0) (TV.i .i64 8)=some v44∧
 ∃v45,convT .u8 v43=some v45∧
 ∃v46,idxST zz7 v45=some v46∧
 ∃v47,convT .i64 v46=some v47∧
 ∃v48,binT .add v44 v47=some v48∧
 True∧tupOk [v48]∧Q v48)
 (∃v49,convT .u8 a0=some v49∧
 ∃v50,idxST zz7 v49=some v50∧
 ∃v51,convT .i64 v50=some v51∧
 ∃v52,binT .add (TV.i .i64 0) v51=some v52∧
 True∧tupOk [v52]∧Q v52)))
theorem vs122 (a0:TV) (Q:TV→Prop) (h:W122 a0 Q):VS prog 122 [a0] Q:=vs_of (sh:=sh) (af:=a122) (vc:=v122) (by kernel_rfl) (by kernel_rfl) (by kernel_rfl) (by kernel_rfl) rfl ((show W122 a0 Q=evFn sh prog a122 v122 [a0] Q by kernel_rfl)▸h)
def v123:VCode:=.seq (.reg r123_0) (.seq (.block 0 (.seq (.reg r123_1) (.cond (.t 5) (.seq (.reg r123_2) (.ret)) (.seq (.reg r123_3) (.cond (.t 28) (.seq (.reg r123_4) (.ret)) (.seq (.reg r123_5) (.cond (.t 52) (.seq (.reg r123_6) (.ret)) (.seq (.reg r123_7) (.cond (.t 78) (.seq (.reg r123_8) (.ret)) (.skip)))))))))) (.seq (.reg r123_9) (.ret)))
def W123 (a0 a1:TV) (Q:TV→Prop):Prop:=
 TV.isTp a0=false∧
 ∃v1,cellT a0 0=some v1∧
 ∃v2,binT .eql v1 (TV.i .i64 1)=some v2∧
 condK v2
 (∃v3,cellT a0 1=some v3∧
 ∃v4,binT .geq v3 (TV.i .i64 0)=some v4∧
 gd v4 true v4 true∧∃v5,gV v4 true (fun r=>cellT a0 1=some r) v5∧
 ∃v6,gV v4 true (fun r=>binT .leq v5 (TV.i .i64 2147483647)=some r) v6∧
 ∃v7,pickT v4 v6 (TV.b false)=some v7∧
 gd v7 true v7 true∧∃v8,gV v7 true (fun r=>cellT a0 2=some r) v8∧
 ∃v9,gV v7 true (fun r=>binT .eql v8 (TV.i .i64 0)=some r) v9∧
 ∃v10,pickT v7 v9 (TV.b false)=some v10∧
 gd v10 true v10 true∧∃v11,gV v10 true (fun r=>cellT a0 3=some r) v11∧
 ∃v12,gV v10 true (fun r=>lenT v11=some r) v12∧
 ∃v13,gV v10 true (fun r=>binT .eql v12 (TV.i .i64 0)=some r) v13∧
 ∃v14,pickT v10 v13 (TV.b false)=some v14∧
 True∧tupOk [v14]∧Q v14)
 (∃v15,cellT a0 0=some v15∧
 ∃v16,binT .eql v15 (TV.i .i64 2)=some v16∧
 condK v16
 (∃v17,cellT a0 1=some v17∧
 ∃v18,binT .eql v17 (TV.i .i64 0)=some v18∧
 gd v18 true v18 true∧∃v19,gV v18 true (fun r=>cellT a0 2=some r) v19∧
 ∃v20,gV v18 true (fun r=>binT .geq v19 (TV.i .i64 0)=some r) v20∧
 ∃v21,pickT v18 v20 (TV.b false)=some v21∧
 gd v21 true v21 true∧∃v22,gV v21 true (fun r=>cellT a0 2=some r) v22∧
 ∃v23,gV v21 true (fun r=>some a1=some r) v23∧
 ∃v24,gV v21 true (fun r=>binT .lss v22 v23=some r) v24∧
 ∃v25,pickT v21 v24 (TV.b false)=some v25∧
 gd v25 true v25 true∧∃v26,gV v25 true (fun r=>cellT a0 3=some r) v26∧
 ∃v27,gV v25 true (fun r=>lenT v26=some r) v27∧
 ∃v28,gV v25 true (fun r=>binT .eql v27 (TV.i .i64 0)=some r) v28∧
 ∃v29,pickT v25 v28 (TV.b false)=some v29∧
 True∧tupOk [v29]∧Q v29)
 (∃v30,cellT a0 0=some v30∧
 ∃v31,binT .eql v30 (TV.i .i64 3)=some v31∧
 condK v31
 (∃v32,cellT a0 1=some v32∧
 ∃v33,binT .eql v32 (TV.i .i64 0)=some v33∧
 gd v33 true v33 true∧∃v34,gV v33 true (fun r=>cellT a0 2=some r) v34∧
 ∃v35,gV v33 true (fun r=>binT .eql v34 (TV.i .i64 0)=some r) v35∧
 ∃v36,pickT v33 v35 (TV.b false)=some v36∧
 gd v36 true v36 true∧∃v37,gV v36 true (fun r=>cellT a0 3=some r) v37∧
 ∃v38,gV v36 true (fun r=>lenT v37=some r) v38∧
 ∃v39,gV v36 true (fun r=>binT .eql v38 (TV.i .i64 1)=some r) v39∧
 ∃v40,pickT v36 v39 (TV.b false)=some v40∧
 gd v40 true v40 true∧∃v41,gV v40 true (fun r=>cellT a0 3=some r) v41∧
 ∃v42,gV v40 true (fun r=>(idxT v41 (TV.i .i64 0)=some r∧szOk 4 r)) v42∧
 gd v40 true v40 true∧∃v43,gV v40 true (fun r=>ldT v42 0 (some 4)=some r) v43∧
 ∃v44,gV v40 true (fun r=>some a1=some r) v44∧
 ∃v45,gV v40 true (fun r=>VS prog 123 [v43,v44] fun r'=>r'=r∧scOk true r) v45∧
 ∃v46,pickT v40 v45 (TV.b false)=some v46∧
 True∧tupOk [v46]∧Q v46)
 (∃v47,cellT a0 0=some v47∧
 ∃v48,binT .geq v47 (TV.i .i64 4)=some v48∧
 gd v48 true v48 true∧∃v49,gV v48 true (fun r=>cellT a0 0=some r) v49∧
 ∃v50,gV v48 true (fun r=>binT .leq v49 (TV.i .i64 8)=some r) v50∧
 ∃v51,pickT v48 v50 (TV.b false)=some v51∧
 condK v51
 (∃v52,cellT a0 1=some v52∧
 ∃v53,binT .eql v52 (TV.i .i64 0)=some v53∧
 gd v53 true v53 true∧∃v54,gV v53 true (fun r=>cellT a0 2=some r) v54∧
 ∃v55,gV v53 true (fun r=>binT .eql v54 (TV.i .i64 0)=some r) v55∧
 ∃v56,pickT v53 v55 (TV.b false)=some v56∧
 gd v56 true v56 true∧∃v57,gV v56 true (fun r=>cellT a0 3=some r) v57∧
 ∃v58,gV v56 true (fun r=>lenT v57=some r) v58∧
 ∃v59,gV v56 true (fun r=>binT .eql v58 (TV.i .i64 2)=some r) v59∧
 ∃v60,pickT v56 v59 (TV.b false)=some v60∧
 gd v60 true v60 true∧∃v61,gV v60 true (fun r=>cellT a0 3=some r) v61∧
 ∃v62,gV v60 true (fun r=>(idxT v61 (TV.i .i64 0)=some r∧szOk 4 r)) v62∧
 gd v60 true v60 true∧∃v63,gV v60 true (fun r=>ldT v62 0 (some 4)=some r) v63∧
 ∃v64,gV v60 true (fun r=>some a1=some r) v64∧
 ∃v65,gV v60 true (fun r=>VS prog 123 [v63,v64] fun r'=>r'=r∧scOk true r) v65∧
 ∃v66,pickT v60 v65 (TV.b false)=some v66∧
 gd v66 true v66 true∧∃v67,gV v66 true (fun r=>cellT a0 3=some r) v67∧
 ∃v68,gV v66 true (fun r=>(idxT v67 (TV.i .i64 1)=some r∧szOk 4 r)) v68∧
 gd v66 true v66 true∧∃v69,gV v66 true (fun r=>ldT v68 0 (some 4)=some r) v69∧
 ∃v70,gV v66 true (fun r=>some a1=some r) v70∧
 ∃v71,gV v66 true (fun r=>VS prog 123 [v69,v70] fun r'=>r'=r∧scOk true r) v71∧
 ∃v72,pickT v66 v71 (TV.b false)=some v72∧
 True∧tupOk [v72]∧Q v72)
 (True∧tupOk [(TV.b false)]∧Q (TV.b false)))))
theorem vs123 (a0 a1:TV) (Q:TV→Prop) (h:W123 a0 a1 Q):VS prog 123 [a0,a1] Q:=vs_of (sh:=sh) (af:=a123) (vc:=v123) (by kernel_rfl) (by kernel_rfl) (by kernel_rfl) (by kernel_rfl) rfl ((show W123 a0 a1 Q=evFn sh prog a123 v123 [a0,a1] Q by kernel_rfl)▸h)
def v124:VCode:=.seq (.reg r124_0) (.seq (.reg r124_1) (.ret))
def W124 (a0:TV) (Q:TV→Prop):Prop:=
 TV.isTp a0=false∧
 ∃v1,cellT a0 0=some v1∧
 ∃v2,binT .eql v1 (TV.i .i64 0)=some v2∧
 gd v2 true v2 true∧∃v3,gV v2 true (fun r=>subT a0 1 4=some r) v3∧
 ∃v4,gV v2 true (fun r=>VS prog 125 [v3] fun r'=>r'=r∧scOk true r) v4∧
 ∃v5,pickT v2 v4 (TV.b false)=some v5∧
 gd v5 true v5 true∧∃v6,gV v5 true (fun r=>subT a0 5 4=some r) v6∧
 ∃v7,gV v5 true (fun r=>VS prog 125 [v6] fun r'=>r'=r∧scOk true r) v7∧
 ∃v8,pickT v5 v7 (TV.b false)=some v8∧
 True∧tupOk [v8]∧Q v8
theorem vs124 (a0:TV) (Q:TV→Prop) (h:W124 a0 Q):VS prog 124 [a0] Q:=vs_of (sh:=sh) (af:=a124) (vc:=v124) (by kernel_rfl) (by kernel_rfl) (by kernel_rfl) (by kernel_rfl) rfl ((show W124 a0 Q=evFn sh prog a124 v124 [a0] Q by kernel_rfl)▸h)
def v125:VCode:=.seq (.reg r125_0) (.seq (.reg r125_1) (.ret))
def W125 (a0:TV) (Q:TV→Prop):Prop:=
 TV.isTp a0=false∧
 ∃v1,cellT a0 0=some v1∧
 ∃v2,binT .eql v1 (TV.i .i64 0)=some v2∧
 gd v2 true v2 true∧∃v3,gV v2 true (fun r=>cellT a0 1=some r) v3∧
 ∃v4,gV v2 true (fun r=>binT .eql v3 (TV.i .i64 0)=some r) v4∧
 ∃v5,pickT v2 v4 (TV.b false)=some v5∧
 gd v5 true v5 true∧∃v6,gV v5 true (fun r=>cellT a0 2=some r) v6∧
 ∃v7,gV v5 true (fun r=>binT .eql v6 (TV.i .i64 0)=some r) v7∧
 ∃v8,pickT v5 v7 (TV.b false)=some v8∧
 gd v8 true v8 true∧∃v9,gV v8 true (fun r=>cellT a0 3=some r) v9∧
 ∃v10,gV v8 true (fun r=>lenT v9=some r) v10∧
 ∃v11,gV v8 true (fun r=>binT .eql v10 (TV.i .i64 0)=some r) v11∧
 ∃v12,pickT v8 v11 (TV.b false)=some v12∧
 True∧tupOk [v12]∧Q v12
theorem vs125 (a0:TV) (Q:TV→Prop) (h:W125 a0 Q):VS prog 125 [a0] Q:=vs_of (sh:=sh) (af:=a125) (vc:=v125) (by kernel_rfl) (by kernel_rfl) (by kernel_rfl) (by kernel_rfl) rfl ((show W125 a0 Q=evFn sh prog a125 v125 [a0] Q by kernel_rfl)▸h)
def v126:VCode:=.seq (.reg r126_0) (.seq (.reg r126_1) (.ret))
def W126 (a0 a1:TV) (Q:TV→Prop):Prop:=
 TV.isTp a0=false∧
 ∃v1,cellT a0 0=some v1∧
 ∃v2,binT .geq v1 (TV.i .i64 1)=some v2∧
 gd v2 true v2 true∧∃v3,gV v2 true (fun r=>cellT a0 0=some r) v3∧
 ∃v4,gV v2 true (fun r=>binT .leq v3 (TV.i .i64 6)=some r) v4∧
 ∃v5,pickT v2 v4 (TV.b false)=some v5∧
 gd v5 true v5 true∧∃v6,gV v5 true (fun r=>subT a0 1 4=some r) v6∧
 ∃v7,gV v5 true (fun r=>some a1=some r) v7∧
 ∃v8,gV v5 true (fun r=>VS prog 123 [v6,v7] fun r'=>r'=r∧scOk true r) v8∧
 ∃v9,pickT v5 v8 (TV.b false)=some v9∧
 gd v9 true v9 true∧∃v10,gV v9 true (fun r=>subT a0 5 4=some r) v10∧
 ∃v11,gV v9 true (fun r=>some a1=some r) v11∧
 ∃v12,gV v9 true (fun r=>VS prog 123 [v10,v11] fun r'=>r'=r∧scOk true r) v12∧
 ∃v13,pickT v9 v12 (TV.b false)=some v13∧
 True∧tupOk [v13]∧Q v13
theorem vs126 (a0 a1:TV) (Q:TV→Prop) (h:W126 a0 a1 Q):VS prog 126 [a0,a1] Q:=vs_of (sh:=sh) (af:=a126) (vc:=v126) (by kernel_rfl) (by kernel_rfl) (by kernel_rfl) (by kernel_rfl) rfl ((show W126 a0 a1 Q=evFn sh prog a126 v126 [a0,a1] Q by kernel_rfl)▸h)
def v151:VCode:=.seq (.reg r151_0) (.seq (.reg r151_1) (.ret))
def W151 (a0:TV) (Q:TV→Prop):Prop:=
 ∃v1,convT .u64 a0=some v1∧
 VS prog 88 [v1] fun r2=>scOk true r2∧
 ∃v3,binT .shl (TV.i .u64 1) r2=some v3∧
 True∧tupOk [v3]∧Q v3
theorem vs151 (a0:TV) (Q:TV→Prop) (h:W151 a0 Q):VS prog 151 [a0] Q:=vs_of (sh:=sh) (af:=a151) (vc:=v151) (by kernel_rfl) (by kernel_rfl) (by kernel_rfl) (by kernel_rfl) rfl ((show W151 a0 Q=evFn sh prog a151 v151 [a0] Q by kernel_rfl)▸h)
def v155:VCode:=.seq (.reg r155_0) (.seq (.reg r155_1) (.ret))
def W155 (a0:TV) (Q:TV→Prop):Prop:=
 ∃v1,binT .neq a0 a0=some v1∧
 True∧tupOk [v1]∧Q v1
theorem vs155 (a0:TV) (Q:TV→Prop) (h:W155 a0 Q):VS prog 155 [a0] Q:=vs_of (sh:=sh) (af:=a155) (vc:=v155) (by kernel_rfl) (by kernel_rfl) (by kernel_rfl) (by kernel_rfl) rfl ((show W155 a0 Q=evFn sh prog a155 v155 [a0] Q by kernel_rfl)▸h)
def v141:VCode:=.seq (.reg r141_0) (.seq (.reg r141_1) (.ret))
def W141 (a0:TV) (Q:TV→Prop):Prop:=
 TV.isTp a0=false∧
 ∃v1,cellT a0 0=some v1∧
 ∃v2,binT .eql v1 (TV.i .i64 0)=some v2∧
 gd v2 true v2 true∧∃v3,gV v2 true (fun r=>cellT a0 1=some r) v3∧
 ∃v4,gV v2 true (fun r=>binT .eql v3 (TV.i .i64 0)=some r) v4∧
 ∃v5,pickT v2 v4 (TV.b false)=some v5∧
 gd v5 true v5 true∧∃v6,gV v5 true (fun r=>cellT a0 2=some r) v6∧
 ∃v7,gV v5 true (fun r=>binT .eql v6 (TV.i .i64 0)=some r) v7∧
 ∃v8,pickT v5 v7 (TV.b false)=some v8∧
 gd v8 true v8 true∧∃v9,gV v8 true (fun r=>cellT a0 3=some r) v9∧
 ∃v10,gV v8 true (fun r=>lenT v9=some r) v10∧
 ∃v11,gV v8 true (fun r=>binT .eql v10 (TV.i .i64 0)=some r) v11∧
 ∃v12,pickT v8 v11 (TV.b false)=some v12∧
 True∧tupOk [v12]∧Q v12
theorem vs141 (a0:TV) (Q:TV→Prop) (h:W141 a0 Q):VS prog 141 [a0] Q:=vs_of (sh:=sh) (af:=a141) (vc:=v141) (by kernel_rfl) (by kernel_rfl) (by kernel_rfl) (by kernel_rfl) rfl ((show W141 a0 Q=evFn sh prog a141 v141 [a0] Q by kernel_rfl)▸h)
def v142:VCode:=.seq (.reg r142_0) (.seq (.reg r142_1) (.ret))
def W142 (a0:TV) (Q:TV→Prop):Prop:=
 TV.isTp a0=false∧
 ∃v1,cellT a0 0=some v1∧
 ∃v2,binT .eql v1 (TV.i .i64 0)=some v2∧
 gd v2 true v2 true∧∃v3,gV v2 true (fun r=>subT a0 1 4=some r) v3∧
 ∃v4,gV v2 true (fun r=>VS prog 141 [v3] fun r'=>r'=r∧scOk true r) v4∧
 ∃v5,pickT v2 v4 (TV.b false)=some v5∧
 gd v5 true v5 true∧∃v6,gV v5 true (fun r=>subT a0 5 4=some r) v6∧
 ∃v7,gV v5 true (fun r=>VS prog 141 [v6] fun r'=>r'=r∧scOk true r) v7∧
 ∃v8,pickT v5 v7 (TV.b false)=some v8∧
 True∧tupOk [v8]∧Q v8
theorem vs142 (a0:TV) (Q:TV→Prop) (h:W142 a0 Q):VS prog 142 [a0] Q:=vs_of (sh:=sh) (af:=a142) (vc:=v142) (by kernel_rfl) (by kernel_rfl) (by kernel_rfl) (by kernel_rfl) rfl ((show W142 a0 Q=evFn sh prog a142 v142 [a0] Q by kernel_rfl)▸h)
def v143:VCode:=.seq (.reg r143_0) (.seq (.seq (.dreg r143_1 b143_1 []) (.cond (.t 13) (.seq (.reg r143_2) (.ret)) (.skip))) (.seq (.seq (.reg r143_3) (.cond (.t 44) (.seq (.reg r143_4) (.ret)) (.skip))) (.seq (.seq (.reg r143_5) (.block 0 (.loop [.ob 2 [],.tr 1,.pt 2 2 0,.tr 46,.tr 47,.tr 48] (.seq (.reg r143_6) (.seq (.cond (.t 49) (.skip) (.exit 0)) (.seq (.block 1 (.seq (.reg r143_7) (.seq (.reg r143_8) (.cond (.t 55) (.seq (.reg r143_9) (.ret)) (.skip))))) (.reg r143_10))))))) (.seq (.reg r143_11) (.ret)))))
def W143 (a0 a1:TV) (Q:TV→Prop):Prop:=
 TV.isTp a0=false∧
 ∃v1,cellT a0 3=some v1∧
 ∃v2,lenT v1=some v2∧
 ∃v3,cellT a0 0=some v3∧
 VS prog 166 [v3] fun r4=>scOk true r4∧
 ∃v5,binT .neq v2 r4=some v5∧
 condK v5
 (True∧tupOk [(TV.b false)]∧Q (TV.b false))
 (∃v6,cellT a0 0=some v6∧
 ∃v7,binT .neq v6 (TV.i .i64 1)=some v7∧
 gd v7 true v7 true∧∃v8,gV v7 true (fun r=>cellT a0 1=some r) v8∧
 ∃v9,gV v7 true (fun r=>binT .neq v8 (TV.i .i64 0)=some r) v9∧
 ∃v10,pickT v7 v9 (TV.b false)=some v10∧
 gd v10 false v10 false∧∃v11,gV v10 false (fun r=>cellT a0 0=some r) v11∧
 ∃v12,gV v10 false (fun r=>binT .neq v11 (TV.i .i64 2)=some r) v12∧
 ∃v13,gV v10 false (fun r=>some v12=some r) v13∧
 gd v13 true v13 true∧∃v14,gV v13 true (fun r=>cellT a0 2=some r) v14∧
 ∃v15,gV v13 true (fun r=>binT .neq v14 (TV.i .i64 0)=some r) v15∧
 ∃v16,gV v10 false (fun r=>pickT v13 v15 (TV.b false)=some r) v16∧
 ∃v17,pickT v10 (TV.b true) v16=some v17∧
 gd v17 false v17 false∧∃v18,gV v17 false (fun r=>cellT a0 0=some r) v18∧
 ∃v19,gV v17 false (fun r=>binT .eql v18 (TV.i .i64 2)=some r) v19∧
 ∃v20,gV v17 false (fun r=>some v19=some r) v20∧
 gd v20 true v20 true∧∃v21,gV v20 true (fun r=>cellT a0 2=some r) v21∧
 ∃v22,gV v20 true (fun r=>some a1=some r) v22∧
 ∃v23,gV v20 true (fun r=>binT .sub v22 (TV.i .i64 1)=some r) v23∧
 ∃v24,gV v20 true (fun r=>VS prog 81 [v21,(TV.i .i64 0),v23] fun r'=>r'=r∧scOk true r) v24∧
 ∃v25,gV v20 true (fun r=>unT .not v24=some r) v25∧
 ∃v26,gV v17 false (fun r=>pickT v20 v25 (TV.b false)=some r) v26∧
 ∃v27,pickT v17 (TV.b true) v26=some v27∧
 condK v27
 (True∧tupOk [(TV.b false)]∧Q (TV.b false))
 (∃v28,cellT a0 3=some v28∧
 ∃v29,lenT v28=some v29∧
 ∃I30:Nat→TV→TV→TV→TV→TV→Prop,(∃n31,I30 n31 a0 a1 v28 v29 (TV.i .i64 0))∧∀n31 o33 x34 x35 x36 x37,I30 n31 o33 x34 x35 x36 x37→
 ∃v38,binT .lss x37 x36=some v38∧
 condK v38
 (∃v39,(idxT x35 x37=some v39∧szOk 4 v39)∧
 ∃v40,ldT v39 0 (some 4)=some v40∧
 ∃v41,putT zz0 0 4 v40=some v41∧
 ∃v42,subT v41 0 4=some v42∧
 VS prog 143 [v42,x34] fun r43=>scOk true r43∧
 ∃v44,unT .not r43=some v44∧
 condK v44
 (True∧tupOk [(TV.b false)]∧Q (TV.b false))
 (∃v45,binT .add x37 (TV.i .i64 1)=some v45∧
 ∃m32,m32 < n31∧I30 m32 o33 x34 x35 x36 v45))
 (∃v46,cellT o33 1=some v46∧
 VS prog 81 [v46,(TV.i .i64 0),(TV.i .i64 2147483647)] fun r47=>scOk true r47∧
 True∧tupOk [r47]∧Q r47)))
theorem vs143 (a0 a1:TV) (Q:TV→Prop) (h:W143 a0 a1 Q):VS prog 143 [a0,a1] Q:=vs_of (sh:=sh) (af:=a143) (vc:=v143) (by kernel_rfl) (by kernel_rfl) (by kernel_rfl) (by kernel_rfl) rfl ((show W143 a0 a1 Q=evFn sh prog a143 v143 [a0,a1] Q by kernel_rfl)▸h)
def v144:VCode:=.seq (.reg r144_0) (.seq (.reg r144_1) (.ret))
def W144 (a0 a1:TV) (Q:TV→Prop):Prop:=
 TV.isTp a0=false∧
 ∃v1,cellT a0 0=some v1∧
 VS prog 81 [v1,(TV.i .i64 1),(TV.i .i64 6)] fun r2=>scOk true r2∧
 gd r2 true r2 true∧∃v3,gV r2 true (fun r=>subT a0 1 4=some r) v3∧
 ∃v4,gV r2 true (fun r=>some a1=some r) v4∧
 ∃v5,gV r2 true (fun r=>VS prog 143 [v3,v4] fun r'=>r'=r∧scOk true r) v5∧
 ∃v6,pickT r2 v5 (TV.b false)=some v6∧
 gd v6 true v6 true∧∃v7,gV v6 true (fun r=>subT a0 5 4=some r) v7∧
 ∃v8,gV v6 true (fun r=>some a1=some r) v8∧
 ∃v9,gV v6 true (fun r=>VS prog 143 [v7,v8] fun r'=>r'=r∧scOk true r) v9∧
 ∃v10,pickT v6 v9 (TV.b false)=some v10∧
 True∧tupOk [v10]∧Q v10
theorem vs144 (a0 a1:TV) (Q:TV→Prop) (h:W144 a0 a1 Q):VS prog 144 [a0,a1] Q:=vs_of (sh:=sh) (af:=a144) (vc:=v144) (by kernel_rfl) (by kernel_rfl) (by kernel_rfl) (by kernel_rfl) rfl ((show W144 a0 a1 Q=evFn sh prog a144 v144 [a0,a1] Q by kernel_rfl)▸h)
def v145:VCode:=.seq (.reg r145_0) (.seq (.dreg r145_1 b145_1 []) (.ret))
def W145 (a0 a1 a2:TV) (Q:TV→Prop):Prop:=
 TV.isTp a0=false∧
 ∃v1,cellT a0 0=some v1∧
 ∃v2,lenT v1=some v2∧
 ∃v3,binT .sub v2 (TV.i .i64 1)=some v3∧
 VS prog 81 [a1,(TV.i .i64 0),v3] fun r4=>scOk true r4∧
 ∃v5,gV r4 true (fun r=>some a2=some r) v5∧
 gd r4 true r4 true∧gd r4 true r4 true∧∃v6,gV r4 true (fun r=>cellT a0 0=some r) v6∧
 ∃v7,gV r4 true (fun r=>some a1=some r) v7∧
 ∃v8,gV r4 true (fun r=>(idxT v6 v7=some r∧szOk 6 r)) v8∧
 gd r4 true r4 true∧∃v9,gV r4 true (fun r=>ldT v8 0 (some 6)=some r) v9∧
 ∃v10,(r4=.b true→v5=.f v10)∧
 ∃v11,gV r4 true (fun r=>VS prog v10 [v9] fun r'=>r'=r∧scOk true r) v11∧
 gd r4 true r4 true∧∃v12,gV r4 true (fun r=>cellT a0 2=some r) v12∧
 ∃v13,gV r4 true (fun r=>binT .eql v11 v12=some r) v13∧
 ∃v14,pickT r4 v13 (TV.b false)=some v14∧
 True∧tupOk [v14]∧Q v14
theorem vs145 (a0 a1 a2:TV) (Q:TV→Prop) (h:W145 a0 a1 a2 Q):VS prog 145 [a0,a1,a2] Q:=vs_of (sh:=sh) (af:=a145) (vc:=v145) (by kernel_rfl) (by kernel_rfl) (by kernel_rfl) (by kernel_rfl) rfl ((show W145 a0 a1 a2 Q=evFn sh prog a145 v145 [a0,a1,a2] Q by kernel_rfl)▸h)
def v146:VCode:=.seq (.reg r146_0) (.seq (.reg r146_1) (.ret))
def W146 (a0:TV) (Q:TV→Prop):Prop:=
 TV.isTp a0=false∧
 ∃v1,cellT a0 2=some v1∧
 True∧tupOk [v1]∧Q v1
theorem vs146 (a0:TV) (Q:TV→Prop) (h:W146 a0 Q):VS prog 146 [a0] Q:=vs_of (sh:=sh) (af:=a146) (vc:=v146) (by kernel_rfl) (by kernel_rfl) (by kernel_rfl) (by kernel_rfl) rfl ((show W146 a0 Q=evFn sh prog a146 v146 [a0] Q by kernel_rfl)▸h)
def v147:VCode:=.seq (.reg r147_0) (.seq (.reg r147_1) (.ret))
def W147 (a0 a1 a2:TV) (Q:TV→Prop):Prop:=
 TV.isTp a0=false∧
 ∃v1,cellT a0 0=some v1∧
 ∃v2,(idxT v1 a1=some v2∧szOk 6 v2)∧
 ∃v3,ldT v2 4 none=some v3∧
 ∃v4,binT .sub v3 (TV.i .i64 1)=some v4∧
 VS prog 81 [a2,(TV.i .i64 0),v4] fun r5=>scOk true r5∧
 True∧tupOk [r5]∧Q r5
theorem vs147 (a0 a1 a2:TV) (Q:TV→Prop) (h:W147 a0 a1 a2 Q):VS prog 147 [a0,a1,a2] Q:=vs_of (sh:=sh) (af:=a147) (vc:=v147) (by kernel_rfl) (by kernel_rfl) (by kernel_rfl) (by kernel_rfl) rfl ((show W147 a0 a1 a2 Q=evFn sh prog a147 v147 [a0,a1,a2] Q by kernel_rfl)▸h)
def v148:VCode:=.seq (.reg r148_0) (.seq (.reg r148_1) (.ret))
def W148 (a0:TV) (Q:TV→Prop):Prop:=
 TV.isTp a0=false∧
 ∃v1,cellT a0 3=some v1∧
 True∧tupOk [v1]∧Q v1
theorem vs148 (a0:TV) (Q:TV→Prop) (h:W148 a0 Q):VS prog 148 [a0] Q:=vs_of (sh:=sh) (af:=a148) (vc:=v148) (by kernel_rfl) (by kernel_rfl) (by kernel_rfl) (by kernel_rfl) rfl ((show W148 a0 Q=evFn sh prog a148 v148 [a0] Q by kernel_rfl)▸h)
def v149:VCode:=.seq (.reg r149_0) (.seq (.reg r149_1) (.seq (.seq (.reg r149_2) (.block 0 (.loop [.ob 3 [],.ob 7 [],.tr 1,.tr 2,.pt 3 3 0,.pt 7 7 0,.tr 10,.tr 11,.tr 12] (.seq (.reg r149_3) (.seq (.cond (.t 13) (.skip) (.exit 0)) (.seq (.block 1 (.seq (.reg r149_4) (.seq (.seq (.reg r149_5) (.cond (.t 43) (.seq (.reg r149_6) (.ret)) (.skip))) (.reg r149_7)))) (.reg r149_8))))))) (.seq (.reg r149_9) (.ret))))
def W149 (a0 a1 a2:TV) (Q:TV→Prop):Prop:=
 TV.isTp a0=false∧
 ∃v1,lenT a2=some v1∧
 ∃I2:Nat→TV→TV→TV→TV→TV→TV→TV→Prop,(∃n3,I2 n3 a0 zz6 a1 a2 a2 v1 (TV.i .i64 0))∧∀n3 o5 o6 x7 x8 x9 x10 x11,I2 n3 o5 o6 x7 x8 x9 x10 x11→
 ∃v12,binT .lss x11 x10=some v12∧
 condK v12
 (∃v13,(idxT x9 x11=some v13∧szOk 3 v13)∧
 ∃v14,ldT v13 0 (some 3)=some v14∧
 ∃v15,putT (TV.a [(TV.i .i64 0),(TV.i .i64 0),(TV.l [])]) 0 3 v14=some v15∧
 ∃v16,subT o5 0 4=some v16∧
 ∃v17,cellT v15 0=some v17∧
 VS prog 147 [v16,x7,v17] fun r18=>scOk true r18∧
 ∃v19,unT .not r18=some v19∧
 gd v19 false v19 false∧∃v20,gV v19 false (fun r=>cellT v15 0=some r) v20∧
 ∃v21,(v19=.b false→ixN v20 4=some v21)∧
 gd v19 false v19 false∧∃v22,gV v19 false (fun r=>ldT o6 (0 + v21*1) none=some r) v22∧
 ∃v23,pickT v19 (TV.b true) v22=some v23∧
 gd v23 false v23 false∧∃v24,gV v23 false (fun r=>cellT v15 1=some r) v24∧
 gd v23 false v23 false∧∃v25,gV v23 false (fun r=>cellT o5 3=some r) v25∧
 ∃v26,gV v23 false (fun r=>binT .sub v25 (TV.i .i64 1)=some r) v26∧
 ∃v27,gV v23 false (fun r=>VS prog 81 [v24,(TV.i .i64 0),v26] fun r'=>r'=r∧scOk true r) v27∧
 ∃v28,gV v23 false (fun r=>unT .not v27=some r) v28∧
 ∃v29,pickT v23 (TV.b true) v28=some v29∧
 ∃v30,gV v29 false (fun r=>subT o5 0 4=some r) v30∧
 gd v29 false v29 false∧∃v31,gV v29 false (fun r=>cellT v15 2=some r) v31∧
 ∃v32,gV v29 false (fun r=>VS prog 83 [v30,v31] fun r'=>r'=r∧scOk true r) v32∧
 ∃v33,gV v29 false (fun r=>unT .not v32=some r) v33∧
 ∃v34,pickT v29 (TV.b true) v33=some v34∧
 condK v34
 (True∧tupOk [(TV.b false)]∧Q (TV.b false))
 (∃v35,cellT v15 0=some v35∧
 ∃v36,ixN v35 4=some v36∧
 ∃v37,putT o6 (0 + v36*1) 1 (TV.b true)=some v37∧
 ∃v38,binT .add x11 (TV.i .i64 1)=some v38∧
 ∃m4,m4 < n3∧I2 m4 o5 v37 x7 x8 x9 x10 v38))
 (∃v39,lenT x8=some v39∧
 ∃v40,binT .gtr v39 (TV.i .i64 0)=some v40∧
 True∧tupOk [v40]∧Q v40)
theorem vs149 (a0 a1 a2:TV) (Q:TV→Prop) (h:W149 a0 a1 a2 Q):VS prog 149 [a0,a1,a2] Q:=vs_of (sh:=sh) (af:=a149) (vc:=v149) (by kernel_rfl) (by kernel_rfl) (by kernel_rfl) (by kernel_rfl) rfl ((show W149 a0 a1 a2 Q=evFn sh prog a149 v149 [a0,a1,a2] Q by kernel_rfl)▸h)
def v166:VCode:=.seq (.reg r166_0) (.seq (.block 0 (.seq (.reg r166_1) (.cond (.t 3) (.seq (.reg r166_2) (.ret)) (.seq (.reg r166_3) (.cond (.t 10) (.seq (.reg r166_4) (.ret)) (.seq (.reg r166_5) (.cond (.t 13) (.seq (.reg r166_6) (.ret)) (.skip)))))))) (.seq (.reg r166_7) (.ret)))
def W166 (a0:TV) (Q:TV→Prop):Prop:=
 ∃v1,binT .eql a0 (TV.i .i64 1)=some v1∧
 ∃v2,gV v1 false (fun r=>some a0=some r) v2∧
 ∃v3,gV v1 false (fun r=>binT .eql v2 (TV.i .i64 2)=some r) v3∧
 ∃v4,pickT v1 (TV.b true) v3=some v4∧
 condK v4
 (True∧tupOk [(TV.i .i64 0)]∧Q (TV.i .i64 0))
 (∃v5,binT .eql a0 (TV.i .i64 3)=some v5∧
 condK v5
 (True∧tupOk [(TV.i .i64 1)]∧Q (TV.i .i64 1))
 (VS prog 81 [a0,(TV.i .i64 4),(TV.i .i64 8)] fun r6=>scOk true r6∧
 condK r6
 (True∧tupOk [(TV.i .i64 2)]∧Q (TV.i .i64 2))
 (True∧tupOk [(TV.i .i64 (-1))]∧Q (TV.i .i64 (-1)))))
theorem vs166 (a0:TV) (Q:TV→Prop) (h:W166 a0 Q):VS prog 166 [a0] Q:=vs_of (sh:=sh) (af:=a166) (vc:=v166) (by kernel_rfl) (by kernel_rfl) (by kernel_rfl) (by kernel_rfl) rfl ((show W166 a0 Q=evFn sh prog a166 v166 [a0] Q by kernel_rfl)▸h)
def v62:VCode:=.seq (.seq (.reg r62_0) (.cond (.t 13) (.seq (.reg r62_1) (.ret)) (.skip))) (.seq (.seq (.reg r62_2) (.block 0 (.loop [.ob 0 [(1,19),(2,1)],.pt 0 0 0,.tr 1,.tr 2,.tr 3,.tr 23,.tr 24,.tr 25] (.seq (.reg r62_3) (.seq (.cond (.t 26) (.skip) (.exit 0)) (.seq (.block 1 (.seq (.reg r62_4) (.seq (.reg r62_5) (.seq (.reg r62_6) (.reg r62_7))))) (.reg r62_8))))))) (.reg r62_9))
def WS62 (Q:TV→List TV→List TV→TV→Prop) (o0_:TV) (l0_1:List TV) (l0_2:List TV) (a1:TV) (a2:TV) (a3:TV):Prop:=
 ∃v1,lenT a1=some v1∧
 ∃v2,binT .eql v1 (TV.i .i64 0)=some v2∧
 condK v2
 (∃v3,putT zz4 0 1 a2=some v3∧
 ∃v4,putT v3 1 1 a3=some v4∧
 ∃v5,nilsT [(9,VV.nil0),(14,VV.nil0),(18,VV.nil0)] v4=some v5∧
 S84 (fun (o6:TV) (l7:List TV) (l8:List TV) (r9:TV)=>
 True∧noTps []∧Q o6 l7 l8 (TV.tp []))
 o0_ l0_1 l0_2 v5)
 (∃v10,lenT a1=some v10∧
 ∃v11,binT .sub v10 (TV.i .i64 1)=some v11∧
 ∃v12,(slT a1 none (some v11)=some v12∧∀es,a1=.l es→szHd 20 es)∧
 ∃v13,lenT v12=some v13∧
 ∃I14:Nat→TV→List TV→List TV→TV→TV→TV→TV→TV→TV→Prop,(∃n15,I14 n15 o0_ l0_1 l0_2 a1 a2 a3 v12 v13 (TV.i .i64 0))∧∀n15 o17 l18 l19 x20 x21 x22 x23 x24 x25,I14 n15 o17 l18 l19 x20 x21 x22 x23 x24 x25→
 ∃v26,binT .lss x25 x24=some v26∧
 condK v26
 (∃v27,(idxT x23 x25=some v27∧szOk 20 v27)∧
 ∃v28,ldT v27 0 (some 20)=some v28∧
 ∃v29,putT zz2 0 20 v28=some v29∧
 S85 (fun (o30:TV) (l31:List TV) (l32:List TV) (r33:TV)=>
 ∃v34,subT v29 0 20=some v34∧
 S86 (fun (o35:TV) (l36:List TV) (l37:List TV) (r38:TV)=>
 ∃v39,binT .add x25 (TV.i .i64 1)=some v39∧
 ∃m16,m16 < n15∧I14 m16 o35 l36 l37 x20 r33 x22 x23 x24 v39)
 o30 l31 l32 v34 x21 r33)
 o17 l18 l19)
 (∃v40,lenT x20=some v40∧
 ∃v41,binT .sub v40 (TV.i .i64 1)=some v41∧
 ∃v42,(idxT x20 v41=some v42∧szOk 20 v42)∧
 ∃v43,ldT v42 0 (some 20)=some v43∧
 S86 (fun (o44:TV) (l45:List TV) (l46:List TV) (r47:TV)=>
 True∧noTps []∧Q o44 l45 l46 (TV.tp []))
 o17 l18 l19 v43 x21 x22))
theorem sh62 (Q:TV→List TV→List TV→TV→Prop) (o0_:TV) (l0_1:List TV) (l0_2:List TV) (a1:TV) (a2:TV) (a3:TV) (h:WS62 Q o0_ l0_1 l0_2 a1 a2 a3):S62 Q o0_ l0_1 l0_2 a1 a2 a3:=by
 refine vsh_of (sh:=sh) (af:=a62) (vc:=v62) (p:=kept [.ob [(1,19),(2,1)],.tr,.tr,.tr]) (np:=4) (by kernel_rfl) (by kernel_rfl) (by kernel_rfl) (by kernel_rfl) (by kernel_rfl) rfl ?_
 refine Eq.mp (?_:WS62 Q o0_ l0_1 l0_2 a1 a2 a3=_) h
 kernel_rfl
def v63:VCode:=.seq (.reg r63_0) (.reg r63_1)
def WS63 (Q:List TV→TV→Prop) (l0_:List TV):Prop:=
 ∃v1,some (TV.i .i64 (List.length l0_))=some v1∧
 ∃v2,convT .u64 v1=some v2∧
 VS prog 88 [v2] fun r3=>scOk true r3∧
 S87 (fun (l4:List TV) (r5:TV)=>
 True∧noTps []∧Q l4 (TV.tp []))
 l0_ (TV.i .i64 0) v1 r3
theorem sh63 (Q:List TV→TV→Prop) (l0_:List TV) (h:WS63 Q l0_):S63 Q l0_:=by
 refine vsh_of (sh:=sh) (af:=a63) (vc:=v63) (p:=kept [.sl 1]) (np:=1) (by kernel_rfl) (by kernel_rfl) (by kernel_rfl) (by kernel_rfl) (by kernel_rfl) rfl ?_
 refine Eq.mp (?_:WS63 Q l0_=_) h
 kernel_rfl
def v65:VCode:=.seq (.seq (.reg r65_0) (.cond (.t 12) (.reg r65_1) (.skip))) (.seq (.reg r65_2) (.block 0 (.loop [.ob 0 [(1,19),(2,1)],.pt 0 0 0,.tr 1,.tr 2,.tr 3,.tr 8] (.seq (.seq (.reg r65_3) (.cond (.t 28) (.skip) (.exit 0))) (.seq (.block 1 (.seq (.reg r65_5) (.seq (.seq (.reg r65_6) (.cond (.t 36) (.reg r65_7) (.skip))) (.seq (.reg r65_8) (.reg r65_9))))) (.reg r65_4))))))
def WS65 (Q:TV→List TV→List TV→TV→Prop) (o0_:TV) (l0_1:List TV) (l0_2:List TV) (a1:TV) (a2:TV) (a3:TV):Prop:=
 ∃v1,lenT a1=some v1∧
 ∃v2,binT .eql v1 (TV.i .i64 0)=some v2∧
 condK v2
 (∃v3,putT zz4 0 1 a2=some v3∧
 ∃v4,putT v3 1 1 a3=some v4∧
 (Nat.beq 0 (0*19)&&Nat.beq 19 19)=true∧true=true∧∃v5,putT v4 18 1 (TV.l [])=some v5∧
 ∃v6,putT v5 14 1 (TV.l [])=some v6∧
 ∃v7,putT v6 9 1 (TV.l [])=some v7∧
 szOk 19 v7∧
 ∃v8,listT (TV.l [v7])=some v8∧szHd 19 v8∧
 ∃v9,appT 200 l0_1 v8=some v9∧
 ∃v10,putT o0_ 1 1 (TV.l [])=some v10∧
 ∃I11:Nat→TV→List TV→List TV→TV→TV→TV→TV→Prop,(∃n12,I11 n12 v10 v9 l0_2 a1 a2 a3 (TV.i .i64 0))∧∀n12 o14 l15 l16 x17 x18 x19 x20,I11 n12 o14 l15 l16 x17 x18 x19 x20→
 ∃v21,lenT x17=some v21∧
 ∃v22,binT .lss x20 v21=some v22∧
 condK v22
 (∃v23,lenT x17=some v23∧
 ∃v24,binT .sub v23 (TV.i .i64 1)=some v24∧
 ∃v25,binT .lss x20 v24=some v25∧
 condK v25
 (S89 (fun (o26:TV) (l27:List TV) (l28:List TV) (r29:TV)=>
 ∃v30,(idxT x17 x20=some v30∧szOk 20 v30)∧
 ∃v31,ldT v30 0 (some 20)=some v31∧
 S90 (fun (o32:TV) (l33:List TV) (l34:List TV) (r35:TV)=>
 ∃v36,binT .add x20 (TV.i .i64 1)=some v36∧
 ∃m13,m13 < n12∧I11 m13 o32 l33 l34 x17 r29 x19 v36)
 o26 l27 l28 v31 x18 r29)
 o14 l15 l16)
 (∃v37,(idxT x17 x20=some v37∧szOk 20 v37)∧
 ∃v38,ldT v37 0 (some 20)=some v38∧
 S90 (fun (o39:TV) (l40:List TV) (l41:List TV) (r42:TV)=>
 ∃v43,binT .add x20 (TV.i .i64 1)=some v43∧
 ∃m13,m13 < n12∧I11 m13 o39 l40 l41 x17 x19 x19 v43)
 o14 l15 l16 v38 x18 x19))
 (True∧noTps []∧Q o14 l15 l16 (TV.tp [])))
 (∃I44:Nat→TV→List TV→List TV→TV→TV→TV→TV→Prop,(∃n45,I44 n45 o0_ l0_1 l0_2 a1 a2 a3 (TV.i .i64 0))∧∀n45 o47 l48 l49 x50 x51 x52 x53,I44 n45 o47 l48 l49 x50 x51 x52 x53→
 ∃v54,lenT x50=some v54∧
 ∃v55,binT .lss x53 v54=some v55∧
 condK v55
 (∃v56,lenT x50=some v56∧
 ∃v57,binT .sub v56 (TV.i .i64 1)=some v57∧
 ∃v58,binT .lss x53 v57=some v58∧
 condK v58
 (S89 (fun (o59:TV) (l60:List TV) (l61:List TV) (r62:TV)=>
 ∃v63,(idxT x50 x53=some v63∧szOk 20 v63)∧
 ∃v64,ldT v63 0 (some 20)=some v64∧
 S90 (fun (o65:TV) (l66:List TV) (l67:List TV) (r68:TV)=>
 ∃v69,binT .add x53 (TV.i .i64 1)=some v69∧
 ∃m46,m46 < n45∧I44 m46 o65 l66 l67 x50 r62 x52 v69)
 o59 l60 l61 v64 x51 r62)
 o47 l48 l49)
 (∃v70,(idxT x50 x53=some v70∧szOk 20 v70)∧
 ∃v71,ldT v70 0 (some 20)=some v71∧
 S90 (fun (o72:TV) (l73:List TV) (l74:List TV) (r75:TV)=>
 ∃v76,binT .add x53 (TV.i .i64 1)=some v76∧
 ∃m46,m46 < n45∧I44 m46 o72 l73 l74 x50 x52 x52 v76)
 o47 l48 l49 v71 x51 x52))
 (True∧noTps []∧Q o47 l48 l49 (TV.tp [])))
theorem sh65 (Q:TV→List TV→List TV→TV→Prop) (o0_:TV) (l0_1:List TV) (l0_2:List TV) (a1:TV) (a2:TV) (a3:TV) (h:WS65 Q o0_ l0_1 l0_2 a1 a2 a3):S65 Q o0_ l0_1 l0_2 a1 a2 a3:=by
 refine vsh_of (sh:=sh) (af:=a65) (vc:=v65) (p:=kept [.ob [(1,19),(2,1)],.tr,.tr,.tr]) (np:=4) (by kernel_rfl) (by kernel_rfl) (by kernel_rfl) (by kernel_rfl) (by kernel_rfl) rfl ?_
 refine Eq.mp (?_:WS65 Q o0_ l0_1 l0_2 a1 a2 a3=_) h
 kernel_rfl
def v84:VCode:=.seq (.reg r84_0) (.dreg r84_1 b84_1 [(4,6)])
def WS84 (Q:TV→List TV→List TV→TV→Prop) (o0_:TV) (l0_1:List TV) (l0_2:List TV) (a1:TV):Prop:=
 TV.isTp a1=false∧
 ∃v1,subT a1 0 19=some v1∧
 (Nat.beq 0 (0*19)&&Nat.beq 19 19)=true∧szOk 19 v1∧
 ∃v2,listT (TV.l [v1])=some v2∧szHd 19 v2∧
 ∃v3,appT 200 l0_1 v2=some v3∧
 ∃v4,putT o0_ 1 1 (TV.l [])=some v4∧
 True∧noTps []∧Q v4 v3 l0_2 (TV.tp [])
theorem sh84 (Q:TV→List TV→List TV→TV→Prop) (o0_:TV) (l0_1:List TV) (l0_2:List TV) (a1:TV) (h:WS84 Q o0_ l0_1 l0_2 a1):S84 Q o0_ l0_1 l0_2 a1:=by
 refine vsh_of (sh:=sh) (af:=a84) (vc:=v84) (p:=kept [.ob [(1,19),(2,1)],.tr]) (np:=2) (by kernel_rfl) (by kernel_rfl) (by kernel_rfl) (by kernel_rfl) (by kernel_rfl) rfl ?_
 refine Eq.mp (?_:WS84 Q o0_ l0_1 l0_2 a1=_) h
 kernel_rfl
def v85:VCode:=.seq (.reg r85_0) (.seq (.reg r85_1) (.seq (.reg r85_2) (.ret)))
def WS85 (Q:TV→List TV→List TV→TV→Prop) (o0_:TV) (l0_1:List TV) (l0_2:List TV):Prop:=
 ∃v1,cellT o0_ 0=some v1∧
 ∃v2,binT .add v1 (TV.i .i64 1)=some v2∧
 ∃v3,putT o0_ 0 1 v2=some v3∧
 ∃v4,cellT v3 0=some v4∧
 ∃v5,binT .sub v4 (TV.i .i64 1)=some v5∧
 True∧Q v3 l0_1 l0_2 v5
theorem sh85 (Q:TV→List TV→List TV→TV→Prop) (o0_:TV) (l0_1:List TV) (l0_2:List TV) (h:WS85 Q o0_ l0_1 l0_2):S85 Q o0_ l0_1 l0_2:=by
 refine vsh_of (sh:=sh) (af:=a85) (vc:=v85) (p:=kept [.ob [(1,19),(2,1)]]) (np:=1) (by kernel_rfl) (by kernel_rfl) (by kernel_rfl) (by kernel_rfl) (by kernel_rfl) rfl ?_
 refine Eq.mp (?_:WS85 Q o0_ l0_1 l0_2=_) h
 kernel_rfl
def v86:VCode:=.seq (.reg r86_0) (.seq (.reg r86_1) (.block 0 (.seq (.reg r86_2) (.cond (.t 10) (.dreg r86_3 b86_3 []) (.seq (.reg r86_4) (.cond (.t 22) (.dreg r86_5 b86_5 []) (.seq (.reg r86_6) (.cond (.t 36) (.reg r86_7) (.seq (.reg r86_8) (.cond (.t 46) (.reg r86_9) (.seq (.reg r86_10) (.cond (.t 55) (.seq (.dreg r86_11 b86_11 []) (.dreg r86_12 b86_12 [])) (.seq (.reg r86_13) (.cond (.t 75) (.reg r86_14) (.seq (.reg r86_15) (.cond (.t 82) (.reg r86_16) (.skip)))))))))))))))))
def WS86 (Q:TV→List TV→List TV→TV→Prop) (o0_:TV) (l0_1:List TV) (l0_2:List TV) (a1:TV) (a2:TV) (a3:TV):Prop:=
 TV.isTp a1=false∧
 ∃v1,cellT a1 0=some v1∧
 ∃v2,binT .eql v1 (TV.i .i64 1)=some v2∧
 condK v2
 (∃v3,cellT a1 1=some v3∧
 ∃v4,subT a1 4 4=some v4∧
 VS prog 106 [v4] fun r5=>scOk true r5∧
 ∃v6,putT zz4 0 1 a2=some v6∧
 ∃v7,putT v6 1 1 a3=some v7∧
 ∃v8,putT v7 2 1 (TV.i .i64 1)=some v8∧
 ∃v9,putT v8 3 1 v3=some v9∧
 ∃v10,putT v9 6 4 r5=some v10∧
 ∃v11,nilsT [(14,VV.nil0),(18,VV.nil0)] v10=some v11∧
 S84 (fun (o12:TV) (l13:List TV) (l14:List TV) (r15:TV)=>
 True∧noTps []∧Q o12 l13 l14 (TV.tp []))
 o0_ l0_1 l0_2 v11)
 (∃v16,binT .eql v1 (TV.i .i64 4)=some v16∧
 condK v16
 (∃v17,cellT a1 2=some v17∧
 ∃v18,cellT a1 3=some v18∧
 ∃v19,subT a1 4 4=some v19∧
 VS prog 106 [v19] fun r20=>scOk true r20∧
 ∃v21,putT zz4 0 1 a2=some v21∧
 ∃v22,putT v21 1 1 a3=some v22∧
 ∃v23,putT v22 2 1 (TV.i .i64 3)=some v23∧
 ∃v24,putT v23 4 1 v17=some v24∧
 ∃v25,putT v24 5 1 v18=some v25∧
 ∃v26,putT v25 6 4 r20=some v26∧
 ∃v27,nilsT [(14,VV.nil0),(18,VV.nil0)] v26=some v27∧
 S84 (fun (o28:TV) (l29:List TV) (l30:List TV) (r31:TV)=>
 True∧noTps []∧Q o28 l29 l30 (TV.tp []))
 o0_ l0_1 l0_2 v27)
 (∃v32,binT .eql v1 (TV.i .i64 6)=some v32∧
 condK v32
 (∃v33,subT a1 8 9=some v33∧
 VS prog 107 [v33] fun r34=>scOk true r34∧
 ∃v35,putT zz4 0 1 a2=some v35∧
 ∃v36,putT v35 1 1 a3=some v36∧
 ∃v37,putT v36 2 1 (TV.i .i64 5)=some v37∧
 ∃v38,putT v37 10 9 r34=some v38∧
 ∃v39,nilsT [(9,VV.nil0)] v38=some v39∧
 S84 (fun (o40:TV) (l41:List TV) (l42:List TV) (r43:TV)=>
 True∧noTps []∧Q o40 l41 l42 (TV.tp []))
 o0_ l0_1 l0_2 v39)
 (∃v44,binT .eql v1 (TV.i .i64 7)=some v44∧
 condK v44
 (∃v45,cellT a1 1=some v45∧
 ∃v46,putT zz4 0 1 a2=some v46∧
 ∃v47,putT v46 1 1 a3=some v47∧
 ∃v48,putT v47 2 1 (TV.i .i64 6)=some v48∧
 ∃v49,putT v48 3 1 v45=some v49∧
 ∃v50,nilsT [(9,VV.nil0),(14,VV.nil0),(18,VV.nil0)] v49=some v50∧
 S84 (fun (o51:TV) (l52:List TV) (l53:List TV) (r54:TV)=>
 True∧noTps []∧Q o51 l52 l53 (TV.tp []))
 o0_ l0_1 l0_2 v50)
 (∃v55,binT .eql v1 (TV.i .i64 2)=some v55∧
 condK v55
 (∃v56,subT a1 8 9=some v56∧
 VS prog 107 [v56] fun r57=>scOk true r57∧
 ∃v58,cellT a1 17=some v58∧
 S108 (fun (o59:TV) (l60:List TV) (l61:List TV) (r62:TV)=>
 ∃v63,subT a1 8 9=some v63∧
 VS prog 109 [v63] fun r64=>scOk true r64∧
 ∃v65,cellT a1 18=some v65∧
 S108 (fun (o66:TV) (l67:List TV) (l68:List TV) (r69:TV)=>
 True∧noTps []∧Q o66 l67 l68 (TV.tp []))
 o59 l60 l61 r64 v65 a2 a3)
 o0_ l0_1 l0_2 r57 v58 a2 a3)
 (∃v70,binT .eql v1 (TV.i .i64 3)=some v70∧
 condK v70
 (∃v71,subT a1 0 20=some v71∧
 S110 (fun (o72:TV) (l73:List TV) (l74:List TV) (r75:TV)=>
 True∧noTps []∧Q o72 l73 l74 (TV.tp []))
 o0_ l0_1 l0_2 v71 a2 a3)
 (∃v76,binT .eql v1 (TV.i .i64 5)=some v76∧
 condK v76
 (∃v77,subT a1 0 20=some v77∧
 S111 (fun (o78:TV) (l79:List TV) (l80:List TV) (r81:TV)=>
 True∧noTps []∧Q o78 l79 l80 (TV.tp []))
 o0_ l0_1 l0_2 v77 a2 a3)
 (True∧noTps []∧Q o0_ l0_1 l0_2 (TV.tp []))))))))
theorem sh86 (Q:TV→List TV→List TV→TV→Prop) (o0_:TV) (l0_1:List TV) (l0_2:List TV) (a1:TV) (a2:TV) (a3:TV) (h:WS86 Q o0_ l0_1 l0_2 a1 a2 a3):S86 Q o0_ l0_1 l0_2 a1 a2 a3:=by
 refine vsh_of (sh:=sh) (af:=a86) (vc:=v86) (p:=kept [.ob [(1,19),(2,1)],.tr,.tr,.tr]) (np:=4) (by kernel_rfl) (by kernel_rfl) (by kernel_rfl) (by kernel_rfl) (by kernel_rfl) rfl ?_
 refine Eq.mp (?_:WS86 Q o0_ l0_1 l0_2 a1 a2 a3=_) h
 kernel_rfl
def v87:VCode:=.seq (.reg r87_0) (.seq (.reg r87_1) (.block 0 (.loop [.sl 0 1,.tr 1,.tr 2,.tr 3,.tr 8,.tr 9] (.block 1 (.seq (.reg r87_2) (.seq (.seq (.reg r87_3) (.cond (.t 23) (.seq (.reg r87_4) (.ret)) (.skip))) (.seq (.seq (.reg r87_5) (.cond (.t 29) (.seq (.reg r87_6) (.ret)) (.skip))) (.seq (.seq (.reg r87_7) (.cond (.t 35) (.seq (.reg r87_8) (.reg r87_9)) (.skip))) (.seq (.reg r87_10) (.seq (.seq (.reg r87_11) (.cond (.t 50) (.seq (.reg r87_12) (.seq (.reg r87_13) (.reg r87_14))) (.skip))) (.seq (.seq (.reg r87_15) (.cond (.t 68) (.seq (.reg r87_16) (.cond (.t 72) (.ret) (.skip))) (.skip))) (.seq (.seq (.dreg r87_17 b87_17 []) (.cond (.t 87) (.seq (.reg r87_18) (.seq (.reg r87_19) (.exit 1))) (.skip))) (.seq (.reg r87_20) (.seq (.reg r87_21) (.seq (.reg r87_22) (.seq (.reg r87_23) (.seq (.reg r87_24) (.cond (.t 113) (.seq (.reg r87_25) (.seq (.reg r87_26) (.reg r87_27))) (.seq (.reg r87_28) (.seq (.reg r87_29) (.reg r87_30)))))))))))))))))))))
def WS87 (Q:List TV→TV→Prop) (l0_:List TV) (a1:TV) (a2:TV) (a3:TV):Prop:=
 ∃I1:Nat→List TV→TV→TV→TV→TV→TV→Prop,(∃n2,I1 n2 l0_ a1 a2 a3 (TV.b true) (TV.b true))∧∀n2 l4 x5 x6 x7 x8 x9,I1 n2 l4 x5 x6 x7 x8 x9→
 ∃v10,binT .sub x6 x5=some v10∧
 ∃v11,binT .leq v10 (TV.i .i64 12)=some v11∧
 condK v11
 (S112 (fun (l12:List TV) (r13:TV)=>
 True∧noTps []∧Q l12 (TV.tp []))
 l4 x5 x6)
 (∃v14,binT .eql x7 (TV.i .i64 0)=some v14∧
 condK v14
 (S113 (fun (l15:List TV) (r16:TV)=>
 True∧noTps []∧Q l15 (TV.tp []))
 l4 x5 x6)
 (∃v17,unT .not x8=some v17∧
 condK v17
 (S114 (fun (l18:List TV) (r19:TV)=>
 ∃v20,binT .sub x7 (TV.i .i64 1)=some v20∧
 S115 (fun (l21:List TV) (r22:TV)=>
 ∃v23,extT 0 r22=some v23∧
 ∃v24,extT 1 r22=some v24∧
 ∃v25,binT .eql v24 (TV.i .i64 2)=some v25∧
 condK v25
 (S116 (fun (l26:List TV) (r27:TV)=>
 ∃v28,binT .sub x6 (TV.i .i64 1)=some v28∧
 ∃v29,binT .sub v23 x5=some v29∧
 ∃v30,binT .sub v28 v29=some v30∧
 ∃v31,gV x8 true (fun r=>some x9=some r) v31∧
 ∃v32,pickT x8 v31 (TV.b false)=some v32∧
 ∃v33,gV v32 true (fun r=>some (TV.i .i64 1)=some r) v33∧
 ∃v34,gV v32 true (fun r=>binT .eql v33 (TV.i .i64 1)=some r) v34∧
 ∃v35,pickT v32 v34 (TV.b false)=some v35∧
 condK v35
 (S117 (fun (l36:List TV) (r37:TV)=>
 condK r37
 (True∧noTps []∧Q l36 (TV.tp []))
 (∃v38,binT .gtr x5 (TV.i .i64 0)=some v38∧
 ∃v39,gV v38 true (fun r=>some x5=some r) v39∧
 ∃v40,gV v38 true (fun r=>binT .sub v39 (TV.i .i64 1)=some r) v40∧
 gd v38 true v38 true∧∃v41,(v38=.b true→ixN v40 (List.length l36)=some v41)∧
 gd v38 true v38 true∧∃v42,gV v38 true (fun r=>ldE l36 v41 0 none=some r) v42∧
 ∃v43,gV v38 true (fun r=>some v30=some r) v43∧
 gd v38 true v38 true∧∃v44,(v38=.b true→ixN v43 (List.length l36)=some v44)∧
 gd v38 true v38 true∧∃v45,gV v38 true (fun r=>ldE l36 v44 0 none=some r) v45∧
 ∃v46,gV v38 true (fun r=>VS prog 118 [v42,v45] fun r'=>r'=r∧scOk true r) v46∧
 ∃v47,gV v38 true (fun r=>unT .not v46=some r) v47∧
 ∃v48,pickT v38 v47 (TV.b false)=some v48∧
 condK v48
 (S119 (fun (l49:List TV) (r50:TV)=>
 ∃m3,m3 < n2∧I1 m3 l49 r50 x6 v20 x8 x9)
 l36 x5 x6 v30)
 (S120 (fun (l51:List TV) (r52:TV)=>
 ∃v53,extT 0 r52=some v53∧
 ∃v54,extT 1 r52=some v54∧
 ∃v55,binT .sub v53 x5=some v55∧
 ∃v56,binT .sub x6 v53=some v56∧
 ∃v57,binT .quo v10 (TV.i .i64 8)=some v57∧
 ∃v58,binT .lss v55 v56=some v58∧
 condK v58
 (∃v59,binT .geq v55 v57=some v59∧
 S87 (fun (l60:List TV) (r61:TV)=>
 ∃v62,binT .add v53 (TV.i .i64 1)=some v62∧
 ∃m3,m3 < n2∧I1 m3 l60 v62 x6 v20 v59 v54)
 l51 x5 v53 v20)
 (∃v63,binT .geq v56 v57=some v63∧
 ∃v64,binT .add v53 (TV.i .i64 1)=some v64∧
 S87 (fun (l65:List TV) (r66:TV)=>
 ∃m3,m3 < n2∧I1 m3 l65 x5 v53 v20 v63 v54)
 l51 v64 x6 v20))
 l36 x5 x6 v30)))
 l26 x5 x6)
 (∃v67,binT .gtr x5 (TV.i .i64 0)=some v67∧
 ∃v68,gV v67 true (fun r=>some x5=some r) v68∧
 ∃v69,gV v67 true (fun r=>binT .sub v68 (TV.i .i64 1)=some r) v69∧
 gd v67 true v67 true∧∃v70,(v67=.b true→ixN v69 (List.length l26)=some v70)∧
 gd v67 true v67 true∧∃v71,gV v67 true (fun r=>ldE l26 v70 0 none=some r) v71∧
 ∃v72,gV v67 true (fun r=>some v30=some r) v72∧
 gd v67 true v67 true∧∃v73,(v67=.b true→ixN v72 (List.length l26)=some v73)∧
 gd v67 true v67 true∧∃v74,gV v67 true (fun r=>ldE l26 v73 0 none=some r) v74∧
 ∃v75,gV v67 true (fun r=>VS prog 118 [v71,v74] fun r'=>r'=r∧scOk true r) v75∧
 ∃v76,gV v67 true (fun r=>unT .not v75=some r) v76∧
 ∃v77,pickT v67 v76 (TV.b false)=some v77∧
 condK v77
 (S119 (fun (l78:List TV) (r79:TV)=>
 ∃m3,m3 < n2∧I1 m3 l78 r79 x6 v20 x8 x9)
 l26 x5 x6 v30)
 (S120 (fun (l80:List TV) (r81:TV)=>
 ∃v82,extT 0 r81=some v82∧
 ∃v83,extT 1 r81=some v83∧
 ∃v84,binT .sub v82 x5=some v84∧
 ∃v85,binT .sub x6 v82=some v85∧
 ∃v86,binT .quo v10 (TV.i .i64 8)=some v86∧
 ∃v87,binT .lss v84 v85=some v87∧
 condK v87
 (∃v88,binT .geq v84 v86=some v88∧
 S87 (fun (l89:List TV) (r90:TV)=>
 ∃v91,binT .add v82 (TV.i .i64 1)=some v91∧
 ∃m3,m3 < n2∧I1 m3 l89 v91 x6 v20 v88 v83)
 l80 x5 v82 v20)
 (∃v92,binT .geq v85 v86=some v92∧
 ∃v93,binT .add v82 (TV.i .i64 1)=some v93∧
 S87 (fun (l94:List TV) (r95:TV)=>
 ∃m3,m3 < n2∧I1 m3 l94 x5 v82 v20 v92 v83)
 l80 v93 x6 v20))
 l26 x5 x6 v30)))
 l21 x5 x6)
 (∃v96,gV x8 true (fun r=>some x9=some r) v96∧
 ∃v97,pickT x8 v96 (TV.b false)=some v97∧
 ∃v98,gV v97 true (fun r=>some v24=some r) v98∧
 ∃v99,gV v97 true (fun r=>binT .eql v98 (TV.i .i64 1)=some r) v99∧
 ∃v100,pickT v97 v99 (TV.b false)=some v100∧
 condK v100
 (S117 (fun (l101:List TV) (r102:TV)=>
 condK r102
 (True∧noTps []∧Q l101 (TV.tp []))
 (∃v103,binT .gtr x5 (TV.i .i64 0)=some v103∧
 ∃v104,gV v103 true (fun r=>some x5=some r) v104∧
 ∃v105,gV v103 true (fun r=>binT .sub v104 (TV.i .i64 1)=some r) v105∧
 gd v103 true v103 true∧∃v106,(v103=.b true→ixN v105 (List.length l101)=some v106)∧
 gd v103 true v103 true∧∃v107,gV v103 true (fun r=>ldE l101 v106 0 none=some r) v107∧
 ∃v108,gV v103 true (fun r=>some v23=some r) v108∧
 gd v103 true v103 true∧∃v109,(v103=.b true→ixN v108 (List.length l101)=some v109)∧
 gd v103 true v103 true∧∃v110,gV v103 true (fun r=>ldE l101 v109 0 none=some r) v110∧
 ∃v111,gV v103 true (fun r=>VS prog 118 [v107,v110] fun r'=>r'=r∧scOk true r) v111∧
 ∃v112,gV v103 true (fun r=>unT .not v111=some r) v112∧
 ∃v113,pickT v103 v112 (TV.b false)=some v113∧
 condK v113
 (S119 (fun (l114:List TV) (r115:TV)=>
 ∃m3,m3 < n2∧I1 m3 l114 r115 x6 v20 x8 x9)
 l101 x5 x6 v23)
 (S120 (fun (l116:List TV) (r117:TV)=>
 ∃v118,extT 0 r117=some v118∧
 ∃v119,extT 1 r117=some v119∧
 ∃v120,binT .sub v118 x5=some v120∧
 ∃v121,binT .sub x6 v118=some v121∧
 ∃v122,binT .quo v10 (TV.i .i64 8)=some v122∧
 ∃v123,binT .lss v120 v121=some v123∧
 condK v123
 (∃v124,binT .geq v120 v122=some v124∧
 S87 (fun (l125:List TV) (r126:TV)=>
 ∃v127,binT .add v118 (TV.i .i64 1)=some v127∧
 ∃m3,m3 < n2∧I1 m3 l125 v127 x6 v20 v124 v119)
 l116 x5 v118 v20)
 (∃v128,binT .geq v121 v122=some v128∧
 ∃v129,binT .add v118 (TV.i .i64 1)=some v129∧
 S87 (fun (l130:List TV) (r131:TV)=>
 ∃m3,m3 < n2∧I1 m3 l130 x5 v118 v20 v128 v119)
 l116 v129 x6 v20))
 l101 x5 x6 v23)))
 l21 x5 x6)
 (∃v132,binT .gtr x5 (TV.i .i64 0)=some v132∧
 ∃v133,gV v132 true (fun r=>some x5=some r) v133∧
 ∃v134,gV v132 true (fun r=>binT .sub v133 (TV.i .i64 1)=some r) v134∧
 gd v132 true v132 true∧∃v135,(v132=.b true→ixN v134 (List.length l21)=some v135)∧
 gd v132 true v132 true∧∃v136,gV v132 true (fun r=>ldE l21 v135 0 none=some r) v136∧
 ∃v137,gV v132 true (fun r=>some v23=some r) v137∧
 gd v132 true v132 true∧∃v138,(v132=.b true→ixN v137 (List.length l21)=some v138)∧
 gd v132 true v132 true∧∃v139,gV v132 true (fun r=>ldE l21 v138 0 none=some r) v139∧
 ∃v140,gV v132 true (fun r=>VS prog 118 [v136,v139] fun r'=>r'=r∧scOk true r) v140∧
 ∃v141,gV v132 true (fun r=>unT .not v140=some r) v141∧
 ∃v142,pickT v132 v141 (TV.b false)=some v142∧
 condK v142
 (S119 (fun (l143:List TV) (r144:TV)=>
 ∃m3,m3 < n2∧I1 m3 l143 r144 x6 v20 x8 x9)
 l21 x5 x6 v23)
 (S120 (fun (l145:List TV) (r146:TV)=>
 ∃v147,extT 0 r146=some v147∧
 ∃v148,extT 1 r146=some v148∧
 ∃v149,binT .sub v147 x5=some v149∧
 ∃v150,binT .sub x6 v147=some v150∧
 ∃v151,binT .quo v10 (TV.i .i64 8)=some v151∧
 ∃v152,binT .lss v149 v150=some v152∧
 condK v152
 (∃v153,binT .geq v149 v151=some v153∧
 S87 (fun (l154:List TV) (r155:TV)=>
 ∃v156,binT .add v147 (TV.i .i64 1)=some v156∧
 ∃m3,m3 < n2∧I1 m3 l154 v156 x6 v20 v153 v148)
 l145 x5 v147 v20)
 (∃v157,binT .geq v150 v151=some v157∧
 ∃v158,binT .add v147 (TV.i .i64 1)=some v158∧
 S87 (fun (l159:List TV) (r160:TV)=>
 ∃m3,m3 < n2∧I1 m3 l159 x5 v147 v20 v157 v148)
 l145 v158 x6 v20))
 l21 x5 x6 v23))))
 l18 x5 x6)
 l4 x5 x6)
 (S115 (fun (l161:List TV) (r162:TV)=>
 ∃v163,extT 0 r162=some v163∧
 ∃v164,extT 1 r162=some v164∧
 ∃v165,binT .eql v164 (TV.i .i64 2)=some v165∧
 condK v165
 (S116 (fun (l166:List TV) (r167:TV)=>
 ∃v168,binT .sub x6 (TV.i .i64 1)=some v168∧
 ∃v169,binT .sub v163 x5=some v169∧
 ∃v170,binT .sub v168 v169=some v170∧
 ∃v171,gV x8 true (fun r=>some x9=some r) v171∧
 ∃v172,pickT x8 v171 (TV.b false)=some v172∧
 ∃v173,gV v172 true (fun r=>some (TV.i .i64 1)=some r) v173∧
 ∃v174,gV v172 true (fun r=>binT .eql v173 (TV.i .i64 1)=some r) v174∧
 ∃v175,pickT v172 v174 (TV.b false)=some v175∧
 condK v175
 (S117 (fun (l176:List TV) (r177:TV)=>
 condK r177
 (True∧noTps []∧Q l176 (TV.tp []))
 (∃v178,binT .gtr x5 (TV.i .i64 0)=some v178∧
 ∃v179,gV v178 true (fun r=>some x5=some r) v179∧
 ∃v180,gV v178 true (fun r=>binT .sub v179 (TV.i .i64 1)=some r) v180∧
 gd v178 true v178 true∧∃v181,(v178=.b true→ixN v180 (List.length l176)=some v181)∧
 gd v178 true v178 true∧∃v182,gV v178 true (fun r=>ldE l176 v181 0 none=some r) v182∧
 ∃v183,gV v178 true (fun r=>some v170=some r) v183∧
 gd v178 true v178 true∧∃v184,(v178=.b true→ixN v183 (List.length l176)=some v184)∧
 gd v178 true v178 true∧∃v185,gV v178 true (fun r=>ldE l176 v184 0 none=some r) v185∧
 ∃v186,gV v178 true (fun r=>VS prog 118 [v182,v185] fun r'=>r'=r∧scOk true r) v186∧
 ∃v187,gV v178 true (fun r=>unT .not v186=some r) v187∧
 ∃v188,pickT v178 v187 (TV.b false)=some v188∧
 condK v188
 (S119 (fun (l189:List TV) (r190:TV)=>
 ∃m3,m3 < n2∧I1 m3 l189 r190 x6 x7 x8 x9)
 l176 x5 x6 v170)
 (S120 (fun (l191:List TV) (r192:TV)=>
 ∃v193,extT 0 r192=some v193∧
 ∃v194,extT 1 r192=some v194∧
 ∃v195,binT .sub v193 x5=some v195∧
 ∃v196,binT .sub x6 v193=some v196∧
 ∃v197,binT .quo v10 (TV.i .i64 8)=some v197∧
 ∃v198,binT .lss v195 v196=some v198∧
 condK v198
 (∃v199,binT .geq v195 v197=some v199∧
 S87 (fun (l200:List TV) (r201:TV)=>
 ∃v202,binT .add v193 (TV.i .i64 1)=some v202∧
 ∃m3,m3 < n2∧I1 m3 l200 v202 x6 x7 v199 v194)
 l191 x5 v193 x7)
 (∃v203,binT .geq v196 v197=some v203∧
 ∃v204,binT .add v193 (TV.i .i64 1)=some v204∧
 S87 (fun (l205:List TV) (r206:TV)=>
 ∃m3,m3 < n2∧I1 m3 l205 x5 v193 x7 v203 v194)
 l191 v204 x6 x7))
 l176 x5 x6 v170)))
 l166 x5 x6)
 (∃v207,binT .gtr x5 (TV.i .i64 0)=some v207∧
 ∃v208,gV v207 true (fun r=>some x5=some r) v208∧
 ∃v209,gV v207 true (fun r=>binT .sub v208 (TV.i .i64 1)=some r) v209∧
 gd v207 true v207 true∧∃v210,(v207=.b true→ixN v209 (List.length l166)=some v210)∧
 gd v207 true v207 true∧∃v211,gV v207 true (fun r=>ldE l166 v210 0 none=some r) v211∧
 ∃v212,gV v207 true (fun r=>some v170=some r) v212∧
 gd v207 true v207 true∧∃v213,(v207=.b true→ixN v212 (List.length l166)=some v213)∧
 gd v207 true v207 true∧∃v214,gV v207 true (fun r=>ldE l166 v213 0 none=some r) v214∧
 ∃v215,gV v207 true (fun r=>VS prog 118 [v211,v214] fun r'=>r'=r∧scOk true r) v215∧
 ∃v216,gV v207 true (fun r=>unT .not v215=some r) v216∧
 ∃v217,pickT v207 v216 (TV.b false)=some v217∧
 condK v217
 (S119 (fun (l218:List TV) (r219:TV)=>
 ∃m3,m3 < n2∧I1 m3 l218 r219 x6 x7 x8 x9)
 l166 x5 x6 v170)
 (S120 (fun (l220:List TV) (r221:TV)=>
 ∃v222,extT 0 r221=some v222∧
 ∃v223,extT 1 r221=some v223∧
 ∃v224,binT .sub v222 x5=some v224∧
 ∃v225,binT .sub x6 v222=some v225∧
 ∃v226,binT .quo v10 (TV.i .i64 8)=some v226∧
 ∃v227,binT .lss v224 v225=some v227∧
 condK v227
 (∃v228,binT .geq v224 v226=some v228∧
 S87 (fun (l229:List TV) (r230:TV)=>
 ∃v231,binT .add v222 (TV.i .i64 1)=some v231∧
 ∃m3,m3 < n2∧I1 m3 l229 v231 x6 x7 v228 v223)
 l220 x5 v222 x7)
 (∃v232,binT .geq v225 v226=some v232∧
 ∃v233,binT .add v222 (TV.i .i64 1)=some v233∧
 S87 (fun (l234:List TV) (r235:TV)=>
 ∃m3,m3 < n2∧I1 m3 l234 x5 v222 x7 v232 v223)
 l220 v233 x6 x7))
 l166 x5 x6 v170)))
 l161 x5 x6)
 (∃v236,gV x8 true (fun r=>some x9=some r) v236∧
 ∃v237,pickT x8 v236 (TV.b false)=some v237∧
 ∃v238,gV v237 true (fun r=>some v164=some r) v238∧
 ∃v239,gV v237 true (fun r=>binT .eql v238 (TV.i .i64 1)=some r) v239∧
 ∃v240,pickT v237 v239 (TV.b false)=some v240∧
 condK v240
 (S117 (fun (l241:List TV) (r242:TV)=>
 condK r242
 (True∧noTps []∧Q l241 (TV.tp []))
 (∃v243,binT .gtr x5 (TV.i .i64 0)=some v243∧
 ∃v244,gV v243 true (fun r=>some x5=some r) v244∧
 ∃v245,gV v243 true (fun r=>binT .sub v244 (TV.i .i64 1)=some r) v245∧
 gd v243 true v243 true∧∃v246,(v243=.b true→ixN v245 (List.length l241)=some v246)∧
 gd v243 true v243 true∧∃v247,gV v243 true (fun r=>ldE l241 v246 0 none=some r) v247∧
 ∃v248,gV v243 true (fun r=>some v163=some r) v248∧
 gd v243 true v243 true∧∃v249,(v243=.b true→ixN v248 (List.length l241)=some v249)∧
 gd v243 true v243 true∧∃v250,gV v243 true (fun r=>ldE l241 v249 0 none=some r) v250∧
 ∃v251,gV v243 true (fun r=>VS prog 118 [v247,v250] fun r'=>r'=r∧scOk true r) v251∧
 ∃v252,gV v243 true (fun r=>unT .not v251=some r) v252∧
 ∃v253,pickT v243 v252 (TV.b false)=some v253∧
 condK v253
 (S119 (fun (l254:List TV) (r255:TV)=>
 ∃m3,m3 < n2∧I1 m3 l254 r255 x6 x7 x8 x9)
 l241 x5 x6 v163)
 (S120 (fun (l256:List TV) (r257:TV)=>
 ∃v258,extT 0 r257=some v258∧
 ∃v259,extT 1 r257=some v259∧
 ∃v260,binT .sub v258 x5=some v260∧
 ∃v261,binT .sub x6 v258=some v261∧
 ∃v262,binT .quo v10 (TV.i .i64 8)=some v262∧
 ∃v263,binT .lss v260 v261=some v263∧
 condK v263
 (∃v264,binT .geq v260 v262=some v264∧
 S87 (fun (l265:List TV) (r266:TV)=>
 ∃v267,binT .add v258 (TV.i .i64 1)=some v267∧
 ∃m3,m3 < n2∧I1 m3 l265 v267 x6 x7 v264 v259)
 l256 x5 v258 x7)
 (∃v268,binT .geq v261 v262=some v268∧
 ∃v269,binT .add v258 (TV.i .i64 1)=some v269∧
 S87 (fun (l270:List TV) (r271:TV)=>
 ∃m3,m3 < n2∧I1 m3 l270 x5 v258 x7 v268 v259)
 l256 v269 x6 x7))
 l241 x5 x6 v163)))
 l161 x5 x6)
 (∃v272,binT .gtr x5 (TV.i .i64 0)=some v272∧
 ∃v273,gV v272 true (fun r=>some x5=some r) v273∧
 ∃v274,gV v272 true (fun r=>binT .sub v273 (TV.i .i64 1)=some r) v274∧
 gd v272 true v272 true∧∃v275,(v272=.b true→ixN v274 (List.length l161)=some v275)∧
 gd v272 true v272 true∧∃v276,gV v272 true (fun r=>ldE l161 v275 0 none=some r) v276∧
 ∃v277,gV v272 true (fun r=>some v163=some r) v277∧
 gd v272 true v272 true∧∃v278,(v272=.b true→ixN v277 (List.length l161)=some v278)∧
 gd v272 true v272 true∧∃v279,gV v272 true (fun r=>ldE l161 v278 0 none=some r) v279∧
 ∃v280,gV v272 true (fun r=>VS prog 118 [v276,v279] fun r'=>r'=r∧scOk true r) v280∧
 ∃v281,gV v272 true (fun r=>unT .not v280=some r) v281∧
 ∃v282,pickT v272 v281 (TV.b false)=some v282∧
 condK v282
 (S119 (fun (l283:List TV) (r284:TV)=>
 ∃m3,m3 < n2∧I1 m3 l283 r284 x6 x7 x8 x9)
 l161 x5 x6 v163)
 (S120 (fun (l285:List TV) (r286:TV)=>
 ∃v287,extT 0 r286=some v287∧
 ∃v288,extT 1 r286=some v288∧
 ∃v289,binT .sub v287 x5=some v289∧
 ∃v290,binT .sub x6 v287=some v290∧
 ∃v291,binT .quo v10 (TV.i .i64 8)=some v291∧
 ∃v292,binT .lss v289 v290=some v292∧
 condK v292
 (∃v293,binT .geq v289 v291=some v293∧
 S87 (fun (l294:List TV) (r295:TV)=>
 ∃v296,binT .add v287 (TV.i .i64 1)=some v296∧
 ∃m3,m3 < n2∧I1 m3 l294 v296 x6 x7 v293 v288)
 l285 x5 v287 x7)
 (∃v297,binT .geq v290 v291=some v297∧
 ∃v298,binT .add v287 (TV.i .i64 1)=some v298∧
 S87 (fun (l299:List TV) (r300:TV)=>
 ∃m3,m3 < n2∧I1 m3 l299 x5 v287 x7 v297 v288)
 l285 v298 x6 x7))
 l161 x5 x6 v163))))
 l4 x5 x6)))
theorem sh87 (Q:List TV→TV→Prop) (l0_:List TV) (a1:TV) (a2:TV) (a3:TV) (h:WS87 Q l0_ a1 a2 a3):S87 Q l0_ a1 a2 a3:=by
 refine vsh_of (sh:=sh) (af:=a87) (vc:=v87) (p:=kept [.sl 1,.tr,.tr,.tr]) (np:=4) (by kernel_rfl) (by kernel_rfl) (by kernel_rfl) (by kernel_rfl) (by kernel_rfl) rfl ?_
 refine Eq.mp (?_:WS87 Q l0_ a1 a2 a3=_) h
 kernel_rfl
def v89:VCode:=.seq (.reg r89_0) (.seq (.reg r89_1) (.seq (.reg r89_2) (.ret)))
def WS89 (Q:TV→List TV→List TV→TV→Prop) (o0_:TV) (l0_1:List TV) (l0_2:List TV):Prop:=
 ∃v1,cellT o0_ 0=some v1∧
 ∃v2,binT .add v1 (TV.i .i64 1)=some v2∧
 ∃v3,putT o0_ 0 1 v2=some v3∧
 ∃v4,cellT v3 0=some v4∧
 ∃v5,binT .sub v4 (TV.i .i64 1)=some v5∧
 True∧Q v3 l0_1 l0_2 v5
theorem sh89 (Q:TV→List TV→List TV→TV→Prop) (o0_:TV) (l0_1:List TV) (l0_2:List TV) (h:WS89 Q o0_ l0_1 l0_2):S89 Q o0_ l0_1 l0_2:=by
 refine vsh_of (sh:=sh) (af:=a89) (vc:=v89) (p:=kept [.ob [(1,19),(2,1)]]) (np:=1) (by kernel_rfl) (by kernel_rfl) (by kernel_rfl) (by kernel_rfl) (by kernel_rfl) rfl ?_
 refine Eq.mp (?_:WS89 Q o0_ l0_1 l0_2=_) h
 kernel_rfl
def v90:VCode:=.seq (.reg r90_0) (.seq (.reg r90_1) (.block 0 (.seq (.reg r90_2) (.cond (.t 15) (.dreg r90_3 b90_3 [(4,12)]) (.seq (.reg r90_4) (.cond (.t 33) (.seq (.reg r90_5) (.seq (.dreg r90_6 b90_6 [(4,10)]) (.seq (.reg r90_7) (.seq (.reg r90_8) (.seq (.dreg r90_9 b90_9 [(4,19)]) (.reg r90_10)))))) (.seq (.reg r90_11) (.cond (.t 88) (.seq (.reg r90_12) (.seq (.reg r90_13) (.seq (.dreg r90_14 b90_14 [(4,24)]) (.reg r90_15)))) (.seq (.reg r90_16) (.cond (.t 136) (.dreg r90_17 b90_17 [(4,14)]) (.seq (.reg r90_18) (.cond (.t 156) (.seq (.reg r90_19) (.block 1 (.loop [.ob 0 [(1,19),(2,1)],.ob 5 [],.pt 0 0 0,.tr 2,.tr 3,.pt 5 5 0,.tr 11] (.seq (.seq (.reg r90_20) (.cond (.t 162) (.skip) (.exit 1))) (.seq (.block 2 (.seq (.reg r90_22) (.seq (.dreg r90_23 b90_23 [(4,22)]) (.reg r90_24)))) (.reg r90_21)))))) (.seq (.reg r90_25) (.cond (.t 203) (.dreg r90_26 b90_26 [(4,10)]) (.seq (.reg r90_27) (.cond (.t 219) (.dreg r90_28 b90_28 [(4,10)]) (.skip)))))))))))))))))
def WS90 (Q:TV→List TV→List TV→TV→Prop) (o0_:TV) (l0_1:List TV) (l0_2:List TV) (a1:TV) (a2:TV) (a3:TV):Prop:=
 TV.isTp a1=false∧
 ∃v1,cellT a1 0=some v1∧
 ∃v2,binT .eql v1 (TV.i .i64 1)=some v2∧
 condK v2
 (∃v3,cellT a1 1=some v3∧
 ∃v4,subT a1 4 4=some v4∧
 ∃v5,putT zz4 0 1 a2=some v5∧
 ∃v6,putT v5 1 1 a3=some v6∧
 ∃v7,putT v6 2 1 (TV.i .i64 1)=some v7∧
 ∃v8,putT v7 3 1 v3=some v8∧
 ∃v9,putT v8 6 4 v4=some v9∧
 (Nat.beq 0 (0*19)&&Nat.beq 19 19)=true∧true=true∧∃v10,putT v9 18 1 (TV.l [])=some v10∧
 ∃v11,putT v10 14 1 (TV.l [])=some v11∧
 szOk 19 v11∧
 ∃v12,listT (TV.l [v11])=some v12∧szHd 19 v12∧
 ∃v13,appT 200 l0_1 v12=some v13∧
 ∃v14,putT o0_ 1 1 (TV.l [])=some v14∧
 True∧noTps []∧Q v14 v13 l0_2 (TV.tp []))
 (∃v15,binT .eql v1 (TV.i .i64 2)=some v15∧
 condK v15
 (S89 (fun (o16:TV) (l17:List TV) (l18:List TV) (r19:TV)=>
 ∃v20,subT a1 8 9=some v20∧
 ∃v21,putT zz4 0 1 a2=some v21∧
 ∃v22,putT v21 1 1 r19=some v22∧
 ∃v23,putT v22 2 1 (TV.i .i64 2)=some v23∧
 ∃v24,putT v23 10 9 v20=some v24∧
 (Nat.beq 0 (0*19)&&Nat.beq 19 19)=true∧true=true∧∃v25,putT v24 9 1 (TV.l [])=some v25∧
 szOk 19 v25∧
 ∃v26,listT (TV.l [v25])=some v26∧szHd 19 v26∧
 ∃v27,appT 200 l17 v26=some v27∧
 ∃v28,putT o16 1 1 (TV.l [])=some v28∧
 ∃v29,cellT a1 17=some v29∧
 S65 (fun (o30:TV) (l31:List TV) (l32:List TV) (r33:TV)=>
 S89 (fun (o34:TV) (l35:List TV) (l36:List TV) (r37:TV)=>
 ∃v38,cellT a1 8=some v38∧
 VS prog 48 [v38] fun r39=>scOk true r39∧
 ∃v40,subT a1 9 4=some v40∧
 ∃v41,subT a1 13 4=some v41∧
 ∃v42,putT zz5 0 1 r39=some v42∧
 ∃v43,putT v42 1 4 v40=some v43∧
 ∃v44,putT v43 5 4 v41=some v44∧
 ∃v45,putT zz4 0 1 a2=some v45∧
 ∃v46,putT v45 1 1 r37=some v46∧
 ∃v47,putT v46 2 1 (TV.i .i64 2)=some v47∧
 ∃v48,putT v47 10 9 v44=some v48∧
 (Nat.beq 0 (0*19)&&Nat.beq 19 19)=true∧true=true∧∃v49,putT v48 9 1 (TV.l [])=some v49∧
 szOk 19 v49∧
 ∃v50,listT (TV.l [v49])=some v50∧szHd 19 v50∧
 ∃v51,appT 200 l35 v50=some v51∧
 ∃v52,putT o34 1 1 (TV.l [])=some v52∧
 ∃v53,cellT a1 18=some v53∧
 S65 (fun (o54:TV) (l55:List TV) (l56:List TV) (r57:TV)=>
 True∧noTps []∧Q o54 l55 l56 (TV.tp []))
 v52 v51 l36 v53 r37 a3)
 o30 l31 l32)
 v28 v27 l18 v29 r19 a3)
 o0_ l0_1 l0_2)
 (∃v58,binT .eql v1 (TV.i .i64 3)=some v58∧
 condK v58
 ((Nat.beq 0 (0*1)&&Nat.beq 1 1)=true∧szOk 1 a2∧
 ∃v59,listT (TV.l [a2])=some v59∧szHd 1 v59∧
 ∃v60,appT 8 l0_2 v59=some v60∧
 ∃v61,putT o0_ 2 1 (TV.l [])=some v61∧
 S89 (fun (o62:TV) (l63:List TV) (l64:List TV) (r65:TV)=>
 ∃v66,subT a1 8 9=some v66∧
 ∃v67,putT zz4 0 1 a2=some v67∧
 ∃v68,putT v67 1 1 r65=some v68∧
 ∃v69,putT v68 2 1 (TV.i .i64 2)=some v69∧
 ∃v70,putT v69 10 9 v66=some v70∧
 ∃v71,cellT a1 8=some v71∧
 VS prog 48 [v71] fun r72=>scOk true r72∧
 ∃v73,subT a1 9 4=some v73∧
 ∃v74,subT a1 13 4=some v74∧
 ∃v75,putT zz5 0 1 r72=some v75∧
 ∃v76,putT v75 1 4 v73=some v76∧
 ∃v77,putT v76 5 4 v74=some v77∧
 ∃v78,putT zz4 0 1 a2=some v78∧
 ∃v79,putT v78 1 1 a3=some v79∧
 ∃v80,putT v79 2 1 (TV.i .i64 2)=some v80∧
 ∃v81,putT v80 10 9 v77=some v81∧
 (Nat.beq 0 (0*19)&&Nat.beq 19 19)=true∧true=true∧∃v82,putT v70 9 1 (TV.l [])=some v82∧
 szOk 19 v82∧
 (Nat.beq 19 (1*19)&&Nat.beq 19 19)=true∧true=true∧∃v83,putT v81 9 1 (TV.l [])=some v83∧
 szOk 19 v83∧
 ∃v84,listT (TV.l [v82,v83])=some v84∧szHd 19 v84∧
 ∃v85,appT 200 l63 v84=some v85∧
 ∃v86,putT o62 1 1 (TV.l [])=some v86∧
 ∃v87,cellT a1 17=some v87∧
 S65 (fun (o88:TV) (l89:List TV) (l90:List TV) (r91:TV)=>
 True∧noTps []∧Q o88 l89 l90 (TV.tp []))
 v86 v85 l64 v87 r65 a2)
 v61 l0_1 v60)
 (∃v92,binT .eql v1 (TV.i .i64 4)=some v92∧
 condK v92
 (∃v93,cellT a1 2=some v93∧
 ∃v94,cellT a1 3=some v94∧
 ∃v95,subT a1 4 4=some v95∧
 ∃v96,putT zz4 0 1 a2=some v96∧
 ∃v97,putT v96 1 1 a3=some v97∧
 ∃v98,putT v97 2 1 (TV.i .i64 3)=some v98∧
 ∃v99,putT v98 4 1 v93=some v99∧
 ∃v100,putT v99 5 1 v94=some v100∧
 ∃v101,putT v100 6 4 v95=some v101∧
 (Nat.beq 0 (0*19)&&Nat.beq 19 19)=true∧true=true∧∃v102,putT v101 18 1 (TV.l [])=some v102∧
 ∃v103,putT v102 14 1 (TV.l [])=some v103∧
 szOk 19 v103∧
 ∃v104,listT (TV.l [v103])=some v104∧szHd 19 v104∧
 ∃v105,appT 200 l0_1 v104=some v105∧
 ∃v106,putT o0_ 1 1 (TV.l [])=some v106∧
 True∧noTps []∧Q v106 v105 l0_2 (TV.tp []))
 (∃v107,binT .eql v1 (TV.i .i64 5)=some v107∧
 condK v107
 (∃I108:Nat→TV→List TV→List TV→TV→TV→TV→TV→Prop,(∃n109,I108 n109 o0_ l0_1 l0_2 a1 a2 a3 (TV.i .i64 0))∧∀n109 o111 l112 l113 o114 x115 x116 x117,I108 n109 o111 l112 l113 o114 x115 x116 x117→
 ∃v118,cellT o114 19=some v118∧
 ∃v119,lenT v118=some v119∧
 ∃v120,binT .lss x117 v119=some v120∧
 condK v120
 (S89 (fun (o121:TV) (l122:List TV) (l123:List TV) (r124:TV)=>
 ∃v125,cellT o114 2=some v125∧
 ∃v126,cellT o114 19=some v126∧
 ∃v127,(idxT v126 x117=some v127∧szOk 3 v127)∧
 ∃v128,ldT v127 0 none=some v128∧
 ∃v129,cellT o114 19=some v129∧
 ∃v130,(idxT v129 x117=some v130∧szOk 3 v130)∧
 ∃v131,ldT v130 1 none=some v131∧
 ∃v132,putT zz4 0 1 x115=some v132∧
 ∃v133,putT v132 1 1 r124=some v133∧
 ∃v134,putT v133 2 1 (TV.i .i64 4)=some v134∧
 ∃v135,putT v134 4 1 v125=some v135∧
 ∃v136,putT v135 5 1 v128=some v136∧
 ∃v137,putT v136 3 1 v131=some v137∧
 (Nat.beq 0 (0*19)&&Nat.beq 19 19)=true∧true=true∧∃v138,putT v137 18 1 (TV.l [])=some v138∧
 ∃v139,putT v138 14 1 (TV.l [])=some v139∧
 ∃v140,putT v139 9 1 (TV.l [])=some v140∧
 szOk 19 v140∧
 ∃v141,listT (TV.l [v140])=some v141∧szHd 19 v141∧
 ∃v142,appT 200 l122 v141=some v142∧
 ∃v143,putT o121 1 1 (TV.l [])=some v143∧
 ∃v144,cellT o114 19=some v144∧
 ∃v145,(idxT v144 x117=some v145∧szOk 3 v145)∧
 ∃v146,ldT v145 2 none=some v146∧
 S65 (fun (o147:TV) (l148:List TV) (l149:List TV) (r150:TV)=>
 ∃v151,binT .add x117 (TV.i .i64 1)=some v151∧
 ∃m110,m110 < n109∧I108 m110 o147 l148 l149 o114 x115 x116 v151)
 v143 v142 l123 v146 r124 x116)
 o111 l112 l113)
 (True∧noTps []∧Q o111 l112 l113 (TV.tp [])))
 (∃v152,binT .eql v1 (TV.i .i64 6)=some v152∧
 condK v152
 (∃v153,subT a1 8 9=some v153∧
 ∃v154,putT zz4 0 1 a2=some v154∧
 ∃v155,putT v154 1 1 a3=some v155∧
 ∃v156,putT v155 2 1 (TV.i .i64 5)=some v156∧
 ∃v157,putT v156 10 9 v153=some v157∧
 (Nat.beq 0 (0*19)&&Nat.beq 19 19)=true∧true=true∧∃v158,putT v157 9 1 (TV.l [])=some v158∧
 szOk 19 v158∧
 ∃v159,listT (TV.l [v158])=some v159∧szHd 19 v159∧
 ∃v160,appT 200 l0_1 v159=some v160∧
 ∃v161,putT o0_ 1 1 (TV.l [])=some v161∧
 True∧noTps []∧Q v161 v160 l0_2 (TV.tp []))
 (∃v162,binT .eql v1 (TV.i .i64 7)=some v162∧
 condK v162
 (∃v163,cellT a1 1=some v163∧
 ∃v164,putT zz4 0 1 a2=some v164∧
 ∃v165,putT v164 1 1 a3=some v165∧
 ∃v166,putT v165 2 1 (TV.i .i64 6)=some v166∧
 ∃v167,putT v166 3 1 v163=some v167∧
 (Nat.beq 0 (0*19)&&Nat.beq 19 19)=true∧true=true∧∃v168,putT v167 18 1 (TV.l [])=some v168∧
 ∃v169,putT v168 14 1 (TV.l [])=some v169∧
 ∃v170,putT v169 9 1 (TV.l [])=some v170∧
 szOk 19 v170∧
 ∃v171,listT (TV.l [v170])=some v171∧szHd 19 v171∧
 ∃v172,appT 200 l0_1 v171=some v172∧
 ∃v173,putT o0_ 1 1 (TV.l [])=some v173∧
 True∧noTps []∧Q v173 v172 l0_2 (TV.tp []))
 (True∧noTps []∧Q o0_ l0_1 l0_2 (TV.tp []))))))))
theorem sh90 (Q:TV→List TV→List TV→TV→Prop) (o0_:TV) (l0_1:List TV) (l0_2:List TV) (a1:TV) (a2:TV) (a3:TV) (h:WS90 Q o0_ l0_1 l0_2 a1 a2 a3):S90 Q o0_ l0_1 l0_2 a1 a2 a3:=by
 refine vsh_of (sh:=sh) (af:=a90) (vc:=v90) (p:=kept [.ob [(1,19),(2,1)],.tr,.tr,.tr]) (np:=4) (by kernel_rfl) (by kernel_rfl) (by kernel_rfl) (by kernel_rfl) (by kernel_rfl) rfl ?_
 refine Eq.mp (?_:WS90 Q o0_ l0_1 l0_2 a1 a2 a3=_) h
 kernel_rfl
def v108:VCode:=.seq (.reg r108_0) (.seq (.reg r108_1) (.seq (.reg r108_2) (.reg r108_3)))
def WS108 (Q:TV→List TV→List TV→TV→Prop) (o0_:TV) (l0_1:List TV) (l0_2:List TV) (a1:TV) (a2:TV) (a3:TV) (a4:TV):Prop:=
 TV.isTp a1=false∧
 S85 (fun (o1:TV) (l2:List TV) (l3:List TV) (r4:TV)=>
 ∃v5,subT a1 0 9=some v5∧
 ∃v6,putT zz4 0 1 a3=some v6∧
 ∃v7,putT v6 1 1 r4=some v7∧
 ∃v8,putT v7 2 1 (TV.i .i64 2)=some v8∧
 ∃v9,putT v8 10 9 v5=some v9∧
 ∃v10,nilsT [(9,VV.nil0)] v9=some v10∧
 S84 (fun (o11:TV) (l12:List TV) (l13:List TV) (r14:TV)=>
 S62 (fun (o15:TV) (l16:List TV) (l17:List TV) (r18:TV)=>
 True∧noTps []∧Q o15 l16 l17 (TV.tp []))
 o11 l12 l13 a2 r4 a4)
 o1 l2 l3 v10)
 o0_ l0_1 l0_2
theorem sh108 (Q:TV→List TV→List TV→TV→Prop) (o0_:TV) (l0_1:List TV) (l0_2:List TV) (a1:TV) (a2:TV) (a3:TV) (a4:TV) (h:WS108 Q o0_ l0_1 l0_2 a1 a2 a3 a4):S108 Q o0_ l0_1 l0_2 a1 a2 a3 a4:=by
 refine vsh_of (sh:=sh) (af:=a108) (vc:=v108) (p:=kept [.ob [(1,19),(2,1)],.tr,.tr,.tr,.tr]) (np:=5) (by kernel_rfl) (by kernel_rfl) (by kernel_rfl) (by kernel_rfl) (by kernel_rfl) rfl ?_
 refine Eq.mp (?_:WS108 Q o0_ l0_1 l0_2 a1 a2 a3 a4=_) h
 kernel_rfl
def v110:VCode:=.seq (.reg r110_0) (.seq (.reg r110_1) (.seq (.reg r110_2) (.seq (.reg r110_3) (.seq (.reg r110_4) (.reg r110_5)))))
def WS110 (Q:TV→List TV→List TV→TV→Prop) (o0_:TV) (l0_1:List TV) (l0_2:List TV) (a1:TV) (a2:TV) (a3:TV):Prop:=
 TV.isTp a1=false∧
 (Nat.beq 0 (0*1)&&Nat.beq 1 1)=true∧szOk 1 a2∧
 ∃v1,listT (TV.l [a2])=some v1∧szHd 1 v1∧
 ∃v2,appT 8 l0_2 v1=some v2∧
 ∃v3,putT o0_ 2 1 (TV.l [])=some v3∧
 S85 (fun (o4:TV) (l5:List TV) (l6:List TV) (r7:TV)=>
 ∃v8,subT a1 8 9=some v8∧
 VS prog 107 [v8] fun r9=>scOk true r9∧
 ∃v10,putT zz4 0 1 a2=some v10∧
 ∃v11,putT v10 1 1 r7=some v11∧
 ∃v12,putT v11 2 1 (TV.i .i64 2)=some v12∧
 ∃v13,putT v12 10 9 r9=some v13∧
 ∃v14,nilsT [(9,VV.nil0)] v13=some v14∧
 S84 (fun (o15:TV) (l16:List TV) (l17:List TV) (r18:TV)=>
 ∃v19,subT a1 8 9=some v19∧
 VS prog 109 [v19] fun r20=>scOk true r20∧
 ∃v21,putT zz4 0 1 a2=some v21∧
 ∃v22,putT v21 1 1 a3=some v22∧
 ∃v23,putT v22 2 1 (TV.i .i64 2)=some v23∧
 ∃v24,putT v23 10 9 r20=some v24∧
 ∃v25,nilsT [(9,VV.nil0)] v24=some v25∧
 S84 (fun (o26:TV) (l27:List TV) (l28:List TV) (r29:TV)=>
 ∃v30,cellT a1 17=some v30∧
 S62 (fun (o31:TV) (l32:List TV) (l33:List TV) (r34:TV)=>
 True∧noTps []∧Q o31 l32 l33 (TV.tp []))
 o26 l27 l28 v30 r7 a2)
 o15 l16 l17 v25)
 o4 l5 l6 v14)
 v3 l0_1 v2
theorem sh110 (Q:TV→List TV→List TV→TV→Prop) (o0_:TV) (l0_1:List TV) (l0_2:List TV) (a1:TV) (a2:TV) (a3:TV) (h:WS110 Q o0_ l0_1 l0_2 a1 a2 a3):S110 Q o0_ l0_1 l0_2 a1 a2 a3:=by
 refine vsh_of (sh:=sh) (af:=a110) (vc:=v110) (p:=kept [.ob [(1,19),(2,1)],.tr,.tr,.tr]) (np:=4) (by kernel_rfl) (by kernel_rfl) (by kernel_rfl) (by kernel_rfl) (by kernel_rfl) rfl ?_
 refine Eq.mp (?_:WS110 Q o0_ l0_1 l0_2 a1 a2 a3=_) h
 kernel_rfl
def v111:VCode:=.seq (.reg r111_0) (.seq (.reg r111_1) (.block 0 (.loop [.ob 0 [(1,19),(2,1)],.ob 5 [],.pt 0 0 0,.tr 2,.tr 3,.pt 5 5 0,.tr 12,.tr 13,.tr 14] (.seq (.reg r111_2) (.seq (.cond (.t 15) (.skip) (.exit 0)) (.seq (.block 1 (.seq (.reg r111_3) (.seq (.reg r111_4) (.seq (.reg r111_5) (.reg r111_6))))) (.reg r111_7)))))))
def WS111 (Q:TV→List TV→List TV→TV→Prop) (o0_:TV) (l0_1:List TV) (l0_2:List TV) (a1:TV) (a2:TV) (a3:TV):Prop:=
 TV.isTp a1=false∧
 ∃v1,cellT a1 19=some v1∧
 ∃v2,lenT v1=some v2∧
 ∃I3:Nat→TV→List TV→List TV→TV→TV→TV→TV→TV→TV→Prop,(∃n4,I3 n4 o0_ l0_1 l0_2 a1 a2 a3 v1 v2 (TV.i .i64 0))∧∀n4 o6 l7 l8 o9 x10 x11 x12 x13 x14,I3 n4 o6 l7 l8 o9 x10 x11 x12 x13 x14→
 ∃v15,binT .lss x14 x13=some v15∧
 condK v15
 (∃v16,(idxT x12 x14=some v16∧szOk 3 v16)∧
 ∃v17,ldT v16 0 (some 3)=some v17∧
 ∃v18,putT (TV.a [(TV.i .i64 0),(TV.i .i64 0),(TV.l [])]) 0 3 v17=some v18∧
 S85 (fun (o19:TV) (l20:List TV) (l21:List TV) (r22:TV)=>
 ∃v23,cellT o9 2=some v23∧
 ∃v24,cellT v18 0=some v24∧
 ∃v25,cellT v18 1=some v25∧
 ∃v26,putT zz4 0 1 x10=some v26∧
 ∃v27,putT v26 1 1 r22=some v27∧
 ∃v28,putT v27 2 1 (TV.i .i64 4)=some v28∧
 ∃v29,putT v28 4 1 v23=some v29∧
 ∃v30,putT v29 5 1 v24=some v30∧
 ∃v31,putT v30 3 1 v25=some v31∧
 ∃v32,nilsT [(9,VV.nil0),(14,VV.nil0),(18,VV.nil0)] v31=some v32∧
 S84 (fun (o33:TV) (l34:List TV) (l35:List TV) (r36:TV)=>
 ∃v37,cellT v18 2=some v37∧
 S62 (fun (o38:TV) (l39:List TV) (l40:List TV) (r41:TV)=>
 ∃v42,binT .add x14 (TV.i .i64 1)=some v42∧
 ∃m5,m5 < n4∧I3 m5 o38 l39 l40 o9 x10 x11 x12 x13 v42)
 o33 l34 l35 v37 r22 x11)
 o19 l20 l21 v32)
 o6 l7 l8)
 (True∧noTps []∧Q o6 l7 l8 (TV.tp []))
theorem sh111 (Q:TV→List TV→List TV→TV→Prop) (o0_:TV) (l0_1:List TV) (l0_2:List TV) (a1:TV) (a2:TV) (a3:TV) (h:WS111 Q o0_ l0_1 l0_2 a1 a2 a3):S111 Q o0_ l0_1 l0_2 a1 a2 a3:=by
 refine vsh_of (sh:=sh) (af:=a111) (vc:=v111) (p:=kept [.ob [(1,19),(2,1)],.tr,.tr,.tr]) (np:=4) (by kernel_rfl) (by kernel_rfl) (by kernel_rfl) (by kernel_rfl) (by kernel_rfl) rfl ?_
 refine Eq.mp (?_:WS111 Q o0_ l0_1 l0_2 a1 a2 a3=_) h
 kernel_rfl
def v112:VCode:=.seq (.reg r112_0) (.block 0 (.loop [.sl 0 1,.tr 1,.tr 2,.tr 6] (.seq (.seq (.reg r112_1) (.cond (.t 12) (.skip) (.exit 0))) (.seq (.block 1 (.seq (.reg r112_3) (.block 2 (.loop [.sl 0 1,.tr 1,.tr 2,.tr 6,.tr 7] (.seq (.seq (.dreg r112_4 b112_4 []) (.cond (.t 30) (.skip) (.exit 2))) (.seq (.block 3 (.dreg r112_6 b112_6 [])) (.reg r112_5))))))) (.reg r112_2)))))
def WS112 (Q:List TV→TV→Prop) (l0_:List TV) (a1:TV) (a2:TV):Prop:=
 ∃v1,binT .add a1 (TV.i .i64 1)=some v1∧
 ∃I2:Nat→List TV→TV→TV→TV→Prop,(∃n3,I2 n3 l0_ a1 a2 v1)∧∀n3 l5 x6 x7 x8,I2 n3 l5 x6 x7 x8→
 ∃v9,binT .lss x8 x7=some v9∧
 condK v9
 (∃I10:Nat→List TV→TV→TV→TV→TV→Prop,(∃n11,I10 n11 l5 x6 x7 x8 x8)∧∀n11 l13 x14 x15 x16 x17,I10 n11 l13 x14 x15 x16 x17→
 ∃v18,binT .gtr x17 x14=some v18∧
 ∃v19,gV v18 true (fun r=>some x17=some r) v19∧
 gd v18 true v18 true∧∃v20,(v18=.b true→ixN v19 (List.length l13)=some v20)∧
 gd v18 true v18 true∧∃v21,gV v18 true (fun r=>ldE l13 v20 0 none=some r) v21∧
 ∃v22,gV v18 true (fun r=>some x17=some r) v22∧
 ∃v23,gV v18 true (fun r=>binT .sub v22 (TV.i .i64 1)=some r) v23∧
 gd v18 true v18 true∧∃v24,(v18=.b true→ixN v23 (List.length l13)=some v24)∧
 gd v18 true v18 true∧∃v25,gV v18 true (fun r=>ldE l13 v24 0 none=some r) v25∧
 ∃v26,gV v18 true (fun r=>VS prog 118 [v21,v25] fun r'=>r'=r∧scOk true r) v26∧
 ∃v27,pickT v18 v26 (TV.b false)=some v27∧
 condK v27
 (∃v28,binT .sub x17 (TV.i .i64 1)=some v28∧
 ∃v29,binT .sub x17 (TV.i .i64 1)=some v29∧
 ∃v30,ixN v29 (List.length l13)=some v30∧
 ∃v31,ldE l13 v30 0 none=some v31∧
 ∃v32,ixN x17 (List.length l13)=some v32∧
 ∃v33,ldE l13 v32 0 none=some v33∧
 ∃v34,ixN x17 (List.length l13)=some v34∧
 ∃v35,setE l13 v34 0 1 v31=some v35∧
 ∃v36,ixN v28 (List.length v35)=some v36∧
 ∃v37,setE v35 v36 0 1 v33=some v37∧
 ∃v38,binT .sub x17 (TV.i .i64 1)=some v38∧
 ∃m12,m12 < n11∧I10 m12 v37 x14 x15 x16 v38)
 (∃v39,binT .add x16 (TV.i .i64 1)=some v39∧
 ∃m4,m4 < n3∧I2 m4 l13 x14 x15 v39))
 (True∧noTps []∧Q l5 (TV.tp []))
theorem sh112 (Q:List TV→TV→Prop) (l0_:List TV) (a1:TV) (a2:TV) (h:WS112 Q l0_ a1 a2):S112 Q l0_ a1 a2:=by
 refine vsh_of (sh:=sh) (af:=a112) (vc:=v112) (p:=kept [.sl 1,.tr,.tr]) (np:=3) (by kernel_rfl) (by kernel_rfl) (by kernel_rfl) (by kernel_rfl) (by kernel_rfl) rfl ?_
 refine Eq.mp (?_:WS112 Q l0_ a1 a2=_) h
 kernel_rfl
def v113:VCode:=.seq (.reg r113_0) (.seq (.reg r113_1) (.seq (.reg r113_2) (.seq (.seq (.reg r113_3) (.block 0 (.loop [.sl 0 1,.tr 6,.tr 7,.tr 8,.tr 9] (.seq (.seq (.reg r113_4) (.cond (.t 19) (.skip) (.exit 0))) (.seq (.block 1 (.reg r113_6)) (.reg r113_5)))))) (.seq (.reg r113_7) (.block 2 (.loop [.sl 0 1,.tr 6,.tr 7,.tr 10] (.seq (.seq (.reg r113_8) (.cond (.t 30) (.skip) (.exit 2))) (.seq (.block 3 (.seq (.dreg r113_10 b113_10 []) (.reg r113_11))) (.reg r113_9)))))))))
def WS113 (Q:List TV→TV→Prop) (l0_:List TV) (a1:TV) (a2:TV):Prop:=
 ∃v1,binT .sub a2 a1=some v1∧
 ∃v2,binT .sub v1 (TV.i .i64 1)=some v2∧
 ∃v3,binT .quo v2 (TV.i .i64 2)=some v3∧
 ∃I4:Nat→List TV→TV→TV→TV→TV→Prop,(∃n5,I4 n5 l0_ a1 (TV.i .i64 0) v1 v3)∧∀n5 l7 x8 x9 x10 x11,I4 n5 l7 x8 x9 x10 x11→
 ∃v12,binT .geq x11 (TV.i .i64 0)=some v12∧
 condK v12
 (S150 (fun (l13:List TV) (r14:TV)=>
 ∃v15,binT .sub x11 (TV.i .i64 1)=some v15∧
 ∃m6,m6 < n5∧I4 m6 l13 x8 x9 x10 v15)
 l7 x11 x10 x8)
 (∃v16,binT .sub x10 (TV.i .i64 1)=some v16∧
 ∃I17:Nat→List TV→TV→TV→TV→Prop,(∃n18,I17 n18 l7 x8 x9 v16)∧∀n18 l20 x21 x22 x23,I17 n18 l20 x21 x22 x23→
 ∃v24,binT .geq x23 (TV.i .i64 0)=some v24∧
 condK v24
 (∃v25,binT .add x21 x23=some v25∧
 ∃v26,binT .add x21 x23=some v26∧
 ∃v27,ixN v26 (List.length l20)=some v27∧
 ∃v28,ldE l20 v27 0 none=some v28∧
 ∃v29,ixN x21 (List.length l20)=some v29∧
 ∃v30,ldE l20 v29 0 none=some v30∧
 ∃v31,ixN x21 (List.length l20)=some v31∧
 ∃v32,setE l20 v31 0 1 v28=some v32∧
 ∃v33,ixN v25 (List.length v32)=some v33∧
 ∃v34,setE v32 v33 0 1 v30=some v34∧
 S150 (fun (l35:List TV) (r36:TV)=>
 ∃v37,binT .sub x23 (TV.i .i64 1)=some v37∧
 ∃m19,m19 < n18∧I17 m19 l35 x21 x22 v37)
 v34 x22 x23 x21)
 (True∧noTps []∧Q l20 (TV.tp [])))
theorem sh113 (Q:List TV→TV→Prop) (l0_:List TV) (a1:TV) (a2:TV) (h:WS113 Q l0_ a1 a2):S113 Q l0_ a1 a2:=by
 refine vsh_of (sh:=sh) (af:=a113) (vc:=v113) (p:=kept [.sl 1,.tr,.tr]) (np:=3) (by kernel_rfl) (by kernel_rfl) (by kernel_rfl) (by kernel_rfl) (by kernel_rfl) rfl ?_
 refine Eq.mp (?_:WS113 Q l0_ a1 a2=_) h
 kernel_rfl
def v114:VCode:=.seq (.reg r114_0) (.seq (.reg r114_1) (.cond (.t 15) (.seq (.reg r114_2) (.seq (.reg r114_3) (.seq (.reg r114_4) (.block 0 (.loop [.ob 7 [],.sl 0 1,.tr 1,.tr 6,.pt 7 7 0,.tr 8,.tr 9] (.seq (.seq (.reg r114_5) (.cond (.t 33) (.skip) (.exit 0))) (.seq (.block 1 (.seq (.reg r114_7) (.seq (.seq (.reg r114_8) (.cond (.t 43) (.reg r114_9) (.skip))) (.dreg r114_10 b114_10 [])))) (.reg r114_6)))))))) (.skip)))
def WS114 (Q:List TV→TV→Prop) (l0_:List TV) (a1:TV) (a2:TV):Prop:=
 ∃v1,binT .sub a2 a1=some v1∧
 ∃v2,binT .geq v1 (TV.i .i64 8)=some v2∧
 condK v2
 (∃v3,convT .u64 v1=some v3∧
 ∃v4,putT (TV.a [(TV.i .u64 0)]) 0 1 v3=some v4∧
 VS prog 151 [v1] fun r5=>scOk true r5∧
 ∃v6,binT .quo v1 (TV.i .i64 4)=some v6∧
 ∃v7,binT .mul v6 (TV.i .i64 2)=some v7∧
 ∃v8,binT .add a1 v7=some v8∧
 ∃v9,binT .sub v8 (TV.i .i64 1)=some v9∧
 ∃I10:Nat→TV→List TV→TV→TV→TV→TV→Prop,(∃n11,I10 n11 v4 l0_ a1 v1 r5 v9)∧∀n11 o13 l14 x15 x16 x17 x18,I10 n11 o13 l14 x15 x16 x17 x18→
 ∃v19,binT .quo x16 (TV.i .i64 4)=some v19∧
 ∃v20,binT .mul v19 (TV.i .i64 2)=some v20∧
 ∃v21,binT .add x15 v20=some v21∧
 ∃v22,binT .add v21 (TV.i .i64 1)=some v22∧
 ∃v23,binT .leq x18 v22=some v23∧
 condK v23
 (S152 (fun (o24:TV) (r25:TV)=>
 ∃v26,binT .sub x17 (TV.i .u64 1)=some v26∧
 ∃v27,binT .and r25 v26=some v27∧
 ∃v28,convT .i64 v27=some v28∧
 ∃v29,binT .geq v28 x16=some v29∧
 condK v29
 (∃v30,binT .sub v28 x16=some v30∧
 ∃v31,binT .add x15 v30=some v31∧
 ∃v32,binT .add x15 v30=some v32∧
 ∃v33,ixN v32 (List.length l14)=some v33∧
 ∃v34,ldE l14 v33 0 none=some v34∧
 ∃v35,ixN x18 (List.length l14)=some v35∧
 ∃v36,ldE l14 v35 0 none=some v36∧
 ∃v37,ixN x18 (List.length l14)=some v37∧
 ∃v38,setE l14 v37 0 1 v34=some v38∧
 ∃v39,ixN v31 (List.length v38)=some v39∧
 ∃v40,setE v38 v39 0 1 v36=some v40∧
 ∃v41,binT .add x18 (TV.i .i64 1)=some v41∧
 ∃m12,m12 < n11∧I10 m12 o24 v40 x15 x16 x17 v41)
 (∃v42,binT .add x15 v28=some v42∧
 ∃v43,binT .add x15 v28=some v43∧
 ∃v44,ixN v43 (List.length l14)=some v44∧
 ∃v45,ldE l14 v44 0 none=some v45∧
 ∃v46,ixN x18 (List.length l14)=some v46∧
 ∃v47,ldE l14 v46 0 none=some v47∧
 ∃v48,ixN x18 (List.length l14)=some v48∧
 ∃v49,setE l14 v48 0 1 v45=some v49∧
 ∃v50,ixN v42 (List.length v49)=some v50∧
 ∃v51,setE v49 v50 0 1 v47=some v51∧
 ∃v52,binT .add x18 (TV.i .i64 1)=some v52∧
 ∃m12,m12 < n11∧I10 m12 o24 v51 x15 x16 x17 v52))
 o13)
 (True∧noTps []∧Q l14 (TV.tp [])))
 (True∧noTps []∧Q l0_ (TV.tp []))
theorem sh114 (Q:List TV→TV→Prop) (l0_:List TV) (a1:TV) (a2:TV) (h:WS114 Q l0_ a1 a2):S114 Q l0_ a1 a2:=by
 refine vsh_of (sh:=sh) (af:=a114) (vc:=v114) (p:=kept [.sl 1,.tr,.tr]) (np:=3) (by kernel_rfl) (by kernel_rfl) (by kernel_rfl) (by kernel_rfl) (by kernel_rfl) rfl ?_
 refine Eq.mp (?_:WS114 Q l0_ a1 a2=_) h
 kernel_rfl
def v115:VCode:=.seq (.reg r115_0) (.seq (.reg r115_1) (.seq (.reg r115_2) (.seq (.reg r115_3) (.seq (.reg r115_4) (.seq (.reg r115_5) (.seq (.seq (.reg r115_6) (.cond (.t 32) (.seq (.seq (.reg r115_7) (.cond (.t 34) (.seq (.reg r115_8) (.seq (.reg r115_9) (.reg r115_10))) (.skip))) (.reg r115_11)) (.skip))) (.seq (.reg r115_12) (.block 0 (.seq (.reg r115_14) (.cond (.t 51) (.seq (.reg r115_15) (.ret)) (.seq (.reg r115_16) (.cond (.t 54) (.seq (.reg r115_17) (.ret)) (.seq (.reg r115_13) (.ret))))))))))))))
def WS115 (Q:List TV→TV→Prop) (l0_:List TV) (a1:TV) (a2:TV):Prop:=
 ∃v1,binT .sub a2 a1=some v1∧
 ∃v2,binT .quo v1 (TV.i .i64 4)=some v2∧
 ∃v3,binT .mul v2 (TV.i .i64 1)=some v3∧
 ∃v4,binT .add a1 v3=some v4∧
 ∃v5,binT .quo v1 (TV.i .i64 4)=some v5∧
 ∃v6,binT .mul v5 (TV.i .i64 2)=some v6∧
 ∃v7,binT .add a1 v6=some v7∧
 ∃v8,binT .quo v1 (TV.i .i64 4)=some v8∧
 ∃v9,binT .mul v8 (TV.i .i64 3)=some v9∧
 ∃v10,binT .add a1 v9=some v10∧
 ∃v11,binT .geq v1 (TV.i .i64 8)=some v11∧
 condK v11
 (∃v12,binT .geq v1 (TV.i .i64 50)=some v12∧
 condK v12
 (S153 (fun (l13:List TV) (o14:TV) (r15:TV)=>
 S153 (fun (l16:List TV) (o17:TV) (r18:TV)=>
 S153 (fun (l19:List TV) (o20:TV) (r21:TV)=>
 S154 (fun (l22:List TV) (o23:TV) (r24:TV)=>
 ∃v25,cellT o23 0=some v25∧
 ∃v26,binT .eql v25 (TV.i .i64 0)=some v26∧
 condK v26
 (True∧noTps [r24,(TV.i .i64 1)]∧Q l22 (TV.tp [r24,(TV.i .i64 1)]))
 (∃v27,binT .eql v25 (TV.i .i64 12)=some v27∧
 condK v27
 (True∧noTps [r24,(TV.i .i64 2)]∧Q l22 (TV.tp [r24,(TV.i .i64 2)]))
 (True∧noTps [r24,(TV.i .i64 0)]∧Q l22 (TV.tp [r24,(TV.i .i64 0)]))))
 l19 r15 r18 r21 o20)
 l16 v10 o17)
 l13 v7 o14)
 l0_ v4 (TV.a [(TV.i .i64 0)]))
 (S154 (fun (l28:List TV) (o29:TV) (r30:TV)=>
 ∃v31,cellT o29 0=some v31∧
 ∃v32,binT .eql v31 (TV.i .i64 0)=some v32∧
 condK v32
 (True∧noTps [r30,(TV.i .i64 1)]∧Q l28 (TV.tp [r30,(TV.i .i64 1)]))
 (∃v33,binT .eql v31 (TV.i .i64 12)=some v33∧
 condK v33
 (True∧noTps [r30,(TV.i .i64 2)]∧Q l28 (TV.tp [r30,(TV.i .i64 2)]))
 (True∧noTps [r30,(TV.i .i64 0)]∧Q l28 (TV.tp [r30,(TV.i .i64 0)]))))
 l0_ v4 v7 v10 (TV.a [(TV.i .i64 0)])))
 (∃v34,cellT (TV.a [(TV.i .i64 0)]) 0=some v34∧
 ∃v35,binT .eql v34 (TV.i .i64 0)=some v35∧
 condK v35
 (True∧noTps [v7,(TV.i .i64 1)]∧Q l0_ (TV.tp [v7,(TV.i .i64 1)]))
 (∃v36,binT .eql v34 (TV.i .i64 12)=some v36∧
 condK v36
 (True∧noTps [v7,(TV.i .i64 2)]∧Q l0_ (TV.tp [v7,(TV.i .i64 2)]))
 (True∧noTps [v7,(TV.i .i64 0)]∧Q l0_ (TV.tp [v7,(TV.i .i64 0)]))))
theorem sh115 (Q:List TV→TV→Prop) (l0_:List TV) (a1:TV) (a2:TV) (h:WS115 Q l0_ a1 a2):S115 Q l0_ a1 a2:=by
 refine vsh_of (sh:=sh) (af:=a115) (vc:=v115) (p:=kept [.sl 1,.tr,.tr]) (np:=3) (by kernel_rfl) (by kernel_rfl) (by kernel_rfl) (by kernel_rfl) (by kernel_rfl) rfl ?_
 refine Eq.mp (?_:WS115 Q l0_ a1 a2=_) h
 kernel_rfl
def v116:VCode:=.seq (.reg r116_0) (.seq (.reg r116_1) (.block 0 (.loop [.sl 0 1,.tr 6,.tr 7] (.seq (.seq (.reg r116_2) (.cond (.t 13) (.skip) (.exit 0))) (.block 1 (.seq (.dreg r116_3 b116_3 []) (.seq (.reg r116_4) (.reg r116_5))))))))
def WS116 (Q:List TV→TV→Prop) (l0_:List TV) (a1:TV) (a2:TV):Prop:=
 ∃v1,binT .sub a2 (TV.i .i64 1)=some v1∧
 ∃I2:Nat→List TV→TV→TV→Prop,(∃n3,I2 n3 l0_ a1 v1)∧∀n3 l5 x6 x7,I2 n3 l5 x6 x7→
 ∃v8,binT .lss x6 x7=some v8∧
 condK v8
 (∃v9,ixN x7 (List.length l5)=some v9∧
 ∃v10,ldE l5 v9 0 none=some v10∧
 ∃v11,ixN x6 (List.length l5)=some v11∧
 ∃v12,ldE l5 v11 0 none=some v12∧
 ∃v13,ixN x6 (List.length l5)=some v13∧
 ∃v14,setE l5 v13 0 1 v10=some v14∧
 ∃v15,ixN x7 (List.length v14)=some v15∧
 ∃v16,setE v14 v15 0 1 v12=some v16∧
 ∃v17,binT .add x6 (TV.i .i64 1)=some v17∧
 ∃v18,binT .sub x7 (TV.i .i64 1)=some v18∧
 ∃m4,m4 < n3∧I2 m4 v16 v17 v18)
 (True∧noTps []∧Q l5 (TV.tp []))
theorem sh116 (Q:List TV→TV→Prop) (l0_:List TV) (a1:TV) (a2:TV) (h:WS116 Q l0_ a1 a2):S116 Q l0_ a1 a2:=by
 refine vsh_of (sh:=sh) (af:=a116) (vc:=v116) (p:=kept [.sl 1,.tr,.tr]) (np:=3) (by kernel_rfl) (by kernel_rfl) (by kernel_rfl) (by kernel_rfl) (by kernel_rfl) rfl ?_
 refine Eq.mp (?_:WS116 Q l0_ a1 a2=_) h
 kernel_rfl
def v117:VCode:=.seq (.reg r117_0) (.seq (.reg r117_1) (.seq (.seq (.reg r117_2) (.block 0 (.loop [.sl 0 1,.tr 1,.tr 2,.tr 7,.tr 8] (.seq (.seq (.reg r117_3) (.cond (.t 14) (.skip) (.exit 0))) (.seq (.block 1 (.seq (.block 2 (.loop [.sl 0 1,.tr 1,.tr 2,.tr 7,.tr 8] (.seq (.seq (.dreg r117_5 b117_5 []) (.cond (.t 32) (.skip) (.exit 2))) (.block 3 (.reg r117_6))))) (.seq (.seq (.reg r117_7) (.cond (.t 37) (.seq (.reg r117_8) (.ret)) (.skip))) (.seq (.seq (.reg r117_9) (.cond (.t 41) (.seq (.reg r117_10) (.ret)) (.skip))) (.seq (.dreg r117_11 b117_11 []) (.seq (.seq (.reg r117_12) (.cond (.t 61) (.seq (.reg r117_13) (.block 4 (.loop [.sl 0 1,.tr 1,.tr 2,.tr 7,.tr 8,.tr 9] (.seq (.seq (.reg r117_14) (.cond (.t 65) (.skip) (.exit 4))) (.seq (.block 5 (.seq (.seq (.dreg r117_16 b117_16 []) (.cond (.t 78) (.exit 4) (.skip))) (.dreg r117_17 b117_17 []))) (.reg r117_15)))))) (.skip))) (.seq (.reg r117_18) (.cond (.t 98) (.seq (.reg r117_19) (.block 6 (.loop [.sl 0 1,.tr 1,.tr 2,.tr 7,.tr 8,.tr 10] (.seq (.seq (.reg r117_20) (.cond (.t 103) (.skip) (.exit 6))) (.seq (.block 7 (.seq (.seq (.dreg r117_22 b117_22 []) (.cond (.t 116) (.exit 6) (.skip))) (.dreg r117_23 b117_23 []))) (.reg r117_21)))))) (.skip))))))))) (.reg r117_4)))))) (.seq (.reg r117_24) (.ret))))
def WS117 (Q:List TV→TV→Prop) (l0_:List TV) (a1:TV) (a2:TV):Prop:=
 ∃v1,binT .add a1 (TV.i .i64 1)=some v1∧
 ∃I2:Nat→List TV→TV→TV→TV→TV→Prop,(∃n3,I2 n3 l0_ a1 a2 v1 (TV.i .i64 0))∧∀n3 l5 x6 x7 x8 x9,I2 n3 l5 x6 x7 x8 x9→
 ∃v10,binT .lss x9 (TV.i .i64 5)=some v10∧
 condK v10
 (∃I11:Nat→List TV→TV→TV→TV→TV→Prop,(∃n12,I11 n12 l5 x6 x7 x8 x9)∧∀n12 l14 x15 x16 x17 x18,I11 n12 l14 x15 x16 x17 x18→
 ∃v19,binT .lss x17 x16=some v19∧
 ∃v20,gV v19 true (fun r=>some x17=some r) v20∧
 gd v19 true v19 true∧∃v21,(v19=.b true→ixN v20 (List.length l14)=some v21)∧
 gd v19 true v19 true∧∃v22,gV v19 true (fun r=>ldE l14 v21 0 none=some r) v22∧
 ∃v23,gV v19 true (fun r=>some x17=some r) v23∧
 ∃v24,gV v19 true (fun r=>binT .sub v23 (TV.i .i64 1)=some r) v24∧
 gd v19 true v19 true∧∃v25,(v19=.b true→ixN v24 (List.length l14)=some v25)∧
 gd v19 true v19 true∧∃v26,gV v19 true (fun r=>ldE l14 v25 0 none=some r) v26∧
 ∃v27,gV v19 true (fun r=>VS prog 118 [v22,v26] fun r'=>r'=r∧scOk true r) v27∧
 ∃v28,gV v19 true (fun r=>unT .not v27=some r) v28∧
 ∃v29,pickT v19 v28 (TV.b false)=some v29∧
 condK v29
 (∃v30,binT .add x17 (TV.i .i64 1)=some v30∧
 ∃m13,m13 < n12∧I11 m13 l14 x15 x16 v30 x18)
 (∃v31,binT .eql x17 x16=some v31∧
 condK v31
 (True∧Q l14 (TV.b true))
 (∃v32,binT .sub x16 x15=some v32∧
 ∃v33,binT .lss v32 (TV.i .i64 50)=some v33∧
 condK v33
 (True∧Q l14 (TV.b false))
 (∃v34,binT .sub x17 (TV.i .i64 1)=some v34∧
 ∃v35,binT .sub x17 (TV.i .i64 1)=some v35∧
 ∃v36,ixN v35 (List.length l14)=some v36∧
 ∃v37,ldE l14 v36 0 none=some v37∧
 ∃v38,ixN x17 (List.length l14)=some v38∧
 ∃v39,ldE l14 v38 0 none=some v39∧
 ∃v40,ixN x17 (List.length l14)=some v40∧
 ∃v41,setE l14 v40 0 1 v37=some v41∧
 ∃v42,ixN v34 (List.length v41)=some v42∧
 ∃v43,setE v41 v42 0 1 v39=some v43∧
 ∃v44,binT .sub x17 x15=some v44∧
 ∃v45,binT .geq v44 (TV.i .i64 2)=some v45∧
 condK v45
 (∃v46,binT .sub x17 (TV.i .i64 1)=some v46∧
 ∃I47:Nat→List TV→TV→TV→TV→TV→TV→Prop,(∃n48,I47 n48 v43 x15 x16 x17 x18 v46)∧∀n48 l50 x51 x52 x53 x54 x55,I47 n48 l50 x51 x52 x53 x54 x55→
 ∃v56,binT .geq x55 (TV.i .i64 1)=some v56∧
 condK v56
 (∃v57,ixN x55 (List.length l50)=some v57∧
 ∃v58,ldE l50 v57 0 none=some v58∧
 ∃v59,binT .sub x55 (TV.i .i64 1)=some v59∧
 ∃v60,ixN v59 (List.length l50)=some v60∧
 ∃v61,ldE l50 v60 0 none=some v61∧
 VS prog 118 [v58,v61] fun r62=>scOk true r62∧
 ∃v63,unT .not r62=some v63∧
 condK v63
 (∃v64,binT .sub x52 x53=some v64∧
 ∃v65,binT .geq v64 (TV.i .i64 2)=some v65∧
 condK v65
 (∃v66,binT .add x53 (TV.i .i64 1)=some v66∧
 ∃I67:Nat→List TV→TV→TV→TV→TV→TV→Prop,(∃n68,I67 n68 l50 x51 x52 x53 x54 v66)∧∀n68 l70 x71 x72 x73 x74 x75,I67 n68 l70 x71 x72 x73 x74 x75→
 ∃v76,binT .lss x75 x72=some v76∧
 condK v76
 (∃v77,ixN x75 (List.length l70)=some v77∧
 ∃v78,ldE l70 v77 0 none=some v78∧
 ∃v79,binT .sub x75 (TV.i .i64 1)=some v79∧
 ∃v80,ixN v79 (List.length l70)=some v80∧
 ∃v81,ldE l70 v80 0 none=some v81∧
 VS prog 118 [v78,v81] fun r82=>scOk true r82∧
 ∃v83,unT .not r82=some v83∧
 condK v83
 (∃v84,binT .add x74 (TV.i .i64 1)=some v84∧
 ∃m4,m4 < n3∧I2 m4 l70 x71 x72 x73 v84)
 (∃v85,binT .sub x75 (TV.i .i64 1)=some v85∧
 ∃v86,binT .sub x75 (TV.i .i64 1)=some v86∧
 ∃v87,ixN v86 (List.length l70)=some v87∧
 ∃v88,ldE l70 v87 0 none=some v88∧
 ∃v89,ixN x75 (List.length l70)=some v89∧
 ∃v90,ldE l70 v89 0 none=some v90∧
 ∃v91,ixN x75 (List.length l70)=some v91∧
 ∃v92,setE l70 v91 0 1 v88=some v92∧
 ∃v93,ixN v85 (List.length v92)=some v93∧
 ∃v94,setE v92 v93 0 1 v90=some v94∧
 ∃v95,binT .add x75 (TV.i .i64 1)=some v95∧
 ∃m69,m69 < n68∧I67 m69 v94 x71 x72 x73 x74 v95))
 (∃v96,binT .add x74 (TV.i .i64 1)=some v96∧
 ∃m4,m4 < n3∧I2 m4 l70 x71 x72 x73 v96))
 (∃v97,binT .add x54 (TV.i .i64 1)=some v97∧
 ∃m4,m4 < n3∧I2 m4 l50 x51 x52 x53 v97))
 (∃v98,binT .sub x55 (TV.i .i64 1)=some v98∧
 ∃v99,binT .sub x55 (TV.i .i64 1)=some v99∧
 ∃v100,ixN v99 (List.length l50)=some v100∧
 ∃v101,ldE l50 v100 0 none=some v101∧
 ∃v102,ixN x55 (List.length l50)=some v102∧
 ∃v103,ldE l50 v102 0 none=some v103∧
 ∃v104,ixN x55 (List.length l50)=some v104∧
 ∃v105,setE l50 v104 0 1 v101=some v105∧
 ∃v106,ixN v98 (List.length v105)=some v106∧
 ∃v107,setE v105 v106 0 1 v103=some v107∧
 ∃v108,binT .sub x55 (TV.i .i64 1)=some v108∧
 ∃m49,m49 < n48∧I47 m49 v107 x51 x52 x53 x54 v108))
 (∃v109,binT .sub x52 x53=some v109∧
 ∃v110,binT .geq v109 (TV.i .i64 2)=some v110∧
 condK v110
 (∃v111,binT .add x53 (TV.i .i64 1)=some v111∧
 ∃I112:Nat→List TV→TV→TV→TV→TV→TV→Prop,(∃n113,I112 n113 l50 x51 x52 x53 x54 v111)∧∀n113 l115 x116 x117 x118 x119 x120,I112 n113 l115 x116 x117 x118 x119 x120→
 ∃v121,binT .lss x120 x117=some v121∧
 condK v121
 (∃v122,ixN x120 (List.length l115)=some v122∧
 ∃v123,ldE l115 v122 0 none=some v123∧
 ∃v124,binT .sub x120 (TV.i .i64 1)=some v124∧
 ∃v125,ixN v124 (List.length l115)=some v125∧
 ∃v126,ldE l115 v125 0 none=some v126∧
 VS prog 118 [v123,v126] fun r127=>scOk true r127∧
 ∃v128,unT .not r127=some v128∧
 condK v128
 (∃v129,binT .add x119 (TV.i .i64 1)=some v129∧
 ∃m4,m4 < n3∧I2 m4 l115 x116 x117 x118 v129)
 (∃v130,binT .sub x120 (TV.i .i64 1)=some v130∧
 ∃v131,binT .sub x120 (TV.i .i64 1)=some v131∧
 ∃v132,ixN v131 (List.length l115)=some v132∧
 ∃v133,ldE l115 v132 0 none=some v133∧
 ∃v134,ixN x120 (List.length l115)=some v134∧
 ∃v135,ldE l115 v134 0 none=some v135∧
 ∃v136,ixN x120 (List.length l115)=some v136∧
 ∃v137,setE l115 v136 0 1 v133=some v137∧
 ∃v138,ixN v130 (List.length v137)=some v138∧
 ∃v139,setE v137 v138 0 1 v135=some v139∧
 ∃v140,binT .add x120 (TV.i .i64 1)=some v140∧
 ∃m114,m114 < n113∧I112 m114 v139 x116 x117 x118 x119 v140))
 (∃v141,binT .add x119 (TV.i .i64 1)=some v141∧
 ∃m4,m4 < n3∧I2 m4 l115 x116 x117 x118 v141))
 (∃v142,binT .add x54 (TV.i .i64 1)=some v142∧
 ∃m4,m4 < n3∧I2 m4 l50 x51 x52 x53 v142)))
 (∃v143,binT .sub x16 x17=some v143∧
 ∃v144,binT .geq v143 (TV.i .i64 2)=some v144∧
 condK v144
 (∃v145,binT .add x17 (TV.i .i64 1)=some v145∧
 ∃I146:Nat→List TV→TV→TV→TV→TV→TV→Prop,(∃n147,I146 n147 v43 x15 x16 x17 x18 v145)∧∀n147 l149 x150 x151 x152 x153 x154,I146 n147 l149 x150 x151 x152 x153 x154→
 ∃v155,binT .lss x154 x151=some v155∧
 condK v155
 (∃v156,ixN x154 (List.length l149)=some v156∧
 ∃v157,ldE l149 v156 0 none=some v157∧
 ∃v158,binT .sub x154 (TV.i .i64 1)=some v158∧
 ∃v159,ixN v158 (List.length l149)=some v159∧
 ∃v160,ldE l149 v159 0 none=some v160∧
 VS prog 118 [v157,v160] fun r161=>scOk true r161∧
 ∃v162,unT .not r161=some v162∧
 condK v162
 (∃v163,binT .add x153 (TV.i .i64 1)=some v163∧
 ∃m4,m4 < n3∧I2 m4 l149 x150 x151 x152 v163)
 (∃v164,binT .sub x154 (TV.i .i64 1)=some v164∧
 ∃v165,binT .sub x154 (TV.i .i64 1)=some v165∧
 ∃v166,ixN v165 (List.length l149)=some v166∧
 ∃v167,ldE l149 v166 0 none=some v167∧
 ∃v168,ixN x154 (List.length l149)=some v168∧
 ∃v169,ldE l149 v168 0 none=some v169∧
 ∃v170,ixN x154 (List.length l149)=some v170∧
 ∃v171,setE l149 v170 0 1 v167=some v171∧
 ∃v172,ixN v164 (List.length v171)=some v172∧
 ∃v173,setE v171 v172 0 1 v169=some v173∧
 ∃v174,binT .add x154 (TV.i .i64 1)=some v174∧
 ∃m148,m148 < n147∧I146 m148 v173 x150 x151 x152 x153 v174))
 (∃v175,binT .add x153 (TV.i .i64 1)=some v175∧
 ∃m4,m4 < n3∧I2 m4 l149 x150 x151 x152 v175))
 (∃v176,binT .add x18 (TV.i .i64 1)=some v176∧
 ∃m4,m4 < n3∧I2 m4 v43 x15 x16 x17 v176))))))
 (True∧Q l5 (TV.b false))
theorem sh117 (Q:List TV→TV→Prop) (l0_:List TV) (a1:TV) (a2:TV) (h:WS117 Q l0_ a1 a2):S117 Q l0_ a1 a2:=by
 refine vsh_of (sh:=sh) (af:=a117) (vc:=v117) (p:=kept [.sl 1,.tr,.tr]) (np:=3) (by kernel_rfl) (by kernel_rfl) (by kernel_rfl) (by kernel_rfl) (by kernel_rfl) rfl ?_
 refine Eq.mp (?_:WS117 Q l0_ a1 a2=_) h
 kernel_rfl
def v119:VCode:=.seq (.reg r119_0) (.seq (.dreg r119_1 b119_1 []) (.seq (.reg r119_2) (.seq (.block 0 (.loop [.sl 0 1,.tr 1,.tr 9,.tr 10] (.block 1 (.seq (.block 2 (.loop [.sl 0 1,.tr 1,.tr 9,.tr 10] (.seq (.seq (.dreg r119_3 b119_3 []) (.cond (.t 43) (.skip) (.exit 2))) (.block 3 (.reg r119_4))))) (.seq (.block 4 (.loop [.sl 0 1,.tr 1,.tr 9,.tr 10] (.seq (.seq (.dreg r119_5 b119_5 []) (.cond (.t 59) (.skip) (.exit 4))) (.block 5 (.reg r119_6))))) (.seq (.seq (.reg r119_7) (.cond (.t 64) (.exit 0) (.skip))) (.seq (.dreg r119_8 b119_8 []) (.seq (.reg r119_9) (.reg r119_10))))))))) (.seq (.reg r119_11) (.ret)))))
def WS119 (Q:List TV→TV→Prop) (l0_:List TV) (a1:TV) (a2:TV) (a3:TV):Prop:=
 ∃v1,ixN a3 (List.length l0_)=some v1∧
 ∃v2,ldE l0_ v1 0 none=some v2∧
 ∃v3,ixN a1 (List.length l0_)=some v3∧
 ∃v4,ldE l0_ v3 0 none=some v4∧
 ∃v5,ixN a1 (List.length l0_)=some v5∧
 ∃v6,setE l0_ v5 0 1 v2=some v6∧
 ∃v7,ixN a3 (List.length v6)=some v7∧
 ∃v8,setE v6 v7 0 1 v4=some v8∧
 ∃v9,binT .add a1 (TV.i .i64 1)=some v9∧
 ∃v10,binT .sub a2 (TV.i .i64 1)=some v10∧
 ∃I11:Nat→List TV→TV→TV→TV→Prop,(∃n12,I11 n12 v8 a1 v9 v10)∧∀n12 l14 x15 x16 x17,I11 n12 l14 x15 x16 x17→
 ∃I18:Nat→List TV→TV→TV→TV→Prop,(∃n19,I18 n19 l14 x15 x16 x17)∧∀n19 l21 x22 x23 x24,I18 n19 l21 x22 x23 x24→
 ∃v25,binT .leq x23 x24=some v25∧
 ∃v26,gV v25 true (fun r=>some x22=some r) v26∧
 gd v25 true v25 true∧∃v27,(v25=.b true→ixN v26 (List.length l21)=some v27)∧
 gd v25 true v25 true∧∃v28,gV v25 true (fun r=>ldE l21 v27 0 none=some r) v28∧
 ∃v29,gV v25 true (fun r=>some x23=some r) v29∧
 gd v25 true v25 true∧∃v30,(v25=.b true→ixN v29 (List.length l21)=some v30)∧
 gd v25 true v25 true∧∃v31,gV v25 true (fun r=>ldE l21 v30 0 none=some r) v31∧
 ∃v32,gV v25 true (fun r=>VS prog 118 [v28,v31] fun r'=>r'=r∧scOk true r) v32∧
 ∃v33,gV v25 true (fun r=>unT .not v32=some r) v33∧
 ∃v34,pickT v25 v33 (TV.b false)=some v34∧
 condK v34
 (∃v35,binT .add x23 (TV.i .i64 1)=some v35∧
 ∃m20,m20 < n19∧I18 m20 l21 x22 v35 x24)
 (∃I36:Nat→List TV→TV→TV→TV→Prop,(∃n37,I36 n37 l21 x22 x23 x24)∧∀n37 l39 x40 x41 x42,I36 n37 l39 x40 x41 x42→
 ∃v43,binT .leq x41 x42=some v43∧
 ∃v44,gV v43 true (fun r=>some x40=some r) v44∧
 gd v43 true v43 true∧∃v45,(v43=.b true→ixN v44 (List.length l39)=some v45)∧
 gd v43 true v43 true∧∃v46,gV v43 true (fun r=>ldE l39 v45 0 none=some r) v46∧
 ∃v47,gV v43 true (fun r=>some x42=some r) v47∧
 gd v43 true v43 true∧∃v48,(v43=.b true→ixN v47 (List.length l39)=some v48)∧
 gd v43 true v43 true∧∃v49,gV v43 true (fun r=>ldE l39 v48 0 none=some r) v49∧
 ∃v50,gV v43 true (fun r=>VS prog 118 [v46,v49] fun r'=>r'=r∧scOk true r) v50∧
 ∃v51,pickT v43 v50 (TV.b false)=some v51∧
 condK v51
 (∃v52,binT .sub x42 (TV.i .i64 1)=some v52∧
 ∃m38,m38 < n37∧I36 m38 l39 x40 x41 v52)
 (∃v53,binT .gtr x41 x42=some v53∧
 condK v53
 (True∧Q l39 x41)
 (∃v54,ixN x42 (List.length l39)=some v54∧
 ∃v55,ldE l39 v54 0 none=some v55∧
 ∃v56,ixN x41 (List.length l39)=some v56∧
 ∃v57,ldE l39 v56 0 none=some v57∧
 ∃v58,ixN x41 (List.length l39)=some v58∧
 ∃v59,setE l39 v58 0 1 v55=some v59∧
 ∃v60,ixN x42 (List.length v59)=some v60∧
 ∃v61,setE v59 v60 0 1 v57=some v61∧
 ∃v62,binT .add x41 (TV.i .i64 1)=some v62∧
 ∃v63,binT .sub x42 (TV.i .i64 1)=some v63∧
 ∃m13,m13 < n12∧I11 m13 v61 x40 v62 v63)))
theorem sh119 (Q:List TV→TV→Prop) (l0_:List TV) (a1:TV) (a2:TV) (a3:TV) (h:WS119 Q l0_ a1 a2 a3):S119 Q l0_ a1 a2 a3:=by
 refine vsh_of (sh:=sh) (af:=a119) (vc:=v119) (p:=kept [.sl 1,.tr,.tr,.tr]) (np:=4) (by kernel_rfl) (by kernel_rfl) (by kernel_rfl) (by kernel_rfl) (by kernel_rfl) rfl ?_
 refine Eq.mp (?_:WS119 Q l0_ a1 a2 a3=_) h
 kernel_rfl
def v120:VCode:=.seq (.reg r120_0) (.seq (.dreg r120_1 b120_1 []) (.seq (.reg r120_2) (.seq (.block 0 (.loop [.sl 0 1,.tr 1,.tr 10,.tr 11] (.seq (.seq (.dreg r120_3 b120_3 []) (.cond (.t 43) (.skip) (.exit 0))) (.block 1 (.reg r120_4))))) (.seq (.block 2 (.loop [.sl 0 1,.tr 1,.tr 10,.tr 11] (.seq (.seq (.dreg r120_5 b120_5 []) (.cond (.t 60) (.skip) (.exit 2))) (.block 3 (.reg r120_6))))) (.seq (.seq (.reg r120_7) (.cond (.t 65) (.seq (.dreg r120_8 b120_8 []) (.seq (.reg r120_9) (.ret))) (.skip))) (.seq (.dreg r120_10 b120_10 []) (.seq (.reg r120_11) (.seq (.reg r120_12) (.seq (.block 4 (.loop [.sl 0 1,.tr 1,.tr 10,.tr 11] (.block 5 (.seq (.block 6 (.loop [.sl 0 1,.tr 1,.tr 10,.tr 11] (.seq (.seq (.dreg r120_13 b120_13 []) (.cond (.t 112) (.skip) (.exit 6))) (.block 7 (.reg r120_14))))) (.seq (.block 8 (.loop [.sl 0 1,.tr 1,.tr 10,.tr 11] (.seq (.seq (.dreg r120_15 b120_15 []) (.cond (.t 129) (.skip) (.exit 8))) (.block 9 (.reg r120_16))))) (.seq (.seq (.reg r120_17) (.cond (.t 134) (.exit 4) (.skip))) (.seq (.dreg r120_18 b120_18 []) (.seq (.reg r120_19) (.reg r120_20))))))))) (.seq (.dreg r120_21 b120_21 []) (.seq (.reg r120_22) (.ret))))))))))))
def WS120 (Q:List TV→TV→Prop) (l0_:List TV) (a1:TV) (a2:TV) (a3:TV):Prop:=
 ∃v1,ixN a3 (List.length l0_)=some v1∧
 ∃v2,ldE l0_ v1 0 none=some v2∧
 ∃v3,ixN a1 (List.length l0_)=some v3∧
 ∃v4,ldE l0_ v3 0 none=some v4∧
 ∃v5,ixN a1 (List.length l0_)=some v5∧
 ∃v6,setE l0_ v5 0 1 v2=some v6∧
 ∃v7,ixN a3 (List.length v6)=some v7∧
 ∃v8,setE v6 v7 0 1 v4=some v8∧
 ∃v9,binT .add a1 (TV.i .i64 1)=some v9∧
 ∃v10,binT .sub a2 (TV.i .i64 1)=some v10∧
 ∃I11:Nat→List TV→TV→TV→TV→Prop,(∃n12,I11 n12 v8 a1 v9 v10)∧∀n12 l14 x15 x16 x17,I11 n12 l14 x15 x16 x17→
 ∃v18,binT .leq x16 x17=some v18∧
 ∃v19,gV v18 true (fun r=>some x16=some r) v19∧
 gd v18 true v18 true∧∃v20,(v18=.b true→ixN v19 (List.length l14)=some v20)∧
 gd v18 true v18 true∧∃v21,gV v18 true (fun r=>ldE l14 v20 0 none=some r) v21∧
 ∃v22,gV v18 true (fun r=>some x15=some r) v22∧
 gd v18 true v18 true∧∃v23,(v18=.b true→ixN v22 (List.length l14)=some v23)∧
 gd v18 true v18 true∧∃v24,gV v18 true (fun r=>ldE l14 v23 0 none=some r) v24∧
 ∃v25,gV v18 true (fun r=>VS prog 118 [v21,v24] fun r'=>r'=r∧scOk true r) v25∧
 ∃v26,pickT v18 v25 (TV.b false)=some v26∧
 condK v26
 (∃v27,binT .add x16 (TV.i .i64 1)=some v27∧
 ∃m13,m13 < n12∧I11 m13 l14 x15 v27 x17)
 (∃I28:Nat→List TV→TV→TV→TV→Prop,(∃n29,I28 n29 l14 x15 x16 x17)∧∀n29 l31 x32 x33 x34,I28 n29 l31 x32 x33 x34→
 ∃v35,binT .leq x33 x34=some v35∧
 ∃v36,gV v35 true (fun r=>some x34=some r) v36∧
 gd v35 true v35 true∧∃v37,(v35=.b true→ixN v36 (List.length l31)=some v37)∧
 gd v35 true v35 true∧∃v38,gV v35 true (fun r=>ldE l31 v37 0 none=some r) v38∧
 ∃v39,gV v35 true (fun r=>some x32=some r) v39∧
 gd v35 true v35 true∧∃v40,(v35=.b true→ixN v39 (List.length l31)=some v40)∧
 gd v35 true v35 true∧∃v41,gV v35 true (fun r=>ldE l31 v40 0 none=some r) v41∧
 ∃v42,gV v35 true (fun r=>VS prog 118 [v38,v41] fun r'=>r'=r∧scOk true r) v42∧
 ∃v43,gV v35 true (fun r=>unT .not v42=some r) v43∧
 ∃v44,pickT v35 v43 (TV.b false)=some v44∧
 condK v44
 (∃v45,binT .sub x34 (TV.i .i64 1)=some v45∧
 ∃m30,m30 < n29∧I28 m30 l31 x32 x33 v45)
 (∃v46,binT .gtr x33 x34=some v46∧
 condK v46
 (∃v47,ixN x32 (List.length l31)=some v47∧
 ∃v48,ldE l31 v47 0 none=some v48∧
 ∃v49,ixN x34 (List.length l31)=some v49∧
 ∃v50,ldE l31 v49 0 none=some v50∧
 ∃v51,ixN x34 (List.length l31)=some v51∧
 ∃v52,setE l31 v51 0 1 v48=some v52∧
 ∃v53,ixN x32 (List.length v52)=some v53∧
 ∃v54,setE v52 v53 0 1 v50=some v54∧
 True∧noTps [x34,(TV.b true)]∧Q v54 (TV.tp [x34,(TV.b true)]))
 (∃v55,ixN x34 (List.length l31)=some v55∧
 ∃v56,ldE l31 v55 0 none=some v56∧
 ∃v57,ixN x33 (List.length l31)=some v57∧
 ∃v58,ldE l31 v57 0 none=some v58∧
 ∃v59,ixN x33 (List.length l31)=some v59∧
 ∃v60,setE l31 v59 0 1 v56=some v60∧
 ∃v61,ixN x34 (List.length v60)=some v61∧
 ∃v62,setE v60 v61 0 1 v58=some v62∧
 ∃v63,binT .add x33 (TV.i .i64 1)=some v63∧
 ∃v64,binT .sub x34 (TV.i .i64 1)=some v64∧
 ∃I65:Nat→List TV→TV→TV→TV→Prop,(∃n66,I65 n66 v62 x32 v63 v64)∧∀n66 l68 x69 x70 x71,I65 n66 l68 x69 x70 x71→
 ∃I72:Nat→List TV→TV→TV→TV→Prop,(∃n73,I72 n73 l68 x69 x70 x71)∧∀n73 l75 x76 x77 x78,I72 n73 l75 x76 x77 x78→
 ∃v79,binT .leq x77 x78=some v79∧
 ∃v80,gV v79 true (fun r=>some x77=some r) v80∧
 gd v79 true v79 true∧∃v81,(v79=.b true→ixN v80 (List.length l75)=some v81)∧
 gd v79 true v79 true∧∃v82,gV v79 true (fun r=>ldE l75 v81 0 none=some r) v82∧
 ∃v83,gV v79 true (fun r=>some x76=some r) v83∧
 gd v79 true v79 true∧∃v84,(v79=.b true→ixN v83 (List.length l75)=some v84)∧
 gd v79 true v79 true∧∃v85,gV v79 true (fun r=>ldE l75 v84 0 none=some r) v85∧
 ∃v86,gV v79 true (fun r=>VS prog 118 [v82,v85] fun r'=>r'=r∧scOk true r) v86∧
 ∃v87,pickT v79 v86 (TV.b false)=some v87∧
 condK v87
 (∃v88,binT .add x77 (TV.i .i64 1)=some v88∧
 ∃m74,m74 < n73∧I72 m74 l75 x76 v88 x78)
 (∃I89:Nat→List TV→TV→TV→TV→Prop,(∃n90,I89 n90 l75 x76 x77 x78)∧∀n90 l92 x93 x94 x95,I89 n90 l92 x93 x94 x95→
 ∃v96,binT .leq x94 x95=some v96∧
 ∃v97,gV v96 true (fun r=>some x95=some r) v97∧
 gd v96 true v96 true∧∃v98,(v96=.b true→ixN v97 (List.length l92)=some v98)∧
 gd v96 true v96 true∧∃v99,gV v96 true (fun r=>ldE l92 v98 0 none=some r) v99∧
 ∃v100,gV v96 true (fun r=>some x93=some r) v100∧
 gd v96 true v96 true∧∃v101,(v96=.b true→ixN v100 (List.length l92)=some v101)∧
 gd v96 true v96 true∧∃v102,gV v96 true (fun r=>ldE l92 v101 0 none=some r) v102∧
 ∃v103,gV v96 true (fun r=>VS prog 118 [v99,v102] fun r'=>r'=r∧scOk true r) v103∧
 ∃v104,gV v96 true (fun r=>unT .not v103=some r) v104∧
 ∃v105,pickT v96 v104 (TV.b false)=some v105∧
 condK v105
 (∃v106,binT .sub x95 (TV.i .i64 1)=some v106∧
 ∃m91,m91 < n90∧I89 m91 l92 x93 x94 v106)
 (∃v107,binT .gtr x94 x95=some v107∧
 condK v107
 (∃v108,ixN x93 (List.length l92)=some v108∧
 ∃v109,ldE l92 v108 0 none=some v109∧
 ∃v110,ixN x95 (List.length l92)=some v110∧
 ∃v111,ldE l92 v110 0 none=some v111∧
 ∃v112,ixN x95 (List.length l92)=some v112∧
 ∃v113,setE l92 v112 0 1 v109=some v113∧
 ∃v114,ixN x93 (List.length v113)=some v114∧
 ∃v115,setE v113 v114 0 1 v111=some v115∧
 True∧noTps [x95,(TV.b false)]∧Q v115 (TV.tp [x95,(TV.b false)]))
 (∃v116,ixN x95 (List.length l92)=some v116∧
 ∃v117,ldE l92 v116 0 none=some v117∧
 ∃v118,ixN x94 (List.length l92)=some v118∧
 ∃v119,ldE l92 v118 0 none=some v119∧
 ∃v120,ixN x94 (List.length l92)=some v120∧
 ∃v121,setE l92 v120 0 1 v117=some v121∧
 ∃v122,ixN x95 (List.length v121)=some v122∧
 ∃v123,setE v121 v122 0 1 v119=some v123∧
 ∃v124,binT .add x94 (TV.i .i64 1)=some v124∧
 ∃v125,binT .sub x95 (TV.i .i64 1)=some v125∧
 ∃m67,m67 < n66∧I65 m67 v123 x93 v124 v125))))))
theorem sh120 (Q:List TV→TV→Prop) (l0_:List TV) (a1:TV) (a2:TV) (a3:TV) (h:WS120 Q l0_ a1 a2 a3):S120 Q l0_ a1 a2 a3:=by
 refine vsh_of (sh:=sh) (af:=a120) (vc:=v120) (p:=kept [.sl 1,.tr,.tr,.tr]) (np:=4) (by kernel_rfl) (by kernel_rfl) (by kernel_rfl) (by kernel_rfl) (by kernel_rfl) rfl ?_
 refine Eq.mp (?_:WS120 Q l0_ a1 a2 a3=_) h
 kernel_rfl
def v150:VCode:=.seq (.reg r150_0) (.block 0 (.loop [.sl 0 1,.tr 2,.tr 3,.tr 8] (.block 1 (.seq (.reg r150_1) (.seq (.seq (.reg r150_2) (.cond (.t 16) (.exit 0) (.skip))) (.seq (.seq (.dreg r150_3 b150_3 []) (.cond (.t 36) (.reg r150_4) (.skip))) (.seq (.seq (.dreg r150_5 b150_5 []) (.cond (.t 52) (.ret) (.skip))) (.seq (.dreg r150_6 b150_6 []) (.reg r150_7)))))))))
def WS150 (Q:List TV→TV→Prop) (l0_:List TV) (a1:TV) (a2:TV) (a3:TV):Prop:=
 ∃I1:Nat→List TV→TV→TV→TV→Prop,(∃n2,I1 n2 l0_ a2 a3 a1)∧∀n2 l4 x5 x6 x7,I1 n2 l4 x5 x6 x7→
 ∃v8,binT .mul (TV.i .i64 2) x7=some v8∧
 ∃v9,binT .add v8 (TV.i .i64 1)=some v9∧
 ∃v10,binT .geq v9 x5=some v10∧
 condK v10
 (True∧noTps []∧Q l4 (TV.tp []))
 (∃v11,binT .add v9 (TV.i .i64 1)=some v11∧
 ∃v12,binT .lss v11 x5=some v12∧
 ∃v13,gV v12 true (fun r=>some x6=some r) v13∧
 ∃v14,gV v12 true (fun r=>some v9=some r) v14∧
 ∃v15,gV v12 true (fun r=>binT .add v13 v14=some r) v15∧
 gd v12 true v12 true∧∃v16,(v12=.b true→ixN v15 (List.length l4)=some v16)∧
 gd v12 true v12 true∧∃v17,gV v12 true (fun r=>ldE l4 v16 0 none=some r) v17∧
 ∃v18,gV v12 true (fun r=>some x6=some r) v18∧
 ∃v19,gV v12 true (fun r=>some v9=some r) v19∧
 ∃v20,gV v12 true (fun r=>binT .add v18 v19=some r) v20∧
 ∃v21,gV v12 true (fun r=>binT .add v20 (TV.i .i64 1)=some r) v21∧
 gd v12 true v12 true∧∃v22,(v12=.b true→ixN v21 (List.length l4)=some v22)∧
 gd v12 true v12 true∧∃v23,gV v12 true (fun r=>ldE l4 v22 0 none=some r) v23∧
 ∃v24,gV v12 true (fun r=>VS prog 118 [v17,v23] fun r'=>r'=r∧scOk true r) v24∧
 ∃v25,pickT v12 v24 (TV.b false)=some v25∧
 condK v25
 (∃v26,binT .add v9 (TV.i .i64 1)=some v26∧
 ∃v27,binT .add x6 x7=some v27∧
 ∃v28,ixN v27 (List.length l4)=some v28∧
 ∃v29,ldE l4 v28 0 none=some v29∧
 ∃v30,binT .add x6 v26=some v30∧
 ∃v31,ixN v30 (List.length l4)=some v31∧
 ∃v32,ldE l4 v31 0 none=some v32∧
 VS prog 118 [v29,v32] fun r33=>scOk true r33∧
 ∃v34,unT .not r33=some v34∧
 condK v34
 (True∧noTps []∧Q l4 (TV.tp []))
 (∃v35,binT .add x6 x7=some v35∧
 ∃v36,binT .add x6 v26=some v36∧
 ∃v37,binT .add x6 v26=some v37∧
 ∃v38,ixN v37 (List.length l4)=some v38∧
 ∃v39,ldE l4 v38 0 none=some v39∧
 ∃v40,binT .add x6 x7=some v40∧
 ∃v41,ixN v40 (List.length l4)=some v41∧
 ∃v42,ldE l4 v41 0 none=some v42∧
 ∃v43,ixN v35 (List.length l4)=some v43∧
 ∃v44,setE l4 v43 0 1 v39=some v44∧
 ∃v45,ixN v36 (List.length v44)=some v45∧
 ∃v46,setE v44 v45 0 1 v42=some v46∧
 ∃m3,m3 < n2∧I1 m3 v46 x5 x6 v26))
 (∃v47,binT .add x6 x7=some v47∧
 ∃v48,ixN v47 (List.length l4)=some v48∧
 ∃v49,ldE l4 v48 0 none=some v49∧
 ∃v50,binT .add x6 v9=some v50∧
 ∃v51,ixN v50 (List.length l4)=some v51∧
 ∃v52,ldE l4 v51 0 none=some v52∧
 VS prog 118 [v49,v52] fun r53=>scOk true r53∧
 ∃v54,unT .not r53=some v54∧
 condK v54
 (True∧noTps []∧Q l4 (TV.tp []))
 (∃v55,binT .add x6 x7=some v55∧
 ∃v56,binT .add x6 v9=some v56∧
 ∃v57,binT .add x6 v9=some v57∧
 ∃v58,ixN v57 (List.length l4)=some v58∧
 ∃v59,ldE l4 v58 0 none=some v59∧
 ∃v60,binT .add x6 x7=some v60∧
 ∃v61,ixN v60 (List.length l4)=some v61∧
 ∃v62,ldE l4 v61 0 none=some v62∧
 ∃v63,ixN v55 (List.length l4)=some v63∧
 ∃v64,setE l4 v63 0 1 v59=some v64∧
 ∃v65,ixN v56 (List.length v64)=some v65∧
 ∃v66,setE v64 v65 0 1 v62=some v66∧
 ∃m3,m3 < n2∧I1 m3 v66 x5 x6 v9)))
theorem sh150 (Q:List TV→TV→Prop) (l0_:List TV) (a1:TV) (a2:TV) (a3:TV) (h:WS150 Q l0_ a1 a2 a3):S150 Q l0_ a1 a2 a3:=by
 refine vsh_of (sh:=sh) (af:=a150) (vc:=v150) (p:=kept [.sl 1,.tr,.tr,.tr]) (np:=4) (by kernel_rfl) (by kernel_rfl) (by kernel_rfl) (by kernel_rfl) (by kernel_rfl) rfl ?_
 refine Eq.mp (?_:WS150 Q l0_ a1 a2 a3=_) h
 kernel_rfl
def v152:VCode:=.seq (.reg r152_0) (.seq (.dreg r152_1 b152_1 []) (.seq (.dreg r152_2 b152_2 []) (.seq (.dreg r152_3 b152_3 []) (.seq (.reg r152_4) (.ret)))))
def WS152 (Q:TV→TV→Prop) (o0_:TV):Prop:=
 ∃v1,cellT o0_ 0=some v1∧
 ∃v2,cellT o0_ 0=some v2∧
 ∃v3,binT .shl v2 (TV.i .u64 13)=some v3∧
 ∃v4,binT .xor v1 v3=some v4∧
 ∃v5,putT o0_ 0 1 v4=some v5∧
 ∃v6,cellT v5 0=some v6∧
 ∃v7,cellT v5 0=some v7∧
 ∃v8,binT .shr v7 (TV.i .u64 7)=some v8∧
 ∃v9,binT .xor v6 v8=some v9∧
 ∃v10,putT v5 0 1 v9=some v10∧
 ∃v11,cellT v10 0=some v11∧
 ∃v12,cellT v10 0=some v12∧
 ∃v13,binT .shl v12 (TV.i .u64 17)=some v13∧
 ∃v14,binT .xor v11 v13=some v14∧
 ∃v15,putT v10 0 1 v14=some v15∧
 ∃v16,cellT v15 0=some v16∧
 True∧Q v15 v16
theorem sh152 (Q:TV→TV→Prop) (o0_:TV) (h:WS152 Q o0_):S152 Q o0_:=by
 refine vsh_of (sh:=sh) (af:=a152) (vc:=v152) (p:=kept [.ob []]) (np:=1) (by kernel_rfl) (by kernel_rfl) (by kernel_rfl) (by kernel_rfl) (by kernel_rfl) rfl ?_
 refine Eq.mp (?_:WS152 Q o0_=_) h
 kernel_rfl
def v153:VCode:=.seq (.reg r153_0) (.seq (.reg r153_1) (.ret))
def WS153 (Q:List TV→TV→TV→Prop) (l0_:List TV) (a1:TV) (o2_:TV):Prop:=
 ∃v1,binT .sub a1 (TV.i .i64 1)=some v1∧
 ∃v2,binT .add a1 (TV.i .i64 1)=some v2∧
 S154 (fun (l3:List TV) (o4:TV) (r5:TV)=>
 True∧Q l3 o4 r5)
 l0_ v1 a1 v2 o2_
theorem sh153 (Q:List TV→TV→TV→Prop) (l0_:List TV) (a1:TV) (o2_:TV) (h:WS153 Q l0_ a1 o2_):S153 Q l0_ a1 o2_:=by
 refine vsh_of (sh:=sh) (af:=a153) (vc:=v153) (p:=kept [.sl 1,.tr,.ob []]) (np:=3) (by kernel_rfl) (by kernel_rfl) (by kernel_rfl) (by kernel_rfl) (by kernel_rfl) rfl ?_
 refine Eq.mp (?_:WS153 Q l0_ a1 o2_=_) h
 kernel_rfl
def v154:VCode:=.seq (.reg r154_0) (.seq (.reg r154_1) (.seq (.reg r154_2) (.seq (.reg r154_3) (.seq (.reg r154_4) (.ret)))))
def WS154 (Q:List TV→TV→TV→Prop) (l0_:List TV) (a1:TV) (a2:TV) (a3:TV) (o4_:TV):Prop:=
 S167 (fun (l1:List TV) (o2:TV) (r3:TV)=>
 ∃v4,extT 0 r3=some v4∧
 ∃v5,extT 1 r3=some v5∧
 S167 (fun (l6:List TV) (o7:TV) (r8:TV)=>
 ∃v9,extT 0 r8=some v9∧
 ∃v10,extT 1 r8=some v10∧
 S167 (fun (l11:List TV) (o12:TV) (r13:TV)=>
 ∃v14,extT 0 r13=some v14∧
 ∃v15,extT 1 r13=some v15∧
 True∧Q l11 o12 v15)
 l6 v4 v9 o7)
 l1 v5 a3 o2)
 l0_ a1 a2 o4_
theorem sh154 (Q:List TV→TV→TV→Prop) (l0_:List TV) (a1:TV) (a2:TV) (a3:TV) (o4_:TV) (h:WS154 Q l0_ a1 a2 a3 o4_):S154 Q l0_ a1 a2 a3 o4_:=by
 refine vsh_of (sh:=sh) (af:=a154) (vc:=v154) (p:=kept [.sl 1,.tr,.tr,.tr,.ob []]) (np:=5) (by kernel_rfl) (by kernel_rfl) (by kernel_rfl) (by kernel_rfl) (by kernel_rfl) rfl ?_
 refine Eq.mp (?_:WS154 Q l0_ a1 a2 a3 o4_=_) h
 kernel_rfl
def v167:VCode:=.seq (.reg r167_0) (.seq (.seq (.dreg r167_1 b167_1 []) (.cond (.t 18) (.seq (.reg r167_2) (.seq (.reg r167_3) (.ret))) (.skip))) (.seq (.reg r167_4) (.ret)))
def WS167 (Q:List TV→TV→TV→Prop) (l0_:List TV) (a1:TV) (a2:TV) (o3_:TV):Prop:=
 ∃v1,ixN a2 (List.length l0_)=some v1∧
 ∃v2,ldE l0_ v1 0 none=some v2∧
 ∃v3,ixN a1 (List.length l0_)=some v3∧
 ∃v4,ldE l0_ v3 0 none=some v4∧
 VS prog 118 [v2,v4] fun r5=>scOk true r5∧
 condK r5
 (∃v6,cellT o3_ 0=some v6∧
 ∃v7,binT .add v6 (TV.i .i64 1)=some v7∧
 ∃v8,putT o3_ 0 1 v7=some v8∧
 True∧noTps [a2,a1]∧Q l0_ v8 (TV.tp [a2,a1]))
 (True∧noTps [a1,a2]∧Q l0_ o3_ (TV.tp [a1,a2]))
theorem sh167 (Q:List TV→TV→TV→Prop) (l0_:List TV) (a1:TV) (a2:TV) (o3_:TV) (h:WS167 Q l0_ a1 a2 o3_):S167 Q l0_ a1 a2 o3_:=by
 refine vsh_of (sh:=sh) (af:=a167) (vc:=v167) (p:=kept [.sl 1,.tr,.tr,.ob []]) (np:=4) (by kernel_rfl) (by kernel_rfl) (by kernel_rfl) (by kernel_rfl) (by kernel_rfl) rfl ?_
 refine Eq.mp (?_:WS167 Q l0_ a1 a2 o3_=_) h
 kernel_rfl
end Go.Ax.TryLr
