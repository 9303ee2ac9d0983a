/- What each function asks, over values: printed by a program, each print checked by the kernel. -/
import Derived.Test.YtamgnhdbeecapaaLsIR
import Derived.Test.YtamgnhdbeecapaaV15
import Derived.KernelRfl
set_option linter.unusedVariables false
set_option maxRecDepth 100000
namespace Go.Ax.TryLs
open Go Go.Ax Go.Ax.V

def sgm : Map Sig := .leaf
noncomputable def sh : Sh := ⟨fun f => sgm.get f, VSh prog⟩


/-! jetsam/jetsamlaw07.StepNumbers -/
def v10 : VCode := .seq (.reg r10_0) (.seq (.reg r10_1) (.seq (.reg r10_2) (.seq (.reg r10_3) (.seq (.reg r10_4) (.seq (.reg r10_5) (.seq (.reg r10_6) (.seq (.reg r10_7) (.seq (.reg r10_8) (.seq (.seq (.reg r10_9) (.cond (.t 75) (.seq (.reg r10_10) (.ret)) (.skip))) (.seq (.seq (.reg r10_11) (.cond (.t 77) (.seq (.reg r10_12) (.ret)) (.skip))) (.seq (.seq (.reg r10_13) (.cond (.t 97) (.seq (.reg r10_14) (.ret)) (.skip))) (.seq (.reg r10_15) (.ret)))))))))))))
def W10 (a0 a1 : TV) (Q : TV → Prop) : Prop :=
  ∃ v1 : TV, convT .i64 a0 = some v1 ∧
  ∃ v2 : TV, convT .i64 a1 = some v2 ∧
  (Nat.beq 0 (0 * 1) && Nat.beq 1 1) = true ∧ szOk 1 v1 ∧
  (Nat.beq 1 (1 * 1) && Nat.beq 1 1) = true ∧ szOk 1 v2 ∧
  VS prog 42 [(TV.i .i64 7)] fun r3 => scOk true r3 ∧
  ∃ v4 : TV, putT (TV.a [(TV.i .i64 0), (TV.i .i64 0), (TV.i .i64 0), (TV.l [])]) 0 4 r3 = some v4 ∧
  ∃ v5 : TV, subT v4 0 4 = some v5 ∧
  VS prog 35 [v5, (TV.l [v1, v2])] fun r6 => scOk true r6 ∧
  ∃ v7 : TV, extT 0 r6 = some v7 ∧
  ∃ v8 : TV, extT 1 r6 = some v8 ∧
  ∃ v9 : TV, putT v4 0 1 (TV.i .i64 8) = some v9 ∧
  ∃ v10 : TV, subT v9 0 4 = some v10 ∧
  VS prog 35 [v10, (TV.l [v1, v2])] fun r11 => scOk true r11 ∧
  ∃ v12 : TV, extT 0 r11 = some v12 ∧
  ∃ v13 : TV, extT 1 r11 = some v13 ∧
  ∃ v14 : TV, putT v9 0 1 (TV.i .i64 6) = some v14 ∧
  ∃ v15 : TV, subT v14 0 4 = some v15 ∧
  VS prog 35 [v15, (TV.l [v1, v2])] fun r16 => scOk true r16 ∧
  ∃ v17 : TV, extT 0 r16 = some v17 ∧
  ∃ v18 : TV, extT 1 r16 = some v18 ∧
  VS prog 38 [] fun r19 => scOk true r19 ∧
  ∃ v20 : TV, unT .not r19 = some v20 ∧
  ∃ v21 : TV, gV v20 false (fun r => some v17 = some r) v21 ∧
  ∃ v22 : TV, gV v20 false (fun r => some v1 = some r) v22 ∧
  ∃ v23 : TV, gV v20 false (fun r => some v2 = some r) v23 ∧
  ∃ v24 : TV, gV v20 false (fun r => binT .mul v22 v23 = some r) v24 ∧
  ∃ v25 : TV, gV v20 false (fun r => binT .neq v21 v24 = some r) v25 ∧
  ∃ v26 : TV, gV v20 false (fun r => some v25 = some r) v26 ∧
  ∃ v27 : TV, gV v26 false (fun r => some v18 = some r) v27 ∧
  ∃ v28 : TV, gV v26 false (fun r => binT .neq v27 (TV.i .i64 0) = some r) v28 ∧
  ∃ v29 : TV, gV v20 false (fun r => pickT v26 (TV.b true) v28 = some r) v29 ∧
  ∃ v30 : TV, gV v20 false (fun r => some v29 = some r) v30 ∧
  ∃ v31 : TV, gV v30 true (fun r => some v18 = some r) v31 ∧
  ∃ v32 : TV, gV v30 true (fun r => binT .neq v31 (TV.i .i64 2) = some r) v32 ∧
  ∃ v33 : TV, gV v30 true (fun r => some v32 = some r) v33 ∧
  ∃ v34 : TV, gV v33 false (fun r => some v17 = some r) v34 ∧
  ∃ v35 : TV, gV v33 false (fun r => binT .neq v34 (TV.i .i64 0) = some r) v35 ∧
  ∃ v36 : TV, gV v30 true (fun r => pickT v33 (TV.b true) v35 = some r) v36 ∧
  ∃ v37 : TV, gV v30 true (fun r => some v36 = some r) v37 ∧
  ∃ v38 : TV, gV v37 false (fun r => some v1 = some r) v38 ∧
  ∃ v39 : TV, gV v37 false (fun r => some v2 = some r) v39 ∧
  ∃ v40 : TV, gV v37 false (fun r => binT .mul v38 v39 = some r) v40 ∧
  ∃ v41 : TV, gV v37 false (fun r => binT .geq v40 (TV.i .i64 (-2147483648)) = some r) v41 ∧
  ∃ v42 : TV, gV v37 false (fun r => some v41 = some r) v42 ∧
  ∃ v43 : TV, gV v42 true (fun r => some v1 = some r) v43 ∧
  ∃ v44 : TV, gV v42 true (fun r => some v2 = some r) v44 ∧
  ∃ v45 : TV, gV v42 true (fun r => binT .mul v43 v44 = some r) v45 ∧
  ∃ v46 : TV, gV v42 true (fun r => binT .leq v45 (TV.i .i64 2147483647) = some r) v46 ∧
  ∃ v47 : TV, gV v37 false (fun r => pickT v42 v46 (TV.b false) = some r) v47 ∧
  ∃ v48 : TV, gV v30 true (fun r => pickT v37 (TV.b true) v47 = some r) v48 ∧
  ∃ v49 : TV, gV v20 false (fun r => pickT v30 v48 (TV.b false) = some r) v49 ∧
  ∃ v50 : TV, pickT v20 (TV.b true) v49 = some v50 ∧
  condK v50
  (True ∧ tupOk [(TV.b false)] ∧ Q (TV.b false))
  (∃ v51 : TV, binT .eql v2 (TV.i .i64 0) = some v51 ∧
    condK v51
    (∃ v52 : TV, binT .eql v8 (TV.i .i64 3) = some v52 ∧
      ∃ v53 : TV, gV v52 true (fun r => some v13 = some r) v53 ∧
      ∃ v54 : TV, gV v52 true (fun r => binT .eql v53 (TV.i .i64 3) = some r) v54 ∧
      ∃ v55 : TV, pickT v52 v54 (TV.b false) = some v55 ∧
      ∃ v56 : TV, gV v55 true (fun r => some v7 = some r) v56 ∧
      ∃ v57 : TV, gV v55 true (fun r => binT .eql v56 (TV.i .i64 0) = some r) v57 ∧
      ∃ v58 : TV, pickT v55 v57 (TV.b false) = some v58 ∧
      ∃ v59 : TV, gV v58 true (fun r => some v12 = some r) v59 ∧
      ∃ v60 : TV, gV v58 true (fun r => binT .eql v59 (TV.i .i64 0) = some r) v60 ∧
      ∃ v61 : TV, pickT v58 v60 (TV.b false) = some v61 ∧
      True ∧ tupOk [v61] ∧ Q v61)
    (∃ v62 : TV, binT .eql v1 (TV.i .i64 (-2147483648)) = some v62 ∧
      ∃ v63 : TV, gV v62 true (fun r => some v2 = some r) v63 ∧
      ∃ v64 : TV, gV v62 true (fun r => binT .eql v63 (TV.i .i64 (-1)) = some r) v64 ∧
      ∃ v65 : TV, pickT v62 v64 (TV.b false) = some v65 ∧
      condK v65
      (∃ v66 : TV, binT .eql v8 (TV.i .i64 2) = some v66 ∧
        ∃ v67 : TV, gV v66 true (fun r => some v13 = some r) v67 ∧
        ∃ v68 : TV, gV v66 true (fun r => binT .eql v67 (TV.i .i64 0) = some r) v68 ∧
        ∃ v69 : TV, pickT v66 v68 (TV.b false) = some v69 ∧
        ∃ v70 : TV, gV v69 true (fun r => some v12 = some r) v70 ∧
        ∃ v71 : TV, gV v69 true (fun r => binT .eql v70 (TV.i .i64 0) = some r) v71 ∧
        ∃ v72 : TV, pickT v69 v71 (TV.b false) = some v72 ∧
        True ∧ tupOk [v72] ∧ Q v72)
      (∃ v73 : TV, binT .eql v8 (TV.i .i64 0) = some v73 ∧
        ∃ v74 : TV, gV v73 true (fun r => some v13 = some r) v74 ∧
        ∃ v75 : TV, gV v73 true (fun r => binT .eql v74 (TV.i .i64 0) = some r) v75 ∧
        ∃ v76 : TV, pickT v73 v75 (TV.b false) = some v76 ∧
        ∃ v77 : TV, gV v76 true (fun r => some v7 = some r) v77 ∧
        ∃ v78 : TV, gV v76 true (fun r => some v2 = some r) v78 ∧
        ∃ v79 : TV, gV v76 true (fun r => binT .mul v77 v78 = some r) v79 ∧
        ∃ v80 : TV, gV v76 true (fun r => some v12 = some r) v80 ∧
        ∃ v81 : TV, gV v76 true (fun r => binT .add v79 v80 = some r) v81 ∧
        ∃ v82 : TV, gV v76 true (fun r => some v1 = some r) v82 ∧
        ∃ v83 : TV, gV v76 true (fun r => binT .eql v81 v82 = some r) v83 ∧
        ∃ v84 : TV, pickT v76 v83 (TV.b false) = some v84 ∧
        ∃ v85 : TV, gV v84 true (fun r => some v12 = some r) v85 ∧
        ∃ v86 : TV, gV v84 true (fun r => some v12 = some r) v86 ∧
        ∃ v87 : TV, gV v84 true (fun r => binT .mul v85 v86 = some r) v87 ∧
        ∃ v88 : TV, gV v84 true (fun r => some v2 = some r) v88 ∧
        ∃ v89 : TV, gV v84 true (fun r => some v2 = some r) v89 ∧
        ∃ v90 : TV, gV v84 true (fun r => binT .mul v88 v89 = some r) v90 ∧
        ∃ v91 : TV, gV v84 true (fun r => binT .lss v87 v90 = some r) v91 ∧
        ∃ v92 : TV, pickT v84 v91 (TV.b false) = some v92 ∧
        ∃ v93 : TV, gV v92 true (fun r => some v12 = some r) v93 ∧
        ∃ v94 : TV, gV v92 true (fun r => binT .eql v93 (TV.i .i64 0) = some r) v94 ∧
        ∃ v95 : TV, gV v92 true (fun r => some v94 = some r) v95 ∧
        ∃ v96 : TV, gV v95 false (fun r => some v12 = some r) v96 ∧
        ∃ v97 : TV, gV v95 false (fun r => binT .lss v96 (TV.i .i64 0) = some r) v97 ∧
        ∃ v98 : TV, gV v95 false (fun r => some v1 = some r) v98 ∧
        ∃ v99 : TV, gV v95 false (fun r => binT .lss v98 (TV.i .i64 0) = some r) v99 ∧
        ∃ v100 : TV, gV v95 false (fun r => eqT (.one .bool) false v97 v99 = some r) v100 ∧
        ∃ v101 : TV, gV v92 true (fun r => pickT v95 (TV.b true) v100 = some r) v101 ∧
        ∃ v102 : TV, pickT v92 v101 (TV.b false) = some v102 ∧
        True ∧ tupOk [v102] ∧ Q v102)))
theorem vs10 (a0 a1 : TV) (Q : TV → Prop) (h : W10 a0 a1 Q) : VS prog 10 [a0, a1] Q := vs_of (sh := sh) (af := a10) (vc := v10) (by kernel_rfl) (by kernel_rfl) (by kernel_rfl) (by kernel_rfl) rfl ((show W10 a0 a1 Q = evFn sh prog a10 v10 [a0, a1] Q by kernel_rfl) ▸ h)

/-! jetsam/jetsamlaw07.pair -/
def v42 : VCode := .seq (.reg r42_0) (.seq (.reg r42_1) (.ret))
def W42 (a0 : TV) (Q : TV → Prop) : Prop :=
  ∃ v1 : TV, putT (TV.a [(TV.i .i64 0), (TV.i .i64 0), (TV.i .i64 0), (TV.l [])]) 0 1 (TV.i .i64 2) = some v1 ∧
  ∃ v2 : TV, putT (TV.a [(TV.i .i64 0), (TV.i .i64 0), (TV.i .i64 0), (TV.l [])]) 0 1 (TV.i .i64 2) = some v2 ∧
  ∃ v3 : TV, putT v2 2 1 (TV.i .i64 1) = some v3 ∧
  (Nat.beq 0 (0 * 4) && Nat.beq 4 4) = true ∧ true = true ∧ ∃ v4 : TV, putT v1 3 1 (TV.l []) = some v4 ∧
  szOk 4 v4 ∧
  (Nat.beq 4 (1 * 4) && Nat.beq 4 4) = true ∧ true = true ∧ ∃ v5 : TV, putT v3 3 1 (TV.l []) = some v5 ∧
  szOk 4 v5 ∧
  ∃ v6 : TV, putT (TV.a [(TV.i .i64 0), (TV.i .i64 0), (TV.i .i64 0), (TV.l [])]) 0 1 a0 = some v6 ∧
  ∃ v7 : TV, putT v6 3 1 (TV.l [v4, v5]) = some v7 ∧
  ∃ v8 : TV, putT (TV.a [(TV.i .i64 0), (TV.i .i64 0), (TV.i .i64 0), (TV.l [])]) 0 4 v7 = some v8 ∧
  True ∧ ∃ v9 : TV, subT v8 0 4 = some v9 ∧
  tupOk [v9] ∧ Q v9
theorem vs42 (a0 : TV) (Q : TV → Prop) (h : W42 a0 Q) : VS prog 42 [a0] Q := vs_of (sh := sh) (af := a42) (vc := v42) (by kernel_rfl) (by kernel_rfl) (by kernel_rfl) (by kernel_rfl) rfl ((show W42 a0 Q = evFn sh prog a42 v42 [a0] Q by kernel_rfl) ▸ h)

/-! jetsam/step.Eval -/
def v35 : VCode := .seq (.reg r35_0) (.seq (.reg r35_1) (.seq (.block 0 (.seq (.reg r35_2) (.cond (.t 14) (.seq (.reg r35_3) (.ret)) (.seq (.reg r35_4) (.cond (.t 18) (.seq (.reg r35_5) (.ret)) (.skip)))))) (.seq (.reg r35_6) (.ret))))
def W35 (a0 a1 : TV) (Q : TV → Prop) : Prop :=
  TV.isTp a0 = false ∧
  ∃ v1 : TV, subT a0 0 4 = some v1 ∧
  VS prog 58 [v1, a1] fun r2 => scOk true r2 ∧
  ∃ v3 : TV, extT 0 r2 = some v3 ∧
  ∃ v4 : TV, extT 1 r2 = some v4 ∧
  ∃ v5 : TV, binT .neq v4 (TV.i .i64 0) = some v5 ∧
  condK v5
  (True ∧ tupOk [(TV.i .i64 0), v4] ∧ Q (TV.tp [(TV.i .i64 0), v4]))
  (∃ v6 : TV, binT .lss v3 (TV.i .i64 (-2147483648)) = some v6 ∧
    ∃ v7 : TV, gV v6 false (fun r => some v3 = some r) v7 ∧
    ∃ v8 : TV, gV v6 false (fun r => binT .gtr v7 (TV.i .i64 2147483647) = some r) v8 ∧
    ∃ v9 : TV, pickT v6 (TV.b true) v8 = some v9 ∧
    condK v9
    (True ∧ tupOk [(TV.i .i64 0), (TV.i .i64 2)] ∧ Q (TV.tp [(TV.i .i64 0), (TV.i .i64 2)]))
    (True ∧ tupOk [v3, (TV.i .i64 0)] ∧ Q (TV.tp [v3, (TV.i .i64 0)])))
theorem vs35 (a0 a1 : TV) (Q : TV → Prop) (h : W35 a0 a1 Q) : VS prog 35 [a0, a1] Q := vs_of (sh := sh) (af := a35) (vc := v35) (by kernel_rfl) (by kernel_rfl) (by kernel_rfl) (by kernel_rfl) rfl ((show W35 a0 a1 Q = evFn sh prog a35 v35 [a0, a1] Q by kernel_rfl) ▸ h)

/-! jetsam/step.plain -/
def v58 : VCode := .seq (.reg r58_0) (.seq (.block 0 (.seq (.reg r58_1) (.cond (.t 8) (.seq (.reg r58_2) (.ret)) (.seq (.reg r58_3) (.cond (.t 14) (.seq (.reg r58_4) (.ret)) (.seq (.reg r58_5) (.cond (.t 35) (.seq (.reg r58_6) (.seq (.reg r58_7) (.ret))) (.seq (.reg r58_8) (.cond (.t 57) (.seq (.reg r58_9) (.ret)) (.skip)))))))))) (.seq (.reg r58_10) (.ret)))
def W58 (a0 a1 : TV) (Q : TV → Prop) : Prop :=
  TV.isTp a0 = false ∧
  ∃ v1 : TV, cellT a0 0 = some v1 ∧
  ∃ v2 : TV, binT .eql v1 (TV.i .i64 1) = some v2 ∧
  condK v2
  (∃ v3 : TV, cellT a0 1 = some v3 ∧
    True ∧ tupOk [v3, (TV.i .i64 0)] ∧ Q (TV.tp [v3, (TV.i .i64 0)]))
  (∃ v4 : TV, cellT a0 0 = some v4 ∧
    ∃ v5 : TV, binT .eql v4 (TV.i .i64 2) = some v5 ∧
    ((v5, true) = ((v5, true) : TV × Bool) ∧ ∃ v6 : TV, gV v5 true (fun r => cellT a0 2 = some r) v6 ∧
    ∃ v7 : TV, gV v5 true (fun r => binT .geq v6 (TV.i .i64 0) = some r) v7 ∧
    ∃ v8 : TV, pickT v5 v7 (TV.b false) = some v8 ∧
    ((v8, true) = ((v8, true) : TV × Bool) ∧ ∃ v9 : TV, gV v8 true (fun r => cellT a0 2 = some r) v9 ∧
    ∃ v10 : TV, gV v8 true (fun r => some a1 = some r) v10 ∧
    ∃ v11 : TV, gV v8 true (fun r => lenT v10 = some r) v11 ∧
    ∃ v12 : TV, gV v8 true (fun r => binT .lss v9 v11 = some r) v12 ∧
    ∃ v13 : TV, pickT v8 v12 (TV.b false) = some v13 ∧
    condK v13
    (∃ v14 : TV, cellT a0 2 = some v14 ∧
      ∃ v15 : TV, (idxT a1 v14 = some v15 ∧ szOk 1 v15) ∧
      ∃ v16 : TV, ldT v15 0 none = some v16 ∧
      True ∧ tupOk [v16, (TV.i .i64 0)] ∧ Q (TV.tp [v16, (TV.i .i64 0)]))
    (∃ v17 : TV, cellT a0 0 = some v17 ∧
      ∃ v18 : TV, binT .eql v17 (TV.i .i64 3) = some v18 ∧
      ((v18, true) = ((v18, true) : TV × Bool) ∧ ∃ v19 : TV, gV v18 true (fun r => cellT a0 3 = some r) v19 ∧
      ∃ v20 : TV, gV v18 true (fun r => lenT v19 = some r) v20 ∧
      ∃ v21 : TV, gV v18 true (fun r => binT .eql v20 (TV.i .i64 1) = some r) v21 ∧
      ∃ v22 : TV, pickT v18 v21 (TV.b false) = some v22 ∧
      condK v22
      (∃ v23 : TV, cellT a0 3 = some v23 ∧
        ∃ v24 : TV, (idxT v23 (TV.i .i64 0) = some v24 ∧ szOk 4 v24) ∧
        ∃ v25 : TV, ldT v24 0 (some 4) = some v25 ∧
        VS prog 35 [v25, a1] fun r26 => scOk true r26 ∧
        ∃ v27 : TV, extT 0 r26 = some v27 ∧
        ∃ v28 : TV, extT 1 r26 = some v28 ∧
        ∃ v29 : TV, unT .neg v27 = some v29 ∧
        True ∧ tupOk [v29, v28] ∧ Q (TV.tp [v29, v28]))
      (∃ v30 : TV, cellT a0 0 = some v30 ∧
        ∃ v31 : TV, binT .geq v30 (TV.i .i64 4) = some v31 ∧
        ((v31, true) = ((v31, true) : TV × Bool) ∧ ∃ v32 : TV, gV v31 true (fun r => cellT a0 0 = some r) v32 ∧
        ∃ v33 : TV, gV v31 true (fun r => binT .leq v32 (TV.i .i64 8) = some r) v33 ∧
        ∃ v34 : TV, pickT v31 v33 (TV.b false) = some v34 ∧
        ((v34, true) = ((v34, true) : TV × Bool) ∧ ∃ v35 : TV, gV v34 true (fun r => cellT a0 3 = some r) v35 ∧
        ∃ v36 : TV, gV v34 true (fun r => lenT v35 = some r) v36 ∧
        ∃ v37 : TV, gV v34 true (fun r => binT .eql v36 (TV.i .i64 2) = some r) v37 ∧
        ∃ v38 : TV, pickT v34 v37 (TV.b false) = some v38 ∧
        condK v38
        (∃ v39 : TV, subT a0 0 4 = some v39 ∧
          VS prog 80 [v39, a1] fun r40 => scOk true r40 ∧
          ∃ v41 : TV, extT 0 r40 = some v41 ∧
          ∃ v42 : TV, extT 1 r40 = some v42 ∧
          True ∧ tupOk [v41, v42] ∧ Q (TV.tp [v41, v42]))
        (True ∧ tupOk [(TV.i .i64 0), (TV.i .i64 0)] ∧ Q (TV.tp [(TV.i .i64 0), (TV.i .i64 0)]))))))))))
theorem vs58 (a0 a1 : TV) (Q : TV → Prop) (h : W58 a0 a1 Q) : VS prog 58 [a0, a1] Q := vs_of (sh := sh) (af := a58) (vc := v58) (by kernel_rfl) (by kernel_rfl) (by kernel_rfl) (by kernel_rfl) rfl ((show W58 a0 a1 Q = evFn sh prog a58 v58 [a0, a1] Q by kernel_rfl) ▸ h)

/-! jetsam/step.pair -/
def v80 : VCode := .seq (.reg r80_0) (.seq (.reg r80_1) (.seq (.seq (.reg r80_2) (.cond (.t 19) (.seq (.reg r80_3) (.ret)) (.skip))) (.seq (.reg r80_4) (.seq (.seq (.reg r80_5) (.cond (.t 31) (.seq (.reg r80_6) (.ret)) (.skip))) (.seq (.reg r80_7) (.ret))))))
def W80 (a0 a1 : TV) (Q : TV → Prop) : Prop :=
  TV.isTp a0 = false ∧
  ∃ v1 : TV, cellT a0 3 = some v1 ∧
  ∃ v2 : TV, (idxT v1 (TV.i .i64 0) = some v2 ∧ szOk 4 v2) ∧
  ∃ v3 : TV, ldT v2 0 (some 4) = some v3 ∧
  VS prog 35 [v3, a1] fun r4 => scOk true r4 ∧
  ∃ v5 : TV, extT 0 r4 = some v5 ∧
  ∃ v6 : TV, extT 1 r4 = some v6 ∧
  ∃ v7 : TV, binT .neq v6 (TV.i .i64 0) = some v7 ∧
  condK v7
  (True ∧ tupOk [(TV.i .i64 0), v6] ∧ Q (TV.tp [(TV.i .i64 0), v6]))
  (∃ v8 : TV, cellT a0 3 = some v8 ∧
    ∃ v9 : TV, (idxT v8 (TV.i .i64 1) = some v9 ∧ szOk 4 v9) ∧
    ∃ v10 : TV, ldT v9 0 (some 4) = some v10 ∧
    VS prog 35 [v10, a1] fun r11 => scOk true r11 ∧
    ∃ v12 : TV, extT 0 r11 = some v12 ∧
    ∃ v13 : TV, extT 1 r11 = some v13 ∧
    ∃ v14 : TV, binT .neq v13 (TV.i .i64 0) = some v14 ∧
    condK v14
    (True ∧ tupOk [(TV.i .i64 0), v13] ∧ Q (TV.tp [(TV.i .i64 0), v13]))
    (∃ v15 : TV, cellT a0 0 = some v15 ∧
      VS prog 103 [v15, v5, v12] fun r16 => scOk true r16 ∧
      ∃ v17 : TV, extT 0 r16 = some v17 ∧
      ∃ v18 : TV, extT 1 r16 = some v18 ∧
      True ∧ tupOk [v17, v18] ∧ Q (TV.tp [v17, v18])))
theorem vs80 (a0 a1 : TV) (Q : TV → Prop) (h : W80 a0 a1 Q) : VS prog 80 [a0, a1] Q := vs_of (sh := sh) (af := a80) (vc := v80) (by kernel_rfl) (by kernel_rfl) (by kernel_rfl) (by kernel_rfl) rfl ((show W80 a0 a1 Q = evFn sh prog a80 v80 [a0, a1] Q by kernel_rfl) ▸ h)

/-! jetsam/step.two -/
def v103 : VCode := .seq (.reg r103_0) (.seq (.seq (.reg r103_1) (.block 0 (.seq (.reg r103_2) (.cond (.t 9) (.seq (.reg r103_3) (.ret)) (.seq (.reg r103_4) (.cond (.t 14) (.seq (.reg r103_5) (.ret)) (.seq (.reg r103_6) (.cond (.t 19) (.seq (.reg r103_7) (.ret)) (.skip))))))))) (.seq (.block 1 (.seq (.reg r103_8) (.cond (.t 24) (.seq (.reg r103_9) (.ret)) (.seq (.reg r103_10) (.cond (.t 27) (.seq (.reg r103_11) (.ret)) (.skip)))))) (.seq (.reg r103_12) (.ret))))
def W103 (a0 a1 a2 : TV) (Q : TV → Prop) : Prop :=
  ∃ v1 : TV, binT .eql a0 (TV.i .i64 4) = some v1 ∧
  condK v1
  (∃ v2 : TV, binT .add a1 a2 = some v2 ∧
    True ∧ tupOk [v2, (TV.i .i64 0)] ∧ Q (TV.tp [v2, (TV.i .i64 0)]))
  (∃ v3 : TV, binT .eql a0 (TV.i .i64 5) = some v3 ∧
    condK v3
    (∃ v4 : TV, binT .sub a1 a2 = some v4 ∧
      True ∧ tupOk [v4, (TV.i .i64 0)] ∧ Q (TV.tp [v4, (TV.i .i64 0)]))
    (∃ v5 : TV, binT .eql a0 (TV.i .i64 6) = some v5 ∧
      condK v5
      (∃ v6 : TV, binT .mul a1 a2 = some v6 ∧
        True ∧ tupOk [v6, (TV.i .i64 0)] ∧ Q (TV.tp [v6, (TV.i .i64 0)]))
      (∃ v7 : TV, binT .eql a2 (TV.i .i64 0) = some v7 ∧
        condK v7
        (True ∧ tupOk [(TV.i .i64 0), (TV.i .i64 3)] ∧ Q (TV.tp [(TV.i .i64 0), (TV.i .i64 3)]))
        (∃ v8 : TV, binT .eql a0 (TV.i .i64 7) = some v8 ∧
          condK v8
          (∃ v9 : TV, binT .quo a1 a2 = some v9 ∧
            True ∧ tupOk [v9, (TV.i .i64 0)] ∧ Q (TV.tp [v9, (TV.i .i64 0)]))
          (∃ v10 : TV, binT .rem a1 a2 = some v10 ∧
            True ∧ tupOk [v10, (TV.i .i64 0)] ∧ Q (TV.tp [v10, (TV.i .i64 0)]))))))
theorem vs103 (a0 a1 a2 : TV) (Q : TV → Prop) (h : W103 a0 a1 a2 Q) : VS prog 103 [a0, a1, a2] Q := vs_of (sh := sh) (af := a103) (vc := v103) (by kernel_rfl) (by kernel_rfl) (by kernel_rfl) (by kernel_rfl) rfl ((show W103 a0 a1 a2 Q = evFn sh prog a103 v103 [a0, a1, a2] Q by kernel_rfl) ▸ h)

end Go.Ax.TryLs
