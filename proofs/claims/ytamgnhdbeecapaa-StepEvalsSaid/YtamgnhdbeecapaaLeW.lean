/- What each function asks, over values: printed by a program, each print checked by the kernel. -/
import Derived.Test.YtamgnhdbeecapaaLeIR
import Derived.Test.YtamgnhdbeecapaaV16
import Derived.KernelRfl
set_option linter.unusedVariables false
set_option maxRecDepth 100000
namespace Go.Ax.TryLe
open Go Go.Ax Go.Ax.V

def sgm : Map Sig := .leaf
noncomputable def sh : Sh := ⟨fun f => sgm.get f, VSh prog⟩


/-! jetsam/jetsamlaw07.StepEvals -/
def v9 : VCode := .seq (.reg r9_0) (.seq (.reg r9_1) (.seq (.dreg r9_2 b9_2 []) (.seq (.reg r9_3) (.seq (.reg r9_4) (.seq (.seq (.reg r9_5) (.cond (.t 57) (.seq (.reg r9_6) (.ret)) (.skip))) (.seq (.seq (.reg r9_7) (.block 0 (.loop [.ob 3 [], .ob 4 [], .pt 3 3 0, .pt 4 4 0, .tr 6, .tr 7, .tr 12] (.seq (.seq (.reg r9_8) (.cond (.t 59) (.skip) (.exit 0))) (.seq (.block 1 (.seq (.dreg r9_10 b9_10 []) (.seq (.reg r9_11) (.seq (.dreg r9_12 b9_12 []) (.seq (.reg r9_13) (.cond (.t 110) (.seq (.reg r9_14) (.ret)) (.skip))))))) (.reg r9_9)))))) (.seq (.reg r9_15) (.ret))))))))
def W9 (a0 a1 a2 : TV) (Q : TV → Prop) : Prop :=
  TV.isTp a0 = false ∧
  TV.isTp a1 = false ∧
  TV.isTp a2 = false ∧
  ∃ v1 : Nat, ixN (TV.i .i64 0) 3 = some v1 ∧
  ∃ v2 : TV, ldT a2 (0 + v1 * 1) none = some v2 ∧
  ∃ v3 : TV, convT .i64 v2 = some v3 ∧
  ∃ v4 : Nat, ixN (TV.i .i64 1) 3 = some v4 ∧
  ∃ v5 : TV, ldT a2 (0 + v4 * 1) none = some v5 ∧
  ∃ v6 : TV, convT .i64 v5 = some v6 ∧
  ∃ v7 : Nat, ixN (TV.i .i64 2) 3 = some v7 ∧
  ∃ v8 : TV, ldT a2 (0 + v7 * 1) none = some v8 ∧
  ∃ v9 : TV, convT .i64 v8 = some v9 ∧
  (Nat.beq 0 (0 * 1) && Nat.beq 1 1) = true ∧ szOk 1 v3 ∧
  (Nat.beq 1 (1 * 1) && Nat.beq 1 1) = true ∧ szOk 1 v6 ∧
  (Nat.beq 2 (2 * 1) && Nat.beq 1 1) = true ∧ szOk 1 v9 ∧
  ∃ v10 : TV, subT a0 0 4 = some v10 ∧
  VS prog 34 [v10, (TV.i .i64 8)] fun r11 => scOk true r11 ∧
  ∃ v12 : TV, subT a1 0 4 = some v12 ∧
  VS prog 34 [v12, (TV.i .i64 8)] fun r13 => scOk true r13 ∧
  ∃ v14 : TV, putT a0 0 4 r11 = some v14 ∧
  ∃ v15 : TV, putT a1 0 4 r13 = some v15 ∧
  ∃ v16 : TV, subT v14 0 4 = some v16 ∧
  VS prog 36 [v16] fun r17 => scOk true r17 ∧
  VS prog 35 [r17, (TV.l [v3, v6, v9])] fun r18 => scOk true r18 ∧
  ∃ v19 : TV, extT 0 r18 = some v19 ∧
  ∃ v20 : TV, extT 1 r18 = some v20 ∧
  ∃ v21 : TV, subT v14 0 4 = some v21 ∧
  VS prog 37 [v21, (TV.l [v3, v6, v9])] fun r22 => scOk true r22 ∧
  ∃ v23 : TV, extT 0 r22 = some v23 ∧
  ∃ v24 : TV, extT 1 r22 = some v24 ∧
  VS prog 38 [] fun r25 => scOk true r25 ∧
  ∃ v26 : TV, unT .not r25 = some v26 ∧
  ∃ v27 : TV, gV v26 false (fun r => some v19 = some r) v27 ∧
  ∃ v28 : TV, gV v26 false (fun r => some v23 = some r) v28 ∧
  ∃ v29 : TV, gV v26 false (fun r => binT .neq v27 v28 = some r) v29 ∧
  ∃ v30 : TV, pickT v26 (TV.b true) v29 = some v30 ∧
  ∃ v31 : TV, gV v30 false (fun r => some v20 = some r) v31 ∧
  ∃ v32 : TV, gV v30 false (fun r => some v24 = some r) v32 ∧
  ∃ v33 : TV, gV v30 false (fun r => binT .neq v31 v32 = some r) v33 ∧
  ∃ v34 : TV, pickT v30 (TV.b true) v33 = some v34 ∧
  condK v34
  (True ∧ tupOk [(TV.b false)] ∧ Q (TV.b false))
  (∃ I35 : Nat → TV → TV → TV → TV → TV → Prop, (∃ n36, I35 n36 v14 v15 (TV.b false) (TV.l [v3, v6, v9]) (TV.i .i64 1)) ∧ ∀ n36 : Nat,
    ∀ o38 : TV, ∀ o39 : TV, ∀ x40 : TV, ∀ x41 : TV, ∀ x42 : TV, I35 n36 o38 o39 x40 x41 x42 → 
    ∃ v43 : TV, binT .lss x42 (TV.i .i64 7) = some v43 ∧
      condK v43
      (∃ v44 : TV, subT o38 0 4 = some v44 ∧
        VS prog 36 [v44] fun r45 => scOk true r45 ∧
        ∃ v46 : TV, subT o39 0 4 = some v46 ∧
        VS prog 36 [v46] fun r47 => scOk true r47 ∧
        ∃ v48 : TV, putT (TV.a [(TV.i .i64 0), (TV.i .i64 0), (TV.i .i64 0), (TV.i .i64 0), (TV.l []), (TV.i .i64 0), (TV.i .i64 0), (TV.i .i64 0), (TV.l [])]) 0 1 x42 = some v48 ∧
        ∃ v49 : TV, putT v48 1 4 r45 = some v49 ∧
        ∃ v50 : TV, putT v49 5 4 r47 = some v50 ∧
        VS prog 39 [v50, x41] fun r51 => scOk true r51 ∧
        ∃ v52 : TV, extT 0 r51 = some v52 ∧
        ∃ v53 : TV, extT 1 r51 = some v53 ∧
        ∃ v54 : TV, subT o38 0 4 = some v54 ∧
        ∃ v55 : TV, subT o39 0 4 = some v55 ∧
        ∃ v56 : TV, putT (TV.a [(TV.i .i64 0), (TV.i .i64 0), (TV.i .i64 0), (TV.i .i64 0), (TV.l []), (TV.i .i64 0), (TV.i .i64 0), (TV.i .i64 0), (TV.l [])]) 0 1 x42 = some v56 ∧
        ∃ v57 : TV, putT v56 1 4 v54 = some v57 ∧
        ∃ v58 : TV, putT v57 5 4 v55 = some v58 ∧
        VS prog 40 [v58, x41] fun r59 => scOk true r59 ∧
        ∃ v60 : TV, extT 0 r59 = some v60 ∧
        ∃ v61 : TV, extT 1 r59 = some v61 ∧
        VS prog 41 [x42] fun r62 => scOk true r62 ∧
        ∃ v63 : TV, subT o38 0 4 = some v63 ∧
        VS prog 36 [v63] fun r64 => scOk true r64 ∧
        ∃ v65 : TV, subT o39 0 4 = some v65 ∧
        VS prog 36 [v65] fun r66 => scOk true r66 ∧
        ∃ v67 : TV, putT (TV.a [(TV.i .i64 0), (TV.i .i64 0), (TV.i .i64 0), (TV.i .i64 0), (TV.l []), (TV.i .i64 0), (TV.i .i64 0), (TV.i .i64 0), (TV.l [])]) 0 1 r62 = some v67 ∧
        ∃ v68 : TV, putT v67 1 4 r64 = some v68 ∧
        ∃ v69 : TV, putT v68 5 4 r66 = some v69 ∧
        VS prog 39 [v69, x41] fun r70 => scOk true r70 ∧
        ∃ v71 : TV, extT 0 r70 = some v71 ∧
        ∃ v72 : TV, extT 1 r70 = some v72 ∧
        ∃ v73 : TV, eqT (.one .bool) true v52 v60 = some v73 ∧
        ∃ v74 : TV, gV v73 false (fun r => some v53 = some r) v74 ∧
        ∃ v75 : TV, gV v73 false (fun r => some v61 = some r) v75 ∧
        ∃ v76 : TV, gV v73 false (fun r => binT .neq v74 v75 = some r) v76 ∧
        ∃ v77 : TV, pickT v73 (TV.b true) v76 = some v77 ∧
        ∃ v78 : TV, gV v77 false (fun r => some v53 = some r) v78 ∧
        ∃ v79 : TV, gV v77 false (fun r => binT .eql v78 (TV.i .i64 0) = some r) v79 ∧
        ∃ v80 : TV, gV v77 false (fun r => some v79 = some r) v80 ∧
        ∃ v81 : TV, gV v80 true (fun r => some v71 = some r) v81 ∧
        ∃ v82 : TV, gV v80 true (fun r => some v52 = some r) v82 ∧
        ∃ v83 : TV, gV v80 true (fun r => eqT (.one .bool) false v81 v82 = some r) v83 ∧
        ∃ v84 : TV, gV v77 false (fun r => pickT v80 v83 (TV.b false) = some r) v84 ∧
        ∃ v85 : TV, pickT v77 (TV.b true) v84 = some v85 ∧
        condK v85
        (True ∧ tupOk [(TV.b false)] ∧ Q (TV.b false))
        (∃ v86 : TV, binT .add x42 (TV.i .i64 1) = some v86 ∧
          ∃ m37, m37 < n36 ∧ I35 m37 o38 o39 x40 x41 v86))
      (True ∧ tupOk [(TV.b true)] ∧ Q (TV.b true)))
theorem vs9 (a0 a1 a2 : TV) (Q : TV → Prop) (h : W9 a0 a1 a2 Q) : VS prog 9 [a0, a1, a2] Q := vs_of (sh := sh) (af := a9) (vc := v9) (by kernel_rfl) (by kernel_rfl) (by kernel_rfl) (by kernel_rfl) rfl ((show W9 a0 a1 a2 Q = evFn sh prog a9 v9 [a0, a1, a2] Q by kernel_rfl) ▸ h)

/-! jetsam/jetsamlaw07.tame -/
def v34 : VCode := .seq (.reg r34_0) (.seq (.seq (.reg r34_1) (.cond (.t 22) (.seq (.dreg r34_2 b34_2 [(1, 16)]) (.ret)) (.skip))) (.seq (.seq (.reg r34_3) (.cond (.t 53) (.seq (.reg r34_4) (.ret)) (.skip))) (.seq (.seq (.reg r34_5) (.cond (.t 65) (.seq (.reg r34_6) (.ret)) (.skip))) (.seq (.reg r34_7) (.ret)))))
def W34 (a0 a1 : TV) (Q : TV → Prop) : Prop :=
  TV.isTp a0 = false ∧
  ∃ v1 : TV, cellT a0 0 = some v1 ∧
  ∃ v2 : TV, binT .geq v1 (TV.i .i64 4) = some v2 ∧
  ((v2, true) = ((v2, true) : TV × Bool) ∧ ∃ v3 : TV, gV v2 true (fun r => cellT a0 0 = some r) v3 ∧
  ∃ v4 : TV, gV v2 true (fun r => binT .leq v3 (TV.i .i64 8) = some r) v4 ∧
  ∃ v5 : TV, pickT v2 v4 (TV.b false) = some v5 ∧
  ((v5, true) = ((v5, true) : TV × Bool) ∧ ∃ v6 : TV, gV v5 true (fun r => cellT a0 3 = some r) v6 ∧
  ∃ v7 : TV, gV v5 true (fun r => lenT v6 = some r) v7 ∧
  ∃ v8 : TV, gV v5 true (fun r => binT .eql v7 (TV.i .i64 2) = some r) v8 ∧
  ∃ v9 : TV, pickT v5 v8 (TV.b false) = some v9 ∧
  ∃ v10 : TV, gV v9 true (fun r => some a1 = some r) v10 ∧
  ∃ v11 : TV, gV v9 true (fun r => binT .gtr v10 (TV.i .i64 0) = some r) v11 ∧
  ∃ v12 : TV, pickT v9 v11 (TV.b false) = some v12 ∧
  condK v12
  (∃ v13 : TV, cellT a0 0 = some v13 ∧
    ∃ v14 : TV, cellT a0 3 = some v14 ∧
    ∃ v15 : TV, (idxT v14 (TV.i .i64 0) = some v15 ∧ szOk 4 v15) ∧
    ∃ v16 : TV, ldT v15 0 (some 4) = some v16 ∧
    ∃ v17 : TV, binT .sub a1 (TV.i .i64 1) = some v17 ∧
    VS prog 34 [v16, v17] fun r18 => scOk true r18 ∧
    ∃ v19 : TV, cellT a0 3 = some v19 ∧
    ∃ v20 : TV, (idxT v19 (TV.i .i64 1) = some v20 ∧ szOk 4 v20) ∧
    ∃ v21 : TV, ldT v20 0 (some 4) = some v21 ∧
    ∃ v22 : TV, binT .sub a1 (TV.i .i64 1) = some v22 ∧
    VS prog 34 [v21, v22] fun r23 => scOk true r23 ∧
    (Nat.beq 0 (0 * 4) && Nat.beq 4 4) = true ∧ szOk 4 r18 ∧
    (Nat.beq 4 (1 * 4) && Nat.beq 4 4) = true ∧ szOk 4 r23 ∧
    ∃ v24 : TV, putT (TV.a [(TV.i .i64 0), (TV.i .i64 0), (TV.i .i64 0), (TV.l [])]) 0 1 v13 = some v24 ∧
    ∃ v25 : TV, putT v24 3 1 (TV.l [r18, r23]) = some v25 ∧
    ∃ v26 : TV, putT (TV.a [(TV.i .i64 0), (TV.i .i64 0), (TV.i .i64 0), (TV.l [])]) 0 4 v25 = some v26 ∧
    True ∧ ∃ v27 : TV, subT v26 0 4 = some v27 ∧
    tupOk [v27] ∧ Q v27)
  (∃ v28 : TV, cellT a0 0 = some v28 ∧
    ∃ v29 : TV, binT .eql v28 (TV.i .i64 3) = some v29 ∧
    ((v29, true) = ((v29, true) : TV × Bool) ∧ ∃ v30 : TV, gV v29 true (fun r => cellT a0 3 = some r) v30 ∧
    ∃ v31 : TV, gV v29 true (fun r => lenT v30 = some r) v31 ∧
    ∃ v32 : TV, gV v29 true (fun r => binT .eql v31 (TV.i .i64 1) = some r) v32 ∧
    ∃ v33 : TV, pickT v29 v32 (TV.b false) = some v33 ∧
    ∃ v34 : TV, gV v33 true (fun r => some a1 = some r) v34 ∧
    ∃ v35 : TV, gV v33 true (fun r => binT .gtr v34 (TV.i .i64 0) = some r) v35 ∧
    ∃ v36 : TV, pickT v33 v35 (TV.b false) = some v36 ∧
    condK v36
    (∃ v37 : TV, cellT a0 3 = some v37 ∧
      ∃ v38 : TV, (idxT v37 (TV.i .i64 0) = some v38 ∧ szOk 4 v38) ∧
      ∃ v39 : TV, ldT v38 0 (some 4) = some v39 ∧
      ∃ v40 : TV, binT .sub a1 (TV.i .i64 1) = some v40 ∧
      VS prog 34 [v39, v40] fun r41 => scOk true r41 ∧
      (Nat.beq 0 (0 * 4) && Nat.beq 4 4) = true ∧ szOk 4 r41 ∧
      ∃ v42 : TV, putT (TV.a [(TV.i .i64 0), (TV.i .i64 0), (TV.i .i64 0), (TV.l [])]) 0 1 (TV.i .i64 3) = some v42 ∧
      ∃ v43 : TV, putT v42 3 1 (TV.l [r41]) = some v43 ∧
      ∃ v44 : TV, putT (TV.a [(TV.i .i64 0), (TV.i .i64 0), (TV.i .i64 0), (TV.l [])]) 0 4 v43 = some v44 ∧
      True ∧ ∃ v45 : TV, subT v44 0 4 = some v45 ∧
      tupOk [v45] ∧ Q v45)
    (∃ v46 : TV, cellT a0 0 = some v46 ∧
      ∃ v47 : TV, binT .eql v46 (TV.i .i64 2) = some v47 ∧
      condK v47
      (∃ v48 : TV, cellT a0 2 = some v48 ∧
        ∃ v49 : TV, convT .u64 v48 = some v49 ∧
        ∃ v50 : TV, binT .rem v49 (TV.i .u64 3) = some v50 ∧
        ∃ v51 : TV, convT .i64 v50 = some v51 ∧
        ∃ v52 : TV, putT (TV.a [(TV.i .i64 0), (TV.i .i64 0), (TV.i .i64 0), (TV.l [])]) 0 1 (TV.i .i64 2) = some v52 ∧
        ∃ v53 : TV, putT v52 2 1 v51 = some v53 ∧
        ∃ v54 : TV, putT (TV.a [(TV.i .i64 0), (TV.i .i64 0), (TV.i .i64 0), (TV.l [])]) 0 4 v53 = some v54 ∧
        True ∧ ∃ v55 : TV, subT v54 0 4 = some v55 ∧
        ∃ v56 : TV, putT v55 3 1 (TV.l []) = some v56 ∧
        tupOk [v56] ∧ Q v56)
      (∃ v57 : TV, cellT a0 1 = some v57 ∧
        ∃ v58 : TV, convT .u64 v57 = some v58 ∧
        ∃ v59 : TV, binT .rem v58 (TV.i .u64 2147483648) = some v59 ∧
        ∃ v60 : TV, convT .i64 v59 = some v60 ∧
        ∃ v61 : TV, putT (TV.a [(TV.i .i64 0), (TV.i .i64 0), (TV.i .i64 0), (TV.l [])]) 0 1 (TV.i .i64 1) = some v61 ∧
        ∃ v62 : TV, putT v61 1 1 v60 = some v62 ∧
        ∃ v63 : TV, putT (TV.a [(TV.i .i64 0), (TV.i .i64 0), (TV.i .i64 0), (TV.l [])]) 0 4 v62 = some v63 ∧
        True ∧ ∃ v64 : TV, subT v63 0 4 = some v64 ∧
        ∃ v65 : TV, putT v64 3 1 (TV.l []) = some v65 ∧
        tupOk [v65] ∧ Q v65))))))
theorem vs34 (a0 a1 : TV) (Q : TV → Prop) (h : W34 a0 a1 Q) : VS prog 34 [a0, a1] Q := vs_of (sh := sh) (af := a34) (vc := v34) (by kernel_rfl) (by kernel_rfl) (by kernel_rfl) (by kernel_rfl) rfl ((show W34 a0 a1 Q = evFn sh prog a34 v34 [a0, a1] Q by kernel_rfl) ▸ h)

/-! jetsam/jetsamlaw04.Expr -/
def v36 : VCode := .seq (.reg r36_0) (.seq (.reg r36_1) (.seq (.seq (.reg r36_2) (.block 0 (.loop [.ob 1 [], .ob 2 [(3, 4)], .ob 3 [(3, 4)], .pt 1 1 0, .pt 2 2 0, .pt 3 3 0, .tr 4] (.seq (.seq (.reg r36_3) (.cond (.t 16) (.skip) (.exit 0))) (.seq (.block 1 (.dreg r36_5 b36_5 [(1, 8)])) (.reg r36_4)))))) (.seq (.reg r36_6) (.ret))))
def W36 (a0 : TV) (Q : TV → Prop) : Prop :=
  TV.isTp a0 = false ∧
  ∃ v1 : TV, cellT a0 0 = some v1 ∧
  ∃ v2 : TV, cellT a0 1 = some v2 ∧
  ∃ v3 : TV, cellT a0 2 = some v3 ∧
  ∃ v4 : TV, putT (TV.a [(TV.i .i64 0), (TV.i .i64 0), (TV.i .i64 0), (TV.l [])]) 0 1 v1 = some v4 ∧
  ∃ v5 : TV, putT v4 1 1 v2 = some v5 ∧
  ∃ v6 : TV, putT v5 2 1 v3 = some v6 ∧
  ∃ v7 : TV, putT (TV.a [(TV.i .i64 0), (TV.i .i64 0), (TV.i .i64 0), (TV.l [])]) 0 4 v6 = some v7 ∧
  ∃ I8 : Nat → TV → TV → List TV → TV → List TV → TV → Prop, (∃ n9, I8 n9 a0 (TV.a [(TV.i .i64 0), (TV.i .i64 0), (TV.i .i64 0), (TV.l [])]) [] v7 [] (TV.i .i64 0)) ∧ ∀ n9 : Nat,
  ∀ o11 : TV, ∀ o12 : TV, ∀ l13 : List TV, ∀ o14 : TV, ∀ l15 : List TV, ∀ x16 : TV, I8 n9 o11 o12 l13 o14 l15 x16 → 
  ∃ v17 : TV, cellT o11 3 = some v17 ∧
    ∃ v18 : TV, lenT v17 = some v18 ∧
    ∃ v19 : TV, binT .lss x16 v18 = some v19 ∧
    condK v19
    (∃ v20 : TV, cellT o11 3 = some v20 ∧
      ∃ v21 : TV, (idxT v20 x16 = some v21 ∧ szOk 4 v21) ∧
      ∃ v22 : TV, ldT v21 0 (some 4) = some v22 ∧
      VS prog 36 [v22] fun r23 => scOk true r23 ∧
      (Nat.beq 0 (0 * 4) && Nat.beq 4 4) = true ∧ szOk 4 r23 ∧
      ∃ v24 : List TV, listT (TV.l [r23]) = some v24 ∧ szHd 4 v24 ∧
      ∃ v25 : List TV, appT 48 l15 v24 = some v25 ∧
      ∃ v26 : TV, putT o14 3 1 (TV.l []) = some v26 ∧
      ∃ v27 : TV, binT .add x16 (TV.i .i64 1) = some v27 ∧
      ∃ m10, m10 < n9 ∧ I8 m10 o11 o12 l13 v26 v25 v27)
    (∃ v28 : TV, subT o14 0 4 = some v28 ∧
      ∃ v29 : TV, putT o12 0 4 v28 = some v29 ∧
      True ∧ ∃ v30 : TV, subT v29 0 4 = some v30 ∧
      ∃ v31 : TV, putT v30 3 1 (TV.l l15) = some v31 ∧
      tupOk [v31] ∧ Q v31)
theorem vs36 (a0 : TV) (Q : TV → Prop) (h : W36 a0 Q) : VS prog 36 [a0] Q := vs_of (sh := sh) (af := a36) (vc := v36) (by kernel_rfl) (by kernel_rfl) (by kernel_rfl) (by kernel_rfl) rfl ((show W36 a0 Q = evFn sh prog a36 v36 [a0] Q by kernel_rfl) ▸ h)

/-! jetsam/step.Eval -/
def v35 : VCode := .seq (.reg r35_0) (.seq (.reg r35_1) (.seq (.block 0 (.seq (.reg r35_2) (.cond (.t 14) (.seq (.reg r35_3) (.ret)) (.seq (.reg r35_4) (.cond (.t 18) (.seq (.reg r35_5) (.ret)) (.skip)))))) (.seq (.reg r35_6) (.ret))))
def W35 (a0 a1 : TV) (Q : TV → Prop) : Prop :=
  TV.isTp a0 = false ∧
  ∃ v1 : TV, subT a0 0 4 = some v1 ∧
  VS prog 58 [v1, a1] fun r2 => scOk true r2 ∧
  ∃ v3 : TV, extT 0 r2 = some v3 ∧
  ∃ v4 : TV, extT 1 r2 = some v4 ∧
  ∃ v5 : TV, binT .neq v4 (TV.i .i64 0) = some v5 ∧
  condK v5
  (True ∧ tupOk [(TV.i .i64 0), v4] ∧ Q (TV.tp [(TV.i .i64 0), v4]))
  (∃ v6 : TV, binT .lss v3 (TV.i .i64 (-2147483648)) = some v6 ∧
    ∃ v7 : TV, gV v6 false (fun r => some v3 = some r) v7 ∧
    ∃ v8 : TV, gV v6 false (fun r => binT .gtr v7 (TV.i .i64 2147483647) = some r) v8 ∧
    ∃ v9 : TV, pickT v6 (TV.b true) v8 = some v9 ∧
    condK v9
    (True ∧ tupOk [(TV.i .i64 0), (TV.i .i64 2)] ∧ Q (TV.tp [(TV.i .i64 0), (TV.i .i64 2)]))
    (True ∧ tupOk [v3, (TV.i .i64 0)] ∧ Q (TV.tp [v3, (TV.i .i64 0)])))
theorem vs35 (a0 a1 : TV) (Q : TV → Prop) (h : W35 a0 a1 Q) : VS prog 35 [a0, a1] Q := vs_of (sh := sh) (af := a35) (vc := v35) (by kernel_rfl) (by kernel_rfl) (by kernel_rfl) (by kernel_rfl) rfl ((show W35 a0 a1 Q = evFn sh prog a35 v35 [a0, a1] Q by kernel_rfl) ▸ h)

/-! jetsam/step.plain -/
def v58 : VCode := .seq (.reg r58_0) (.seq (.block 0 (.seq (.reg r58_1) (.cond (.t 8) (.seq (.reg r58_2) (.ret)) (.seq (.reg r58_3) (.cond (.t 14) (.seq (.reg r58_4) (.ret)) (.seq (.reg r58_5) (.cond (.t 35) (.seq (.reg r58_6) (.seq (.reg r58_7) (.ret))) (.seq (.reg r58_8) (.cond (.t 57) (.seq (.reg r58_9) (.ret)) (.skip)))))))))) (.seq (.reg r58_10) (.ret)))
def W58 (a0 a1 : TV) (Q : TV → Prop) : Prop :=
  TV.isTp a0 = false ∧
  ∃ v1 : TV, cellT a0 0 = some v1 ∧
  ∃ v2 : TV, binT .eql v1 (TV.i .i64 1) = some v2 ∧
  condK v2
  (∃ v3 : TV, cellT a0 1 = some v3 ∧
    True ∧ tupOk [v3, (TV.i .i64 0)] ∧ Q (TV.tp [v3, (TV.i .i64 0)]))
  (∃ v4 : TV, cellT a0 0 = some v4 ∧
    ∃ v5 : TV, binT .eql v4 (TV.i .i64 2) = some v5 ∧
    ((v5, true) = ((v5, true) : TV × Bool) ∧ ∃ v6 : TV, gV v5 true (fun r => cellT a0 2 = some r) v6 ∧
    ∃ v7 : TV, gV v5 true (fun r => binT .geq v6 (TV.i .i64 0) = some r) v7 ∧
    ∃ v8 : TV, pickT v5 v7 (TV.b false) = some v8 ∧
    ((v8, true) = ((v8, true) : TV × Bool) ∧ ∃ v9 : TV, gV v8 true (fun r => cellT a0 2 = some r) v9 ∧
    ∃ v10 : TV, gV v8 true (fun r => some a1 = some r) v10 ∧
    ∃ v11 : TV, gV v8 true (fun r => lenT v10 = some r) v11 ∧
    ∃ v12 : TV, gV v8 true (fun r => binT .lss v9 v11 = some r) v12 ∧
    ∃ v13 : TV, pickT v8 v12 (TV.b false) = some v13 ∧
    condK v13
    (∃ v14 : TV, cellT a0 2 = some v14 ∧
      ∃ v15 : TV, (idxT a1 v14 = some v15 ∧ szOk 1 v15) ∧
      ∃ v16 : TV, ldT v15 0 none = some v16 ∧
      True ∧ tupOk [v16, (TV.i .i64 0)] ∧ Q (TV.tp [v16, (TV.i .i64 0)]))
    (∃ v17 : TV, cellT a0 0 = some v17 ∧
      ∃ v18 : TV, binT .eql v17 (TV.i .i64 3) = some v18 ∧
      ((v18, true) = ((v18, true) : TV × Bool) ∧ ∃ v19 : TV, gV v18 true (fun r => cellT a0 3 = some r) v19 ∧
      ∃ v20 : TV, gV v18 true (fun r => lenT v19 = some r) v20 ∧
      ∃ v21 : TV, gV v18 true (fun r => binT .eql v20 (TV.i .i64 1) = some r) v21 ∧
      ∃ v22 : TV, pickT v18 v21 (TV.b false) = some v22 ∧
      condK v22
      (∃ v23 : TV, cellT a0 3 = some v23 ∧
        ∃ v24 : TV, (idxT v23 (TV.i .i64 0) = some v24 ∧ szOk 4 v24) ∧
        ∃ v25 : TV, ldT v24 0 (some 4) = some v25 ∧
        VS prog 35 [v25, a1] fun r26 => scOk true r26 ∧
        ∃ v27 : TV, extT 0 r26 = some v27 ∧
        ∃ v28 : TV, extT 1 r26 = some v28 ∧
        ∃ v29 : TV, unT .neg v27 = some v29 ∧
        True ∧ tupOk [v29, v28] ∧ Q (TV.tp [v29, v28]))
      (∃ v30 : TV, cellT a0 0 = some v30 ∧
        ∃ v31 : TV, binT .geq v30 (TV.i .i64 4) = some v31 ∧
        ((v31, true) = ((v31, true) : TV × Bool) ∧ ∃ v32 : TV, gV v31 true (fun r => cellT a0 0 = some r) v32 ∧
        ∃ v33 : TV, gV v31 true (fun r => binT .leq v32 (TV.i .i64 8) = some r) v33 ∧
        ∃ v34 : TV, pickT v31 v33 (TV.b false) = some v34 ∧
        ((v34, true) = ((v34, true) : TV × Bool) ∧ ∃ v35 : TV, gV v34 true (fun r => cellT a0 3 = some r) v35 ∧
        ∃ v36 : TV, gV v34 true (fun r => lenT v35 = some r) v36 ∧
        ∃ v37 : TV, gV v34 true (fun r => binT .eql v36 (TV.i .i64 2) = some r) v37 ∧
        ∃ v38 : TV, pickT v34 v37 (TV.b false) = some v38 ∧
        condK v38
        (∃ v39 : TV, subT a0 0 4 = some v39 ∧
          VS prog 80 [v39, a1] fun r40 => scOk true r40 ∧
          ∃ v41 : TV, extT 0 r40 = some v41 ∧
          ∃ v42 : TV, extT 1 r40 = some v42 ∧
          True ∧ tupOk [v41, v42] ∧ Q (TV.tp [v41, v42]))
        (True ∧ tupOk [(TV.i .i64 0), (TV.i .i64 0)] ∧ Q (TV.tp [(TV.i .i64 0), (TV.i .i64 0)]))))))))))
theorem vs58 (a0 a1 : TV) (Q : TV → Prop) (h : W58 a0 a1 Q) : VS prog 58 [a0, a1] Q := vs_of (sh := sh) (af := a58) (vc := v58) (by kernel_rfl) (by kernel_rfl) (by kernel_rfl) (by kernel_rfl) rfl ((show W58 a0 a1 Q = evFn sh prog a58 v58 [a0, a1] Q by kernel_rfl) ▸ h)

/-! jetsam/step.pair -/
def v80 : VCode := .seq (.reg r80_0) (.seq (.reg r80_1) (.seq (.seq (.reg r80_2) (.cond (.t 19) (.seq (.reg r80_3) (.ret)) (.skip))) (.seq (.reg r80_4) (.seq (.seq (.reg r80_5) (.cond (.t 31) (.seq (.reg r80_6) (.ret)) (.skip))) (.seq (.reg r80_7) (.ret))))))
def W80 (a0 a1 : TV) (Q : TV → Prop) : Prop :=
  TV.isTp a0 = false ∧
  ∃ v1 : TV, cellT a0 3 = some v1 ∧
  ∃ v2 : TV, (idxT v1 (TV.i .i64 0) = some v2 ∧ szOk 4 v2) ∧
  ∃ v3 : TV, ldT v2 0 (some 4) = some v3 ∧
  VS prog 35 [v3, a1] fun r4 => scOk true r4 ∧
  ∃ v5 : TV, extT 0 r4 = some v5 ∧
  ∃ v6 : TV, extT 1 r4 = some v6 ∧
  ∃ v7 : TV, binT .neq v6 (TV.i .i64 0) = some v7 ∧
  condK v7
  (True ∧ tupOk [(TV.i .i64 0), v6] ∧ Q (TV.tp [(TV.i .i64 0), v6]))
  (∃ v8 : TV, cellT a0 3 = some v8 ∧
    ∃ v9 : TV, (idxT v8 (TV.i .i64 1) = some v9 ∧ szOk 4 v9) ∧
    ∃ v10 : TV, ldT v9 0 (some 4) = some v10 ∧
    VS prog 35 [v10, a1] fun r11 => scOk true r11 ∧
    ∃ v12 : TV, extT 0 r11 = some v12 ∧
    ∃ v13 : TV, extT 1 r11 = some v13 ∧
    ∃ v14 : TV, binT .neq v13 (TV.i .i64 0) = some v14 ∧
    condK v14
    (True ∧ tupOk [(TV.i .i64 0), v13] ∧ Q (TV.tp [(TV.i .i64 0), v13]))
    (∃ v15 : TV, cellT a0 0 = some v15 ∧
      VS prog 103 [v15, v5, v12] fun r16 => scOk true r16 ∧
      ∃ v17 : TV, extT 0 r16 = some v17 ∧
      ∃ v18 : TV, extT 1 r16 = some v18 ∧
      True ∧ tupOk [v17, v18] ∧ Q (TV.tp [v17, v18])))
theorem vs80 (a0 a1 : TV) (Q : TV → Prop) (h : W80 a0 a1 Q) : VS prog 80 [a0, a1] Q := vs_of (sh := sh) (af := a80) (vc := v80) (by kernel_rfl) (by kernel_rfl) (by kernel_rfl) (by kernel_rfl) rfl ((show W80 a0 a1 Q = evFn sh prog a80 v80 [a0, a1] Q by kernel_rfl) ▸ h)

/-! jetsam/step.two -/
def v103 : VCode := .seq (.reg r103_0) (.seq (.seq (.reg r103_1) (.block 0 (.seq (.reg r103_2) (.cond (.t 9) (.seq (.reg r103_3) (.ret)) (.seq (.reg r103_4) (.cond (.t 14) (.seq (.reg r103_5) (.ret)) (.seq (.reg r103_6) (.cond (.t 19) (.seq (.reg r103_7) (.ret)) (.skip))))))))) (.seq (.block 1 (.seq (.reg r103_8) (.cond (.t 24) (.seq (.reg r103_9) (.ret)) (.seq (.reg r103_10) (.cond (.t 27) (.seq (.reg r103_11) (.ret)) (.skip)))))) (.seq (.reg r103_12) (.ret))))
def W103 (a0 a1 a2 : TV) (Q : TV → Prop) : Prop :=
  ∃ v1 : TV, binT .eql a0 (TV.i .i64 4) = some v1 ∧
  condK v1
  (∃ v2 : TV, binT .add a1 a2 = some v2 ∧
    True ∧ tupOk [v2, (TV.i .i64 0)] ∧ Q (TV.tp [v2, (TV.i .i64 0)]))
  (∃ v3 : TV, binT .eql a0 (TV.i .i64 5) = some v3 ∧
    condK v3
    (∃ v4 : TV, binT .sub a1 a2 = some v4 ∧
      True ∧ tupOk [v4, (TV.i .i64 0)] ∧ Q (TV.tp [v4, (TV.i .i64 0)]))
    (∃ v5 : TV, binT .eql a0 (TV.i .i64 6) = some v5 ∧
      condK v5
      (∃ v6 : TV, binT .mul a1 a2 = some v6 ∧
        True ∧ tupOk [v6, (TV.i .i64 0)] ∧ Q (TV.tp [v6, (TV.i .i64 0)]))
      (∃ v7 : TV, binT .eql a2 (TV.i .i64 0) = some v7 ∧
        condK v7
        (True ∧ tupOk [(TV.i .i64 0), (TV.i .i64 3)] ∧ Q (TV.tp [(TV.i .i64 0), (TV.i .i64 3)]))
        (∃ v8 : TV, binT .eql a0 (TV.i .i64 7) = some v8 ∧
          condK v8
          (∃ v9 : TV, binT .quo a1 a2 = some v9 ∧
            True ∧ tupOk [v9, (TV.i .i64 0)] ∧ Q (TV.tp [v9, (TV.i .i64 0)]))
          (∃ v10 : TV, binT .rem a1 a2 = some v10 ∧
            True ∧ tupOk [v10, (TV.i .i64 0)] ∧ Q (TV.tp [v10, (TV.i .i64 0)]))))))
theorem vs103 (a0 a1 a2 : TV) (Q : TV → Prop) (h : W103 a0 a1 a2 Q) : VS prog 103 [a0, a1, a2] Q := vs_of (sh := sh) (af := a103) (vc := v103) (by kernel_rfl) (by kernel_rfl) (by kernel_rfl) (by kernel_rfl) rfl ((show W103 a0 a1 a2 Q = evFn sh prog a103 v103 [a0, a1, a2] Q by kernel_rfl) ▸ h)

/-! jetsam/jetsamref07.Eval -/
def v37 : VCode := .seq (.reg r37_0) (.seq (.reg r37_1) (.seq (.seq (.reg r37_2) (.block 0 (.loop [.ob 2 [], .ob 6 [], .tr 1, .pt 2 2 0, .tr 4, .tr 5, .pt 6 6 0, .tr 7] (.seq (.seq (.reg r37_3) (.cond (.t 19) (.skip) (.exit 0))) (.seq (.block 1 (.seq (.reg r37_5) (.seq (.seq (.reg r37_6) (.cond (.t 33) (.seq (.reg r37_7) (.ret)) (.skip))) (.reg r37_8)))) (.reg r37_4)))))) (.seq (.reg r37_9) (.seq (.seq (.reg r37_10) (.block 2 (.seq (.reg r37_11) (.cond (.t 40) (.reg r37_12) (.seq (.reg r37_13) (.cond (.t 44) (.seq (.reg r37_14) (.cond (.t 55) (.reg r37_15) (.skip))) (.seq (.reg r37_16) (.cond (.t 61) (.reg r37_17) (.seq (.reg r37_18) (.cond (.t 66) (.reg r37_19) (.seq (.reg r37_20) (.cond (.t 73) (.reg r37_21) (.seq (.reg r37_22) (.cond (.t 80) (.reg r37_23) (.seq (.seq (.reg r37_24) (.cond (.t 87) (.skip) (.reg r37_25))) (.cond (.t 87) (.seq (.seq (.reg r37_26) (.cond (.t 92) (.seq (.reg r37_27) (.ret)) (.skip))) (.seq (.reg r37_28) (.cond (.t 95) (.reg r37_29) (.reg r37_30)))) (.skip))))))))))))))))) (.seq (.seq (.reg r37_31) (.cond (.t 111) (.seq (.reg r37_32) (.ret)) (.skip))) (.seq (.reg r37_33) (.ret)))))))
def W37 (a0 a1 : TV) (Q : TV → Prop) : Prop :=
  TV.isTp a0 = false ∧
  ∃ I1 : Nat → TV → TV → TV → TV → TV → TV → Prop, (∃ n2, I1 n2 a0 (TV.a [(TV.i .i64 0), (TV.i .i64 0)]) a1 (TV.i .i64 0) (TV.i .i64 0) (TV.i .i64 0)) ∧ ∀ n2 : Nat,
  ∀ o4 : TV, ∀ o5 : TV, ∀ x6 : TV, ∀ x7 : TV, ∀ x8 : TV, ∀ x9 : TV, I1 n2 o4 o5 x6 x7 x8 x9 → 
  ∃ v10 : TV, cellT o4 3 = some v10 ∧
    ∃ v11 : TV, lenT v10 = some v11 ∧
    ∃ v12 : TV, binT .lss x9 v11 = some v12 ∧
    ∃ v13 : TV, gV v12 true (fun r => some x9 = some r) v13 ∧
    ∃ v14 : TV, gV v12 true (fun r => binT .lss v13 (TV.i .i64 2) = some r) v14 ∧
    ∃ v15 : TV, pickT v12 v14 (TV.b false) = some v15 ∧
    condK v15
    (∃ v16 : TV, cellT o4 3 = some v16 ∧
      ∃ v17 : TV, (idxT v16 x9 = some v17 ∧ szOk 4 v17) ∧
      ∃ v18 : TV, ldT v17 0 (some 4) = some v18 ∧
      VS prog 37 [v18, x6] fun r19 => scOk true r19 ∧
      ∃ v20 : TV, extT 0 r19 = some v20 ∧
      ∃ v21 : TV, extT 1 r19 = some v21 ∧
      ∃ v22 : TV, binT .neq v21 (TV.i .i64 0) = some v22 ∧
      condK v22
      (True ∧ tupOk [(TV.i .i64 0), v21] ∧ Q (TV.tp [(TV.i .i64 0), v21]))
      (∃ v23 : Nat, ixN x9 2 = some v23 ∧
        ∃ v24 : TV, putT o5 (0 + v23 * 1) 1 v20 = some v24 ∧
        ∃ v25 : TV, binT .add x9 (TV.i .i64 1) = some v25 ∧
        ∃ m3, m3 < n2 ∧ I1 m3 o4 v24 x6 x7 x8 v25))
    (∃ v26 : TV, cellT o4 0 = some v26 ∧
      ∃ v27 : TV, binT .eql v26 (TV.i .i64 1) = some v27 ∧
      condK v27
      (∃ v28 : TV, cellT o4 1 = some v28 ∧
        ∃ v29 : TV, binT .lss v28 (TV.i .i64 (-2147483648)) = some v29 ∧
        ∃ v30 : TV, gV v29 false (fun r => some v28 = some r) v30 ∧
        ∃ v31 : TV, gV v29 false (fun r => binT .gtr v30 (TV.i .i64 2147483647) = some r) v31 ∧
        ∃ v32 : TV, pickT v29 (TV.b true) v31 = some v32 ∧
        condK v32
        (True ∧ tupOk [(TV.i .i64 0), (TV.i .i64 2)] ∧ Q (TV.tp [(TV.i .i64 0), (TV.i .i64 2)]))
        (True ∧ tupOk [v28, (TV.i .i64 0)] ∧ Q (TV.tp [v28, (TV.i .i64 0)])))
      (∃ v33 : TV, binT .eql v26 (TV.i .i64 2) = some v33 ∧
        condK v33
        (∃ v34 : TV, cellT o4 2 = some v34 ∧
          ∃ v35 : TV, binT .geq v34 (TV.i .i64 0) = some v35 ∧
          ((v35, true) = ((v35, true) : TV × Bool) ∧ ∃ v36 : TV, gV v35 true (fun r => cellT o4 2 = some r) v36 ∧
          ∃ v37 : TV, gV v35 true (fun r => some x6 = some r) v37 ∧
          ∃ v38 : TV, gV v35 true (fun r => lenT v37 = some r) v38 ∧
          ∃ v39 : TV, gV v35 true (fun r => binT .lss v36 v38 = some r) v39 ∧
          ∃ v40 : TV, pickT v35 v39 (TV.b false) = some v40 ∧
          condK v40
          (∃ v41 : TV, cellT o4 2 = some v41 ∧
            ∃ v42 : TV, (idxT x6 v41 = some v42 ∧ szOk 1 v42) ∧
            ∃ v43 : TV, ldT v42 0 none = some v43 ∧
            ∃ v44 : TV, binT .lss v43 (TV.i .i64 (-2147483648)) = some v44 ∧
            ∃ v45 : TV, gV v44 false (fun r => some v43 = some r) v45 ∧
            ∃ v46 : TV, gV v44 false (fun r => binT .gtr v45 (TV.i .i64 2147483647) = some r) v46 ∧
            ∃ v47 : TV, pickT v44 (TV.b true) v46 = some v47 ∧
            condK v47
            (True ∧ tupOk [(TV.i .i64 0), (TV.i .i64 2)] ∧ Q (TV.tp [(TV.i .i64 0), (TV.i .i64 2)]))
            (True ∧ tupOk [v43, (TV.i .i64 0)] ∧ Q (TV.tp [v43, (TV.i .i64 0)])))
          (∃ v48 : TV, binT .lss (TV.i .i64 0) (TV.i .i64 (-2147483648)) = some v48 ∧
            ∃ v49 : TV, gV v48 false (fun r => some (TV.i .i64 0) = some r) v49 ∧
            ∃ v50 : TV, gV v48 false (fun r => binT .gtr v49 (TV.i .i64 2147483647) = some r) v50 ∧
            ∃ v51 : TV, pickT v48 (TV.b true) v50 = some v51 ∧
            condK v51
            (True ∧ tupOk [(TV.i .i64 0), (TV.i .i64 2)] ∧ Q (TV.tp [(TV.i .i64 0), (TV.i .i64 2)]))
            (True ∧ tupOk [(TV.i .i64 0), (TV.i .i64 0)] ∧ Q (TV.tp [(TV.i .i64 0), (TV.i .i64 0)])))))
        (∃ v52 : TV, binT .eql v26 (TV.i .i64 3) = some v52 ∧
          condK v52
          (∃ v53 : Nat, ixN (TV.i .i64 0) 2 = some v53 ∧
            ∃ v54 : TV, ldT o5 (0 + v53 * 1) none = some v54 ∧
            ∃ v55 : TV, binT .sub (TV.i .i64 0) v54 = some v55 ∧
            ∃ v56 : TV, binT .lss v55 (TV.i .i64 (-2147483648)) = some v56 ∧
            ∃ v57 : TV, gV v56 false (fun r => some v55 = some r) v57 ∧
            ∃ v58 : TV, gV v56 false (fun r => binT .gtr v57 (TV.i .i64 2147483647) = some r) v58 ∧
            ∃ v59 : TV, pickT v56 (TV.b true) v58 = some v59 ∧
            condK v59
            (True ∧ tupOk [(TV.i .i64 0), (TV.i .i64 2)] ∧ Q (TV.tp [(TV.i .i64 0), (TV.i .i64 2)]))
            (True ∧ tupOk [v55, (TV.i .i64 0)] ∧ Q (TV.tp [v55, (TV.i .i64 0)])))
          (∃ v60 : TV, binT .eql v26 (TV.i .i64 4) = some v60 ∧
            condK v60
            (∃ v61 : Nat, ixN (TV.i .i64 0) 2 = some v61 ∧
              ∃ v62 : TV, ldT o5 (0 + v61 * 1) none = some v62 ∧
              ∃ v63 : Nat, ixN (TV.i .i64 1) 2 = some v63 ∧
              ∃ v64 : TV, ldT o5 (0 + v63 * 1) none = some v64 ∧
              ∃ v65 : TV, binT .add v62 v64 = some v65 ∧
              ∃ v66 : TV, binT .lss v65 (TV.i .i64 (-2147483648)) = some v66 ∧
              ∃ v67 : TV, gV v66 false (fun r => some v65 = some r) v67 ∧
              ∃ v68 : TV, gV v66 false (fun r => binT .gtr v67 (TV.i .i64 2147483647) = some r) v68 ∧
              ∃ v69 : TV, pickT v66 (TV.b true) v68 = some v69 ∧
              condK v69
              (True ∧ tupOk [(TV.i .i64 0), (TV.i .i64 2)] ∧ Q (TV.tp [(TV.i .i64 0), (TV.i .i64 2)]))
              (True ∧ tupOk [v65, (TV.i .i64 0)] ∧ Q (TV.tp [v65, (TV.i .i64 0)])))
            (∃ v70 : TV, binT .eql v26 (TV.i .i64 5) = some v70 ∧
              condK v70
              (∃ v71 : Nat, ixN (TV.i .i64 0) 2 = some v71 ∧
                ∃ v72 : TV, ldT o5 (0 + v71 * 1) none = some v72 ∧
                ∃ v73 : Nat, ixN (TV.i .i64 1) 2 = some v73 ∧
                ∃ v74 : TV, ldT o5 (0 + v73 * 1) none = some v74 ∧
                ∃ v75 : TV, binT .sub v72 v74 = some v75 ∧
                ∃ v76 : TV, binT .lss v75 (TV.i .i64 (-2147483648)) = some v76 ∧
                ∃ v77 : TV, gV v76 false (fun r => some v75 = some r) v77 ∧
                ∃ v78 : TV, gV v76 false (fun r => binT .gtr v77 (TV.i .i64 2147483647) = some r) v78 ∧
                ∃ v79 : TV, pickT v76 (TV.b true) v78 = some v79 ∧
                condK v79
                (True ∧ tupOk [(TV.i .i64 0), (TV.i .i64 2)] ∧ Q (TV.tp [(TV.i .i64 0), (TV.i .i64 2)]))
                (True ∧ tupOk [v75, (TV.i .i64 0)] ∧ Q (TV.tp [v75, (TV.i .i64 0)])))
              (∃ v80 : TV, binT .eql v26 (TV.i .i64 6) = some v80 ∧
                condK v80
                (∃ v81 : Nat, ixN (TV.i .i64 0) 2 = some v81 ∧
                  ∃ v82 : TV, ldT o5 (0 + v81 * 1) none = some v82 ∧
                  ∃ v83 : Nat, ixN (TV.i .i64 1) 2 = some v83 ∧
                  ∃ v84 : TV, ldT o5 (0 + v83 * 1) none = some v84 ∧
                  ∃ v85 : TV, binT .mul v82 v84 = some v85 ∧
                  ∃ v86 : TV, binT .lss v85 (TV.i .i64 (-2147483648)) = some v86 ∧
                  ∃ v87 : TV, gV v86 false (fun r => some v85 = some r) v87 ∧
                  ∃ v88 : TV, gV v86 false (fun r => binT .gtr v87 (TV.i .i64 2147483647) = some r) v88 ∧
                  ∃ v89 : TV, pickT v86 (TV.b true) v88 = some v89 ∧
                  condK v89
                  (True ∧ tupOk [(TV.i .i64 0), (TV.i .i64 2)] ∧ Q (TV.tp [(TV.i .i64 0), (TV.i .i64 2)]))
                  (True ∧ tupOk [v85, (TV.i .i64 0)] ∧ Q (TV.tp [v85, (TV.i .i64 0)])))
                (∃ v90 : TV, binT .eql v26 (TV.i .i64 7) = some v90 ∧
                  condK v90
                  (condK v90
                    (∃ v91 : Nat, ixN (TV.i .i64 1) 2 = some v91 ∧
                      ∃ v92 : TV, ldT o5 (0 + v91 * 1) none = some v92 ∧
                      ∃ v93 : TV, binT .eql v92 (TV.i .i64 0) = some v93 ∧
                      condK v93
                      (True ∧ tupOk [(TV.i .i64 0), (TV.i .i64 3)] ∧ Q (TV.tp [(TV.i .i64 0), (TV.i .i64 3)]))
                      (∃ v94 : TV, cellT o4 0 = some v94 ∧
                        ∃ v95 : TV, binT .eql v94 (TV.i .i64 7) = some v95 ∧
                        condK v95
                        (∃ v96 : Nat, ixN (TV.i .i64 0) 2 = some v96 ∧
                        ∃ v97 : TV, ldT o5 (0 + v96 * 1) none = some v97 ∧
                        ∃ v98 : Nat, ixN (TV.i .i64 1) 2 = some v98 ∧
                        ∃ v99 : TV, ldT o5 (0 + v98 * 1) none = some v99 ∧
                        ∃ v100 : TV, binT .quo v97 v99 = some v100 ∧
                        ∃ v101 : TV, binT .lss v100 (TV.i .i64 (-2147483648)) = some v101 ∧
                        ∃ v102 : TV, gV v101 false (fun r => some v100 = some r) v102 ∧
                        ∃ v103 : TV, gV v101 false (fun r => binT .gtr v102 (TV.i .i64 2147483647) = some r) v103 ∧
                        ∃ v104 : TV, pickT v101 (TV.b true) v103 = some v104 ∧
                        condK v104
                        (True ∧ tupOk [(TV.i .i64 0), (TV.i .i64 2)] ∧ Q (TV.tp [(TV.i .i64 0), (TV.i .i64 2)]))
                        (True ∧ tupOk [v100, (TV.i .i64 0)] ∧ Q (TV.tp [v100, (TV.i .i64 0)])))
                        (∃ v105 : Nat, ixN (TV.i .i64 0) 2 = some v105 ∧
                        ∃ v106 : TV, ldT o5 (0 + v105 * 1) none = some v106 ∧
                        ∃ v107 : Nat, ixN (TV.i .i64 1) 2 = some v107 ∧
                        ∃ v108 : TV, ldT o5 (0 + v107 * 1) none = some v108 ∧
                        ∃ v109 : TV, binT .rem v106 v108 = some v109 ∧
                        ∃ v110 : TV, binT .lss v109 (TV.i .i64 (-2147483648)) = some v110 ∧
                        ∃ v111 : TV, gV v110 false (fun r => some v109 = some r) v111 ∧
                        ∃ v112 : TV, gV v110 false (fun r => binT .gtr v111 (TV.i .i64 2147483647) = some r) v112 ∧
                        ∃ v113 : TV, pickT v110 (TV.b true) v112 = some v113 ∧
                        condK v113
                        (True ∧ tupOk [(TV.i .i64 0), (TV.i .i64 2)] ∧ Q (TV.tp [(TV.i .i64 0), (TV.i .i64 2)]))
                        (True ∧ tupOk [v109, (TV.i .i64 0)] ∧ Q (TV.tp [v109, (TV.i .i64 0)])))))
                    (∃ v114 : TV, binT .lss (TV.i .i64 0) (TV.i .i64 (-2147483648)) = some v114 ∧
                      ∃ v115 : TV, gV v114 false (fun r => some (TV.i .i64 0) = some r) v115 ∧
                      ∃ v116 : TV, gV v114 false (fun r => binT .gtr v115 (TV.i .i64 2147483647) = some r) v116 ∧
                      ∃ v117 : TV, pickT v114 (TV.b true) v116 = some v117 ∧
                      condK v117
                      (True ∧ tupOk [(TV.i .i64 0), (TV.i .i64 2)] ∧ Q (TV.tp [(TV.i .i64 0), (TV.i .i64 2)]))
                      (True ∧ tupOk [(TV.i .i64 0), (TV.i .i64 0)] ∧ Q (TV.tp [(TV.i .i64 0), (TV.i .i64 0)]))))
                  (∃ v118 : TV, binT .eql v26 (TV.i .i64 8) = some v118 ∧
                    condK v118
                    (∃ v119 : Nat, ixN (TV.i .i64 1) 2 = some v119 ∧
                      ∃ v120 : TV, ldT o5 (0 + v119 * 1) none = some v120 ∧
                      ∃ v121 : TV, binT .eql v120 (TV.i .i64 0) = some v121 ∧
                      condK v121
                      (True ∧ tupOk [(TV.i .i64 0), (TV.i .i64 3)] ∧ Q (TV.tp [(TV.i .i64 0), (TV.i .i64 3)]))
                      (∃ v122 : TV, cellT o4 0 = some v122 ∧
                        ∃ v123 : TV, binT .eql v122 (TV.i .i64 7) = some v123 ∧
                        condK v123
                        (∃ v124 : Nat, ixN (TV.i .i64 0) 2 = some v124 ∧
                        ∃ v125 : TV, ldT o5 (0 + v124 * 1) none = some v125 ∧
                        ∃ v126 : Nat, ixN (TV.i .i64 1) 2 = some v126 ∧
                        ∃ v127 : TV, ldT o5 (0 + v126 * 1) none = some v127 ∧
                        ∃ v128 : TV, binT .quo v125 v127 = some v128 ∧
                        ∃ v129 : TV, binT .lss v128 (TV.i .i64 (-2147483648)) = some v129 ∧
                        ∃ v130 : TV, gV v129 false (fun r => some v128 = some r) v130 ∧
                        ∃ v131 : TV, gV v129 false (fun r => binT .gtr v130 (TV.i .i64 2147483647) = some r) v131 ∧
                        ∃ v132 : TV, pickT v129 (TV.b true) v131 = some v132 ∧
                        condK v132
                        (True ∧ tupOk [(TV.i .i64 0), (TV.i .i64 2)] ∧ Q (TV.tp [(TV.i .i64 0), (TV.i .i64 2)]))
                        (True ∧ tupOk [v128, (TV.i .i64 0)] ∧ Q (TV.tp [v128, (TV.i .i64 0)])))
                        (∃ v133 : Nat, ixN (TV.i .i64 0) 2 = some v133 ∧
                        ∃ v134 : TV, ldT o5 (0 + v133 * 1) none = some v134 ∧
                        ∃ v135 : Nat, ixN (TV.i .i64 1) 2 = some v135 ∧
                        ∃ v136 : TV, ldT o5 (0 + v135 * 1) none = some v136 ∧
                        ∃ v137 : TV, binT .rem v134 v136 = some v137 ∧
                        ∃ v138 : TV, binT .lss v137 (TV.i .i64 (-2147483648)) = some v138 ∧
                        ∃ v139 : TV, gV v138 false (fun r => some v137 = some r) v139 ∧
                        ∃ v140 : TV, gV v138 false (fun r => binT .gtr v139 (TV.i .i64 2147483647) = some r) v140 ∧
                        ∃ v141 : TV, pickT v138 (TV.b true) v140 = some v141 ∧
                        condK v141
                        (True ∧ tupOk [(TV.i .i64 0), (TV.i .i64 2)] ∧ Q (TV.tp [(TV.i .i64 0), (TV.i .i64 2)]))
                        (True ∧ tupOk [v137, (TV.i .i64 0)] ∧ Q (TV.tp [v137, (TV.i .i64 0)])))))
                    (∃ v142 : TV, binT .lss (TV.i .i64 0) (TV.i .i64 (-2147483648)) = some v142 ∧
                      ∃ v143 : TV, gV v142 false (fun r => some (TV.i .i64 0) = some r) v143 ∧
                      ∃ v144 : TV, gV v142 false (fun r => binT .gtr v143 (TV.i .i64 2147483647) = some r) v144 ∧
                      ∃ v145 : TV, pickT v142 (TV.b true) v144 = some v145 ∧
                      condK v145
                      (True ∧ tupOk [(TV.i .i64 0), (TV.i .i64 2)] ∧ Q (TV.tp [(TV.i .i64 0), (TV.i .i64 2)]))
                      (True ∧ tupOk [(TV.i .i64 0), (TV.i .i64 0)] ∧ Q (TV.tp [(TV.i .i64 0), (TV.i .i64 0)])))))))))))
theorem vs37 (a0 a1 : TV) (Q : TV → Prop) (h : W37 a0 a1 Q) : VS prog 37 [a0, a1] Q := vs_of (sh := sh) (af := a37) (vc := v37) (by kernel_rfl) (by kernel_rfl) (by kernel_rfl) (by kernel_rfl) rfl ((show W37 a0 a1 Q = evFn sh prog a37 v37 [a0, a1] Q by kernel_rfl) ▸ h)

/-! jetsam/step.Holds -/
def v39 : VCode := .seq (.reg r39_0) (.seq (.reg r39_1) (.seq (.seq (.reg r39_2) (.cond (.t 17) (.seq (.reg r39_3) (.ret)) (.skip))) (.seq (.reg r39_4) (.seq (.seq (.reg r39_5) (.cond (.t 27) (.seq (.reg r39_6) (.ret)) (.skip))) (.seq (.seq (.reg r39_7) (.block 0 (.seq (.reg r39_8) (.cond (.t 31) (.seq (.reg r39_9) (.ret)) (.seq (.reg r39_10) (.cond (.t 36) (.seq (.reg r39_11) (.ret)) (.seq (.reg r39_12) (.cond (.t 41) (.seq (.reg r39_13) (.ret)) (.seq (.reg r39_14) (.cond (.t 46) (.seq (.reg r39_15) (.ret)) (.seq (.reg r39_16) (.cond (.t 51) (.seq (.reg r39_17) (.ret)) (.seq (.reg r39_18) (.cond (.t 56) (.seq (.reg r39_19) (.ret)) (.skip))))))))))))))) (.seq (.reg r39_20) (.ret)))))))
def W39 (a0 a1 : TV) (Q : TV → Prop) : Prop :=
  TV.isTp a0 = false ∧
  ∃ v1 : TV, subT a0 1 4 = some v1 ∧
  VS prog 35 [v1, a1] fun r2 => scOk true r2 ∧
  ∃ v3 : TV, extT 0 r2 = some v3 ∧
  ∃ v4 : TV, extT 1 r2 = some v4 ∧
  ∃ v5 : TV, binT .neq v4 (TV.i .i64 0) = some v5 ∧
  condK v5
  (True ∧ tupOk [(TV.b false), v4] ∧ Q (TV.tp [(TV.b false), v4]))
  (∃ v6 : TV, subT a0 5 4 = some v6 ∧
    VS prog 35 [v6, a1] fun r7 => scOk true r7 ∧
    ∃ v8 : TV, extT 0 r7 = some v8 ∧
    ∃ v9 : TV, extT 1 r7 = some v9 ∧
    ∃ v10 : TV, binT .neq v9 (TV.i .i64 0) = some v10 ∧
    condK v10
    (True ∧ tupOk [(TV.b false), v9] ∧ Q (TV.tp [(TV.b false), v9]))
    (∃ v11 : TV, cellT a0 0 = some v11 ∧
      ∃ v12 : TV, binT .eql v11 (TV.i .i64 1) = some v12 ∧
      condK v12
      (∃ v13 : TV, binT .eql v3 v8 = some v13 ∧
        True ∧ tupOk [v13, (TV.i .i64 0)] ∧ Q (TV.tp [v13, (TV.i .i64 0)]))
      (∃ v14 : TV, binT .eql v11 (TV.i .i64 2) = some v14 ∧
        condK v14
        (∃ v15 : TV, binT .neq v3 v8 = some v15 ∧
          True ∧ tupOk [v15, (TV.i .i64 0)] ∧ Q (TV.tp [v15, (TV.i .i64 0)]))
        (∃ v16 : TV, binT .eql v11 (TV.i .i64 3) = some v16 ∧
          condK v16
          (∃ v17 : TV, binT .lss v3 v8 = some v17 ∧
            True ∧ tupOk [v17, (TV.i .i64 0)] ∧ Q (TV.tp [v17, (TV.i .i64 0)]))
          (∃ v18 : TV, binT .eql v11 (TV.i .i64 4) = some v18 ∧
            condK v18
            (∃ v19 : TV, binT .leq v3 v8 = some v19 ∧
              True ∧ tupOk [v19, (TV.i .i64 0)] ∧ Q (TV.tp [v19, (TV.i .i64 0)]))
            (∃ v20 : TV, binT .eql v11 (TV.i .i64 5) = some v20 ∧
              condK v20
              (∃ v21 : TV, binT .gtr v3 v8 = some v21 ∧
                True ∧ tupOk [v21, (TV.i .i64 0)] ∧ Q (TV.tp [v21, (TV.i .i64 0)]))
              (∃ v22 : TV, binT .eql v11 (TV.i .i64 6) = some v22 ∧
                condK v22
                (∃ v23 : TV, binT .geq v3 v8 = some v23 ∧
                  True ∧ tupOk [v23, (TV.i .i64 0)] ∧ Q (TV.tp [v23, (TV.i .i64 0)]))
                (True ∧ tupOk [(TV.b false), (TV.i .i64 0)] ∧ Q (TV.tp [(TV.b false), (TV.i .i64 0)])))))))))
theorem vs39 (a0 a1 : TV) (Q : TV → Prop) (h : W39 a0 a1 Q) : VS prog 39 [a0, a1] Q := vs_of (sh := sh) (af := a39) (vc := v39) (by kernel_rfl) (by kernel_rfl) (by kernel_rfl) (by kernel_rfl) rfl ((show W39 a0 a1 Q = evFn sh prog a39 v39 [a0, a1] Q by kernel_rfl) ▸ h)

/-! jetsam/jetsamref07.Holds -/
def v40 : VCode := .seq (.reg r40_0) (.seq (.reg r40_1) (.seq (.seq (.reg r40_2) (.cond (.t 18) (.seq (.reg r40_3) (.ret)) (.skip))) (.seq (.reg r40_4) (.seq (.seq (.reg r40_5) (.cond (.t 28) (.seq (.reg r40_6) (.ret)) (.skip))) (.seq (.seq (.reg r40_7) (.block 0 (.seq (.reg r40_8) (.cond (.t 32) (.seq (.reg r40_9) (.ret)) (.seq (.reg r40_10) (.cond (.t 37) (.seq (.reg r40_11) (.ret)) (.seq (.reg r40_12) (.cond (.t 42) (.seq (.reg r40_13) (.ret)) (.seq (.reg r40_14) (.cond (.t 47) (.seq (.reg r40_15) (.ret)) (.seq (.reg r40_16) (.cond (.t 52) (.seq (.reg r40_17) (.ret)) (.seq (.reg r40_18) (.cond (.t 57) (.seq (.reg r40_19) (.ret)) (.skip))))))))))))))) (.seq (.reg r40_20) (.ret)))))))
def W40 (a0 a1 : TV) (Q : TV → Prop) : Prop :=
  TV.isTp a0 = false ∧
  ∃ v1 : TV, subT a0 1 4 = some v1 ∧
  VS prog 37 [v1, a1] fun r2 => scOk true r2 ∧
  ∃ v3 : TV, extT 0 r2 = some v3 ∧
  ∃ v4 : TV, extT 1 r2 = some v4 ∧
  ∃ v5 : TV, binT .neq v4 (TV.i .i64 0) = some v5 ∧
  condK v5
  (True ∧ tupOk [(TV.b false), v4] ∧ Q (TV.tp [(TV.b false), v4]))
  (∃ v6 : TV, subT a0 5 4 = some v6 ∧
    VS prog 37 [v6, a1] fun r7 => scOk true r7 ∧
    ∃ v8 : TV, extT 0 r7 = some v8 ∧
    ∃ v9 : TV, extT 1 r7 = some v9 ∧
    ∃ v10 : TV, binT .neq v9 (TV.i .i64 0) = some v10 ∧
    condK v10
    (True ∧ tupOk [(TV.b false), v9] ∧ Q (TV.tp [(TV.b false), v9]))
    (∃ v11 : TV, cellT a0 0 = some v11 ∧
      ∃ v12 : TV, binT .eql v11 (TV.i .i64 1) = some v12 ∧
      condK v12
      (∃ v13 : TV, binT .eql v3 v8 = some v13 ∧
        True ∧ tupOk [v13, (TV.i .i64 0)] ∧ Q (TV.tp [v13, (TV.i .i64 0)]))
      (∃ v14 : TV, binT .eql v11 (TV.i .i64 2) = some v14 ∧
        condK v14
        (∃ v15 : TV, binT .neq v3 v8 = some v15 ∧
          True ∧ tupOk [v15, (TV.i .i64 0)] ∧ Q (TV.tp [v15, (TV.i .i64 0)]))
        (∃ v16 : TV, binT .eql v11 (TV.i .i64 3) = some v16 ∧
          condK v16
          (∃ v17 : TV, binT .lss v3 v8 = some v17 ∧
            True ∧ tupOk [v17, (TV.i .i64 0)] ∧ Q (TV.tp [v17, (TV.i .i64 0)]))
          (∃ v18 : TV, binT .eql v11 (TV.i .i64 4) = some v18 ∧
            condK v18
            (∃ v19 : TV, binT .leq v3 v8 = some v19 ∧
              True ∧ tupOk [v19, (TV.i .i64 0)] ∧ Q (TV.tp [v19, (TV.i .i64 0)]))
            (∃ v20 : TV, binT .eql v11 (TV.i .i64 5) = some v20 ∧
              condK v20
              (∃ v21 : TV, binT .gtr v3 v8 = some v21 ∧
                True ∧ tupOk [v21, (TV.i .i64 0)] ∧ Q (TV.tp [v21, (TV.i .i64 0)]))
              (∃ v22 : TV, binT .eql v11 (TV.i .i64 6) = some v22 ∧
                condK v22
                (∃ v23 : TV, binT .geq v3 v8 = some v23 ∧
                  True ∧ tupOk [v23, (TV.i .i64 0)] ∧ Q (TV.tp [v23, (TV.i .i64 0)]))
                (True ∧ tupOk [(TV.b false), (TV.i .i64 0)] ∧ Q (TV.tp [(TV.b false), (TV.i .i64 0)])))))))))
theorem vs40 (a0 a1 : TV) (Q : TV → Prop) (h : W40 a0 a1 Q) : VS prog 40 [a0, a1] Q := vs_of (sh := sh) (af := a40) (vc := v40) (by kernel_rfl) (by kernel_rfl) (by kernel_rfl) (by kernel_rfl) rfl ((show W40 a0 a1 Q = evFn sh prog a40 v40 [a0, a1] Q by kernel_rfl) ▸ h)

/-! jetsam/flow.Not -/
def v41 : VCode := .seq (.reg r41_0) (.seq (.seq (.reg r41_1) (.block 0 (.seq (.reg r41_2) (.cond (.t 4) (.seq (.reg r41_3) (.ret)) (.seq (.reg r41_4) (.cond (.t 6) (.seq (.reg r41_5) (.ret)) (.seq (.reg r41_6) (.cond (.t 8) (.seq (.reg r41_7) (.ret)) (.seq (.reg r41_8) (.cond (.t 10) (.seq (.reg r41_9) (.ret)) (.seq (.reg r41_10) (.cond (.t 12) (.seq (.reg r41_11) (.ret)) (.seq (.reg r41_12) (.cond (.t 14) (.seq (.reg r41_13) (.ret)) (.skip))))))))))))))) (.seq (.reg r41_14) (.ret)))
def W41 (a0 : TV) (Q : TV → Prop) : Prop :=
  ∃ v1 : TV, binT .eql a0 (TV.i .i64 1) = some v1 ∧
  condK v1
  (True ∧ tupOk [(TV.i .i64 2)] ∧ Q (TV.i .i64 2))
  (∃ v2 : TV, binT .eql a0 (TV.i .i64 2) = some v2 ∧
    condK v2
    (True ∧ tupOk [(TV.i .i64 1)] ∧ Q (TV.i .i64 1))
    (∃ v3 : TV, binT .eql a0 (TV.i .i64 3) = some v3 ∧
      condK v3
      (True ∧ tupOk [(TV.i .i64 6)] ∧ Q (TV.i .i64 6))
      (∃ v4 : TV, binT .eql a0 (TV.i .i64 4) = some v4 ∧
        condK v4
        (True ∧ tupOk [(TV.i .i64 5)] ∧ Q (TV.i .i64 5))
        (∃ v5 : TV, binT .eql a0 (TV.i .i64 5) = some v5 ∧
          condK v5
          (True ∧ tupOk [(TV.i .i64 4)] ∧ Q (TV.i .i64 4))
          (∃ v6 : TV, binT .eql a0 (TV.i .i64 6) = some v6 ∧
            condK v6
            (True ∧ tupOk [(TV.i .i64 3)] ∧ Q (TV.i .i64 3))
            (True ∧ tupOk [(TV.i .i64 0)] ∧ Q (TV.i .i64 0)))))))
theorem vs41 (a0 : TV) (Q : TV → Prop) (h : W41 a0 Q) : VS prog 41 [a0] Q := vs_of (sh := sh) (af := a41) (vc := v41) (by kernel_rfl) (by kernel_rfl) (by kernel_rfl) (by kernel_rfl) rfl ((show W41 a0 Q = evFn sh prog a41 v41 [a0] Q by kernel_rfl) ▸ h)

end Go.Ax.TryLe
