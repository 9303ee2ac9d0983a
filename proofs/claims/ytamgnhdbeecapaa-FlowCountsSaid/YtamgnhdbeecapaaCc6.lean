/- Part 6 of the proof: LcW. -/
import Derived.Test.YtamgnhdbeecapaaCc0
import Derived.Test.YtamgnhdbeecapaaCc5
import Derived.KernelRfl

/- What each function asks, over values: printed by a program, each print checked by the kernel. -/
set_option linter.unusedVariables false
set_option maxRecDepth 100000
namespace Go.Ax.TryLc
open Go Go.Ax Go.Ax.V

def sgm : Map Sig := .node none (.node none (.node none (.node none (.node none (.node none (.node (some ⟨[.sl 1], .tr⟩) (.leaf) (.leaf)) (.leaf)) (.node none (.leaf) (.node (some ⟨[.ob [(1, 19), (2, 1)], .tr, .tr, .tr], .tr⟩) (.leaf) (.leaf)))) (.node none (.leaf) (.node none (.node (some ⟨[.sl 1, .tr, .tr, .tr], .tr⟩) (.leaf) (.leaf)) (.node (some ⟨[.sl 1, .tr, .tr, .tr], .tr⟩) (.leaf) (.leaf))))) (.node none (.node none (.leaf) (.node none (.leaf) (.node (some ⟨[.sl 1, .tr, .tr], .tr⟩) (.leaf) (.leaf)))) (.leaf))) (.node none (.node none (.node none (.leaf) (.node none (.leaf) (.node (some ⟨[.sl 1, .tr, .tr], .tr⟩) (.leaf) (.leaf)))) (.leaf)) (.node none (.node none (.leaf) (.node none (.node (some ⟨[.ob [(1, 19), (2, 1)]], .tr⟩) (.leaf) (.leaf)) (.node (some ⟨[.sl 1, .tr, .tr], .tr⟩) (.leaf) (.leaf)))) (.leaf)))) (.node none (.node none (.node none (.node none (.leaf) (.node none (.leaf) (.node (some ⟨[.sl 1, .tr, .tr], .tr⟩) (.leaf) (.leaf)))) (.node none (.leaf) (.node none (.leaf) (.node (some ⟨[.sl 1, .tr, .tr, .tr], .tr⟩) (.leaf) (.leaf))))) (.node none (.node none (.leaf) (.node none (.node (some ⟨[.ob [(1, 19), (2, 1)], .tr], .tr⟩) (.leaf) (.leaf)) (.node (some ⟨[.sl 1, .tr, .tr], .tr⟩) (.leaf) (.leaf)))) (.node none (.node none (.leaf) (.node (some ⟨[.ob [(1, 19), (2, 1)], .tr, .tr, .tr, .tr], .tr⟩) (.leaf) (.leaf))) (.leaf)))) (.node none (.node none (.node none (.leaf) (.node none (.leaf) (.node (some ⟨[.sl 1, .tr, .tr], .tr⟩) (.leaf) (.leaf)))) (.leaf)) (.node none (.node none (.leaf) (.node none (.node (some ⟨[.ob [(1, 19), (2, 1)], .tr, .tr, .tr], .tr⟩) (.leaf) (.leaf)) (.leaf))) (.node none (.node none (.leaf) (.node (some ⟨[.ob [(1, 19), (2, 1)], .tr, .tr, .tr], .tr⟩) (.leaf) (.leaf))) (.node (some ⟨[.ob [(1, 19), (2, 1)], .tr, .tr, .tr], .tr⟩) (.leaf) (.leaf))))))
noncomputable def sh : Sh := ⟨fun f => sgm.get f, VSh prog⟩

/-- (*jetsam/flow.Graph).lay -/
def S62 (Q : TV → List TV → List TV → TV → Prop) (x0 : TV) (x1 : List TV) (x2 : List TV) (x3 : TV) (x4 : TV) (x5 : TV) : Prop := VSh prog 62 4 (jin [.ob [(1, 19), (2, 1)], .tr, .tr, .tr] 0) (jout 4 (.tr) [.ob [(1, 19), (2, 1)], .tr, .tr, .tr] 0) Q x0 x1 x2 x3 x4 x5
/-- slices.Sort[[]int,int] -/
def S63 (Q : List TV → TV → Prop) (x0 : List TV) : Prop := VSh prog 63 1 (jin [.sl 1] 0) (jout 1 (.tr) [.sl 1] 0) Q x0
/-- (*jetsam/flow.Graph).edge -/
def S84 (Q : TV → List TV → List TV → TV → Prop) (x0 : TV) (x1 : List TV) (x2 : List TV) (x3 : TV) : Prop := VSh prog 84 2 (jin [.ob [(1, 19), (2, 1)], .tr] 0) (jout 2 (.tr) [.ob [(1, 19), (2, 1)], .tr] 0) Q x0 x1 x2 x3
/-- (*jetsam/flow.Graph).node -/
def S85 (Q : TV → List TV → List TV → TV → Prop) (x0 : TV) (x1 : List TV) (x2 : List TV) : Prop := VSh prog 85 1 (jin [.ob [(1, 19), (2, 1)]] 0) (jout 1 (.tr) [.ob [(1, 19), (2, 1)]] 0) Q x0 x1 x2
/-- (*jetsam/flow.Graph).stmt -/
def S86 (Q : TV → List TV → List TV → TV → Prop) (x0 : TV) (x1 : List TV) (x2 : List TV) (x3 : TV) (x4 : TV) (x5 : TV) : Prop := VSh prog 86 4 (jin [.ob [(1, 19), (2, 1)], .tr, .tr, .tr] 0) (jout 4 (.tr) [.ob [(1, 19), (2, 1)], .tr, .tr, .tr] 0) Q x0 x1 x2 x3 x4 x5
/-- slices.pdqsortOrdered[int] -/
def S87 (Q : List TV → TV → Prop) (x0 : List TV) (x1 : TV) (x2 : TV) (x3 : TV) : Prop := VSh prog 87 4 (jin [.sl 1, .tr, .tr, .tr] 0) (jout 4 (.tr) [.sl 1, .tr, .tr, .tr] 0) Q x0 x1 x2 x3
/-- (*jetsam/flow.Graph).branch -/
def S108 (Q : TV → List TV → List TV → TV → Prop) (x0 : TV) (x1 : List TV) (x2 : List TV) (x3 : TV) (x4 : TV) (x5 : TV) (x6 : TV) : Prop := VSh prog 108 5 (jin [.ob [(1, 19), (2, 1)], .tr, .tr, .tr, .tr] 0) (jout 5 (.tr) [.ob [(1, 19), (2, 1)], .tr, .tr, .tr, .tr] 0) Q x0 x1 x2 x3 x4 x5 x6
/-- (*jetsam/flow.Graph).loop -/
def S110 (Q : TV → List TV → List TV → TV → Prop) (x0 : TV) (x1 : List TV) (x2 : List TV) (x3 : TV) (x4 : TV) (x5 : TV) : Prop := VSh prog 110 4 (jin [.ob [(1, 19), (2, 1)], .tr, .tr, .tr] 0) (jout 4 (.tr) [.ob [(1, 19), (2, 1)], .tr, .tr, .tr] 0) Q x0 x1 x2 x3 x4 x5
/-- (*jetsam/flow.Graph).recv -/
def S111 (Q : TV → List TV → List TV → TV → Prop) (x0 : TV) (x1 : List TV) (x2 : List TV) (x3 : TV) (x4 : TV) (x5 : TV) : Prop := VSh prog 111 4 (jin [.ob [(1, 19), (2, 1)], .tr, .tr, .tr] 0) (jout 4 (.tr) [.ob [(1, 19), (2, 1)], .tr, .tr, .tr] 0) Q x0 x1 x2 x3 x4 x5
/-- slices.insertionSortOrdered[int] -/
def S112 (Q : List TV → TV → Prop) (x0 : List TV) (x1 : TV) (x2 : TV) : Prop := VSh prog 112 3 (jin [.sl 1, .tr, .tr] 0) (jout 3 (.tr) [.sl 1, .tr, .tr] 0) Q x0 x1 x2
/-- slices.heapSortOrdered[int] -/
def S113 (Q : List TV → TV → Prop) (x0 : List TV) (x1 : TV) (x2 : TV) : Prop := VSh prog 113 3 (jin [.sl 1, .tr, .tr] 0) (jout 3 (.tr) [.sl 1, .tr, .tr] 0) Q x0 x1 x2
/-- slices.breakPatternsOrdered[int] -/
def S114 (Q : List TV → TV → Prop) (x0 : List TV) (x1 : TV) (x2 : TV) : Prop := VSh prog 114 3 (jin [.sl 1, .tr, .tr] 0) (jout 3 (.tr) [.sl 1, .tr, .tr] 0) Q x0 x1 x2
/-- slices.choosePivotOrdered[int] -/
def S115 (Q : List TV → TV → Prop) (x0 : List TV) (x1 : TV) (x2 : TV) : Prop := VSh prog 115 3 (jin [.sl 1, .tr, .tr] 0) (jout 3 (.tr) [.sl 1, .tr, .tr] 0) Q x0 x1 x2
/-- slices.reverseRangeOrdered[int] -/
def S116 (Q : List TV → TV → Prop) (x0 : List TV) (x1 : TV) (x2 : TV) : Prop := VSh prog 116 3 (jin [.sl 1, .tr, .tr] 0) (jout 3 (.tr) [.sl 1, .tr, .tr] 0) Q x0 x1 x2
/-- slices.partialInsertionSortOrdered[int] -/
def S117 (Q : List TV → TV → Prop) (x0 : List TV) (x1 : TV) (x2 : TV) : Prop := VSh prog 117 3 (jin [.sl 1, .tr, .tr] 0) (jout 3 (.tr) [.sl 1, .tr, .tr] 0) Q x0 x1 x2
/-- slices.partitionEqualOrdered[int] -/
def S119 (Q : List TV → TV → Prop) (x0 : List TV) (x1 : TV) (x2 : TV) (x3 : TV) : Prop := VSh prog 119 4 (jin [.sl 1, .tr, .tr, .tr] 0) (jout 4 (.tr) [.sl 1, .tr, .tr, .tr] 0) Q x0 x1 x2 x3
/-- slices.partitionOrdered[int] -/
def S120 (Q : List TV → TV → Prop) (x0 : List TV) (x1 : TV) (x2 : TV) (x3 : TV) : Prop := VSh prog 120 4 (jin [.sl 1, .tr, .tr, .tr] 0) (jout 4 (.tr) [.sl 1, .tr, .tr, .tr] 0) Q x0 x1 x2 x3

/-! jetsam/jetsamlaw05.FlowCounts -/
def v15 : VCode := .seq (.reg r15_0) (.seq (.reg r15_1) (.seq (.reg r15_2) (.seq (.reg r15_3) (.seq (.reg r15_4) (.seq (.dreg r15_5 b15_5 [(2, 3), (2, 7)]) (.seq (.reg r15_6) (.seq (.seq (.reg r15_7) (.cond (.t 53) (.seq (.dreg r15_8 b15_8 [(2, 3), (2, 6)]) (.reg r15_9)) (.skip))) (.seq (.reg r15_10) (.seq (.seq (.reg r15_11) (.cond (.t 86) (.seq (.reg r15_12) (.ret)) (.skip))) (.seq (.reg r15_13) (.seq (.seq (.reg r15_14) (.cond (.t 89) (.reg r15_15) (.skip))) (.seq (.reg r15_16) (.ret)))))))))))))
def W15 (a0 a1 a2 : TV) (Q : TV → Prop) : Prop :=
  ∃ v1 : TV, convT .u64 a0 = some v1 ∧
  ∃ v2 : TV, binT .rem v1 (TV.i .u64 20) = some v2 ∧
  ∃ v3 : TV, convT .i64 v2 = some v3 ∧
  ∃ v4 : TV, convT .u64 a1 = some v4 ∧
  ∃ v5 : TV, binT .rem v4 (TV.i .u64 20) = some v5 ∧
  ∃ v6 : TV, convT .i64 v5 = some v6 ∧
  ∃ v7 : TV, putT (TV.a [(TV.i .i64 0), (TV.i .i64 0), (TV.i .i64 0), (TV.l [])]) 0 1 (TV.i .i64 1) = some v7 ∧
  ∃ v8 : TV, putT v7 1 1 (TV.i .i64 1) = some v8 ∧
  ∃ v9 : TV, putT (TV.a [(TV.i .i64 0), (TV.i .i64 0), (TV.i .i64 0), (TV.l [])]) 0 4 v8 = some v9 ∧
  VS prog 51 [v3] fun r10 => scOk true r10 ∧
  VS prog 51 [v6] fun r11 => scOk true r11 ∧
  ∃ v12 : TV, subT v9 0 4 = some v12 ∧
  ∃ v13 : TV, subT v9 0 4 = some v13 ∧
  ∃ v14 : TV, putT (TV.a [(TV.i .i64 0), (TV.i .i64 0), (TV.i .i64 0), (TV.i .i64 0), (TV.l []), (TV.i .i64 0), (TV.i .i64 0), (TV.i .i64 0), (TV.l [])]) 0 1 (TV.i .i64 1) = some v14 ∧
  ∃ v15 : TV, putT v14 1 4 v12 = some v15 ∧
  ∃ v16 : TV, putT v15 5 4 v13 = some v16 ∧
  ∃ v17 : TV, putT (TV.a [(TV.i .i64 0), (TV.i .i64 0), (TV.i .i64 0), (TV.i .i64 0), (TV.l []), (TV.i .i64 0), (TV.i .i64 0), (TV.i .i64 0), (TV.l [])]) 0 9 v16 = some v17 ∧
  ∃ v18 : List TV, listT r10 = some v18 ∧ szHd 20 v18 ∧
  ∃ v19 : List TV, appT 256 [] v18 = some v19 ∧
  ∃ v20 : TV, subT v17 0 9 = some v20 ∧
  ∃ v21 : TV, putT (TV.a [(TV.i .i64 0), (TV.i .i64 0), (TV.i .i64 0), (TV.i .i64 0), (TV.i .i64 0), (TV.i .i64 0), (TV.i .i64 0), (TV.l []), (TV.i .i64 0), (TV.i .i64 0), (TV.i .i64 0), (TV.i .i64 0), (TV.l []), (TV.i .i64 0), (TV.i .i64 0), (TV.i .i64 0), (TV.l []), (TV.l []), (TV.l []), (TV.l [])]) 0 1 (TV.i .i64 2) = some v21 ∧
  ∃ v22 : TV, putT v21 8 9 v20 = some v22 ∧
  ∃ v23 : TV, putT v22 17 1 r11 = some v23 ∧
  ∃ v24 : TV, putT v23 18 1 r10 = some v24 ∧
  (Nat.beq 0 (0 * 20) && Nat.beq 20 20) = true ∧ true = true ∧ ∃ v25 : TV, putT v24 19 1 (TV.l []) = some v25 ∧
  ∃ v26 : TV, putT v25 7 1 (TV.l []) = some v26 ∧
  ∃ v27 : TV, putT v26 12 1 (TV.l []) = some v27 ∧
  ∃ v28 : TV, putT v27 16 1 (TV.l []) = some v28 ∧
  szOk 20 v28 ∧
  ∃ v29 : List TV, listT (TV.l [v28]) = some v29 ∧ szHd 20 v29 ∧
  ∃ v30 : List TV, appT 256 v19 v29 = some v30 ∧
  ∃ v31 : TV, binT .add v3 (TV.i .i64 2) = some v31 ∧
  ∃ v32 : TV, mnxT true [v6, (TV.i .i64 1)] = some v32 ∧
  ∃ v33 : TV, binT .add v31 v32 = some v33 ∧
  ∃ v34 : TV, mnxT true [v3, (TV.i .i64 1)] = some v34 ∧
  ∃ v35 : TV, binT .add v33 v34 = some v35 ∧
  ∃ v36 : TV, binT .rem a2 (TV.i .i64 2) = some v36 ∧
  ∃ v37 : TV, binT .eql v36 (TV.i .i64 0) = some v37 ∧
  condK v37
  (∃ v38 : List TV, listT r10 = some v38 ∧ szHd 20 v38 ∧
    ∃ v39 : List TV, appT 256 [] v38 = some v39 ∧
    ∃ v40 : TV, subT v17 0 9 = some v40 ∧
    ∃ v41 : TV, putT (TV.a [(TV.i .i64 0), (TV.i .i64 0), (TV.i .i64 0), (TV.i .i64 0), (TV.i .i64 0), (TV.i .i64 0), (TV.i .i64 0), (TV.l []), (TV.i .i64 0), (TV.i .i64 0), (TV.i .i64 0), (TV.i .i64 0), (TV.l []), (TV.i .i64 0), (TV.i .i64 0), (TV.i .i64 0), (TV.l []), (TV.l []), (TV.l []), (TV.l [])]) 0 1 (TV.i .i64 3) = some v41 ∧
    ∃ v42 : TV, putT v41 8 9 v40 = some v42 ∧
    ∃ v43 : TV, putT v42 17 1 r11 = some v43 ∧
    (Nat.beq 0 (0 * 20) && Nat.beq 20 20) = true ∧ true = true ∧ ∃ v44 : TV, putT v43 19 1 (TV.l []) = some v44 ∧
    ∃ v45 : TV, putT v44 18 1 (TV.l []) = some v45 ∧
    ∃ v46 : TV, putT v45 7 1 (TV.l []) = some v46 ∧
    ∃ v47 : TV, putT v46 12 1 (TV.l []) = some v47 ∧
    ∃ v48 : TV, putT v47 16 1 (TV.l []) = some v48 ∧
    szOk 20 v48 ∧
    ∃ v49 : List TV, listT (TV.l [v48]) = some v49 ∧ szHd 20 v49 ∧
    ∃ v50 : List TV, appT 256 v39 v49 = some v50 ∧
    ∃ v51 : TV, binT .add v3 (TV.i .i64 2) = some v51 ∧
    ∃ v52 : TV, mnxT true [v6, (TV.i .i64 1)] = some v52 ∧
    ∃ v53 : TV, binT .add v51 v52 = some v53 ∧
    ∃ v54 : TV, putT (TV.a [(TV.i .i64 0), (TV.l [])]) 0 1 (TV.i .i64 1) = some v54 ∧
    ∃ v55 : TV, putT v54 1 1 (TV.l []) = some v55 ∧
    (Nat.beq 0 (0 * 2) && Nat.beq 2 2) = true ∧ true = true ∧ ∃ v56 : TV, putT v55 1 1 (TV.l v50) = some v56 ∧
    szOk 2 v56 ∧
    ∃ v57 : TV, putT (TV.a [(TV.l []), (TV.l [])]) 1 1 (TV.l [v56]) = some v57 ∧
    ∃ v58 : TV, putT v57 0 1 (TV.l []) = some v58 ∧
    VS prog 43 [v58] fun r59 => scOk true r59 ∧
    ∃ v60 : TV, extT 0 r59 = some v60 ∧
    ∃ v61 : TV, extT 1 r59 = some v61 ∧
    ∃ v62 : TV, putT (TV.a [(TV.l []), (TV.l []), (TV.l [])]) 0 3 v60 = some v62 ∧
    VS prog 46 [] fun r63 => scOk true r63 ∧
    ∃ v64 : TV, unT .not r63 = some v64 ∧
    ∃ v65 : TV, gV v64 false (fun r => some v61 = some r) v65 ∧
    ∃ v66 : TV, gV v64 false (fun r => binT .neq v65 (TV.i .i64 0) = some r) v66 ∧
    ∃ v67 : TV, pickT v64 (TV.b true) v66 = some v67 ∧
    ((v67, false) = ((v67, false) : TV × Bool) ∧ ∃ v68 : TV, gV v67 false (fun r => cellT v62 1 = some r) v68 ∧
    ∃ v69 : TV, gV v67 false (fun r => lenT v68 = some r) v69 ∧
    ∃ v70 : TV, gV v67 false (fun r => binT .neq v69 (TV.i .i64 1) = some r) v70 ∧
    ∃ v71 : TV, pickT v67 (TV.b true) v70 = some v71 ∧
    condK v71
    (True ∧ tupOk [(TV.b false)] ∧ Q (TV.b false))
    (∃ v72 : TV, binT .rem a2 (TV.i .i64 2) = some v72 ∧
      ∃ v73 : TV, binT .eql v72 (TV.i .i64 0) = some v73 ∧
      condK v73
      (∃ v74 : TV, cellT v62 1 = some v74 ∧
        ∃ v75 : TV, (idxT v74 (TV.i .i64 0) = some v75 ∧ szOk 3 v75) ∧
        ∃ v76 : TV, ldT v75 1 none = some v76 ∧
        ∃ v77 : TV, lenT v76 = some v77 ∧
        ∃ v78 : TV, binT .eql v77 v53 = some v78 ∧
        ((v78, true) = ((v78, true) : TV × Bool) ∧ ∃ v79 : TV, gV v78 true (fun r => cellT v62 1 = some r) v79 ∧
        ∃ v80 : TV, gV v78 true (fun r => (idxT v79 (TV.i .i64 0) = some r ∧ szOk 3 r)) v80 ∧
        ((v78, true) = ((v78, true) : TV × Bool) ∧ ((v78, true) = ((v78, true) : TV × Bool) ∧ ∃ v81 : TV, gV v78 true (fun r => ldT v80 2 none = some r) v81 ∧
        ∃ v82 : TV, gV v78 true (fun r => lenT v81 = some r) v82 ∧
        ∃ v83 : TV, gV v78 true (fun r => some (TV.i .i64 1) = some r) v83 ∧
        ∃ v84 : TV, gV v78 true (fun r => binT .eql v82 v83 = some r) v84 ∧
        ∃ v85 : TV, pickT v78 v84 (TV.b false) = some v85 ∧
        ((v85, true) = ((v85, true) : TV × Bool) ∧ ∃ v86 : TV, gV v85 true (fun r => cellT v62 1 = some r) v86 ∧
        ∃ v87 : TV, gV v85 true (fun r => (idxT v86 (TV.i .i64 0) = some r ∧ szOk 3 r)) v87 ∧
        ((v85, true) = ((v85, true) : TV × Bool) ∧ ∃ v88 : TV, gV v85 true (fun r => ldT v87 0 (some 3) = some r) v88 ∧
        ∃ v89 : TV, gV v85 true (fun r => VS prog 50 [v88, (TV.i .i64 1)] fun r' => r' = r ∧ scOk true r) v89 ∧
        ∃ v90 : TV, gV v85 true (fun r => lenT v89 = some r) v90 ∧
        ∃ v91 : TV, gV v85 true (fun r => binT .eql v90 (TV.i .i64 0) = some r) v91 ∧
        ∃ v92 : TV, pickT v85 v91 (TV.b false) = some v92 ∧
        True ∧ tupOk [v92] ∧ Q v92))))))
      (∃ v93 : TV, cellT v62 1 = some v93 ∧
        ∃ v94 : TV, (idxT v93 (TV.i .i64 0) = some v94 ∧ szOk 3 v94) ∧
        ∃ v95 : TV, ldT v94 1 none = some v95 ∧
        ∃ v96 : TV, lenT v95 = some v96 ∧
        ∃ v97 : TV, binT .eql v96 v53 = some v97 ∧
        ((v97, true) = ((v97, true) : TV × Bool) ∧ ∃ v98 : TV, gV v97 true (fun r => cellT v62 1 = some r) v98 ∧
        ∃ v99 : TV, gV v97 true (fun r => (idxT v98 (TV.i .i64 0) = some r ∧ szOk 3 r)) v99 ∧
        ((v97, true) = ((v97, true) : TV × Bool) ∧ ((v97, true) = ((v97, true) : TV × Bool) ∧ ∃ v100 : TV, gV v97 true (fun r => ldT v99 2 none = some r) v100 ∧
        ∃ v101 : TV, gV v97 true (fun r => lenT v100 = some r) v101 ∧
        ∃ v102 : TV, gV v97 true (fun r => some (TV.i .i64 0) = some r) v102 ∧
        ∃ v103 : TV, gV v97 true (fun r => binT .eql v101 v102 = some r) v103 ∧
        ∃ v104 : TV, pickT v97 v103 (TV.b false) = some v104 ∧
        ((v104, true) = ((v104, true) : TV × Bool) ∧ ∃ v105 : TV, gV v104 true (fun r => cellT v62 1 = some r) v105 ∧
        ∃ v106 : TV, gV v104 true (fun r => (idxT v105 (TV.i .i64 0) = some r ∧ szOk 3 r)) v106 ∧
        ((v104, true) = ((v104, true) : TV × Bool) ∧ ∃ v107 : TV, gV v104 true (fun r => ldT v106 0 (some 3) = some r) v107 ∧
        ∃ v108 : TV, gV v104 true (fun r => VS prog 50 [v107, (TV.i .i64 1)] fun r' => r' = r ∧ scOk true r) v108 ∧
        ∃ v109 : TV, gV v104 true (fun r => lenT v108 = some r) v109 ∧
        ∃ v110 : TV, gV v104 true (fun r => binT .eql v109 (TV.i .i64 0) = some r) v110 ∧
        ∃ v111 : TV, pickT v104 v110 (TV.b false) = some v111 ∧
        True ∧ tupOk [v111] ∧ Q v111)))))))))
  (∃ v112 : TV, putT (TV.a [(TV.i .i64 0), (TV.l [])]) 0 1 (TV.i .i64 1) = some v112 ∧
    ∃ v113 : TV, putT v112 1 1 (TV.l []) = some v113 ∧
    (Nat.beq 0 (0 * 2) && Nat.beq 2 2) = true ∧ true = true ∧ ∃ v114 : TV, putT v113 1 1 (TV.l v30) = some v114 ∧
    szOk 2 v114 ∧
    ∃ v115 : TV, putT (TV.a [(TV.l []), (TV.l [])]) 1 1 (TV.l [v114]) = some v115 ∧
    ∃ v116 : TV, putT v115 0 1 (TV.l []) = some v116 ∧
    VS prog 43 [v116] fun r117 => scOk true r117 ∧
    ∃ v118 : TV, extT 0 r117 = some v118 ∧
    ∃ v119 : TV, extT 1 r117 = some v119 ∧
    ∃ v120 : TV, putT (TV.a [(TV.l []), (TV.l []), (TV.l [])]) 0 3 v118 = some v120 ∧
    VS prog 46 [] fun r121 => scOk true r121 ∧
    ∃ v122 : TV, unT .not r121 = some v122 ∧
    ∃ v123 : TV, gV v122 false (fun r => some v119 = some r) v123 ∧
    ∃ v124 : TV, gV v122 false (fun r => binT .neq v123 (TV.i .i64 0) = some r) v124 ∧
    ∃ v125 : TV, pickT v122 (TV.b true) v124 = some v125 ∧
    ((v125, false) = ((v125, false) : TV × Bool) ∧ ∃ v126 : TV, gV v125 false (fun r => cellT v120 1 = some r) v126 ∧
    ∃ v127 : TV, gV v125 false (fun r => lenT v126 = some r) v127 ∧
    ∃ v128 : TV, gV v125 false (fun r => binT .neq v127 (TV.i .i64 1) = some r) v128 ∧
    ∃ v129 : TV, pickT v125 (TV.b true) v128 = some v129 ∧
    condK v129
    (True ∧ tupOk [(TV.b false)] ∧ Q (TV.b false))
    (∃ v130 : TV, binT .rem a2 (TV.i .i64 2) = some v130 ∧
      ∃ v131 : TV, binT .eql v130 (TV.i .i64 0) = some v131 ∧
      condK v131
      (∃ v132 : TV, cellT v120 1 = some v132 ∧
        ∃ v133 : TV, (idxT v132 (TV.i .i64 0) = some v133 ∧ szOk 3 v133) ∧
        ∃ v134 : TV, ldT v133 1 none = some v134 ∧
        ∃ v135 : TV, lenT v134 = some v135 ∧
        ∃ v136 : TV, binT .eql v135 v35 = some v136 ∧
        ((v136, true) = ((v136, true) : TV × Bool) ∧ ∃ v137 : TV, gV v136 true (fun r => cellT v120 1 = some r) v137 ∧
        ∃ v138 : TV, gV v136 true (fun r => (idxT v137 (TV.i .i64 0) = some r ∧ szOk 3 r)) v138 ∧
        ((v136, true) = ((v136, true) : TV × Bool) ∧ ((v136, true) = ((v136, true) : TV × Bool) ∧ ∃ v139 : TV, gV v136 true (fun r => ldT v138 2 none = some r) v139 ∧
        ∃ v140 : TV, gV v136 true (fun r => lenT v139 = some r) v140 ∧
        ∃ v141 : TV, gV v136 true (fun r => some (TV.i .i64 1) = some r) v141 ∧
        ∃ v142 : TV, gV v136 true (fun r => binT .eql v140 v141 = some r) v142 ∧
        ∃ v143 : TV, pickT v136 v142 (TV.b false) = some v143 ∧
        ((v143, true) = ((v143, true) : TV × Bool) ∧ ∃ v144 : TV, gV v143 true (fun r => cellT v120 1 = some r) v144 ∧
        ∃ v145 : TV, gV v143 true (fun r => (idxT v144 (TV.i .i64 0) = some r ∧ szOk 3 r)) v145 ∧
        ((v143, true) = ((v143, true) : TV × Bool) ∧ ∃ v146 : TV, gV v143 true (fun r => ldT v145 0 (some 3) = some r) v146 ∧
        ∃ v147 : TV, gV v143 true (fun r => VS prog 50 [v146, (TV.i .i64 1)] fun r' => r' = r ∧ scOk true r) v147 ∧
        ∃ v148 : TV, gV v143 true (fun r => lenT v147 = some r) v148 ∧
        ∃ v149 : TV, gV v143 true (fun r => binT .eql v148 (TV.i .i64 0) = some r) v149 ∧
        ∃ v150 : TV, pickT v143 v149 (TV.b false) = some v150 ∧
        True ∧ tupOk [v150] ∧ Q v150))))))
      (∃ v151 : TV, cellT v120 1 = some v151 ∧
        ∃ v152 : TV, (idxT v151 (TV.i .i64 0) = some v152 ∧ szOk 3 v152) ∧
        ∃ v153 : TV, ldT v152 1 none = some v153 ∧
        ∃ v154 : TV, lenT v153 = some v154 ∧
        ∃ v155 : TV, binT .eql v154 v35 = some v155 ∧
        ((v155, true) = ((v155, true) : TV × Bool) ∧ ∃ v156 : TV, gV v155 true (fun r => cellT v120 1 = some r) v156 ∧
        ∃ v157 : TV, gV v155 true (fun r => (idxT v156 (TV.i .i64 0) = some r ∧ szOk 3 r)) v157 ∧
        ((v155, true) = ((v155, true) : TV × Bool) ∧ ((v155, true) = ((v155, true) : TV × Bool) ∧ ∃ v158 : TV, gV v155 true (fun r => ldT v157 2 none = some r) v158 ∧
        ∃ v159 : TV, gV v155 true (fun r => lenT v158 = some r) v159 ∧
        ∃ v160 : TV, gV v155 true (fun r => some (TV.i .i64 0) = some r) v160 ∧
        ∃ v161 : TV, gV v155 true (fun r => binT .eql v159 v160 = some r) v161 ∧
        ∃ v162 : TV, pickT v155 v161 (TV.b false) = some v162 ∧
        ((v162, true) = ((v162, true) : TV × Bool) ∧ ∃ v163 : TV, gV v162 true (fun r => cellT v120 1 = some r) v163 ∧
        ∃ v164 : TV, gV v162 true (fun r => (idxT v163 (TV.i .i64 0) = some r ∧ szOk 3 r)) v164 ∧
        ((v162, true) = ((v162, true) : TV × Bool) ∧ ∃ v165 : TV, gV v162 true (fun r => ldT v164 0 (some 3) = some r) v165 ∧
        ∃ v166 : TV, gV v162 true (fun r => VS prog 50 [v165, (TV.i .i64 1)] fun r' => r' = r ∧ scOk true r) v166 ∧
        ∃ v167 : TV, gV v162 true (fun r => lenT v166 = some r) v167 ∧
        ∃ v168 : TV, gV v162 true (fun r => binT .eql v167 (TV.i .i64 0) = some r) v168 ∧
        ∃ v169 : TV, pickT v162 v168 (TV.b false) = some v169 ∧
        True ∧ tupOk [v169] ∧ Q v169)))))))))
theorem vs15 (a0 a1 a2 : TV) (Q : TV → Prop) (h : W15 a0 a1 a2 Q) : VS prog 15 [a0, a1, a2] Q := vs_of (sh := sh) (af := a15) (vc := v15) (by kernel_rfl) (by kernel_rfl) (by kernel_rfl) (by kernel_rfl) rfl ((show W15 a0 a1 a2 Q = evFn sh prog a15 v15 [a0, a1, a2] Q by kernel_rfl) ▸ h)

/-! jetsam/flow.Not -/
def v41 : VCode := .seq (.reg r41_0) (.seq (.seq (.reg r41_1) (.block 0 (.seq (.reg r41_2) (.cond (.t 4) (.seq (.reg r41_3) (.ret)) (.seq (.reg r41_4) (.cond (.t 6) (.seq (.reg r41_5) (.ret)) (.seq (.reg r41_6) (.cond (.t 8) (.seq (.reg r41_7) (.ret)) (.seq (.reg r41_8) (.cond (.t 10) (.seq (.reg r41_9) (.ret)) (.seq (.reg r41_10) (.cond (.t 12) (.seq (.reg r41_11) (.ret)) (.seq (.reg r41_12) (.cond (.t 14) (.seq (.reg r41_13) (.ret)) (.skip))))))))))))))) (.seq (.reg r41_14) (.ret)))
def W41 (a0 : TV) (Q : TV → Prop) : Prop :=
  ∃ v1 : TV, binT .eql a0 (TV.i .i64 1) = some v1 ∧
  condK v1
  (True ∧ tupOk [(TV.i .i64 2)] ∧ Q (TV.i .i64 2))
  (∃ v2 : TV, binT .eql a0 (TV.i .i64 2) = some v2 ∧
    condK v2
    (True ∧ tupOk [(TV.i .i64 1)] ∧ Q (TV.i .i64 1))
    (∃ v3 : TV, binT .eql a0 (TV.i .i64 3) = some v3 ∧
      condK v3
      (True ∧ tupOk [(TV.i .i64 6)] ∧ Q (TV.i .i64 6))
      (∃ v4 : TV, binT .eql a0 (TV.i .i64 4) = some v4 ∧
        condK v4
        (True ∧ tupOk [(TV.i .i64 5)] ∧ Q (TV.i .i64 5))
        (∃ v5 : TV, binT .eql a0 (TV.i .i64 5) = some v5 ∧
          condK v5
          (True ∧ tupOk [(TV.i .i64 4)] ∧ Q (TV.i .i64 4))
          (∃ v6 : TV, binT .eql a0 (TV.i .i64 6) = some v6 ∧
            condK v6
            (True ∧ tupOk [(TV.i .i64 3)] ∧ Q (TV.i .i64 3))
            (True ∧ tupOk [(TV.i .i64 0)] ∧ Q (TV.i .i64 0)))))))
theorem vs41 (a0 : TV) (Q : TV → Prop) (h : W41 a0 Q) : VS prog 41 [a0] Q := vs_of (sh := sh) (af := a41) (vc := v41) (by kernel_rfl) (by kernel_rfl) (by kernel_rfl) (by kernel_rfl) rfl ((show W41 a0 Q = evFn sh prog a41 v41 [a0] Q by kernel_rfl) ▸ h)

/-! jetsam/flow.Build -/
def v43 : VCode := .seq (.reg r43_0) (.seq (.seq (.reg r43_1) (.cond (.t 10) (.seq (.reg r43_2) (.ret)) (.skip))) (.seq (.reg r43_3) (.seq (.seq (.reg r43_4) (.block 0 (.loop [.ob 2 [(0, 6), (1, 3), (2, 1)], .ob 4 [(1, 3), (2, 1)], .pt 2 2 0, .tr 3, .pt 4 4 0, .tr 17, .tr 18, .tr 19] (.seq (.reg r43_5) (.seq (.cond (.t 20) (.skip) (.exit 0)) (.seq (.block 1 (.seq (.reg r43_6) (.seq (.reg r43_7) (.seq (.reg r43_8) (.seq (.seq (.reg r43_9) (.cond (.t 30) (.seq (.reg r43_10) (.ret)) (.skip))) (.seq (.reg r43_11) (.dreg r43_12 b43_12 [(1, 3), (3, 6), (4, 6), (3, 8), (4, 8)]))))))) (.reg r43_13))))))) (.seq (.reg r43_14) (.ret)))))
def W43 (a0 : TV) (Q : TV → Prop) : Prop :=
  TV.isTp a0 = false ∧
  ∃ v1 : TV, subT a0 0 2 = some v1 ∧
  VS prog 60 [v1] fun r2 => scOk true r2 ∧
  ∃ v3 : TV, unT .not r2 = some v3 ∧
  condK v3
  (∃ v4 : TV, putT (TV.a [(TV.l []), (TV.l []), (TV.l [])]) 0 3 (TV.a [(TV.l []), (TV.l []), (TV.l [])]) = some v4 ∧
    True ∧ ∃ v5 : TV, subT v4 0 3 = some v5 ∧
    ∃ v6 : TV, putT v5 2 1 (TV.l []) = some v6 ∧
    ∃ v7 : TV, putT v6 1 1 (TV.l []) = some v7 ∧
    ∃ v8 : TV, putT v7 0 1 (TV.l []) = some v8 ∧
    tupOk [v8, (TV.i .i64 1)] ∧ Q (TV.tp [v8, (TV.i .i64 1)]))
  (∃ v9 : TV, cellT a0 0 = some v9 ∧
    VS prog 61 [v9] fun r10 => scOk true r10 ∧
    ∃ v11 : TV, putT (TV.a [(TV.l []), (TV.l []), (TV.l [])]) 0 1 r10 = some v11 ∧
    ∃ v12 : TV, putT (TV.a [(TV.l []), (TV.l []), (TV.l [])]) 0 3 v11 = some v12 ∧
    ∃ v13 : TV, cellT a0 1 = some v13 ∧
    ∃ v14 : TV, lenT v13 = some v14 ∧
    ∃ I15 : Nat → TV → List TV → List TV → List TV → TV → List TV → List TV → TV → TV → TV → TV → Prop, (∃ n16, I15 n16 (TV.a [(TV.l []), (TV.l []), (TV.l [])]) [] [] [] v12 [] [] (TV.i .i64 0) v13 v14 (TV.i .i64 0)) ∧ ∀ n16 : Nat,
    ∀ o18 : TV, ∀ l19 : List TV, ∀ l20 : List TV, ∀ l21 : List TV, ∀ o22 : TV, ∀ l23 : List TV, ∀ l24 : List TV, ∀ x25 : TV, ∀ x26 : TV, ∀ x27 : TV, ∀ x28 : TV, I15 n16 o18 l19 l20 l21 o22 l23 l24 x25 x26 x27 x28 → 
    ∃ v29 : TV, binT .lss x28 x27 = some v29 ∧
      condK v29
      (∃ v30 : TV, (idxT x26 x28 = some v30 ∧ szOk 2 v30) ∧
        ∃ v31 : TV, ldT v30 0 (some 2) = some v31 ∧
        ∃ v32 : TV, putT (TV.a [(TV.i .i64 0), (TV.l [])]) 0 2 v31 = some v32 ∧
        ∃ v33 : TV, putT (TV.a [(TV.i .i64 0), (TV.l []), (TV.l [])]) 0 1 (TV.i .i64 2) = some v33 ∧
        ∃ v34 : TV, putT (TV.a [(TV.i .i64 0), (TV.l []), (TV.l [])]) 0 3 v33 = some v34 ∧
        ∃ v35 : TV, cellT v32 1 = some v35 ∧
        S62 (fun (o36 : TV) (l37 : List TV) (l38 : List TV) (r39 : TV) =>
        ∃ v40 : TV, some (TV.i .i64 (List.length l37)) = some v40 ∧
        ∃ v41 : TV, binT .gtr v40 (TV.i .i64 400) = some v41 ∧
        condK v41
        (∃ v42 : TV, putT o18 0 3 (TV.a [(TV.l []), (TV.l []), (TV.l [])]) = some v42 ∧
          True ∧ ∃ v43 : TV, subT v42 0 3 = some v43 ∧
          ∃ v44 : TV, putT v43 2 1 (TV.l []) = some v44 ∧
          ∃ v45 : TV, putT v44 1 1 (TV.l []) = some v45 ∧
          ∃ v46 : TV, putT v45 0 1 (TV.l []) = some v46 ∧
          tupOk [v46, (TV.i .i64 10)] ∧ Q (TV.tp [v46, (TV.i .i64 10)]))
        (S63 (fun (l47 : List TV) (r48 : TV) =>
          ∃ v49 : TV, subT o36 0 3 = some v49 ∧
          (Nat.beq 0 (0 * 3) && Nat.beq 3 3) = true ∧ true = true ∧ ∃ v50 : TV, putT v49 2 1 (TV.l l47) = some v50 ∧
          ∃ v51 : TV, putT v50 1 1 (TV.l l37) = some v51 ∧
          szOk 3 v51 ∧
          ∃ v52 : List TV, listT (TV.l [v51]) = some v52 ∧ szHd 3 v52 ∧
          ∃ v53 : List TV, appT 56 l23 v52 = some v53 ∧
          ∃ v54 : TV, cellT v32 0 = some v54 ∧
          (Nat.beq 0 (0 * 1) && Nat.beq 1 1) = true ∧ szOk 1 v54 ∧
          ∃ v55 : List TV, listT (TV.l [v54]) = some v55 ∧ szHd 1 v55 ∧
          ∃ v56 : List TV, appT 8 l24 v55 = some v56 ∧
          ∃ v57 : TV, putT o22 1 1 (TV.l []) = some v57 ∧
          ∃ v58 : TV, putT v57 2 1 (TV.l []) = some v58 ∧
          ∃ v59 : TV, binT .add x28 (TV.i .i64 1) = some v59 ∧
          ∃ m17, m17 < n16 ∧ I15 m17 o18 l19 l20 l21 v58 v53 v56 x25 x26 x27 v59)
          l38))
        v34 [] [] v35 (TV.i .i64 0) (TV.i .i64 1))
      (∃ v60 : TV, subT o22 0 3 = some v60 ∧
        ∃ v61 : TV, putT o18 0 3 v60 = some v61 ∧
        True ∧ ∃ v62 : TV, subT v61 0 3 = some v62 ∧
        ∃ v63 : TV, putT v62 2 1 (TV.l l24) = some v63 ∧
        ∃ v64 : TV, putT v63 1 1 (TV.l l23) = some v64 ∧
        tupOk [v64, (TV.i .i64 0)] ∧ Q (TV.tp [v64, (TV.i .i64 0)])))
theorem vs43 (a0 : TV) (Q : TV → Prop) (h : W43 a0 Q) : VS prog 43 [a0] Q := vs_of (sh := sh) (af := a43) (vc := v43) (by kernel_rfl) (by kernel_rfl) (by kernel_rfl) (by kernel_rfl) rfl ((show W43 a0 Q = evFn sh prog a43 v43 [a0] Q by kernel_rfl) ▸ h)

/-! jetsam/flow.Out -/
def v50 : VCode := .seq (.reg r50_0) (.seq (.reg r50_1) (.seq (.seq (.reg r50_2) (.block 0 (.loop [.tr 1, .sl 4 1, .sl 5 1, .tr 9, .tr 10, .tr 11] (.seq (.reg r50_3) (.seq (.cond (.t 12) (.skip) (.exit 0)) (.seq (.block 1 (.seq (.reg r50_4) (.seq (.reg r50_5) (.cond (.t 19) (.reg r50_6) (.skip))))) (.reg r50_7))))))) (.seq (.reg r50_8) (.ret))))
def W50 (a0 a1 : TV) (Q : TV → Prop) : Prop :=
  TV.isTp a0 = false ∧
  ∃ v1 : TV, cellT a0 1 = some v1 ∧
  ∃ v2 : TV, lenT v1 = some v2 ∧
  ∃ I3 : Nat → TV → List TV → List TV → TV → TV → TV → Prop, (∃ n4, I3 n4 a1 [] [] v1 v2 (TV.i .i64 0)) ∧ ∀ n4 : Nat,
  ∀ x6 : TV, ∀ l7 : List TV, ∀ l8 : List TV, ∀ x9 : TV, ∀ x10 : TV, ∀ x11 : TV, I3 n4 x6 l7 l8 x9 x10 x11 → 
  ∃ v12 : TV, binT .lss x11 x10 = some v12 ∧
    condK v12
    (∃ v13 : TV, (idxT x9 x11 = some v13 ∧ szOk 19 v13) ∧
      ∃ v14 : TV, ldT v13 0 (some 19) = some v14 ∧
      ∃ v15 : TV, putT (TV.a [(TV.i .i64 0), (TV.i .i64 0), (TV.i .i64 0), (TV.i .i64 0), (TV.i .i64 0), (TV.i .i64 0), (TV.i .i64 0), (TV.i .i64 0), (TV.i .i64 0), (TV.l []), (TV.i .i64 0), (TV.i .i64 0), (TV.i .i64 0), (TV.i .i64 0), (TV.l []), (TV.i .i64 0), (TV.i .i64 0), (TV.i .i64 0), (TV.l [])]) 0 19 v14 = some v15 ∧
      ∃ v16 : TV, cellT v15 0 = some v16 ∧
      ∃ v17 : TV, binT .eql v16 x6 = some v17 ∧
      condK v17
      ((Nat.beq 0 (0 * 1) && Nat.beq 1 1) = true ∧ szOk 1 x11 ∧
        ∃ v18 : List TV, listT (TV.l [x11]) = some v18 ∧ szHd 1 v18 ∧
        ∃ v19 : List TV, appT 8 l8 v18 = some v19 ∧
        ∃ v20 : TV, binT .add x11 (TV.i .i64 1) = some v20 ∧
        ∃ m5, m5 < n4 ∧ I3 m5 x6 l7 v19 x9 x10 v20)
      (∃ v21 : TV, binT .add x11 (TV.i .i64 1) = some v21 ∧
        ∃ m5, m5 < n4 ∧ I3 m5 x6 l7 l8 x9 x10 v21))
    (True ∧ tupOk [(TV.l l8)] ∧ Q (TV.l l8))
theorem vs50 (a0 a1 : TV) (Q : TV → Prop) (h : W50 a0 a1 Q) : VS prog 50 [a0, a1] Q := vs_of (sh := sh) (af := a50) (vc := v50) (by kernel_rfl) (by kernel_rfl) (by kernel_rfl) (by kernel_rfl) rfl ((show W50 a0 a1 Q = evFn sh prog a50 v50 [a0, a1] Q by kernel_rfl) ▸ h)

/-! jetsam/jetsamlaw05.row -/
def v51 : VCode := .seq (.reg r51_0) (.seq (.reg r51_1) (.seq (.seq (.reg r51_2) (.block 0 (.loop [.tr 0, .sl 2 20, .sl 3 20, .tr 4] (.seq (.seq (.reg r51_3) (.cond (.t 7) (.skip) (.exit 0))) (.seq (.block 1 (.reg r51_5)) (.reg r51_4)))))) (.seq (.reg r51_6) (.ret))))
def W51 (a0 : TV) (Q : TV → Prop) : Prop :=
  ∃ I1 : Nat → TV → List TV → List TV → TV → Prop, (∃ n2, I1 n2 a0 [] [] (TV.i .i64 0)) ∧ ∀ n2 : Nat,
  ∀ x4 : TV, ∀ l5 : List TV, ∀ l6 : List TV, ∀ x7 : TV, I1 n2 x4 l5 l6 x7 → 
  ∃ v8 : TV, binT .lss x7 x4 = some v8 ∧
    condK v8
    (∃ v9 : TV, putT (TV.a [(TV.i .i64 0), (TV.i .i64 0), (TV.i .i64 0), (TV.i .i64 0), (TV.i .i64 0), (TV.i .i64 0), (TV.i .i64 0), (TV.l []), (TV.i .i64 0), (TV.i .i64 0), (TV.i .i64 0), (TV.i .i64 0), (TV.l []), (TV.i .i64 0), (TV.i .i64 0), (TV.i .i64 0), (TV.l []), (TV.l []), (TV.l []), (TV.l [])]) 0 1 (TV.i .i64 7) = some v9 ∧
      (Nat.beq 0 (0 * 20) && Nat.beq 20 20) = true ∧ true = true ∧ ∃ v10 : TV, putT v9 19 1 (TV.l []) = some v10 ∧
      ∃ v11 : TV, putT v10 18 1 (TV.l []) = some v11 ∧
      ∃ v12 : TV, putT v11 17 1 (TV.l []) = some v12 ∧
      ∃ v13 : TV, putT v12 16 1 (TV.l []) = some v13 ∧
      ∃ v14 : TV, putT v13 12 1 (TV.l []) = some v14 ∧
      ∃ v15 : TV, putT v14 7 1 (TV.l []) = some v15 ∧
      szOk 20 v15 ∧
      ∃ v16 : List TV, listT (TV.l [v15]) = some v16 ∧ szHd 20 v16 ∧
      ∃ v17 : List TV, appT 256 l6 v16 = some v17 ∧
      ∃ v18 : TV, binT .add x7 (TV.i .i64 1) = some v18 ∧
      ∃ m3, m3 < n2 ∧ I1 m3 x4 l5 v17 v18)
    (True ∧ tupOk [(TV.l l6)] ∧ Q (TV.l l6))
theorem vs51 (a0 : TV) (Q : TV → Prop) (h : W51 a0 Q) : VS prog 51 [a0] Q := vs_of (sh := sh) (af := a51) (vc := v51) (by kernel_rfl) (by kernel_rfl) (by kernel_rfl) (by kernel_rfl) rfl ((show W51 a0 Q = evFn sh prog a51 v51 [a0] Q by kernel_rfl) ▸ h)

/-! jetsam/check.Right -/
def v60 : VCode := .seq (.reg r60_0) (.seq (.seq (.reg r60_1) (.cond (.t 17) (.seq (.reg r60_2) (.ret)) (.skip))) (.seq (.seq (.reg r60_3) (.block 0 (.loop [.ob 1 [], .pt 1 1 0, .tr 2, .tr 19, .tr 20, .tr 21] (.seq (.reg r60_4) (.seq (.cond (.t 22) (.skip) (.exit 0)) (.seq (.block 1 (.seq (.reg r60_5) (.seq (.reg r60_6) (.cond (.t 30) (.seq (.reg r60_7) (.ret)) (.skip))))) (.reg r60_8))))))) (.seq (.seq (.reg r60_9) (.block 2 (.loop [.ob 1 [], .pt 1 1 0, .tr 2, .tr 33, .tr 34, .tr 35] (.seq (.reg r60_10) (.seq (.cond (.t 36) (.skip) (.exit 2)) (.seq (.block 3 (.seq (.reg r60_11) (.seq (.reg r60_12) (.cond (.t 54) (.seq (.reg r60_13) (.ret)) (.skip))))) (.reg r60_14))))))) (.seq (.reg r60_15) (.ret)))))
def W60 (a0 : TV) (Q : TV → Prop) : Prop :=
  TV.isTp a0 = false ∧
  ∃ v1 : TV, cellT a0 0 = some v1 ∧
  ∃ v2 : TV, lenT v1 = some v2 ∧
  ∃ v3 : TV, binT .gtr v2 (TV.i .i64 4) = some v3 ∧
  ((v3, false) = ((v3, false) : TV × Bool) ∧ ∃ v4 : TV, gV v3 false (fun r => cellT a0 1 = some r) v4 ∧
  ∃ v5 : TV, gV v3 false (fun r => lenT v4 = some r) v5 ∧
  ∃ v6 : TV, gV v3 false (fun r => VS prog 81 [v5, (TV.i .i64 1), (TV.i .i64 4)] fun r' => r' = r ∧ scOk true r) v6 ∧
  ∃ v7 : TV, gV v3 false (fun r => unT .not v6 = some r) v7 ∧
  ∃ v8 : TV, pickT v3 (TV.b true) v7 = some v8 ∧
  condK v8
  (True ∧ tupOk [(TV.b false)] ∧ Q (TV.b false))
  (∃ v9 : TV, cellT a0 0 = some v9 ∧
    ∃ v10 : TV, lenT v9 = some v10 ∧
    ∃ I11 : Nat → TV → TV → TV → TV → TV → Prop, (∃ n12, I11 n12 a0 (TV.b false) v9 v10 (TV.i .i64 0)) ∧ ∀ n12 : Nat,
    ∀ o14 : TV, ∀ x15 : TV, ∀ x16 : TV, ∀ x17 : TV, ∀ x18 : TV, I11 n12 o14 x15 x16 x17 x18 → 
    ∃ v19 : TV, binT .lss x18 x17 = some v19 ∧
      condK v19
      (∃ v20 : TV, (idxT x16 x18 = some v20 ∧ szOk 6 v20) ∧
        ∃ v21 : TV, ldT v20 0 (some 6) = some v21 ∧
        ∃ v22 : TV, putT (TV.a [(TV.i .i64 0), (TV.i .i64 0), (TV.i .i64 0), (TV.i .i64 0), (TV.i .i64 0), (TV.l [])]) 0 6 v21 = some v22 ∧
        ∃ v23 : TV, subT v22 0 6 = some v23 ∧
        ∃ v24 : TV, cellT o14 1 = some v24 ∧
        ∃ v25 : TV, lenT v24 = some v25 ∧
        VS prog 82 [v23, v25] fun r26 => scOk true r26 ∧
        ∃ v27 : TV, unT .not r26 = some v27 ∧
        condK v27
        (True ∧ tupOk [(TV.b false)] ∧ Q (TV.b false))
        (∃ v28 : TV, binT .add x18 (TV.i .i64 1) = some v28 ∧
          ∃ m13, m13 < n12 ∧ I11 m13 o14 x15 x16 x17 v28))
      (∃ v29 : TV, cellT o14 1 = some v29 ∧
        ∃ v30 : TV, lenT v29 = some v30 ∧
        ∃ I31 : Nat → TV → TV → TV → TV → TV → Prop, (∃ n32, I31 n32 o14 x15 v29 v30 (TV.i .i64 0)) ∧ ∀ n32 : Nat,
        ∀ o34 : TV, ∀ x35 : TV, ∀ x36 : TV, ∀ x37 : TV, ∀ x38 : TV, I31 n32 o34 x35 x36 x37 x38 → 
        ∃ v39 : TV, binT .lss x38 x37 = some v39 ∧
          condK v39
          (∃ v40 : TV, (idxT x36 x38 = some v40 ∧ szOk 2 v40) ∧
            ∃ v41 : TV, ldT v40 0 (some 2) = some v41 ∧
            ∃ v42 : TV, putT (TV.a [(TV.i .i64 0), (TV.l [])]) 0 2 v41 = some v42 ∧
            ∃ v43 : TV, cellT v42 0 = some v43 ∧
            VS prog 81 [v43, (TV.i .i64 0), (TV.i .i64 6)] fun r44 => scOk true r44 ∧
            ∃ v45 : TV, unT .not r44 = some v45 ∧
            ∃ v46 : TV, gV v45 false (fun r => subT o34 0 2 = some r) v46 ∧
            ∃ v47 : TV, gV v45 false (fun r => some x38 = some r) v47 ∧
            ((v45, false) = ((v45, false) : TV × Bool) ∧ ∃ v48 : TV, gV v45 false (fun r => cellT v42 0 = some r) v48 ∧
            ∃ v49 : TV, gV v45 false (fun r => partsO [(0, 2, v46), (2, 1, v47), (3, 1, v48)] (TV.a [(TV.l []), (TV.l []), (TV.i .i64 0), (TV.i .i64 0)]) = some r) v49 ∧
            ((v45, false) = ((v45, false) : TV × Bool) ∧ ∃ v50 : TV, gV v45 false (fun r => cellT v42 1 = some r) v50 ∧
            ∃ v51 : TV, gV v45 false (fun r => VS prog 83 [v49, v50] fun r' => r' = r ∧ scOk true r) v51 ∧
            ∃ v52 : TV, gV v45 false (fun r => unT .not v51 = some r) v52 ∧
            ∃ v53 : TV, pickT v45 (TV.b true) v52 = some v53 ∧
            condK v53
            (True ∧ tupOk [(TV.b false)] ∧ Q (TV.b false))
            (∃ v54 : TV, binT .add x38 (TV.i .i64 1) = some v54 ∧
              ∃ m33, m33 < n32 ∧ I31 m33 o34 x35 x36 x37 v54))))
          (True ∧ tupOk [(TV.b true)] ∧ Q (TV.b true)))))
theorem vs60 (a0 : TV) (Q : TV → Prop) (h : W60 a0 Q) : VS prog 60 [a0] Q := vs_of (sh := sh) (af := a60) (vc := v60) (by kernel_rfl) (by kernel_rfl) (by kernel_rfl) (by kernel_rfl) rfl ((show W60 a0 Q = evFn sh prog a60 v60 [a0] Q by kernel_rfl) ▸ h)

/-! jetsam/flow.channels -/
def v61 : VCode := .seq (.reg r61_0) (.seq (.reg r61_1) (.seq (.seq (.reg r61_2) (.block 0 (.loop [.sl 2 6, .sl 3 6, .tr 9, .tr 10, .tr 11] (.seq (.reg r61_3) (.seq (.cond (.t 12) (.skip) (.exit 0)) (.seq (.block 1 (.seq (.reg r61_4) (.seq (.reg r61_5) (.seq (.reg r61_6) (.seq (.seq (.reg r61_7) (.block 2 (.loop [.ob 5 [(5, 1)], .sl 2 6, .sl 3 6, .pt 5 5 0, .tr 6, .tr 9, .tr 10, .tr 11, .tr 12, .tr 14, .pt 15 5 5, .tr 16, .pt 17 5 5, .tr 18, .tr 19, .tr 20] (.seq (.reg r61_8) (.seq (.cond (.t 21) (.skip) (.exit 2)) (.seq (.block 3 (.seq (.reg r61_9) (.dreg r61_10 b61_10 [(1, 4)]))) (.reg r61_11))))))) (.reg r61_12)))))) (.reg r61_13))))))) (.seq (.reg r61_14) (.ret))))
def W61 (a0 : TV) (Q : TV → Prop) : Prop :=
  ∃ v1 : TV, lenT a0 = some v1 ∧
  ∃ I2 : Nat → List TV → List TV → TV → TV → TV → Prop, (∃ n3, I2 n3 [] [] a0 v1 (TV.i .i64 0)) ∧ ∀ n3 : Nat,
  ∀ l5 : List TV, ∀ l6 : List TV, ∀ x7 : TV, ∀ x8 : TV, ∀ x9 : TV, I2 n3 l5 l6 x7 x8 x9 → 
  ∃ v10 : TV, binT .lss x9 x8 = some v10 ∧
    condK v10
    (∃ v11 : TV, (idxT x7 x9 = some v11 ∧ szOk 6 v11) ∧
      ∃ v12 : TV, ldT v11 0 (some 6) = some v12 ∧
      ∃ v13 : TV, putT (TV.a [(TV.i .i64 0), (TV.i .i64 0), (TV.i .i64 0), (TV.i .i64 0), (TV.i .i64 0), (TV.l [])]) 0 6 v12 = some v13 ∧
      ∃ v14 : TV, cellT v13 5 = some v14 ∧
      ∃ v15 : TV, putT v13 5 1 (TV.l []) = some v15 ∧
      ∃ v16 : TV, lenT v14 = some v16 ∧
      ∃ I17 : Nat → TV → List TV → List TV → List TV → TV → TV → TV → TV → TV → TV → TV → TV → TV → TV → Prop, (∃ n18, I17 n18 v15 [] l5 l6 v14 x7 x8 x9 v10 v12 v14 v14 v16 (TV.i .i64 0)) ∧ ∀ n18 : Nat,
      ∀ o20 : TV, ∀ l21 : List TV, ∀ l22 : List TV, ∀ l23 : List TV, ∀ x24 : TV, ∀ x25 : TV, ∀ x26 : TV, ∀ x27 : TV, ∀ x28 : TV, ∀ x29 : TV, ∀ x30 : TV, ∀ x31 : TV, ∀ x32 : TV, ∀ x33 : TV, I17 n18 o20 l21 l22 l23 x24 x25 x26 x27 x28 x29 x30 x31 x32 x33 → 
      ∃ v34 : TV, binT .lss x33 x32 = some v34 ∧
        condK v34
        (∃ v35 : TV, (idxT x31 x33 = some v35 ∧ szOk 1 v35) ∧
          ∃ v36 : TV, ldT v35 0 none = some v36 ∧
          VS prog 56 [v36] fun r37 => scOk true r37 ∧
          (Nat.beq 0 (0 * 1) && Nat.beq 1 1) = true ∧ szOk 1 r37 ∧
          ∃ v38 : List TV, listT (TV.l [r37]) = some v38 ∧ szHd 1 v38 ∧
          ∃ v39 : List TV, appT 24 l21 v38 = some v39 ∧
          ∃ v40 : TV, putT o20 5 1 (TV.l []) = some v40 ∧
          ∃ v41 : TV, binT .add x33 (TV.i .i64 1) = some v41 ∧
          ∃ m19, m19 < n18 ∧ I17 m19 v40 v39 l22 l23 x24 x25 x26 x27 x28 x29 x30 x31 x32 v41)
        (∃ v42 : TV, subT o20 0 6 = some v42 ∧
          (Nat.beq 0 (0 * 6) && Nat.beq 6 6) = true ∧ true = true ∧ ∃ v43 : TV, putT v42 5 1 (TV.l l21) = some v43 ∧
          szOk 6 v43 ∧
          ∃ v44 : List TV, listT (TV.l [v43]) = some v44 ∧ szHd 6 v44 ∧
          ∃ v45 : List TV, appT 64 l23 v44 = some v45 ∧
          ∃ v46 : TV, binT .add x27 (TV.i .i64 1) = some v46 ∧
          ∃ m4, m4 < n3 ∧ I2 m4 l22 v45 x25 x26 v46))
    (True ∧ tupOk [(TV.l l6)] ∧ Q (TV.l l6))
theorem vs61 (a0 : TV) (Q : TV → Prop) (h : W61 a0 Q) : VS prog 61 [a0] Q := vs_of (sh := sh) (af := a61) (vc := v61) (by kernel_rfl) (by kernel_rfl) (by kernel_rfl) (by kernel_rfl) rfl ((show W61 a0 Q = evFn sh prog a61 v61 [a0] Q by kernel_rfl) ▸ h)

/-! jetsam/check.within -/
def v81 : VCode := .seq (.reg r81_0) (.seq (.reg r81_1) (.ret))
def W81 (a0 a1 a2 : TV) (Q : TV → Prop) : Prop :=
  ∃ v1 : TV, binT .geq a0 a1 = some v1 ∧
  ∃ v2 : TV, gV v1 true (fun r => some a0 = some r) v2 ∧
  ∃ v3 : TV, gV v1 true (fun r => some a2 = some r) v3 ∧
  ∃ v4 : TV, gV v1 true (fun r => binT .leq v2 v3 = some r) v4 ∧
  ∃ v5 : TV, pickT v1 v4 (TV.b false) = some v5 ∧
  True ∧ tupOk [v5] ∧ Q v5
theorem vs81 (a0 a1 a2 : TV) (Q : TV → Prop) (h : W81 a0 a1 a2 Q) : VS prog 81 [a0, a1, a2] Q := vs_of (sh := sh) (af := a81) (vc := v81) (by kernel_rfl) (by kernel_rfl) (by kernel_rfl) (by kernel_rfl) rfl ((show W81 a0 a1 a2 Q = evFn sh prog a81 v81 [a0, a1, a2] Q by kernel_rfl) ▸ h)

/-! jetsam/check.channel -/
def v82 : VCode := .seq (.reg r82_0) (.seq (.reg r82_1) (.seq (.reg r82_2) (.ret)))
def W82 (a0 a1 : TV) (Q : TV → Prop) : Prop :=
  TV.isTp a0 = false ∧
  ∃ v1 : TV, cellT a0 0 = some v1 ∧
  VS prog 81 [v1, (TV.i .i64 0), (TV.i .i64 2)] fun r2 => scOk true r2 ∧
  ((r2, true) = ((r2, true) : TV × Bool) ∧ ∃ v3 : TV, gV r2 true (fun r => cellT a0 1 = some r) v3 ∧
  ∃ v4 : TV, gV r2 true (fun r => VS prog 81 [v3, (TV.i .i64 1), (TV.i .i64 16)] fun r' => r' = r ∧ scOk true r) v4 ∧
  ∃ v5 : TV, pickT r2 v4 (TV.b false) = some v5 ∧
  ((v5, true) = ((v5, true) : TV × Bool) ∧ ∃ v6 : TV, gV v5 true (fun r => cellT a0 4 = some r) v6 ∧
  ∃ v7 : TV, gV v5 true (fun r => VS prog 81 [v6, (TV.i .i64 1), (TV.i .i64 4)] fun r' => r' = r ∧ scOk true r) v7 ∧
  ∃ v8 : TV, pickT v5 v7 (TV.b false) = some v8 ∧
  ((v8, true) = ((v8, true) : TV × Bool) ∧ ∃ v9 : TV, gV v8 true (fun r => cellT a0 2 = some r) v9 ∧
  ∃ v10 : TV, gV v8 true (fun r => some a1 = some r) v10 ∧
  ∃ v11 : TV, gV v8 true (fun r => binT .sub v10 (TV.i .i64 1) = some r) v11 ∧
  ∃ v12 : TV, gV v8 true (fun r => VS prog 81 [v9, (TV.i .i64 0), v11] fun r' => r' = r ∧ scOk true r) v12 ∧
  ∃ v13 : TV, pickT v8 v12 (TV.b false) = some v13 ∧
  ((v13, true) = ((v13, true) : TV × Bool) ∧ ∃ v14 : TV, gV v13 true (fun r => cellT a0 3 = some r) v14 ∧
  ∃ v15 : TV, gV v13 true (fun r => some a1 = some r) v15 ∧
  ∃ v16 : TV, gV v13 true (fun r => binT .sub v15 (TV.i .i64 1) = some r) v16 ∧
  ∃ v17 : TV, gV v13 true (fun r => VS prog 81 [v14, (TV.i .i64 0), v16] fun r' => r' = r ∧ scOk true r) v17 ∧
  ∃ v18 : TV, pickT v13 v17 (TV.b false) = some v18 ∧
  ((v18, true) = ((v18, true) : TV × Bool) ∧ ∃ v19 : TV, gV v18 true (fun r => cellT a0 2 = some r) v19 ∧
  ((v18, true) = ((v18, true) : TV × Bool) ∧ ∃ v20 : TV, gV v18 true (fun r => cellT a0 3 = some r) v20 ∧
  ∃ v21 : TV, gV v18 true (fun r => binT .neq v19 v20 = some r) v21 ∧
  ∃ v22 : TV, pickT v18 v21 (TV.b false) = some v22 ∧
  ∃ v23 : TV, gV v22 true (fun r => subT a0 0 6 = some r) v23 ∧
  ∃ v24 : TV, gV v22 true (fun r => VS prog 104 [v23] fun r' => r' = r ∧ scOk true r) v24 ∧
  ∃ v25 : TV, pickT v22 v24 (TV.b false) = some v25 ∧
  True ∧ tupOk [v25] ∧ Q v25))))))
theorem vs82 (a0 a1 : TV) (Q : TV → Prop) (h : W82 a0 a1 Q) : VS prog 82 [a0, a1] Q := vs_of (sh := sh) (af := a82) (vc := v82) (by kernel_rfl) (by kernel_rfl) (by kernel_rfl) (by kernel_rfl) rfl ((show W82 a0 a1 Q = evFn sh prog a82 v82 [a0, a1] Q by kernel_rfl) ▸ h)

/-! (jetsam/check.looker).stmts -/
def v83 : VCode := .seq (.reg r83_0) (.seq (.seq (.reg r83_1) (.block 0 (.loop [.ob 2 [], .pt 2 2 0, .tr 4, .tr 7, .tr 8, .tr 9] (.seq (.reg r83_2) (.seq (.cond (.t 10) (.skip) (.exit 0)) (.seq (.block 1 (.seq (.reg r83_3) (.seq (.reg r83_4) (.cond (.t 16) (.seq (.reg r83_5) (.ret)) (.skip))))) (.reg r83_6))))))) (.seq (.reg r83_7) (.ret)))
def W83 (a0 a1 : TV) (Q : TV → Prop) : Prop :=
  TV.isTp a0 = false ∧
  ∃ v1 : TV, lenT a1 = some v1 ∧
  ∃ I2 : Nat → TV → TV → TV → TV → TV → Prop, (∃ n3, I2 n3 a0 (TV.b false) a1 v1 (TV.i .i64 0)) ∧ ∀ n3 : Nat,
  ∀ o5 : TV, ∀ x6 : TV, ∀ x7 : TV, ∀ x8 : TV, ∀ x9 : TV, I2 n3 o5 x6 x7 x8 x9 → 
  ∃ v10 : TV, binT .lss x9 x8 = some v10 ∧
    condK v10
    (∃ v11 : TV, (idxT x7 x9 = some v11 ∧ szOk 20 v11) ∧
      ∃ v12 : TV, ldT v11 0 (some 20) = some v12 ∧
      ∃ v13 : TV, putT (TV.a [(TV.i .i64 0), (TV.i .i64 0), (TV.i .i64 0), (TV.i .i64 0), (TV.i .i64 0), (TV.i .i64 0), (TV.i .i64 0), (TV.l []), (TV.i .i64 0), (TV.i .i64 0), (TV.i .i64 0), (TV.i .i64 0), (TV.l []), (TV.i .i64 0), (TV.i .i64 0), (TV.i .i64 0), (TV.l []), (TV.l []), (TV.l []), (TV.l [])]) 0 20 v12 = some v13 ∧
      ∃ v14 : TV, subT o5 0 4 = some v14 ∧
      ∃ v15 : TV, subT v13 0 20 = some v15 ∧
      VS prog 105 [v14, v15] fun r16 => scOk true r16 ∧
      ∃ v17 : TV, unT .not r16 = some v17 ∧
      condK v17
      (True ∧ tupOk [(TV.b false)] ∧ Q (TV.b false))
      (∃ v18 : TV, binT .add x9 (TV.i .i64 1) = some v18 ∧
        ∃ m4, m4 < n3 ∧ I2 m4 o5 x6 x7 x8 v18))
    (True ∧ tupOk [(TV.b true)] ∧ Q (TV.b true))
theorem vs83 (a0 a1 : TV) (Q : TV → Prop) (h : W83 a0 a1 Q) : VS prog 83 [a0, a1] Q := vs_of (sh := sh) (af := a83) (vc := v83) (by kernel_rfl) (by kernel_rfl) (by kernel_rfl) (by kernel_rfl) rfl ((show W83 a0 a1 Q = evFn sh prog a83 v83 [a0, a1] Q by kernel_rfl) ▸ h)

/-! math/bits.Len -/
def v88 : VCode := .seq (.reg r88_0) (.seq (.cond (.c (.bool false)) (.seq (.reg r88_1) (.ret)) (.skip)) (.seq (.reg r88_2) (.ret)))
def W88 (a0 : TV) (Q : TV → Prop) : Prop :=
  condK (TV.b false)
  (∃ v1 : TV, convT .u32 a0 = some v1 ∧
    VS prog 121 [v1] fun r2 => scOk true r2 ∧
    True ∧ tupOk [r2] ∧ Q r2)
  (VS prog 122 [a0] fun r3 => scOk true r3 ∧
    True ∧ tupOk [r3] ∧ Q r3)
theorem vs88 (a0 : TV) (Q : TV → Prop) (h : W88 a0 Q) : VS prog 88 [a0] Q := vs_of (sh := sh) (af := a88) (vc := v88) (by kernel_rfl) (by kernel_rfl) (by kernel_rfl) (by kernel_rfl) rfl ((show W88 a0 Q = evFn sh prog a88 v88 [a0] Q by kernel_rfl) ▸ h)

/-! jetsam/check.ruled -/
def v104 : VCode := .seq (.reg r104_0) (.seq (.reg r104_1) (.seq (.seq (.reg r104_2) (.block 0 (.loop [.ob 1 [], .pt 1 1 0, .tr 2, .tr 3, .tr 9, .tr 10, .tr 11] (.seq (.reg r104_3) (.seq (.cond (.t 12) (.skip) (.exit 0)) (.seq (.block 1 (.seq (.reg r104_4) (.seq (.seq (.reg r104_5) (.cond (.t 20) (.seq (.reg r104_6) (.ret)) (.skip))) (.seq (.reg r104_7) (.block 2 (.loop [.ob 1 [], .pt 1 1 0, .tr 2, .tr 3, .tr 4, .tr 5, .tr 9, .tr 10, .tr 11, .tr 12, .tr 13, .tr 15, .tr 16, .tr 17, .pt 18 1 4, .tr 19, .tr 20, .tr 21, .tr 22, .tr 23] (.seq (.reg r104_8) (.seq (.cond (.t 24) (.skip) (.exit 2)) (.seq (.block 3 (.seq (.reg r104_9) (.seq (.seq (.reg r104_10) (.cond (.t 33) (.seq (.reg r104_11) (.ret)) (.skip))) (.seq (.reg r104_12) (.cond (.t 35) (.reg r104_13) (.skip)))))) (.reg r104_14)))))))))) (.reg r104_15))))))) (.seq (.reg r104_16) (.ret))))
def W104 (a0 : TV) (Q : TV → Prop) : Prop :=
  TV.isTp a0 = false ∧
  ∃ v1 : TV, cellT a0 5 = some v1 ∧
  ∃ v2 : TV, lenT v1 = some v2 ∧
  ∃ I3 : Nat → TV → TV → TV → TV → TV → TV → Prop, (∃ n4, I3 n4 a0 (TV.b false) (TV.i .i64 0) v1 v2 (TV.i .i64 0)) ∧ ∀ n4 : Nat,
  ∀ o6 : TV, ∀ x7 : TV, ∀ x8 : TV, ∀ x9 : TV, ∀ x10 : TV, ∀ x11 : TV, I3 n4 o6 x7 x8 x9 x10 x11 → 
  ∃ v12 : TV, binT .lss x11 x10 = some v12 ∧
    condK v12
    (∃ v13 : TV, (idxT x9 x11 = some v13 ∧ szOk 1 v13) ∧
      ∃ v14 : TV, ldT v13 0 none = some v14 ∧
      ∃ v15 : TV, lenT v14 = some v15 ∧
      ∃ v16 : TV, cellT o6 4 = some v16 ∧
      ∃ v17 : TV, binT .neq v15 v16 = some v17 ∧
      condK v17
      (True ∧ tupOk [(TV.b false)] ∧ Q (TV.b false))
      (∃ v18 : TV, lenT v14 = some v18 ∧
        ∃ I19 : Nat → TV → TV → TV → TV → TV → TV → TV → TV → TV → TV → TV → TV → TV → TV → TV → TV → TV → TV → Prop, (∃ n20, I19 n20 o6 x7 x8 x11 v14 x9 x10 x11 v12 x11 v14 v14 v15 v16 v17 v14 v18 (TV.i .i64 0)) ∧ ∀ n20 : Nat,
        ∀ o22 : TV, ∀ x23 : TV, ∀ x24 : TV, ∀ x25 : TV, ∀ x26 : TV, ∀ x27 : TV, ∀ x28 : TV, ∀ x29 : TV, ∀ x30 : TV, ∀ x31 : TV, ∀ x32 : TV, ∀ x33 : TV, ∀ x34 : TV, ∀ x35 : TV, ∀ x36 : TV, ∀ x37 : TV, ∀ x38 : TV, ∀ x39 : TV, I19 n20 o22 x23 x24 x25 x26 x27 x28 x29 x30 x31 x32 x33 x34 x35 x36 x37 x38 x39 → 
        ∃ v40 : TV, binT .lss x39 x38 = some v40 ∧
          condK v40
          (∃ v41 : TV, (idxT x37 x39 = some v41 ∧ szOk 1 v41) ∧
            ∃ v42 : TV, ldT v41 0 none = some v42 ∧
            ∃ v43 : TV, cellT o22 5 = some v43 ∧
            ∃ v44 : TV, lenT v43 = some v44 ∧
            ∃ v45 : TV, binT .sub v44 (TV.i .i64 1) = some v45 ∧
            VS prog 81 [v42, (TV.i .i64 (-1)), v45] fun r46 => scOk true r46 ∧
            ∃ v47 : TV, unT .not r46 = some v47 ∧
            condK v47
            (True ∧ tupOk [(TV.b false)] ∧ Q (TV.b false))
            (∃ v48 : TV, binT .neq v42 (TV.i .i64 (-1)) = some v48 ∧
              condK v48
              (∃ v49 : TV, mnxT true [x24, x25, v42] = some v49 ∧
                ∃ v50 : TV, binT .add x39 (TV.i .i64 1) = some v50 ∧
                ∃ m21, m21 < n20 ∧ I19 m21 o22 x23 v49 x25 x26 x27 x28 x29 x30 x31 x32 x33 x34 x35 x36 x37 x38 v50)
              (∃ v51 : TV, binT .add x39 (TV.i .i64 1) = some v51 ∧
                ∃ m21, m21 < n20 ∧ I19 m21 o22 x23 x24 x25 x26 x27 x28 x29 x30 x31 x32 x33 x34 x35 x36 x37 x38 v51)))
          (∃ v52 : TV, binT .add x29 (TV.i .i64 1) = some v52 ∧
            ∃ m5, m5 < n4 ∧ I3 m5 o22 x23 x24 x27 x28 v52)))
    (∃ v53 : TV, cellT o6 5 = some v53 ∧
      ∃ v54 : TV, lenT v53 = some v54 ∧
      ∃ v55 : TV, binT .eql v54 (TV.i .i64 0) = some v55 ∧
      ∃ v56 : TV, gV v55 false (fun r => some x8 = some r) v56 ∧
      ((v55, false) = ((v55, false) : TV × Bool) ∧ ∃ v57 : TV, gV v55 false (fun r => cellT o6 5 = some r) v57 ∧
      ∃ v58 : TV, gV v55 false (fun r => lenT v57 = some r) v58 ∧
      ∃ v59 : TV, gV v55 false (fun r => binT .sub v58 (TV.i .i64 1) = some r) v59 ∧
      ∃ v60 : TV, gV v55 false (fun r => binT .eql v56 v59 = some r) v60 ∧
      ∃ v61 : TV, gV v55 false (fun r => some v60 = some r) v61 ∧
      ((v61, true) = ((v61, true) : TV × Bool) ∧ ∃ v62 : TV, gV v61 true (fun r => cellT o6 5 = some r) v62 ∧
      ∃ v63 : TV, gV v61 true (fun r => lenT v62 = some r) v63 ∧
      ∃ v64 : TV, gV v61 true (fun r => binT .leq v63 (TV.i .i64 8) = some r) v64 ∧
      ∃ v65 : TV, gV v55 false (fun r => pickT v61 v64 (TV.b false) = some r) v65 ∧
      ∃ v66 : TV, pickT v55 (TV.b true) v65 = some v66 ∧
      True ∧ tupOk [v66] ∧ Q v66)))
theorem vs104 (a0 : TV) (Q : TV → Prop) (h : W104 a0 Q) : VS prog 104 [a0] Q := vs_of (sh := sh) (af := a104) (vc := v104) (by kernel_rfl) (by kernel_rfl) (by kernel_rfl) (by kernel_rfl) rfl ((show W104 a0 Q = evFn sh prog a104 v104 [a0] Q by kernel_rfl) ▸ h)

/-! (jetsam/check.looker).stmt -/
def v105 : VCode := .seq (.reg r105_0) (.seq (.dreg r105_1 b105_1 []) (.seq (.dreg r105_2 b105_2 []) (.seq (.dreg r105_3 b105_3 []) (.seq (.reg r105_4) (.seq (.seq (.reg r105_5) (.block 0 (.seq (.reg r105_6) (.cond (.t 43) (.seq (.reg r105_7) (.ret)) (.seq (.reg r105_8) (.cond (.t 73) (.seq (.reg r105_9) (.ret)) (.seq (.reg r105_10) (.cond (.t 99) (.seq (.reg r105_11) (.ret)) (.seq (.reg r105_12) (.cond (.t 124) (.seq (.reg r105_13) (.ret)) (.seq (.reg r105_14) (.cond (.t 152) (.seq (.reg r105_15) (.ret)) (.seq (.reg r105_16) (.cond (.t 183) (.seq (.reg r105_17) (.ret)) (.seq (.reg r105_18) (.cond (.t 219) (.seq (.reg r105_19) (.ret)) (.skip))))))))))))))))) (.seq (.reg r105_20) (.ret)))))))
def W105 (a0 a1 : TV) (Q : TV → Prop) : Prop :=
  TV.isTp a0 = false ∧
  TV.isTp a1 = false ∧
  ∃ v1 : TV, subT a1 4 4 = some v1 ∧
  VS prog 141 [v1] fun r2 => scOk true r2 ∧
  ∃ v3 : TV, subT a1 8 9 = some v3 ∧
  VS prog 142 [v3] fun r4 => scOk true r4 ∧
  ∃ v5 : TV, cellT a1 17 = some v5 ∧
  ∃ v6 : TV, lenT v5 = some v6 ∧
  ∃ v7 : TV, binT .eql v6 (TV.i .i64 0) = some v7 ∧
  ∃ v8 : TV, cellT a1 19 = some v8 ∧
  ∃ v9 : TV, lenT v8 = some v9 ∧
  ∃ v10 : TV, binT .eql v9 (TV.i .i64 0) = some v10 ∧
  ∃ v11 : TV, cellT a1 18 = some v11 ∧
  ∃ v12 : TV, lenT v11 = some v12 ∧
  ∃ v13 : TV, binT .eql v12 (TV.i .i64 0) = some v13 ∧
  ∃ v14 : TV, cellT a1 1 = some v14 ∧
  ∃ v15 : TV, binT .eql v14 (TV.i .i64 0) = some v15 ∧
  ∃ v16 : TV, cellT a1 2 = some v16 ∧
  ∃ v17 : TV, binT .eql v16 (TV.i .i64 0) = some v17 ∧
  ((v17, true) = ((v17, true) : TV × Bool) ∧ ∃ v18 : TV, gV v17 true (fun r => cellT a1 3 = some r) v18 ∧
  ∃ v19 : TV, gV v17 true (fun r => binT .eql v18 (TV.i .i64 0) = some r) v19 ∧
  ∃ v20 : TV, pickT v17 v19 (TV.b false) = some v20 ∧
  ∃ v21 : TV, cellT a1 0 = some v21 ∧
  ∃ v22 : TV, binT .eql v21 (TV.i .i64 1) = some v22 ∧
  condK v22
  (∃ v23 : TV, gV r4 true (fun r => some v7 = some r) v23 ∧
    ∃ v24 : TV, pickT r4 v23 (TV.b false) = some v24 ∧
    ∃ v25 : TV, gV v24 true (fun r => some v13 = some r) v25 ∧
    ∃ v26 : TV, pickT v24 v25 (TV.b false) = some v26 ∧
    ∃ v27 : TV, gV v26 true (fun r => some v10 = some r) v27 ∧
    ∃ v28 : TV, pickT v26 v27 (TV.b false) = some v28 ∧
    ∃ v29 : TV, gV v28 true (fun r => some v20 = some r) v29 ∧
    ∃ v30 : TV, pickT v28 v29 (TV.b false) = some v30 ∧
    ((v30, true) = ((v30, true) : TV × Bool) ∧ ∃ v31 : TV, gV v30 true (fun r => cellT a1 1 = some r) v31 ∧
    ((v30, true) = ((v30, true) : TV × Bool) ∧ ∃ v32 : TV, gV v30 true (fun r => cellT a0 3 = some r) v32 ∧
    ∃ v33 : TV, gV v30 true (fun r => binT .sub v32 (TV.i .i64 1) = some r) v33 ∧
    ∃ v34 : TV, gV v30 true (fun r => VS prog 81 [v31, (TV.i .i64 0), v33] fun r' => r' = r ∧ scOk true r) v34 ∧
    ∃ v35 : TV, pickT v30 v34 (TV.b false) = some v35 ∧
    ((v35, true) = ((v35, true) : TV × Bool) ∧ ∃ v36 : TV, gV v35 true (fun r => subT a1 4 4 = some r) v36 ∧
    ((v35, true) = ((v35, true) : TV × Bool) ∧ ∃ v37 : TV, gV v35 true (fun r => cellT a0 3 = some r) v37 ∧
    ∃ v38 : TV, gV v35 true (fun r => VS prog 143 [v36, v37] fun r' => r' = r ∧ scOk true r) v38 ∧
    ∃ v39 : TV, pickT v35 v38 (TV.b false) = some v39 ∧
    True ∧ tupOk [v39] ∧ Q v39)))))
  (∃ v40 : TV, binT .eql v21 (TV.i .i64 7) = some v40 ∧
    condK v40
    (∃ v41 : TV, gV r2 true (fun r => some r4 = some r) v41 ∧
      ∃ v42 : TV, pickT r2 v41 (TV.b false) = some v42 ∧
      ∃ v43 : TV, gV v42 true (fun r => some v7 = some r) v43 ∧
      ∃ v44 : TV, pickT v42 v43 (TV.b false) = some v44 ∧
      ∃ v45 : TV, gV v44 true (fun r => some v13 = some r) v45 ∧
      ∃ v46 : TV, pickT v44 v45 (TV.b false) = some v46 ∧
      ∃ v47 : TV, gV v46 true (fun r => some v10 = some r) v47 ∧
      ∃ v48 : TV, pickT v46 v47 (TV.b false) = some v48 ∧
      ∃ v49 : TV, gV v48 true (fun r => some v20 = some r) v49 ∧
      ∃ v50 : TV, pickT v48 v49 (TV.b false) = some v50 ∧
      ((v50, true) = ((v50, true) : TV × Bool) ∧ ∃ v51 : TV, gV v50 true (fun r => cellT a1 1 = some r) v51 ∧
      ((v50, true) = ((v50, true) : TV × Bool) ∧ ∃ v52 : TV, gV v50 true (fun r => cellT a0 3 = some r) v52 ∧
      ∃ v53 : TV, gV v50 true (fun r => binT .sub v52 (TV.i .i64 1) = some r) v53 ∧
      ∃ v54 : TV, gV v50 true (fun r => VS prog 81 [v51, (TV.i .i64 0), v53] fun r' => r' = r ∧ scOk true r) v54 ∧
      ∃ v55 : TV, pickT v50 v54 (TV.b false) = some v55 ∧
      True ∧ tupOk [v55] ∧ Q v55)))
    (∃ v56 : TV, binT .eql v21 (TV.i .i64 6) = some v56 ∧
      condK v56
      (∃ v57 : TV, gV r2 true (fun r => some v7 = some r) v57 ∧
        ∃ v58 : TV, pickT r2 v57 (TV.b false) = some v58 ∧
        ∃ v59 : TV, gV v58 true (fun r => some v13 = some r) v59 ∧
        ∃ v60 : TV, pickT v58 v59 (TV.b false) = some v60 ∧
        ∃ v61 : TV, gV v60 true (fun r => some v10 = some r) v61 ∧
        ∃ v62 : TV, pickT v60 v61 (TV.b false) = some v62 ∧
        ∃ v63 : TV, gV v62 true (fun r => some v20 = some r) v63 ∧
        ∃ v64 : TV, pickT v62 v63 (TV.b false) = some v64 ∧
        ∃ v65 : TV, gV v64 true (fun r => some v15 = some r) v65 ∧
        ∃ v66 : TV, pickT v64 v65 (TV.b false) = some v66 ∧
        ((v66, true) = ((v66, true) : TV × Bool) ∧ ∃ v67 : TV, gV v66 true (fun r => subT a1 8 9 = some r) v67 ∧
        ((v66, true) = ((v66, true) : TV × Bool) ∧ ∃ v68 : TV, gV v66 true (fun r => cellT a0 3 = some r) v68 ∧
        ∃ v69 : TV, gV v66 true (fun r => VS prog 144 [v67, v68] fun r' => r' = r ∧ scOk true r) v69 ∧
        ∃ v70 : TV, pickT v66 v69 (TV.b false) = some v70 ∧
        True ∧ tupOk [v70] ∧ Q v70)))
      (∃ v71 : TV, binT .eql v21 (TV.i .i64 3) = some v71 ∧
        condK v71
        (∃ v72 : TV, gV r2 true (fun r => some v13 = some r) v72 ∧
          ∃ v73 : TV, pickT r2 v72 (TV.b false) = some v73 ∧
          ∃ v74 : TV, gV v73 true (fun r => some v10 = some r) v74 ∧
          ∃ v75 : TV, pickT v73 v74 (TV.b false) = some v75 ∧
          ∃ v76 : TV, gV v75 true (fun r => some v20 = some r) v76 ∧
          ∃ v77 : TV, pickT v75 v76 (TV.b false) = some v77 ∧
          ∃ v78 : TV, gV v77 true (fun r => some v15 = some r) v78 ∧
          ∃ v79 : TV, pickT v77 v78 (TV.b false) = some v79 ∧
          ((v79, true) = ((v79, true) : TV × Bool) ∧ ∃ v80 : TV, gV v79 true (fun r => subT a1 8 9 = some r) v80 ∧
          ((v79, true) = ((v79, true) : TV × Bool) ∧ ∃ v81 : TV, gV v79 true (fun r => cellT a0 3 = some r) v81 ∧
          ∃ v82 : TV, gV v79 true (fun r => VS prog 144 [v80, v81] fun r' => r' = r ∧ scOk true r) v82 ∧
          ∃ v83 : TV, pickT v79 v82 (TV.b false) = some v83 ∧
          ∃ v84 : TV, gV v83 true (fun r => subT a0 0 4 = some r) v84 ∧
          ((v83, true) = ((v83, true) : TV × Bool) ∧ ∃ v85 : TV, gV v83 true (fun r => cellT a1 17 = some r) v85 ∧
          ∃ v86 : TV, gV v83 true (fun r => VS prog 83 [v84, v85] fun r' => r' = r ∧ scOk true r) v86 ∧
          ∃ v87 : TV, pickT v83 v86 (TV.b false) = some v87 ∧
          True ∧ tupOk [v87] ∧ Q v87))))
        (∃ v88 : TV, binT .eql v21 (TV.i .i64 2) = some v88 ∧
          condK v88
          (∃ v89 : TV, gV r2 true (fun r => some v10 = some r) v89 ∧
            ∃ v90 : TV, pickT r2 v89 (TV.b false) = some v90 ∧
            ∃ v91 : TV, gV v90 true (fun r => some v20 = some r) v91 ∧
            ∃ v92 : TV, pickT v90 v91 (TV.b false) = some v92 ∧
            ∃ v93 : TV, gV v92 true (fun r => some v15 = some r) v93 ∧
            ∃ v94 : TV, pickT v92 v93 (TV.b false) = some v94 ∧
            ((v94, true) = ((v94, true) : TV × Bool) ∧ ∃ v95 : TV, gV v94 true (fun r => subT a1 8 9 = some r) v95 ∧
            ((v94, true) = ((v94, true) : TV × Bool) ∧ ∃ v96 : TV, gV v94 true (fun r => cellT a0 3 = some r) v96 ∧
            ∃ v97 : TV, gV v94 true (fun r => VS prog 144 [v95, v96] fun r' => r' = r ∧ scOk true r) v97 ∧
            ∃ v98 : TV, pickT v94 v97 (TV.b false) = some v98 ∧
            ∃ v99 : TV, gV v98 true (fun r => subT a0 0 4 = some r) v99 ∧
            ((v98, true) = ((v98, true) : TV × Bool) ∧ ∃ v100 : TV, gV v98 true (fun r => cellT a1 17 = some r) v100 ∧
            ∃ v101 : TV, gV v98 true (fun r => VS prog 83 [v99, v100] fun r' => r' = r ∧ scOk true r) v101 ∧
            ∃ v102 : TV, pickT v98 v101 (TV.b false) = some v102 ∧
            ∃ v103 : TV, gV v102 true (fun r => subT a0 0 4 = some r) v103 ∧
            ((v102, true) = ((v102, true) : TV × Bool) ∧ ∃ v104 : TV, gV v102 true (fun r => cellT a1 18 = some r) v104 ∧
            ∃ v105 : TV, gV v102 true (fun r => VS prog 83 [v103, v104] fun r' => r' = r ∧ scOk true r) v105 ∧
            ∃ v106 : TV, pickT v102 v105 (TV.b false) = some v106 ∧
            True ∧ tupOk [v106] ∧ Q v106)))))
          (∃ v107 : TV, binT .eql v21 (TV.i .i64 4) = some v107 ∧
            condK v107
            (∃ v108 : TV, gV r4 true (fun r => some v7 = some r) v108 ∧
              ∃ v109 : TV, pickT r4 v108 (TV.b false) = some v109 ∧
              ∃ v110 : TV, gV v109 true (fun r => some v13 = some r) v110 ∧
              ∃ v111 : TV, pickT v109 v110 (TV.b false) = some v111 ∧
              ∃ v112 : TV, gV v111 true (fun r => some v10 = some r) v112 ∧
              ∃ v113 : TV, pickT v111 v112 (TV.b false) = some v113 ∧
              ∃ v114 : TV, gV v113 true (fun r => some v15 = some r) v114 ∧
              ∃ v115 : TV, pickT v113 v114 (TV.b false) = some v115 ∧
              ∃ v116 : TV, gV v115 true (fun r => subT a0 0 4 = some r) v116 ∧
              ((v115, true) = ((v115, true) : TV × Bool) ∧ ∃ v117 : TV, gV v115 true (fun r => cellT a1 2 = some r) v117 ∧
              ∃ v118 : TV, gV v115 true (fun r => VS prog 145 [v116, v117, (TV.f 146)] fun r' => r' = r ∧ scOk true r) v118 ∧
              ∃ v119 : TV, pickT v115 v118 (TV.b false) = some v119 ∧
              ∃ v120 : TV, gV v119 true (fun r => subT a0 0 4 = some r) v120 ∧
              ((v119, true) = ((v119, true) : TV × Bool) ∧ ∃ v121 : TV, gV v119 true (fun r => cellT a1 2 = some r) v121 ∧
              ((v119, true) = ((v119, true) : TV × Bool) ∧ ∃ v122 : TV, gV v119 true (fun r => cellT a1 3 = some r) v122 ∧
              ∃ v123 : TV, gV v119 true (fun r => VS prog 147 [v120, v121, v122] fun r' => r' = r ∧ scOk true r) v123 ∧
              ∃ v124 : TV, pickT v119 v123 (TV.b false) = some v124 ∧
              ((v124, true) = ((v124, true) : TV × Bool) ∧ ∃ v125 : TV, gV v124 true (fun r => subT a1 4 4 = some r) v125 ∧
              ((v124, true) = ((v124, true) : TV × Bool) ∧ ∃ v126 : TV, gV v124 true (fun r => cellT a0 3 = some r) v126 ∧
              ∃ v127 : TV, gV v124 true (fun r => VS prog 143 [v125, v126] fun r' => r' = r ∧ scOk true r) v127 ∧
              ∃ v128 : TV, pickT v124 v127 (TV.b false) = some v128 ∧
              True ∧ tupOk [v128] ∧ Q v128))))))
            (∃ v129 : TV, binT .eql v21 (TV.i .i64 5) = some v129 ∧
              condK v129
              (∃ v130 : TV, gV r2 true (fun r => some r4 = some r) v130 ∧
                ∃ v131 : TV, pickT r2 v130 (TV.b false) = some v131 ∧
                ∃ v132 : TV, gV v131 true (fun r => some v7 = some r) v132 ∧
                ∃ v133 : TV, pickT v131 v132 (TV.b false) = some v133 ∧
                ∃ v134 : TV, gV v133 true (fun r => some v13 = some r) v134 ∧
                ∃ v135 : TV, pickT v133 v134 (TV.b false) = some v135 ∧
                ∃ v136 : TV, gV v135 true (fun r => some v15 = some r) v136 ∧
                ∃ v137 : TV, pickT v135 v136 (TV.b false) = some v137 ∧
                ((v137, true) = ((v137, true) : TV × Bool) ∧ ∃ v138 : TV, gV v137 true (fun r => cellT a1 3 = some r) v138 ∧
                ∃ v139 : TV, gV v137 true (fun r => binT .eql v138 (TV.i .i64 0) = some r) v139 ∧
                ∃ v140 : TV, pickT v137 v139 (TV.b false) = some v140 ∧
                ∃ v141 : TV, gV v140 true (fun r => subT a0 0 4 = some r) v141 ∧
                ((v140, true) = ((v140, true) : TV × Bool) ∧ ∃ v142 : TV, gV v140 true (fun r => cellT a1 2 = some r) v142 ∧
                ∃ v143 : TV, gV v140 true (fun r => VS prog 145 [v141, v142, (TV.f 148)] fun r' => r' = r ∧ scOk true r) v143 ∧
                ∃ v144 : TV, pickT v140 v143 (TV.b false) = some v144 ∧
                ∃ v145 : TV, gV v144 true (fun r => subT a0 0 4 = some r) v145 ∧
                ((v144, true) = ((v144, true) : TV × Bool) ∧ ∃ v146 : TV, gV v144 true (fun r => cellT a1 2 = some r) v146 ∧
                ((v144, true) = ((v144, true) : TV × Bool) ∧ ∃ v147 : TV, gV v144 true (fun r => cellT a1 19 = some r) v147 ∧
                ∃ v148 : TV, gV v144 true (fun r => VS prog 149 [v145, v146, v147] fun r' => r' = r ∧ scOk true r) v148 ∧
                ∃ v149 : TV, pickT v144 v148 (TV.b false) = some v149 ∧
                True ∧ tupOk [v149] ∧ Q v149)))))
              (True ∧ tupOk [(TV.b false)] ∧ Q (TV.b false)))))))))
theorem vs105 (a0 a1 : TV) (Q : TV → Prop) (h : W105 a0 a1 Q) : VS prog 105 [a0, a1] Q := vs_of (sh := sh) (af := a105) (vc := v105) (by kernel_rfl) (by kernel_rfl) (by kernel_rfl) (by kernel_rfl) rfl ((show W105 a0 a1 Q = evFn sh prog a105 v105 [a0, a1] Q by kernel_rfl) ▸ h)

/-! jetsam/flow.expr -/
def v106 : VCode := .seq (.reg r106_0) (.seq (.reg r106_1) (.seq (.reg r106_2) (.seq (.seq (.reg r106_3) (.block 0 (.loop [.ob 1 [(3, 4)], .ob 2 [(3, 4)], .pt 1 1 0, .pt 2 2 0, .tr 9, .tr 10, .tr 11] (.seq (.reg r106_4) (.seq (.cond (.t 12) (.skip) (.exit 0)) (.seq (.block 1 (.seq (.reg r106_5) (.dreg r106_6 b106_6 [(1, 4)]))) (.reg r106_7))))))) (.seq (.reg r106_8) (.ret)))))
def W106 (a0 : TV) (Q : TV → Prop) : Prop :=
  TV.isTp a0 = false ∧
  ∃ v1 : TV, cellT a0 3 = some v1 ∧
  ∃ v2 : TV, putT a0 3 1 (TV.l []) = some v2 ∧
  ∃ v3 : TV, lenT v1 = some v3 ∧
  ∃ I4 : Nat → TV → List TV → TV → List TV → TV → TV → TV → Prop, (∃ n5, I4 n5 v2 [] (TV.a [(TV.i .i64 0), (TV.i .i64 0), (TV.i .i64 0), (TV.l [])]) [] v1 v3 (TV.i .i64 0)) ∧ ∀ n5 : Nat,
  ∀ o7 : TV, ∀ l8 : List TV, ∀ o9 : TV, ∀ l10 : List TV, ∀ x11 : TV, ∀ x12 : TV, ∀ x13 : TV, I4 n5 o7 l8 o9 l10 x11 x12 x13 → 
  ∃ v14 : TV, binT .lss x13 x12 = some v14 ∧
    condK v14
    (∃ v15 : TV, (idxT x11 x13 = some v15 ∧ szOk 4 v15) ∧
      ∃ v16 : TV, ldT v15 0 (some 4) = some v16 ∧
      ∃ v17 : TV, putT (TV.a [(TV.i .i64 0), (TV.i .i64 0), (TV.i .i64 0), (TV.l [])]) 0 4 v16 = some v17 ∧
      ∃ v18 : TV, subT v17 0 4 = some v18 ∧
      VS prog 106 [v18] fun r19 => scOk true r19 ∧
      (Nat.beq 0 (0 * 4) && Nat.beq 4 4) = true ∧ szOk 4 r19 ∧
      ∃ v20 : List TV, listT (TV.l [r19]) = some v20 ∧ szHd 4 v20 ∧
      ∃ v21 : List TV, appT 48 l8 v20 = some v21 ∧
      ∃ v22 : TV, putT o7 3 1 (TV.l []) = some v22 ∧
      ∃ v23 : TV, binT .add x13 (TV.i .i64 1) = some v23 ∧
      ∃ m6, m6 < n5 ∧ I4 m6 v22 v21 o9 l10 x11 x12 v23)
    (∃ v24 : TV, subT o7 0 4 = some v24 ∧
      ∃ v25 : TV, putT o9 0 4 v24 = some v25 ∧
      True ∧ ∃ v26 : TV, subT v25 0 4 = some v26 ∧
      ∃ v27 : TV, putT v26 3 1 (TV.l l8) = some v27 ∧
      tupOk [v27] ∧ Q v27)
theorem vs106 (a0 : TV) (Q : TV → Prop) (h : W106 a0 Q) : VS prog 106 [a0] Q := vs_of (sh := sh) (af := a106) (vc := v106) (by kernel_rfl) (by kernel_rfl) (by kernel_rfl) (by kernel_rfl) rfl ((show W106 a0 Q = evFn sh prog a106 v106 [a0] Q by kernel_rfl) ▸ h)

/-! jetsam/flow.cond -/
def v107 : VCode := .seq (.reg r107_0) (.seq (.dreg r107_1 b107_1 []) (.ret))
def W107 (a0 : TV) (Q : TV → Prop) : Prop :=
  TV.isTp a0 = false ∧
  ∃ v1 : TV, cellT a0 0 = some v1 ∧
  ∃ v2 : TV, subT a0 1 4 = some v2 ∧
  VS prog 106 [v2] fun r3 => scOk true r3 ∧
  ∃ v4 : TV, subT a0 5 4 = some v4 ∧
  VS prog 106 [v4] fun r5 => scOk true r5 ∧
  ∃ v6 : TV, putT (TV.a [(TV.i .i64 0), (TV.i .i64 0), (TV.i .i64 0), (TV.i .i64 0), (TV.l []), (TV.i .i64 0), (TV.i .i64 0), (TV.i .i64 0), (TV.l [])]) 0 1 v1 = some v6 ∧
  ∃ v7 : TV, putT v6 1 4 r3 = some v7 ∧
  ∃ v8 : TV, putT v7 5 4 r5 = some v8 ∧
  ∃ v9 : TV, putT (TV.a [(TV.i .i64 0), (TV.i .i64 0), (TV.i .i64 0), (TV.i .i64 0), (TV.l []), (TV.i .i64 0), (TV.i .i64 0), (TV.i .i64 0), (TV.l [])]) 0 9 v8 = some v9 ∧
  True ∧ ∃ v10 : TV, subT v9 0 9 = some v10 ∧
  tupOk [v10] ∧ Q v10
theorem vs107 (a0 : TV) (Q : TV → Prop) (h : W107 a0 Q) : VS prog 107 [a0] Q := vs_of (sh := sh) (af := a107) (vc := v107) (by kernel_rfl) (by kernel_rfl) (by kernel_rfl) (by kernel_rfl) rfl ((show W107 a0 Q = evFn sh prog a107 v107 [a0] Q by kernel_rfl) ▸ h)

/-! jetsam/flow.not -/
def v109 : VCode := .seq (.reg r109_0) (.seq (.reg r109_1) (.seq (.reg r109_2) (.seq (.reg r109_3) (.ret))))
def W109 (a0 : TV) (Q : TV → Prop) : Prop :=
  TV.isTp a0 = false ∧
  ∃ v1 : TV, subT a0 0 9 = some v1 ∧
  VS prog 107 [v1] fun r2 => scOk true r2 ∧
  ∃ v3 : TV, putT (TV.a [(TV.i .i64 0), (TV.i .i64 0), (TV.i .i64 0), (TV.i .i64 0), (TV.l []), (TV.i .i64 0), (TV.i .i64 0), (TV.i .i64 0), (TV.l [])]) 0 9 r2 = some v3 ∧
  ∃ v4 : TV, cellT a0 0 = some v4 ∧
  VS prog 41 [v4] fun r5 => scOk true r5 ∧
  ∃ v6 : TV, putT v3 0 1 r5 = some v6 ∧
  ∃ v7 : TV, subT v6 0 9 = some v7 ∧
  ∃ v8 : TV, putT (TV.a [(TV.i .i64 0), (TV.i .i64 0), (TV.i .i64 0), (TV.i .i64 0), (TV.l []), (TV.i .i64 0), (TV.i .i64 0), (TV.i .i64 0), (TV.l [])]) 0 9 v7 = some v8 ∧
  True ∧ ∃ v9 : TV, subT v8 0 9 = some v9 ∧
  tupOk [v9] ∧ Q v9
theorem vs109 (a0 : TV) (Q : TV → Prop) (h : W109 a0 Q) : VS prog 109 [a0] Q := vs_of (sh := sh) (af := a109) (vc := v109) (by kernel_rfl) (by kernel_rfl) (by kernel_rfl) (by kernel_rfl) rfl ((show W109 a0 Q = evFn sh prog a109 v109 [a0] Q by kernel_rfl) ▸ h)

/-! slices.Clone[[]int,int] -/
def v56 : VCode := .seq (.reg r56_0) (.seq (.seq (.reg r56_1) (.cond (.t 4) (.seq (.reg r56_2) (.ret)) (.skip))) (.seq (.reg r56_3) (.ret)))
def W56 (a0 : TV) (Q : TV → Prop) : Prop :=
  ∃ v1 : List TV, listT a0 = some v1 ∧ ∀ b2 : Bool, (v1 ≠ [] → b2 = false) →
  condK (TV.b b2)
  (True ∧ tupOk [(TV.l [])] ∧ Q (TV.l []))
  (∃ v3 : List TV, listT a0 = some v3 ∧ szHd 1 v3 ∧
    ∃ v4 : List TV, appT 8 [] v3 = some v4 ∧
    True ∧ tupOk [(TV.l v4)] ∧ Q (TV.l v4))
theorem vs56 (a0 : TV) (Q : TV → Prop) (h : W56 a0 Q) : VS prog 56 [a0] Q := vs_of (sh := sh) (af := a56) (vc := v56) (by kernel_rfl) (by kernel_rfl) (by kernel_rfl) (by kernel_rfl) rfl ((show W56 a0 Q = evFn sh prog a56 v56 [a0] Q by kernel_rfl) ▸ h)

/-! math/bits.Len64 -/
def v122 : VCode := .seq (.reg r122_0) (.seq (.seq (.reg r122_1) (.cond (.t 4) (.seq (.reg r122_2) (.reg r122_3)) (.skip))) (.seq (.seq (.reg r122_4) (.cond (.t 8) (.seq (.reg r122_5) (.reg r122_6)) (.skip))) (.seq (.seq (.reg r122_7) (.cond (.t 14) (.seq (.reg r122_8) (.reg r122_9)) (.skip))) (.seq (.reg r122_10) (.ret)))))
def W122 (a0 : TV) (Q : TV → Prop) : Prop :=
  ∃ v1 : TV, binT .geq a0 (TV.i .u64 4294967296) = some v1 ∧
  condK v1
  (∃ v2 : TV, binT .shr a0 (TV.i .u64 32) = some v2 ∧
    ∃ v3 : TV, binT .geq v2 (TV.i .u64 65536) = some v3 ∧
    condK v3
    (∃ v4 : TV, binT .shr v2 (TV.i .u64 16) = some v4 ∧
      ∃ v5 : TV, binT .add (TV.i .i64 32) (TV.i .i64 16) = some v5 ∧
      ∃ v6 : TV, binT .geq v4 (TV.i .u64 256) = some v6 ∧
      condK v6
      (∃ v7 : TV, binT .shr v4 (TV.i .u64 8) = some v7 ∧
        ∃ v8 : TV, binT .add v5 (TV.i .i64 8) = some v8 ∧
        ∃ v9 : TV, convT .u8 v7 = some v9 ∧
        ∃ v10 : TV, idxST (TV.s ⟨#[0, 1, 2, 2, 3, 3, 3, 3, 4, 4, 4, 4, 4, 4, 4, 4, 5, 5, 5, 5, 5, 5, 5, 5, 5, 5, 5, 5, 5, 5, 5, 5, 6, 6, 6, 6, 6, 6, 6, 6, 6, 6, 6, 6, 6, 6, 6, 6, 6, 6, 6, 6, 6, 6, 6, 6, 6, 6, 6, 6, 6, 6, 6, 6, 7, 7, 7, 7, 7, 7, 7, 7, 7, 7, 7, 7, 7, 7, 7, 7, 7, 7, 7, 7, 7, 7, 7, 7, 7, 7, 7, 7, 7, 7, 7, 7, 7, 7, 7, 7, 7, 7, 7, 7, 7, 7, 7, 7, 7, 7, 7, 7, 7, 7, 7, 7, 7, 7, 7, 7, 7, 7, 7, 7, 7, 7, 7, 7, 8, 8, 8, 8, 8, 8, 8, 8, 8, 8, 8, 8, 8, 8, 8, 8, 8, 8, 8, 8, 8, 8, 8, 8, 8, 8, 8, 8, 8, 8, 8, 8, 8, 8, 8, 8, 8, 8, 8, 8, 8, 8, 8, 8, 8, 8, 8, 8, 8, 8, 8, 8, 8, 8, 8, 8, 8, 8, 8, 8, 8, 8, 8, 8, 8, 8, 8, 8, 8, 8, 8, 8, 8, 8, 8, 8, 8, 8, 8, 8, 8, 8, 8, 8, 8, 8, 8, 8, 8, 8, 8, 8, 8, 8, 8, 8, 8, 8, 8, 8, 8, 8, 8, 8, 8, 8, 8, 8, 8, 8, 8, 8, 8, 8, 8, 8, 8, 8, 8, 8, 8, 8, 8, 8, 8, 8, 8, 8]⟩) v9 = some v10 ∧
        ∃ v11 : TV, convT .i64 v10 = some v11 ∧
        ∃ v12 : TV, binT .add v8 v11 = some v12 ∧
        True ∧ tupOk [v12] ∧ Q v12)
      (∃ v13 : TV, convT .u8 v4 = some v13 ∧
        ∃ v14 : TV, idxST (TV.s ⟨#[0, 1, 2, 2, 3, 3, 3, 3, 4, 4, 4, 4, 4, 4, 4, 4, 5, 5, 5, 5, 5, 5, 5, 5, 5, 5, 5, 5, 5, 5, 5, 5, 6, 6, 6, 6, 6, 6, 6, 6, 6, 6, 6, 6, 6, 6, 6, 6, 6, 6, 6, 6, 6, 6, 6, 6, 6, 6, 6, 6, 6, 6, 6, 6, 7, 7, 7, 7, 7, 7, 7, 7, 7, 7, 7, 7, 7, 7, 7, 7, 7, 7, 7, 7, 7, 7, 7, 7, 7, 7, 7, 7, 7, 7, 7, 7, 7, 7, 7, 7, 7, 7, 7, 7, 7, 7, 7, 7, 7, 7, 7, 7, 7, 7, 7, 7, 7, 7, 7, 7, 7, 7, 7, 7, 7, 7, 7, 7, 8, 8, 8, 8, 8, 8, 8, 8, 8, 8, 8, 8, 8, 8, 8, 8, 8, 8, 8, 8, 8, 8, 8, 8, 8, 8, 8, 8, 8, 8, 8, 8, 8, 8, 8, 8, 8, 8, 8, 8, 8, 8, 8, 8, 8, 8, 8, 8, 8, 8, 8, 8, 8, 8, 8, 8, 8, 8, 8, 8, 8, 8, 8, 8, 8, 8, 8, 8, 8, 8, 8, 8, 8, 8, 8, 8, 8, 8, 8, 8, 8, 8, 8, 8, 8, 8, 8, 8, 8, 8, 8, 8, 8, 8, 8, 8, 8, 8, 8, 8, 8, 8, 8, 8, 8, 8, 8, 8, 8, 8, 8, 8, 8, 8, 8, 8, 8, 8, 8, 8, 8, 8, 8, 8, 8, 8, 8, 8]⟩) v13 = some v14 ∧
        ∃ v15 : TV, convT .i64 v14 = some v15 ∧
        ∃ v16 : TV, binT .add v5 v15 = some v16 ∧
        True ∧ tupOk [v16] ∧ Q v16))
    (∃ v17 : TV, binT .geq v2 (TV.i .u64 256) = some v17 ∧
      condK v17
      (∃ v18 : TV, binT .shr v2 (TV.i .u64 8) = some v18 ∧
        ∃ v19 : TV, binT .add (TV.i .i64 32) (TV.i .i64 8) = some v19 ∧
        ∃ v20 : TV, convT .u8 v18 = some v20 ∧
        ∃ v21 : TV, idxST (TV.s ⟨#[0, 1, 2, 2, 3, 3, 3, 3, 4, 4, 4, 4, 4, 4, 4, 4, 5, 5, 5, 5, 5, 5, 5, 5, 5, 5, 5, 5, 5, 5, 5, 5, 6, 6, 6, 6, 6, 6, 6, 6, 6, 6, 6, 6, 6, 6, 6, 6, 6, 6, 6, 6, 6, 6, 6, 6, 6, 6, 6, 6, 6, 6, 6, 6, 7, 7, 7, 7, 7, 7, 7, 7, 7, 7, 7, 7, 7, 7, 7, 7, 7, 7, 7, 7, 7, 7, 7, 7, 7, 7, 7, 7, 7, 7, 7, 7, 7, 7, 7, 7, 7, 7, 7, 7, 7, 7, 7, 7, 7, 7, 7, 7, 7, 7, 7, 7, 7, 7, 7, 7, 7, 7, 7, 7, 7, 7, 7, 7, 8, 8, 8, 8, 8, 8, 8, 8, 8, 8, 8, 8, 8, 8, 8, 8, 8, 8, 8, 8, 8, 8, 8, 8, 8, 8, 8, 8, 8, 8, 8, 8, 8, 8, 8, 8, 8, 8, 8, 8, 8, 8, 8, 8, 8, 8, 8, 8, 8, 8, 8, 8, 8, 8, 8, 8, 8, 8, 8, 8, 8, 8, 8, 8, 8, 8, 8, 8, 8, 8, 8, 8, 8, 8, 8, 8, 8, 8, 8, 8, 8, 8, 8, 8, 8, 8, 8, 8, 8, 8, 8, 8, 8, 8, 8, 8, 8, 8, 8, 8, 8, 8, 8, 8, 8, 8, 8, 8, 8, 8, 8, 8, 8, 8, 8, 8, 8, 8, 8, 8, 8, 8, 8, 8, 8, 8, 8, 8]⟩) v20 = some v21 ∧
        ∃ v22 : TV, convT .i64 v21 = some v22 ∧
        ∃ v23 : TV, binT .add v19 v22 = some v23 ∧
        True ∧ tupOk [v23] ∧ Q v23)
      (∃ v24 : TV, convT .u8 v2 = some v24 ∧
        ∃ v25 : TV, idxST (TV.s ⟨#[0, 1, 2, 2, 3, 3, 3, 3, 4, 4, 4, 4, 4, 4, 4, 4, 5, 5, 5, 5, 5, 5, 5, 5, 5, 5, 5, 5, 5, 5, 5, 5, 6, 6, 6, 6, 6, 6, 6, 6, 6, 6, 6, 6, 6, 6, 6, 6, 6, 6, 6, 6, 6, 6, 6, 6, 6, 6, 6, 6, 6, 6, 6, 6, 7, 7, 7, 7, 7, 7, 7, 7, 7, 7, 7, 7, 7, 7, 7, 7, 7, 7, 7, 7, 7, 7, 7, 7, 7, 7, 7, 7, 7, 7, 7, 7, 7, 7, 7, 7, 7, 7, 7, 7, 7, 7, 7, 7, 7, 7, 7, 7, 7, 7, 7, 7, 7, 7, 7, 7, 7, 7, 7, 7, 7, 7, 7, 7, 8, 8, 8, 8, 8, 8, 8, 8, 8, 8, 8, 8, 8, 8, 8, 8, 8, 8, 8, 8, 8, 8, 8, 8, 8, 8, 8, 8, 8, 8, 8, 8, 8, 8, 8, 8, 8, 8, 8, 8, 8, 8, 8, 8, 8, 8, 8, 8, 8, 8, 8, 8, 8, 8, 8, 8, 8, 8, 8, 8, 8, 8, 8, 8, 8, 8, 8, 8, 8, 8, 8, 8, 8, 8, 8, 8, 8, 8, 8, 8, 8, 8, 8, 8, 8, 8, 8, 8, 8, 8, 8, 8, 8, 8, 8, 8, 8, 8, 8, 8, 8, 8, 8, 8, 8, 8, 8, 8, 8, 8, 8, 8, 8, 8, 8, 8, 8, 8, 8, 8, 8, 8, 8, 8, 8, 8, 8, 8]⟩) v24 = some v25 ∧
        ∃ v26 : TV, convT .i64 v25 = some v26 ∧
        ∃ v27 : TV, binT .add (TV.i .i64 32) v26 = some v27 ∧
        True ∧ tupOk [v27] ∧ Q v27)))
  (∃ v28 : TV, binT .geq a0 (TV.i .u64 65536) = some v28 ∧
    condK v28
    (∃ v29 : TV, binT .shr a0 (TV.i .u64 16) = some v29 ∧
      ∃ v30 : TV, binT .add (TV.i .i64 0) (TV.i .i64 16) = some v30 ∧
      ∃ v31 : TV, binT .geq v29 (TV.i .u64 256) = some v31 ∧
      condK v31
      (∃ v32 : TV, binT .shr v29 (TV.i .u64 8) = some v32 ∧
        ∃ v33 : TV, binT .add v30 (TV.i .i64 8) = some v33 ∧
        ∃ v34 : TV, convT .u8 v32 = some v34 ∧
        ∃ v35 : TV, idxST (TV.s ⟨#[0, 1, 2, 2, 3, 3, 3, 3, 4, 4, 4, 4, 4, 4, 4, 4, 5, 5, 5, 5, 5, 5, 5, 5, 5, 5, 5, 5, 5, 5, 5, 5, 6, 6, 6, 6, 6, 6, 6, 6, 6, 6, 6, 6, 6, 6, 6, 6, 6, 6, 6, 6, 6, 6, 6, 6, 6, 6, 6, 6, 6, 6, 6, 6, 7, 7, 7, 7, 7, 7, 7, 7, 7, 7, 7, 7, 7, 7, 7, 7, 7, 7, 7, 7, 7, 7, 7, 7, 7, 7, 7, 7, 7, 7, 7, 7, 7, 7, 7, 7, 7, 7, 7, 7, 7, 7, 7, 7, 7, 7, 7, 7, 7, 7, 7, 7, 7, 7, 7, 7, 7, 7, 7, 7, 7, 7, 7, 7, 8, 8, 8, 8, 8, 8, 8, 8, 8, 8, 8, 8, 8, 8, 8, 8, 8, 8, 8, 8, 8, 8, 8, 8, 8, 8, 8, 8, 8, 8, 8, 8, 8, 8, 8, 8, 8, 8, 8, 8, 8, 8, 8, 8, 8, 8, 8, 8, 8, 8, 8, 8, 8, 8, 8, 8, 8, 8, 8, 8, 8, 8, 8, 8, 8, 8, 8, 8, 8, 8, 8, 8, 8, 8, 8, 8, 8, 8, 8, 8, 8, 8, 8, 8, 8, 8, 8, 8, 8, 8, 8, 8, 8, 8, 8, 8, 8, 8, 8, 8, 8, 8, 8, 8, 8, 8, 8, 8, 8, 8, 8, 8, 8, 8, 8, 8, 8, 8, 8, 8, 8, 8, 8, 8, 8, 8, 8, 8]⟩) v34 = some v35 ∧
        ∃ v36 : TV, convT .i64 v35 = some v36 ∧
        ∃ v37 : TV, binT .add v33 v36 = some v37 ∧
        True ∧ tupOk [v37] ∧ Q v37)
      (∃ v38 : TV, convT .u8 v29 = some v38 ∧
        ∃ v39 : TV, idxST (TV.s ⟨#[0, 1, 2, 2, 3, 3, 3, 3, 4, 4, 4, 4, 4, 4, 4, 4, 5, 5, 5, 5, 5, 5, 5, 5, 5, 5, 5, 5, 5, 5, 5, 5, 6, 6, 6, 6, 6, 6, 6, 6, 6, 6, 6, 6, 6, 6, 6, 6, 6, 6, 6, 6, 6, 6, 6, 6, 6, 6, 6, 6, 6, 6, 6, 6, 7, 7, 7, 7, 7, 7, 7, 7, 7, 7, 7, 7, 7, 7, 7, 7, 7, 7, 7, 7, 7, 7, 7, 7, 7, 7, 7, 7, 7, 7, 7, 7, 7, 7, 7, 7, 7, 7, 7, 7, 7, 7, 7, 7, 7, 7, 7, 7, 7, 7, 7, 7, 7, 7, 7, 7, 7, 7, 7, 7, 7, 7, 7, 7, 8, 8, 8, 8, 8, 8, 8, 8, 8, 8, 8, 8, 8, 8, 8, 8, 8, 8, 8, 8, 8, 8, 8, 8, 8, 8, 8, 8, 8, 8, 8, 8, 8, 8, 8, 8, 8, 8, 8, 8, 8, 8, 8, 8, 8, 8, 8, 8, 8, 8, 8, 8, 8, 8, 8, 8, 8, 8, 8, 8, 8, 8, 8, 8, 8, 8, 8, 8, 8, 8, 8, 8, 8, 8, 8, 8, 8, 8, 8, 8, 8, 8, 8, 8, 8, 8, 8, 8, 8, 8, 8, 8, 8, 8, 8, 8, 8, 8, 8, 8, 8, 8, 8, 8, 8, 8, 8, 8, 8, 8, 8, 8, 8, 8, 8, 8, 8, 8, 8, 8, 8, 8, 8, 8, 8, 8, 8, 8]⟩) v38 = some v39 ∧
        ∃ v40 : TV, convT .i64 v39 = some v40 ∧
        ∃ v41 : TV, binT .add v30 v40 = some v41 ∧
        True ∧ tupOk [v41] ∧ Q v41))
    (∃ v42 : TV, binT .geq a0 (TV.i .u64 256) = some v42 ∧
      condK v42
      (∃ v43 : TV, binT .shr a0 (TV.i .u64 8) = some v43 ∧
        ∃ v44 : TV, binT .add (TV.i .i64 0) (TV.i .i64 8) = some v44 ∧
        ∃ v45 : TV, convT .u8 v43 = some v45 ∧
        ∃ v46 : TV, idxST (TV.s ⟨#[0, 1, 2, 2, 3, 3, 3, 3, 4, 4, 4, 4, 4, 4, 4, 4, 5, 5, 5, 5, 5, 5, 5, 5, 5, 5, 5, 5, 5, 5, 5, 5, 6, 6, 6, 6, 6, 6, 6, 6, 6, 6, 6, 6, 6, 6, 6, 6, 6, 6, 6, 6, 6, 6, 6, 6, 6, 6, 6, 6, 6, 6, 6, 6, 7, 7, 7, 7, 7, 7, 7, 7, 7, 7, 7, 7, 7, 7, 7, 7, 7, 7, 7, 7, 7, 7, 7, 7, 7, 7, 7, 7, 7, 7, 7, 7, 7, 7, 7, 7, 7, 7, 7, 7, 7, 7, 7, 7, 7, 7, 7, 7, 7, 7, 7, 7, 7, 7, 7, 7, 7, 7, 7, 7, 7, 7, 7, 7, 8, 8, 8, 8, 8, 8, 8, 8, 8, 8, 8, 8, 8, 8, 8, 8, 8, 8, 8, 8, 8, 8, 8, 8, 8, 8, 8, 8, 8, 8, 8, 8, 8, 8, 8, 8, 8, 8, 8, 8, 8, 8, 8, 8, 8, 8, 8, 8, 8, 8, 8, 8, 8, 8, 8, 8, 8, 8, 8, 8, 8, 8, 8, 8, 8, 8, 8, 8, 8, 8, 8, 8, 8, 8, 8, 8, 8, 8, 8, 8, 8, 8, 8, 8, 8, 8, 8, 8, 8, 8, 8, 8, 8, 8, 8, 8, 8, 8, 8, 8, 8, 8, 8, 8, 8, 8, 8, 8, 8, 8, 8, 8, 8, 8, 8, 8, 8, 8, 8, 8, 8, 8, 8, 8, 8, 8, 8, 8]⟩) v45 = some v46 ∧
        ∃ v47 : TV, convT .i64 v46 = some v47 ∧
        ∃ v48 : TV, binT .add v44 v47 = some v48 ∧
        True ∧ tupOk [v48] ∧ Q v48)
      (∃ v49 : TV, convT .u8 a0 = some v49 ∧
        ∃ v50 : TV, idxST (TV.s ⟨#[0, 1, 2, 2, 3, 3, 3, 3, 4, 4, 4, 4, 4, 4, 4, 4, 5, 5, 5, 5, 5, 5, 5, 5, 5, 5, 5, 5, 5, 5, 5, 5, 6, 6, 6, 6, 6, 6, 6, 6, 6, 6, 6, 6, 6, 6, 6, 6, 6, 6, 6, 6, 6, 6, 6, 6, 6, 6, 6, 6, 6, 6, 6, 6, 7, 7, 7, 7, 7, 7, 7, 7, 7, 7, 7, 7, 7, 7, 7, 7, 7, 7, 7, 7, 7, 7, 7, 7, 7, 7, 7, 7, 7, 7, 7, 7, 7, 7, 7, 7, 7, 7, 7, 7, 7, 7, 7, 7, 7, 7, 7, 7, 7, 7, 7, 7, 7, 7, 7, 7, 7, 7, 7, 7, 7, 7, 7, 7, 8, 8, 8, 8, 8, 8, 8, 8, 8, 8, 8, 8, 8, 8, 8, 8, 8, 8, 8, 8, 8, 8, 8, 8, 8, 8, 8, 8, 8, 8, 8, 8, 8, 8, 8, 8, 8, 8, 8, 8, 8, 8, 8, 8, 8, 8, 8, 8, 8, 8, 8, 8, 8, 8, 8, 8, 8, 8, 8, 8, 8, 8, 8, 8, 8, 8, 8, 8, 8, 8, 8, 8, 8, 8, 8, 8, 8, 8, 8, 8, 8, 8, 8, 8, 8, 8, 8, 8, 8, 8, 8, 8, 8, 8, 8, 8, 8, 8, 8, 8, 8, 8, 8, 8, 8, 8, 8, 8, 8, 8, 8, 8, 8, 8, 8, 8, 8, 8, 8, 8, 8, 8, 8, 8, 8, 8, 8, 8]⟩) v49 = some v50 ∧
        ∃ v51 : TV, convT .i64 v50 = some v51 ∧
        ∃ v52 : TV, binT .add (TV.i .i64 0) v51 = some v52 ∧
        True ∧ tupOk [v52] ∧ Q v52)))
theorem vs122 (a0 : TV) (Q : TV → Prop) (h : W122 a0 Q) : VS prog 122 [a0] Q := vs_of (sh := sh) (af := a122) (vc := v122) (by kernel_rfl) (by kernel_rfl) (by kernel_rfl) (by kernel_rfl) rfl ((show W122 a0 Q = evFn sh prog a122 v122 [a0] Q by kernel_rfl) ▸ h)

/-! cmp.isNaN[int] -/
def v155 : VCode := .seq (.reg r155_0) (.seq (.reg r155_1) (.ret))
def W155 (a0 : TV) (Q : TV → Prop) : Prop :=
  ∃ v1 : TV, binT .neq a0 a0 = some v1 ∧
  True ∧ tupOk [v1] ∧ Q v1
theorem vs155 (a0 : TV) (Q : TV → Prop) (h : W155 a0 Q) : VS prog 155 [a0] Q := vs_of (sh := sh) (af := a155) (vc := v155) (by kernel_rfl) (by kernel_rfl) (by kernel_rfl) (by kernel_rfl) rfl ((show W155 a0 Q = evFn sh prog a155 v155 [a0] Q by kernel_rfl) ▸ h)

/-! cmp.Less[int] -/
def v118 : VCode := .seq (.reg r118_0) (.seq (.reg r118_1) (.ret))
def W118 (a0 a1 : TV) (Q : TV → Prop) : Prop :=
  VS prog 155 [a0] fun r1 => scOk true r1 ∧
  ∃ v2 : TV, gV r1 true (fun r => some a1 = some r) v2 ∧
  ∃ v3 : TV, gV r1 true (fun r => VS prog 155 [v2] fun r' => r' = r ∧ scOk true r) v3 ∧
  ∃ v4 : TV, gV r1 true (fun r => unT .not v3 = some r) v4 ∧
  ∃ v5 : TV, pickT r1 v4 (TV.b false) = some v5 ∧
  ∃ v6 : TV, gV v5 false (fun r => some a0 = some r) v6 ∧
  ∃ v7 : TV, gV v5 false (fun r => some a1 = some r) v7 ∧
  ∃ v8 : TV, gV v5 false (fun r => binT .lss v6 v7 = some r) v8 ∧
  ∃ v9 : TV, pickT v5 (TV.b true) v8 = some v9 ∧
  True ∧ tupOk [v9] ∧ Q v9
theorem vs118 (a0 a1 : TV) (Q : TV → Prop) (h : W118 a0 a1 Q) : VS prog 118 [a0, a1] Q := vs_of (sh := sh) (af := a118) (vc := v118) (by kernel_rfl) (by kernel_rfl) (by kernel_rfl) (by kernel_rfl) rfl ((show W118 a0 a1 Q = evFn sh prog a118 v118 [a0, a1] Q by kernel_rfl) ▸ h)

/-! jetsam/check.none -/
def v141 : VCode := .seq (.reg r141_0) (.seq (.reg r141_1) (.ret))
def W141 (a0 : TV) (Q : TV → Prop) : Prop :=
  TV.isTp a0 = false ∧
  ∃ v1 : TV, cellT a0 0 = some v1 ∧
  ∃ v2 : TV, binT .eql v1 (TV.i .i64 0) = some v2 ∧
  ((v2, true) = ((v2, true) : TV × Bool) ∧ ∃ v3 : TV, gV v2 true (fun r => cellT a0 1 = some r) v3 ∧
  ∃ v4 : TV, gV v2 true (fun r => binT .eql v3 (TV.i .i64 0) = some r) v4 ∧
  ∃ v5 : TV, pickT v2 v4 (TV.b false) = some v5 ∧
  ((v5, true) = ((v5, true) : TV × Bool) ∧ ∃ v6 : TV, gV v5 true (fun r => cellT a0 2 = some r) v6 ∧
  ∃ v7 : TV, gV v5 true (fun r => binT .eql v6 (TV.i .i64 0) = some r) v7 ∧
  ∃ v8 : TV, pickT v5 v7 (TV.b false) = some v8 ∧
  ((v8, true) = ((v8, true) : TV × Bool) ∧ ∃ v9 : TV, gV v8 true (fun r => cellT a0 3 = some r) v9 ∧
  ∃ v10 : TV, gV v8 true (fun r => lenT v9 = some r) v10 ∧
  ∃ v11 : TV, gV v8 true (fun r => binT .eql v10 (TV.i .i64 0) = some r) v11 ∧
  ∃ v12 : TV, pickT v8 v11 (TV.b false) = some v12 ∧
  True ∧ tupOk [v12] ∧ Q v12)))
theorem vs141 (a0 : TV) (Q : TV → Prop) (h : W141 a0 Q) : VS prog 141 [a0] Q := vs_of (sh := sh) (af := a141) (vc := v141) (by kernel_rfl) (by kernel_rfl) (by kernel_rfl) (by kernel_rfl) rfl ((show W141 a0 Q = evFn sh prog a141 v141 [a0] Q by kernel_rfl) ▸ h)

/-! jetsam/check.noCond -/
def v142 : VCode := .seq (.reg r142_0) (.seq (.reg r142_1) (.ret))
def W142 (a0 : TV) (Q : TV → Prop) : Prop :=
  TV.isTp a0 = false ∧
  ∃ v1 : TV, cellT a0 0 = some v1 ∧
  ∃ v2 : TV, binT .eql v1 (TV.i .i64 0) = some v2 ∧
  ((v2, true) = ((v2, true) : TV × Bool) ∧ ∃ v3 : TV, gV v2 true (fun r => subT a0 1 4 = some r) v3 ∧
  ∃ v4 : TV, gV v2 true (fun r => VS prog 141 [v3] fun r' => r' = r ∧ scOk true r) v4 ∧
  ∃ v5 : TV, pickT v2 v4 (TV.b false) = some v5 ∧
  ((v5, true) = ((v5, true) : TV × Bool) ∧ ∃ v6 : TV, gV v5 true (fun r => subT a0 5 4 = some r) v6 ∧
  ∃ v7 : TV, gV v5 true (fun r => VS prog 141 [v6] fun r' => r' = r ∧ scOk true r) v7 ∧
  ∃ v8 : TV, pickT v5 v7 (TV.b false) = some v8 ∧
  True ∧ tupOk [v8] ∧ Q v8))
theorem vs142 (a0 : TV) (Q : TV → Prop) (h : W142 a0 Q) : VS prog 142 [a0] Q := vs_of (sh := sh) (af := a142) (vc := v142) (by kernel_rfl) (by kernel_rfl) (by kernel_rfl) (by kernel_rfl) rfl ((show W142 a0 Q = evFn sh prog a142 v142 [a0] Q by kernel_rfl) ▸ h)

/-! jetsam/check.expr -/
def v143 : VCode := .seq (.reg r143_0) (.seq (.seq (.dreg r143_1 b143_1 []) (.cond (.t 13) (.seq (.reg r143_2) (.ret)) (.skip))) (.seq (.seq (.reg r143_3) (.cond (.t 44) (.seq (.reg r143_4) (.ret)) (.skip))) (.seq (.seq (.reg r143_5) (.block 0 (.loop [.ob 2 [], .tr 1, .pt 2 2 0, .tr 4, .tr 46, .tr 47, .tr 48] (.seq (.reg r143_6) (.seq (.cond (.t 49) (.skip) (.exit 0)) (.seq (.block 1 (.seq (.reg r143_7) (.seq (.reg r143_8) (.cond (.t 55) (.seq (.reg r143_9) (.ret)) (.skip))))) (.reg r143_10))))))) (.seq (.reg r143_11) (.ret)))))
def W143 (a0 a1 : TV) (Q : TV → Prop) : Prop :=
  TV.isTp a0 = false ∧
  ∃ v1 : TV, cellT a0 3 = some v1 ∧
  ∃ v2 : TV, lenT v1 = some v2 ∧
  ∃ v3 : TV, cellT a0 0 = some v3 ∧
  VS prog 166 [v3] fun r4 => scOk true r4 ∧
  ∃ v5 : TV, binT .neq v2 r4 = some v5 ∧
  condK v5
  (True ∧ tupOk [(TV.b false)] ∧ Q (TV.b false))
  (∃ v6 : TV, cellT a0 0 = some v6 ∧
    ∃ v7 : TV, binT .neq v6 (TV.i .i64 1) = some v7 ∧
    ((v7, true) = ((v7, true) : TV × Bool) ∧ ∃ v8 : TV, gV v7 true (fun r => cellT a0 1 = some r) v8 ∧
    ∃ v9 : TV, gV v7 true (fun r => binT .neq v8 (TV.i .i64 0) = some r) v9 ∧
    ∃ v10 : TV, pickT v7 v9 (TV.b false) = some v10 ∧
    ((v10, false) = ((v10, false) : TV × Bool) ∧ ∃ v11 : TV, gV v10 false (fun r => cellT a0 0 = some r) v11 ∧
    ∃ v12 : TV, gV v10 false (fun r => binT .neq v11 (TV.i .i64 2) = some r) v12 ∧
    ∃ v13 : TV, gV v10 false (fun r => some v12 = some r) v13 ∧
    ((v13, true) = ((v13, true) : TV × Bool) ∧ ∃ v14 : TV, gV v13 true (fun r => cellT a0 2 = some r) v14 ∧
    ∃ v15 : TV, gV v13 true (fun r => binT .neq v14 (TV.i .i64 0) = some r) v15 ∧
    ∃ v16 : TV, gV v10 false (fun r => pickT v13 v15 (TV.b false) = some r) v16 ∧
    ∃ v17 : TV, pickT v10 (TV.b true) v16 = some v17 ∧
    ((v17, false) = ((v17, false) : TV × Bool) ∧ ∃ v18 : TV, gV v17 false (fun r => cellT a0 0 = some r) v18 ∧
    ∃ v19 : TV, gV v17 false (fun r => binT .eql v18 (TV.i .i64 2) = some r) v19 ∧
    ∃ v20 : TV, gV v17 false (fun r => some v19 = some r) v20 ∧
    ((v20, true) = ((v20, true) : TV × Bool) ∧ ∃ v21 : TV, gV v20 true (fun r => cellT a0 2 = some r) v21 ∧
    ∃ v22 : TV, gV v20 true (fun r => some a1 = some r) v22 ∧
    ∃ v23 : TV, gV v20 true (fun r => binT .sub v22 (TV.i .i64 1) = some r) v23 ∧
    ∃ v24 : TV, gV v20 true (fun r => VS prog 81 [v21, (TV.i .i64 0), v23] fun r' => r' = r ∧ scOk true r) v24 ∧
    ∃ v25 : TV, gV v20 true (fun r => unT .not v24 = some r) v25 ∧
    ∃ v26 : TV, gV v17 false (fun r => pickT v20 v25 (TV.b false) = some r) v26 ∧
    ∃ v27 : TV, pickT v17 (TV.b true) v26 = some v27 ∧
    condK v27
    (True ∧ tupOk [(TV.b false)] ∧ Q (TV.b false))
    (∃ v28 : TV, cellT a0 3 = some v28 ∧
      ∃ v29 : TV, lenT v28 = some v29 ∧
      ∃ I30 : Nat → TV → TV → TV → TV → TV → TV → Prop, (∃ n31, I30 n31 a0 a1 (TV.b false) v28 v29 (TV.i .i64 0)) ∧ ∀ n31 : Nat,
      ∀ o33 : TV, ∀ x34 : TV, ∀ x35 : TV, ∀ x36 : TV, ∀ x37 : TV, ∀ x38 : TV, I30 n31 o33 x34 x35 x36 x37 x38 → 
      ∃ v39 : TV, binT .lss x38 x37 = some v39 ∧
        condK v39
        (∃ v40 : TV, (idxT x36 x38 = some v40 ∧ szOk 4 v40) ∧
          ∃ v41 : TV, ldT v40 0 (some 4) = some v41 ∧
          ∃ v42 : TV, putT (TV.a [(TV.i .i64 0), (TV.i .i64 0), (TV.i .i64 0), (TV.l [])]) 0 4 v41 = some v42 ∧
          ∃ v43 : TV, subT v42 0 4 = some v43 ∧
          VS prog 143 [v43, x34] fun r44 => scOk true r44 ∧
          ∃ v45 : TV, unT .not r44 = some v45 ∧
          condK v45
          (True ∧ tupOk [(TV.b false)] ∧ Q (TV.b false))
          (∃ v46 : TV, binT .add x38 (TV.i .i64 1) = some v46 ∧
            ∃ m32, m32 < n31 ∧ I30 m32 o33 x34 x35 x36 x37 v46))
        (∃ v47 : TV, cellT o33 1 = some v47 ∧
          VS prog 81 [v47, (TV.i .i64 0), (TV.i .i64 2147483647)] fun r48 => scOk true r48 ∧
          True ∧ tupOk [r48] ∧ Q r48))))))))
theorem vs143 (a0 a1 : TV) (Q : TV → Prop) (h : W143 a0 a1 Q) : VS prog 143 [a0, a1] Q := vs_of (sh := sh) (af := a143) (vc := v143) (by kernel_rfl) (by kernel_rfl) (by kernel_rfl) (by kernel_rfl) rfl ((show W143 a0 a1 Q = evFn sh prog a143 v143 [a0, a1] Q by kernel_rfl) ▸ h)

/-! jetsam/check.cond -/
def v144 : VCode := .seq (.reg r144_0) (.seq (.reg r144_1) (.ret))
def W144 (a0 a1 : TV) (Q : TV → Prop) : Prop :=
  TV.isTp a0 = false ∧
  ∃ v1 : TV, cellT a0 0 = some v1 ∧
  VS prog 81 [v1, (TV.i .i64 1), (TV.i .i64 6)] fun r2 => scOk true r2 ∧
  ((r2, true) = ((r2, true) : TV × Bool) ∧ ∃ v3 : TV, gV r2 true (fun r => subT a0 1 4 = some r) v3 ∧
  ∃ v4 : TV, gV r2 true (fun r => some a1 = some r) v4 ∧
  ∃ v5 : TV, gV r2 true (fun r => VS prog 143 [v3, v4] fun r' => r' = r ∧ scOk true r) v5 ∧
  ∃ v6 : TV, pickT r2 v5 (TV.b false) = some v6 ∧
  ((v6, true) = ((v6, true) : TV × Bool) ∧ ∃ v7 : TV, gV v6 true (fun r => subT a0 5 4 = some r) v7 ∧
  ∃ v8 : TV, gV v6 true (fun r => some a1 = some r) v8 ∧
  ∃ v9 : TV, gV v6 true (fun r => VS prog 143 [v7, v8] fun r' => r' = r ∧ scOk true r) v9 ∧
  ∃ v10 : TV, pickT v6 v9 (TV.b false) = some v10 ∧
  True ∧ tupOk [v10] ∧ Q v10))
theorem vs144 (a0 a1 : TV) (Q : TV → Prop) (h : W144 a0 a1 Q) : VS prog 144 [a0, a1] Q := vs_of (sh := sh) (af := a144) (vc := v144) (by kernel_rfl) (by kernel_rfl) (by kernel_rfl) (by kernel_rfl) rfl ((show W144 a0 a1 Q = evFn sh prog a144 v144 [a0, a1] Q by kernel_rfl) ▸ h)

/-! (jetsam/check.looker).end -/
def v145 : VCode := .seq (.reg r145_0) (.seq (.dreg r145_1 b145_1 []) (.ret))
def W145 (a0 a1 a2 : TV) (Q : TV → Prop) : Prop :=
  TV.isTp a0 = false ∧
  ∃ v1 : TV, cellT a0 0 = some v1 ∧
  ∃ v2 : TV, lenT v1 = some v2 ∧
  ∃ v3 : TV, binT .sub v2 (TV.i .i64 1) = some v3 ∧
  VS prog 81 [a1, (TV.i .i64 0), v3] fun r4 => scOk true r4 ∧
  ∃ v5 : TV, gV r4 true (fun r => some a2 = some r) v5 ∧
  ((r4, true) = ((r4, true) : TV × Bool) ∧ ((r4, true) = ((r4, true) : TV × Bool) ∧ ∃ v6 : TV, gV r4 true (fun r => cellT a0 0 = some r) v6 ∧
  ∃ v7 : TV, gV r4 true (fun r => some a1 = some r) v7 ∧
  ∃ v8 : TV, gV r4 true (fun r => (idxT v6 v7 = some r ∧ szOk 6 r)) v8 ∧
  ((r4, true) = ((r4, true) : TV × Bool) ∧ ∃ v9 : TV, gV r4 true (fun r => ldT v8 0 (some 6) = some r) v9 ∧
  ∃ v10 : Nat, (r4 = .b true → v5 = .f v10) ∧
  ∃ v11 : TV, gV r4 true (fun r => VS prog v10 [v9] fun r' => r' = r ∧ scOk true r) v11 ∧
  ((r4, true) = ((r4, true) : TV × Bool) ∧ ∃ v12 : TV, gV r4 true (fun r => cellT a0 2 = some r) v12 ∧
  ∃ v13 : TV, gV r4 true (fun r => binT .eql v11 v12 = some r) v13 ∧
  ∃ v14 : TV, pickT r4 v13 (TV.b false) = some v14 ∧
  True ∧ tupOk [v14] ∧ Q v14))))
theorem vs145 (a0 a1 a2 : TV) (Q : TV → Prop) (h : W145 a0 a1 a2 Q) : VS prog 145 [a0, a1, a2] Q := vs_of (sh := sh) (af := a145) (vc := v145) (by kernel_rfl) (by kernel_rfl) (by kernel_rfl) (by kernel_rfl) rfl ((show W145 a0 a1 a2 Q = evFn sh prog a145 v145 [a0, a1, a2] Q by kernel_rfl) ▸ h)

/-! jetsam/check.from -/
def v146 : VCode := .seq (.reg r146_0) (.seq (.reg r146_1) (.ret))
def W146 (a0 : TV) (Q : TV → Prop) : Prop :=
  TV.isTp a0 = false ∧
  ∃ v1 : TV, cellT a0 2 = some v1 ∧
  True ∧ tupOk [v1] ∧ Q v1
theorem vs146 (a0 : TV) (Q : TV → Prop) (h : W146 a0 Q) : VS prog 146 [a0] Q := vs_of (sh := sh) (af := a146) (vc := v146) (by kernel_rfl) (by kernel_rfl) (by kernel_rfl) (by kernel_rfl) rfl ((show W146 a0 Q = evFn sh prog a146 v146 [a0] Q by kernel_rfl) ▸ h)

/-! (jetsam/check.looker).tag -/
def v147 : VCode := .seq (.reg r147_0) (.seq (.reg r147_1) (.ret))
def W147 (a0 a1 a2 : TV) (Q : TV → Prop) : Prop :=
  TV.isTp a0 = false ∧
  ∃ v1 : TV, cellT a0 0 = some v1 ∧
  ∃ v2 : TV, (idxT v1 a1 = some v2 ∧ szOk 6 v2) ∧
  ∃ v3 : TV, ldT v2 4 none = some v3 ∧
  ∃ v4 : TV, binT .sub v3 (TV.i .i64 1) = some v4 ∧
  VS prog 81 [a2, (TV.i .i64 0), v4] fun r5 => scOk true r5 ∧
  True ∧ tupOk [r5] ∧ Q r5
theorem vs147 (a0 a1 a2 : TV) (Q : TV → Prop) (h : W147 a0 a1 a2 Q) : VS prog 147 [a0, a1, a2] Q := vs_of (sh := sh) (af := a147) (vc := v147) (by kernel_rfl) (by kernel_rfl) (by kernel_rfl) (by kernel_rfl) rfl ((show W147 a0 a1 a2 Q = evFn sh prog a147 v147 [a0, a1, a2] Q by kernel_rfl) ▸ h)

/-! jetsam/check.to -/
def v148 : VCode := .seq (.reg r148_0) (.seq (.reg r148_1) (.ret))
def W148 (a0 : TV) (Q : TV → Prop) : Prop :=
  TV.isTp a0 = false ∧
  ∃ v1 : TV, cellT a0 3 = some v1 ∧
  True ∧ tupOk [v1] ∧ Q v1
theorem vs148 (a0 : TV) (Q : TV → Prop) (h : W148 a0 Q) : VS prog 148 [a0] Q := vs_of (sh := sh) (af := a148) (vc := v148) (by kernel_rfl) (by kernel_rfl) (by kernel_rfl) (by kernel_rfl) rfl ((show W148 a0 Q = evFn sh prog a148 v148 [a0] Q by kernel_rfl) ▸ h)

/-! (jetsam/check.looker).arms -/
def v149 : VCode := .seq (.reg r149_0) (.seq (.reg r149_1) (.seq (.seq (.reg r149_2) (.block 0 (.loop [.ob 3 [], .ob 7 [], .tr 1, .tr 2, .pt 3 3 0, .tr 6, .pt 7 7 0, .tr 10, .tr 11, .tr 12] (.seq (.reg r149_3) (.seq (.cond (.t 13) (.skip) (.exit 0)) (.seq (.block 1 (.seq (.reg r149_4) (.seq (.seq (.reg r149_5) (.cond (.t 43) (.seq (.reg r149_6) (.ret)) (.skip))) (.reg r149_7)))) (.reg r149_8))))))) (.seq (.reg r149_9) (.ret))))
def W149 (a0 a1 a2 : TV) (Q : TV → Prop) : Prop :=
  TV.isTp a0 = false ∧
  ∃ v1 : TV, lenT a2 = some v1 ∧
  ∃ I2 : Nat → TV → TV → TV → TV → TV → TV → TV → TV → Prop, (∃ n3, I2 n3 a0 (TV.a [(TV.b false), (TV.b false), (TV.b false), (TV.b false)]) a1 a2 (TV.b false) a2 v1 (TV.i .i64 0)) ∧ ∀ n3 : Nat,
  ∀ o5 : TV, ∀ o6 : TV, ∀ x7 : TV, ∀ x8 : TV, ∀ x9 : TV, ∀ x10 : TV, ∀ x11 : TV, ∀ x12 : TV, I2 n3 o5 o6 x7 x8 x9 x10 x11 x12 → 
  ∃ v13 : TV, binT .lss x12 x11 = some v13 ∧
    condK v13
    (∃ v14 : TV, (idxT x10 x12 = some v14 ∧ szOk 3 v14) ∧
      ∃ v15 : TV, ldT v14 0 (some 3) = some v15 ∧
      ∃ v16 : TV, putT (TV.a [(TV.i .i64 0), (TV.i .i64 0), (TV.l [])]) 0 3 v15 = some v16 ∧
      ∃ v17 : TV, subT o5 0 4 = some v17 ∧
      ∃ v18 : TV, cellT v16 0 = some v18 ∧
      VS prog 147 [v17, x7, v18] fun r19 => scOk true r19 ∧
      ∃ v20 : TV, unT .not r19 = some v20 ∧
      ((v20, false) = ((v20, false) : TV × Bool) ∧ ∃ v21 : TV, gV v20 false (fun r => cellT v16 0 = some r) v21 ∧
      ∃ v22 : Nat, (v20 = .b false → ixN v21 4 = some v22) ∧
      ((v20, false) = ((v20, false) : TV × Bool) ∧ ∃ v23 : TV, gV v20 false (fun r => ldT o6 (0 + v22 * 1) none = some r) v23 ∧
      ∃ v24 : TV, pickT v20 (TV.b true) v23 = some v24 ∧
      ((v24, false) = ((v24, false) : TV × Bool) ∧ ∃ v25 : TV, gV v24 false (fun r => cellT v16 1 = some r) v25 ∧
      ((v24, false) = ((v24, false) : TV × Bool) ∧ ∃ v26 : TV, gV v24 false (fun r => cellT o5 3 = some r) v26 ∧
      ∃ v27 : TV, gV v24 false (fun r => binT .sub v26 (TV.i .i64 1) = some r) v27 ∧
      ∃ v28 : TV, gV v24 false (fun r => VS prog 81 [v25, (TV.i .i64 0), v27] fun r' => r' = r ∧ scOk true r) v28 ∧
      ∃ v29 : TV, gV v24 false (fun r => unT .not v28 = some r) v29 ∧
      ∃ v30 : TV, pickT v24 (TV.b true) v29 = some v30 ∧
      ∃ v31 : TV, gV v30 false (fun r => subT o5 0 4 = some r) v31 ∧
      ((v30, false) = ((v30, false) : TV × Bool) ∧ ∃ v32 : TV, gV v30 false (fun r => cellT v16 2 = some r) v32 ∧
      ∃ v33 : TV, gV v30 false (fun r => VS prog 83 [v31, v32] fun r' => r' = r ∧ scOk true r) v33 ∧
      ∃ v34 : TV, gV v30 false (fun r => unT .not v33 = some r) v34 ∧
      ∃ v35 : TV, pickT v30 (TV.b true) v34 = some v35 ∧
      condK v35
      (True ∧ tupOk [(TV.b false)] ∧ Q (TV.b false))
      (∃ v36 : TV, cellT v16 0 = some v36 ∧
        ∃ v37 : Nat, ixN v36 4 = some v37 ∧
        ∃ v38 : TV, putT o6 (0 + v37 * 1) 1 (TV.b true) = some v38 ∧
        ∃ v39 : TV, binT .add x12 (TV.i .i64 1) = some v39 ∧
        ∃ m4, m4 < n3 ∧ I2 m4 o5 v38 x7 x8 x9 x10 x11 v39)))))))
    (∃ v40 : TV, lenT x8 = some v40 ∧
      ∃ v41 : TV, binT .gtr v40 (TV.i .i64 0) = some v41 ∧
      True ∧ tupOk [v41] ∧ Q v41)
theorem vs149 (a0 a1 a2 : TV) (Q : TV → Prop) (h : W149 a0 a1 a2 Q) : VS prog 149 [a0, a1, a2] Q := vs_of (sh := sh) (af := a149) (vc := v149) (by kernel_rfl) (by kernel_rfl) (by kernel_rfl) (by kernel_rfl) rfl ((show W149 a0 a1 a2 Q = evFn sh prog a149 v149 [a0, a1, a2] Q by kernel_rfl) ▸ h)

/-! jetsam/check.kids -/
def v166 : VCode := .seq (.reg r166_0) (.seq (.block 0 (.seq (.reg r166_1) (.cond (.t 3) (.seq (.reg r166_2) (.ret)) (.seq (.reg r166_3) (.cond (.t 10) (.seq (.reg r166_4) (.ret)) (.seq (.reg r166_5) (.cond (.t 13) (.seq (.reg r166_6) (.ret)) (.skip)))))))) (.seq (.reg r166_7) (.ret)))
def W166 (a0 : TV) (Q : TV → Prop) : Prop :=
  ∃ v1 : TV, binT .eql a0 (TV.i .i64 1) = some v1 ∧
  ∃ v2 : TV, gV v1 false (fun r => some a0 = some r) v2 ∧
  ∃ v3 : TV, gV v1 false (fun r => binT .eql v2 (TV.i .i64 2) = some r) v3 ∧
  ∃ v4 : TV, pickT v1 (TV.b true) v3 = some v4 ∧
  condK v4
  (True ∧ tupOk [(TV.i .i64 0)] ∧ Q (TV.i .i64 0))
  (∃ v5 : TV, binT .eql a0 (TV.i .i64 3) = some v5 ∧
    condK v5
    (True ∧ tupOk [(TV.i .i64 1)] ∧ Q (TV.i .i64 1))
    (VS prog 81 [a0, (TV.i .i64 4), (TV.i .i64 8)] fun r6 => scOk true r6 ∧
      condK r6
      (True ∧ tupOk [(TV.i .i64 2)] ∧ Q (TV.i .i64 2))
      (True ∧ tupOk [(TV.i .i64 (-1))] ∧ Q (TV.i .i64 (-1)))))
theorem vs166 (a0 : TV) (Q : TV → Prop) (h : W166 a0 Q) : VS prog 166 [a0] Q := vs_of (sh := sh) (af := a166) (vc := v166) (by kernel_rfl) (by kernel_rfl) (by kernel_rfl) (by kernel_rfl) rfl ((show W166 a0 Q = evFn sh prog a166 v166 [a0] Q by kernel_rfl) ▸ h)

/-! (*jetsam/flow.Graph).lay (given objects) -/
def v62 : VCode := .seq (.seq (.reg r62_0) (.cond (.t 13) (.seq (.reg r62_1) (.ret)) (.skip))) (.seq (.seq (.reg r62_2) (.block 0 (.loop [.ob 0 [(1, 19), (2, 1)], .pt 0 0 0, .tr 1, .tr 2, .tr 3, .tr 23, .tr 24, .tr 25] (.seq (.reg r62_3) (.seq (.cond (.t 26) (.skip) (.exit 0)) (.seq (.block 1 (.seq (.reg r62_4) (.seq (.reg r62_5) (.seq (.reg r62_6) (.reg r62_7))))) (.reg r62_8))))))) (.reg r62_9))
def WS62 (Q : TV → List TV → List TV → TV → Prop) (o0_ : TV) (l0_1 : List TV) (l0_2 : List TV) (a1 : TV) (a2 : TV) (a3 : TV) : Prop :=
  ∃ v1 : TV, lenT a1 = some v1 ∧
  ∃ v2 : TV, binT .eql v1 (TV.i .i64 0) = some v2 ∧
  condK v2
  (∃ v3 : TV, putT (TV.a [(TV.i .i64 0), (TV.i .i64 0), (TV.i .i64 0), (TV.i .i64 0), (TV.i .i64 0), (TV.i .i64 0), (TV.i .i64 0), (TV.i .i64 0), (TV.i .i64 0), (TV.l []), (TV.i .i64 0), (TV.i .i64 0), (TV.i .i64 0), (TV.i .i64 0), (TV.l []), (TV.i .i64 0), (TV.i .i64 0), (TV.i .i64 0), (TV.l [])]) 0 1 a2 = some v3 ∧
    ∃ v4 : TV, putT v3 1 1 a3 = some v4 ∧
    ∃ v5 : TV, nilsT [(9, VV.nil0), (14, VV.nil0), (18, VV.nil0)] v4 = some v5 ∧
    S84 (fun (o6 : TV) (l7 : List TV) (l8 : List TV) (r9 : TV) =>
    True ∧ noTps [] ∧ Q o6 l7 l8 (TV.tp []))
    o0_ l0_1 l0_2 v5)
  (∃ v10 : TV, lenT a1 = some v10 ∧
    ∃ v11 : TV, binT .sub v10 (TV.i .i64 1) = some v11 ∧
    ∃ v12 : TV, (slT a1 none (some v11) = some v12 ∧ ∀ es, a1 = .l es → szHd 20 es) ∧
    ∃ v13 : TV, lenT v12 = some v13 ∧
    ∃ I14 : Nat → TV → List TV → List TV → TV → TV → TV → TV → TV → TV → Prop, (∃ n15, I14 n15 o0_ l0_1 l0_2 a1 a2 a3 v12 v13 (TV.i .i64 0)) ∧ ∀ n15 : Nat,
    ∀ o17 : TV, ∀ l18 : List TV, ∀ l19 : List TV, ∀ x20 : TV, ∀ x21 : TV, ∀ x22 : TV, ∀ x23 : TV, ∀ x24 : TV, ∀ x25 : TV, I14 n15 o17 l18 l19 x20 x21 x22 x23 x24 x25 → 
    ∃ v26 : TV, binT .lss x25 x24 = some v26 ∧
      condK v26
      (∃ v27 : TV, (idxT x23 x25 = some v27 ∧ szOk 20 v27) ∧
        ∃ v28 : TV, ldT v27 0 (some 20) = some v28 ∧
        ∃ v29 : TV, putT (TV.a [(TV.i .i64 0), (TV.i .i64 0), (TV.i .i64 0), (TV.i .i64 0), (TV.i .i64 0), (TV.i .i64 0), (TV.i .i64 0), (TV.l []), (TV.i .i64 0), (TV.i .i64 0), (TV.i .i64 0), (TV.i .i64 0), (TV.l []), (TV.i .i64 0), (TV.i .i64 0), (TV.i .i64 0), (TV.l []), (TV.l []), (TV.l []), (TV.l [])]) 0 20 v28 = some v29 ∧
        S85 (fun (o30 : TV) (l31 : List TV) (l32 : List TV) (r33 : TV) =>
        ∃ v34 : TV, subT v29 0 20 = some v34 ∧
        S86 (fun (o35 : TV) (l36 : List TV) (l37 : List TV) (r38 : TV) =>
        ∃ v39 : TV, binT .add x25 (TV.i .i64 1) = some v39 ∧
        ∃ m16, m16 < n15 ∧ I14 m16 o35 l36 l37 x20 r33 x22 x23 x24 v39)
        o30 l31 l32 v34 x21 r33)
        o17 l18 l19)
      (∃ v40 : TV, lenT x20 = some v40 ∧
        ∃ v41 : TV, binT .sub v40 (TV.i .i64 1) = some v41 ∧
        ∃ v42 : TV, (idxT x20 v41 = some v42 ∧ szOk 20 v42) ∧
        ∃ v43 : TV, ldT v42 0 (some 20) = some v43 ∧
        S86 (fun (o44 : TV) (l45 : List TV) (l46 : List TV) (r47 : TV) =>
        True ∧ noTps [] ∧ Q o44 l45 l46 (TV.tp []))
        o17 l18 l19 v43 x21 x22))
theorem sh62 (Q : TV → List TV → List TV → TV → Prop) (o0_ : TV) (l0_1 : List TV) (l0_2 : List TV) (a1 : TV) (a2 : TV) (a3 : TV) (h : WS62 Q o0_ l0_1 l0_2 a1 a2 a3) : S62 Q o0_ l0_1 l0_2 a1 a2 a3 := by
  refine vsh_of (sh := sh) (af := a62) (vc := v62) (p := kept [.ob [(1, 19), (2, 1)], .tr, .tr, .tr]) (np := 4) (by kernel_rfl) (by kernel_rfl) (by kernel_rfl) (by kernel_rfl) (by kernel_rfl) rfl ?_
  refine Eq.mp (?_ : WS62 Q o0_ l0_1 l0_2 a1 a2 a3 = _) h
  kernel_rfl

/-! slices.Sort[[]int,int] (given objects) -/
def v63 : VCode := .seq (.reg r63_0) (.reg r63_1)
def WS63 (Q : List TV → TV → Prop) (l0_ : List TV) : Prop :=
  ∃ v1 : TV, some (TV.i .i64 (List.length l0_)) = some v1 ∧
  ∃ v2 : TV, convT .u64 v1 = some v2 ∧
  VS prog 88 [v2] fun r3 => scOk true r3 ∧
  S87 (fun (l4 : List TV) (r5 : TV) =>
  True ∧ noTps [] ∧ Q l4 (TV.tp []))
  l0_ (TV.i .i64 0) v1 r3
theorem sh63 (Q : List TV → TV → Prop) (l0_ : List TV) (h : WS63 Q l0_) : S63 Q l0_ := by
  refine vsh_of (sh := sh) (af := a63) (vc := v63) (p := kept [.sl 1]) (np := 1) (by kernel_rfl) (by kernel_rfl) (by kernel_rfl) (by kernel_rfl) (by kernel_rfl) rfl ?_
  refine Eq.mp (?_ : WS63 Q l0_ = _) h
  kernel_rfl

/-! (*jetsam/flow.Graph).edge (given objects) -/
def v84 : VCode := .seq (.reg r84_0) (.dreg r84_1 b84_1 [(4, 6)])
def WS84 (Q : TV → List TV → List TV → TV → Prop) (o0_ : TV) (l0_1 : List TV) (l0_2 : List TV) (a1 : TV) : Prop :=
  TV.isTp a1 = false ∧
  ∃ v1 : TV, subT a1 0 19 = some v1 ∧
  (Nat.beq 0 (0 * 19) && Nat.beq 19 19) = true ∧ szOk 19 v1 ∧
  ∃ v2 : List TV, listT (TV.l [v1]) = some v2 ∧ szHd 19 v2 ∧
  ∃ v3 : List TV, appT 200 l0_1 v2 = some v3 ∧
  ∃ v4 : TV, putT o0_ 1 1 (TV.l []) = some v4 ∧
  True ∧ noTps [] ∧ Q v4 v3 l0_2 (TV.tp [])
theorem sh84 (Q : TV → List TV → List TV → TV → Prop) (o0_ : TV) (l0_1 : List TV) (l0_2 : List TV) (a1 : TV) (h : WS84 Q o0_ l0_1 l0_2 a1) : S84 Q o0_ l0_1 l0_2 a1 := by
  refine vsh_of (sh := sh) (af := a84) (vc := v84) (p := kept [.ob [(1, 19), (2, 1)], .tr]) (np := 2) (by kernel_rfl) (by kernel_rfl) (by kernel_rfl) (by kernel_rfl) (by kernel_rfl) rfl ?_
  refine Eq.mp (?_ : WS84 Q o0_ l0_1 l0_2 a1 = _) h
  kernel_rfl

/-! (*jetsam/flow.Graph).node (given objects) -/
def v85 : VCode := .seq (.reg r85_0) (.seq (.reg r85_1) (.seq (.reg r85_2) (.ret)))
def WS85 (Q : TV → List TV → List TV → TV → Prop) (o0_ : TV) (l0_1 : List TV) (l0_2 : List TV) : Prop :=
  ∃ v1 : TV, cellT o0_ 0 = some v1 ∧
  ∃ v2 : TV, binT .add v1 (TV.i .i64 1) = some v2 ∧
  ∃ v3 : TV, putT o0_ 0 1 v2 = some v3 ∧
  ∃ v4 : TV, cellT v3 0 = some v4 ∧
  ∃ v5 : TV, binT .sub v4 (TV.i .i64 1) = some v5 ∧
  True ∧ Q v3 l0_1 l0_2 v5
theorem sh85 (Q : TV → List TV → List TV → TV → Prop) (o0_ : TV) (l0_1 : List TV) (l0_2 : List TV) (h : WS85 Q o0_ l0_1 l0_2) : S85 Q o0_ l0_1 l0_2 := by
  refine vsh_of (sh := sh) (af := a85) (vc := v85) (p := kept [.ob [(1, 19), (2, 1)]]) (np := 1) (by kernel_rfl) (by kernel_rfl) (by kernel_rfl) (by kernel_rfl) (by kernel_rfl) rfl ?_
  refine Eq.mp (?_ : WS85 Q o0_ l0_1 l0_2 = _) h
  kernel_rfl

/-! (*jetsam/flow.Graph).stmt (given objects) -/
def v86 : VCode := .seq (.reg r86_0) (.seq (.reg r86_1) (.block 0 (.seq (.reg r86_2) (.cond (.t 10) (.dreg r86_3 b86_3 []) (.seq (.reg r86_4) (.cond (.t 22) (.dreg r86_5 b86_5 []) (.seq (.reg r86_6) (.cond (.t 36) (.reg r86_7) (.seq (.reg r86_8) (.cond (.t 46) (.reg r86_9) (.seq (.reg r86_10) (.cond (.t 55) (.seq (.dreg r86_11 b86_11 []) (.dreg r86_12 b86_12 [])) (.seq (.reg r86_13) (.cond (.t 75) (.reg r86_14) (.seq (.reg r86_15) (.cond (.t 82) (.reg r86_16) (.skip)))))))))))))))))
def WS86 (Q : TV → List TV → List TV → TV → Prop) (o0_ : TV) (l0_1 : List TV) (l0_2 : List TV) (a1 : TV) (a2 : TV) (a3 : TV) : Prop :=
  TV.isTp a1 = false ∧
  ∃ v1 : TV, cellT a1 0 = some v1 ∧
  ∃ v2 : TV, binT .eql v1 (TV.i .i64 1) = some v2 ∧
  condK v2
  (∃ v3 : TV, cellT a1 1 = some v3 ∧
    ∃ v4 : TV, subT a1 4 4 = some v4 ∧
    VS prog 106 [v4] fun r5 => scOk true r5 ∧
    ∃ v6 : TV, putT (TV.a [(TV.i .i64 0), (TV.i .i64 0), (TV.i .i64 0), (TV.i .i64 0), (TV.i .i64 0), (TV.i .i64 0), (TV.i .i64 0), (TV.i .i64 0), (TV.i .i64 0), (TV.l []), (TV.i .i64 0), (TV.i .i64 0), (TV.i .i64 0), (TV.i .i64 0), (TV.l []), (TV.i .i64 0), (TV.i .i64 0), (TV.i .i64 0), (TV.l [])]) 0 1 a2 = some v6 ∧
    ∃ v7 : TV, putT v6 1 1 a3 = some v7 ∧
    ∃ v8 : TV, putT v7 2 1 (TV.i .i64 1) = some v8 ∧
    ∃ v9 : TV, putT v8 3 1 v3 = some v9 ∧
    ∃ v10 : TV, putT v9 6 4 r5 = some v10 ∧
    ∃ v11 : TV, nilsT [(14, VV.nil0), (18, VV.nil0)] v10 = some v11 ∧
    S84 (fun (o12 : TV) (l13 : List TV) (l14 : List TV) (r15 : TV) =>
    True ∧ noTps [] ∧ Q o12 l13 l14 (TV.tp []))
    o0_ l0_1 l0_2 v11)
  (∃ v16 : TV, binT .eql v1 (TV.i .i64 4) = some v16 ∧
    condK v16
    (∃ v17 : TV, cellT a1 2 = some v17 ∧
      ∃ v18 : TV, cellT a1 3 = some v18 ∧
      ∃ v19 : TV, subT a1 4 4 = some v19 ∧
      VS prog 106 [v19] fun r20 => scOk true r20 ∧
      ∃ v21 : TV, putT (TV.a [(TV.i .i64 0), (TV.i .i64 0), (TV.i .i64 0), (TV.i .i64 0), (TV.i .i64 0), (TV.i .i64 0), (TV.i .i64 0), (TV.i .i64 0), (TV.i .i64 0), (TV.l []), (TV.i .i64 0), (TV.i .i64 0), (TV.i .i64 0), (TV.i .i64 0), (TV.l []), (TV.i .i64 0), (TV.i .i64 0), (TV.i .i64 0), (TV.l [])]) 0 1 a2 = some v21 ∧
      ∃ v22 : TV, putT v21 1 1 a3 = some v22 ∧
      ∃ v23 : TV, putT v22 2 1 (TV.i .i64 3) = some v23 ∧
      ∃ v24 : TV, putT v23 4 1 v17 = some v24 ∧
      ∃ v25 : TV, putT v24 5 1 v18 = some v25 ∧
      ∃ v26 : TV, putT v25 6 4 r20 = some v26 ∧
      ∃ v27 : TV, nilsT [(14, VV.nil0), (18, VV.nil0)] v26 = some v27 ∧
      S84 (fun (o28 : TV) (l29 : List TV) (l30 : List TV) (r31 : TV) =>
      True ∧ noTps [] ∧ Q o28 l29 l30 (TV.tp []))
      o0_ l0_1 l0_2 v27)
    (∃ v32 : TV, binT .eql v1 (TV.i .i64 6) = some v32 ∧
      condK v32
      (∃ v33 : TV, subT a1 8 9 = some v33 ∧
        VS prog 107 [v33] fun r34 => scOk true r34 ∧
        ∃ v35 : TV, putT (TV.a [(TV.i .i64 0), (TV.i .i64 0), (TV.i .i64 0), (TV.i .i64 0), (TV.i .i64 0), (TV.i .i64 0), (TV.i .i64 0), (TV.i .i64 0), (TV.i .i64 0), (TV.l []), (TV.i .i64 0), (TV.i .i64 0), (TV.i .i64 0), (TV.i .i64 0), (TV.l []), (TV.i .i64 0), (TV.i .i64 0), (TV.i .i64 0), (TV.l [])]) 0 1 a2 = some v35 ∧
        ∃ v36 : TV, putT v35 1 1 a3 = some v36 ∧
        ∃ v37 : TV, putT v36 2 1 (TV.i .i64 5) = some v37 ∧
        ∃ v38 : TV, putT v37 10 9 r34 = some v38 ∧
        ∃ v39 : TV, nilsT [(9, VV.nil0)] v38 = some v39 ∧
        S84 (fun (o40 : TV) (l41 : List TV) (l42 : List TV) (r43 : TV) =>
        True ∧ noTps [] ∧ Q o40 l41 l42 (TV.tp []))
        o0_ l0_1 l0_2 v39)
      (∃ v44 : TV, binT .eql v1 (TV.i .i64 7) = some v44 ∧
        condK v44
        (∃ v45 : TV, cellT a1 1 = some v45 ∧
          ∃ v46 : TV, putT (TV.a [(TV.i .i64 0), (TV.i .i64 0), (TV.i .i64 0), (TV.i .i64 0), (TV.i .i64 0), (TV.i .i64 0), (TV.i .i64 0), (TV.i .i64 0), (TV.i .i64 0), (TV.l []), (TV.i .i64 0), (TV.i .i64 0), (TV.i .i64 0), (TV.i .i64 0), (TV.l []), (TV.i .i64 0), (TV.i .i64 0), (TV.i .i64 0), (TV.l [])]) 0 1 a2 = some v46 ∧
          ∃ v47 : TV, putT v46 1 1 a3 = some v47 ∧
          ∃ v48 : TV, putT v47 2 1 (TV.i .i64 6) = some v48 ∧
          ∃ v49 : TV, putT v48 3 1 v45 = some v49 ∧
          ∃ v50 : TV, nilsT [(9, VV.nil0), (14, VV.nil0), (18, VV.nil0)] v49 = some v50 ∧
          S84 (fun (o51 : TV) (l52 : List TV) (l53 : List TV) (r54 : TV) =>
          True ∧ noTps [] ∧ Q o51 l52 l53 (TV.tp []))
          o0_ l0_1 l0_2 v50)
        (∃ v55 : TV, binT .eql v1 (TV.i .i64 2) = some v55 ∧
          condK v55
          (∃ v56 : TV, subT a1 8 9 = some v56 ∧
            VS prog 107 [v56] fun r57 => scOk true r57 ∧
            ∃ v58 : TV, cellT a1 17 = some v58 ∧
            S108 (fun (o59 : TV) (l60 : List TV) (l61 : List TV) (r62 : TV) =>
            ∃ v63 : TV, subT a1 8 9 = some v63 ∧
            VS prog 109 [v63] fun r64 => scOk true r64 ∧
            ∃ v65 : TV, cellT a1 18 = some v65 ∧
            S108 (fun (o66 : TV) (l67 : List TV) (l68 : List TV) (r69 : TV) =>
            True ∧ noTps [] ∧ Q o66 l67 l68 (TV.tp []))
            o59 l60 l61 r64 v65 a2 a3)
            o0_ l0_1 l0_2 r57 v58 a2 a3)
          (∃ v70 : TV, binT .eql v1 (TV.i .i64 3) = some v70 ∧
            condK v70
            (∃ v71 : TV, subT a1 0 20 = some v71 ∧
              S110 (fun (o72 : TV) (l73 : List TV) (l74 : List TV) (r75 : TV) =>
              True ∧ noTps [] ∧ Q o72 l73 l74 (TV.tp []))
              o0_ l0_1 l0_2 v71 a2 a3)
            (∃ v76 : TV, binT .eql v1 (TV.i .i64 5) = some v76 ∧
              condK v76
              (∃ v77 : TV, subT a1 0 20 = some v77 ∧
                S111 (fun (o78 : TV) (l79 : List TV) (l80 : List TV) (r81 : TV) =>
                True ∧ noTps [] ∧ Q o78 l79 l80 (TV.tp []))
                o0_ l0_1 l0_2 v77 a2 a3)
              (True ∧ noTps [] ∧ Q o0_ l0_1 l0_2 (TV.tp []))))))))
theorem sh86 (Q : TV → List TV → List TV → TV → Prop) (o0_ : TV) (l0_1 : List TV) (l0_2 : List TV) (a1 : TV) (a2 : TV) (a3 : TV) (h : WS86 Q o0_ l0_1 l0_2 a1 a2 a3) : S86 Q o0_ l0_1 l0_2 a1 a2 a3 := by
  refine vsh_of (sh := sh) (af := a86) (vc := v86) (p := kept [.ob [(1, 19), (2, 1)], .tr, .tr, .tr]) (np := 4) (by kernel_rfl) (by kernel_rfl) (by kernel_rfl) (by kernel_rfl) (by kernel_rfl) rfl ?_
  refine Eq.mp (?_ : WS86 Q o0_ l0_1 l0_2 a1 a2 a3 = _) h
  kernel_rfl

/-! slices.pdqsortOrdered[int] (given objects) -/
def v87 : VCode := .seq (.reg r87_0) (.seq (.reg r87_1) (.block 0 (.loop [.sl 0 1, .tr 1, .tr 2, .tr 3, .tr 8, .tr 9] (.block 1 (.seq (.reg r87_2) (.seq (.seq (.reg r87_3) (.cond (.t 23) (.seq (.reg r87_4) (.ret)) (.skip))) (.seq (.seq (.reg r87_5) (.cond (.t 29) (.seq (.reg r87_6) (.ret)) (.skip))) (.seq (.seq (.reg r87_7) (.cond (.t 35) (.seq (.reg r87_8) (.reg r87_9)) (.skip))) (.seq (.reg r87_10) (.seq (.seq (.reg r87_11) (.cond (.t 50) (.seq (.reg r87_12) (.seq (.reg r87_13) (.reg r87_14))) (.skip))) (.seq (.seq (.reg r87_15) (.cond (.t 68) (.seq (.reg r87_16) (.cond (.t 72) (.ret) (.skip))) (.skip))) (.seq (.seq (.dreg r87_17 b87_17 []) (.cond (.t 87) (.seq (.reg r87_18) (.seq (.reg r87_19) (.exit 1))) (.skip))) (.seq (.reg r87_20) (.seq (.reg r87_21) (.seq (.reg r87_22) (.seq (.reg r87_23) (.seq (.reg r87_24) (.cond (.t 113) (.seq (.reg r87_25) (.seq (.reg r87_26) (.reg r87_27))) (.seq (.reg r87_28) (.seq (.reg r87_29) (.reg r87_30)))))))))))))))))))))
def WS87 (Q : List TV → TV → Prop) (l0_ : List TV) (a1 : TV) (a2 : TV) (a3 : TV) : Prop :=
  ∃ I1 : Nat → List TV → TV → TV → TV → TV → TV → Prop, (∃ n2, I1 n2 l0_ a1 a2 a3 (TV.b true) (TV.b true)) ∧ ∀ n2 : Nat,
  ∀ l4 : List TV, ∀ x5 : TV, ∀ x6 : TV, ∀ x7 : TV, ∀ x8 : TV, ∀ x9 : TV, I1 n2 l4 x5 x6 x7 x8 x9 → 
  ∃ v10 : TV, binT .sub x6 x5 = some v10 ∧
    ∃ v11 : TV, binT .leq v10 (TV.i .i64 12) = some v11 ∧
    condK v11
    (S112 (fun (l12 : List TV) (r13 : TV) =>
      True ∧ noTps [] ∧ Q l12 (TV.tp []))
      l4 x5 x6)
    (∃ v14 : TV, binT .eql x7 (TV.i .i64 0) = some v14 ∧
      condK v14
      (S113 (fun (l15 : List TV) (r16 : TV) =>
        True ∧ noTps [] ∧ Q l15 (TV.tp []))
        l4 x5 x6)
      (∃ v17 : TV, unT .not x8 = some v17 ∧
        condK v17
        (S114 (fun (l18 : List TV) (r19 : TV) =>
          ∃ v20 : TV, binT .sub x7 (TV.i .i64 1) = some v20 ∧
          S115 (fun (l21 : List TV) (r22 : TV) =>
          ∃ v23 : TV, extT 0 r22 = some v23 ∧
          ∃ v24 : TV, extT 1 r22 = some v24 ∧
          ∃ v25 : TV, binT .eql v24 (TV.i .i64 2) = some v25 ∧
          condK v25
          (S116 (fun (l26 : List TV) (r27 : TV) =>
            ∃ v28 : TV, binT .sub x6 (TV.i .i64 1) = some v28 ∧
            ∃ v29 : TV, binT .sub v23 x5 = some v29 ∧
            ∃ v30 : TV, binT .sub v28 v29 = some v30 ∧
            ∃ v31 : TV, gV x8 true (fun r => some x9 = some r) v31 ∧
            ∃ v32 : TV, pickT x8 v31 (TV.b false) = some v32 ∧
            ∃ v33 : TV, gV v32 true (fun r => some (TV.i .i64 1) = some r) v33 ∧
            ∃ v34 : TV, gV v32 true (fun r => binT .eql v33 (TV.i .i64 1) = some r) v34 ∧
            ∃ v35 : TV, pickT v32 v34 (TV.b false) = some v35 ∧
            condK v35
            (S117 (fun (l36 : List TV) (r37 : TV) =>
              condK r37
              (True ∧ noTps [] ∧ Q l36 (TV.tp []))
              (∃ v38 : TV, binT .gtr x5 (TV.i .i64 0) = some v38 ∧
                ∃ v39 : TV, gV v38 true (fun r => some x5 = some r) v39 ∧
                ∃ v40 : TV, gV v38 true (fun r => binT .sub v39 (TV.i .i64 1) = some r) v40 ∧
                ((v38, true) = ((v38, true) : TV × Bool) ∧ ∃ v41 : Nat, (v38 = .b true → ixN v40 (List.length l36) = some v41) ∧
                ((v38, true) = ((v38, true) : TV × Bool) ∧ ∃ v42 : TV, gV v38 true (fun r => ldE l36 v41 0 none = some r) v42 ∧
                ∃ v43 : TV, gV v38 true (fun r => some v30 = some r) v43 ∧
                ((v38, true) = ((v38, true) : TV × Bool) ∧ ∃ v44 : Nat, (v38 = .b true → ixN v43 (List.length l36) = some v44) ∧
                ((v38, true) = ((v38, true) : TV × Bool) ∧ ∃ v45 : TV, gV v38 true (fun r => ldE l36 v44 0 none = some r) v45 ∧
                ∃ v46 : TV, gV v38 true (fun r => VS prog 118 [v42, v45] fun r' => r' = r ∧ scOk true r) v46 ∧
                ∃ v47 : TV, gV v38 true (fun r => unT .not v46 = some r) v47 ∧
                ∃ v48 : TV, pickT v38 v47 (TV.b false) = some v48 ∧
                condK v48
                (S119 (fun (l49 : List TV) (r50 : TV) =>
                  ∃ m3, m3 < n2 ∧ I1 m3 l49 r50 x6 v20 x8 x9)
                  l36 x5 x6 v30)
                (S120 (fun (l51 : List TV) (r52 : TV) =>
                  ∃ v53 : TV, extT 0 r52 = some v53 ∧
                  ∃ v54 : TV, extT 1 r52 = some v54 ∧
                  ∃ v55 : TV, binT .sub v53 x5 = some v55 ∧
                  ∃ v56 : TV, binT .sub x6 v53 = some v56 ∧
                  ∃ v57 : TV, binT .quo v10 (TV.i .i64 8) = some v57 ∧
                  ∃ v58 : TV, binT .lss v55 v56 = some v58 ∧
                  condK v58
                  (∃ v59 : TV, binT .geq v55 v57 = some v59 ∧
                    S87 (fun (l60 : List TV) (r61 : TV) =>
                    ∃ v62 : TV, binT .add v53 (TV.i .i64 1) = some v62 ∧
                    ∃ m3, m3 < n2 ∧ I1 m3 l60 v62 x6 v20 v59 v54)
                    l51 x5 v53 v20)
                  (∃ v63 : TV, binT .geq v56 v57 = some v63 ∧
                    ∃ v64 : TV, binT .add v53 (TV.i .i64 1) = some v64 ∧
                    S87 (fun (l65 : List TV) (r66 : TV) =>
                    ∃ m3, m3 < n2 ∧ I1 m3 l65 x5 v53 v20 v63 v54)
                    l51 v64 x6 v20))
                  l36 x5 x6 v30)))))))
              l26 x5 x6)
            (∃ v67 : TV, binT .gtr x5 (TV.i .i64 0) = some v67 ∧
              ∃ v68 : TV, gV v67 true (fun r => some x5 = some r) v68 ∧
              ∃ v69 : TV, gV v67 true (fun r => binT .sub v68 (TV.i .i64 1) = some r) v69 ∧
              ((v67, true) = ((v67, true) : TV × Bool) ∧ ∃ v70 : Nat, (v67 = .b true → ixN v69 (List.length l26) = some v70) ∧
              ((v67, true) = ((v67, true) : TV × Bool) ∧ ∃ v71 : TV, gV v67 true (fun r => ldE l26 v70 0 none = some r) v71 ∧
              ∃ v72 : TV, gV v67 true (fun r => some v30 = some r) v72 ∧
              ((v67, true) = ((v67, true) : TV × Bool) ∧ ∃ v73 : Nat, (v67 = .b true → ixN v72 (List.length l26) = some v73) ∧
              ((v67, true) = ((v67, true) : TV × Bool) ∧ ∃ v74 : TV, gV v67 true (fun r => ldE l26 v73 0 none = some r) v74 ∧
              ∃ v75 : TV, gV v67 true (fun r => VS prog 118 [v71, v74] fun r' => r' = r ∧ scOk true r) v75 ∧
              ∃ v76 : TV, gV v67 true (fun r => unT .not v75 = some r) v76 ∧
              ∃ v77 : TV, pickT v67 v76 (TV.b false) = some v77 ∧
              condK v77
              (S119 (fun (l78 : List TV) (r79 : TV) =>
                ∃ m3, m3 < n2 ∧ I1 m3 l78 r79 x6 v20 x8 x9)
                l26 x5 x6 v30)
              (S120 (fun (l80 : List TV) (r81 : TV) =>
                ∃ v82 : TV, extT 0 r81 = some v82 ∧
                ∃ v83 : TV, extT 1 r81 = some v83 ∧
                ∃ v84 : TV, binT .sub v82 x5 = some v84 ∧
                ∃ v85 : TV, binT .sub x6 v82 = some v85 ∧
                ∃ v86 : TV, binT .quo v10 (TV.i .i64 8) = some v86 ∧
                ∃ v87 : TV, binT .lss v84 v85 = some v87 ∧
                condK v87
                (∃ v88 : TV, binT .geq v84 v86 = some v88 ∧
                  S87 (fun (l89 : List TV) (r90 : TV) =>
                  ∃ v91 : TV, binT .add v82 (TV.i .i64 1) = some v91 ∧
                  ∃ m3, m3 < n2 ∧ I1 m3 l89 v91 x6 v20 v88 v83)
                  l80 x5 v82 v20)
                (∃ v92 : TV, binT .geq v85 v86 = some v92 ∧
                  ∃ v93 : TV, binT .add v82 (TV.i .i64 1) = some v93 ∧
                  S87 (fun (l94 : List TV) (r95 : TV) =>
                  ∃ m3, m3 < n2 ∧ I1 m3 l94 x5 v82 v20 v92 v83)
                  l80 v93 x6 v20))
                l26 x5 x6 v30)))))))
            l21 x5 x6)
          (∃ v96 : TV, gV x8 true (fun r => some x9 = some r) v96 ∧
            ∃ v97 : TV, pickT x8 v96 (TV.b false) = some v97 ∧
            ∃ v98 : TV, gV v97 true (fun r => some v24 = some r) v98 ∧
            ∃ v99 : TV, gV v97 true (fun r => binT .eql v98 (TV.i .i64 1) = some r) v99 ∧
            ∃ v100 : TV, pickT v97 v99 (TV.b false) = some v100 ∧
            condK v100
            (S117 (fun (l101 : List TV) (r102 : TV) =>
              condK r102
              (True ∧ noTps [] ∧ Q l101 (TV.tp []))
              (∃ v103 : TV, binT .gtr x5 (TV.i .i64 0) = some v103 ∧
                ∃ v104 : TV, gV v103 true (fun r => some x5 = some r) v104 ∧
                ∃ v105 : TV, gV v103 true (fun r => binT .sub v104 (TV.i .i64 1) = some r) v105 ∧
                ((v103, true) = ((v103, true) : TV × Bool) ∧ ∃ v106 : Nat, (v103 = .b true → ixN v105 (List.length l101) = some v106) ∧
                ((v103, true) = ((v103, true) : TV × Bool) ∧ ∃ v107 : TV, gV v103 true (fun r => ldE l101 v106 0 none = some r) v107 ∧
                ∃ v108 : TV, gV v103 true (fun r => some v23 = some r) v108 ∧
                ((v103, true) = ((v103, true) : TV × Bool) ∧ ∃ v109 : Nat, (v103 = .b true → ixN v108 (List.length l101) = some v109) ∧
                ((v103, true) = ((v103, true) : TV × Bool) ∧ ∃ v110 : TV, gV v103 true (fun r => ldE l101 v109 0 none = some r) v110 ∧
                ∃ v111 : TV, gV v103 true (fun r => VS prog 118 [v107, v110] fun r' => r' = r ∧ scOk true r) v111 ∧
                ∃ v112 : TV, gV v103 true (fun r => unT .not v111 = some r) v112 ∧
                ∃ v113 : TV, pickT v103 v112 (TV.b false) = some v113 ∧
                condK v113
                (S119 (fun (l114 : List TV) (r115 : TV) =>
                  ∃ m3, m3 < n2 ∧ I1 m3 l114 r115 x6 v20 x8 x9)
                  l101 x5 x6 v23)
                (S120 (fun (l116 : List TV) (r117 : TV) =>
                  ∃ v118 : TV, extT 0 r117 = some v118 ∧
                  ∃ v119 : TV, extT 1 r117 = some v119 ∧
                  ∃ v120 : TV, binT .sub v118 x5 = some v120 ∧
                  ∃ v121 : TV, binT .sub x6 v118 = some v121 ∧
                  ∃ v122 : TV, binT .quo v10 (TV.i .i64 8) = some v122 ∧
                  ∃ v123 : TV, binT .lss v120 v121 = some v123 ∧
                  condK v123
                  (∃ v124 : TV, binT .geq v120 v122 = some v124 ∧
                    S87 (fun (l125 : List TV) (r126 : TV) =>
                    ∃ v127 : TV, binT .add v118 (TV.i .i64 1) = some v127 ∧
                    ∃ m3, m3 < n2 ∧ I1 m3 l125 v127 x6 v20 v124 v119)
                    l116 x5 v118 v20)
                  (∃ v128 : TV, binT .geq v121 v122 = some v128 ∧
                    ∃ v129 : TV, binT .add v118 (TV.i .i64 1) = some v129 ∧
                    S87 (fun (l130 : List TV) (r131 : TV) =>
                    ∃ m3, m3 < n2 ∧ I1 m3 l130 x5 v118 v20 v128 v119)
                    l116 v129 x6 v20))
                  l101 x5 x6 v23)))))))
              l21 x5 x6)
            (∃ v132 : TV, binT .gtr x5 (TV.i .i64 0) = some v132 ∧
              ∃ v133 : TV, gV v132 true (fun r => some x5 = some r) v133 ∧
              ∃ v134 : TV, gV v132 true (fun r => binT .sub v133 (TV.i .i64 1) = some r) v134 ∧
              ((v132, true) = ((v132, true) : TV × Bool) ∧ ∃ v135 : Nat, (v132 = .b true → ixN v134 (List.length l21) = some v135) ∧
              ((v132, true) = ((v132, true) : TV × Bool) ∧ ∃ v136 : TV, gV v132 true (fun r => ldE l21 v135 0 none = some r) v136 ∧
              ∃ v137 : TV, gV v132 true (fun r => some v23 = some r) v137 ∧
              ((v132, true) = ((v132, true) : TV × Bool) ∧ ∃ v138 : Nat, (v132 = .b true → ixN v137 (List.length l21) = some v138) ∧
              ((v132, true) = ((v132, true) : TV × Bool) ∧ ∃ v139 : TV, gV v132 true (fun r => ldE l21 v138 0 none = some r) v139 ∧
              ∃ v140 : TV, gV v132 true (fun r => VS prog 118 [v136, v139] fun r' => r' = r ∧ scOk true r) v140 ∧
              ∃ v141 : TV, gV v132 true (fun r => unT .not v140 = some r) v141 ∧
              ∃ v142 : TV, pickT v132 v141 (TV.b false) = some v142 ∧
              condK v142
              (S119 (fun (l143 : List TV) (r144 : TV) =>
                ∃ m3, m3 < n2 ∧ I1 m3 l143 r144 x6 v20 x8 x9)
                l21 x5 x6 v23)
              (S120 (fun (l145 : List TV) (r146 : TV) =>
                ∃ v147 : TV, extT 0 r146 = some v147 ∧
                ∃ v148 : TV, extT 1 r146 = some v148 ∧
                ∃ v149 : TV, binT .sub v147 x5 = some v149 ∧
                ∃ v150 : TV, binT .sub x6 v147 = some v150 ∧
                ∃ v151 : TV, binT .quo v10 (TV.i .i64 8) = some v151 ∧
                ∃ v152 : TV, binT .lss v149 v150 = some v152 ∧
                condK v152
                (∃ v153 : TV, binT .geq v149 v151 = some v153 ∧
                  S87 (fun (l154 : List TV) (r155 : TV) =>
                  ∃ v156 : TV, binT .add v147 (TV.i .i64 1) = some v156 ∧
                  ∃ m3, m3 < n2 ∧ I1 m3 l154 v156 x6 v20 v153 v148)
                  l145 x5 v147 v20)
                (∃ v157 : TV, binT .geq v150 v151 = some v157 ∧
                  ∃ v158 : TV, binT .add v147 (TV.i .i64 1) = some v158 ∧
                  S87 (fun (l159 : List TV) (r160 : TV) =>
                  ∃ m3, m3 < n2 ∧ I1 m3 l159 x5 v147 v20 v157 v148)
                  l145 v158 x6 v20))
                l21 x5 x6 v23))))))))
          l18 x5 x6)
          l4 x5 x6)
        (S115 (fun (l161 : List TV) (r162 : TV) =>
          ∃ v163 : TV, extT 0 r162 = some v163 ∧
          ∃ v164 : TV, extT 1 r162 = some v164 ∧
          ∃ v165 : TV, binT .eql v164 (TV.i .i64 2) = some v165 ∧
          condK v165
          (S116 (fun (l166 : List TV) (r167 : TV) =>
            ∃ v168 : TV, binT .sub x6 (TV.i .i64 1) = some v168 ∧
            ∃ v169 : TV, binT .sub v163 x5 = some v169 ∧
            ∃ v170 : TV, binT .sub v168 v169 = some v170 ∧
            ∃ v171 : TV, gV x8 true (fun r => some x9 = some r) v171 ∧
            ∃ v172 : TV, pickT x8 v171 (TV.b false) = some v172 ∧
            ∃ v173 : TV, gV v172 true (fun r => some (TV.i .i64 1) = some r) v173 ∧
            ∃ v174 : TV, gV v172 true (fun r => binT .eql v173 (TV.i .i64 1) = some r) v174 ∧
            ∃ v175 : TV, pickT v172 v174 (TV.b false) = some v175 ∧
            condK v175
            (S117 (fun (l176 : List TV) (r177 : TV) =>
              condK r177
              (True ∧ noTps [] ∧ Q l176 (TV.tp []))
              (∃ v178 : TV, binT .gtr x5 (TV.i .i64 0) = some v178 ∧
                ∃ v179 : TV, gV v178 true (fun r => some x5 = some r) v179 ∧
                ∃ v180 : TV, gV v178 true (fun r => binT .sub v179 (TV.i .i64 1) = some r) v180 ∧
                ((v178, true) = ((v178, true) : TV × Bool) ∧ ∃ v181 : Nat, (v178 = .b true → ixN v180 (List.length l176) = some v181) ∧
                ((v178, true) = ((v178, true) : TV × Bool) ∧ ∃ v182 : TV, gV v178 true (fun r => ldE l176 v181 0 none = some r) v182 ∧
                ∃ v183 : TV, gV v178 true (fun r => some v170 = some r) v183 ∧
                ((v178, true) = ((v178, true) : TV × Bool) ∧ ∃ v184 : Nat, (v178 = .b true → ixN v183 (List.length l176) = some v184) ∧
                ((v178, true) = ((v178, true) : TV × Bool) ∧ ∃ v185 : TV, gV v178 true (fun r => ldE l176 v184 0 none = some r) v185 ∧
                ∃ v186 : TV, gV v178 true (fun r => VS prog 118 [v182, v185] fun r' => r' = r ∧ scOk true r) v186 ∧
                ∃ v187 : TV, gV v178 true (fun r => unT .not v186 = some r) v187 ∧
                ∃ v188 : TV, pickT v178 v187 (TV.b false) = some v188 ∧
                condK v188
                (S119 (fun (l189 : List TV) (r190 : TV) =>
                  ∃ m3, m3 < n2 ∧ I1 m3 l189 r190 x6 x7 x8 x9)
                  l176 x5 x6 v170)
                (S120 (fun (l191 : List TV) (r192 : TV) =>
                  ∃ v193 : TV, extT 0 r192 = some v193 ∧
                  ∃ v194 : TV, extT 1 r192 = some v194 ∧
                  ∃ v195 : TV, binT .sub v193 x5 = some v195 ∧
                  ∃ v196 : TV, binT .sub x6 v193 = some v196 ∧
                  ∃ v197 : TV, binT .quo v10 (TV.i .i64 8) = some v197 ∧
                  ∃ v198 : TV, binT .lss v195 v196 = some v198 ∧
                  condK v198
                  (∃ v199 : TV, binT .geq v195 v197 = some v199 ∧
                    S87 (fun (l200 : List TV) (r201 : TV) =>
                    ∃ v202 : TV, binT .add v193 (TV.i .i64 1) = some v202 ∧
                    ∃ m3, m3 < n2 ∧ I1 m3 l200 v202 x6 x7 v199 v194)
                    l191 x5 v193 x7)
                  (∃ v203 : TV, binT .geq v196 v197 = some v203 ∧
                    ∃ v204 : TV, binT .add v193 (TV.i .i64 1) = some v204 ∧
                    S87 (fun (l205 : List TV) (r206 : TV) =>
                    ∃ m3, m3 < n2 ∧ I1 m3 l205 x5 v193 x7 v203 v194)
                    l191 v204 x6 x7))
                  l176 x5 x6 v170)))))))
              l166 x5 x6)
            (∃ v207 : TV, binT .gtr x5 (TV.i .i64 0) = some v207 ∧
              ∃ v208 : TV, gV v207 true (fun r => some x5 = some r) v208 ∧
              ∃ v209 : TV, gV v207 true (fun r => binT .sub v208 (TV.i .i64 1) = some r) v209 ∧
              ((v207, true) = ((v207, true) : TV × Bool) ∧ ∃ v210 : Nat, (v207 = .b true → ixN v209 (List.length l166) = some v210) ∧
              ((v207, true) = ((v207, true) : TV × Bool) ∧ ∃ v211 : TV, gV v207 true (fun r => ldE l166 v210 0 none = some r) v211 ∧
              ∃ v212 : TV, gV v207 true (fun r => some v170 = some r) v212 ∧
              ((v207, true) = ((v207, true) : TV × Bool) ∧ ∃ v213 : Nat, (v207 = .b true → ixN v212 (List.length l166) = some v213) ∧
              ((v207, true) = ((v207, true) : TV × Bool) ∧ ∃ v214 : TV, gV v207 true (fun r => ldE l166 v213 0 none = some r) v214 ∧
              ∃ v215 : TV, gV v207 true (fun r => VS prog 118 [v211, v214] fun r' => r' = r ∧ scOk true r) v215 ∧
              ∃ v216 : TV, gV v207 true (fun r => unT .not v215 = some r) v216 ∧
              ∃ v217 : TV, pickT v207 v216 (TV.b false) = some v217 ∧
              condK v217
              (S119 (fun (l218 : List TV) (r219 : TV) =>
                ∃ m3, m3 < n2 ∧ I1 m3 l218 r219 x6 x7 x8 x9)
                l166 x5 x6 v170)
              (S120 (fun (l220 : List TV) (r221 : TV) =>
                ∃ v222 : TV, extT 0 r221 = some v222 ∧
                ∃ v223 : TV, extT 1 r221 = some v223 ∧
                ∃ v224 : TV, binT .sub v222 x5 = some v224 ∧
                ∃ v225 : TV, binT .sub x6 v222 = some v225 ∧
                ∃ v226 : TV, binT .quo v10 (TV.i .i64 8) = some v226 ∧
                ∃ v227 : TV, binT .lss v224 v225 = some v227 ∧
                condK v227
                (∃ v228 : TV, binT .geq v224 v226 = some v228 ∧
                  S87 (fun (l229 : List TV) (r230 : TV) =>
                  ∃ v231 : TV, binT .add v222 (TV.i .i64 1) = some v231 ∧
                  ∃ m3, m3 < n2 ∧ I1 m3 l229 v231 x6 x7 v228 v223)
                  l220 x5 v222 x7)
                (∃ v232 : TV, binT .geq v225 v226 = some v232 ∧
                  ∃ v233 : TV, binT .add v222 (TV.i .i64 1) = some v233 ∧
                  S87 (fun (l234 : List TV) (r235 : TV) =>
                  ∃ m3, m3 < n2 ∧ I1 m3 l234 x5 v222 x7 v232 v223)
                  l220 v233 x6 x7))
                l166 x5 x6 v170)))))))
            l161 x5 x6)
          (∃ v236 : TV, gV x8 true (fun r => some x9 = some r) v236 ∧
            ∃ v237 : TV, pickT x8 v236 (TV.b false) = some v237 ∧
            ∃ v238 : TV, gV v237 true (fun r => some v164 = some r) v238 ∧
            ∃ v239 : TV, gV v237 true (fun r => binT .eql v238 (TV.i .i64 1) = some r) v239 ∧
            ∃ v240 : TV, pickT v237 v239 (TV.b false) = some v240 ∧
            condK v240
            (S117 (fun (l241 : List TV) (r242 : TV) =>
              condK r242
              (True ∧ noTps [] ∧ Q l241 (TV.tp []))
              (∃ v243 : TV, binT .gtr x5 (TV.i .i64 0) = some v243 ∧
                ∃ v244 : TV, gV v243 true (fun r => some x5 = some r) v244 ∧
                ∃ v245 : TV, gV v243 true (fun r => binT .sub v244 (TV.i .i64 1) = some r) v245 ∧
                ((v243, true) = ((v243, true) : TV × Bool) ∧ ∃ v246 : Nat, (v243 = .b true → ixN v245 (List.length l241) = some v246) ∧
                ((v243, true) = ((v243, true) : TV × Bool) ∧ ∃ v247 : TV, gV v243 true (fun r => ldE l241 v246 0 none = some r) v247 ∧
                ∃ v248 : TV, gV v243 true (fun r => some v163 = some r) v248 ∧
                ((v243, true) = ((v243, true) : TV × Bool) ∧ ∃ v249 : Nat, (v243 = .b true → ixN v248 (List.length l241) = some v249) ∧
                ((v243, true) = ((v243, true) : TV × Bool) ∧ ∃ v250 : TV, gV v243 true (fun r => ldE l241 v249 0 none = some r) v250 ∧
                ∃ v251 : TV, gV v243 true (fun r => VS prog 118 [v247, v250] fun r' => r' = r ∧ scOk true r) v251 ∧
                ∃ v252 : TV, gV v243 true (fun r => unT .not v251 = some r) v252 ∧
                ∃ v253 : TV, pickT v243 v252 (TV.b false) = some v253 ∧
                condK v253
                (S119 (fun (l254 : List TV) (r255 : TV) =>
                  ∃ m3, m3 < n2 ∧ I1 m3 l254 r255 x6 x7 x8 x9)
                  l241 x5 x6 v163)
                (S120 (fun (l256 : List TV) (r257 : TV) =>
                  ∃ v258 : TV, extT 0 r257 = some v258 ∧
                  ∃ v259 : TV, extT 1 r257 = some v259 ∧
                  ∃ v260 : TV, binT .sub v258 x5 = some v260 ∧
                  ∃ v261 : TV, binT .sub x6 v258 = some v261 ∧
                  ∃ v262 : TV, binT .quo v10 (TV.i .i64 8) = some v262 ∧
                  ∃ v263 : TV, binT .lss v260 v261 = some v263 ∧
                  condK v263
                  (∃ v264 : TV, binT .geq v260 v262 = some v264 ∧
                    S87 (fun (l265 : List TV) (r266 : TV) =>
                    ∃ v267 : TV, binT .add v258 (TV.i .i64 1) = some v267 ∧
                    ∃ m3, m3 < n2 ∧ I1 m3 l265 v267 x6 x7 v264 v259)
                    l256 x5 v258 x7)
                  (∃ v268 : TV, binT .geq v261 v262 = some v268 ∧
                    ∃ v269 : TV, binT .add v258 (TV.i .i64 1) = some v269 ∧
                    S87 (fun (l270 : List TV) (r271 : TV) =>
                    ∃ m3, m3 < n2 ∧ I1 m3 l270 x5 v258 x7 v268 v259)
                    l256 v269 x6 x7))
                  l241 x5 x6 v163)))))))
              l161 x5 x6)
            (∃ v272 : TV, binT .gtr x5 (TV.i .i64 0) = some v272 ∧
              ∃ v273 : TV, gV v272 true (fun r => some x5 = some r) v273 ∧
              ∃ v274 : TV, gV v272 true (fun r => binT .sub v273 (TV.i .i64 1) = some r) v274 ∧
              ((v272, true) = ((v272, true) : TV × Bool) ∧ ∃ v275 : Nat, (v272 = .b true → ixN v274 (List.length l161) = some v275) ∧
              ((v272, true) = ((v272, true) : TV × Bool) ∧ ∃ v276 : TV, gV v272 true (fun r => ldE l161 v275 0 none = some r) v276 ∧
              ∃ v277 : TV, gV v272 true (fun r => some v163 = some r) v277 ∧
              ((v272, true) = ((v272, true) : TV × Bool) ∧ ∃ v278 : Nat, (v272 = .b true → ixN v277 (List.length l161) = some v278) ∧
              ((v272, true) = ((v272, true) : TV × Bool) ∧ ∃ v279 : TV, gV v272 true (fun r => ldE l161 v278 0 none = some r) v279 ∧
              ∃ v280 : TV, gV v272 true (fun r => VS prog 118 [v276, v279] fun r' => r' = r ∧ scOk true r) v280 ∧
              ∃ v281 : TV, gV v272 true (fun r => unT .not v280 = some r) v281 ∧
              ∃ v282 : TV, pickT v272 v281 (TV.b false) = some v282 ∧
              condK v282
              (S119 (fun (l283 : List TV) (r284 : TV) =>
                ∃ m3, m3 < n2 ∧ I1 m3 l283 r284 x6 x7 x8 x9)
                l161 x5 x6 v163)
              (S120 (fun (l285 : List TV) (r286 : TV) =>
                ∃ v287 : TV, extT 0 r286 = some v287 ∧
                ∃ v288 : TV, extT 1 r286 = some v288 ∧
                ∃ v289 : TV, binT .sub v287 x5 = some v289 ∧
                ∃ v290 : TV, binT .sub x6 v287 = some v290 ∧
                ∃ v291 : TV, binT .quo v10 (TV.i .i64 8) = some v291 ∧
                ∃ v292 : TV, binT .lss v289 v290 = some v292 ∧
                condK v292
                (∃ v293 : TV, binT .geq v289 v291 = some v293 ∧
                  S87 (fun (l294 : List TV) (r295 : TV) =>
                  ∃ v296 : TV, binT .add v287 (TV.i .i64 1) = some v296 ∧
                  ∃ m3, m3 < n2 ∧ I1 m3 l294 v296 x6 x7 v293 v288)
                  l285 x5 v287 x7)
                (∃ v297 : TV, binT .geq v290 v291 = some v297 ∧
                  ∃ v298 : TV, binT .add v287 (TV.i .i64 1) = some v298 ∧
                  S87 (fun (l299 : List TV) (r300 : TV) =>
                  ∃ m3, m3 < n2 ∧ I1 m3 l299 x5 v287 x7 v297 v288)
                  l285 v298 x6 x7))
                l161 x5 x6 v163))))))))
          l4 x5 x6)))
theorem sh87 (Q : List TV → TV → Prop) (l0_ : List TV) (a1 : TV) (a2 : TV) (a3 : TV) (h : WS87 Q l0_ a1 a2 a3) : S87 Q l0_ a1 a2 a3 := by
  refine vsh_of (sh := sh) (af := a87) (vc := v87) (p := kept [.sl 1, .tr, .tr, .tr]) (np := 4) (by kernel_rfl) (by kernel_rfl) (by kernel_rfl) (by kernel_rfl) (by kernel_rfl) rfl ?_
  refine Eq.mp (?_ : WS87 Q l0_ a1 a2 a3 = _) h
  kernel_rfl

/-! (*jetsam/flow.Graph).branch (given objects) -/
def v108 : VCode := .seq (.reg r108_0) (.seq (.reg r108_1) (.seq (.reg r108_2) (.reg r108_3)))
def WS108 (Q : TV → List TV → List TV → TV → Prop) (o0_ : TV) (l0_1 : List TV) (l0_2 : List TV) (a1 : TV) (a2 : TV) (a3 : TV) (a4 : TV) : Prop :=
  TV.isTp a1 = false ∧
  S85 (fun (o1 : TV) (l2 : List TV) (l3 : List TV) (r4 : TV) =>
  ∃ v5 : TV, subT a1 0 9 = some v5 ∧
  ∃ v6 : TV, putT (TV.a [(TV.i .i64 0), (TV.i .i64 0), (TV.i .i64 0), (TV.i .i64 0), (TV.i .i64 0), (TV.i .i64 0), (TV.i .i64 0), (TV.i .i64 0), (TV.i .i64 0), (TV.l []), (TV.i .i64 0), (TV.i .i64 0), (TV.i .i64 0), (TV.i .i64 0), (TV.l []), (TV.i .i64 0), (TV.i .i64 0), (TV.i .i64 0), (TV.l [])]) 0 1 a3 = some v6 ∧
  ∃ v7 : TV, putT v6 1 1 r4 = some v7 ∧
  ∃ v8 : TV, putT v7 2 1 (TV.i .i64 2) = some v8 ∧
  ∃ v9 : TV, putT v8 10 9 v5 = some v9 ∧
  ∃ v10 : TV, nilsT [(9, VV.nil0)] v9 = some v10 ∧
  S84 (fun (o11 : TV) (l12 : List TV) (l13 : List TV) (r14 : TV) =>
  S62 (fun (o15 : TV) (l16 : List TV) (l17 : List TV) (r18 : TV) =>
  True ∧ noTps [] ∧ Q o15 l16 l17 (TV.tp []))
  o11 l12 l13 a2 r4 a4)
  o1 l2 l3 v10)
  o0_ l0_1 l0_2
theorem sh108 (Q : TV → List TV → List TV → TV → Prop) (o0_ : TV) (l0_1 : List TV) (l0_2 : List TV) (a1 : TV) (a2 : TV) (a3 : TV) (a4 : TV) (h : WS108 Q o0_ l0_1 l0_2 a1 a2 a3 a4) : S108 Q o0_ l0_1 l0_2 a1 a2 a3 a4 := by
  refine vsh_of (sh := sh) (af := a108) (vc := v108) (p := kept [.ob [(1, 19), (2, 1)], .tr, .tr, .tr, .tr]) (np := 5) (by kernel_rfl) (by kernel_rfl) (by kernel_rfl) (by kernel_rfl) (by kernel_rfl) rfl ?_
  refine Eq.mp (?_ : WS108 Q o0_ l0_1 l0_2 a1 a2 a3 a4 = _) h
  kernel_rfl

/-! (*jetsam/flow.Graph).loop (given objects) -/
def v110 : VCode := .seq (.reg r110_0) (.seq (.reg r110_1) (.seq (.reg r110_2) (.seq (.reg r110_3) (.seq (.reg r110_4) (.reg r110_5)))))
def WS110 (Q : TV → List TV → List TV → TV → Prop) (o0_ : TV) (l0_1 : List TV) (l0_2 : List TV) (a1 : TV) (a2 : TV) (a3 : TV) : Prop :=
  TV.isTp a1 = false ∧
  (Nat.beq 0 (0 * 1) && Nat.beq 1 1) = true ∧ szOk 1 a2 ∧
  ∃ v1 : List TV, listT (TV.l [a2]) = some v1 ∧ szHd 1 v1 ∧
  ∃ v2 : List TV, appT 8 l0_2 v1 = some v2 ∧
  ∃ v3 : TV, putT o0_ 2 1 (TV.l []) = some v3 ∧
  S85 (fun (o4 : TV) (l5 : List TV) (l6 : List TV) (r7 : TV) =>
  ∃ v8 : TV, subT a1 8 9 = some v8 ∧
  VS prog 107 [v8] fun r9 => scOk true r9 ∧
  ∃ v10 : TV, putT (TV.a [(TV.i .i64 0), (TV.i .i64 0), (TV.i .i64 0), (TV.i .i64 0), (TV.i .i64 0), (TV.i .i64 0), (TV.i .i64 0), (TV.i .i64 0), (TV.i .i64 0), (TV.l []), (TV.i .i64 0), (TV.i .i64 0), (TV.i .i64 0), (TV.i .i64 0), (TV.l []), (TV.i .i64 0), (TV.i .i64 0), (TV.i .i64 0), (TV.l [])]) 0 1 a2 = some v10 ∧
  ∃ v11 : TV, putT v10 1 1 r7 = some v11 ∧
  ∃ v12 : TV, putT v11 2 1 (TV.i .i64 2) = some v12 ∧
  ∃ v13 : TV, putT v12 10 9 r9 = some v13 ∧
  ∃ v14 : TV, nilsT [(9, VV.nil0)] v13 = some v14 ∧
  S84 (fun (o15 : TV) (l16 : List TV) (l17 : List TV) (r18 : TV) =>
  ∃ v19 : TV, subT a1 8 9 = some v19 ∧
  VS prog 109 [v19] fun r20 => scOk true r20 ∧
  ∃ v21 : TV, putT (TV.a [(TV.i .i64 0), (TV.i .i64 0), (TV.i .i64 0), (TV.i .i64 0), (TV.i .i64 0), (TV.i .i64 0), (TV.i .i64 0), (TV.i .i64 0), (TV.i .i64 0), (TV.l []), (TV.i .i64 0), (TV.i .i64 0), (TV.i .i64 0), (TV.i .i64 0), (TV.l []), (TV.i .i64 0), (TV.i .i64 0), (TV.i .i64 0), (TV.l [])]) 0 1 a2 = some v21 ∧
  ∃ v22 : TV, putT v21 1 1 a3 = some v22 ∧
  ∃ v23 : TV, putT v22 2 1 (TV.i .i64 2) = some v23 ∧
  ∃ v24 : TV, putT v23 10 9 r20 = some v24 ∧
  ∃ v25 : TV, nilsT [(9, VV.nil0)] v24 = some v25 ∧
  S84 (fun (o26 : TV) (l27 : List TV) (l28 : List TV) (r29 : TV) =>
  ∃ v30 : TV, cellT a1 17 = some v30 ∧
  S62 (fun (o31 : TV) (l32 : List TV) (l33 : List TV) (r34 : TV) =>
  True ∧ noTps [] ∧ Q o31 l32 l33 (TV.tp []))
  o26 l27 l28 v30 r7 a2)
  o15 l16 l17 v25)
  o4 l5 l6 v14)
  v3 l0_1 v2
theorem sh110 (Q : TV → List TV → List TV → TV → Prop) (o0_ : TV) (l0_1 : List TV) (l0_2 : List TV) (a1 : TV) (a2 : TV) (a3 : TV) (h : WS110 Q o0_ l0_1 l0_2 a1 a2 a3) : S110 Q o0_ l0_1 l0_2 a1 a2 a3 := by
  refine vsh_of (sh := sh) (af := a110) (vc := v110) (p := kept [.ob [(1, 19), (2, 1)], .tr, .tr, .tr]) (np := 4) (by kernel_rfl) (by kernel_rfl) (by kernel_rfl) (by kernel_rfl) (by kernel_rfl) rfl ?_
  refine Eq.mp (?_ : WS110 Q o0_ l0_1 l0_2 a1 a2 a3 = _) h
  kernel_rfl

/-! (*jetsam/flow.Graph).recv (given objects) -/
def v111 : VCode := .seq (.reg r111_0) (.seq (.reg r111_1) (.block 0 (.loop [.ob 0 [(1, 19), (2, 1)], .ob 5 [], .pt 0 0 0, .tr 2, .tr 3, .pt 5 5 0, .tr 12, .tr 13, .tr 14] (.seq (.reg r111_2) (.seq (.cond (.t 15) (.skip) (.exit 0)) (.seq (.block 1 (.seq (.reg r111_3) (.seq (.reg r111_4) (.seq (.reg r111_5) (.reg r111_6))))) (.reg r111_7)))))))
def WS111 (Q : TV → List TV → List TV → TV → Prop) (o0_ : TV) (l0_1 : List TV) (l0_2 : List TV) (a1 : TV) (a2 : TV) (a3 : TV) : Prop :=
  TV.isTp a1 = false ∧
  ∃ v1 : TV, cellT a1 19 = some v1 ∧
  ∃ v2 : TV, lenT v1 = some v2 ∧
  ∃ I3 : Nat → TV → List TV → List TV → TV → TV → TV → TV → TV → TV → Prop, (∃ n4, I3 n4 o0_ l0_1 l0_2 a1 a2 a3 v1 v2 (TV.i .i64 0)) ∧ ∀ n4 : Nat,
  ∀ o6 : TV, ∀ l7 : List TV, ∀ l8 : List TV, ∀ o9 : TV, ∀ x10 : TV, ∀ x11 : TV, ∀ x12 : TV, ∀ x13 : TV, ∀ x14 : TV, I3 n4 o6 l7 l8 o9 x10 x11 x12 x13 x14 → 
  ∃ v15 : TV, binT .lss x14 x13 = some v15 ∧
    condK v15
    (∃ v16 : TV, (idxT x12 x14 = some v16 ∧ szOk 3 v16) ∧
      ∃ v17 : TV, ldT v16 0 (some 3) = some v17 ∧
      ∃ v18 : TV, putT (TV.a [(TV.i .i64 0), (TV.i .i64 0), (TV.l [])]) 0 3 v17 = some v18 ∧
      S85 (fun (o19 : TV) (l20 : List TV) (l21 : List TV) (r22 : TV) =>
      ∃ v23 : TV, cellT o9 2 = some v23 ∧
      ∃ v24 : TV, cellT v18 0 = some v24 ∧
      ∃ v25 : TV, cellT v18 1 = some v25 ∧
      ∃ v26 : TV, putT (TV.a [(TV.i .i64 0), (TV.i .i64 0), (TV.i .i64 0), (TV.i .i64 0), (TV.i .i64 0), (TV.i .i64 0), (TV.i .i64 0), (TV.i .i64 0), (TV.i .i64 0), (TV.l []), (TV.i .i64 0), (TV.i .i64 0), (TV.i .i64 0), (TV.i .i64 0), (TV.l []), (TV.i .i64 0), (TV.i .i64 0), (TV.i .i64 0), (TV.l [])]) 0 1 x10 = some v26 ∧
      ∃ v27 : TV, putT v26 1 1 r22 = some v27 ∧
      ∃ v28 : TV, putT v27 2 1 (TV.i .i64 4) = some v28 ∧
      ∃ v29 : TV, putT v28 4 1 v23 = some v29 ∧
      ∃ v30 : TV, putT v29 5 1 v24 = some v30 ∧
      ∃ v31 : TV, putT v30 3 1 v25 = some v31 ∧
      ∃ v32 : TV, nilsT [(9, VV.nil0), (14, VV.nil0), (18, VV.nil0)] v31 = some v32 ∧
      S84 (fun (o33 : TV) (l34 : List TV) (l35 : List TV) (r36 : TV) =>
      ∃ v37 : TV, cellT v18 2 = some v37 ∧
      S62 (fun (o38 : TV) (l39 : List TV) (l40 : List TV) (r41 : TV) =>
      ∃ v42 : TV, binT .add x14 (TV.i .i64 1) = some v42 ∧
      ∃ m5, m5 < n4 ∧ I3 m5 o38 l39 l40 o9 x10 x11 x12 x13 v42)
      o33 l34 l35 v37 r22 x11)
      o19 l20 l21 v32)
      o6 l7 l8)
    (True ∧ noTps [] ∧ Q o6 l7 l8 (TV.tp []))
theorem sh111 (Q : TV → List TV → List TV → TV → Prop) (o0_ : TV) (l0_1 : List TV) (l0_2 : List TV) (a1 : TV) (a2 : TV) (a3 : TV) (h : WS111 Q o0_ l0_1 l0_2 a1 a2 a3) : S111 Q o0_ l0_1 l0_2 a1 a2 a3 := by
  refine vsh_of (sh := sh) (af := a111) (vc := v111) (p := kept [.ob [(1, 19), (2, 1)], .tr, .tr, .tr]) (np := 4) (by kernel_rfl) (by kernel_rfl) (by kernel_rfl) (by kernel_rfl) (by kernel_rfl) rfl ?_
  refine Eq.mp (?_ : WS111 Q o0_ l0_1 l0_2 a1 a2 a3 = _) h
  kernel_rfl

/-! slices.insertionSortOrdered[int] (given objects) -/
def v112 : VCode := .seq (.reg r112_0) (.block 0 (.loop [.sl 0 1, .tr 1, .tr 2, .tr 6] (.seq (.seq (.reg r112_1) (.cond (.t 12) (.skip) (.exit 0))) (.seq (.block 1 (.seq (.reg r112_3) (.block 2 (.loop [.sl 0 1, .tr 1, .tr 2, .tr 6, .tr 7, .tr 10, .tr 11, .tr 12, .tr 15] (.seq (.seq (.dreg r112_4 b112_4 []) (.cond (.t 30) (.skip) (.exit 2))) (.seq (.block 3 (.dreg r112_6 b112_6 [])) (.reg r112_5))))))) (.reg r112_2)))))
def WS112 (Q : List TV → TV → Prop) (l0_ : List TV) (a1 : TV) (a2 : TV) : Prop :=
  ∃ v1 : TV, binT .add a1 (TV.i .i64 1) = some v1 ∧
  ∃ I2 : Nat → List TV → TV → TV → TV → Prop, (∃ n3, I2 n3 l0_ a1 a2 v1) ∧ ∀ n3 : Nat,
  ∀ l5 : List TV, ∀ x6 : TV, ∀ x7 : TV, ∀ x8 : TV, I2 n3 l5 x6 x7 x8 → 
  ∃ v9 : TV, binT .lss x8 x7 = some v9 ∧
    condK v9
    (∃ I10 : Nat → List TV → TV → TV → TV → TV → TV → TV → TV → TV → Prop, (∃ n11, I10 n11 l5 x6 x7 x8 x8 x8 x7 v9 x8) ∧ ∀ n11 : Nat,
      ∀ l13 : List TV, ∀ x14 : TV, ∀ x15 : TV, ∀ x16 : TV, ∀ x17 : TV, ∀ x18 : TV, ∀ x19 : TV, ∀ x20 : TV, ∀ x21 : TV, I10 n11 l13 x14 x15 x16 x17 x18 x19 x20 x21 → 
      ∃ v22 : TV, binT .gtr x17 x14 = some v22 ∧
        ∃ v23 : TV, gV v22 true (fun r => some x17 = some r) v23 ∧
        ((v22, true) = ((v22, true) : TV × Bool) ∧ ∃ v24 : Nat, (v22 = .b true → ixN v23 (List.length l13) = some v24) ∧
        ((v22, true) = ((v22, true) : TV × Bool) ∧ ∃ v25 : TV, gV v22 true (fun r => ldE l13 v24 0 none = some r) v25 ∧
        ∃ v26 : TV, gV v22 true (fun r => some x17 = some r) v26 ∧
        ∃ v27 : TV, gV v22 true (fun r => binT .sub v26 (TV.i .i64 1) = some r) v27 ∧
        ((v22, true) = ((v22, true) : TV × Bool) ∧ ∃ v28 : Nat, (v22 = .b true → ixN v27 (List.length l13) = some v28) ∧
        ((v22, true) = ((v22, true) : TV × Bool) ∧ ∃ v29 : TV, gV v22 true (fun r => ldE l13 v28 0 none = some r) v29 ∧
        ∃ v30 : TV, gV v22 true (fun r => VS prog 118 [v25, v29] fun r' => r' = r ∧ scOk true r) v30 ∧
        ∃ v31 : TV, pickT v22 v30 (TV.b false) = some v31 ∧
        condK v31
        (∃ v32 : TV, binT .sub x17 (TV.i .i64 1) = some v32 ∧
          ∃ v33 : TV, binT .sub x17 (TV.i .i64 1) = some v33 ∧
          ∃ v34 : Nat, ixN v33 (List.length l13) = some v34 ∧
          ∃ v35 : TV, ldE l13 v34 0 none = some v35 ∧
          ∃ v36 : Nat, ixN x17 (List.length l13) = some v36 ∧
          ∃ v37 : TV, ldE l13 v36 0 none = some v37 ∧
          ∃ v38 : Nat, ixN x17 (List.length l13) = some v38 ∧
          ∃ v39 : List TV, setE l13 v38 0 1 v35 = some v39 ∧
          ∃ v40 : Nat, ixN v32 (List.length v39) = some v40 ∧
          ∃ v41 : List TV, setE v39 v40 0 1 v37 = some v41 ∧
          ∃ v42 : TV, binT .sub x17 (TV.i .i64 1) = some v42 ∧
          ∃ m12, m12 < n11 ∧ I10 m12 v41 x14 x15 x16 v42 x18 x19 x20 x21)
        (∃ v43 : TV, binT .add x16 (TV.i .i64 1) = some v43 ∧
          ∃ m4, m4 < n3 ∧ I2 m4 l13 x14 x15 v43))))))
    (True ∧ noTps [] ∧ Q l5 (TV.tp []))
theorem sh112 (Q : List TV → TV → Prop) (l0_ : List TV) (a1 : TV) (a2 : TV) (h : WS112 Q l0_ a1 a2) : S112 Q l0_ a1 a2 := by
  refine vsh_of (sh := sh) (af := a112) (vc := v112) (p := kept [.sl 1, .tr, .tr]) (np := 3) (by kernel_rfl) (by kernel_rfl) (by kernel_rfl) (by kernel_rfl) (by kernel_rfl) rfl ?_
  refine Eq.mp (?_ : WS112 Q l0_ a1 a2 = _) h
  kernel_rfl

end Go.Ax.TryLc
