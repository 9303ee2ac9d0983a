/- Numbers: the law's own function. -/
import Derived.Test.YtamgnhdbeecapaaLsP
set_option linter.unusedSimpArgs false
set_option linter.unusedVariables false
namespace Go.Ax.TryLs
open Go Go.Ax Go.Ax.V

theorem law (a b : Int) (ha : small a) (hb : small b) : VS prog 10 [.i .i32 a, .i .i32 b] (fun r => r = .b true) := by
  refine vs10 _ _ _ ?_
  have hm := mul_small ha hb
  have s7 := s35p 7 a b (.inr (.inl rfl)) ha hb
  have s8 := s35p 8 a b (.inr (.inr rfl)) ha hb
  have s6 := s35p 6 a b (.inl rfl) ha hb
  rw [eval7 ha hb] at s7
  rw [eval8 ha hb] at s8
  have conv : ∀ n : Int, small n → convT .i64 (.i .i32 n) = some (.i .i64 n) := fun n hn => by
    show some (TV.i .i64 (wrapA .i64 n)) = _
    rw [wrap_id (by unfold small at hn; omega) (by unfold small at hn; omega)]
  -- behind the first question
  have tail : ∃ v51 : TV, binT .eql (.i .i64 b) (TV.i .i64 0) = some v51 ∧ condK v51
      (∃ v52 : TV, binT .eql (.i .i64 (qE a b)) (TV.i .i64 3) = some v52 ∧
      ∃ v53 : TV, gV v52 true (fun r => some (TV.i .i64 (if b = 0 then 3 else 0)) = some r) v53 ∧
      ∃ v54 : TV, gV v52 true (fun r => binT .eql v53 (TV.i .i64 3) = some r) v54 ∧
      ∃ v55 : TV, pickT v52 v54 (TV.b false) = some v55 ∧
      ∃ v56 : TV, gV v55 true (fun r => some (TV.i .i64 (qN a b)) = some r) v56 ∧
      ∃ v57 : TV, gV v55 true (fun r => binT .eql v56 (TV.i .i64 0) = some r) v57 ∧
      ∃ v58 : TV, pickT v55 v57 (TV.b false) = some v58 ∧
      ∃ v59 : TV, gV v58 true (fun r => some (TV.i .i64 (if b = 0 then 0 else a.tmod b)) = some r) v59 ∧
      ∃ v60 : TV, gV v58 true (fun r => binT .eql v59 (TV.i .i64 0) = some r) v60 ∧
      ∃ v61 : TV, pickT v58 v60 (TV.b false) = some v61 ∧
      True ∧ tupOk [v61] ∧ v61 = .b true)
      (∃ v62 : TV, binT .eql (.i .i64 a) (TV.i .i64 (-2147483648)) = some v62 ∧
      ∃ v63 : TV, gV v62 true (fun r => some (TV.i .i64 b) = some r) v63 ∧
      ∃ v64 : TV, gV v62 true (fun r => binT .eql v63 (TV.i .i64 (-1)) = some r) v64 ∧
      ∃ v65 : TV, pickT v62 v64 (TV.b false) = some v65 ∧
      condK v65
      (∃ v66 : TV, binT .eql (.i .i64 (qE a b)) (TV.i .i64 2) = some v66 ∧
        ∃ v67 : TV, gV v66 true (fun r => some (TV.i .i64 (if b = 0 then 3 else 0)) = some r) v67 ∧
        ∃ v68 : TV, gV v66 true (fun r => binT .eql v67 (TV.i .i64 0) = some r) v68 ∧
        ∃ v69 : TV, pickT v66 v68 (TV.b false) = some v69 ∧
        ∃ v70 : TV, gV v69 true (fun r => some (TV.i .i64 (if b = 0 then 0 else a.tmod b)) = some r) v70 ∧
        ∃ v71 : TV, gV v69 true (fun r => binT .eql v70 (TV.i .i64 0) = some r) v71 ∧
        ∃ v72 : TV, pickT v69 v71 (TV.b false) = some v72 ∧
        True ∧ tupOk [v72] ∧ v72 = .b true)
      (∃ v73 : TV, binT .eql (.i .i64 (qE a b)) (TV.i .i64 0) = some v73 ∧
        ∃ v74 : TV, gV v73 true (fun r => some (TV.i .i64 (if b = 0 then 3 else 0)) = some r) v74 ∧
        ∃ v75 : TV, gV v73 true (fun r => binT .eql v74 (TV.i .i64 0) = some r) v75 ∧
        ∃ v76 : TV, pickT v73 v75 (TV.b false) = some v76 ∧
        ∃ v77 : TV, gV v76 true (fun r => some (TV.i .i64 (qN a b)) = some r) v77 ∧
        ∃ v78 : TV, gV v76 true (fun r => some (TV.i .i64 b) = some r) v78 ∧
        ∃ v79 : TV, gV v76 true (fun r => binT .mul v77 v78 = some r) v79 ∧
        ∃ v80 : TV, gV v76 true (fun r => some (TV.i .i64 (if b = 0 then 0 else a.tmod b)) = some r) v80 ∧
        ∃ v81 : TV, gV v76 true (fun r => binT .add v79 v80 = some r) v81 ∧
        ∃ v82 : TV, gV v76 true (fun r => some (TV.i .i64 a) = some r) v82 ∧
        ∃ v83 : TV, gV v76 true (fun r => binT .eql v81 v82 = some r) v83 ∧
        ∃ v84 : TV, pickT v76 v83 (TV.b false) = some v84 ∧
        ∃ v85 : TV, gV v84 true (fun r => some (TV.i .i64 (if b = 0 then 0 else a.tmod b)) = some r) v85 ∧
        ∃ v86 : TV, gV v84 true (fun r => some (TV.i .i64 (if b = 0 then 0 else a.tmod b)) = some r) v86 ∧
        ∃ v87 : TV, gV v84 true (fun r => binT .mul v85 v86 = some r) v87 ∧
        ∃ v88 : TV, gV v84 true (fun r => some (TV.i .i64 b) = some r) v88 ∧
        ∃ v89 : TV, gV v84 true (fun r => some (TV.i .i64 b) = some r) v89 ∧
        ∃ v90 : TV, gV v84 true (fun r => binT .mul v88 v89 = some r) v90 ∧
        ∃ v91 : TV, gV v84 true (fun r => binT .lss v87 v90 = some r) v91 ∧
        ∃ v92 : TV, pickT v84 v91 (TV.b false) = some v92 ∧
        ∃ v93 : TV, gV v92 true (fun r => some (TV.i .i64 (if b = 0 then 0 else a.tmod b)) = some r) v93 ∧
        ∃ v94 : TV, gV v92 true (fun r => binT .eql v93 (TV.i .i64 0) = some r) v94 ∧
        ∃ v95 : TV, gV v92 true (fun r => some v94 = some r) v95 ∧
        ∃ v96 : TV, gV v95 false (fun r => some (TV.i .i64 (if b = 0 then 0 else a.tmod b)) = some r) v96 ∧
        ∃ v97 : TV, gV v95 false (fun r => binT .lss v96 (TV.i .i64 0) = some r) v97 ∧
        ∃ v98 : TV, gV v95 false (fun r => some (TV.i .i64 a) = some r) v98 ∧
        ∃ v99 : TV, gV v95 false (fun r => binT .lss v98 (TV.i .i64 0) = some r) v99 ∧
        ∃ v100 : TV, gV v95 false (fun r => eqT (.one .bool) false v97 v99 = some r) v100 ∧
        ∃ v101 : TV, gV v92 true (fun r => pickT v95 (TV.b true) v100 = some r) v101 ∧
        ∃ v102 : TV, pickT v92 v101 (TV.b false) = some v102 ∧
        True ∧ tupOk [v102] ∧ v102 = .b true)) := by
    by_cases h0 : b = 0
    · subst h0
      refine ⟨.b true, rfl, condK_t rfl ?_⟩
      exact ⟨_, rfl, _, rfl, _, rfl, _, rfl, _, rfl, _, rfl, _, rfl, _, rfl, _, rfl, _, rfl, trivial, trivial, rfl⟩
    · refine ⟨.b false, eql_f h0, condK_f rfl ?_⟩
      simp only [if_neg h0]
      by_cases hs : a = -2147483648 ∧ b = -1
      · obtain ⟨rfl, rfl⟩ := hs
        exact ⟨_, rfl, _, rfl, _, rfl, _, rfl, condK_t rfl ⟨_, rfl, _, rfl, _, rfl, _, rfl, _, rfl, _, rfl, _, rfl, trivial, trivial, rfl⟩⟩
      · have hq : qE a b = 0 := by simp [qE, h0, hs]
        have hn : qN a b = a.tdiv b := by simp [qN, h0, hs]
        rw [hq, hn]
        have ht := tmod_abs (x := a) h0
        have hts := small_of ht hb
        have hsq := sq_lt ht
        have hda : a.tdiv b * b + a.tmod b = a := tdiv_add
        have hqs : small (a.tdiv b) := by
          have h7 := eval7 ha hb
          have h3 := tdiv_small (b := b) ha
          unfold small
          refine ⟨h3.1, ?_⟩
          rcases Int.lt_or_le 2147483647 (a.tdiv b) with h4 | h4
          · exfalso
            have : evalR (opN 7 a b) (opE 7 b) = two2 0 2 := by simp [evalR, opN, opE, h0, h4]
            rw [this, hq, hn] at h7
            simp [two2] at h7
          · exact h4
        -- which of two it is
        have hsel : ∃ v62 v63 v64 v65 : TV, binT .eql (.i .i64 a) (TV.i .i64 (-2147483648)) = some v62 ∧ gV v62 true (fun r => some (TV.i .i64 b) = some r) v63 ∧ gV v62 true (fun r => binT .eql v63 (TV.i .i64 (-1)) = some r) v64 ∧ pickT v62 v64 (TV.b false) = some v65 ∧ v65 = .b false := by
          by_cases h1 : a = -2147483648
          · have h2 : b ≠ -1 := fun h => hs ⟨h1, h⟩
            exact ⟨.b true, .i .i64 b, .b false, .b false, eql_t h1, rfl, eql_f h2, rfl, rfl⟩
          · exact ⟨.b false, noT, noT, .b false, eql_f h1, rfl, rfl, rfl, rfl⟩
        obtain ⟨v62, v63, v64, v65, g1, g2, g3, g4, rfl⟩ := hsel
        refine ⟨v62, g1, v63, g2, v64, g3, _, g4, condK_f rfl ⟨_, rfl, _, rfl, _, rfl, _, rfl, _, rfl, _, rfl, .i .i64 (a.tdiv b * b), mul_t hqs hb, _, rfl, .i .i64 a, ?_, _, rfl, .b true, eql_t rfl, _, rfl, _, rfl, _, rfl, .i .i64 (a.tmod b * a.tmod b), mul_t hts hts, _, rfl, _, rfl, .i .i64 (b * b), mul_t hb hb, .b true, lss_t hsq, _, rfl, _, rfl, ?_⟩⟩
        · show some (TV.i .i64 (wrapA .i64 (a.tdiv b * b + a.tmod b))) = _
          rw [hda, wrap_id (by unfold small at ha; omega) (by unfold small at ha; omega)]
        · by_cases hr : a.tmod b = 0
          · exact ⟨.b true, eql_t hr, _, rfl, _, rfl, _, rfl, _, rfl, _, rfl, _, rfl, _, rfl, _, rfl, trivial, trivial, rfl⟩
          · refine ⟨.b false, eql_f hr, _, rfl, _, rfl, ?_⟩
            have hsg := tmod_sign hr
            by_cases hneg : a < 0
            · exact ⟨.b true, lss_t (hsg.2 hneg), _, rfl, .b true, lss_t hneg, _, rfl, _, rfl, _, rfl, trivial, trivial, rfl⟩
            · exact ⟨.b false, lss_f (fun h => hneg (hsg.1 h)), _, rfl, .b false, lss_f hneg, _, rfl, _, rfl, _, rfl, trivial, trivial, rfl⟩
  unfold W10
  refine ⟨_, conv a ha, _, conv b hb, rfl, rfl, rfl, rfl, vs_eq (s42 7) ⟨_, rfl, _, rfl, vs_eq s7 ⟨_, rfl, _, rfl, _, rfl, _, rfl, vs_eq s8 ⟨_, rfl, _, rfl, _, rfl, _, rfl, ?_⟩⟩⟩⟩
  by_cases hr : a * b < -2147483648 ∨ a * b > 2147483647
  · have e : evalR (opN 6 a b) (opE 6 b) = two2 0 2 := by simp [evalR, opN, opE, hr]
    rw [e] at s6
    have hne : (0 : Int) ≠ a * b := by omega
    refine vs_eq s6 ⟨_, rfl, _, rfl, vs_eq s38 ⟨_, rfl, _, rfl, _, rfl, _, rfl, .i .i64 (a * b), mul_t ha hb, .b true, neq_t hne, _, rfl, _, rfl, _, rfl, _, rfl, _, rfl, _, rfl, _, rfl, _, rfl, _, rfl, _, rfl, _, rfl, _, rfl, _, rfl, _, rfl, .i .i64 (a * b), mul_t ha hb, ?_⟩⟩
    by_cases hlo : a * b < -2147483648
    · exact ⟨.b false, geq_f hlo, _, rfl, _, rfl, _, rfl, _, rfl, _, rfl, _, rfl, _, rfl, _, rfl, _, rfl, condK_f rfl tail⟩
    · have hhi : 2147483647 < a * b := by omega
      exact ⟨.b true, geq_t hlo, _, rfl, _, rfl, _, rfl, .i .i64 (a * b), mul_t ha hb, .b false, leq_f hhi, _, rfl, _, rfl, _, rfl, _, rfl, condK_f rfl tail⟩
  · have e : evalR (opN 6 a b) (opE 6 b) = two2 (a * b) 0 := by simp [evalR, opN, opE, hr]
    rw [e] at s6
    exact vs_eq s6 ⟨_, rfl, _, rfl, vs_eq s38 ⟨_, rfl, _, rfl, _, rfl, _, rfl, .i .i64 (a * b), mul_t ha hb, .b false, neq_f rfl, _, rfl, _, rfl, _, rfl, _, rfl, _, rfl, _, rfl, _, rfl, _, rfl, _, rfl, _, rfl, _, rfl, _, rfl, _, rfl, _, rfl, _, rfl, _, rfl, _, rfl, _, rfl, _, rfl, _, rfl, _, rfl, _, rfl, _, rfl, _, rfl, _, rfl, condK_f rfl tail⟩⟩
end Go.Ax.TryLs
