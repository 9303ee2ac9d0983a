/- Part 9 of the proof: LcFc, LcFd, LcFe, LcFg, LcFh, LcFi, LcQ. -/
import Derived.Test.YtamgnhdbeecapaaCc6
import Derived.Test.YtamgnhdbeecapaaCc8
import Derived.KernelRfl

/- What check asks of a program: each of its functions tells what a plain function tells. By an AI agent. -/
set_option linter.unusedSimpArgs false
set_option linter.unusedVariables false
set_option maxRecDepth 100000
namespace Go.Ax.TryLc
open Go Go.Ax Go.Ax.V Go.Ax.Ft

theorem s81 (n lo hi : Int) : VS prog 81 [ii n, ii lo, ii hi] (fun r => r = .b (within n lo hi)) := by
  refine vs81 _ _ _ _ ?_
  unfold W81
  refine ⟨_, geq_i _ _, ?_⟩
  refine gB _ (fun h => by rfl) ?_
  refine gB _ (fun h => by rfl) ?_
  refine gB _ (fun h => by rw [h]; exact leq_i _ _) (pkB ⟨trivial, trivial, ?_⟩)
  rw [ltA_d, ltA_d, notlt, notlt]
  rfl
theorem isEmpty_d {α : Type} (l : List α) : decide ((l.length : Int) = 0) = l.isEmpty := by cases l <;> simp <;> omega
theorem encEs_len (l : List Ex) : (encEs l).length = l.length := by rw [encEs_map, List.length_map]
theorem encSs_len (l : List Sm) : (encSs l).length = l.length := by rw [encSs_map, List.length_map]
theorem encAs_len (l : List Ar) : (encAs l).length = l.length := by rw [encAs_map, List.length_map]
theorem s141 (e : Ex) : VS prog 141 [encE e] (fun r => r = .b (noE e)) := by
  cases e with
  | mk k n v ks =>
  refine vs141 _ _ ?_
  unfold W141
  (repeat (first | refine ⟨rfl, ?_⟩ | refine ⟨_, sub_o, ?_⟩ | refine ⟨_, add_o, ?_⟩ | refine ⟨_, rfl, ?_⟩ | refine ⟨_, not_t _, ?_⟩ | refine ⟨_, ⟨rfl, rfl⟩, ?_⟩ | refine gFf ?_ | refine gOt ?_ | refine pkF ?_ | refine pkT ?_ | refine pkB ?_ | refine pkO ?_ | refine gBa ?_ | refine gOa ?_))
  refine ⟨trivial, trivial, ?_⟩
  simp only [eqA_d, encEs_len, isEmpty_d]
  rfl
theorem s142 (c : Co) : VS prog 142 [encC c] (fun r => r = .b (noC c)) := by
  obtain ⟨op, l, r⟩ := c
  have hl := s141 l
  have hr := s141 r
  obtain ⟨k1, n1, v1, ks1⟩ := l
  obtain ⟨k2, n2, v2, ks2⟩ := r
  refine vs142 _ _ ?_
  unfold W142
  (repeat (first | refine ⟨rfl, ?_⟩ | refine ⟨_, sub_o, ?_⟩ | refine ⟨_, add_o, ?_⟩ | refine ⟨_, rfl, ?_⟩ | refine ⟨_, not_t _, ?_⟩ | refine ⟨_, ⟨rfl, rfl⟩, ?_⟩ | refine gFf ?_ | refine gOt ?_ | refine pkF ?_ | refine pkT ?_ | refine pkB ?_ | refine pkO ?_ | refine vs_eq hl ?_ | refine vs_eq hr ?_ | refine gBa ?_ | refine gB _ (fun h => by first | exact vs_g hl | (rw [h]; exact vs_g hl)) ?_ | refine gB _ (fun h => by first | exact vs_g hr | (rw [h]; exact vs_g hr)) ?_ | refine gOa ?_ | refine gO _ (fun h => by first | exact vs_g hl | (rw [h]; exact vs_g hl)) ?_ | refine gO _ (fun h => by first | exact vs_g hr | (rw [h]; exact vs_g hr)) ?_))
  refine ⟨trivial, trivial, ?_⟩
  simp only [eqA_d]
  rfl
theorem s166 (k : Int) : VS prog 166 [ii k] (fun r => r = ii (kidsN k)) := by
  refine vs166 _ _ ?_
  unfold W166
  (repeat (first | refine ⟨rfl, ?_⟩ | refine ⟨_, sub_o, ?_⟩ | refine ⟨_, add_o, ?_⟩ | refine ⟨_, rfl, ?_⟩ | refine ⟨_, not_t _, ?_⟩ | refine ⟨_, ⟨rfl, rfl⟩, ?_⟩ | refine gFf ?_ | refine gOt ?_ | refine pkF ?_ | refine pkT ?_ | refine pkB ?_ | refine pkO ?_ | refine gBa ?_ | refine gOa ?_))
  refine condK_by (fun h => ?_) (fun h => ?_)
  · refine ⟨trivial, trivial, ?_⟩
    simp only [eqA_d, Bool.or_eq_true, decide_eq_true_eq] at h
    simp [kidsN, h]
  simp only [eqA_d, Bool.or_eq_false_iff, decide_eq_false_iff_not] at h
  (repeat (first | refine ⟨rfl, ?_⟩ | refine ⟨_, sub_o, ?_⟩ | refine ⟨_, add_o, ?_⟩ | refine ⟨_, rfl, ?_⟩ | refine ⟨_, not_t _, ?_⟩ | refine ⟨_, ⟨rfl, rfl⟩, ?_⟩ | refine gFf ?_ | refine gOt ?_ | refine pkF ?_ | refine pkT ?_ | refine pkB ?_ | refine pkO ?_ | refine gBa ?_ | refine gOa ?_))
  refine condK_by (fun h2 => ?_) (fun h2 => ?_)
  · refine ⟨trivial, trivial, ?_⟩
    simp only [eqA_d, decide_eq_true_eq] at h2
    simp [kidsN, h, h2]
  simp only [eqA_d, decide_eq_false_iff_not] at h2
  (repeat (first | refine ⟨rfl, ?_⟩ | refine ⟨_, sub_o, ?_⟩ | refine ⟨_, add_o, ?_⟩ | refine ⟨_, rfl, ?_⟩ | refine ⟨_, not_t _, ?_⟩ | refine ⟨_, ⟨rfl, rfl⟩, ?_⟩ | refine gFf ?_ | refine gOt ?_ | refine pkF ?_ | refine pkT ?_ | refine pkB ?_ | refine pkO ?_ | refine vs_eq (s81 _ _ _) ?_ | refine gBa ?_ | refine gB _ (fun h => by first | exact vs_g (s81 _ _ _) | (rw [h]; exact vs_g (s81 _ _ _))) ?_ | refine gOa ?_ | refine gO _ (fun h => by first | exact vs_g (s81 _ _ _) | (rw [h]; exact vs_g (s81 _ _ _))) ?_))
  refine condK_by (fun h3 => ?_) (fun h3 => ?_)
  · refine ⟨trivial, trivial, ?_⟩
    simp only [within, Bool.and_eq_true, decide_eq_true_eq] at h3
    simp [kidsN, h, h2, h3]
  · refine ⟨trivial, trivial, ?_⟩
    have h4 : ¬ (4 ≤ k ∧ k ≤ 8) := by
      intro hc
      simp [within, hc.1, hc.2] at h3
    simp [kidsN, h, h2, h4]
theorem s143 (vars : Int) (hv : 0 ≤ vars ∧ vars ≤ 6) : ∀ (e : Ex), szE e ≤ 4194304 → VS prog 143 [encE e, ii vars] (fun r => r = .b (okE vars e))
  | .mk k n v ks, hB => by
    have hks : szEs ks ≤ 4194304 := by simp only [szE] at hB; omega
    have hk := Nat.le_trans (szEs_len ks) hks
    have ih : ∀ e ∈ ks, VS prog 143 [encE e, ii vars] (fun r => r = .b (okE vars e)) := fun e he => s143 vars hv e (Nat.le_trans (szEs_mem he) hks)
    refine vs143 _ _ _ ?_
    unfold W143
    (repeat (first | refine ⟨rfl, ?_⟩ | refine ⟨_, sub_o, ?_⟩ | refine ⟨_, add_o, ?_⟩ | refine ⟨_, rfl, ?_⟩ | refine ⟨_, not_t _, ?_⟩ | refine ⟨_, ⟨rfl, rfl⟩, ?_⟩ | refine gFf ?_ | refine gOt ?_ | refine pkF ?_ | refine pkT ?_ | refine pkB ?_ | refine pkO ?_ | refine vs_eq (s166 _) ?_ | refine gBa ?_ | refine gB _ (fun h => by first | exact vs_g (s166 _) | (rw [h]; exact vs_g (s166 _))) ?_ | refine gOa ?_ | refine gO _ (fun h => by first | exact vs_g (s166 _) | (rw [h]; exact vs_g (s166 _))) ?_))
    refine condK_by (fun h => ?_) (fun h => ?_)
    · refine ⟨trivial, trivial, ?_⟩
      simp only [eqA_d, encEs_len, Bool.not_eq_true', decide_eq_false_iff_not] at h
      have h' : ¬ kidsN k = ks.length := fun hc => h hc.symm
      simp [okE, h']
    simp only [eqA_d, encEs_len, Bool.not_eq_false', decide_eq_true_eq] at h
    (repeat (first | refine ⟨rfl, ?_⟩ | refine ⟨_, sub_o, ?_⟩ | refine ⟨_, add_o, ?_⟩ | refine ⟨_, rfl, ?_⟩ | refine ⟨_, not_t _, ?_⟩ | refine ⟨_, ⟨rfl, rfl⟩, ?_⟩ | refine gFf ?_ | refine gOt ?_ | refine pkF ?_ | refine pkT ?_ | refine pkB ?_ | refine pkO ?_ | refine vs_eq (s81 _ _ _) ?_ | refine gBa ?_ | refine gB _ (fun h => by first | exact vs_g (s81 _ _ _) | (rw [h]; exact vs_g (s81 _ _ _))) ?_ | refine gOa ?_ | refine gO _ (fun h => by first | exact vs_g (s81 _ _ _) | (rw [h]; exact vs_g (s81 _ _ _))) ?_ | refine gOBa ?_ | refine gOB _ (fun h h' => by rw [h, h']; exact vs_g (s81 _ _ _)) ?_ | refine gOOa ?_ | refine gOO _ (fun h h' => by rw [h, h']; exact vs_g (s81 _ _ _)) ?_ | refine gBBa ?_ | refine gBB _ (fun h h' => by rw [h, h']; exact vs_g (s81 _ _ _)) ?_ | refine gBOa ?_ | refine gBO _ (fun h h' => by rw [h, h']; exact vs_g (s81 _ _ _)) ?_))
    refine condK_by (fun h2 => ?_) (fun h2 => ?_)
    · refine ⟨trivial, trivial, ?_⟩
      congr 1
      simp only [eqA_d, within, Bool.or_eq_true, Bool.and_eq_true, Bool.not_eq_true', decide_eq_true_eq, decide_eq_false_iff_not, Bool.and_eq_false_iff] at h2
      unfold okE
      symm
      simp only [within, Bool.and_eq_false_iff, Bool.or_eq_false_iff, decide_eq_false_iff_not, Bool.not_eq_false', decide_eq_true_eq]
      omega
    (repeat (first | refine ⟨rfl, ?_⟩ | refine ⟨_, sub_o, ?_⟩ | refine ⟨_, add_o, ?_⟩ | refine ⟨_, rfl, ?_⟩ | refine ⟨_, not_t _, ?_⟩ | refine ⟨_, ⟨rfl, rfl⟩, ?_⟩ | refine gFf ?_ | refine gOt ?_ | refine pkF ?_ | refine pkT ?_ | refine pkB ?_ | refine pkO ?_ | refine gBa ?_ | refine gOa ?_))
    refine ⟨fun m o x34 x35 x36 x37 x38 => ∃ i : Nat, i ≤ ks.length ∧ m = ks.length - i ∧ o = encE (.mk k n v ks) ∧ x34 = ii vars ∧ x36 = .l (encEs ks) ∧ x37 = ii ks.length ∧ x38 = ii i ∧ (ks.take i).all (okE vars) = true,
      ⟨_, 0, by omega, rfl, rfl, rfl, rfl, by rw [encEs_len], rfl, rfl⟩, ?_⟩
    rintro m o x34 x35 x36 x37 x38 ⟨i, hi, rfl, rfl, rfl, rfl, rfl, rfl, hall⟩
    refine ⟨_, rfl, condK_by (fun h3 => ?_) (fun h3 => ?_)⟩
    · replace h3 := lt_len h3
      obtain ⟨x, hx⟩ : ∃ x, ks[i]? = some x := ⟨_, List.getElem?_eq_getElem h3⟩
      have hx' : (encEs ks)[i]? = some (encE x) := by rw [encEs_map, List.getElem?_map, hx]; rfl
      refine ⟨_, ⟨idx_i hx', encE_sz x⟩, ?_⟩
      have hih := ih x (List.mem_of_getElem? hx)
      obtain ⟨k', n', v', ks'⟩ := x
      (repeat (first | refine ⟨rfl, ?_⟩ | refine ⟨_, sub_o, ?_⟩ | refine ⟨_, add_o, ?_⟩ | refine ⟨_, rfl, ?_⟩ | refine ⟨_, not_t _, ?_⟩ | refine ⟨_, ⟨rfl, rfl⟩, ?_⟩ | refine gFf ?_ | refine gOt ?_ | refine pkF ?_ | refine pkT ?_ | refine pkB ?_ | refine pkO ?_ | refine vs_eq hih ?_ | refine gBa ?_ | refine gB _ (fun h => by first | exact vs_g hih | (rw [h]; exact vs_g hih)) ?_ | refine gOa ?_ | refine gO _ (fun h => by first | exact vs_g hih | (rw [h]; exact vs_g hih)) ?_))
      refine condK_by (fun h4 => ?_) (fun h4 => ?_)
      · refine ⟨trivial, trivial, ?_⟩
        have := not_all (f := okE vars) hx (by simpa using h4)
        rw [okE, okEs_all, this]; simp
      · refine ⟨_, next_i h3 (by omega), _, by omega, i + 1, by omega, rfl, rfl, rfl, rfl, rfl, rfl, take_all hx hall (by simpa using h4)⟩
    · obtain rfl := ge_len hi h3
      rw [List.take_length] at hall
      (repeat (first | refine ⟨rfl, ?_⟩ | refine ⟨_, sub_o, ?_⟩ | refine ⟨_, add_o, ?_⟩ | refine ⟨_, rfl, ?_⟩ | refine ⟨_, not_t _, ?_⟩ | refine ⟨_, ⟨rfl, rfl⟩, ?_⟩ | refine gFf ?_ | refine gOt ?_ | refine pkF ?_ | refine pkT ?_ | refine pkB ?_ | refine pkO ?_ | refine vs_eq (s81 _ _ _) ?_ | refine gBa ?_ | refine gB _ (fun h => by first | exact vs_g (s81 _ _ _) | (rw [h]; exact vs_g (s81 _ _ _))) ?_ | refine gOa ?_ | refine gO _ (fun h => by first | exact vs_g (s81 _ _ _) | (rw [h]; exact vs_g (s81 _ _ _))) ?_ | refine gOBa ?_ | refine gOB _ (fun h h' => by rw [h, h']; exact vs_g (s81 _ _ _)) ?_ | refine gOOa ?_ | refine gOO _ (fun h h' => by rw [h, h']; exact vs_g (s81 _ _ _)) ?_ | refine gBBa ?_ | refine gBB _ (fun h h' => by rw [h, h']; exact vs_g (s81 _ _ _)) ?_ | refine gBOa ?_ | refine gBO _ (fun h h' => by rw [h, h']; exact vs_g (s81 _ _ _)) ?_))
      refine ⟨trivial, trivial, ?_⟩
      congr 1
      rw [okE, okEs_all, hall, h]
      simp only [eqA_d, Bool.or_eq_false_iff, Bool.and_eq_false_iff, Bool.not_eq_false', decide_eq_true_eq, decide_eq_false_iff_not, Bool.not_eq_true'] at h2
      obtain ⟨⟨h5, h6⟩, h7⟩ := h2
      simp [h5, h6, h7]
theorem s144 (vars : Int) (hv : 0 ≤ vars ∧ vars ≤ 6) (c : Co) (hB : szC c ≤ 4194304) : VS prog 144 [encC c, ii vars] (fun r => r = .b (okC vars c)) := by
  obtain ⟨op, l, r⟩ := c
  simp only [szC] at hB
  have hl := s143 vars hv l (by omega)
  have hr := s143 vars hv r (by omega)
  obtain ⟨k1, n1, v1, ks1⟩ := l
  obtain ⟨k2, n2, v2, ks2⟩ := r
  refine vs144 _ _ _ ?_
  unfold W144
  (repeat (first | refine ⟨rfl, ?_⟩ | refine ⟨_, sub_o, ?_⟩ | refine ⟨_, add_o, ?_⟩ | refine ⟨_, rfl, ?_⟩ | refine ⟨_, not_t _, ?_⟩ | refine ⟨_, ⟨rfl, rfl⟩, ?_⟩ | refine gFf ?_ | refine gOt ?_ | refine pkF ?_ | refine pkT ?_ | refine pkB ?_ | refine pkO ?_ | refine vs_eq (s81 _ _ _) ?_ | refine vs_eq hl ?_ | refine vs_eq hr ?_ | refine gBa ?_ | refine gB _ (fun h => by first | exact vs_g (s81 _ _ _) | (rw [h]; exact vs_g (s81 _ _ _))) ?_ | refine gB _ (fun h => by first | exact vs_g hl | (rw [h]; exact vs_g hl)) ?_ | refine gB _ (fun h => by first | exact vs_g hr | (rw [h]; exact vs_g hr)) ?_ | refine gOa ?_ | refine gO _ (fun h => by first | exact vs_g (s81 _ _ _) | (rw [h]; exact vs_g (s81 _ _ _))) ?_ | refine gO _ (fun h => by first | exact vs_g hl | (rw [h]; exact vs_g hl)) ?_ | refine gO _ (fun h => by first | exact vs_g hr | (rw [h]; exact vs_g hr)) ?_))
  exact ⟨trivial, trivial, rfl⟩
theorem mx1 (a b : Int) : (bif ltA a b then b else a) = max a b := by
  rw [ltA_d, Int.max_def]
  by_cases h : a < b
  · simp [h]; omega
  · simp [h]; omega
theorem mx3 (a b c : Int) : mnxT true [ii a, ii b, ii c] = some (ii (max (max a b) c)) := by
  show some (ii (bif ltA (bif ltA a b then b else a) c then c else (bif ltA a b then b else a))) = _
  rw [mx1, mx1]
theorem mx2 (a b : Int) : mnxT true [ii a, ii b] = some (ii (max a b)) := by
  show some (ii (bif ltA a b then b else a)) = _
  rw [mx1]
theorem drop_cons {α : Type} {l : List α} {i : Nat} {x : α} (h : l[i]? = some x) : l.drop i = x :: l.drop (i + 1) := by
  obtain ⟨h1, h2⟩ := List.getElem?_eq_some_iff.1 h
  rw [← h2]; exact List.drop_eq_getElem_cons h1
theorem s104 (c : Ch) (hl : c.rule.length ≤ 4194304) (hr : ∀ r ∈ c.rule, r.length ≤ 4194304) : VS prog 104 [encCh c] (fun r => r = .b (ruled c)) := by
  refine vs104 _ _ ?_
  unfold W104
  (repeat (first | refine ⟨rfl, ?_⟩ | refine ⟨_, sub_o, ?_⟩ | refine ⟨_, add_o, ?_⟩ | refine ⟨_, rfl, ?_⟩ | refine ⟨_, not_t _, ?_⟩ | refine ⟨_, ⟨rfl, rfl⟩, ?_⟩ | refine gFf ?_ | refine gOt ?_ | refine pkF ?_ | refine pkT ?_ | refine pkB ?_ | refine pkO ?_ | refine gBa ?_ | refine gOa ?_))
  refine ⟨fun m o x7 x8 x9 x10 x11 => ∃ (i : Nat) (T : Int), i ≤ c.rule.length ∧ m = c.rule.length - i ∧ o = encCh c ∧ x8 = ii T ∧ x9 = .l (c.rule.map encR) ∧ x10 = ii c.rule.length ∧ x11 = ii i ∧
      topRs c.rule.length c.tags 0 c.rule 0 = topRs c.rule.length c.tags i (c.rule.drop i) T, ⟨_, 0, 0, by omega, rfl, rfl, rfl, rfl, by rw [List.length_map], rfl, rfl⟩, ?_⟩
  rintro m o x7 x8 x9 x10 x11 ⟨i, T, hi, rfl, rfl, rfl, rfl, rfl, rfl, htop⟩
  refine ⟨_, rfl, condK_by (fun h3 => ?_) (fun h3 => ?_)⟩
  · replace h3 := lt_len h3
    obtain ⟨row, hx⟩ : ∃ x, c.rule[i]? = some x := ⟨_, List.getElem?_eq_getElem h3⟩
    have hrow := hr row (List.mem_of_getElem? hx)
    have hx' : (c.rule.map encR)[i]? = some (encR row) := by rw [List.getElem?_map, hx]; rfl
    rw [drop_cons hx, topRs] at htop
    refine ⟨_, ⟨idx_i hx', rfl⟩, ?_⟩
    (repeat (first | refine ⟨rfl, ?_⟩ | refine ⟨_, sub_o, ?_⟩ | refine ⟨_, add_o, ?_⟩ | refine ⟨_, rfl, ?_⟩ | refine ⟨_, not_t _, ?_⟩ | refine ⟨_, ⟨rfl, rfl⟩, ?_⟩ | refine gFf ?_ | refine gOt ?_ | refine pkF ?_ | refine pkT ?_ | refine pkB ?_ | refine pkO ?_ | refine gBa ?_ | refine gOa ?_))
    refine condK_by (fun h4 => ?_) (fun h4 => ?_)
    · refine ⟨trivial, trivial, ?_⟩
      simp only [eqA_d, Bool.not_eq_true', decide_eq_false_iff_not, List.length_map] at h4
      rw [if_neg h4] at htop
      congr 1
      unfold ruled; rw [htop]
    simp only [eqA_d, Bool.not_eq_false', decide_eq_true_eq, List.length_map] at h4
    rw [if_pos h4] at htop
    (repeat (first | refine ⟨rfl, ?_⟩ | refine ⟨_, sub_o, ?_⟩ | refine ⟨_, add_o, ?_⟩ | refine ⟨_, rfl, ?_⟩ | refine ⟨_, not_t _, ?_⟩ | refine ⟨_, ⟨rfl, rfl⟩, ?_⟩ | refine gFf ?_ | refine gOt ?_ | refine pkF ?_ | refine pkT ?_ | refine pkB ?_ | refine pkO ?_ | refine gBa ?_ | refine gOa ?_))
    refine ⟨fun m o x23 x24 x25 x26 x27 x28 x29 x30 x31 x32 x33 x34 x35 x36 x37 x38 x39 => ∃ (j : Nat) (U : Int), j ≤ row.length ∧ m = row.length - j ∧ o = encCh c ∧ x24 = ii U ∧ x25 = ii i ∧ x27 = .l (c.rule.map encR) ∧ x28 = ii c.rule.length ∧ x29 = ii i ∧
      x37 = encR row ∧ x38 = ii row.length ∧ x39 = ii j ∧ topR c.rule.length i row T = topR c.rule.length i (row.drop j) U, ⟨_, 0, T, by omega, rfl, rfl, rfl, rfl, rfl, rfl, rfl, rfl, by rw [List.length_map], rfl, rfl⟩, ?_⟩
    rintro m o x23 x24 x25 x26 x27 x28 x29 x30 x31 x32 x33 x34 x35 x36 x37 x38 x39 ⟨j, U, hj, rfl, rfl, rfl, rfl, rfl, rfl, rfl, rfl, rfl, rfl, hin⟩
    refine ⟨_, rfl, condK_by (fun h5 => ?_) (fun h5 => ?_)⟩
    · replace h5 := lt_len h5
      obtain ⟨x, hy⟩ : ∃ x, row[j]? = some x := ⟨_, List.getElem?_eq_getElem h5⟩
      have hy' : (row.map ii)[j]? = some (ii x) := by rw [List.getElem?_map, hy]; rfl
      rw [drop_cons hy, topR] at hin
      refine ⟨_, ⟨idx_i hy', rfl⟩, ?_⟩
      refine ⟨_, rfl, _, rfl, _, rfl, ?_⟩
      rw [List.length_map]
      refine ⟨_, sub_o, vs_eq (s81 _ _ _) ?_⟩
      (repeat (first | refine ⟨rfl, ?_⟩ | refine ⟨_, sub_o, ?_⟩ | refine ⟨_, add_o, ?_⟩ | refine ⟨_, rfl, ?_⟩ | refine ⟨_, not_t _, ?_⟩ | refine ⟨_, ⟨rfl, rfl⟩, ?_⟩ | refine gFf ?_ | refine gOt ?_ | refine pkF ?_ | refine pkT ?_ | refine pkB ?_ | refine pkO ?_ | refine gBa ?_ | refine gOa ?_))
      refine condK_by (fun h6 => ?_) (fun h6 => ?_)
      · refine ⟨trivial, trivial, ?_⟩
        rw [if_neg (by simpa using h6)] at hin
        rw [hin] at htop
        congr 1
        unfold ruled; rw [htop]
      rw [if_pos (by simpa using h6)] at hin
      refine ⟨_, neq_i _ _, condK_by (fun h7 => ?_) (fun h7 => ?_)⟩
      · simp only [eqA_d, Bool.not_eq_true', decide_eq_false_iff_not] at h7
        rw [if_neg h7] at hin
        exact ⟨_, mx3 _ _ _, _, next_i h5 (by omega), _, by omega, j + 1, _, by omega, rfl, rfl, rfl, rfl, rfl, rfl, rfl, rfl, rfl, rfl, hin⟩
      · simp only [eqA_d, Bool.not_eq_false', decide_eq_true_eq] at h7
        rw [if_pos h7] at hin
        exact ⟨_, next_i h5 (by omega), _, by omega, j + 1, _, by omega, rfl, rfl, rfl, rfl, rfl, rfl, rfl, rfl, rfl, rfl, hin⟩
    · obtain rfl := ge_len hj h5
      rw [List.drop_length, topR] at hin
      rw [hin] at htop
      exact ⟨_, next_i h3 (by omega), _, by omega, i + 1, U, by omega, rfl, rfl, rfl, rfl, rfl, rfl, htop⟩
  · obtain rfl := ge_len hi h3
    rw [List.drop_length, topRs] at htop
    (repeat (first | refine ⟨rfl, ?_⟩ | refine ⟨_, sub_o, ?_⟩ | refine ⟨_, add_o, ?_⟩ | refine ⟨_, rfl, ?_⟩ | refine ⟨_, not_t _, ?_⟩ | refine ⟨_, ⟨rfl, rfl⟩, ?_⟩ | refine gFf ?_ | refine gOt ?_ | refine pkF ?_ | refine pkT ?_ | refine pkB ?_ | refine pkO ?_ | refine gBa ?_ | refine gOa ?_ | refine gOBa ?_ | refine gOOa ?_ | refine gBBa ?_ | refine gBOa ?_))
    refine ⟨trivial, trivial, ?_⟩
    congr 1
    unfold ruled
    rw [htop]
    simp only [List.length_map, ltA_d, eqA_d, notlt, isEmpty_d]
    rw [wrap_id (by omega) (by omega)]
theorem s82 (c : Ch) (procs : Int) (hp : 0 ≤ procs ∧ procs ≤ 4194304) (hl : c.rule.length ≤ 4194304) (hr : ∀ r ∈ c.rule, r.length ≤ 4194304) : VS prog 82 [encCh c, ii procs] (fun r => r = .b (okCh procs c)) := by
  have h104 := s104 c hl hr
  refine vs82 _ _ _ ?_
  unfold W82
  (repeat (first | refine ⟨rfl, ?_⟩ | refine ⟨_, sub_o, ?_⟩ | refine ⟨_, add_o, ?_⟩ | refine ⟨_, rfl, ?_⟩ | refine ⟨_, not_t _, ?_⟩ | refine ⟨_, ⟨rfl, rfl⟩, ?_⟩ | refine gFf ?_ | refine gOt ?_ | refine pkF ?_ | refine pkT ?_ | refine pkB ?_ | refine pkO ?_ | refine vs_eq (s81 _ _ _) ?_ | refine vs_eq h104 ?_ | refine gBa ?_ | refine gB _ (fun h => by first | exact vs_g (s81 _ _ _) | (rw [h]; exact vs_g (s81 _ _ _))) ?_ | refine gB _ (fun h => by first | exact vs_g h104 | (rw [h]; exact vs_g h104)) ?_ | refine gOa ?_ | refine gO _ (fun h => by first | exact vs_g (s81 _ _ _) | (rw [h]; exact vs_g (s81 _ _ _))) ?_ | refine gO _ (fun h => by first | exact vs_g h104 | (rw [h]; exact vs_g h104)) ?_))
  refine ⟨trivial, trivial, ?_⟩
  simp only [eqA_d]
  rfl
theorem s146 (c : Ch) : VS prog 146 [encCh c] (fun r => r = ii c.src) := by
  refine vs146 _ _ ?_
  unfold W146
  (repeat (first | refine ⟨rfl, ?_⟩ | refine ⟨_, sub_o, ?_⟩ | refine ⟨_, add_o, ?_⟩ | refine ⟨_, rfl, ?_⟩ | refine ⟨_, not_t _, ?_⟩ | refine ⟨_, ⟨rfl, rfl⟩, ?_⟩ | refine gFf ?_ | refine gOt ?_ | refine pkF ?_ | refine pkT ?_ | refine pkB ?_ | refine pkO ?_ | refine gBa ?_ | refine gOa ?_))
  exact ⟨trivial, trivial, rfl⟩
theorem s148 (c : Ch) : VS prog 148 [encCh c] (fun r => r = ii c.dst) := by
  refine vs148 _ _ ?_
  unfold W148
  (repeat (first | refine ⟨rfl, ?_⟩ | refine ⟨_, sub_o, ?_⟩ | refine ⟨_, add_o, ?_⟩ | refine ⟨_, rfl, ?_⟩ | refine ⟨_, not_t _, ?_⟩ | refine ⟨_, ⟨rfl, rfl⟩, ?_⟩ | refine gFf ?_ | refine gOt ?_ | refine pkF ?_ | refine pkT ?_ | refine pkB ?_ | refine pkO ?_ | refine gBa ?_ | refine gOa ?_))
  exact ⟨trivial, trivial, rfl⟩
/-- what looks at a process -/
def encLk (p : Pg) (proc vars : Int) : TV := .a [.l (p.chans.map encCh), .l (p.procs.map encPr), ii proc, ii vars]
theorem end_in {chans : List Ch} {proc c : Int} {dst : Bool} (h : within c 0 (chans.length - 1) = true) : ∃ (k : Nat) (x : Ch), c = k ∧ chans[k]? = some x ∧ endB chans proc dst c = decide ((bif dst then x.dst else x.src) = proc) := by
  simp only [within, Bool.and_eq_true, decide_eq_true_eq] at h
  obtain ⟨k, rfl⟩ := Int.eq_ofNat_of_zero_le h.1
  have hk : k < chans.length := by omega
  refine ⟨k, chans[k], rfl, List.getElem?_eq_getElem hk, ?_⟩
  show (match chans[k]? with | some x => _ | none => false) = _
  rw [List.getElem?_eq_getElem hk]
theorem end_out {chans : List Ch} {proc c : Int} {dst : Bool} (h : within c 0 (chans.length - 1) = false) : endB chans proc dst c = false := by
  unfold endB
  split
  · rename_i k
    split
    · rename_i x hx
      have := (List.getElem?_eq_some_iff.1 hx).1
      simp [within] at h; omega
    · rfl
  · rfl
theorem s145 (p : Pg) (proc vars c : Int) (dst : Bool) (hl : p.chans.length ≤ 4194304) : VS prog 145 [encLk p proc vars, ii c, .f (bif dst then 148 else 146)] (fun r => r = .b (endB p.chans proc dst c)) := by
  have hend : ∀ x, VS prog (bif dst then 148 else 146) [encCh x] (fun r => r = ii (bif dst then x.dst else x.src)) := by
    cases dst
    · exact s146
    · exact s148
  refine vs145 _ _ _ _ ?_
  unfold W145
  have hl' : (p.chans.map encCh).length ≤ 4194304 := by rw [List.length_map]; exact hl
  (repeat (first | refine ⟨rfl, ?_⟩ | refine ⟨_, sub_o, ?_⟩ | refine ⟨_, add_o, ?_⟩ | refine ⟨_, rfl, ?_⟩ | refine ⟨_, not_t _, ?_⟩ | refine ⟨_, ⟨rfl, rfl⟩, ?_⟩ | refine gFf ?_ | refine gOt ?_ | refine pkF ?_ | refine pkT ?_ | refine pkB ?_ | refine pkO ?_ | refine gBa ?_ | refine gOa ?_))
  rw [List.length_map]
  refine vs_eq (s81 _ _ _) ?_
  cases hw : within c 0 (p.chans.length - 1) with
  | false =>
    (repeat (first | refine ⟨rfl, ?_⟩ | refine ⟨_, sub_o, ?_⟩ | refine ⟨_, add_o, ?_⟩ | refine ⟨_, rfl, ?_⟩ | refine ⟨_, not_t _, ?_⟩ | refine ⟨_, ⟨rfl, rfl⟩, ?_⟩ | refine gFf ?_ | refine gOt ?_ | refine pkF ?_ | refine pkT ?_ | refine pkB ?_ | refine pkO ?_ | refine gBa ?_ | refine gOa ?_))
    refine ⟨0, fun h => (by cases h), ?_⟩
    (repeat (first | refine ⟨rfl, ?_⟩ | refine ⟨_, sub_o, ?_⟩ | refine ⟨_, add_o, ?_⟩ | refine ⟨_, rfl, ?_⟩ | refine ⟨_, not_t _, ?_⟩ | refine ⟨_, ⟨rfl, rfl⟩, ?_⟩ | refine gFf ?_ | refine gOt ?_ | refine pkF ?_ | refine pkT ?_ | refine pkB ?_ | refine pkO ?_ | refine gBa ?_ | refine gOa ?_))
    refine ⟨trivial, trivial, ?_⟩
    rw [end_out hw]
  | true =>
    obtain ⟨k, x, rfl, hx, he⟩ := end_in (proc := proc) (dst := dst) hw
    have hx' : (p.chans.map encCh)[k]? = some (encCh x) := by rw [List.getElem?_map, hx]; rfl
    (repeat (first | refine ⟨rfl, ?_⟩ | refine ⟨_, sub_o, ?_⟩ | refine ⟨_, add_o, ?_⟩ | refine ⟨_, rfl, ?_⟩ | refine ⟨_, not_t _, ?_⟩ | refine ⟨_, ⟨rfl, rfl⟩, ?_⟩ | refine gFf ?_ | refine gOt ?_ | refine pkF ?_ | refine pkT ?_ | refine pkB ?_ | refine pkO ?_ | refine gBa ?_ | refine gOa ?_))
    refine gB _ (fun _ => ⟨idx_i hx', encCh_sz x⟩) ?_
    (repeat (first | refine ⟨rfl, ?_⟩ | refine ⟨_, sub_o, ?_⟩ | refine ⟨_, add_o, ?_⟩ | refine ⟨_, rfl, ?_⟩ | refine ⟨_, not_t _, ?_⟩ | refine ⟨_, ⟨rfl, rfl⟩, ?_⟩ | refine gFf ?_ | refine gOt ?_ | refine pkF ?_ | refine pkT ?_ | refine pkB ?_ | refine pkO ?_ | refine gBa ?_ | refine gOa ?_))
    refine ⟨_, fun _ => rfl, gB _ (fun _ => vs_g (hend x)) ?_⟩
    (repeat (first | refine ⟨rfl, ?_⟩ | refine ⟨_, sub_o, ?_⟩ | refine ⟨_, add_o, ?_⟩ | refine ⟨_, rfl, ?_⟩ | refine ⟨_, not_t _, ?_⟩ | refine ⟨_, ⟨rfl, rfl⟩, ?_⟩ | refine gFf ?_ | refine gOt ?_ | refine pkF ?_ | refine pkT ?_ | refine pkB ?_ | refine pkO ?_ | refine gBa ?_ | refine gOa ?_))
    refine ⟨trivial, trivial, ?_⟩
    rw [he, eqA_d]
theorem s147 (p : Pg) (proc vars tag : Int) {k : Nat} {x : Ch} (hx : p.chans[k]? = some x) (ht : 1 ≤ x.tags ∧ x.tags ≤ 4) : VS prog 147 [encLk p proc vars, ii k, ii tag] (fun r => r = .b (tagB p.chans k tag)) := by
  have hx' : (p.chans.map encCh)[k]? = some (encCh x) := by rw [List.getElem?_map, hx]; rfl
  refine vs147 _ _ _ _ ?_
  unfold W147
  refine ⟨rfl, _, rfl, _, ⟨idx_i hx', encCh_sz x⟩, ?_⟩
  (repeat (first | refine ⟨rfl, ?_⟩ | refine ⟨_, sub_o, ?_⟩ | refine ⟨_, add_o, ?_⟩ | refine ⟨_, rfl, ?_⟩ | refine ⟨_, not_t _, ?_⟩ | refine ⟨_, ⟨rfl, rfl⟩, ?_⟩ | refine gFf ?_ | refine gOt ?_ | refine pkF ?_ | refine pkT ?_ | refine pkB ?_ | refine pkO ?_ | refine vs_eq (s81 _ _ _) ?_ | refine gBa ?_ | refine gB _ (fun h => by first | exact vs_g (s81 _ _ _) | (rw [h]; exact vs_g (s81 _ _ _))) ?_ | refine gOa ?_ | refine gO _ (fun h => by first | exact vs_g (s81 _ _ _) | (rw [h]; exact vs_g (s81 _ _ _))) ?_))
  refine ⟨trivial, trivial, ?_⟩
  show _ = TV.b (match p.chans[(k : Int).toNat]? with | some x => within tag 0 (x.tags - 1) | none => false)
  rw [Int.toNat_natCast, hx]
def hadT (had : List Int) : TV := .a [.b (had.contains 0), .b (had.contains 1), .b (had.contains 2), .b (had.contains 3)]
/-- the arms -/
theorem s149 (p : Pg) (proc vars : Int) (hv : 0 ≤ vars ∧ vars ≤ 6) {k : Nat} {x : Ch} (hx : p.chans[k]? = some x) (ht : 1 ≤ x.tags ∧ x.tags ≤ 4) (l : List Ar) (hl : l.length ≤ 4194304)
    (ih : ∀ tag var body, Ar.mk tag var body ∈ l → VS prog 83 [encLk p proc vars, .l (encSs body)] (fun r => r = .b (okSs p.chans proc vars body))) :
    VS prog 149 [encLk p proc vars, ii k, .l (encAs l)] (fun r => r = .b (okAs p.chans proc vars k [] l && !l.isEmpty)) := by
  refine vs149 _ _ _ _ ?_
  unfold W149
  (repeat (first | refine ⟨rfl, ?_⟩ | refine ⟨_, sub_o, ?_⟩ | refine ⟨_, add_o, ?_⟩ | refine ⟨_, rfl, ?_⟩ | refine ⟨_, not_t _, ?_⟩ | refine ⟨_, ⟨rfl, rfl⟩, ?_⟩ | refine gFf ?_ | refine gOt ?_ | refine pkF ?_ | refine pkT ?_ | refine pkB ?_ | refine pkO ?_ | refine gBa ?_ | refine gOa ?_))
  refine ⟨fun m o5 o6 x7 x8 x9 x10 x11 x12 => ∃ (i : Nat) (had : List Int), i ≤ l.length ∧ m = l.length - i ∧ o5 = encLk p proc vars ∧ o6 = hadT had ∧ x7 = ii k ∧ x8 = .l (encAs l) ∧ x10 = .l (encAs l) ∧ x11 = ii l.length ∧ x12 = ii i ∧
      okAs p.chans proc vars k [] l = okAs p.chans proc vars k had (l.drop i), ⟨_, 0, [], by omega, rfl, rfl, rfl, rfl, rfl, rfl, by rw [encAs_len], rfl, rfl⟩, ?_⟩
  rintro m o5 o6 x7 x8 x9 x10 x11 x12 ⟨i, had, hi, rfl, rfl, rfl, rfl, rfl, rfl, rfl, rfl, hok⟩
  refine ⟨_, rfl, condK_by (fun h3 => ?_) (fun h3 => ?_)⟩
  · replace h3 := lt_len h3
    obtain ⟨y, hy⟩ : ∃ x, l[i]? = some x := ⟨_, List.getElem?_eq_getElem h3⟩
    have hy' : (encAs l)[i]? = some (encA y) := by rw [encAs_map, List.getElem?_map, hy]; rfl
    rw [drop_cons hy] at hok
    obtain ⟨tag, var, body⟩ := y
    have hb := ih tag var body (List.mem_of_getElem? hy)
    rw [okAs] at hok
    refine ⟨_, ⟨idx_i hy', rfl⟩, ?_⟩
    have h147 := s147 p proc vars tag hx ht
    cases htag : tagB p.chans k tag with
    | false =>
      rw [htag] at h147 hok
      (repeat (first | refine ⟨rfl, ?_⟩ | refine ⟨_, sub_o, ?_⟩ | refine ⟨_, add_o, ?_⟩ | refine ⟨_, rfl, ?_⟩ | refine ⟨_, not_t _, ?_⟩ | refine ⟨_, ⟨rfl, rfl⟩, ?_⟩ | refine gFf ?_ | refine gOt ?_ | refine pkF ?_ | refine pkT ?_ | refine pkB ?_ | refine pkO ?_ | refine vs_eq h147 ?_ | refine gBa ?_ | refine gB _ (fun h => by first | exact vs_g h147 | (rw [h]; exact vs_g h147)) ?_ | refine gOa ?_ | refine gO _ (fun h => by first | exact vs_g h147 | (rw [h]; exact vs_g h147)) ?_))
      refine ⟨0, fun h => (by cases h), ?_⟩
      (repeat (first | refine ⟨rfl, ?_⟩ | refine ⟨_, sub_o, ?_⟩ | refine ⟨_, add_o, ?_⟩ | refine ⟨_, rfl, ?_⟩ | refine ⟨_, not_t _, ?_⟩ | refine ⟨_, ⟨rfl, rfl⟩, ?_⟩ | refine gFf ?_ | refine gOt ?_ | refine pkF ?_ | refine pkT ?_ | refine pkB ?_ | refine pkO ?_ | refine vs_eq h147 ?_ | refine gBa ?_ | refine gB _ (fun h => by first | exact vs_g h147 | (rw [h]; exact vs_g h147)) ?_ | refine gOa ?_ | refine gO _ (fun h => by first | exact vs_g h147 | (rw [h]; exact vs_g h147)) ?_))
      refine condK_t rfl ⟨trivial, trivial, ?_⟩
      rw [hok]; rfl
    | true =>
      rw [htag] at h147 hok
      have htb : 0 ≤ tag ∧ tag ≤ 3 := by
        have h : tagB p.chans (k : Int) tag = (match p.chans[(k : Int).toNat]? with | some x => within tag 0 (x.tags - 1) | none => false) := rfl
        rw [Int.toNat_natCast, hx] at h
        rw [h] at htag
        simp only [within, Bool.and_eq_true, decide_eq_true_eq] at htag
        omega
      obtain rfl | rfl | rfl | rfl : tag = 0 ∨ tag = 1 ∨ tag = 2 ∨ tag = 3 := by omega
      all_goals
        (repeat (first | refine ⟨rfl, ?_⟩ | refine ⟨_, sub_o, ?_⟩ | refine ⟨_, add_o, ?_⟩ | refine ⟨_, rfl, ?_⟩ | refine ⟨_, not_t _, ?_⟩ | refine ⟨_, ⟨rfl, rfl⟩, ?_⟩ | refine gFf ?_ | refine gOt ?_ | refine pkF ?_ | refine pkT ?_ | refine pkB ?_ | refine pkO ?_ | refine vs_eq h147 ?_ | refine gBa ?_ | refine gB _ (fun h => by first | exact vs_g h147 | (rw [h]; exact vs_g h147)) ?_ | refine gOa ?_ | refine gO _ (fun h => by first | exact vs_g h147 | (rw [h]; exact vs_g h147)) ?_))
        refine ⟨_, fun _ => rfl, ?_⟩
        (repeat (first | refine ⟨rfl, ?_⟩ | refine ⟨_, sub_o, ?_⟩ | refine ⟨_, add_o, ?_⟩ | refine ⟨_, rfl, ?_⟩ | refine ⟨_, not_t _, ?_⟩ | refine ⟨_, ⟨rfl, rfl⟩, ?_⟩ | refine gFf ?_ | refine gOt ?_ | refine pkF ?_ | refine pkT ?_ | refine pkB ?_ | refine pkO ?_ | refine vs_eq (s81 _ _ _) ?_ | refine vs_eq hb ?_ | refine gBa ?_ | refine gB _ (fun h => by first | exact vs_g (s81 _ _ _) | (rw [h]; exact vs_g (s81 _ _ _))) ?_ | refine gB _ (fun h => by first | exact vs_g hb | (rw [h]; exact vs_g hb)) ?_ | refine gOa ?_ | refine gO _ (fun h => by first | exact vs_g (s81 _ _ _) | (rw [h]; exact vs_g (s81 _ _ _))) ?_ | refine gO _ (fun h => by first | exact vs_g hb | (rw [h]; exact vs_g hb)) ?_))
        refine condK_by (fun h4 => ?_) (fun h4 => ?_)
        · refine ⟨trivial, trivial, ?_⟩
          rw [hok]
          simp only [Bool.or_eq_true, Bool.not_eq_true'] at h4
          rcases h4 with (h | h) | h <;> (rw [h]; simp)
        · simp only [Bool.or_eq_false_iff, Bool.not_eq_false'] at h4
          obtain ⟨⟨h5, h6⟩, h7⟩ := h4
          refine ⟨_, rfl, _, rfl, _, rfl, _, next_i h3 (by omega), _, by omega, i + 1, _, by omega, rfl, rfl, ?_, rfl, rfl, rfl, rfl, rfl, by rw [hok, h5, h6, h7]; rfl⟩
          simp [hadT]
  · obtain rfl := ge_len hi h3
    rw [List.drop_length, okAs] at hok
    (repeat (first | refine ⟨rfl, ?_⟩ | refine ⟨_, sub_o, ?_⟩ | refine ⟨_, add_o, ?_⟩ | refine ⟨_, rfl, ?_⟩ | refine ⟨_, not_t _, ?_⟩ | refine ⟨_, ⟨rfl, rfl⟩, ?_⟩ | refine gFf ?_ | refine gOt ?_ | refine pkF ?_ | refine pkT ?_ | refine pkB ?_ | refine pkO ?_ | refine gBa ?_ | refine gOa ?_))
    refine ⟨trivial, trivial, ?_⟩
    rw [hok, encAs_len, ltA_d]
    cases l <;> simp
end Go.Ax.TryLc

/- What check asks of statements and of programs. By an AI agent. -/
set_option linter.unusedSimpArgs false
set_option linter.unusedVariables false
set_option maxRecDepth 100000
namespace Go.Ax.TryLc
open Go Go.Ax Go.Ax.V Go.Ax.Ft

/-- statements -/
theorem s83 (p : Pg) (proc vars : Int) (l : List Sm) (hl : l.length ≤ 4194304) (ih : ∀ s ∈ l, VS prog 105 [encLk p proc vars, encS s] (fun r => r = .b (okS p.chans proc vars s))) :
    VS prog 83 [encLk p proc vars, .l (encSs l)] (fun r => r = .b (okSs p.chans proc vars l)) := by
  refine vs83 _ _ _ ?_
  unfold W83
  (repeat (first | refine ⟨rfl, ?_⟩ | refine ⟨_, sub_o, ?_⟩ | refine ⟨_, add_o, ?_⟩ | refine ⟨_, rfl, ?_⟩ | refine ⟨_, not_t _, ?_⟩ | refine ⟨_, ⟨rfl, rfl⟩, ?_⟩ | refine gFf ?_ | refine gOt ?_ | refine pkF ?_ | refine pkT ?_ | refine pkB ?_ | refine pkO ?_ | refine gBa ?_ | refine gOa ?_))
  refine ⟨fun m o5 x6 x7 x8 x9 => ∃ i : Nat, i ≤ l.length ∧ m = l.length - i ∧ o5 = encLk p proc vars ∧ x7 = .l (encSs l) ∧ x8 = ii l.length ∧ x9 = ii i ∧ (l.take i).all (okS p.chans proc vars) = true,
    ⟨_, 0, by omega, rfl, rfl, rfl, by rw [encSs_len], rfl, rfl⟩, ?_⟩
  rintro m o5 x6 x7 x8 x9 ⟨i, hi, rfl, rfl, rfl, rfl, rfl, hall⟩
  refine ⟨_, rfl, condK_by (fun h3 => ?_) (fun h3 => ?_)⟩
  · replace h3 := lt_len h3
    obtain ⟨y, hy⟩ : ∃ x, l[i]? = some x := ⟨_, List.getElem?_eq_getElem h3⟩
    have hy' : (encSs l)[i]? = some (encS y) := by rw [encSs_map, List.getElem?_map, hy]; rfl
    have hih := ih y (List.mem_of_getElem? hy)
    refine ⟨_, ⟨idx_i hy', encS_sz y⟩, ?_⟩
    obtain ⟨kind, var, chan, tag, ⟨k1, n1, v1, ks1⟩, ⟨op, ⟨k2, n2, v2, ks2⟩, ⟨k3, n3, v3, ks3⟩⟩, body, els, arms⟩ := y
    (repeat (first | refine ⟨rfl, ?_⟩ | refine ⟨_, sub_o, ?_⟩ | refine ⟨_, add_o, ?_⟩ | refine ⟨_, rfl, ?_⟩ | refine ⟨_, not_t _, ?_⟩ | refine ⟨_, ⟨rfl, rfl⟩, ?_⟩ | refine gFf ?_ | refine gOt ?_ | refine pkF ?_ | refine pkT ?_ | refine pkB ?_ | refine pkO ?_ | refine vs_eq hih ?_ | refine gBa ?_ | refine gB _ (fun h => by first | exact vs_g hih | (rw [h]; exact vs_g hih)) ?_ | refine gOa ?_ | refine gO _ (fun h => by first | exact vs_g hih | (rw [h]; exact vs_g hih)) ?_))
    refine condK_by (fun h4 => ?_) (fun h4 => ?_)
    · refine ⟨trivial, trivial, ?_⟩
      rw [okSs_all, not_all (f := okS p.chans proc vars) hy (by simpa using h4)]
    · exact ⟨_, next_i h3 (by omega), _, by omega, i + 1, by omega, rfl, rfl, rfl, rfl, rfl, take_all hy hall (by simpa using h4)⟩
  · obtain rfl := ge_len hi h3
    rw [List.take_length] at hall
    refine ⟨trivial, trivial, ?_⟩
    rw [okSs_all, hall]
theorem end_some {chans : List Ch} {proc c : Int} {dst : Bool} (h : endB chans proc dst c = true) : ∃ (k : Nat) (x : Ch), c = k ∧ chans[k]? = some x := by
  unfold endB at h
  split at h
  · rename_i k
    split at h
    · rename_i x hx; exact ⟨k, x, rfl, hx⟩
    · cases h
  · cases h
/-- a statement -/
theorem s105 (p : Pg) (proc : Int) (vars : Int) (hv : 0 ≤ vars ∧ vars ≤ 6) (hc : p.chans.length ≤ 4194304) (ht : ∀ x ∈ p.chans, 1 ≤ x.tags ∧ x.tags ≤ 4) :
    ∀ (n : Nat) (s : Sm), szS s ≤ n → n ≤ 4194304 → VS prog 105 [encLk p proc vars, encS s] (fun r => r = .b (okS p.chans proc vars s)) := by
  intro n
  induction n with
  | zero => intro s hs; have := szS_pos s; omega
  | succ n ih =>
    intro s hs hn
    obtain ⟨kind, var, chan, tag, e, c, body, els, arms⟩ := s
    simp only [szS] at hs
    have hbody : VS prog 83 [encLk p proc vars, .l (encSs body)] (fun r => r = .b (okSs p.chans proc vars body)) :=
      s83 p proc vars body (by have := szSs_len body; omega) (fun s hs' => ih s (by have := szSs_mem hs'; omega) (by omega))
    have hels : VS prog 83 [encLk p proc vars, .l (encSs els)] (fun r => r = .b (okSs p.chans proc vars els)) :=
      s83 p proc vars els (by have := szSs_len els; omega) (fun s hs' => ih s (by have := szSs_mem hs'; omega) (by omega))
    have h141 := s141 e
    have h142 := s142 c
    have h143 := s143 vars hv e (by omega)
    have h144 := s144 vars hv c (by omega)
    have hsrc := s145 p proc vars chan false hc
    have hdst := s145 p proc vars chan true hc
    obtain ⟨k1, n1, v1, ks1⟩ := e
    obtain ⟨op, ⟨k2, n2, v2, ks2⟩, ⟨k3, n3, v3, ks3⟩⟩ := c
    refine vs105 _ _ _ ?_
    unfold W105
    (repeat (first | refine ⟨rfl, ?_⟩ | refine ⟨_, sub_o, ?_⟩ | refine ⟨_, add_o, ?_⟩ | refine ⟨_, rfl, ?_⟩ | refine ⟨_, not_t _, ?_⟩ | refine ⟨_, ⟨rfl, rfl⟩, ?_⟩ | refine gFf ?_ | refine gOt ?_ | refine pkF ?_ | refine pkT ?_ | refine pkB ?_ | refine pkO ?_ | refine vs_eq h141 ?_ | refine vs_eq h142 ?_ | refine gBa ?_ | refine gB _ (fun h => by first | exact vs_g h141 | (rw [h]; exact vs_g h141)) ?_ | refine gB _ (fun h => by first | exact vs_g h142 | (rw [h]; exact vs_g h142)) ?_ | refine gOa ?_ | refine gO _ (fun h => by first | exact vs_g h141 | (rw [h]; exact vs_g h141)) ?_ | refine gO _ (fun h => by first | exact vs_g h142 | (rw [h]; exact vs_g h142)) ?_))
    refine condK_by (fun h => ?_) (fun h => ?_)
    · obtain rfl : kind = 1 := by simpa [eqA_d] using h
      (repeat (first | refine ⟨rfl, ?_⟩ | refine ⟨_, sub_o, ?_⟩ | refine ⟨_, add_o, ?_⟩ | refine ⟨_, rfl, ?_⟩ | refine ⟨_, not_t _, ?_⟩ | refine ⟨_, ⟨rfl, rfl⟩, ?_⟩ | refine gFf ?_ | refine gOt ?_ | refine pkF ?_ | refine pkT ?_ | refine pkB ?_ | refine pkO ?_ | refine vs_eq h143 ?_ | refine vs_eq (s81 _ _ _) ?_ | refine gBa ?_ | refine gB _ (fun h => by first | exact vs_g h143 | (rw [h]; exact vs_g h143)) ?_ | refine gB _ (fun h => by first | exact vs_g (s81 _ _ _) | (rw [h]; exact vs_g (s81 _ _ _))) ?_ | refine gOa ?_ | refine gO _ (fun h => by first | exact vs_g h143 | (rw [h]; exact vs_g h143)) ?_ | refine gO _ (fun h => by first | exact vs_g (s81 _ _ _) | (rw [h]; exact vs_g (s81 _ _ _))) ?_))
      refine ⟨trivial, trivial, ?_⟩
      congr 1
      unfold okS
      simp only [eqA_d, encSs_len, encAs_len, isEmpty_d, Bool.and_assoc, reduceIte, Int.reduceEq]
    have n1 : ¬ kind = 1 := by simpa [eqA_d] using h
    refine ⟨_, rfl, condK_by (fun h => ?_) (fun h => ?_)⟩
    · obtain rfl : kind = 7 := by simpa [eqA_d] using h
      (repeat (first | refine ⟨rfl, ?_⟩ | refine ⟨_, sub_o, ?_⟩ | refine ⟨_, add_o, ?_⟩ | refine ⟨_, rfl, ?_⟩ | refine ⟨_, not_t _, ?_⟩ | refine ⟨_, ⟨rfl, rfl⟩, ?_⟩ | refine gFf ?_ | refine gOt ?_ | refine pkF ?_ | refine pkT ?_ | refine pkB ?_ | refine pkO ?_ | refine vs_eq (s81 _ _ _) ?_ | refine gBa ?_ | refine gB _ (fun h => by first | exact vs_g (s81 _ _ _) | (rw [h]; exact vs_g (s81 _ _ _))) ?_ | refine gOa ?_ | refine gO _ (fun h => by first | exact vs_g (s81 _ _ _) | (rw [h]; exact vs_g (s81 _ _ _))) ?_))
      refine ⟨trivial, trivial, ?_⟩
      congr 1
      unfold okS
      simp only [eqA_d, encSs_len, encAs_len, isEmpty_d, Bool.and_assoc, reduceIte, Int.reduceEq]
    have n7 : ¬ kind = 7 := by simpa [eqA_d] using h
    refine ⟨_, rfl, condK_by (fun h => ?_) (fun h => ?_)⟩
    · obtain rfl : kind = 6 := by simpa [eqA_d] using h
      (repeat (first | refine ⟨rfl, ?_⟩ | refine ⟨_, sub_o, ?_⟩ | refine ⟨_, add_o, ?_⟩ | refine ⟨_, rfl, ?_⟩ | refine ⟨_, not_t _, ?_⟩ | refine ⟨_, ⟨rfl, rfl⟩, ?_⟩ | refine gFf ?_ | refine gOt ?_ | refine pkF ?_ | refine pkT ?_ | refine pkB ?_ | refine pkO ?_ | refine vs_eq h144 ?_ | refine gBa ?_ | refine gB _ (fun h => by first | exact vs_g h144 | (rw [h]; exact vs_g h144)) ?_ | refine gOa ?_ | refine gO _ (fun h => by first | exact vs_g h144 | (rw [h]; exact vs_g h144)) ?_))
      refine ⟨trivial, trivial, ?_⟩
      congr 1
      unfold okS
      simp only [eqA_d, encSs_len, encAs_len, isEmpty_d, Bool.and_assoc, reduceIte, Int.reduceEq]
    have n6 : ¬ kind = 6 := by simpa [eqA_d] using h
    refine ⟨_, rfl, condK_by (fun h => ?_) (fun h => ?_)⟩
    · obtain rfl : kind = 3 := by simpa [eqA_d] using h
      (repeat (first | refine ⟨rfl, ?_⟩ | refine ⟨_, sub_o, ?_⟩ | refine ⟨_, add_o, ?_⟩ | refine ⟨_, rfl, ?_⟩ | refine ⟨_, not_t _, ?_⟩ | refine ⟨_, ⟨rfl, rfl⟩, ?_⟩ | refine gFf ?_ | refine gOt ?_ | refine pkF ?_ | refine pkT ?_ | refine pkB ?_ | refine pkO ?_ | refine vs_eq h144 ?_ | refine vs_eq hbody ?_ | refine gBa ?_ | refine gB _ (fun h => by first | exact vs_g h144 | (rw [h]; exact vs_g h144)) ?_ | refine gB _ (fun h => by first | exact vs_g hbody | (rw [h]; exact vs_g hbody)) ?_ | refine gOa ?_ | refine gO _ (fun h => by first | exact vs_g h144 | (rw [h]; exact vs_g h144)) ?_ | refine gO _ (fun h => by first | exact vs_g hbody | (rw [h]; exact vs_g hbody)) ?_))
      refine ⟨trivial, trivial, ?_⟩
      congr 1
      unfold okS
      simp only [eqA_d, encSs_len, encAs_len, isEmpty_d, Bool.and_assoc, reduceIte, Int.reduceEq]
    have n3 : ¬ kind = 3 := by simpa [eqA_d] using h
    refine ⟨_, rfl, condK_by (fun h => ?_) (fun h => ?_)⟩
    · obtain rfl : kind = 2 := by simpa [eqA_d] using h
      (repeat (first | refine ⟨rfl, ?_⟩ | refine ⟨_, sub_o, ?_⟩ | refine ⟨_, add_o, ?_⟩ | refine ⟨_, rfl, ?_⟩ | refine ⟨_, not_t _, ?_⟩ | refine ⟨_, ⟨rfl, rfl⟩, ?_⟩ | refine gFf ?_ | refine gOt ?_ | refine pkF ?_ | refine pkT ?_ | refine pkB ?_ | refine pkO ?_ | refine vs_eq h144 ?_ | refine vs_eq hbody ?_ | refine vs_eq hels ?_ | refine gBa ?_ | refine gB _ (fun h => by first | exact vs_g h144 | (rw [h]; exact vs_g h144)) ?_ | refine gB _ (fun h => by first | exact vs_g hbody | (rw [h]; exact vs_g hbody)) ?_ | refine gB _ (fun h => by first | exact vs_g hels | (rw [h]; exact vs_g hels)) ?_ | refine gOa ?_ | refine gO _ (fun h => by first | exact vs_g h144 | (rw [h]; exact vs_g h144)) ?_ | refine gO _ (fun h => by first | exact vs_g hbody | (rw [h]; exact vs_g hbody)) ?_ | refine gO _ (fun h => by first | exact vs_g hels | (rw [h]; exact vs_g hels)) ?_))
      refine ⟨trivial, trivial, ?_⟩
      congr 1
      unfold okS
      simp only [eqA_d, encSs_len, encAs_len, isEmpty_d, Bool.and_assoc, reduceIte, Int.reduceEq]
    have n2 : ¬ kind = 2 := by simpa [eqA_d] using h
    refine ⟨_, rfl, condK_by (fun h => ?_) (fun h => ?_)⟩
    · obtain rfl : kind = 4 := by simpa [eqA_d] using h
      cases hE : endB p.chans proc false chan with
      | false =>
        rw [hE] at hsrc
        (repeat (first | refine ⟨rfl, ?_⟩ | refine ⟨_, sub_o, ?_⟩ | refine ⟨_, add_o, ?_⟩ | refine ⟨_, rfl, ?_⟩ | refine ⟨_, not_t _, ?_⟩ | refine ⟨_, ⟨rfl, rfl⟩, ?_⟩ | refine gFf ?_ | refine gOt ?_ | refine pkF ?_ | refine pkT ?_ | refine pkB ?_ | refine pkO ?_ | refine vs_eq hsrc ?_ | refine gBa ?_ | refine gB _ (fun h => by first | exact vs_g hsrc | (rw [h]; exact vs_g hsrc)) ?_ | refine gOa ?_ | refine gO _ (fun h => by first | exact vs_g hsrc | (rw [h]; exact vs_g hsrc)) ?_))
        refine ⟨trivial, trivial, ?_⟩
        congr 1
        unfold okS
        simp [hE]
      | true =>
        rw [hE] at hsrc
        obtain ⟨k, x, rfl, hx⟩ := end_some hE
        have h147 := s147 p proc vars tag hx (ht x (List.mem_of_getElem? hx))
        (repeat (first | refine ⟨rfl, ?_⟩ | refine ⟨_, sub_o, ?_⟩ | refine ⟨_, add_o, ?_⟩ | refine ⟨_, rfl, ?_⟩ | refine ⟨_, not_t _, ?_⟩ | refine ⟨_, ⟨rfl, rfl⟩, ?_⟩ | refine gFf ?_ | refine gOt ?_ | refine pkF ?_ | refine pkT ?_ | refine pkB ?_ | refine pkO ?_ | refine vs_eq hsrc ?_ | refine vs_eq h147 ?_ | refine vs_eq h143 ?_ | refine gBa ?_ | refine gB _ (fun h => by first | exact vs_g hsrc | (rw [h]; exact vs_g hsrc)) ?_ | refine gB _ (fun h => by first | exact vs_g h147 | (rw [h]; exact vs_g h147)) ?_ | refine gB _ (fun h => by first | exact vs_g h143 | (rw [h]; exact vs_g h143)) ?_ | refine gOa ?_ | refine gO _ (fun h => by first | exact vs_g hsrc | (rw [h]; exact vs_g hsrc)) ?_ | refine gO _ (fun h => by first | exact vs_g h147 | (rw [h]; exact vs_g h147)) ?_ | refine gO _ (fun h => by first | exact vs_g h143 | (rw [h]; exact vs_g h143)) ?_))
        refine ⟨trivial, trivial, ?_⟩
        congr 1
        unfold okS
        simp only [eqA_d, encSs_len, encAs_len, isEmpty_d, Bool.and_assoc, reduceIte, Int.reduceEq, hE]
    have n4 : ¬ kind = 4 := by simpa [eqA_d] using h
    refine ⟨_, rfl, condK_by (fun h => ?_) (fun h => ?_)⟩
    · obtain rfl : kind = 5 := by simpa [eqA_d] using h
      cases hE : endB p.chans proc true chan with
      | false =>
        rw [hE] at hdst
        (repeat (first | refine ⟨rfl, ?_⟩ | refine ⟨_, sub_o, ?_⟩ | refine ⟨_, add_o, ?_⟩ | refine ⟨_, rfl, ?_⟩ | refine ⟨_, not_t _, ?_⟩ | refine ⟨_, ⟨rfl, rfl⟩, ?_⟩ | refine gFf ?_ | refine gOt ?_ | refine pkF ?_ | refine pkT ?_ | refine pkB ?_ | refine pkO ?_ | refine vs_eq hdst ?_ | refine gBa ?_ | refine gB _ (fun h => by first | exact vs_g hdst | (rw [h]; exact vs_g hdst)) ?_ | refine gOa ?_ | refine gO _ (fun h => by first | exact vs_g hdst | (rw [h]; exact vs_g hdst)) ?_))
        refine ⟨trivial, trivial, ?_⟩
        congr 1
        unfold okS
        simp [hE]
      | true =>
        rw [hE] at hdst
        obtain ⟨k, x, rfl, hx⟩ := end_some hE
        have h149 := s149 p proc vars hv hx (ht x (List.mem_of_getElem? hx)) arms (by have := szAs_len arms; omega) (fun tag var body hm => s83 p proc vars body (by
          have := szAs_mem hm; simp only [szA] at this; have := szSs_len body; omega) (fun s hs' => ih s (by
          have := szAs_mem hm; simp only [szA] at this; have := szSs_mem hs'; omega) (by omega)))
        (repeat (first | refine ⟨rfl, ?_⟩ | refine ⟨_, sub_o, ?_⟩ | refine ⟨_, add_o, ?_⟩ | refine ⟨_, rfl, ?_⟩ | refine ⟨_, not_t _, ?_⟩ | refine ⟨_, ⟨rfl, rfl⟩, ?_⟩ | refine gFf ?_ | refine gOt ?_ | refine pkF ?_ | refine pkT ?_ | refine pkB ?_ | refine pkO ?_ | refine vs_eq hdst ?_ | refine vs_eq h149 ?_ | refine gBa ?_ | refine gB _ (fun h => by first | exact vs_g hdst | (rw [h]; exact vs_g hdst)) ?_ | refine gB _ (fun h => by first | exact vs_g h149 | (rw [h]; exact vs_g h149)) ?_ | refine gOa ?_ | refine gO _ (fun h => by first | exact vs_g hdst | (rw [h]; exact vs_g hdst)) ?_ | refine gO _ (fun h => by first | exact vs_g h149 | (rw [h]; exact vs_g h149)) ?_))
        refine ⟨trivial, trivial, ?_⟩
        congr 1
        unfold okS
        simp only [eqA_d, encSs_len, encAs_len, isEmpty_d, Bool.and_assoc, reduceIte, Int.reduceEq, hE]
    have n5 : ¬ kind = 5 := by simpa [eqA_d] using h
    refine ⟨trivial, trivial, ?_⟩
    congr 1
    unfold okS
    simp [n1, n2, n3, n4, n5, n6, n7]
/-- a program -/
theorem s60 (p : Pg) (hz : szPg p) : VS prog 60 [encPg p] (fun r => r = .b (okPg p)) := by
  have hlc := hz.chans
  have hlp := hz.procs
  have hl1 : (p.chans.map encCh).length = p.chans.length := List.length_map _
  have hl2 : (p.procs.map encPr).length = p.procs.length := List.length_map _
  refine vs60 _ _ ?_
  unfold W60
  (repeat (first | refine ⟨rfl, ?_⟩ | refine ⟨_, sub_o, ?_⟩ | refine ⟨_, add_o, ?_⟩ | refine ⟨_, rfl, ?_⟩ | refine ⟨_, not_t _, ?_⟩ | refine ⟨_, ⟨rfl, rfl⟩, ?_⟩ | refine gFf ?_ | refine gOt ?_ | refine pkF ?_ | refine pkT ?_ | refine pkB ?_ | refine pkO ?_ | refine vs_eq (s81 _ _ _) ?_ | refine gBa ?_ | refine gB _ (fun h => by first | exact vs_g (s81 _ _ _) | (rw [h]; exact vs_g (s81 _ _ _))) ?_ | refine gOa ?_ | refine gO _ (fun h => by first | exact vs_g (s81 _ _ _) | (rw [h]; exact vs_g (s81 _ _ _))) ?_))
  rw [hl1, hl2]
  refine condK_by (fun h => ?_) (fun h => ?_)
  · refine ⟨trivial, trivial, ?_⟩
    congr 1
    unfold okPg
    simp only [ltA_d, within, Bool.or_eq_true, Bool.not_eq_true', decide_eq_true_eq, Bool.and_eq_false_iff, decide_eq_false_iff_not] at h
    symm
    simp only [Bool.and_eq_false_iff, decide_eq_false_iff_not]
    omega
  simp only [ltA_d, within, Bool.or_eq_false_iff, Bool.not_eq_false', Bool.and_eq_true, decide_eq_true_eq, decide_eq_false_iff_not] at h
  obtain ⟨hc4, hp1, hp4⟩ := h
  have hok : okPg p = (p.chans.all (okCh p.procs.length) && okPs p.chans 0 p.procs) := by
    unfold okPg
    rw [decide_eq_true (show p.chans.length ≤ 4 by omega), decide_eq_true (show 1 ≤ p.procs.length by omega), decide_eq_true (show p.procs.length ≤ 4 by omega)]
    simp
  (repeat (first | refine ⟨rfl, ?_⟩ | refine ⟨_, sub_o, ?_⟩ | refine ⟨_, add_o, ?_⟩ | refine ⟨_, rfl, ?_⟩ | refine ⟨_, not_t _, ?_⟩ | refine ⟨_, ⟨rfl, rfl⟩, ?_⟩ | refine gFf ?_ | refine gOt ?_ | refine pkF ?_ | refine pkT ?_ | refine pkB ?_ | refine pkO ?_ | refine gBa ?_ | refine gOa ?_))
  refine ⟨fun m o14 x15 x16 x17 x18 => ∃ i : Nat, i ≤ p.chans.length ∧ m = p.chans.length - i ∧ o14 = encPg p ∧ x16 = .l (p.chans.map encCh) ∧ x17 = ii p.chans.length ∧ x18 = ii i ∧ (p.chans.take i).all (okCh p.procs.length) = true,
    ⟨_, 0, by omega, rfl, rfl, rfl, by rw [hl1], rfl, rfl⟩, ?_⟩
  rintro m o14 x15 x16 x17 x18 ⟨i, hi, rfl, rfl, rfl, rfl, rfl, hall⟩
  refine ⟨_, rfl, condK_by (fun h3 => ?_) (fun h3 => ?_)⟩
  · replace h3 := lt_len h3
    obtain ⟨y, hy⟩ : ∃ x, p.chans[i]? = some x := ⟨_, List.getElem?_eq_getElem h3⟩
    have hy' : (p.chans.map encCh)[i]? = some (encCh y) := by rw [List.getElem?_map, hy]; rfl
    have hym := List.mem_of_getElem? hy
    have h82 := s82 y p.procs.length (by omega) (hz.rules y hym) (hz.rows y hym)
    rw [← hl2] at h82
    refine ⟨_, ⟨idx_i hy', rfl⟩, ?_⟩
    (repeat (first | refine ⟨rfl, ?_⟩ | refine ⟨_, sub_o, ?_⟩ | refine ⟨_, add_o, ?_⟩ | refine ⟨_, rfl, ?_⟩ | refine ⟨_, not_t _, ?_⟩ | refine ⟨_, ⟨rfl, rfl⟩, ?_⟩ | refine gFf ?_ | refine gOt ?_ | refine pkF ?_ | refine pkT ?_ | refine pkB ?_ | refine pkO ?_ | refine vs_eq h82 ?_ | refine gBa ?_ | refine gB _ (fun h => by first | exact vs_g h82 | (rw [h]; exact vs_g h82)) ?_ | refine gOa ?_ | refine gO _ (fun h => by first | exact vs_g h82 | (rw [h]; exact vs_g h82)) ?_))
    rw [hl2]
    refine condK_by (fun h4 => ?_) (fun h4 => ?_)
    · refine ⟨trivial, trivial, ?_⟩
      rw [hok, not_all (f := okCh p.procs.length) hy (by simpa using h4)]; rfl
    · exact ⟨_, next_i h3 (by omega), _, by omega, i + 1, by omega, rfl, rfl, rfl, rfl, rfl, take_all hy hall (by simpa using h4)⟩
  obtain rfl := ge_len hi h3
  rw [List.take_length] at hall
  rw [hall, Bool.true_and] at hok
  have htags : ∀ x ∈ p.chans, 1 ≤ x.tags ∧ x.tags ≤ 4 := fun x hx => by
    have := List.all_eq_true.1 hall x hx
    simp only [okCh, within, Bool.and_eq_true, decide_eq_true_eq] at this
    omega
  (repeat (first | refine ⟨rfl, ?_⟩ | refine ⟨_, sub_o, ?_⟩ | refine ⟨_, add_o, ?_⟩ | refine ⟨_, rfl, ?_⟩ | refine ⟨_, not_t _, ?_⟩ | refine ⟨_, ⟨rfl, rfl⟩, ?_⟩ | refine gFf ?_ | refine gOt ?_ | refine pkF ?_ | refine pkT ?_ | refine pkB ?_ | refine pkO ?_ | refine gBa ?_ | refine gOa ?_))
  refine ⟨fun m o34 x35 x36 x37 x38 => ∃ i : Nat, i ≤ p.procs.length ∧ m = p.procs.length - i ∧ o34 = encPg p ∧ x36 = .l (p.procs.map encPr) ∧ x37 = ii p.procs.length ∧ x38 = ii i ∧ okPs p.chans 0 p.procs = okPs p.chans i (p.procs.drop i),
    ⟨_, 0, by omega, rfl, rfl, rfl, by rw [hl2], rfl, rfl⟩, ?_⟩
  rintro m o34 x35 x36 x37 x38 ⟨i, hi, rfl, rfl, rfl, rfl, rfl, hps⟩
  refine ⟨_, rfl, condK_by (fun h3 => ?_) (fun h3 => ?_)⟩
  · replace h3 := lt_len h3
    obtain ⟨y, hy⟩ : ∃ x, p.procs[i]? = some x := ⟨_, List.getElem?_eq_getElem h3⟩
    have hy' : (p.procs.map encPr)[i]? = some (encPr y) := by rw [List.getElem?_map, hy]; rfl
    have hym := List.mem_of_getElem? hy
    rw [drop_cons hy, okPs] at hps
    refine ⟨_, ⟨idx_i hy', rfl⟩, ?_⟩
    have hstep : ∀ (h : (!within y.vars 0 6 || !okSs p.chans i y.vars y.body) = false), okPs p.chans 0 p.procs = okPs p.chans ((i + 1 : Nat) : Int) (p.procs.drop (i + 1)) := fun h => by
      simp only [Bool.or_eq_false_iff, Bool.not_eq_false'] at h
      rw [hps, h.1, h.2]; simp
    cases hw : within y.vars 0 6 with
    | false =>
      have h81 := s81 y.vars 0 6
      rw [hw] at h81
      (repeat (first | refine ⟨rfl, ?_⟩ | refine ⟨_, sub_o, ?_⟩ | refine ⟨_, add_o, ?_⟩ | refine ⟨_, rfl, ?_⟩ | refine ⟨_, not_t _, ?_⟩ | refine ⟨_, ⟨rfl, rfl⟩, ?_⟩ | refine gFf ?_ | refine gOt ?_ | refine pkF ?_ | refine pkT ?_ | refine pkB ?_ | refine pkO ?_ | refine vs_eq h81 ?_ | refine gBa ?_ | refine gB _ (fun h => by first | exact vs_g h81 | (rw [h]; exact vs_g h81)) ?_ | refine gOa ?_ | refine gO _ (fun h => by first | exact vs_g h81 | (rw [h]; exact vs_g h81)) ?_))
      refine condK_t rfl ⟨trivial, trivial, ?_⟩
      rw [hok, hps, hw]; rfl
    | true =>
      have h81 := s81 y.vars 0 6
      rw [hw] at h81
      have hv : 0 ≤ y.vars ∧ y.vars ≤ 6 := by simpa [within] using hw
      have h83 := s83 p i y.vars y.body (by have := hz.body y hym; have := szSs_len y.body; omega) (fun s hs => s105 p i y.vars hv (by omega) htags 4194304 s (Nat.le_trans (szSs_mem hs) (hz.body y hym)) (Nat.le_refl _))
      (repeat (first | refine ⟨rfl, ?_⟩ | refine ⟨_, sub_o, ?_⟩ | refine ⟨_, add_o, ?_⟩ | refine ⟨_, rfl, ?_⟩ | refine ⟨_, not_t _, ?_⟩ | refine ⟨_, ⟨rfl, rfl⟩, ?_⟩ | refine gFf ?_ | refine gOt ?_ | refine pkF ?_ | refine pkT ?_ | refine pkB ?_ | refine pkO ?_ | refine vs_eq h81 ?_ | refine vs_eq h83 ?_ | refine gBa ?_ | refine gB _ (fun h => by first | exact vs_g h81 | (rw [h]; exact vs_g h81)) ?_ | refine gB _ (fun h => by first | exact vs_g h83 | (rw [h]; exact vs_g h83)) ?_ | refine gOa ?_ | refine gO _ (fun h => by first | exact vs_g h81 | (rw [h]; exact vs_g h81)) ?_ | refine gO _ (fun h => by first | exact vs_g h83 | (rw [h]; exact vs_g h83)) ?_))
      refine condK_by (fun h4 => ?_) (fun h4 => ?_)
      · refine ⟨trivial, trivial, ?_⟩
        rw [hok, hps, hw]
        have h5 : okSs p.chans i y.vars y.body = false := by simpa using h4
        rw [h5]; rfl
      · exact ⟨_, next_i h3 (by omega), _, by omega, i + 1, by omega, rfl, rfl, rfl, rfl, rfl, hstep (by rw [hw]; exact h4)⟩
  · obtain rfl := ge_len hi h3
    rw [List.drop_length, okPs] at hps
    refine ⟨trivial, trivial, ?_⟩
    rw [hok, hps]
end Go.Ax.TryLc

/- How flow lays statements as graphs: what its functions do to a graph is what plain functions do. By an AI agent. -/
set_option linter.unusedSimpArgs false
set_option linter.unusedVariables false
set_option maxRecDepth 100000
namespace Go.Ax.TryLc
open Go Go.Ax Go.Ax.V Go.Ax.Ft

theorem s41 (op : Int) : VS prog 41 [ii op] (fun r => r = ii (notI op)) := by
  refine vs41 _ _ ?_
  unfold W41
  refine ⟨_, rfl, condK_by (fun h => ?_) (fun h => ?_)⟩
  · obtain rfl : op = 1 := by simpa [eqA_d] using h
    exact ⟨trivial, trivial, rfl⟩
  have n1 : ¬ op = 1 := by simpa [eqA_d] using h
  refine ⟨_, rfl, condK_by (fun h => ?_) (fun h => ?_)⟩
  · obtain rfl : op = 2 := by simpa [eqA_d] using h
    exact ⟨trivial, trivial, rfl⟩
  have n2 : ¬ op = 2 := by simpa [eqA_d] using h
  refine ⟨_, rfl, condK_by (fun h => ?_) (fun h => ?_)⟩
  · obtain rfl : op = 3 := by simpa [eqA_d] using h
    exact ⟨trivial, trivial, rfl⟩
  have n3 : ¬ op = 3 := by simpa [eqA_d] using h
  refine ⟨_, rfl, condK_by (fun h => ?_) (fun h => ?_)⟩
  · obtain rfl : op = 4 := by simpa [eqA_d] using h
    exact ⟨trivial, trivial, rfl⟩
  have n4 : ¬ op = 4 := by simpa [eqA_d] using h
  refine ⟨_, rfl, condK_by (fun h => ?_) (fun h => ?_)⟩
  · obtain rfl : op = 5 := by simpa [eqA_d] using h
    exact ⟨trivial, trivial, rfl⟩
  have n5 : ¬ op = 5 := by simpa [eqA_d] using h
  refine ⟨_, rfl, condK_by (fun h => ?_) (fun h => ?_)⟩
  · obtain rfl : op = 6 := by simpa [eqA_d] using h
    exact ⟨trivial, trivial, rfl⟩
  have n6 : ¬ op = 6 := by simpa [eqA_d] using h
  refine ⟨trivial, trivial, ?_⟩
  simp [notI, n1, n2, n3, n4, n5, n6]

theorem take_map {α β : Type} {l : List α} {f : α → β} {i : Nat} {x : α} (hx : l[i]? = some x) : (l.take i).map f ++ [f x] = (l.take (i + 1)).map f := by
  rw [← take_snoc hx]; simp
/-- an expression's copy -/
theorem s106 : ∀ (e : Ex), szE e ≤ 4194304 → VS prog 106 [encE e] (fun r => r = encE e)
  | .mk k n v ks, hB => by
    have hks : szEs ks ≤ 4194304 := by simp only [szE] at hB; omega
    have hk := Nat.le_trans (szEs_len ks) hks
    have ih : ∀ e ∈ ks, VS prog 106 [encE e] (fun r => r = encE e) := fun e he => s106 e (Nat.le_trans (szEs_mem he) hks)
    refine vs106 _ _ ?_
    unfold W106
    (repeat (first | refine ⟨rfl, ?_⟩ | refine ⟨_, sub_o, ?_⟩ | refine ⟨_, add_o, ?_⟩ | refine ⟨_, rfl, ?_⟩ | refine ⟨_, not_t _, ?_⟩ | refine ⟨_, ⟨rfl, rfl⟩, ?_⟩ | refine gFf ?_ | refine gOt ?_ | refine pkF ?_ | refine pkT ?_ | refine pkB ?_ | refine pkO ?_ | refine gBa ?_ | refine gOa ?_))
    refine ⟨fun m o7 l8 o9 l10 x11 x12 x13 => ∃ i : Nat, i ≤ ks.length ∧ m = ks.length - i ∧ o7 = .a [ii k, ii n, ii v, .l []] ∧ l8 = (ks.take i).map encE ∧ o9 = .a [ii 0, ii 0, ii 0, .l []] ∧ x11 = .l (encEs ks) ∧ x12 = ii ks.length ∧ x13 = ii i,
      ⟨_, 0, by omega, rfl, rfl, rfl, rfl, rfl, by rw [encEs_len], rfl⟩, ?_⟩
    rintro m o7 l8 o9 l10 x11 x12 x13 ⟨i, hi, rfl, rfl, rfl, rfl, rfl, rfl, rfl⟩
    refine ⟨_, rfl, condK_by (fun h3 => ?_) (fun h3 => ?_)⟩
    · replace h3 := lt_len h3
      obtain ⟨x, hx⟩ : ∃ x, ks[i]? = some x := ⟨_, List.getElem?_eq_getElem h3⟩
      have hx' : (encEs ks)[i]? = some (encE x) := by rw [encEs_map, List.getElem?_map, hx]; rfl
      have hih := ih x (List.mem_of_getElem? hx)
      refine ⟨_, ⟨idx_i hx', encE_sz x⟩, ?_⟩
      have hl : ((ks.take i).map encE).length ≤ 4194304 := by simp; omega
      have ht := take_map (f := encE) hx
      obtain ⟨k', n', v', ks'⟩ := x
      (repeat (first | refine ⟨rfl, ?_⟩ | refine ⟨_, sub_o, ?_⟩ | refine ⟨_, add_o, ?_⟩ | refine ⟨_, rfl, ?_⟩ | refine ⟨_, not_t _, ?_⟩ | refine ⟨_, ⟨rfl, rfl⟩, ?_⟩ | refine gFf ?_ | refine gOt ?_ | refine pkF ?_ | refine pkT ?_ | refine pkB ?_ | refine pkO ?_ | refine vs_eq hih ?_ | refine gBa ?_ | refine gB _ (fun h => by first | exact vs_g hih | (rw [h]; exact vs_g hih)) ?_ | refine gOa ?_ | refine gO _ (fun h => by first | exact vs_g hih | (rw [h]; exact vs_g hih)) ?_))
      refine ⟨_, app_o, ?_⟩
      rw [ht]
      exact ⟨_, rfl, _, next_i h3 (by omega), _, by omega, i + 1, by omega, rfl, rfl, rfl, rfl, rfl, rfl, rfl⟩
    · obtain rfl := ge_len hi h3
      (repeat (first | refine ⟨rfl, ?_⟩ | refine ⟨_, sub_o, ?_⟩ | refine ⟨_, add_o, ?_⟩ | refine ⟨_, rfl, ?_⟩ | refine ⟨_, not_t _, ?_⟩ | refine ⟨_, ⟨rfl, rfl⟩, ?_⟩ | refine gFf ?_ | refine gOt ?_ | refine pkF ?_ | refine pkT ?_ | refine pkB ?_ | refine pkO ?_ | refine gBa ?_ | refine gOa ?_))
      refine ⟨trivial, _, rfl, _, rfl, trivial, ?_⟩
      rw [List.take_length, ← encEs_map]; rfl
theorem s107 (c : Co) (hB : szC c ≤ 4194304) : VS prog 107 [encC c] (fun r => r = encC c) := by
  obtain ⟨op, l, r⟩ := c
  simp only [szC] at hB
  have hl := s106 l (by omega)
  have hr := s106 r (by omega)
  obtain ⟨k1, n1, v1, ks1⟩ := l
  obtain ⟨k2, n2, v2, ks2⟩ := r
  refine vs107 _ _ ?_
  unfold W107
  (repeat (first | refine ⟨rfl, ?_⟩ | refine ⟨_, sub_o, ?_⟩ | refine ⟨_, add_o, ?_⟩ | refine ⟨_, rfl, ?_⟩ | refine ⟨_, not_t _, ?_⟩ | refine ⟨_, ⟨rfl, rfl⟩, ?_⟩ | refine gFf ?_ | refine gOt ?_ | refine pkF ?_ | refine pkT ?_ | refine pkB ?_ | refine pkO ?_ | refine vs_eq hl ?_ | refine vs_eq hr ?_ | refine gBa ?_ | refine gB _ (fun h => by first | exact vs_g hl | (rw [h]; exact vs_g hl)) ?_ | refine gB _ (fun h => by first | exact vs_g hr | (rw [h]; exact vs_g hr)) ?_ | refine gOa ?_ | refine gO _ (fun h => by first | exact vs_g hl | (rw [h]; exact vs_g hl)) ?_ | refine gO _ (fun h => by first | exact vs_g hr | (rw [h]; exact vs_g hr)) ?_))
  exact ⟨trivial, _, rfl, trivial, rfl⟩
theorem s109 (c : Co) (hB : szC c ≤ 4194304) : VS prog 109 [encC c] (fun r => r = encC (notC c)) := by
  have h := s107 c hB
  obtain ⟨op, l, r⟩ := c
  obtain ⟨k1, n1, v1, ks1⟩ := l
  obtain ⟨k2, n2, v2, ks2⟩ := r
  refine vs109 _ _ ?_
  unfold W109
  (repeat (first | refine ⟨rfl, ?_⟩ | refine ⟨_, sub_o, ?_⟩ | refine ⟨_, add_o, ?_⟩ | refine ⟨_, rfl, ?_⟩ | refine ⟨_, not_t _, ?_⟩ | refine ⟨_, ⟨rfl, rfl⟩, ?_⟩ | refine gFf ?_ | refine gOt ?_ | refine pkF ?_ | refine pkT ?_ | refine pkB ?_ | refine pkO ?_ | refine vs_eq h ?_ | refine vs_eq (s41 _) ?_ | refine gBa ?_ | refine gB _ (fun h => by first | exact vs_g h | (rw [h]; exact vs_g h)) ?_ | refine gB _ (fun h => by first | exact vs_g (s41 _) | (rw [h]; exact vs_g (s41 _))) ?_ | refine gOa ?_ | refine gO _ (fun h => by first | exact vs_g h | (rw [h]; exact vs_g h)) ?_ | refine gO _ (fun h => by first | exact vs_g (s41 _) | (rw [h]; exact vs_g (s41 _))) ?_))
  exact ⟨trivial, _, rfl, trivial, rfl⟩

/-! ### Graphs -/
def oG (g : Gr) : TV := .a [ii g.nodes, .l [], .l []]
def eE (g : Gr) : List TV := g.edges.map encEd
def eH (g : Gr) : List TV := g.heads.map ii
theorem t84 (g : Gr) (e : Ed) (hn : g.edges.length ≤ 100000000) (Q : TV → List TV → List TV → TV → Prop) (h : Q (oG (g.edge e)) (eE (g.edge e)) (eH (g.edge e)) (.tp [])) : S84 Q (oG g) (eE g) (eH g) (encEd e) := by
  have hl : (eE g).length ≤ 100000000 := by simp [eE]; omega
  have he : eE (g.edge e) = eE g ++ [encEd e] := by simp [eE, Gr.edge]
  rw [he] at h
  refine sh84 _ _ _ _ _ ?_
  obtain ⟨a, b, c, d, f, t, ⟨k1, n1, v1, ks1⟩, ⟨op, ⟨k2, n2, v2, ks2⟩, ⟨k3, n3, v3, ks3⟩⟩⟩ := e
  unfold WS84
  (repeat (first | refine ⟨rfl, ?_⟩ | refine ⟨_, sub_o, ?_⟩ | refine ⟨_, add_o, ?_⟩ | refine ⟨_, rfl, ?_⟩ | refine ⟨_, not_t _, ?_⟩ | refine ⟨_, ⟨rfl, rfl⟩, ?_⟩ | refine gFf ?_ | refine gOt ?_ | refine pkF ?_ | refine pkT ?_ | refine pkB ?_ | refine pkO ?_ | refine gBa ?_ | refine gOa ?_))
  refine ⟨_, app_o, ?_⟩
  (repeat (first | refine ⟨rfl, ?_⟩ | refine ⟨_, sub_o, ?_⟩ | refine ⟨_, add_o, ?_⟩ | refine ⟨_, rfl, ?_⟩ | refine ⟨_, not_t _, ?_⟩ | refine ⟨_, ⟨rfl, rfl⟩, ?_⟩ | refine gFf ?_ | refine gOt ?_ | refine pkF ?_ | refine pkT ?_ | refine pkB ?_ | refine pkO ?_ | refine gBa ?_ | refine gOa ?_))
  exact ⟨trivial, trivial, h⟩
theorem t85 (g : Gr) (hn : 0 ≤ g.nodes ∧ g.nodes ≤ 100000000) (Q : TV → List TV → List TV → TV → Prop) (h : Q (oG g.node) (eE g.node) (eH g.node) (ii g.nodes)) : S85 Q (oG g) (eE g) (eH g) := by
  refine sh85 _ _ _ _ ?_
  unfold WS85
  (repeat (first | refine ⟨rfl, ?_⟩ | refine ⟨_, sub_o, ?_⟩ | refine ⟨_, add_o, ?_⟩ | refine ⟨_, rfl, ?_⟩ | refine ⟨_, not_t _, ?_⟩ | refine ⟨_, ⟨rfl, rfl⟩, ?_⟩ | refine gFf ?_ | refine gOt ?_ | refine pkF ?_ | refine pkT ?_ | refine pkB ?_ | refine pkO ?_ | refine gBa ?_ | refine gOa ?_))
  refine ⟨trivial, ?_⟩
  rw [show g.nodes + 1 - 1 = g.nodes by omega]
  exact h

/-! ### How a graph grows -/
structure grow (g g' : Gr) (n : Nat) : Prop where
  lo : g.nodes ≤ g'.nodes
  hi : g'.nodes ≤ g.nodes + n
  e : g'.edges.length ≤ g.edges.length + n
  h : g'.heads.length ≤ g.heads.length + n
theorem grow.refl (g : Gr) : grow g g 0 := ⟨by omega, by omega, by omega, by omega⟩
theorem grow.trans {g1 g2 g3 : Gr} {n m : Nat} (h : grow g1 g2 n) (h' : grow g2 g3 m) : grow g1 g3 (n + m) :=
  ⟨by have := h.lo; have := h'.lo; omega, by have := h.hi; have := h'.hi; omega, by have := h.e; have := h'.e; omega, by have := h.h; have := h'.h; omega⟩
theorem grow.le {g1 g2 : Gr} {n m : Nat} (h : grow g1 g2 n) (hm : n ≤ m) : grow g1 g2 m :=
  ⟨h.lo, by have := h.hi; omega, by have := h.e; omega, by have := h.h; omega⟩
theorem grow_edge (g : Gr) (e : Ed) : grow g (g.edge e) 1 := ⟨by simp [Gr.edge], by simp [Gr.edge]; omega, by simp [Gr.edge], by simp [Gr.edge]⟩
theorem grow_node (g : Gr) : grow g g.node 1 := ⟨by simp [Gr.node]; omega, by simp [Gr.node], by simp [Gr.node], by simp [Gr.node]⟩
theorem grow_head (g : Gr) (a : Int) : grow g (g.head a) 1 := ⟨by simp [Gr.head], by simp [Gr.head]; omega, by simp [Gr.head], by simp [Gr.head]⟩
/-- an edge and a node at once -/
theorem grow_ne (g : Gr) (e : Ed) : grow g (g.node.edge e) 1 := ⟨by simp [Gr.node, Gr.edge]; omega, by simp [Gr.node, Gr.edge], by simp [Gr.node, Gr.edge], by simp [Gr.node, Gr.edge]⟩
mutual
theorem stF_grow : ∀ (s : Sm) (a b : Int) (g : Gr), grow g (stF s a b g) (szS s - 1)
  | .mk kind var chan tag e c body els arms, a, b, g => by
    have hs : szS (.mk kind var chan tag e c body els arms) = 5 + szE e + szC c + szSs body + szSs els + szAs arms := by rw [szS]
    rw [hs, stF]
    split
    · exact (grow_edge _ _).le (by omega)
    split
    · have h1 := (grow_ne g ⟨a, g.nodes, 2, 0, 0, 0, no0, c⟩).trans (laF_grow body g.nodes b _)
      have h2 := h1.trans (grow_ne _ ⟨a, (laF body g.nodes b (g.node.edge ⟨a, g.nodes, 2, 0, 0, 0, no0, c⟩)).nodes, 2, 0, 0, 0, no0, notC c⟩)
      exact (h2.trans (laF_grow els _ b _)).le (by omega)
    split
    · have h0 : grow g ((((g.head a).node).edge ⟨a, g.nodes, 2, 0, 0, 0, no0, c⟩).edge ⟨a, b, 2, 0, 0, 0, no0, notC c⟩) 2 := ⟨by simp [Gr.node, Gr.edge, Gr.head]; omega, by simp [Gr.node, Gr.edge, Gr.head]; try omega, by simp [Gr.node, Gr.edge, Gr.head], by simp [Gr.node, Gr.edge, Gr.head]⟩
      exact (h0.trans (laF_grow body g.nodes a _)).le (by omega)
    split
    · exact (grow_edge _ _).le (by omega)
    split
    · exact (arF_grow chan arms a b g).le (by omega)
    split
    · exact (grow_edge _ _).le (by omega)
    split
    · exact (grow_edge _ _).le (by omega)
    · exact (grow.refl g).le (by omega)
theorem laF_grow : ∀ (l : List Sm) (a b : Int) (g : Gr), grow g (laF l a b g) (szSs l + 1)
  | [], a, b, g => by rw [laF]; exact (grow_edge _ _).le (by omega)
  | [s], a, b, g => by rw [laF]; exact (stF_grow s a b g).le (by simp [szSs]; omega)
  | s :: t :: r, a, b, g => by
    rw [laF]
    have h1 := stF_grow s a g.nodes g.node
    have h2 := laF_grow (t :: r) g.nodes b (stF s a g.nodes g.node)
    have h0 := ((grow_node g).trans h1).trans h2
    have := szS_pos s
    exact h0.le (by simp only [szSs]; omega)
theorem arF_grow : ∀ (chan : Int) (l : List Ar) (a b : Int) (g : Gr), grow g (arF chan l a b g) (szAs l)
  | chan, [], a, b, g => by rw [arF]; exact (grow.refl g).le (by simp [szAs])
  | chan, .mk tag var body :: r, a, b, g => by
    rw [arF]
    have h1 := (grow_ne g ⟨a, g.nodes, 4, var, chan, tag, no0, noCo⟩).trans (laF_grow body g.nodes b _)
    exact (h1.trans (arF_grow chan r a b _)).le (by simp only [szAs, szA]; omega)
end
end Go.Ax.TryLc

/- Statements laid from a node to another one. By an AI agent. -/
set_option linter.unusedSimpArgs false
set_option linter.unusedVariables false
set_option maxRecDepth 100000
namespace Go.Ax.TryLc
open Go Go.Ax Go.Ax.V Go.Ax.Ft

structure fits (g : Gr) (n : Nat) : Prop where
  lo : 0 ≤ g.nodes
  nn : g.nodes + n ≤ 100000000
  e : g.edges.length + n ≤ 100000000
  h : g.heads.length + n ≤ 100000000
theorem fits.le {g : Gr} {n m : Nat} (h : fits g n) (hm : m ≤ n) : fits g m := ⟨h.lo, by have := h.nn; omega, by have := h.e; omega, by have := h.h; omega⟩
theorem fits.grow {g g' : Gr} {n m : Nat} (h : fits g (n + m)) (hg : grow g g' n) : fits g' m :=
  ⟨by have := h.lo; have := hg.lo; omega, by have := h.nn; have := hg.hi; omega, by have := h.e; have := hg.e; omega, by have := h.h; have := hg.h; omega⟩
def Sp86 (s : Sm) : Prop := ∀ (g : Gr) (a b : Int), fits g (szS s) → ∀ Q : TV → List TV → List TV → TV → Prop, Q (oG (stF s a b g)) (eE (stF s a b g)) (eH (stF s a b g)) (.tp []) → S86 Q (oG g) (eE g) (eH g) (encS s) (ii a) (ii b)
def Sp62 (l : List Sm) : Prop := ∀ (g : Gr) (a b : Int), fits g (szSs l + 1) → ∀ Q : TV → List TV → List TV → TV → Prop, Q (oG (laF l a b g)) (eE (laF l a b g)) (eH (laF l a b g)) (.tp []) → S62 Q (oG g) (eE g) (eH g) (.l (encSs l)) (ii a) (ii b)

theorem slT_take {es : List TV} {k : Nat} (hk : k ≤ es.length) : slT (.l es) none (some (ii k)) = some (.l (es.take k)) := by
  have h1 : bdA (k : Int) es.length = some k := by
    show (bif Nat.ble k es.length then some k else none) = some k
    rw [Nat.ble_eq_true_of_le hk]; rfl
  show (match bdsT none (some (ii k)) es.length with | some (l, h) => some (TV.l ((es.drop l).take (h - l))) | none => none) = _
  unfold bdsT bdT
  simp only [h1]
  rfl
theorem szHd_of {n : Nat} {es : List TV} (h : ∀ e ∈ es, szOk n e) : szHd n es := by
  cases es with
  | nil => trivial
  | cons e r => exact h e List.mem_cons_self
theorem szHd_S (l : List Sm) : szHd 20 (encSs l) := szHd_of (fun e he => by
  rw [encSs_map] at he
  obtain ⟨s, _, rfl⟩ := List.mem_map.1 he
  exact encS_sz s)
theorem laF_cons {s : Sm} {r : List Sm} (hr : r ≠ []) (a b : Int) (g : Gr) : laF (s :: r) a b g = laF r g.nodes b (stF s a g.nodes g.node) := by
  cases r with
  | nil => exact absurd rfl hr
  | cons t r => rw [laF]
theorem szSs_drop {l : List Sm} {i : Nat} {s : Sm} (h : l[i]? = some s) : szSs (l.drop i) = szS s + szSs (l.drop (i + 1)) := by
  rw [drop_cons h, szSs]

theorem t62 (l : List Sm) (hs : ∀ s ∈ l, Sp86 s) : Sp62 l := by
  intro g a b hf Q hQ
  have hll := szSs_len l
  have hfn := hf.nn
  have hfl := hf.lo
  have hfe := hf.e
  refine sh62 _ _ _ _ _ _ _ ?_
  unfold WS62
  refine ⟨_, rfl, _, rfl, condK_by (fun h => ?_) (fun h => ?_)⟩
  · have hl : l = [] := by
      simp only [eqA_d, encSs_len, decide_eq_true_eq] at h
      exact List.length_eq_zero_iff.1 (by omega)
    subst hl
    rw [laF] at hQ
    refine ⟨_, rfl, _, rfl, _, rfl, ?_⟩
    exact t84 g ⟨a, b, 0, 0, 0, 0, no0, noCo⟩ (by omega) _ ⟨trivial, trivial, hQ⟩
  · have hl : l.length ≠ 0 := by
      simp only [eqA_d, encSs_len, decide_eq_false_iff_not] at h
      omega
    have hen := encSs_len l
    refine ⟨_, rfl, _, sub_o, ?_⟩
    rw [hen, show ((l.length : Int) - 1) = ((l.length - 1 : Nat) : Int) by omega]
    refine ⟨_, ⟨slT_take (by omega), fun es he => by cases he; exact szHd_S l⟩, _, rfl, ?_⟩
    have htl : ((encSs l).take (l.length - 1)).length = l.length - 1 := by rw [List.length_take]; omega
    rw [htl]
    refine ⟨fun m o17 l18 l19 x20 x21 x22 x23 x24 x25 => ∃ (i : Nat) (G : Gr) (a' : Int), i ≤ l.length - 1 ∧ m = l.length - 1 - i ∧ o17 = oG G ∧ l18 = eE G ∧ l19 = eH G ∧ x20 = .l (encSs l) ∧ x21 = ii a' ∧ x22 = ii b ∧ x23 = .l ((encSs l).take (l.length - 1)) ∧ x24 = ii ((l.length - 1 : Nat) : Int) ∧ x25 = ii i ∧
      laF l a b g = laF (l.drop i) a' b G ∧ fits G (szSs (l.drop i) + 1), ⟨_, 0, g, a, by omega, rfl, rfl, rfl, rfl, rfl, rfl, rfl, rfl, rfl, rfl, rfl, hf⟩, ?_⟩
    rintro m o17 l18 l19 x20 x21 x22 x23 x24 x25 ⟨i, G, a', hi, rfl, rfl, rfl, rfl, rfl, rfl, rfl, rfl, rfl, rfl, hla, hfit⟩
    refine ⟨_, rfl, condK_by (fun h3 => ?_) (fun h3 => ?_)⟩
    · replace h3 := lt_len h3
      obtain ⟨x, hx⟩ : ∃ x, l[i]? = some x := ⟨_, List.getElem?_eq_getElem (by omega)⟩
      have hx' : ((encSs l).take (l.length - 1))[i]? = some (encS x) := by rw [List.getElem?_take, if_pos h3, encSs_map, List.getElem?_map, hx]; rfl
      have h86 := hs x (List.mem_of_getElem? hx)
      have hdr := szSs_drop hx
      have hne : l.drop (i + 1) ≠ [] := by
        intro hc
        have := congrArg List.length hc
        simp at this; omega
      rw [drop_cons hx, laF_cons hne] at hla
      have hfn := hfit.nn
      have hfl := hfit.lo
      have hpos := szS_pos x
      have hf1 : fits G.node (szS x - 1 + (szSs (l.drop (i + 1)) + 1)) := (hfit.le (m := 1 + (szS x - 1 + (szSs (l.drop (i + 1)) + 1))) (by omega)).grow (grow_node G)
      have hf2 := hf1.grow (stF_grow x a' G.nodes G.node)
      have hsz : fits G.node (szS x) := hf1.le (by omega)
      refine ⟨_, ⟨idx_i hx', encS_sz x⟩, ?_⟩
      obtain ⟨kind, var, chan, tag, ⟨k1, n1, v1, ks1⟩, ⟨op, ⟨k2, n2, v2, ks2⟩, ⟨k3, n3, v3, ks3⟩⟩, body, els, arms⟩ := x
      refine ⟨_, rfl, _, rfl, t85 G (by omega) _ ?_⟩
      refine ⟨_, rfl, h86 G.node a' G.nodes hsz _ ?_⟩
      refine ⟨_, next_i h3 (by omega), _, by omega, i + 1, _, _, by omega, rfl, rfl, rfl, rfl, rfl, rfl, rfl, rfl, rfl, rfl, hla, hf2⟩
    · obtain rfl := ge_len hi h3
      obtain ⟨x, hx⟩ : ∃ x, l[l.length - 1]? = some x := ⟨_, List.getElem?_eq_getElem (by omega)⟩
      have hx' : (encSs l)[l.length - 1]? = some (encS x) := by rw [encSs_map, List.getElem?_map, hx]; rfl
      have h86 := hs x (List.mem_of_getElem? hx)
      have hdr := szSs_drop hx
      have hd0 : l.drop (l.length - 1 + 1) = [] := by rw [List.drop_eq_nil_iff]; omega
      rw [drop_cons hx, hd0, laF] at hla
      rw [hla] at hQ
      refine ⟨_, rfl, _, sub_o, ?_⟩
      rw [hen, show ((l.length : Int) - 1) = ((l.length - 1 : Nat) : Int) by omega]
      refine ⟨_, ⟨idx_i hx', encS_sz x⟩, ?_⟩
      have hsz : fits G (szS x) := hfit.le (by omega)
      obtain ⟨kind, var, chan, tag, ⟨k1, n1, v1, ks1⟩, ⟨op, ⟨k2, n2, v2, ks2⟩, ⟨k3, n3, v3, ks3⟩⟩, body, els, arms⟩ := x
      exact ⟨_, rfl, h86 G a' b hsz _ ⟨trivial, trivial, hQ⟩⟩
end Go.Ax.TryLc

/- A statement laid from a node to another one; a program's graphs. By an AI agent. -/
set_option linter.unusedSimpArgs false
set_option linter.unusedVariables false
set_option maxRecDepth 100000
namespace Go.Ax.TryLc
open Go Go.Ax Go.Ax.V Go.Ax.Ft

/-- a branch -/
theorem t108 (l : List Sm) (hl : Sp62 l) (c : Co) (g : Gr) (a b : Int) (hf : fits g (1 + (szSs l + 1))) (Q : TV → List TV → List TV → TV → Prop)
    (hQ : Q (oG (laF l g.nodes b (g.node.edge ⟨a, g.nodes, 2, 0, 0, 0, no0, c⟩))) (eE (laF l g.nodes b (g.node.edge ⟨a, g.nodes, 2, 0, 0, 0, no0, c⟩))) (eH (laF l g.nodes b (g.node.edge ⟨a, g.nodes, 2, 0, 0, 0, no0, c⟩))) (.tp [])) :
    S108 Q (oG g) (eE g) (eH g) (encC c) (.l (encSs l)) (ii a) (ii b) := by
  have hn := hf.nn
  have hlo := hf.lo
  have he := hf.e
  have hf2 := hf.grow (grow_ne g ⟨a, g.nodes, 2, 0, 0, 0, no0, c⟩)
  have h84 := t84 g.node ⟨a, g.nodes, 2, 0, 0, 0, no0, c⟩ (by simp only [Gr.node]; omega)
  obtain ⟨op, ⟨k2, n2, v2, ks2⟩, ⟨k3, n3, v3, ks3⟩⟩ := c
  refine sh108 _ _ _ _ _ _ _ _ ?_
  unfold WS108
  refine ⟨rfl, t85 g (by omega) _ ?_⟩
  refine ⟨_, rfl, _, rfl, _, rfl, _, rfl, _, rfl, _, rfl, h84 _ ?_⟩
  exact hl _ _ _ hf2 _ ⟨trivial, trivial, hQ⟩
/-- a loop -/
theorem t110 (kind var chan tag : Int) (e : Ex) (c : Co) (body els : List Sm) (arms : List Ar) (hc : szC c ≤ 4194304) (hl : Sp62 body) (g : Gr) (a b : Int) (hf : fits g (2 + (szSs body + 1))) (Q : TV → List TV → List TV → TV → Prop)
    (hQ : let g' := laF body g.nodes a ((((g.head a).node).edge ⟨a, g.nodes, 2, 0, 0, 0, no0, c⟩).edge ⟨a, b, 2, 0, 0, 0, no0, notC c⟩)
      Q (oG g') (eE g') (eH g') (.tp [])) : S110 Q (oG g) (eE g) (eH g) (encS (.mk kind var chan tag e c body els arms)) (ii a) (ii b) := by
  have hn := hf.nn
  have hlo := hf.lo
  have he := hf.e
  have hh := hf.h
  have hlh : (eH g).length ≤ 100000000 := by simp [eH]; omega
  have h0 : grow g ((((g.head a).node).edge ⟨a, g.nodes, 2, 0, 0, 0, no0, c⟩).edge ⟨a, b, 2, 0, 0, 0, no0, notC c⟩) 2 := ⟨by simp [Gr.node, Gr.edge, Gr.head]; omega, by simp [Gr.node, Gr.edge, Gr.head]; try omega, by simp [Gr.node, Gr.edge, Gr.head], by simp [Gr.node, Gr.edge, Gr.head]⟩
  have hf2 := hf.grow h0
  have h84 := t84 (g.head a).node ⟨a, g.nodes, 2, 0, 0, 0, no0, c⟩ (by simp only [Gr.node, Gr.head]; omega)
  have h84' := t84 ((g.head a).node.edge ⟨a, g.nodes, 2, 0, 0, 0, no0, c⟩) ⟨a, b, 2, 0, 0, 0, no0, notC c⟩ (by simp only [Gr.node, Gr.head, Gr.edge, List.length_append, List.length_singleton]; omega)
  have h107 := s107 c hc
  have h109 := s109 c hc
  have h85 := t85 (g.head a) (by simp only [Gr.head]; omega)
  have heh : eH (g.head a) = eH g ++ [ii a] := by simp [eH, Gr.head]
  rw [heh] at h85
  obtain ⟨k1, n1, v1, ks1⟩ := e
  obtain ⟨op, ⟨k2, n2, v2, ks2⟩, ⟨k3, n3, v3, ks3⟩⟩ := c
  refine sh110 _ _ _ _ _ _ _ ?_
  unfold WS110
  refine ⟨rfl, rfl, rfl, _, rfl, rfl, _, app_o, _, rfl, h85 _ ?_⟩
  refine ⟨_, rfl, vs_eq h107 ⟨_, rfl, _, rfl, _, rfl, _, rfl, _, rfl, h84 _ ?_⟩⟩
  refine ⟨_, rfl, vs_eq h109 ⟨_, rfl, _, rfl, _, rfl, _, rfl, _, rfl, h84' _ ?_⟩⟩
  refine ⟨_, rfl, hl _ _ _ hf2 _ ⟨trivial, trivial, hQ⟩⟩
/-- arms -/
theorem t111 (kind var chan tag : Int) (e : Ex) (c : Co) (body els : List Sm) (arms : List Ar) (hl : ∀ tag var body, Ar.mk tag var body ∈ arms → Sp62 body) (g : Gr) (a b : Int) (hf : fits g (szAs arms)) (Q : TV → List TV → List TV → TV → Prop)
    (hQ : Q (oG (arF chan arms a b g)) (eE (arF chan arms a b g)) (eH (arF chan arms a b g)) (.tp [])) : S111 Q (oG g) (eE g) (eH g) (encS (.mk kind var chan tag e c body els arms)) (ii a) (ii b) := by
  have hlen := szAs_len arms
  have hn := hf.nn
  have hlo := hf.lo
  obtain ⟨k1, n1, v1, ks1⟩ := e
  obtain ⟨op, ⟨k2, n2, v2, ks2⟩, ⟨k3, n3, v3, ks3⟩⟩ := c
  refine sh111 _ _ _ _ _ _ _ ?_
  unfold WS111
  refine ⟨rfl, _, rfl, _, rfl, ?_⟩
  rw [encAs_len]
  refine ⟨fun m o6 l7 l8 o9 x10 x11 x12 x13 x14 => ∃ (i : Nat) (G : Gr), i ≤ arms.length ∧ m = arms.length - i ∧ o6 = oG G ∧ l7 = eE G ∧ l8 = eH G ∧ o9 = encS (.mk kind var chan tag (.mk k1 n1 v1 ks1) ⟨op, .mk k2 n2 v2 ks2, .mk k3 n3 v3 ks3⟩ body els arms) ∧ x10 = ii a ∧ x11 = ii b ∧ x12 = .l (encAs arms) ∧ x13 = ii arms.length ∧ x14 = ii i ∧
      arF chan arms a b g = arF chan (arms.drop i) a b G ∧ fits G (szAs (arms.drop i)), ⟨_, 0, g, by omega, rfl, rfl, rfl, rfl, rfl, rfl, rfl, rfl, rfl, rfl, rfl, hf⟩, ?_⟩
  rintro m o6 l7 l8 o9 x10 x11 x12 x13 x14 ⟨i, G, hi, rfl, rfl, rfl, rfl, rfl, rfl, rfl, rfl, rfl, rfl, har, hfit⟩
  refine ⟨_, rfl, condK_by (fun h3 => ?_) (fun h3 => ?_)⟩
  · replace h3 := lt_len h3
    obtain ⟨x, hx⟩ : ∃ x, arms[i]? = some x := ⟨_, List.getElem?_eq_getElem h3⟩
    have hx' : (encAs arms)[i]? = some (encA x) := by rw [encAs_map, List.getElem?_map, hx]; rfl
    obtain ⟨t, v, bd⟩ := x
    have hb := hl t v bd (List.mem_of_getElem? hx)
    rw [drop_cons hx, arF] at har
    rw [drop_cons hx, szAs, szA] at hfit
    have hfn := hfit.nn
    have hfl := hfit.lo
    have hfe := hfit.e
    have hf1 : fits (G.node.edge ⟨a, G.nodes, 4, v, chan, t, no0, noCo⟩) ((szSs bd + 1) + szAs (arms.drop (i + 1))) := (hfit.le (m := 1 + ((szSs bd + 1) + szAs (arms.drop (i + 1)))) (by omega)).grow (grow_ne G _)
    have hf2 := hf1.grow (laF_grow bd G.nodes b _)
    have h84 := t84 G.node ⟨a, G.nodes, 4, v, chan, t, no0, noCo⟩ (by simp only [Gr.node]; omega)
    refine ⟨_, ⟨idx_i hx', rfl⟩, _, rfl, _, rfl, t85 G (by omega) _ ?_⟩
    refine ⟨_, rfl, _, rfl, _, rfl, _, rfl, _, rfl, _, rfl, _, rfl, _, rfl, _, rfl, _, rfl, h84 _ ?_⟩
    refine ⟨_, rfl, hb _ _ _ (hf1.le (by omega)) _ ?_⟩
    exact ⟨_, next_i h3 (by omega), _, by omega, i + 1, _, by omega, rfl, rfl, rfl, rfl, rfl, rfl, rfl, rfl, rfl, rfl, har, hf2⟩
  · obtain rfl := ge_len hi h3
    rw [List.drop_length, arF] at har
    rw [har] at hQ
    exact ⟨trivial, trivial, hQ⟩
theorem t86 : ∀ (n : Nat) (s : Sm), szS s ≤ n → n ≤ 4194304 → Sp86 s := by
  intro n
  induction n with
  | zero => intro s hs; have := szS_pos s; omega
  | succ n ih =>
    intro s hs hn
    obtain ⟨kind, var, chan, tag, e, c, body, els, arms⟩ := s
    intro g a b hf Q hQ
    rw [szS] at hs hf
    have hbody : Sp62 body := t62 body (fun s hs' => ih s (by have := szSs_mem hs'; omega) (by omega))
    have hels : Sp62 els := t62 els (fun s hs' => ih s (by have := szSs_mem hs'; omega) (by omega))
    have harms : ∀ tag var body, Ar.mk tag var body ∈ arms → Sp62 body := fun tag var body hm => t62 body (fun s hs' => ih s (by
      have := szAs_mem hm; simp only [szA] at this; have := szSs_mem hs'; omega) (by omega))
    have h106 := s106 e (by omega)
    have h107 := s107 c (by omega)
    have h109 := s109 c (by omega)
    have t110' := t110 kind var chan tag e c body els arms (by omega) hbody g a b (hf.le (by omega))
    have t111' := t111 kind var chan tag e c body els arms harms g a b (hf.le (by omega))
    have hfe := hf.e
    have h108 := t108 body hbody c g a b (hf.le (by omega))
    have hgb := (grow_ne g ⟨a, g.nodes, 2, 0, 0, 0, no0, c⟩).trans (laF_grow body g.nodes b (g.node.edge ⟨a, g.nodes, 2, 0, 0, 0, no0, c⟩))
    have hfb := (hf.le (m := (1 + (szSs body + 1)) + (1 + (szSs els + 1))) (by omega)).grow hgb
    have h108' := t108 els hels (notC c) (laF body g.nodes b (g.node.edge ⟨a, g.nodes, 2, 0, 0, 0, no0, c⟩)) a b hfb
    have h1 := t84 g ⟨a, b, 1, var, 0, 0, e, noCo⟩ (by omega)
    have h4 := t84 g ⟨a, b, 3, 0, chan, tag, e, noCo⟩ (by omega)
    have h6 := t84 g ⟨a, b, 5, 0, 0, 0, no0, c⟩ (by omega)
    have h7 := t84 g ⟨a, b, 6, var, 0, 0, no0, noCo⟩ (by omega)
    obtain ⟨k1, n1, v1, ks1⟩ := e
    obtain ⟨op, ⟨k2, n2, v2, ks2⟩, ⟨k3, n3, v3, ks3⟩⟩ := c
    refine sh86 _ _ _ _ _ _ _ ?_
    rw [stF] at hQ
    unfold WS86
    refine ⟨rfl, _, rfl, _, rfl, condK_by (fun h => ?_) (fun h => ?_)⟩
    · obtain rfl : kind = 1 := by simpa [eqA_d] using h
      rw [if_pos rfl] at hQ
      exact ⟨_, rfl, _, rfl, vs_eq h106 ⟨_, rfl, _, rfl, _, rfl, _, rfl, _, rfl, _, rfl, h1 _ ⟨trivial, trivial, hQ⟩⟩⟩
    have m1 : ¬ kind = 1 := by simpa [eqA_d] using h
    rw [if_neg m1] at hQ
    refine ⟨_, rfl, condK_by (fun h => ?_) (fun h => ?_)⟩
    · obtain rfl : kind = 4 := by simpa [eqA_d] using h
      rw [if_neg (by decide), if_neg (by decide), if_pos rfl] at hQ
      exact ⟨_, rfl, _, rfl, _, rfl, vs_eq h106 ⟨_, rfl, _, rfl, _, rfl, _, rfl, _, rfl, _, rfl, _, rfl, h4 _ ⟨trivial, trivial, hQ⟩⟩⟩
    have m4 : ¬ kind = 4 := by simpa [eqA_d] using h
    refine ⟨_, rfl, condK_by (fun h => ?_) (fun h => ?_)⟩
    · obtain rfl : kind = 6 := by simpa [eqA_d] using h
      rw [if_neg (by decide), if_neg (by decide), if_neg (by decide), if_neg (by decide), if_pos rfl] at hQ
      exact ⟨_, rfl, vs_eq h107 ⟨_, rfl, _, rfl, _, rfl, _, rfl, _, rfl, h6 _ ⟨trivial, trivial, hQ⟩⟩⟩
    have m6 : ¬ kind = 6 := by simpa [eqA_d] using h
    refine ⟨_, rfl, condK_by (fun h => ?_) (fun h => ?_)⟩
    · obtain rfl : kind = 7 := by simpa [eqA_d] using h
      rw [if_neg (by decide), if_neg (by decide), if_neg (by decide), if_neg (by decide), if_neg (by decide), if_pos rfl] at hQ
      exact ⟨_, rfl, _, rfl, _, rfl, _, rfl, _, rfl, _, rfl, h7 _ ⟨trivial, trivial, hQ⟩⟩
    have m7 : ¬ kind = 7 := by simpa [eqA_d] using h
    refine ⟨_, rfl, condK_by (fun h => ?_) (fun h => ?_)⟩
    · obtain rfl : kind = 2 := by simpa [eqA_d] using h
      rw [if_pos rfl] at hQ
      exact ⟨_, rfl, vs_eq h107 ⟨_, rfl, h108 _ ⟨_, rfl, vs_eq h109 ⟨_, rfl, h108' _ ⟨trivial, trivial, hQ⟩⟩⟩⟩⟩
    have m2 : ¬ kind = 2 := by simpa [eqA_d] using h
    refine ⟨_, rfl, condK_by (fun h => ?_) (fun h => ?_)⟩
    · obtain rfl : kind = 3 := by simpa [eqA_d] using h
      rw [if_neg (by decide), if_pos rfl] at hQ
      exact ⟨_, rfl, t110' _ ⟨trivial, trivial, hQ⟩⟩
    have m3 : ¬ kind = 3 := by simpa [eqA_d] using h
    refine ⟨_, rfl, condK_by (fun h => ?_) (fun h => ?_)⟩
    · obtain rfl : kind = 5 := by simpa [eqA_d] using h
      rw [if_neg (by decide), if_neg (by decide), if_neg (by decide), if_pos rfl] at hQ
      exact ⟨_, rfl, t111' _ ⟨trivial, trivial, hQ⟩⟩
    have m5 : ¬ kind = 5 := by simpa [eqA_d] using h
    rw [if_neg m2, if_neg m3, if_neg m4, if_neg m5, if_neg m6, if_neg m7] at hQ
    exact ⟨trivial, trivial, hQ⟩
theorem u62 (l : List Sm) (hl : szSs l ≤ 4194304) : Sp62 l := t62 l (fun s hs => t86 4194304 s (Nat.le_trans (szSs_mem hs) hl) (Nat.le_refl _))
end Go.Ax.TryLc

/- A program's graphs. By an AI agent. -/
set_option linter.unusedSimpArgs false
set_option linter.unusedVariables false
set_option maxRecDepth 100000
namespace Go.Ax.TryLc
open Go Go.Ax Go.Ax.V Go.Ax.Ft

theorem s56 (l : List Int) (hl : l.length ≤ 4194304) : VS prog 56 [encR l] (fun r => r = encR l) := by
  refine vs56 _ _ ?_
  unfold W56
  refine ⟨_, rfl, fun b hb => condK_by (fun h => ?_) (fun h => ?_)⟩
  · refine ⟨trivial, trivial, ?_⟩
    have : l = [] := by
      cases l with
      | nil => rfl
      | cons x r => have := hb (by simp); rw [h] at this; cases this
    subst this; rfl
  · have hln : (l.map ii).length ≤ 4194304 := by rw [List.length_map]; exact hl
    exact ⟨_, rfl, szHd_of (fun e he => by obtain ⟨x, _, rfl⟩ := List.mem_map.1 he; rfl), _, app_o, trivial, trivial, rfl⟩
/-- channels, copied -/
theorem s61 (l : List Ch) (hl : l.length ≤ 4194304) (hr : ∀ c ∈ l, c.rule.length ≤ 4194304) (hr2 : ∀ c ∈ l, ∀ r ∈ c.rule, r.length ≤ 4194304) : VS prog 61 [.l (l.map encCh)] (fun r => r = .l (l.map encCh)) := by
  refine vs61 _ _ ?_
  unfold W61
  have hm : (l.map encCh).length = l.length := List.length_map _
  refine ⟨_, rfl, fun m l5 l6 x7 x8 x9 => ∃ i : Nat, i ≤ l.length ∧ m = l.length - i ∧ l6 = (l.take i).map encCh ∧ x7 = .l (l.map encCh) ∧ x8 = ii l.length ∧ x9 = ii i, ⟨_, 0, by omega, rfl, rfl, rfl, by rw [hm], rfl⟩, ?_⟩
  rintro m l5 l6 x7 x8 x9 ⟨i, hi, rfl, rfl, rfl, rfl, rfl⟩
  refine ⟨_, rfl, condK_by (fun h3 => ?_) (fun h3 => ?_)⟩
  · replace h3 := lt_len h3
    obtain ⟨c, hx⟩ : ∃ x, l[i]? = some x := ⟨_, List.getElem?_eq_getElem h3⟩
    have hx' : (l.map encCh)[i]? = some (encCh c) := by rw [List.getElem?_map, hx]; rfl
    have hc := hr c (List.mem_of_getElem? hx)
    have hc2 := hr2 c (List.mem_of_getElem? hx)
    have hmr : (c.rule.map encR).length = c.rule.length := List.length_map _
    refine ⟨_, ⟨idx_i hx', rfl⟩, ?_⟩
    (repeat (first | refine ⟨rfl, ?_⟩ | refine ⟨_, sub_o, ?_⟩ | refine ⟨_, add_o, ?_⟩ | refine ⟨_, rfl, ?_⟩ | refine ⟨_, not_t _, ?_⟩ | refine ⟨_, ⟨rfl, rfl⟩, ?_⟩ | refine gFf ?_ | refine gOt ?_ | refine pkF ?_ | refine pkT ?_ | refine pkB ?_ | refine pkO ?_ | refine gBa ?_ | refine gOa ?_))
    refine ⟨fun m o20 l21 l22 l23 x24 x25 x26 x27 x28 x29 x30 x31 x32 x33 => ∃ j : Nat, j ≤ c.rule.length ∧ m = c.rule.length - j ∧ o20 = encCh { c with rule := [] } ∧ l21 = (c.rule.take j).map encR ∧ l23 = (l.take i).map encCh ∧ x25 = .l (l.map encCh) ∧ x26 = ii l.length ∧ x27 = ii i ∧
      x31 = .l (c.rule.map encR) ∧ x32 = ii c.rule.length ∧ x33 = ii j, ⟨_, 0, by omega, rfl, rfl, rfl, rfl, rfl, rfl, rfl, rfl, by rw [hmr], rfl⟩, ?_⟩
    rintro m o20 l21 l22 l23 x24 x25 x26 x27 x28 x29 x30 x31 x32 x33 ⟨j, hj, rfl, rfl, rfl, rfl, rfl, rfl, rfl, rfl, rfl, rfl⟩
    refine ⟨_, rfl, condK_by (fun h5 => ?_) (fun h5 => ?_)⟩
    · replace h5 := lt_len h5
      obtain ⟨row, hy⟩ : ∃ x, c.rule[j]? = some x := ⟨_, List.getElem?_eq_getElem h5⟩
      have hy' : (c.rule.map encR)[j]? = some (encR row) := by rw [List.getElem?_map, hy]; rfl
      have h56 := s56 row (hc2 row (List.mem_of_getElem? hy))
      have hl2 : ((c.rule.take j).map encR).length ≤ 4194304 := by simp; omega
      have ht := take_map (f := encR) hy
      refine ⟨_, ⟨idx_i hy', rfl⟩, _, rfl, vs_eq h56 ⟨rfl, rfl, _, rfl, rfl, _, app_o, ?_⟩⟩
      rw [ht]
      exact ⟨_, rfl, _, next_i h5 (by omega), _, by omega, j + 1, by omega, rfl, rfl, rfl, rfl, rfl, rfl, rfl, rfl, rfl, rfl⟩
    · obtain rfl := ge_len hj h5
      have hl2 : ((l.take i).map encCh).length ≤ 4194304 := by simp; omega
      have ht := take_map (f := encCh) hx
      refine ⟨_, rfl, rfl, rfl, _, rfl, rfl, _, rfl, rfl, _, app_o, ?_⟩
      refine ⟨_, next_i h3 (by omega), _, by omega, i + 1, by omega, rfl, ?_, rfl, rfl, rfl⟩
      rw [← ht, List.take_length]; rfl
  · obtain rfl := ge_len hi h3
    rw [List.take_length]
    exact ⟨trivial, trivial, rfl⟩

/-- a short row is in order -/
def SortOk (l : List Int) : Prop := ∀ Q : List TV → TV → Prop, Q ((sortI l).map ii) (.tp []) → S63 Q (l.map ii)
theorem s155 (n : Int) : VS prog 155 [ii n] (fun r => r = .b false) := by
  refine vs155 _ _ ?_
  unfold W155
  (repeat (first | refine ⟨rfl, ?_⟩ | refine ⟨_, sub_o, ?_⟩ | refine ⟨_, add_o, ?_⟩ | refine ⟨_, rfl, ?_⟩ | refine ⟨_, not_t _, ?_⟩ | refine ⟨_, ⟨rfl, rfl⟩, ?_⟩ | refine gFf ?_ | refine gOt ?_ | refine pkF ?_ | refine pkT ?_ | refine pkB ?_ | refine pkO ?_ | refine gBa ?_ | refine gOa ?_))
  refine ⟨trivial, trivial, ?_⟩
  rw [eqA_d]; simp
theorem s88_01 : ∀ n : Nat, n ≤ 1 → VS prog 88 [.i .u64 n] (fun r => ∃ m : Int, r = ii m) := by
  have h122 : ∀ n : Nat, n ≤ 1 → VS prog 122 [.i .u64 n] (fun r => ∃ m : Int, r = ii m) := by
    intro n hn
    refine vs122 _ _ ?_
    unfold W122
    obtain rfl | rfl : n = 0 ∨ n = 1 := by omega
    · exact ⟨_, rfl, condK_f rfl ⟨_, rfl, condK_f rfl ⟨_, rfl, condK_f rfl ⟨_, rfl, _, rfl, _, rfl, _, rfl, trivial, trivial, _, rfl⟩⟩⟩⟩
    · exact ⟨_, rfl, condK_f rfl ⟨_, rfl, condK_f rfl ⟨_, rfl, condK_f rfl ⟨_, rfl, _, rfl, _, rfl, _, rfl, trivial, trivial, _, rfl⟩⟩⟩⟩
  intro n hn
  refine vs88 _ _ ?_
  unfold W88
  refine condK_f rfl (vs_ex (h122 n hn) (fun r hr => ?_))
  obtain ⟨m, rfl⟩ := hr
  exact ⟨trivial, trivial, trivial, _, rfl⟩
theorem sort_short (l : List Int) (hl : l.length ≤ 1) : SortOk l := by
  intro Q hQ
  have hs : sortI l = l := by
    match l, hl with
    | [], _ => rfl
    | [x], _ => rfl
  rw [hs] at hQ
  refine sh63 _ _ ?_
  unfold WS63
  have hln : (l.map ii).length = l.length := List.length_map _
  refine ⟨_, rfl, _, rfl, ?_⟩
  rw [hln]
  have hw : wrapA .u64 (l.length : Int) = (l.length : Int) := by
    match l, hl with
    | [], _ => rfl
    | [x], _ => rfl
  rw [hw]
  refine vs_ex (s88_01 _ hl) (fun r hr => ?_)
  obtain ⟨m, rfl⟩ := hr
  refine ⟨trivial, sh87 _ _ _ _ _ ?_⟩
  unfold WS87
  refine ⟨fun k l4 x5 x6 x7 x8 x9 => l4 = l.map ii ∧ x5 = ii 0 ∧ x6 = ii l.length, ⟨0, rfl, rfl, rfl⟩, ?_⟩
  rintro k l4 x5 x6 x7 x8 x9 ⟨rfl, rfl, rfl⟩
  refine ⟨_, sub_o, _, rfl, condK_t (by rw [ltA_d]; simp; omega) (sh112 _ _ _ _ ?_)⟩
  unfold WS112
  refine ⟨_, rfl, fun k l5 x6 x7 x8 => l5 = l.map ii ∧ x7 = ii l.length ∧ x8 = ii 1, ⟨0, rfl, rfl, rfl⟩, ?_⟩
  rintro k l5 x6 x7 x8 ⟨rfl, rfl, rfl⟩
  exact ⟨_, rfl, condK_f (by rw [ltA_d]; simp; omega) ⟨trivial, trivial, trivial, trivial, trivial, trivial, hQ⟩⟩

/-- a program's graphs -/
theorem s43 (p : Pg) (hz : szPg p) (hso : ∀ x ∈ p.procs, (rawF x).edges.length ≤ 400 → SortOk (rawF x).heads) : VS prog 43 [encPg p] (fun r => r = buildF p) := by
  have hlc := hz.chans
  have hlp := hz.procs
  have hl2 : (p.procs.map encPr).length = p.procs.length := List.length_map _
  have h60 := s60 p hz
  have h61 := s61 p.chans hlc hz.rules hz.rows
  refine vs43 _ _ ?_
  unfold W43
  (repeat (first | refine ⟨rfl, ?_⟩ | refine ⟨_, sub_o, ?_⟩ | refine ⟨_, add_o, ?_⟩ | refine ⟨_, rfl, ?_⟩ | refine ⟨_, not_t _, ?_⟩ | refine ⟨_, ⟨rfl, rfl⟩, ?_⟩ | refine gFf ?_ | refine gOt ?_ | refine pkF ?_ | refine pkT ?_ | refine pkB ?_ | refine pkO ?_ | refine vs_eq h60 ?_ | refine gBa ?_ | refine gB _ (fun h => by first | exact vs_g h60 | (rw [h]; exact vs_g h60)) ?_ | refine gOa ?_ | refine gO _ (fun h => by first | exact vs_g h60 | (rw [h]; exact vs_g h60)) ?_))
  refine condK_by (fun h => ?_) (fun h => ?_)
  · refine ⟨_, rfl, trivial, _, rfl, _, rfl, _, rfl, _, rfl, tup2 rfl rfl, ?_⟩
    have h' : okPg p = false := by simpa using h
    unfold buildF; rw [if_pos h']; rfl
  have hok : okPg p = true := by simpa using h
  (repeat (first | refine ⟨rfl, ?_⟩ | refine ⟨_, sub_o, ?_⟩ | refine ⟨_, add_o, ?_⟩ | refine ⟨_, rfl, ?_⟩ | refine ⟨_, not_t _, ?_⟩ | refine ⟨_, ⟨rfl, rfl⟩, ?_⟩ | refine gFf ?_ | refine gOt ?_ | refine pkF ?_ | refine pkT ?_ | refine pkB ?_ | refine pkO ?_ | refine vs_eq h61 ?_ | refine gBa ?_ | refine gB _ (fun h => by first | exact vs_g h61 | (rw [h]; exact vs_g h61)) ?_ | refine gOa ?_ | refine gO _ (fun h => by first | exact vs_g h61 | (rw [h]; exact vs_g h61)) ?_))
  refine ⟨fun m o18 l19 l20 l21 o22 l23 l24 x25 x26 x27 x28 => ∃ i : Nat, i ≤ p.procs.length ∧ m = p.procs.length - i ∧ o18 = .a [.l [], .l [], .l []] ∧ o22 = .a [.l (p.chans.map encCh), .l [], .l []] ∧ l23 = (p.procs.take i).map (fun x => encGr (graphF x)) ∧ l24 = (p.procs.take i).map (fun x => ii x.vars) ∧
      x26 = .l (p.procs.map encPr) ∧ x27 = ii p.procs.length ∧ x28 = ii i ∧ (p.procs.take i).all (fun x => decide ((rawF x).edges.length ≤ 400)) = true, ⟨_, 0, by omega, rfl, rfl, rfl, rfl, rfl, rfl, by rw [hl2], rfl, rfl⟩, ?_⟩
  rintro m o18 l19 l20 l21 o22 l23 l24 x25 x26 x27 x28 ⟨i, hi, rfl, rfl, rfl, rfl, rfl, rfl, rfl, rfl, hall⟩
  refine ⟨_, rfl, condK_by (fun h3 => ?_) (fun h3 => ?_)⟩
  · replace h3 := lt_len h3
    obtain ⟨x, hx⟩ : ∃ x, p.procs[i]? = some x := ⟨_, List.getElem?_eq_getElem h3⟩
    have hx' : (p.procs.map encPr)[i]? = some (encPr x) := by rw [List.getElem?_map, hx]; rfl
    have hxm := List.mem_of_getElem? hx
    have hb := hz.body x hxm
    refine ⟨_, ⟨idx_i hx', rfl⟩, _, rfl, _, rfl, _, rfl, _, rfl, _, rfl, ?_⟩
    refine u62 x.body hb ⟨2, [], []⟩ 0 1 ⟨(by decide : (0 : Int) ≤ 2), (by omega : (2 : Int) + ((szSs x.body + 1 : Nat) : Int) ≤ 100000000), by simp only [List.length_nil]; omega, by simp only [List.length_nil]; omega⟩ _ ?_
    have hle : (eE (rawF x)).length = (rawF x).edges.length := List.length_map _
    refine ⟨_, rfl, _, rfl, condK_by (fun h4 => ?_) (fun h4 => ?_)⟩
    · have h5 : ¬ (rawF x).edges.length ≤ 400 := by
        have h4' : ltA 400 ((eE (rawF x)).length : Int) = true := h4
        rw [hle, ltA_d, decide_eq_true_eq] at h4'
        omega
      refine ⟨_, rfl, trivial, _, rfl, _, rfl, _, rfl, _, rfl, tup2 rfl rfl, ?_⟩
      have h6 : (p.procs.all fun x => decide ((rawF x).edges.length ≤ 400)) = false := not_all hx (by simpa using h5)
      unfold buildF; rw [if_neg (by rw [hok]; decide), if_pos h6]; rfl
    · have h5 : (rawF x).edges.length ≤ 400 := by
        have h4' : ltA 400 ((eE (rawF x)).length : Int) = false := h4
        rw [hle, ltA_d, decide_eq_false_iff_not] at h4'
        omega
      have hS := hso x hxm h5
      have ht1 := take_map (f := fun x => encGr (graphF x)) hx
      have ht2 := take_map (f := fun x => ii x.vars) hx
      have hl3 : ((p.procs.take i).map (fun x => encGr (graphF x))).length ≤ 4194304 := by simp; omega
      have hl4 : ((p.procs.take i).map (fun x => ii x.vars)).length ≤ 4194304 := by simp; omega
      refine hS _ ?_
      refine ⟨_, rfl, rfl, rfl, _, rfl, _, rfl, rfl, _, rfl, rfl, _, app_o, ?_⟩
      refine ⟨_, rfl, rfl, rfl, _, rfl, rfl, _, app_o, ?_⟩
      refine ⟨_, rfl, _, rfl, _, next_i h3 (by omega), _, by omega, i + 1, by omega, rfl, rfl, rfl, ht1, ht2, rfl, rfl, rfl, take_all hx hall (by simpa using h5)⟩
  · obtain rfl := ge_len hi h3
    rw [List.take_length] at hall ⊢
    refine ⟨_, rfl, _, rfl, trivial, _, rfl, _, rfl, _, rfl, tup2 rfl rfl, ?_⟩
    unfold buildF
    rw [if_neg (by rw [hok]; decide), if_neg (by rw [hall]; decide)]
    simp [encSys]
end Go.Ax.TryLc

/- FlowCounts: what the law's own function answers. By an AI agent. -/
set_option linter.unusedSimpArgs false
set_option linter.unusedVariables false
set_option maxRecDepth 100000
namespace Go.Ax.TryLc
open Go Go.Ax Go.Ax.V Go.Ax.Ft

theorem rest20 (n : Int) : ∃ a : Nat, a < 20 ∧ binT .rem (.i .u64 (wrapA .u64 n)) (.i .u64 20) = some (.i .u64 a) := by
  have h1 := wf_wrap .u64 n
  rw [← wrapA_eq] at h1
  have h2 := bounds_u64 h1
  have h3 := Int.tmod_nonneg 20 h2.1
  have h4 := Int.tmod_lt_of_pos (wrapA .u64 n) (show (0 : Int) < 20 by decide)
  obtain ⟨a, ha⟩ := Int.eq_ofNat_of_zero_le h3
  exact ⟨a, by omega, by rw [rem_k (by decide), ha]⟩
theorem s51 (n : Nat) (hn : n < 20) : VS prog 51 [ii n] (fun r => r = .l (encSs (List.replicate n inp))) := by
  refine vs51 _ _ ?_
  unfold W51
  refine ⟨fun m x4 l5 l6 x7 => ∃ i : Nat, i ≤ n ∧ m = n - i ∧ x4 = ii n ∧ l6 = encSs (List.replicate i inp) ∧ x7 = ii i, ⟨_, 0, by omega, rfl, rfl, rfl, rfl⟩, ?_⟩
  rintro m x4 l5 l6 x7 ⟨i, hi, rfl, rfl, rfl, rfl⟩
  refine ⟨_, rfl, condK_by (fun h3 => ?_) (fun h3 => ?_)⟩
  · replace h3 := lt_len h3
    have hl : (encSs (List.replicate i inp)).length = i := by rw [encSs_len, List.length_replicate]
    refine ⟨_, rfl, rfl, rfl, _, rfl, _, rfl, _, rfl, _, rfl, _, rfl, _, rfl, rfl, _, rfl, rfl, _, app_o, ?_⟩
    refine ⟨_, next_i h3 (by omega), _, by omega, i + 1, by omega, rfl, rfl, ?_, rfl⟩
    rw [List.replicate_succ', encSs_map, encSs_map, List.map_append]; rfl
  · obtain rfl := ge_len hi h3
    exact ⟨trivial, trivial, rfl⟩
/-- of a node from which no edge goes -/
theorem s50_none (g : Gr) (n : Int) (hl : g.edges.length ≤ 4194304) (hn : ∀ e ∈ g.edges, e.src ≠ n) : VS prog 50 [encGr g, ii n] (fun r => r = .l []) := by
  have hm : (g.edges.map encEd).length = g.edges.length := List.length_map _
  refine vs50 _ _ _ ?_
  unfold W50
  refine ⟨rfl, _, rfl, _, rfl, fun m x6 l7 l8 x9 x10 x11 => ∃ i : Nat, i ≤ g.edges.length ∧ m = g.edges.length - i ∧ x6 = ii n ∧ l8 = [] ∧ x9 = .l (g.edges.map encEd) ∧ x10 = ii g.edges.length ∧ x11 = ii i, ⟨_, 0, by omega, rfl, rfl, rfl, rfl, by rw [hm], rfl⟩, ?_⟩
  rintro m x6 l7 l8 x9 x10 x11 ⟨i, hi, rfl, rfl, rfl, rfl, rfl, rfl⟩
  refine ⟨_, rfl, condK_by (fun h3 => ?_) (fun h3 => ?_)⟩
  · replace h3 := lt_len h3
    obtain ⟨e, hx⟩ : ∃ x, g.edges[i]? = some x := ⟨_, List.getElem?_eq_getElem h3⟩
    have hx' : (g.edges.map encEd)[i]? = some (encEd e) := by rw [List.getElem?_map, hx]; rfl
    have hne := hn e (List.mem_of_getElem? hx)
    refine ⟨_, ⟨idx_i hx', encEd_sz e⟩, ?_⟩
    obtain ⟨a, b, c, d, f, t, ⟨k1, n1, v1, ks1⟩, ⟨op, ⟨k2, n2, v2, ks2⟩, ⟨k3, n3, v3, ks3⟩⟩⟩ := e
    refine ⟨_, rfl, _, rfl, _, rfl, _, rfl, condK_f (eq_f hne) ⟨_, next_i h3 (by omega), _, by omega, i + 1, by omega, rfl, rfl, rfl, rfl, rfl, rfl⟩⟩
  · obtain rfl := ge_len hi h3
    exact ⟨trivial, trivial, rfl⟩

/-- the statement behind the row -/
def lastS (b a : Nat) (wh : Bool) : Sm := .mk (bif wh then 3 else 2) 0 0 0 no0 c11 (List.replicate b inp) (bif wh then [] else List.replicate a inp) []
def bodyF (a b : Nat) (wh : Bool) : List Sm := List.replicate a inp ++ [lastS b a wh]
def progF (a b : Nat) (wh : Bool) : Pg := ⟨[], [⟨1, bodyF a b wh⟩]⟩
def wantF (a b : Nat) (wh : Bool) : Nat := a + 2 + max b 1 + (bif wh then 0 else max a 1)
theorem prog_ok (a b : Nat) (wh : Bool) : okPg (progF a b wh) = true := by
  have h1 : okC 1 c11 = true := by decide
  have h2 : okS [] 0 1 (lastS b a wh) = true := by
    have hr := okSs_rep [] 0
    cases wh
    · simp [lastS, okS, h1, hr, noE, no0]
    · simp [lastS, okS, h1, hr, noE, no0]
  have h3 : okSs [] 0 1 (bodyF a b wh) = true := by
    rw [okSs_all, bodyF, List.all_append, ← okSs_all, okSs_rep]
    simp [h2]
  simp [okPg, progF, okPs, h3, within]
theorem prog_e (a b : Nat) (wh : Bool) : (rawF ⟨1, bodyF a b wh⟩).edges.length = wantF a b wh ∧ (rawF ⟨1, bodyF a b wh⟩).heads.length = (bif wh then 1 else 0) := by
  have h := laF_ce (bodyF a b wh) 0 1 ⟨2, [], []⟩
  refine ⟨h.1.trans ?_, h.2.trans ?_⟩
  · rw [bodyF, ceL_row]
    cases wh
    · simp [lastS, ceS, ceL_rep, wantF]; omega
    · simp [lastS, ceS, ceL_rep, wantF]; omega
  · rw [bodyF, chL_row]
    cases wh
    · simp [lastS, chS, chL_rep]
    · simp [lastS, chS, chL_rep]
theorem prog_sz (a b : Nat) (wh : Bool) (ha : a < 20) (hb : b < 20) : szPg (progF a b wh) := by
  refine ⟨by simp [progF], by simp [progF], by simp [progF], by simp [progF], fun x hx => ?_⟩
  simp only [progF, List.mem_singleton] at hx
  subst hx
  have happ : ∀ (l : List Sm) (s : Sm), szSs (l ++ [s]) = szSs l + szS s := by
    intro l s
    induction l with
    | nil => simp [szSs]
    | cons x l ih => simp only [List.cons_append, szSs, ih]; omega
  show szSs (bodyF a b wh) ≤ 4194304
  rw [bodyF, happ, sz_rep, lastS, szS, sz_rep]
  have h1 : szE no0 = 1 := rfl
  have h2 : szC c11 = 2 := rfl
  cases wh
  · simp only [cond_false, sz_rep, h1, h2, szAs]; omega
  · simp only [cond_true, szSs, h1, h2, szAs]; omega
/-- the graph -/
theorem prog_build (a b : Nat) (wh : Bool) (ha : a < 20) (hb : b < 20) : VS prog 43 [encPg (progF a b wh)] (fun r => r = .tp [encSys [] [graphF ⟨1, bodyF a b wh⟩] [1], ii 0]) := by
  obtain ⟨h1, h2⟩ := prog_e a b wh
  have h400 : (rawF ⟨1, bodyF a b wh⟩).edges.length ≤ 400 := by
    rw [h1, wantF]; cases wh <;> simp <;> omega
  have hb := s43 (progF a b wh) (prog_sz a b wh ha hb) (fun x hx _ => by
    simp only [progF, List.mem_singleton] at hx
    subst hx
    exact sort_short _ (by rw [h2]; cases wh <;> decide))
  have e : buildF (progF a b wh) = .tp [encSys [] [graphF ⟨1, bodyF a b wh⟩] [1], ii 0] := by
    unfold buildF
    rw [if_neg (by rw [prog_ok]; decide), if_neg (by simp [progF, h400])]
    rfl
  rw [e] at hb
  exact hb
theorem graph_len (a b : Nat) (wh : Bool) : (graphF ⟨1, bodyF a b wh⟩).edges.length = wantF a b wh ∧ (graphF ⟨1, bodyF a b wh⟩).heads.length = (bif wh then 1 else 0) := by
  obtain ⟨h1, h2⟩ := prog_e a b wh
  refine ⟨h1, ?_⟩
  show (sortI (rawF ⟨1, bodyF a b wh⟩).heads).length = _
  cases wh
  · have h2' : (rawF ⟨1, bodyF a b false⟩).heads.length = 0 := h2
    rw [List.length_eq_zero_iff.1 h2']; rfl
  · have h2' : (rawF ⟨1, bodyF a b true⟩).heads.length = 1 := h2
    match (rawF ⟨1, bodyF a b true⟩).heads, h2' with
    | [x], _ => rfl
theorem s46 : VS prog 46 [] (fun r => r = .b true) := vs_closed (k := 1000) (by kernel_rfl)
theorem body_app (a b : Nat) (wh : Bool) (ha : a < 20) : appT 256 (encSs (List.replicate a inp)) [encS (lastS b a wh)] = some (encSs (bodyF a b wh)) := by
  have hla : (encSs (List.replicate a inp)).length = a := by rw [encSs_len, List.length_replicate]
  rw [app_o]
  simp [bodyF, encSs_map]
theorem law (n m kind : Int) : VS prog 15 [ii n, ii m, ii kind] (fun r => r = .b true) := by
  obtain ⟨a, ha, hra⟩ := rest20 n
  obtain ⟨b, hb, hrb⟩ := rest20 m
  have h51a := s51 a ha
  have h51b := s51 b hb
  have hla : (encSs (List.replicate a inp)).length = a := by rw [encSs_len, List.length_replicate]
  have hwa : wrapA .i64 (a : Int) = a := wrap_id (by omega) (by omega)
  have hwb : wrapA .i64 (b : Int) = b := wrap_id (by omega) (by omega)
  refine vs15 _ _ _ _ ?_
  unfold W15
  refine ⟨_, rfl, _, hra, _, rfl, _, rfl, _, hrb, _, rfl, ?_⟩
  show ∃ v7 : TV, _
  rw [hwa, hwb]
  (repeat (first | refine ⟨rfl, ?_⟩ | refine ⟨_, sub_o, ?_⟩ | refine ⟨_, add_o, ?_⟩ | refine ⟨_, rfl, ?_⟩ | refine ⟨_, not_t _, ?_⟩ | refine ⟨_, ⟨rfl, rfl⟩, ?_⟩ | refine gFf ?_ | refine gOt ?_ | refine pkF ?_ | refine pkT ?_ | refine pkB ?_ | refine pkO ?_ | refine vs_eq h51a ?_ | refine vs_eq h51b ?_ | refine gBa ?_ | refine gB _ (fun h => by first | exact vs_g h51a | (rw [h]; exact vs_g h51a)) ?_ | refine gB _ (fun h => by first | exact vs_g h51b | (rw [h]; exact vs_g h51b)) ?_ | refine gOa ?_ | refine gO _ (fun h => by first | exact vs_g h51a | (rw [h]; exact vs_g h51a)) ?_ | refine gO _ (fun h => by first | exact vs_g h51b | (rw [h]; exact vs_g h51b)) ?_))
  refine ⟨szHd_S _, _, app_o, ?_⟩
  rw [List.nil_append]
  (repeat (first | refine ⟨rfl, ?_⟩ | refine ⟨_, sub_o, ?_⟩ | refine ⟨_, add_o, ?_⟩ | refine ⟨_, rfl, ?_⟩ | refine ⟨_, not_t _, ?_⟩ | refine ⟨_, ⟨rfl, rfl⟩, ?_⟩ | refine gFf ?_ | refine gOt ?_ | refine pkF ?_ | refine pkT ?_ | refine pkB ?_ | refine pkO ?_ | refine gBa ?_ | refine gOa ?_))
  refine ⟨_, body_app a b false ha, ?_⟩
  refine ⟨_, add_o, _, mx2 _ _, ?_⟩
  have hmb : max (b : Int) 1 = ((max b 1 : Nat) : Int) := by omega
  have hma : max (a : Int) 1 = ((max a 1 : Nat) : Int) := by omega
  rw [hmb]
  refine ⟨_, add_o, _, mx2 _ _, ?_⟩
  rw [hma]
  refine ⟨_, add_o, ?_⟩
  refine ⟨_, rem_k (by decide), ?_⟩
  refine ⟨_, rfl, condK_by (fun hk => ?_) (fun hk => ?_)⟩
  · refine ⟨_, rfl, szHd_S _, _, app_o, ?_⟩
    rw [List.nil_append]
    (repeat (first | refine ⟨rfl, ?_⟩ | refine ⟨_, sub_o, ?_⟩ | refine ⟨_, add_o, ?_⟩ | refine ⟨_, rfl, ?_⟩ | refine ⟨_, not_t _, ?_⟩ | refine ⟨_, ⟨rfl, rfl⟩, ?_⟩ | refine gFf ?_ | refine gOt ?_ | refine pkF ?_ | refine pkT ?_ | refine pkB ?_ | refine pkO ?_ | refine gBa ?_ | refine gOa ?_))
    refine ⟨_, body_app a b true ha, ?_⟩
    refine ⟨_, add_o, _, mx2 _ _, ?_⟩
    rw [hmb]
    refine ⟨_, add_o, ?_⟩
    have hbd := prog_build a b true ha hb
    obtain ⟨g1, g2⟩ := graph_len a b true
    have hout := s50_none (graphF ⟨1, bodyF a b true⟩) 1 (by rw [g1]; simp only [wantF, cond_true]; omega) (fun e he => raw_src _ e he)
    generalize hg : graphF ⟨1, bodyF a b true⟩ = g at *
    obtain ⟨nodes, edges, heads⟩ := g
    have hl1 : (edges.map encEd).length = wantF a b true := by rw [List.length_map]; exact g1
    have hl2 : (heads.map ii).length = 1 := by rw [List.length_map]; exact g2
    (repeat (first | refine ⟨rfl, ?_⟩ | refine ⟨_, sub_o, ?_⟩ | refine ⟨_, add_o, ?_⟩ | refine ⟨_, rfl, ?_⟩ | refine ⟨_, not_t _, ?_⟩ | refine ⟨_, ⟨rfl, rfl⟩, ?_⟩ | refine gFf ?_ | refine gOt ?_ | refine pkF ?_ | refine pkT ?_ | refine pkB ?_ | refine pkO ?_ | refine vs_eq hbd ?_ | refine vs_eq s46 ?_ | refine gBa ?_ | refine gB _ (fun h => by first | exact vs_g hbd | (rw [h]; exact vs_g hbd)) ?_ | refine gB _ (fun h => by first | exact vs_g s46 | (rw [h]; exact vs_g s46)) ?_ | refine gOa ?_ | refine gO _ (fun h => by first | exact vs_g hbd | (rw [h]; exact vs_g hbd)) ?_ | refine gO _ (fun h => by first | exact vs_g s46 | (rw [h]; exact vs_g s46)) ?_))
    refine condK_t hk ?_
    (repeat (first | refine ⟨rfl, ?_⟩ | refine ⟨_, sub_o, ?_⟩ | refine ⟨_, add_o, ?_⟩ | refine ⟨_, rfl, ?_⟩ | refine ⟨_, not_t _, ?_⟩ | refine ⟨_, ⟨rfl, rfl⟩, ?_⟩ | refine gFf ?_ | refine gOt ?_ | refine pkF ?_ | refine pkT ?_ | refine pkB ?_ | refine pkO ?_ | refine vs_eq hout ?_ | refine gBa ?_ | refine gB _ (fun h => by first | exact vs_g hout | (rw [h]; exact vs_g hout)) ?_ | refine gOa ?_ | refine gO _ (fun h => by first | exact vs_g hout | (rw [h]; exact vs_g hout)) ?_))
    refine ⟨trivial, trivial, ?_⟩
    rw [hl1, hl2]
    have : ((wantF a b true : Nat) : Int) = a + 2 + ((max b 1 : Nat) : Int) := by simp only [wantF, cond_true]; omega
    rw [this]
    simp [eqA_d]
  · (repeat (first | refine ⟨rfl, ?_⟩ | refine ⟨_, sub_o, ?_⟩ | refine ⟨_, add_o, ?_⟩ | refine ⟨_, rfl, ?_⟩ | refine ⟨_, not_t _, ?_⟩ | refine ⟨_, ⟨rfl, rfl⟩, ?_⟩ | refine gFf ?_ | refine gOt ?_ | refine pkF ?_ | refine pkT ?_ | refine pkB ?_ | refine pkO ?_ | refine gBa ?_ | refine gOa ?_))
    have hbd := prog_build a b false ha hb
    obtain ⟨g1, g2⟩ := graph_len a b false
    have hout := s50_none (graphF ⟨1, bodyF a b false⟩) 1 (by rw [g1]; simp only [wantF, cond_false]; omega) (fun e he => raw_src _ e he)
    generalize hg : graphF ⟨1, bodyF a b false⟩ = g at *
    obtain ⟨nodes, edges, heads⟩ := g
    have hl1 : (edges.map encEd).length = wantF a b false := by rw [List.length_map]; exact g1
    have hl2 : (heads.map ii).length = 0 := by rw [List.length_map]; exact g2
    (repeat (first | refine ⟨rfl, ?_⟩ | refine ⟨_, sub_o, ?_⟩ | refine ⟨_, add_o, ?_⟩ | refine ⟨_, rfl, ?_⟩ | refine ⟨_, not_t _, ?_⟩ | refine ⟨_, ⟨rfl, rfl⟩, ?_⟩ | refine gFf ?_ | refine gOt ?_ | refine pkF ?_ | refine pkT ?_ | refine pkB ?_ | refine pkO ?_ | refine vs_eq hbd ?_ | refine vs_eq s46 ?_ | refine gBa ?_ | refine gB _ (fun h => by first | exact vs_g hbd | (rw [h]; exact vs_g hbd)) ?_ | refine gB _ (fun h => by first | exact vs_g s46 | (rw [h]; exact vs_g s46)) ?_ | refine gOa ?_ | refine gO _ (fun h => by first | exact vs_g hbd | (rw [h]; exact vs_g hbd)) ?_ | refine gO _ (fun h => by first | exact vs_g s46 | (rw [h]; exact vs_g s46)) ?_))
    refine condK_f hk ?_
    (repeat (first | refine ⟨rfl, ?_⟩ | refine ⟨_, sub_o, ?_⟩ | refine ⟨_, add_o, ?_⟩ | refine ⟨_, rfl, ?_⟩ | refine ⟨_, not_t _, ?_⟩ | refine ⟨_, ⟨rfl, rfl⟩, ?_⟩ | refine gFf ?_ | refine gOt ?_ | refine pkF ?_ | refine pkT ?_ | refine pkB ?_ | refine pkO ?_ | refine vs_eq hout ?_ | refine gBa ?_ | refine gB _ (fun h => by first | exact vs_g hout | (rw [h]; exact vs_g hout)) ?_ | refine gOa ?_ | refine gO _ (fun h => by first | exact vs_g hout | (rw [h]; exact vs_g hout)) ?_))
    refine ⟨trivial, trivial, ?_⟩
    rw [hl1, hl2]
    have : ((wantF a b false : Nat) : Int) = a + 2 + ((max b 1 : Nat) : Int) + ((max a 1 : Nat) : Int) := by simp only [wantF, cond_false]; omega
    rw [this]
    simp [eqA_d]
end Go.Ax.TryLc
