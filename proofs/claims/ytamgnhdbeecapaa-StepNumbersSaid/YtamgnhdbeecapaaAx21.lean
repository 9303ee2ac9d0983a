/- Regions of open order: what an operation sees, and what it leaves, at whatever place of the order. -/
import Derived.Test.YtamgnhdbeecapaaAx20
set_option linter.unusedSimpArgs false
set_option linter.unusedVariables false
namespace Go.Ax
open Classical

mutual
theorem eqAV_eq : ∀ (a b : AV), eqAV a b = true → a = b
  | .bool a, b, h => by cases b <;> first | (simp only [eqAV, beq_iff_eq] at h; rw [h]) | cases h
  | .int k a, b, h => by
    cases b <;> first | cases h | skip
    simp only [eqAV, Bool.and_eq_true, eqA_eq, decide_eq_true_eq] at h
    rw [eqK_eq h.1, h.2]
  | .str a, b, h => by cases b <;> first | (simp only [eqAV, decide_eq_true_eq] at h; rw [h]) | cases h
  | .nilp, b, h => by cases b <;> first | rfl | cases h
  | .nils, b, h => by cases b <;> first | rfl | cases h
  | .ptr a1 a2 a3, b, h => by
    cases b <;> first | cases h | skip
    simp only [eqAV, Bool.and_eq_true, Nat.beq_eq] at h
    rw [h.1.1, h.1.2, h.2]
  | .iptr cs off, b, h => by
    cases b <;> first | cases h | skip
    simp only [eqAV, Bool.and_eq_true, Nat.beq_eq] at h
    rw [eqAVs_eq _ _ h.1, h.2]
  | .imm cs n c, b, h => by
    cases b <;> first | cases h | skip
    simp only [eqAV, Bool.and_eq_true, Nat.beq_eq, decide_eq_true_eq] at h
    rw [eqAVs_eq _ _ h.1.1, h.1.2, h.2]
  | .ref a1 a2 a3 a4 a5 a6 a7, b, h => by
    cases b <;> first | cases h | skip
    simp only [eqAV, Bool.and_eq_true, Nat.beq_eq, beq_iff_eq] at h
    obtain ⟨⟨⟨⟨⟨⟨h1, h2⟩, h3⟩, h4⟩, h5⟩, h6⟩, h7⟩ := h
    rw [h1, h2, h3, h4, h5, h6, h7]
  | .agg cs, b, h => by
    cases b <;> first | cases h | skip
    simp only [eqAV] at h
    rw [eqAVs_eq _ _ h]
  | .tup cs, b, h => by
    cases b <;> first | cases h | skip
    simp only [eqAV] at h
    rw [eqAVs_eq _ _ h]
  | .func f, b, h => by
    cases b <;> first | cases h | skip
    simp only [eqAV, Nat.beq_eq] at h
    rw [h]
  | .mapr f, b, h => by
    cases b <;> first | cases h | skip
    simp only [eqAV, Nat.beq_eq] at h
    rw [h]
theorem eqAVs_eq : ∀ (a b : List AV), eqAVs a b = true → a = b
  | [], [], _ => rfl
  | [], _ :: _, h => by cases h
  | _ :: _, [], h => by cases h
  | x :: xs, y :: ys, h => by
    simp only [eqAVs, Bool.and_eq_true] at h
    rw [eqAV_eq _ _ h.1, eqAVs_eq _ _ h.2]
end

theorem same3_eq {A B C : Heap} {r : Rng} (h : same3 A B C r = true) : fetch A (some r) = fetch C (some r) ∧ fetch B (some r) = fetch C (some r) := by
  unfold same3 at h
  split at h
  · rename_i x y z h1 h2 h3
    simp only [Bool.and_eq_true] at h
    rw [h1, h2, h3, eqAVs_eq _ _ h.1, eqAVs_eq _ _ h.2]
    exact ⟨rfl, rfl⟩
  · cases h

/-- A region that was carried out in the text's order. -/
structure Run (P : Program) (ops : Array Oper) (nt : Nat) (al : List AOper) (ahead : List (List Nat)) (pairs : List (Nat × Nat)) (st st' : St) (S : Nat → St) (R : Nat → Rec) (V : Nat → AV) : Prop where
  first : S 0 = st
  last : S al.length = st'
  len : ops.size = al.length
  recs : ∀ k, k < al.length → (R k).H0 = (S k).H ∧ (R k).H1 = (S (k + 1)).H ∧ (R k).nx0 = (S k).nx ∧ (R k).nx1 = (S (k + 1)).nx
  up : ∀ k, k < al.length → (S k).nx ≤ (S (k + 1)).nx
  rest : ∀ k, k < al.length → ∀ id, ¬ Touch st.nx (R k) id → (S (k + 1)).H.get id = (S k).H.get id
  env : ∀ k ao, al[k]? = some ao → ∀ t, ev (S (k + 1)).env (.t t) = if ao.dst = some t then V k else ev (S k).env (.t t)
  step : ∀ k o ao, ops[k]? = some o → al[k]? = some ao → StepOk P ops nt st.nx o ao (S k) (S (k + 1)) (R k) (V k)
  edge : ∀ (i : Nat) (o : Oper) (e : Edge), ops[i]? = some o → e ∈ o.after → Region.binds .any e = true → e.on < i
  clos : ∀ (i : Nat) (ah : List Nat) (x : Nat), ahead[i]? = some ah → x ∈ ah → ∃ (o : Oper) (e : Edge), ops[i]? = some o ∧ e ∈ o.after ∧ Region.binds .any e = true ∧ (e.on = x ∨ ∃ ah', ahead[e.on]? = some ah' ∧ x ∈ ah')
  known : ∀ k, k < al.length → ∃ ah, ahead[k]? = some ah ∧ (∀ rd, rd ∈ (R k).rds → ∀ id, (rd = .obj id ∨ ∃ r : Rng, rd = .rng r ∧ r.id = id) → id < st.nx ∨ ∃ i, i ∈ ah ∧ i < al.length ∧ (R i).nx0 ≤ id ∧ id < (R i).nx1) ∧
    (∀ l, (R k).tch = .ids l → ∀ id, id ∈ l → id < st.nx ∨ ∃ i, i ∈ ah ∧ i < al.length ∧ (R i).nx0 ≤ id ∧ id < (R i).nx1)
  /-- two of which none is ahead of the other -/
  pair : ∀ i j, i < j → j < al.length → (∃ ah, ahead[j]? = some ah ∧ i ∈ ah) ∨ ∃ a b, al[i]? = some a ∧ al[j]? = some b ∧ apartT a b = true ∧
    ((R i).tch = .ids [] ∨ ∀ rd, rd ∈ (R j).rds → still1 (R i) (R j) rd = true) ∧ ((R j).tch = .ids [] ∨ ∀ rd, rd ∈ (R i).rds → still1 (R j) (R i) rd = true) ∧ apart (R i) (R j) = true

theorem apart_nil_left {a b : Rec} (h : a.tch = .ids []) : apart a b = true := by
  unfold apart
  rw [h]
  cases b.tch <;> rfl
theorem apart_nil_right {a b : Rec} (h : b.tch = .ids []) : apart a b = true := by
  unfold apart
  rw [h]
  cases a.tch with
  | ids l => simp
  | all => rfl

theorem idOk_iff {n0 : Nat} {rs : List Rec} {ah : List Nat} {id : Nat} (h : idOk n0 rs ah id = true) : id < n0 ∨ ∃ i a, i ∈ ah ∧ rs[i]? = some a ∧ a.nx0 ≤ id ∧ id < a.nx1 := by
  simp only [idOk, Bool.or_eq_true, Nat.blt_eq, List.any_eq_true] at h
  rcases h with h | ⟨i, hi, h⟩
  · exact .inl h
  · split at h
    · rename_i a ha
      simp only [Bool.and_eq_true, Nat.ble_eq, Nat.blt_eq] at h
      exact .inr ⟨i, a, hi, ha, h.1, h.2⟩
    · cases h

theorem knownAll_at {n0 : Nat} {rs : List Rec} : ∀ {as : List (List Nat)} {l : List Rec}, knownAll n0 rs as l = true → ∀ (k : Nat) (r : Rec), l[k]? = some r → ∃ ah, as[k]? = some ah ∧ r.rds.all (rdOk n0 rs ah) = true ∧ tchOk n0 rs ah r.tch = true
  | [], [], _, k, r, h => by simp at h
  | [], _ :: _, h, _, _, _ => by cases h
  | _ :: _, [], h, _, _, _ => by cases h
  | a :: as, r0 :: l, h, k, r, hk => by
    simp only [knownAll, Bool.and_eq_true] at h
    cases k with
    | zero => simp at hk; subst hk; exact ⟨a, rfl, h.1.1, h.1.2⟩
    | succ k => simp at hk; exact knownAll_at h.2 k r hk

theorem run_of {P : Program} {ops : Array Oper} {nt : Nat} {cf : FnF} (hcf : FnOk P cf) (hup : FnUp cf) {al : List AOper} {ahead : List (List Nat)} {pairs : List (Nat × Nat)} {st st' : St} (hm : mDreg P ops al ahead pairs = true) (hd : runDreg cf nt al ahead pairs st = some st') :
    ∃ S R V, Run P ops nt al ahead pairs st st' S R V := by
  simp only [mDreg, Bool.and_eq_true, Nat.beq_eq] at hm
  obtain ⟨⟨⟨hmo, hal⟩, hme⟩, hma⟩ := hm
  obtain ⟨hlen, hmat⟩ := mOpers_at hmo
  rw [Array.length_toList] at hlen
  unfold runDreg at hd
  split at hd
  · cases hd
  · rename_i st2 rs hrun
    rw [cond_eq_ite] at hd
    split at hd
    · rename_i hchk
      cases hd
      simp only [Bool.and_eq_true] at hchk
      obtain ⟨hkn, hpr⟩ := hchk
      rw [allB_true] at hpr
      obtain ⟨S, R, s1, s2, s3, s4⟩ := trace al st st' rs hrun
      have hao : ∀ k, k < al.length → ∃ o ao, ops[k]? = some o ∧ al[k]? = some ao ∧ mOper P ops o ao = true := by
        intro k hk
        have ho : ops.toList[k]? = some ops[k] := by rw [Array.getElem?_toList, Array.getElem?_eq_getElem (by omega)]
        obtain ⟨ao, h1, h2⟩ := hmat k _ ho
        exact ⟨_, ao, Array.getElem?_eq_getElem (by omega), h1, h2⟩
      have hnx : ∀ k, k ≤ al.length → st.nx ≤ (S k).nx := by
        intro k
        induction k with
        | zero => intro _; rw [s1]; exact Nat.le_refl _
        | succ k ih =>
          intro hk
          have ih := ih (Nat.le_of_succ_le hk)
          obtain ⟨o, ao, h1, h2, h3⟩ := hao k hk
          obtain ⟨_, h4⟩ := s4 k ao h2
          exact Nat.le_trans ih (effStep_ok hcf hup h3 ih h4).2.1
      have hstep : ∀ k, k < al.length → ∃ v, ∀ o ao, ops[k]? = some o → al[k]? = some ao → (∀ t, ev (S (k + 1)).env (.t t) = if ao.dst = some t then v else ev (S k).env (.t t)) ∧ StepOk P ops nt st.nx o ao (S k) (S (k + 1)) (R k) v := by
        intro k hk
        obtain ⟨o, ao, h1, h2, h3⟩ := hao k hk
        obtain ⟨_, h4⟩ := s4 k ao h2
        obtain ⟨_, _, _, _, _, v, h5, h6⟩ := effStep_ok hcf hup h3 (hnx k (Nat.le_of_lt hk)) h4
        refine ⟨v, fun o' ao' h1' h2' => ?_⟩
        rw [h1] at h1'
        rw [h2] at h2'
        cases h1'
        cases h2'
        exact ⟨h5, h6⟩
      refine ⟨S, R, fun k => if hk : k < al.length then Classical.choose (hstep k hk) else undefA, ⟨s1, s2, hlen, fun k hk => ?_, fun k hk => ?_, fun k hk => ?_, fun k ao hao' => ?_, fun k o ao ho hao' => ?_, fun i o e hi he hb => ?_, fun i ah x hi hx => ?_, fun k hk => ?_, fun i j hij hj => ?_⟩⟩
      · obtain ⟨o, ao, h1, h2, h3⟩ := hao k hk
        exact (effStep_ok hcf hup h3 (hnx k (Nat.le_of_lt hk)) (s4 k ao h2).2).1
      · obtain ⟨o, ao, h1, h2, h3⟩ := hao k hk
        exact (effStep_ok hcf hup h3 (hnx k (Nat.le_of_lt hk)) (s4 k ao h2).2).2.1
      · obtain ⟨o, ao, h1, h2, h3⟩ := hao k hk
        exact (effStep_ok hcf hup h3 (hnx k (Nat.le_of_lt hk)) (s4 k ao h2).2).2.2.1
      · have hk : k < al.length := (List.getElem?_eq_some_iff.1 hao').1
        rw [dif_pos hk]
        obtain ⟨o, ao2, h1, h2, h3⟩ := hao k hk
        exact (Classical.choose_spec (hstep k hk) o ao h1 hao').1
      · have hk : k < al.length := (List.getElem?_eq_some_iff.1 hao').1
        rw [dif_pos hk]
        exact (Classical.choose_spec (hstep k hk) o ao ho hao').2
      · have hio : i < ops.size := (Array.getElem?_eq_some_iff.1 hi).1
        simp only [mEdges, List.all_eq_true, List.mem_range] at hme
        have := hme i hio
        rw [hi] at this
        simp only at this
        split at this
        · cases this
        · simp only [Bool.and_eq_true, List.all_eq_true] at this
          have h1 := this.1 e (Array.mem_toList_iff.2 he)
          rw [hb] at h1
          simpa [Nat.blt_eq] using h1
      · have hia : i < ahead.length := (List.getElem?_eq_some_iff.1 hi).1
        have hio : i < ops.size := by omega
        simp only [mEdges, List.all_eq_true, List.mem_range] at hme
        have := hme i hio
        rw [Array.getElem?_eq_getElem hio, hi] at this
        simp only [Bool.and_eq_true, List.all_eq_true, List.any_eq_true, Bool.or_eq_true, Nat.beq_eq] at this
        obtain ⟨e, he1, he2, he3⟩ := this.2 x hx
        refine ⟨_, e, Array.getElem?_eq_getElem hio, Array.mem_toList_iff.1 he1, he2, ?_⟩
        rcases he3 with he3 | he3
        · exact .inl he3
        · split at he3
          · rename_i ah' hah'
            exact .inr ⟨ah', hah', hasN_iff.1 he3⟩
          · cases he3
      · obtain ⟨o, ao, h1, h2, h3⟩ := hao k hk
        obtain ⟨h4, _⟩ := s4 k ao h2
        obtain ⟨ah, h5, h6, h7⟩ := knownAll_at hkn k _ h4
        have conv : ∀ id, idOk st.nx rs ah id = true → id < st.nx ∨ ∃ i, i ∈ ah ∧ i < al.length ∧ (R i).nx0 ≤ id ∧ id < (R i).nx1 := by
          intro id hid
          rcases idOk_iff hid with h8 | ⟨i, a, q1, q2, q3, q4⟩
          · exact .inl h8
          · have hi : i < al.length := by rw [← s3]; exact (List.getElem?_eq_some_iff.1 q2).1
            obtain ⟨_, ao', _, h9, _⟩ := hao i hi
            obtain ⟨h10, _⟩ := s4 i ao' h9
            rw [q2] at h10
            cases h10
            exact .inr ⟨i, q1, hi, q3, q4⟩
        rw [List.all_eq_true] at h6
        refine ⟨ah, h5, fun rd hrd id hid => ?_, fun l hl id hid => ?_⟩
        · have h8 := h6 rd hrd
          rcases hid with rfl | ⟨r, rfl, rfl⟩
          · exact conv _ h8
          · exact conv _ h8
        · rw [hl] at h7
          simp only [tchOk, List.all_eq_true] at h7
          exact conv _ (h7 id hid)
      · simp only [mAll, List.all_eq_true, List.mem_range] at hma
        have := hma j hj i hij
        split at this
        · cases this
        · rename_i ah hah
          simp only [Bool.or_eq_true] at this
          rcases this with h1 | h1
          · exact .inl ⟨ah, hah, hasN_iff.1 h1⟩
          · right
            obtain ⟨oi, ai, p1, p2, p3⟩ := hao i (by omega)
            obtain ⟨oj, aj, r1, r2, r3⟩ := hao j hj
            rw [p2, r2] at h1
            simp only [mPair, Bool.and_eq_true, Bool.or_eq_true] at h1
            obtain ⟨h2, h3⟩ := h1
            have e1 := effStep_ok hcf hup p3 (hnx i (by omega)) (s4 i ai p2).2
            have e2 := effStep_ok hcf hup r3 (hnx j (by omega)) (s4 j aj r2).2
            refine ⟨ai, aj, p2, r2, h2, ?_⟩
            rcases h3 with ((h3 | h3) | h3) | h3
            · obtain ⟨q1, q2⟩ := e1.2.2.2.1 h3
              exact ⟨.inl q2, .inr (by rw [q1]; intro rd hrd; cases hrd), apart_nil_left q2⟩
            · obtain ⟨q1, q2⟩ := e2.2.2.2.1 h3
              exact ⟨.inr (by rw [q1]; intro rd hrd; cases hrd), .inl q2, apart_nil_right q2⟩
            · have q1 := e1.2.2.2.2.1 h3.1
              have q2 := e2.2.2.2.2.1 h3.2
              exact ⟨.inl q1, .inl q2, apart_nil_left q1⟩
            · rw [List.any_eq_true] at h3
              obtain ⟨p, hp1, hp2⟩ := h3
              simp only [Bool.and_eq_true, Nat.beq_eq] at hp2
              have h4 := hpr p hp1
              unfold pairOk at h4
              rw [hp2.1, hp2.2, (s4 i ai p2).1, (s4 j aj r2).1] at h4
              simp only [Bool.and_eq_true, still, allB_true] at h4
              exact ⟨.inr h4.1.1, .inr h4.1.2, h4.2⟩
    · cases hd
end Go.Ax
