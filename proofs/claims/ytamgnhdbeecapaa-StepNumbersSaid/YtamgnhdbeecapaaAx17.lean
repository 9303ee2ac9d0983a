/- Regions of open order: what stands, whichever operations have been carried out; a part of the heap. -/
import Derived.Test.YtamgnhdbeecapaaAx16
set_option linter.unusedSimpArgs false
set_option linter.unusedVariables false
namespace Go.Ax

/-! ### 1. The last writer -/
section
open Classical
variable {α ι β : Type}
noncomputable def lastW (T : Nat → ι → Prop) (x0 : ι → α) (y : Nat → ι → α) (L : Nat → Bool) : Nat → ι → α
  | 0 => x0
  | k + 1 => fun i => if L k = true ∧ T k i then y k i else lastW T x0 y L k i

variable {T : Nat → ι → Prop} {x0 : ι → α} {y : Nat → ι → α} {L : Nat → Bool} {n : Nat}

theorem lastW_full (z : Nat → ι → α) (h0 : z 0 = x0) (hz : ∀ k, k < n → ∀ i, z (k + 1) i = if T k i then y k i else z k i) (hL : ∀ k, k < n → L k = true) : lastW T x0 y L n = z n := by
  induction n with
  | zero => exact h0.symm
  | succ n ih =>
    funext i
    simp only [lastW]
    rw [ih (fun k hk => hz k (Nat.lt_succ_of_lt hk)) (fun k hk => hL k (Nat.lt_succ_of_lt hk)), hz n (Nat.lt_succ_self n), hL n (Nat.lt_succ_self n)]
    simp

theorem lastW_view (f : α → β) (z : Nat → ι → α) (h0 : z 0 = x0) (hz : ∀ k, k < n → ∀ i, z (k + 1) i = if T k i then y k i else z k i) (i : ι) {j : Nat} (hj : j < n) (hLj : L j = false) (A : Nat → Prop)
    (hT : ∀ k, k < n → k ≠ j → T k i → (k < j ∧ L k = true) ∨ ((L k = true ∨ k < j) → f (z k i) = f (z j i) ∧ f (y k i) = f (z j i))) : f (lastW T x0 y L n i) = f (z j i) := by
  have key : ∀ k, k ≤ n → (k ≤ j ∧ lastW T x0 y L k i = z k i) ∨ f (lastW T x0 y L k i) = f (z j i) := by
    intro k
    induction k with
    | zero => intro _; exact .inl ⟨Nat.zero_le _, by rw [h0]; rfl⟩
    | succ k ih =>
      intro hk
      have ih := ih (Nat.le_of_succ_le hk)
      have hkn : k < n := hk
      simp only [lastW]
      by_cases hkj : k = j
      · subst hkj
        rw [if_neg (by rw [hLj]; simp)]
        rcases ih with ⟨_, h2⟩ | h2
        · exact .inr (by rw [h2])
        · exact .inr h2
      · by_cases ht : T k i
        · rcases hT k hkn hkj ht with ⟨h1, h2⟩ | h1
          · rw [if_pos ⟨h2, ht⟩]
            exact .inl ⟨by omega, by rw [hz k hkn i, if_pos ht]⟩
          · by_cases hLk : L k = true
            · rw [if_pos ⟨hLk, ht⟩]
              exact .inr (h1 (.inl hLk)).2
            · rw [if_neg (fun h => hLk h.1)]
              rcases ih with ⟨h2, h3⟩ | h3
              · exact .inr (by rw [h3]; exact (h1 (.inr (by omega))).1)
              · exact .inr h3
        · rw [if_neg (fun h => ht h.2)]
          rcases ih with ⟨h2, h3⟩ | h3
          · exact .inl ⟨by omega, by rw [h3, hz k hkn i, if_neg ht]⟩
          · exact .inr h3
  rcases key n (Nat.le_refl _) with ⟨h1, _⟩ | h1
  · omega
  · exact h1

theorem lastW_put {L' : Nat → Bool} {j : Nat} (hj : j < n) (hLj : L j = false) (hj1 : L' j = true) (hj2 : ∀ k, k ≠ j → L' k = L k) (i : ι) (h : T j i → ∀ k, j < k → k < n → L k = true → ¬ T k i) :
    lastW T x0 y L' n i = if T j i then y j i else lastW T x0 y L n i := by
  have key : ∀ m, m ≤ n → lastW T x0 y L' m i = if j < m ∧ T j i then y j i else lastW T x0 y L m i := by
    intro m
    induction m with
    | zero => intro _; simp [lastW]
    | succ m ih =>
      intro hm
      have ih := ih (Nat.le_of_succ_le hm)
      simp only [lastW]
      by_cases hmj : m = j
      · subst hmj
        by_cases ht : T m i
        · rw [if_pos ⟨hj1, ht⟩, if_pos ⟨Nat.lt_succ_self m, ht⟩]
        · rw [if_neg (fun h => ht h.2), if_neg (fun h => ht h.2), if_neg (fun h => ht h.2), ih, if_neg (fun h => ht h.2)]
      · have e := hj2 m hmj
        by_cases hc : L m = true ∧ T m i
        · rw [if_pos (by rw [e]; exact hc)]
          by_cases hjm : j < m + 1 ∧ T j i
          · exact absurd hc.2 (h hjm.2 m (by omega) hm hc.1)
          · rw [if_neg hjm, if_pos hc]
        · rw [if_neg (by rw [e]; exact hc), ih, if_neg hc]
          by_cases ht : T j i
          · by_cases hjm : j < m
            · rw [if_pos ⟨hjm, ht⟩, if_pos ⟨by omega, ht⟩]
            · rw [if_neg (fun h => hjm h.1), if_neg (fun h => by omega)]
          · rw [if_neg (fun h => ht h.2), if_neg (fun h => ht h.2)]
  rw [key n (Nat.le_refl _)]
  by_cases ht : T j i
  · rw [if_pos ⟨hj, ht⟩, if_pos ht]
  · rw [if_neg (fun h => ht h.2), if_neg ht]
end

/-! ### 2. A part of the heap -/
section
variable {top : Nat} {P : Program} {φ φ' : Phi} {K K' : Nat → Prop} {h hp hp' : HeapF} {nx nx' : Nat} {w w' : World}

theorem phi_at (s : Sim top φ K h nx w) {id : Nat} {ob : AObj} (hh : h id = some ob) : ∃ p, φ id (gen ob) = some p := by
  cases ob with
  | row g cells => obtain ⟨b, base, _, _, h1, _⟩ := s.row id g cells hh; exact ⟨_, h1⟩
  | map es => obtain ⟨b, _, _, h1, _⟩ := s.map id es hh; exact ⟨_, h1⟩

theorem goes_frame (s : Sim top φ K h nx w) (rest : Nat → Prop) [DecidablePred rest] (hr : ∀ id, rest id → hp id = none) (hn : ∀ id, ¬ rest id → hp id = h id) (g : Goes top φ K hp nx w φ' K' hp' nx' w') (ht : nx' ≤ top) :
    Goes top φ K h nx w φ' K' (fun id => if rest id then h id else hp' id) nx' w' := by
  have hsub : ∀ id ob, hp id = some ob → h id = some ob ∧ ¬ rest id := by
    intro id ob hh
    by_cases hc : rest id
    · rw [hr id hc] at hh; cases hh
    · rw [hn id hc] at hh; exact ⟨hh, hc⟩
  have hmsub : ∀ b, Mut φ hp b → Mut φ h b := fun b ⟨id, ob, base, h1, h2⟩ => ⟨id, ob, base, (hsub _ _ h1).1, h2⟩
  have hold : ∀ id ob b base, h id = some ob → φ' id (gen ob) = some (b, base) → φ id (gen ob) = some (b, base) := by
    intro id ob b base hh hp1
    obtain ⟨p, hp2⟩ := phi_at s hh
    have := g.phi _ _ _ hp2
    rw [hp1] at this
    cases this
    exact hp2
  have hnot : ∀ id ob b base, rest id → h id = some ob → φ id (gen ob) = some (b, base) → ¬ Mut φ hp b := by
    rintro id ob b base hrest hh hp1 ⟨id', ob', base', h3, h4⟩
    obtain ⟨h5, h6⟩ := hsub _ _ h3
    have := s.inj id id' ob ob' b base base' hh h5 hp1 h4
    subst this
    exact h6 hrest
  have hval : ∀ {a : AV} {v : Value}, RelV φ K w a v → RelV φ' K' w' a v := fun r => RelV.keep g.phi g.k (fun b hb => g.ext.same b (s.kin b hb).1 (fun hm => (s.kin b hb).2 (hmsub b hm))) g.ext.shape r
  refine ⟨g.phi, g.k, ⟨fun b hb => ⟨(g.sim.kin b hb).1, fun hm => ?_⟩, fun id gg cells hh => ?_, fun id es hh => ?_, fun id id' ob ob' b base base' h1 h2 p1 p2 => ?_, fun id ob hh => ?_, g.sim.new⟩,
    g.ext.mono hmsub, fun b hb => ?_, fun b hb => ?_, fun id gg p hp1 => ?_, fun id hd => ?_, g.nx⟩
  · obtain ⟨id, ob, base, h1, h2⟩ := hm
    by_cases hc : rest id
    · simp only [if_pos hc] at h1
      have h3 := hold _ _ _ _ h1 h2
      rcases g.newK b hb with h4 | h4 | h4
      · exact (s.kin b h4).2 ⟨id, ob, base, h1, h3⟩
      · exact Nat.lt_irrefl _ (Nat.lt_of_lt_of_le (place_lt s h1 h3) h4)
      · exact hnot _ _ _ _ hc h1 h3 h4
    · simp only [if_neg hc] at h1
      exact (g.sim.kin b hb).2 ⟨id, ob, base, h1, h2⟩
  · by_cases hc : rest id
    · simp only [if_pos hc] at hh
      obtain ⟨b, base, c, e, q1, q2, q3, q4⟩ := s.row id gg cells hh
      refine ⟨b, base, c, e, g.phi _ _ _ q1, ?_, q3, fun j a ha => ⟨(q4 j a ha).1, let ⟨v, a1, a2⟩ := (q4 j a ha).2; ⟨v, a1, hval a2⟩⟩⟩
      rw [g.ext.same b (Array.getElem?_eq_some_iff.1 q2).1 (hnot id _ b base hc hh (by simpa [gen] using q1))]
      exact q2
    · simp only [if_neg hc] at hh
      exact g.sim.row id gg cells hh
  · by_cases hc : rest id
    · simp only [if_pos hc] at hh
      obtain ⟨b, mes, clk, q1, q2, q3, q4⟩ := s.map id es hh
      refine ⟨b, mes, clk, g.phi _ _ _ q1, ?_, q3, fun j k v hj => let ⟨me, m1, m2, m3⟩ := q4 j k v hj; ⟨me, m1, hval m2, hval m3⟩⟩
      rw [g.ext.same b (Array.getElem?_eq_some_iff.1 q2).1 (hnot id _ b 0 hc hh (by simpa [gen] using q1))]
      exact q2
    · simp only [if_neg hc] at hh
      exact g.sim.map id es hh
  · have mixed : ∀ id id' ob ob' b base base', rest id → ¬ rest id' → h id = some ob → hp' id' = some ob' → φ' id (gen ob) = some (b, base) → φ' id' (gen ob') = some (b, base') → False := by
      intro id id' ob ob' b base base' hc hc' h1 h2 p1 p2
      have p3 := hold _ _ _ _ h1 p1
      rcases g.mu b ⟨id', ob', base', h2, p2⟩ with h4 | h4
      · exact hnot _ _ _ _ hc h1 p3 h4
      · exact Nat.lt_irrefl _ (Nat.lt_of_lt_of_le (place_lt s h1 p3) h4)
    by_cases hc : rest id
    · by_cases hc' : rest id'
      · simp only [if_pos hc] at h1
        simp only [if_pos hc'] at h2
        exact s.inj id id' ob ob' b base base' h1 h2 (hold _ _ _ _ h1 p1) (hold _ _ _ _ h2 p2)
      · simp only [if_pos hc] at h1
        simp only [if_neg hc'] at h2
        exact (mixed _ _ _ _ _ _ _ hc hc' h1 h2 p1 p2).elim
    · by_cases hc' : rest id'
      · simp only [if_neg hc] at h1
        simp only [if_pos hc'] at h2
        exact (mixed _ _ _ _ _ _ _ hc' hc h2 h1 p2 p1).elim
      · simp only [if_neg hc] at h1
        simp only [if_neg hc'] at h2
        exact g.sim.inj id id' ob ob' b base base' h1 h2 p1 p2
  · have hnx := g.nx
    by_cases hc : rest id
    · simp only [if_pos hc] at hh
      have hl := s.low id ob hh
      refine ⟨fun hx => hl.1 (by omega), fun gg hgg => ?_⟩
      cases hq : φ' id gg with
      | none => rfl
      | some p =>
        exfalso
        rcases g.fr id gg p hq with h4 | h4 | h4
        · rw [hl.2 gg hgg] at h4; cases h4
        · exact hl.1 (by omega)
        · rw [hr id hc] at h4; cases h4
    · simp only [if_neg hc] at hh
      exact g.sim.low id ob hh
  · obtain ⟨id, ob, base, h1, h2⟩ := hb
    by_cases hc : rest id
    · simp only [if_pos hc] at h1
      exact .inl ⟨id, ob, base, h1, hold _ _ _ _ h1 h2⟩
    · simp only [if_neg hc] at h1
      exact (g.mu b ⟨id, ob, base, h1, h2⟩).imp (hmsub b) (fun h => h)
  · exact (g.newK b hb).imp (fun h => h) (Or.imp (fun h => h) (hmsub b))
  · rcases g.fr id gg p hp1 with h4 | h4 | h4
    · exact .inl h4
    · exact .inr (.inl h4)
    · cases hq : hp id with
      | none => rw [hq] at h4; cases h4
      | some ob => rw [(hsub id ob hq).1]; exact .inr (.inr rfl)
  · by_cases hc : rest id
    · simp only [if_pos hc] at hd
      exact .inl hd
    · simp only [if_neg hc] at hd
      rcases g.dom id hd with h4 | h4
      · cases hq : hp id with
        | none => rw [hq] at h4; cases h4
        | some ob => rw [(hsub id ob hq).1]; exact .inl rfl
      · exact .inr h4
end
end Go.Ax
