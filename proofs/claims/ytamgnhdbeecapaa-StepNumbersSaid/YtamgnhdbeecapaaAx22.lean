/- Regions of open order: every order comes to the same. -/
import Derived.Test.YtamgnhdbeecapaaAx21
set_option linter.unusedSimpArgs false
set_option linter.unusedVariables false
namespace Go.Ax
open Classical

def Wr (al : List AOper) (k t : Nat) : Prop := ∃ ao, al[k]? = some ao ∧ ao.dst = some t
def Ah (ahead : List (List Nat)) (j i : Nat) : Prop := ∃ ah, ahead[j]? = some ah ∧ i ∈ ah
/-- what has to be done before i is done -/
def Fed (ops : Array Oper) (L : Nat → Bool) (i : Nat) : Prop := ∀ (o : Oper) (e : Edge), ops[i]? = some o → e ∈ o.after → Region.binds .any e = true → L e.on = true

section
variable {P : Program} {ops : Array Oper} {nt : Nat} {al : List AOper} {ahead : List (List Nat)} {pairs : List (Nat × Nat)} {st st' : St} {S : Nat → St} {R : Nat → Rec} {V : Nat → AV}

theorem Run.fed (hr : Run P ops nt al ahead pairs st st' S R V) {L : Nat → Bool} (hL : ∀ i, L i = true → Fed ops L i) : ∀ (i x : Nat), Fed ops L i → Ah ahead i x → L x = true := by
  intro i
  induction i using Nat.strongRecOn with
  | _ i ih =>
    rintro x hf ⟨ah, h1, h2⟩
    obtain ⟨o, e, ho, he, hb, h3⟩ := hr.clos i ah x h1 h2
    have hLe := hf o e ho he hb
    rcases h3 with rfl | ⟨ah', h4, h5⟩
    · exact hLe
    · exact ih e.on (hr.edge i o e ho he hb) x (hL _ hLe) ⟨ah', h4, h5⟩
theorem Run.lt (hr : Run P ops nt al ahead pairs st st' S R V) : ∀ (i x : Nat), Ah ahead i x → x < i := by
  intro i
  induction i using Nat.strongRecOn with
  | _ i ih =>
    rintro x ⟨ah, h1, h2⟩
    obtain ⟨o, e, ho, he, hb, h3⟩ := hr.clos i ah x h1 h2
    have hlt := hr.edge i o e ho he hb
    rcases h3 with rfl | ⟨ah', h4, h5⟩
    · exact hlt
    · exact Nat.lt_trans (ih e.on hlt x ⟨ah', h4, h5⟩) hlt

theorem Run.mono (hr : Run P ops nt al ahead pairs st st' S R V) : ∀ (j i : Nat), i ≤ j → j ≤ al.length → (S i).nx ≤ (S j).nx := by
  intro j
  induction j with
  | zero => intro i hi _; rw [Nat.le_zero.1 hi]; exact Nat.le_refl _
  | succ j ih =>
    intro i hi hj
    rcases Nat.lt_or_ge i (j + 1) with h | h
    · exact Nat.le_trans (ih i (by omega) (by omega)) (hr.up j (by omega))
    · rw [show i = j + 1 by omega]; exact Nat.le_refl _
theorem Run.base (hr : Run P ops nt al ahead pairs st st' S R V) (j : Nat) (hj : j ≤ al.length) : st.nx ≤ (S j).nx := by
  have := hr.mono j 0 (Nat.zero_le _) hj
  rwa [hr.first] at this

/-- the numbers that an operation gives -/
def New (R : Nat → Rec) (k id : Nat) : Prop := (R k).nx0 ≤ id ∧ id < (R k).nx1
theorem Run.new_one (hr : Run P ops nt al ahead pairs st st' S R V) {i k id : Nat} (hi : i < al.length) (hk : k < al.length) (h1 : New R i id) (h2 : New R k id) : i = k := by
  have key : ∀ {i k : Nat}, k < al.length → New R i id → New R k id → i < al.length → ¬ i < k := by
    intro i k hk h1 h2 hi hlt
    obtain ⟨_, _, e1, e2⟩ := hr.recs i hi
    obtain ⟨_, _, e3, e4⟩ := hr.recs k hk
    have := hr.mono k (i + 1) hlt (Nat.le_of_lt hk)
    have a := h1.2
    have b := h2.1
    rw [e2] at a
    rw [e3] at b
    omega
  have a := key hk h1 h2 hi
  have b := key hi h2 h1 hk
  omega
theorem Run.new_ge (hr : Run P ops nt al ahead pairs st st' S R V) {k id : Nat} (hk : k < al.length) (h : New R k id) : st.nx ≤ id := by
  obtain ⟨_, _, e1, _⟩ := hr.recs k hk
  have := hr.base k (Nat.le_of_lt hk)
  have a := h.1
  rw [e1] at a
  omega

noncomputable def hS (st : St) (S : Nat → St) (R : Nat → Rec) (n : Nat) (L : Nat → Bool) : HeapF := lastW (fun k id => Touch st.nx (R k) id) st.H.get (fun k id => (S (k + 1)).H.get id) L n
noncomputable def eS (st : St) (S : Nat → St) (al : List AOper) (L : Nat → Bool) : Nat → AV := lastW (fun k t => Wr al k t) (fun t => ev st.env (.t t)) (fun k t => ev (S (k + 1)).env (.t t)) L al.length

theorem Run.hz (hr : Run P ops nt al ahead pairs st st' S R V) : ∀ k, k < al.length → ∀ id, (S (k + 1)).H.get id = if Touch st.nx (R k) id then (S (k + 1)).H.get id else (S k).H.get id := by
  intro k hk id
  by_cases h : Touch st.nx (R k) id
  · rw [if_pos h]
  · rw [if_neg h]; exact hr.rest k hk id h
theorem Run.ez (hr : Run P ops nt al ahead pairs st st' S R V) : ∀ k, k < al.length → ∀ t, ev (S (k + 1)).env (.t t) = if Wr al k t then ev (S (k + 1)).env (.t t) else ev (S k).env (.t t) := by
  intro k hk t
  by_cases h : Wr al k t
  · rw [if_pos h]
  · rw [if_neg h]
    have ha : al[k]? = some al[k] := List.getElem?_eq_getElem hk
    rw [hr.env k _ ha t, if_neg (fun hd => h ⟨_, ha, hd⟩)]

/-- two of which none is ahead of the other, in either order -/
theorem Run.free (hr : Run P ops nt al ahead pairs st st' S R V) {j k : Nat} (hj : j < al.length) (hk : k < al.length) (hne : k ≠ j) (h1 : ¬ Ah ahead j k) (h2 : ¬ Ah ahead k j) :
    ((R k).tch = .ids [] ∨ ∀ rd, rd ∈ (R j).rds → still1 (R k) (R j) rd = true) ∧ (∀ id, ¬ ((match (R j).tch with | .ids l => id ∈ l | .all => id < st.nx) ∧ (match (R k).tch with | .ids l => id ∈ l | .all => id < st.nx))) ∧
    ∃ a b, al[k]? = some a ∧ al[j]? = some b ∧ (∀ d, a.dst = some d → d ∉ b.sees) ∧ (∀ d, b.dst = some d → d ∉ a.sees) ∧ (∀ d, a.dst = some d → b.dst ≠ some d) := by
  have apart_spec : ∀ {x y : Rec}, apart x y = true → ∀ id, ¬ ((match x.tch with | .ids l => id ∈ l | .all => id < st.nx) ∧ (match y.tch with | .ids l => id ∈ l | .all => id < st.nx)) := by
    intro x y h id ⟨q1, q2⟩
    unfold apart at h
    split at h
    · rename_i l l' e1 e2
      rw [e1] at q1
      rw [e2] at q2
      rw [List.all_eq_true] at h
      have := h id q1
      simp at this
      exact this q2
    · rename_i e1 e2
      rw [e2] at q2
      cases q2
    · rename_i e1 e2
      rw [e1] at q1
      cases q1
    · cases h
  have apartT_spec : ∀ {a b : AOper}, apartT a b = true → (∀ d, a.dst = some d → d ∉ b.sees) ∧ (∀ d, b.dst = some d → d ∉ a.sees) ∧ (∀ d, a.dst = some d → b.dst ≠ some d) := by
    intro a b h
    simp only [apartT, Bool.and_eq_true] at h
    refine ⟨fun d hd hm => ?_, fun d hd hm => ?_, fun d hd he => ?_⟩
    · rw [hd] at h
      simp only [Bool.and_eq_true, Bool.not_eq_true'] at h
      rw [hasN_iff.2 hm] at h
      cases h.1.1
    · rw [hd] at h
      have h2 := h.2
      simp only [Bool.not_eq_true'] at h2
      rw [hasN_iff.2 hm] at h2
      cases h2
    · rw [hd, he] at h
      have h2 := h.1
      simp only [Bool.and_eq_true, Bool.not_eq_true'] at h2
      have h3 := h2.2
      rw [show Nat.beq d d = true by rw [Nat.beq_eq]] at h3
      cases h3
  rcases Nat.lt_or_ge k j with hlt | hge
  · rcases hr.pair k j hlt hj with h | ⟨a, b, q1, q2, q3, q4, q5, q6⟩
    · exact absurd h h1
    · refine ⟨q4, fun id h => apart_spec q6 id ⟨h.2, h.1⟩, a, b, q1, q2, apartT_spec q3⟩
  · rcases hr.pair j k (by omega) hk with h | ⟨b, a, q1, q2, q3, q4, q5, q6⟩
    · exact absurd h h2
    · obtain ⟨r1, r2, r3⟩ := apartT_spec q3
      exact ⟨q5, apart_spec q6, a, b, q2, q1, r2, r1, fun d hd hb => r3 d hb hd⟩

/-- WHAT AN OPERATION LOOKS AT stands as it stood in the text's order. -/
theorem Run.agree (hr : Run P ops nt al ahead pairs st st' S R V) {L : Nat → Bool} (hL : ∀ i, L i = true → Fed ops L i) {j : Nat} (hj : j < al.length) (hLj : L j = false) (hfed : Fed ops L j) :
    (∀ rd, rd ∈ (R j).rds → AgreeRd st.nx (hS st S R al.length L) (S j).H.get rd) ∧ ∀ ao, al[j]? = some ao → ∀ t, t ∈ ao.sees → eS st S al L t = ev (S j).env (.t t) := by
  have hahead : ∀ k, Ah ahead j k → k < j ∧ L k = true := fun k h => ⟨hr.lt j k h, hr.fed hL j k hfed h⟩
  have hfree : ∀ k, k < al.length → k ≠ j → ¬ Ah ahead j k → (L k = true ∨ k < j) → ¬ Ah ahead k j := by
    intro k hk hne h1 h2 h3
    have := hr.lt k j h3
    rcases h2 with h2 | h2
    · rw [hr.fed hL k j (hL k h2) h3] at hLj; cases hLj
    · omega
  obtain ⟨ahj, hahj, hknow, _⟩ := hr.known j hj
  refine ⟨fun rd hrd => ?_, fun ao hao t ht => ?_⟩
  · have main : ∀ (id : Nat) {β : Type} (f : Option AObj → β), (∀ k, k < al.length → k ≠ j → ¬ Ah ahead j k → New R k id → False) →
        (∀ k, k < al.length → k ≠ j → (match (R k).tch with | .ids l => id ∈ l | .all => id < st.nx) → ((R k).tch = .ids [] ∨ ∀ rd, rd ∈ (R j).rds → still1 (R k) (R j) rd = true) → f ((S k).H.get id) = f ((S j).H.get id) ∧ f ((S (k + 1)).H.get id) = f ((S j).H.get id)) →
        f (hS st S R al.length L id) = f ((S j).H.get id) := by
      intro id β f hnew htch
      refine lastW_view f (fun k id => (S k).H.get id) (by funext id; rw [hr.first]) hr.hz id hj hLj (Ah ahead j) (fun k hk hne ht => ?_)
      by_cases ha : Ah ahead j k
      · exact .inl (hahead k ha)
      · right
        intro hor
        rcases ht with ht | ht
        · exact htch k hk hne ht (hr.free hj hk hne ha (hfree k hk hne ha hor)).1
        · exact (hnew k hk hne ha ht).elim
    have hnew : ∀ id, (rd = .obj id ∨ ∃ r : Rng, rd = .rng r ∧ r.id = id) → ∀ k, k < al.length → k ≠ j → ¬ Ah ahead j k → New R k id → False := by
      intro id hid k hk hne ha hn
      rcases hknow rd hrd id hid with h | ⟨i, hi1, hi2, hi3, hi4⟩
      · have := hr.new_ge hk hn; omega
      · have := hr.new_one hi2 hk ⟨hi3, hi4⟩ hn
        subst this
        exact ha ⟨ahj, hahj, hi1⟩
    cases rd with
    | rng r =>
      refine main r.id (fun ob => match ob with | some (.row g cells) => bif Nat.beq g r.g then cut cells r.off r.len else none | _ => none) (hnew r.id (.inr ⟨r, rfl, rfl⟩)) (fun k hk hne ht hs => ?_)
      rcases hs with hs | hs
      · rw [hs] at ht; cases ht
      · have h1 := hs _ hrd
        simp only [still1] at h1
        obtain ⟨e1, e2, _, _⟩ := hr.recs k hk
        obtain ⟨e3, _, _, _⟩ := hr.recs j hj
        have fin : same3 (R k).H0 (R k).H1 (R j).H0 r = true → _ := fun h => by
          have h2 := same3_eq h
          rw [e1, e2, e3] at h2
          exact h2
        split at h1
        · rename_i l hl
          rw [hl] at ht
          rw [cond_eq_ite, if_pos (by simpa using ht)] at h1
          exact fin h1
        · exact fin h1
    | obj id =>
      refine main id (fun ob => ob) (hnew id (.inl rfl)) (fun k hk hne ht hs => ?_)
      exfalso
      rcases hs with hs | hs
      · rw [hs] at ht; cases ht
      · have h1 := hs _ hrd
        simp only [still1] at h1
        split at h1
        · rename_i l hl
          rw [hl] at ht
          simp at h1
          exact h1 ht
        · cases h1
    | all =>
      intro id hid
      refine main id (fun ob => ob) (fun k hk hne ha hn => by have := hr.new_ge hk hn; omega) (fun k hk hne ht hs => ?_)
      exfalso
      rcases hs with hs | hs
      · rw [hs] at ht; cases ht
      · have h1 := hs _ hrd
        simp only [still1] at h1
        split at h1
        · rename_i hl
          rw [hl] at ht
          cases ht
        · cases h1
  · refine lastW_view (fun v => v) (fun k t => ev (S k).env (.t t)) (by funext t; rw [hr.first]) hr.ez t hj hLj (Ah ahead j) (fun k hk hne hw => ?_)
    by_cases ha : Ah ahead j k
    · exact .inl (hahead k ha)
    · right
      intro hor
      exfalso
      obtain ⟨_, _, a, b, q1, q2, q3, _⟩ := hr.free hj hk hne ha (hfree k hk hne ha hor)
      obtain ⟨a', h1, h2⟩ := hw
      rw [q1] at h1
      cases h1
      rw [hao] at q2
      cases q2
      exact q3 t h2 ht

/-- WHAT IT LEAVES is what stands when it is done, too. -/
theorem Run.put (hr : Run P ops nt al ahead pairs st st' S R V) {L L' : Nat → Bool} (hL : ∀ i, L i = true → Fed ops L i) {j : Nat} (hj : j < al.length) (hLj : L j = false) (hfed : Fed ops L j) (hj1 : L' j = true) (hj2 : ∀ k, k ≠ j → L' k = L k) :
    (hS st S R al.length L' = fun id => if Touch st.nx (R j) id then (S (j + 1)).H.get id else hS st S R al.length L id) ∧ ∀ ao, al[j]? = some ao → eS st S al L' = putF (eS st S al L) ao.dst (V j) := by
  have hno : ∀ k, j < k → L k = true → ¬ Ah ahead j k ∧ ¬ Ah ahead k j := fun k hk hLk => ⟨fun h => by have := hr.lt j k h; omega, fun h => by rw [hr.fed hL k j (hL k hLk) h] at hLj; cases hLj⟩
  refine ⟨funext fun id => ?_, fun ao hao => funext fun t => ?_⟩
  · refine lastW_put hj hLj hj1 hj2 id (fun ht k hjk hk hLk htk => ?_)
    obtain ⟨n1, n2⟩ := hno k hjk hLk
    obtain ⟨_, hap, _⟩ := hr.free hj hk (by omega) n1 n2
    obtain ⟨ahj, hahj, _, hkj⟩ := hr.known j hj
    obtain ⟨ahk, hahk, _, hkk⟩ := hr.known k hk
    have old : ∀ {m : Nat} {ahm : List Nat}, ahead[m]? = some ahm → (∀ l, (R m).tch = .ids l → ∀ id, id ∈ l → id < st.nx ∨ ∃ i, i ∈ ahm ∧ i < al.length ∧ (R i).nx0 ≤ id ∧ id < (R i).nx1) → (match (R m).tch with | .ids l => id ∈ l | .all => id < st.nx) → ∀ p, p < al.length → New R p id → Ah ahead m p := by
      intro m ahm hm hk1 ht1 p hp hn
      have hge := hr.new_ge hp hn
      cases htm : (R m).tch with
      | all => rw [htm] at ht1; have ht1' : id < st.nx := ht1; omega
      | ids l =>
        rw [htm] at ht1
        rcases hk1 l htm id ht1 with h | ⟨i, hi1, hi2, hi3, hi4⟩
        · omega
        · have := hr.new_one hi2 hp ⟨hi3, hi4⟩ hn
          subst this
          exact ⟨ahm, hm, hi1⟩
    rcases ht with ht | ht
    · rcases htk with htk | htk
      · exact hap id ⟨ht, htk⟩
      · exact n1 (old hahj hkj ht k hk htk)
    · rcases htk with htk | htk
      · exact n2 (old hahk hkk htk j hj ht)
      · have := hr.new_one hj hk ht htk; omega
  · have h1 := lastW_put (T := fun k t => Wr al k t) (x0 := fun t => ev st.env (.t t)) (y := fun k t => ev (S (k + 1)).env (.t t)) hj hLj hj1 hj2 t (fun ht k hjk hk hLk htk => by
      obtain ⟨n1, n2⟩ := hno k hjk hLk
      obtain ⟨_, _, a, b, q1, q2, _, _, q3⟩ := hr.free hj hk (by omega) n1 n2
      obtain ⟨a', h1, h2⟩ := htk
      obtain ⟨b', h3, h4⟩ := ht
      rw [q1] at h1
      cases h1
      rw [q2] at h3
      cases h3
      exact q3 t h2 h4)
    show lastW _ _ _ L' al.length t = _
    rw [h1]
    simp only [putF]
    by_cases hd : ao.dst = some t
    · rw [if_pos ⟨ao, hao, hd⟩, if_pos hd, hr.env j ao hao t, if_pos hd]
    · rw [if_neg (fun ⟨ao', h1, h2⟩ => hd (by rw [hao] at h1; cases h1; exact h2)), if_neg hd]
      rfl

theorem Run.all_done (hr : Run P ops nt al ahead pairs st st' S R V) {L : Nat → Bool} (hL : ∀ k, k < al.length → L k = true) : hS st S R al.length L = st'.H.get ∧ eS st S al L = fun t => ev st'.env (.t t) := by
  constructor
  · have h := lastW_full (T := fun k id => Touch st.nx (R k) id) (x0 := st.H.get) (y := fun k id => (S (k + 1)).H.get id) (L := L) (n := al.length) (fun k id => (S k).H.get id) (by funext id; rw [hr.first]) hr.hz hL
    show lastW _ _ _ L al.length = _
    rw [h, hr.last]
  · have h := lastW_full (T := fun k t => Wr al k t) (x0 := fun t => ev st.env (.t t)) (y := fun k t => ev (S (k + 1)).env (.t t)) (L := L) (n := al.length) (fun k t => ev (S k).env (.t t)) (by funext id; rw [hr.first]) hr.ez hL
    show lastW _ _ _ L al.length = _
    rw [h, hr.last]
end
end Go.Ax
