/- Slicing, making; numbers, strings; calls. -/
import Derived.Test.YtamgnhdbeecapaaV8
set_option linter.unusedSimpArgs false
set_option linter.unusedVariables false
namespace Go.Ax.V

section
variable {prog : Map AFunc} {cf : FnF} {nt : Nat} {A : Tok} {V : VSt} {st : St} {d : Option Nat} {g : G} {k : VSt → Prop}

/-- a bound that is told, and the operand that bears it -/
def BdR (e : Env) (x : Option Opd) (v : Option TV) : Prop := match x with | none => v = none | some x => ∃ u, v = some u ∧ Can u (ev e x)
theorem bnd_can {e : Env} {x : Option Opd} {v : Option TV} (h : BdR e x v) {other y r : Nat} (hb : bdT v other y = some r) : bnd (ev e) x other y = some r := by
  cases x with
  | none => cases h; exact hb
  | some x =>
    obtain ⟨u, rfl, hc⟩ := h
    cases u <;> first | (cases hb; done) | skip
    generalize he : ev e x = p at hc
    cases hc
    simp only [bnd, he]; exact hb
theorem bds_can {e : Env} {lo hi : Option Opd} {l h : Option TV} (hl : BdR e lo l) (hh : BdR e hi h) {n a b : Nat} (hb : bdsT l h n = some (a, b)) : bnds (ev e) lo hi none n n = some (a, b, n) ∧ a ≤ b ∧ b ≤ n := by
  unfold bdsT at hb
  split at hb
  · cases hb
  rename_i b' h1
  split at hb
  · cases hb
  rename_i a' h2
  cases hb
  have le : ∀ {x : Option TV} {o y r : Nat}, bdT x o y = some r → o ≤ y → r ≤ y := fun {x o y r} hb ho => by
    unfold bdT at hb
    split at hb
    · cases hb; exact ho
    · exact (bdA_some hb).2
    · cases hb
  refine ⟨?_, le h2 (Nat.zero_le _), le h1 (Nat.le_refl _)⟩
  have e0 : bnd (ev e) none n n = some n := rfl
  simp only [bnds, e0, bnd_can hh h1, bnd_can hl h2]
theorem ordT_bd (h : R A V st) (ha : act g) {x : Option Opd} {k : Option TV → Prop} (hk : ordT V g x k) : ∃ v, k v ∧ BdR st.env x v := by
  obtain ⟨v, h1, h2⟩ := ordT_sim h ha hk
  exact ⟨v, h1, by cases x <;> exact h2⟩
theorem el_sub {sz : Nat} {es : List TV} {cs : List AV} (h : ElR sz es cs) {a b : Nat} (hab : a ≤ b) (hb : b ≤ es.length) : ElR sz ((es.drop a).take (b - a)) ((cs.drop (a * sz)).take ((b - a) * sz)) := by
  have h1 : a * sz + (b - a) * sz = b * sz := by rw [← Nat.add_mul]; congr 1; omega
  have h2 : b * sz ≤ es.length * sz := Nat.mul_le_mul_right sz hb
  have hl := h.len
  refine ⟨by simp only [List.length_take, List.length_drop]; rw [Nat.min_eq_left (by omega), Nat.min_eq_left (by omega)], flat_take h.flat _ _, fun j e hj => ?_⟩
  rw [seg_get] at hj
  split at hj
  · rename_i hlt
    have h3 := mul_lt_seg (z := sz) hlt
    have : ((((cs.drop (a * sz)).take ((b - a) * sz)).drop (j * sz)).take sz) = (cs.drop ((a + j) * sz)).take sz := by
      rw [List.drop_take, List.take_take, List.drop_drop, Nat.min_eq_left (by omega), Nat.add_mul]
    rw [this]; exact h.el _ e hj
  · cases hj
theorem const0 {x : Option Opd} (h : isConst0 x = true) : ∃ k, x = some (.c (.int k (.ofNat 0))) := by
  unfold isConst0 at h
  split at h
  · exact ⟨_, rfl⟩
  · cases h
def capA (mx : Option Opd) (c : Option Nat) (m a : Nat) : Option Nat := match mx with
  | some _ => some (m - a)
  | none => match c with
    | some c => some (c - a)
    | none => none
theorem slA_imm {es n a b m : Nat} {ρ : Opd → AV} {cs cs' : List AV} {lo hi mx : Option Opd} {c : Option Nat} (q1 : n * es = cs.length) (hb : bnds ρ lo hi mx n n = some (a, b, m)) (q2 : cut cs (a * es) ((b - a) * es) = some cs') :
    slA es ρ (.imm cs n c) lo hi mx = some (.imm cs' (b - a) (capA mx c m a)) := by
  have h1 : Nat.beq (Nat.mul n es) cs.length = true := by simpa using q1
  have h2 : cut cs (Nat.mul a es) (Nat.mul (Nat.sub b a) es) = some cs' := q2
  simp only [slA, h1, hb, h2, cond_true]
  cases mx <;> cases c <;> rfl
theorem o_slsl (hR : R A V st) (ha : act g) {es : Nat} {x : Opd} {lo hi mx : Option Opd} (h : rdK V g x fun w => evSlsl nt V d g es w lo hi mx k) : Sim cf nt A V st d (.slsl es x lo hi mx) k := by
  obtain ⟨w, hw, hk⟩ := rdK_sim hR ha h
  have hz := (pos_ok hk).1
  replace hk := (pos_ok hk).2
  clear h
  have hkind : kind (.slsl es x lo hi mx) = .plan fun ρ => pureO (slA es ρ (ρ x) lo hi mx) := rfl
  generalize he : ev st.env x = p at hw
  have fin : ∀ {v : AV}, slA es (ev st.env) p lo hi mx = some v → Next nt A V st d v st.H st.nx k → Sim cf nt A V st d (.slsl es x lo hi mx) k :=
    fun h1 h2 => sim_val hkind (by rw [he, h1]; rfl) h2
  cases hw with
  | @sl O _ hO =>
    dsimp only at hk
    split at hk
    rotate_left
    · cases hk
    rename_i z xs ho
    split at hk
    rotate_left
    · cases hk
    split at hk
    rotate_left
    · cases hk
    obtain ⟨rfl, hk2⟩ := same_ok hk
    obtain ⟨l, ⟨m, h1, h2⟩, hl⟩ := ordT_bd (g := none) hR trivial hk2
    obtain ⟨y, hy, hs⟩ := hR.heap O _ ho
    rw [hO] at hy; cases hy
    have hm : m ≤ xs.length := by
      unfold bdT at h1
      split at h1
      · cases h1; exact Nat.zero_le _
      · exact (bdA_some h1).2
      · cases h1
    have hb : bnds (ev st.env) lo none none xs.length xs.length = some (m, xs.length, xs.length) := by
      have e0 : ∀ n, bnd (ev st.env) none n xs.length = some n := fun _ => rfl
      simp only [bnds, e0, bnd_can hl h1]
    have nxt : ∀ {a : AV}, a.one = true → SlR st.H z (xs.drop m) a → (∀ id, idOf a = some id → idOf p = some id) → Next nt A V st d a st.H st.nx k := fun {a} h3 h4 h5 =>
      newV_next (a := a) (nx' := st.nx) (hR.dropO O) (sub_dropO V O).H h2 (Nat.le_refl _) hR.fresh (fun _ _ => rfl) (fun _ _ _ => rfl) (fun A' _ => h4) h3
        (fun id hi => ⟨gone_dropO hR ho hO (h5 id hi), .inl ⟨O, _, _, ho, hO, h5 id hi⟩⟩) (fun A' O hO => .sl hO)
    rcases hs.2 with ⟨rfl, rfl | rfl⟩ | ⟨id, gg, b, cells, rfl, hH, hbl, hE⟩
    · simp at hm; subst hm
      exact fin (by simp only [slA]; simp only [List.length_nil] at hb; rw [hb]) (nxt rfl ⟨hz, .inl ⟨by simp, .inl rfl⟩⟩ (fun id hi => hi))
    · simp at hm; subst hm
      refine fin (v := .imm [] 0 (some 0)) ?_ (nxt rfl ⟨hz, .inl ⟨by simp, .inr rfl⟩⟩ (fun id hi => hi))
      simp only [List.length_nil] at hb
      simp only [slA, cond_eq_ite, Nat.beq_eq]
      rw [if_pos (by simp), hb]
      simp [cut_eq]
    · have hl' := hE.len
      rw [List.length_drop] at hl'
      refine fin (v := .ref id gg (b + m * z) z (xs.length - m) (xs.length - m) false) ?_ (nxt rfl ⟨hz, .inr ⟨id, gg, b + m * z, cells, by simp, hH, ?_, ?_⟩⟩ (fun id hi => hi))
      · simp only [slA, cond_eq_ite, Nat.beq_eq, if_pos, hb]
        rfl
      · have := Nat.mul_le_mul_right z hm; omega
      · have hE' := el_sub hE hm (Nat.le_refl _)
        have e1 : (xs.drop m).take (xs.length - m) = xs.drop m := List.take_of_length_le (by simp)
        have e2 : ((cells.drop b).drop (m * z)).take ((xs.length - m) * z) = cells.drop (b + m * z) := by
          rw [List.drop_drop, List.take_of_length_le]
          rw [List.length_drop, Nat.sub_mul]; omega
        rwa [e1, e2] at hE'
  | @tr v _ hc =>
    dsimp only at hk
    split at hk
    · obtain ⟨l, hk1, hl⟩ := ordT_bd hR ha hk
      obtain ⟨h, hk2, hh⟩ := ordT_bd hR ha hk1
      obtain ⟨r, ⟨h1, h2⟩, h3⟩ := resT_act ha hk2
      clear hk hk1 hk2
      unfold slT at h1
      split at h1
      · rename_i xs
        split at h1
        · rename_i a b hab
          cases h1
          obtain ⟨hb, hab1, hab2⟩ := bds_can hl hh hab
          cases hc with
          | nil =>
            refine fin (v := .nils) (by simp only [slA]; simp only [List.length_nil] at hb; rw [hb]) (putV_tree hR (fun _ => .tr ?_) h3)
            simp; exact .nil
          | imm _ cs n z c hn hcl hsz hf hcc =>
            subst hn
            have hE : ElR z xs cs := ⟨hcl, hf, hcc⟩
            have hcut : ∀ z', (z' = z ∨ xs = []) → xs.length * z' = cs.length ∧ cut cs (a * z') ((b - a) * z') = some ((cs.drop (a * z)).take ((b - a) * z)) := by
              intro z' hz'
              rcases hz' with rfl | rfl
              · refine ⟨hcl.symm, ?_⟩
                have := Nat.mul_le_mul_right z' hab2
                have h1 : a * z' + (b - a) * z' = b * z' := by rw [← Nat.add_mul]; congr 1; omega
                rw [cut_eq, if_pos (by omega)]
              · simp only [List.length_nil, Nat.zero_mul] at hcl hab2 ⊢
                have : cs = [] := List.length_eq_zero_iff.1 hcl
                subst this
                have : b = 0 := by omega
                subst this
                have : a = 0 := by omega
                subst this
                simp [cut_eq]
            obtain ⟨q1, q2⟩ := hcut es (by rcases szHd_eq (h2 xs rfl) rfl hcl hcc with h | h; exact .inr h; exact .inl h)
            have hE' := el_sub hE hab1 hab2
            have hcan : ∀ c', Can (.l ((xs.drop a).take (b - a))) (.imm ((cs.drop (a * z)).take ((b - a) * z)) (b - a) c') := fun c' => by
              have := el_imm hsz hE' c'
              rwa [show ((xs.drop a).take (b - a)).length = b - a by simp; omega] at this
            exact fin (slA_imm q1 hb q2) (putV_tree hR (fun _ => .tr (hcan _)) h3)
        · cases h1
      · cases h1
    · split at hk
      · rename_i hcond
        simp only [Bool.and_eq_true] at hcond
        obtain ⟨⟨⟨hc1, hc2⟩, hc3⟩, hc4⟩ := hcond
        obtain ⟨k1, rfl⟩ := const0 hc1
        obtain ⟨k2, hm2⟩ := const0 hc2
        cases hm2
        obtain rfl : lo = none := (by cases lo <;> first | rfl | cases hc3)
        obtain ⟨l, h1, hsz, h2⟩ := hk
        cases v <;> first | (cases h1; done) | skip
        cases h1
        cases hc with
        | nil => exact fin (v := .nils) rfl (putV_tree hR (fun _ => .nil0) h2)
        | imm _ cs n z c hn hcl hz' hf hcc =>
          refine fin (v := .imm [] 0 (some 0)) ?_ (putV_tree hR (fun _ => .nil1) h2)
          have q1 : n * es = cs.length := by
            rcases szHd_eq hsz hn hcl hcc with h | h
            · subst h; simp at hn; subst hn; simp at hcl; simp [hcl]
            · rw [h, hcl]
          have hb : bnds (ev st.env) none (some (.c (.int k1 (.ofNat 0)))) (some (.c (.int k2 (.ofNat 0)))) n n = some (0, 0, 0) := by
            rfl
          exact slA_imm q1 hb (by simp [cut_eq])
      · cases hk
  | nil0 =>
    dsimp only at hk
    split at hk
    · rename_i hcond
      simp only [Bool.and_eq_true] at hcond
      obtain ⟨⟨hc1, hc2⟩, hc3⟩ := hcond
      obtain ⟨k1, rfl⟩ := const0 hc1
      obtain ⟨k2, rfl⟩ := const0 hc2
      obtain rfl : lo = none := (by cases lo <;> first | rfl | cases hc3)
      exact fin (v := .nils) rfl (putV_tree hR (fun _ => .nil0) hk)
    · cases hk
  | nil1 =>
    dsimp only at hk
    split at hk
    · rename_i hcond
      simp only [Bool.and_eq_true] at hcond
      obtain ⟨⟨hc1, hc2⟩, hc3⟩ := hcond
      obtain ⟨k1, rfl⟩ := const0 hc1
      obtain ⟨k2, rfl⟩ := const0 hc2
      obtain rfl : lo = none := (by cases lo <;> first | rfl | cases hc3)
      refine fin (v := .imm [] 0 (some 0)) ?_ (putV_tree hR (fun _ => .nil1) hk)
      have hb : bnds (ev st.env) none (some (.c (.int k1 (.ofNat 0)))) (some (.c (.int k2 (.ofNat 0)))) 0 0 = some (0, 0, 0) := by
        rfl
      exact slA_imm (by simp) hb (by simp [cut_eq])
    · cases hk
  | _ => cases hk
end
end Go.Ax.V
