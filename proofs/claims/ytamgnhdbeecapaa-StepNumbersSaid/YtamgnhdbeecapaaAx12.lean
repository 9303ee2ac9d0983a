/- Values made trees; operations, what is asked of each. -/
import Derived.Test.YtamgnhdbeecapaaAx11
set_option linter.unusedSimpArgs false
set_option linter.unusedVariables false
namespace Go.Ax

theorem toImm_ref (d : Nat) (H : Heap) (id g off es len cap : Nat) (ex : Bool) : toImm (d + 1) H (.ref id g off es len cap ex) = (match H.get id with
        | some (.row g' cells) => bif Nat.beq g' g then match cut cells off (Nat.mul len es) with
            | some cs => match mapO (toImm d H) cs with
              | some cs => some (.imm cs len (Bool.rec none (some cap) ex))
              | none => none
            | none => none
          else none
        | _ => none) := rfl
theorem toImm_agg (d : Nat) (H : Heap) (cs : List AV) : toImm (d + 1) H (.agg cs) = (match mapO (toImm d H) cs with | some cs => some (.agg cs) | none => none) := rfl
theorem toImm_tup (d : Nat) (H : Heap) (cs : List AV) : toImm (d + 1) H (.tup cs) = (match mapO (toImm d H) cs with | some cs => some (.tup cs) | none => none) := rfl
theorem idsOf_ref (d : Nat) (H : Heap) (id g off es len cap : Nat) (ex : Bool) : idsOf (d + 1) H (.ref id g off es len cap ex) = (match H.get id with
        | some (.row _ cells) => id :: (match cut cells off (Nat.mul len es) with | some cs => cs.flatMap (idsOf d H) | none => [])
        | _ => [id]) := rfl
theorem idsOf_agg (d : Nat) (H : Heap) (cs : List AV) : idsOf (d + 1) H (.agg cs) = cs.flatMap (idsOf d H) := rfl
theorem idsOf_tup (d : Nat) (H : Heap) (cs : List AV) : idsOf (d + 1) H (.tup cs) = cs.flatMap (idsOf d H) := rfl
theorem own_ref (d : Nat) (H : Heap) (id g off es len cap : Nat) (ex : Bool) : own (d + 1) H (.ref id g off es len cap ex) = (match H.get id with
        | some (.row _ cells) => match cut cells off (Nat.mul len es) with | some cs => allB (own d H) cs | none => false
        | _ => false) := rfl
theorem own_agg (d : Nat) (H : Heap) (cs : List AV) : own (d + 1) H (.agg cs) = allB (own d H) cs := rfl
theorem own_tup (d : Nat) (H : Heap) (cs : List AV) : own (d + 1) H (.tup cs) = allB (own d H) cs := rfl

section
variable {top : Nat} {P : Program} {φ : Phi} {K : Nat → Prop} {h : HeapF} {nx : Nat} {w : World} {H : Heap}

theorem flat_relP {a : AV} {v : Value} (hf : a.flat = true) (r : RelV φ K w a v) : RelP K w a v := flat_rel hf r

/-- cells of a tree are cells of what it was made of: one cell each -/
theorem toImm_one {d : Nat} {a a' : AV} (ht : toImm d H a = some a') (h1 : a.one = true) : a'.one = true := by
  cases d with
  | zero => cases ht
  | succ d =>
    cases a with
    | ref id g off es len cap ex =>
      rw [toImm_ref] at ht
      split at ht
      · rw [cond_eq_ite] at ht
        split at ht
        · split at ht
          · split at ht
            · cases ht; rfl
            · cases ht
          · cases ht
        · cases ht
      · cases ht
    | agg cs => cases h1
    | tup cs => cases h1
    | _ => cases ht <;> rfl

theorem relP_mono {K1 : Nat → Prop} (hK : ∀ b, K b → K1 b) {a : AV} {v : Value} (r : RelP K w a v) : RelP K1 w a v := r.keep hK (fun _ _ => rfl)

theorem toImm_rel (s : Sim top φ K h nx w) (H : Heap) (K1 : Nat → Prop) : ∀ (d : Nat) (v v' : AV) (V : Value), toImm d H v = some v' →
    (∀ id, id ∈ idsOf d H v → h id = H.get id ∧ ∀ ob b base, h id = some ob → φ id (gen ob) = some (b, base) → K1 b) → ((∀ b, K b → K1 b) ∨ own d H v = true) → RelV φ K w v V → RelP K1 w v' V := by
  intro d
  induction d with
  | zero => intro v v' V ht; cases ht
  | succ d ih =>
    intro v v' V ht hids hor hr
    have hlist : ∀ (cs cs' : List AV), mapO (toImm d H) cs = some cs' → (∀ id, id ∈ cs.flatMap (idsOf d H) → h id = H.get id ∧ ∀ ob b base, h id = some ob → φ id (gen ob) = some (b, base) → K1 b) →
        ((∀ b, K b → K1 b) ∨ allB (own d H) cs = true) → cs'.length = cs.length ∧ ∀ (j : Nat) (a' : AV), cs'[j]? = some a' → ∃ a, cs[j]? = some a ∧ toImm d H a = some a' ∧ ∀ V, RelV φ K w a V → RelP K1 w a' V := by
      intro cs cs' hm hi ho
      obtain ⟨hl, hat⟩ := mapO_some hm
      refine ⟨hl.symm, fun j a' ha' => ?_⟩
      have hj : j < cs'.length := (List.getElem?_eq_some_iff.1 ha').1
      have hcs : cs[j]? = some cs[j] := List.getElem?_eq_getElem (by omega)
      obtain ⟨b, hb1, hb2⟩ := hat j _ hcs
      rw [ha'] at hb1
      cases hb1
      refine ⟨_, hcs, hb2, fun V hV => ?_⟩
      have hmem : cs[j] ∈ cs := List.mem_of_getElem? hcs
      refine ih _ _ V hb2 (fun id hid => hi id (List.mem_flatMap.2 ⟨_, hmem, hid⟩)) ?_ hV
      rcases ho with h1 | h1
      · exact .inl h1
      · rw [allB_true] at h1; exact .inr (h1 _ hmem)
    cases v with
    | bool b => cases ht; rw [rel_bool hr]; exact .bool b
    | int k n => cases ht; rw [rel_int hr]; exact .int k n
    | str x => cases ht; rw [rel_str hr]; exact .str x
    | nilp => cases ht; cases hr with | pure r => cases r; exact .nilp
    | nils => cases ht; rw [rel_nils hr]; exact .nils
    | func f => cases ht; rw [rel_func hr]; exact .func f
    | ptr id g off => cases ht
    | mapr id => cases ht
    | iptr cs off =>
      cases ht
      rcases hor with h1 | h1
      · cases hr with | pure r => exact relP_mono h1 r
      · cases h1
    | imm cs n cap =>
      cases ht
      rcases hor with h1 | h1
      · cases hr with | pure r => exact relP_mono h1 r
      · cases cs with
        | nil =>
          obtain ⟨ad, c', rfl, h2, h3, h4, h5⟩ := rel_imm hr
          exact .imm [] n cap ad c' (fun _ => undef) (fun h => absurd rfl h) h2 h3 (fun j a ha => by simp at ha) (fun j hj => by simp at hj) (fun j a ha => by simp at ha)
        | cons c cs => cases h1
    | agg cs =>
      rw [toImm_agg] at ht
      split at ht
      · rename_i cs' hm
        cases ht
        rw [own_agg] at hor
        obtain ⟨vs, rfl, hl, hc⟩ := rel_agg hr
        obtain ⟨hl2, hat⟩ := hlist cs cs' hm (by rw [idsOf_agg] at hids; exact hids) hor
        refine .agg cs' vs (by omega) (fun j a' ha' => ?_) (fun j a' v ha' hv => ?_)
        · obtain ⟨a, q1, q2, _⟩ := hat j a' ha'
          exact toImm_one q2 (hc j a q1).1
        · obtain ⟨a, q1, q2, q3⟩ := hat j a' ha'
          obtain ⟨_, v1, v2, v3⟩ := hc j a q1
          rw [hv] at v2
          cases v2
          exact q3 _ v3
      · cases ht
    | tup cs =>
      rw [toImm_tup] at ht
      split at ht
      · rename_i cs' hm
        cases ht
        rw [own_tup] at hor
        obtain ⟨vs, rfl, hl, hc⟩ := rel_tup hr
        obtain ⟨hl2, hat⟩ := hlist cs cs' hm (by rw [idsOf_tup] at hids; exact hids) hor
        refine .tup cs' vs (by omega) (fun j a' v ha' hv => ?_)
        obtain ⟨a, q1, q2, q3⟩ := hat j a' ha'
        obtain ⟨v1, v2, v3⟩ := hc j a q1
        rw [hv] at v2
        cases v2
        exact q3 _ v3
      · cases ht
    | ref id g off es len cap ex =>
      rw [toImm_ref] at ht
      rw [idsOf_ref] at hids
      rw [own_ref] at hor
      cases hg : H.get id with
      | none => rw [hg] at ht; cases ht
      | some ob =>
        rw [hg] at ht hids hor
        cases ob with
        | map es => cases ht
        | row g' cells =>
          simp only [cond_eq_ite, Nat.beq_eq] at ht hids hor
          split at ht
          · rename_i hgg
            subst hgg
            cases hcut : cut cells off (Nat.mul len es) with
            | none => rw [hcut] at ht; cases ht
            | some cs =>
              rw [hcut] at ht hids hor
              simp only at ht hids hor
              split at ht
              · rename_i cs' hm
                cases ht
                obtain ⟨b, base, ad, c', rfl, hp1, hlc, hcc, hexc, had⟩ := rel_ref hr
                have hgh : h id = some (.row g' cells) := by rw [(hids id (List.mem_cons_self ..)).1, hg]
                have hf : fetchF h (some ⟨id, g', off, Nat.mul len es⟩) = some cs := by
                  simp only [fetchF, hgh, cond_eq_ite, Nat.beq_eq, if_true]
                  exact hcut
                obtain ⟨b1, base1, c, e, q1, q2, q3, q4, q5⟩ := fetch_cells s hf
                rw [hp1] at q1
                cases q1
                simp only [Nat.mul_eq] at q3 q4
                obtain ⟨hl2, hat⟩ := hlist cs cs' hm (fun id' hid' => hids id' (List.mem_cons_of_mem _ hid')) hor
                have hK1 : K1 b := (hids id (List.mem_cons_self ..)).2 _ b base hgh (by simpa [gen] using hp1)
                have hne : cs' ≠ [] → c' ≠ 0 := by
                  intro hne h0
                  apply hne
                  apply List.eq_nil_of_length_eq_zero
                  have : len = 0 := by omega
                  rw [hl2, q4, this, Nat.zero_mul]
                refine .imm cs' len _ ad c' (fun j => c.getD (base + off + j) undef) (fun h => ?_) (by omega) (fun x hx => ?_) (fun j a' ha' => ?_) (fun j hj => ?_) (fun j a' ha' => ?_)
                · obtain ⟨rfl, _⟩ := had (hne h)
                  exact ⟨rfl, hK1⟩
                · cases ex with
                  | true => cases hx; exact hexc rfl
                  | false => cases hx
                · obtain ⟨a, p1, p2, _⟩ := hat j a' ha'
                  exact toImm_one p2 (q5 j a p1).1
                · have hne2 : cs' ≠ [] := by rintro rfl; simp at hj
                  obtain ⟨rfl, _⟩ := had (hne hne2)
                  rw [cell_at q2]
                  have : base + off + j < c.size := by omega
                  simp [Array.getElem?_eq_getElem this]
                · obtain ⟨a, p1, p2, p3⟩ := hat j a' ha'
                  obtain ⟨_, v1, v2, v3⟩ := q5 j a p1
                  have hjl : base + off + j < c.size := (Array.getElem?_eq_some_iff.1 v2).1
                  have : c.getD (base + off + j) undef = v1 := by rw [Array.getElem?_eq_getElem hjl] at v2; simp [hjl]; exact Option.some.inj v2
                  rw [this]
                  exact p3 _ v3
              · cases ht
          · cases ht
end
end Go.Ax
