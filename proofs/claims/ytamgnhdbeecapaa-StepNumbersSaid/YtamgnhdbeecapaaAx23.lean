/- Regions of open order: the law. -/
import Derived.Test.YtamgnhdbeecapaaAx22
set_option linter.unusedSimpArgs false
set_option linter.unusedVariables false
namespace Go.Ax
open Classical

section
variable {top : Nat} {φ φ' φ1 : Phi} {K K' K1 : Nat → Prop} {h h' h1 : HeapF} {nx nx' a b : Nat} {w w' w1 : World}

theorem Goes.zero (g : Goes top φ K h nx w φ' K' h' nx' w') (ha : a ≤ nx) (hb : nx' ≤ b) : Goes 0 φ K h a w φ' K' h' b w' := by
  have hle := g.nx
  refine ⟨g.phi, g.k, ⟨g.sim.kin, g.sim.row, g.sim.map, g.sim.inj, fun id ob hh => ⟨fun hx => by omega, (g.sim.low id ob hh).2⟩, fun id gg _ hx => by omega⟩, g.ext, g.mu, g.newK, fun id gg p hp => ?_, fun id hd => ?_, by omega⟩
  · rcases g.fr id gg p hp with q | q | q
    · exact .inl q
    · exact .inr (.inl (by omega))
    · exact .inr (.inr q)
  · rcases g.dom id hd with q | q
    · exact .inl q
    · exact .inr (by omega)
theorem Goes.two (g : Goes 0 φ K h a w φ1 K1 h1 b w1) (g' : Goes 0 φ1 K1 h1 a w1 φ' K' h' b w') : Goes 0 φ K h a w φ' K' h' b w' := by
  refine ⟨fun id gg p hp => g'.phi _ _ _ (g.phi _ _ _ hp), fun b hb => g'.k b (g.k b hb), g'.sim, g.ext.trans g'.ext g.mu, fun b hb => (g'.mu b hb).elim (g.mu b) (fun hl => .inr (Nat.le_trans g.ext.size hl)), fun b hb => ?_, fun id gg p hp => ?_, fun id hd => ?_, g.nx⟩
  · rcases g'.newK b hb with h1 | h1 | h1
    · exact g.newK b h1
    · exact .inr (.inl (Nat.le_trans g.ext.size h1))
    · rcases g.mu b h1 with h2 | h2
      · exact .inr (.inr h2)
      · exact .inr (.inl h2)
  · rcases g'.fr id gg p hp with q | q | q
    · exact g.fr id gg p q
    · exact .inr (.inl q)
    · rcases g.dom id q with r | r
      · exact .inr (.inr r)
      · exact .inr (.inl r)
  · rcases g'.dom id hd with q | q
    · exact g.dom id q
    · exact .inr q
theorem Sim.window (s : Sim 0 φ K h nx w) (hn : ∀ id, a ≤ id → id < b → (∀ g, φ id g = none) ∧ h id = none) : Sim b φ K h a w :=
  ⟨s.kin, s.row, s.map, s.inj, fun id ob hh => ⟨fun hx => (by rw [(hn id hx.1 hx.2).2] at hh; cases hh), (s.low id ob hh).2⟩, fun id g h1 h2 => (hn id h1 h2).1 g⟩
/-- with all its numbers -/
theorem Goes.back (s : Sim top φ K h nx w) (g : Goes 0 φ K h nx w φ' K' h' nx' w') : Goes top φ K h nx w φ' K' h' nx' w' := by
  have hle := g.nx
  have hnone : ∀ id, nx' ≤ id → id < top → (∀ gg, φ' id gg = none) ∧ h' id = none := by
    intro id h1 h2
    have hh : h id = none := by
      cases hh : h id with
      | none => rfl
      | some ob => exact absurd ⟨by omega, h2⟩ (s.low id ob hh).1
    refine ⟨fun gg => ?_, ?_⟩
    · cases hp : φ' id gg with
      | none => rfl
      | some p =>
        rcases g.fr id gg p hp with q | q | q
        · rw [s.new id gg (by omega) h2] at q; cases q
        · omega
        · rw [hh] at q; cases q
    · cases hp : h' id with
      | none => rfl
      | some p =>
        rcases g.dom id (by rw [hp]; rfl) with q | q
        · rw [hh] at q; cases q
        · omega
  exact ⟨g.phi, g.k, g.sim.window hnone, g.ext, g.mu, g.newK, g.fr, g.dom, g.nx⟩
end

def cnt (L : Nat → Bool) : Nat → Nat
  | 0 => 0
  | k + 1 => cnt L k + (if L k then 0 else 1)
theorem cnt_put {L L' : Nat → Bool} {j : Nat} (hLj : L j = false) (hj1 : L' j = true) (hj2 : ∀ k, k ≠ j → L' k = L k) : ∀ n, cnt L' n + (if j < n then 1 else 0) = cnt L n
  | 0 => rfl
  | n + 1 => by
    have ih := cnt_put hLj hj1 hj2 n
    simp only [cnt]
    by_cases hn : n = j
    · subst hn
      rw [hLj, hj1]
      simp at ih ⊢
      omega
    · rw [hj2 n hn]
      by_cases h1 : j < n
      · rw [if_pos h1] at ih
        rw [if_pos (show j < n + 1 by omega)]
        omega
      · rw [if_neg h1] at ih
        rw [if_neg (show ¬ j < n + 1 by omega)]
        omega
theorem cnt_zero {L : Nat → Bool} : ∀ n, cnt L n = 0 → ∀ k, k < n → L k = true
  | 0, _, k, hk => by omega
  | n + 1, h, k, hk => by
    simp only [cnt] at h
    rcases Nat.lt_or_ge k n with h1 | h1
    · exact cnt_zero n (by omega) k h1
    · obtain rfl : k = n := by omega
      cases hl : L k with
      | true => rfl
      | false => rw [hl] at h; simp at h
theorem cnt_le (L : Nat → Bool) : ∀ n, cnt L n ≤ n
  | 0 => Nat.le_refl _
  | n + 1 => by
    have := cnt_le L n
    simp only [cnt]
    split <;> omega

section
variable {P : Program} {ops : Array Oper} {nt : Nat} {al : List AOper} {ahead : List (List Nat)} {pairs : List (Nat × Nat)} {st st' : St} {S : Nat → St} {R : Nat → Rec} {V : Nat → AV} {φ0 : Phi} {K0 : Nat → Prop} {w0 : World}

def Inv (φ0 : Phi) (K0 : Nat → Prop) (w0 : World) (nt : Nat) (al : List AOper) (st st' : St) (S : Nat → St) (R : Nat → Rec) (L : Nat → Bool) (a : Act) (w : World) : Prop :=
  ∃ φ K, Goes 0 φ0 K0 st.H.get st.nx w0 φ K (hS st S R al.length L) st'.nx w ∧ (∀ k, k < al.length → L k = false → ∀ id, New R k id → (∀ g, φ id g = none) ∧ hS st S R al.length L id = none) ∧ EnvF φ K w (eS st S al L) a ∧ a.tmps.size = nt ∧ a.defers = []

theorem Run.one (hr : Run P ops nt al ahead pairs st st' S R V) {L L' : Nat → Bool} (hL : ∀ i, L i = true → Fed ops L i) {j : Nat} (hj : j < al.length) (hLj : L j = false) (hfed : Fed ops L j) (hj1 : L' j = true) (hj2 : ∀ k, k ≠ j → L' k = L k)
    {a : Act} {w : World} (hI : Inv φ0 K0 w0 nt al st st' S R L a w) {o : Oper} (ho : ops[j]? = some o) (next : Act → World → Prop) (Q : Exit → Act → World → Prop) (hn : ∀ a' w', Inv φ0 K0 w0 nt al st st' S R L' a' w' → next a' w') :
    if Region.wanted o (yielded ops a.tmps) then o.wp P a w next Q else next (a.put o.dst undef) w := by
  obtain ⟨φ, K, g, hnew, henv, hs, hd⟩ := hI
  have hao : al[j]? = some al[j] := List.getElem?_eq_getElem hj
  obtain ⟨_, _, e3, e4⟩ := hr.recs j hj
  have hnewj : ∀ id, (S j).nx ≤ id → id < (S (j + 1)).nx → New R j id := fun id h1 h2 => ⟨by rw [e3]; exact h1, by rw [e4]; exact h2⟩
  obtain ⟨ag1, ag2⟩ := hr.agree hL hj hLj hfed
  obtain ⟨pt1, pt2⟩ := hr.put hL hj hLj hfed hj1 hj2
  refine hr.step j o _ ho hao φ K (hS st S R al.length L) w a (eS st S al L) (g.sim.window (fun id h1 h2 => hnew j hj hLj id (hnewj id h1 h2))) ag1 henv (ag2 _ hao) hs hd next Q (fun a' w' hp => hn a' w' ?_)
  obtain ⟨φ', K', g', henv', hs', hd'⟩ := hp
  rw [← pt1] at g'
  rw [← pt2 _ hao] at henv'
  have hb2 : (S (j + 1)).nx ≤ st'.nx := by
    rw [← hr.last]
    exact hr.mono _ _ hj (Nat.le_refl _)
  have g0 := g'.zero (a := st.nx) (b := st'.nx) (hr.base j (Nat.le_of_lt hj)) hb2
  refine ⟨φ', K', g.two g0, fun k hk hLk id hid => ?_, henv', hs', hd'⟩
  have hkj : k ≠ j := by
    rintro rfl
    rw [hj1] at hLk
    cases hLk
  rw [hj2 k hkj] at hLk
  obtain ⟨n1, n2⟩ := hnew k hk hLk id hid
  refine ⟨fun gg => ?_, ?_⟩
  · cases hp : φ' id gg with
    | none => rfl
    | some p =>
      rcases g'.fr id gg p hp with q | q | q
      · rw [n1] at q; cases q
      · exact absurd (hr.new_one hk hj hid (hnewj id q.1 q.2)) hkj
      · rw [n2] at q; cases q
  · cases hp : hS st S R al.length L' id with
    | none => rfl
    | some p =>
      rcases g'.dom id (by rw [hp]; rfl) with q | q
      · rw [n2] at q; cases q
      · exact absurd (hr.new_one hk hj hid (hnewj id q.1 q.2)) hkj

theorem mem_ready {listed : Array Bool} {i : Nat} (hs : listed.size = ops.size) : i ∈ Region.ready .any ops listed ↔ i < ops.size ∧ listed.getD i false = false ∧ Fed ops (fun k => listed.getD k false) i := by
  simp only [Region.ready, List.mem_filter, List.mem_range, Bool.and_eq_true, Bool.not_eq_true']
  constructor
  · rintro ⟨h1, h2, h3⟩
    have ho : ops[i]? = some ops[i] := Array.getElem?_eq_getElem h1
    rw [ho] at h3
    simp only [Option.map_some, Option.getD_some] at h3
    rw [Array.all_eq_true_iff_forall_mem] at h3
    refine ⟨h1, ?_, fun o e ho' he hb => ?_⟩
    · rw [Array.getD_eq_getD_getElem?, Array.getElem?_eq_getElem (by omega)] at h2 ⊢
      exact h2
    · rw [ho] at ho'
      cases ho'
      have := h3 e he
      rw [hb] at this
      simpa using this
  · rintro ⟨h1, h2, h3⟩
    have ho : ops[i]? = some ops[i] := Array.getElem?_eq_getElem h1
    refine ⟨h1, ?_, ?_⟩
    · rw [Array.getD_eq_getD_getElem?, Array.getElem?_eq_getElem (by omega)] at h2 ⊢
      exact h2
    · rw [ho]
      simp only [Option.map_some, Option.getD_some]
      rw [Array.all_eq_true_iff_forall_mem]
      intro e he
      cases hb : Region.binds .any e with
      | false => rfl
      | true => simpa using h3 _ e ho he hb

theorem Run.any (hr : Run P ops nt al ahead pairs st st' S R V) {Q : Exit → Act → World → Prop} (hQ : ∀ a w, (∃ φ K, Goes 0 φ0 K0 st.H.get st.nx w0 φ K st'.H.get st'.nx w ∧ EnvF φ K w (fun t => ev st'.env (.t t)) a ∧ a.tmps.size = nt ∧ a.defers = []) → Q .normal a w) :
    ∀ (fuel : Nat) (listed : Array Bool) (a : Act) (w : World), listed.size = ops.size → (∀ i, listed.getD i false = true → Fed ops (fun k => listed.getD k false) i) → cnt (fun k => listed.getD k false) al.length ≤ fuel → Inv φ0 K0 w0 nt al st st' S R (fun k => listed.getD k false) a w → wpAny P .any ops Q fuel listed a w := by
  have hlen := hr.len
  have fin : ∀ (L : Nat → Bool) (a : Act) (w : World), (∀ k, k < al.length → L k = true) → Inv φ0 K0 w0 nt al st st' S R L a w → Q .normal a w := by
    intro L a w hall hI
    obtain ⟨φ, K, g, _, henv, hs, hd⟩ := hI
    obtain ⟨e1, e2⟩ := hr.all_done hall
    rw [e1] at g
    rw [e2] at henv
    exact hQ a w ⟨φ, K, g, henv, hs, hd⟩
  intro fuel
  induction fuel with
  | zero =>
    intro listed a w hsz hcl hc hI
    have hall := cnt_zero al.length (Nat.le_zero.1 hc)
    refine ⟨?_, fin _ a w hall hI⟩
    rw [List.eq_nil_iff_forall_not_mem]
    intro i hi
    obtain ⟨h1, h2, _⟩ := (mem_ready hsz).1 hi
    have := hall i (by omega)
    rw [h2] at this
    cases this
  | succ fuel ih =>
    intro listed a w hsz hcl hc hI
    refine ⟨fun hnil => fin _ a w ?_ hI, fun i hi => ?_⟩
    · intro k
      induction k using Nat.strongRecOn with
      | _ k ihk =>
        intro hk
        cases hl : listed.getD k false with
        | true => rfl
        | false =>
          exfalso
          have : k ∈ Region.ready .any ops listed := (mem_ready hsz).2 ⟨by omega, hl, fun o e ho he hb => by
            have hlt := hr.edge k o e ho he hb
            exact ihk e.on hlt (by omega)⟩
          rw [hnil] at this
          cases this
    · obtain ⟨h1, h2, h3⟩ := (mem_ready hsz).1 hi
      have ho : ops[i]? = some ops[i] := Array.getElem?_eq_getElem h1
      have hget : ∀ k, (listed.setIfInBounds i true).getD k false = if k = i then true else listed.getD k false := by
        intro k
        simp only [Array.getD_eq_getD_getElem?, Array.getElem?_setIfInBounds]
        by_cases hk : k = i
        · subst hk; rw [if_pos rfl, if_pos (by omega), if_pos rfl]; rfl
        · rw [if_neg (fun h => hk h.symm), if_neg hk]
      have hj1 : (listed.setIfInBounds i true).getD i false = true := by rw [hget, if_pos rfl]
      have hj2 : ∀ k, k ≠ i → (listed.setIfInBounds i true).getD k false = listed.getD k false := fun k hk => by rw [hget, if_neg hk]
      have hmono : ∀ k, Fed ops (fun k => listed.getD k false) k → Fed ops (fun k => (listed.setIfInBounds i true).getD k false) k := by
        intro k hf o e ho he hb
        have := hf o e ho he hb
        simp only at this ⊢
        rw [hget]
        split
        · rfl
        · exact this
      have hone := hr.one (L := fun k => listed.getD k false) (L' := fun k => (listed.setIfInBounds i true).getD k false) hcl (by omega) h2 h3 hj1 hj2 hI ho (wpAny P .any ops Q fuel (listed.setIfInBounds i true)) Q (fun a' w' hI' => by
        refine ih _ a' w' (by simpa using hsz) (fun k hk => ?_) ?_ hI'
        · rw [hget] at hk
          split at hk
          · rename_i hki; subst hki; exact hmono _ h3
          · exact hmono _ (hcl k hk)
        · have := cnt_put (L := fun k => listed.getD k false) (L' := fun k => (listed.setIfInBounds i true).getD k false) h2 hj1 hj2 al.length
          rw [if_pos (by omega)] at this
          omega)
      unfold wpOp
      rw [ho]
      simp only
      split
      · rename_i hw; rw [if_pos hw] at hone; exact .inl hone
      · rename_i hw; rw [if_neg hw] at hone; exact hone

theorem lastW_none {α ι : Type} (T : Nat → ι → Prop) (x0 : ι → α) (y : Nat → ι → α) (L : Nat → Bool) (hL : ∀ k, L k = false) : ∀ n, lastW T x0 y L n = x0
  | 0 => rfl
  | n + 1 => by
    funext i
    simp only [lastW]
    rw [if_neg (by rw [hL n]; simp), lastW_none T x0 y L hL n]

/-- A REGION OF OPEN ORDER. -/
theorem dreg_ok {top : Nat} {cf : FnF} (hcf : FnOk P cf) (hup : FnUp cf) (hmx : P.follows .mixedOrders = true) {id : Nat} (hm : mDreg P ops al ahead pairs = true) (hd : runDreg cf nt al ahead pairs st = some st') (ht : st'.nx ≤ top)
    {φ : Phi} {K : Nat → Prop} {w : World} {a : Act} (s : Sim top φ K st.H.get st.nx w) (he : EnvR φ K w st.env a) (hs : a.tmps.size = nt) (hdf : a.defers = []) {Q : Exit → Act → World → Prop} (hQ : ∀ a' w', Post top φ K st w nt st' a' w' → Q .normal a' w') :
    (Code.region id ops true).wp P Q a w := by
  obtain ⟨S, R, V, hr⟩ := run_of hcf hup hm hd
  refine wp_region_any hmx ?_
  have gd := goes_drew s
  have hfalse : ∀ k, (Array.replicate ops.size false).getD k false = false := by
    intro k
    rw [Array.getD_eq_getD_getElem?, Array.getElem?_replicate]
    split <;> rfl
  have hupx : st.nx ≤ st'.nx := by rw [← hr.last]; exact hr.base _ (Nat.le_refl _)
  have h0 : hS st S R al.length (fun k => (Array.replicate ops.size false).getD k false) = st.H.get := lastW_none _ _ _ _ hfalse _
  have e0 : eS st S al (fun k => (Array.replicate ops.size false).getD k false) = fun t => ev st.env (.t t) := lastW_none _ _ _ _ hfalse _
  refine hr.any (φ0 := φ) (K0 := K) (w0 := w.drew) (fun a' w' hp => hQ a' w' ?_) ops.size _ a w.drew (by simp) (fun i hi => by rw [hfalse] at hi; cases hi) (by rw [hr.len]; exact cnt_le _ _) ?_
  · obtain ⟨φ', K', g, henv, hs', hd'⟩ := hp
    exact ⟨φ', K', gd.trans (Goes.back gd.sim g), henv, hs', hd'⟩
  · refine ⟨φ, K, ?_, fun k hk _ idd hid => ?_, ?_, hs, hdf⟩
    · rw [h0]
      exact (Goes.refl gd.sim).zero (Nat.le_refl _) hupx
    · rw [h0]
      have hge := hr.new_ge hk hid
      obtain ⟨_, _, _, e4⟩ := hr.recs k hk
      have hlt : idd < top := by
        have h1 := hid.2
        rw [e4] at h1
        have h2 := hr.mono al.length (k + 1) hk (Nat.le_refl _)
        rw [hr.last] at h2
        omega
      refine ⟨fun g => s.new idd g hge hlt, ?_⟩
      cases hh : st.H.get idd with
      | none => rfl
      | some ob => exact absurd ⟨hge, hlt⟩ (s.low idd ob hh).1
    · rw [e0]
      exact he.keep s gd
theorem dreg_up {cf : FnF} (hcf : FnOk P cf) (hup : FnUp cf) (hm : mDreg P ops al ahead pairs = true) (hd : runDreg cf nt al ahead pairs st = some st') : st.nx ≤ st'.nx := by
  obtain ⟨S, R, V, hr⟩ := run_of hcf hup hm hd
  rw [← hr.last]
  exact hr.base _ (Nat.le_refl _)
end
end Go.Ax
