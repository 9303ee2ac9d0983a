/- Code over values is the interpreter's; functions. -/
import Derived.Test.YtamgnhdbeecapaaV10
set_option linter.unusedSimpArgs false
set_option linter.unusedVariables false
namespace Go.Ax.V

section
variable {prog : Map AFunc} {nt : Nat}

section
variable {A : Tok} {V : VSt} {st : St}
theorem rdT_t (hR : R A V st) {n : Nat} {k : TV → Prop} (h : rdT V none (.t n) k) : ∃ c a, st.env.get n = some a ∧ Can c a ∧ k c := by
  obtain ⟨c, h1, h2⟩ := rdT_sim (g := none) hR trivial h
  simp only [rdT, rdK] at h
  split at h
  · cases h
  · rename_i e he
    obtain ⟨a, ha, _⟩ := hR.env n e he
    rw [ev_get ha] at h1
    exact ⟨c, a, ha, h1, h2⟩
end
theorem r_addE {A : Tok} {V : VSt} {st : St} (h : R A V st) {t : Nat} {w : VV} {a : AV} (ha : st.env.get t = some a) (hw : VR A w a) : R A (addE V t w) st where
  env t' e he := by
    simp only [addE, Map.get_put] at he
    split at he
    · rename_i ht; subst ht; cases he; exact ⟨a, ha, fun _ => hw⟩
    · exact h.env t' e he
  heap := h.heap
  inj := h.inj
  used := h.used
  one := h.one
  fresh := h.fresh
theorem own_addE {A : Tok} {V : VSt} {t : Nat} {w : VV} {id : Nat} (h : Own (addE V t w) A id) : Own V A id := h
/-- a name for an object that is there -/
theorem name_sim {A0 : Tok} {Vc : VSt} {st : St} (hR : R A0 Vc st) {O : Nat} {o : VO} {k : VSt → Prop} {a : AV} (h : nameK Vc O o k) (hO : ∀ A' : Tok, (∀ O x, A0 O = some x → A' O = some x) → OR A' st.H o a) (h1 : a.one = true)
    (hid : ∀ id, idOf a = some id → ¬ Own Vc A0 id) : ∃ Vc' A', k Vc' ∧ R A' Vc' st ∧ (∀ O' x, A0 O' = some x → A' O' = some x) ∧ A' O = some a ∧ Vc'.env = Vc.env ∧ (∀ id, Own Vc' A' id → Own Vc A0 id ∨ idOf a = some id) ∧ Vc'.H.get O = some o ∧
      (∀ O' x, A' O' = some x → A0 O' = some x ∨ O' = O) := by
  unfold nameK at h
  split at h
  · cases h
  rename_i hus
  have hnone := hR.used O hus
  let A' : Tok := fun O' => if O' = O then some a else A0 O'
  have hA' : ∀ O' x, A0 O' = some x → A' O' = some x := fun O' x hx => by
    show (if O' = O then _ else _) = _
    rw [if_neg (by rintro rfl; rw [hnone] at hx; cases hx)]; exact hx
  have hAO : A' O = some a := if_pos rfl
  have hback : ∀ O' x, A' O' = some x → O' ≠ O → A0 O' = some x := fun O' x hx hne => by
    have : (if O' = O then some a else A0 O') = some x := hx
    rwa [if_neg hne] at this
  refine ⟨_, A', h, ⟨fun t e he => ?_, fun O' o' ho => ?_, fun O1 O2 o1 o2 a1 a2 id ho1 ho2 ha1 ha2 hi1 hi2 => ?_, fun O' hu => ?_, fun O' x hx => ?_, hR.fresh⟩, hA', hAO, rfl, fun id ⟨O', o', x, ho, hx, hi⟩ => ?_, by simp only [Map.get_put, if_pos], fun O' x hx => ?_⟩
  · obtain ⟨x, hx, hv⟩ := hR.env t e he
    exact ⟨x, hx, fun hh => (hv hh).mono hA'⟩
  · simp only [Map.get_put] at ho
    split at ho
    · rename_i e; subst e; cases ho; exact ⟨a, hAO, hO A' hA'⟩
    · obtain ⟨x, hx, hor⟩ := hR.heap O' o' ho
      exact ⟨x, hA' _ _ hx, hor.mono hA' (fun _ _ => rfl)⟩
  · simp only [Map.get_put] at ho1 ho2
    by_cases e1 : O1 = O
    · by_cases e2 : O2 = O
      · rw [e1, e2]
      · subst e1
        rw [if_neg e2] at ho2
        rw [hAO] at ha1; cases ha1
        exact absurd ⟨O2, _, a2, ho2, hback _ _ ha2 e2, hi2⟩ (hid id hi1)
    · rw [if_neg e1] at ho1
      by_cases e2 : O2 = O
      · subst e2
        rw [hAO] at ha2; cases ha2
        exact absurd ⟨O1, _, a1, ho1, hback _ _ ha1 e1, hi1⟩ (hid id hi2)
      · rw [if_neg e2] at ho2
        exact hR.inj O1 O2 _ _ a1 a2 id ho1 ho2 (hback _ _ ha1 e1) (hback _ _ ha2 e2) hi1 hi2
  · simp only [Map.get_put] at hu
    split at hu
    · cases hu
    · rename_i hne
      show (if O' = O then _ else _) = _
      rw [if_neg hne]; exact hR.used O' hu
  · by_cases e : O' = O
    · subst e; rw [hAO] at hx; cases hx; exact h1
    · exact hR.one O' x (hback _ _ hx e)
  · simp only [Map.get_put] at ho
    by_cases e : O' = O
    · subst e; rw [hAO] at hx; cases hx; exact .inr hi
    · rw [if_neg e] at ho; exact .inl ⟨O', o', x, ho, hback _ _ hx e, hi⟩
  · by_cases e : O' = O
    · exact .inr e
    · exact .inl (hback _ _ hx e)

/-- how two states of one place stand: what is left of the elder, what is told of the newer -/
structure Two (V : VSt) (A : Tok) (Vc : VSt) (A0 : Tok) (st : St) : Prop where
  old : R A V st
  new : R A0 Vc st
  apart : ∀ id, Own V A id → ¬ Own Vc A0 id
def Agree (A0 A : Tok) : Prop := ∀ O id, A0 O = some (.ptr id 0 0) → A O = some (.ptr id 0 0)

theorem takeS_sim {V : VSt} {A : Tok} {Vc : VSt} {A0 : Tok} {st : St} (h : Two V A Vc A0 st) {sz : Nat} {w : VV} {x : AV} (hw : SlV A w x) {k : List TV → VSt → Prop} (hk : takeS V sz w k) :
    ∃ es V', k es V' ∧ V' = dropVV V w ∧ Sub V V' ∧ (0 < sz → SlR st.H sz es x) ∧ x.one = true ∧ (∀ id, idOf x = some id → Own V A id ∧ ¬ Own V' A id) ∧ (∀ id, x ≠ .ptr id 0 0) := by
  cases w <;> first | (cases hk; done) | skip
  · refine ⟨[], V, hk, rfl, Sub.refl V, fun hz => ⟨hz, .inl ⟨rfl, hw⟩⟩, ?_, ?_, ?_⟩ <;> rcases hw with rfl | rfl <;> first | rfl | (intro id hi; cases hi)
  · rename_i O
    simp only [takeS] at hk
    split at hk
    · rename_i z es ho
      obtain ⟨rfl, hk2⟩ := same_ok hk
      have hA : A O = some x := hw
      obtain ⟨y, hy, hs⟩ := h.old.heap O _ ho
      rw [hA] at hy; cases hy
      refine ⟨es, _, hk2, rfl, sub_dropO V O, fun _ => hs, h.old.one O x hA, fun id hi => ⟨⟨O, _, x, ho, hA, hi⟩, gone_dropO h.old ho hA hi⟩, fun id e => ?_⟩
      rcases hs.2 with ⟨_, e' | e'⟩ | ⟨_, _, _, _, e', _⟩ <;> (rw [e] at e'; cases e')
    · cases hk
theorem Two.sub {V V' : VSt} {A : Tok} {Vc : VSt} {A0 : Tok} {st : St} (h : Two V A Vc A0 st) (hs : Sub V V') : Two V' A Vc A0 st :=
  ⟨hs.r h.old, h.new, fun id ho => h.apart id (hs.own ho)⟩

theorem hasKey_iff {i : Nat} : ∀ {l : List (Nat × Nat)}, hasKey i l = true ↔ ∃ z, (i, z) ∈ l
  | [] => by simp [hasKey]
  | (j, z) :: l => by
    simp only [hasKey, Bool.or_eq_true, Nat.beq_eq, hasKey_iff (l := l), List.mem_cons]
    constructor
    · rintro (rfl | ⟨z', h⟩)
      · exact ⟨z, .inl rfl⟩
      · exact ⟨z', .inr h⟩
    · rintro ⟨z', h | h⟩
      · cases h; exact .inl rfl
      · exact .inr ⟨z', h⟩
theorem keysIn_at {l : List (Nat × Nat)} : ∀ {ovs : List (Nat × VV)}, keysIn ovs l = true → ∀ j w, ovAt j ovs = some w → hasKey j l = true
  | [], h, j, w, ho => by simp [ovAt] at ho
  | (i, w') :: r, h, j, w, ho => by
    simp only [keysIn, Bool.and_eq_true] at h
    rw [ovAt_cons] at ho
    split at ho
    · rename_i e; subst e; exact h.1
    · exact keysIn_at h.2 j w ho
theorem ovsOf_at {O j : Nat} : ∀ {l : List (Nat × Nat)}, ovAt j (ovsOf O l) = if hasKey j l = true then some (.sl (tokC O j)) else none
  | [] => by simp [ovsOf, ovAt, hasKey]
  | (i, z) :: l => by
    simp only [ovsOf, ovAt_cons, ovsOf_at (l := l), hasKey, Bool.or_eq_true, Nat.beq_eq]
    by_cases e : i = j
    · subst e; simp
    · rw [if_neg e]
      by_cases hk : hasKey j l = true
      · rw [if_pos hk, if_pos (.inr hk)]
      · rw [if_neg hk, if_neg]
        rintro (h | h)
        · exact e h.symm
        · exact hk h

/-- the slices of an object, taken and told anew -/
theorem takeL_sim {Rt : Type} {O : Nat} {st : St} {ovs : List (Nat × VV)} {cs : List AV} {A : Tok} (hsl : ∀ j w, ovAt j ovs = some w → ∃ x, cs[j]? = some x ∧ SlV A w x) : ∀ (offs : List (Nat × Nat)) (V Vc : VSt) (A0 : Tok) (I : JL offs Rt) (k kc : Rt → VSt → Prop),
    (∀ p ∈ offs, 0 < p.2) → Two V A Vc A0 st → takeL V ovs offs I k → allL O offs Vc I kc → ∃ i V' Vc' A', k i V' ∧ kc i Vc' ∧ V' = restL V ovs offs ∧ Two V' A Vc' A' st ∧ Agree A' A0 ∧ Sub V V' ∧ (∀ O' x, A0 O' = some x → A' O' = some x) ∧ Vc'.env = Vc.env ∧
      (∀ id, Own Vc' A' id → Own Vc A0 id ∨ Own V A id) ∧ (∀ j, hasKey j offs = true → ∃ x, cs[j]? = some x ∧ A' (tokC O j) = some x)
  | [], V, Vc, A0, I, k, kc, hz, h, hk, hkc => ⟨I, V, Vc, A0, hk, hkc, rfl, h, fun _ _ h => h, Sub.refl V, fun _ _ h => h, rfl, fun id h => .inl h, fun j hj => by cases hj⟩
  | (off, sz) :: offs, V, Vc, A0, I, k, kc, hz, h, hk, hkc => by
    simp only [takeL] at hk
    split at hk
    · rename_i w hw
      obtain ⟨x, hx, hs⟩ := hsl off w hw
      obtain ⟨es, V1, hk1, hV1, hs1, hsl1, hone, hid, hnp⟩ := takeS_sim h hs hk
      have hkc1 := hkc es
      obtain ⟨Vc1, A1, hkc2, hR1, hA1, hAo, henv, hown, _, hback⟩ := name_sim h.new hkc1 (fun A' _ => hsl1 (hz (off, sz) List.mem_cons_self)) hone (fun id hi => h.apart id (hid id hi).1)
      have h1 : Two V1 A Vc1 A1 st := ⟨hs1.r h.old, hR1, fun id ho hc => (hown id hc).elim (fun hc => h.apart id (hs1.own ho) hc) (fun hi => (hid id hi).2 ho)⟩
      have hag : Agree A1 A0 := fun O' id hO' => by
        rcases hback O' _ hO' with hh | rfl
        · exact hh
        · rw [hAo] at hO'; cases hO'; exact absurd rfl (hnp id)
      obtain ⟨i, V', Vc', A', g1, g2, g0, g3, g3a, g4, g5, g6, g7, g8⟩ := takeL_sim hsl offs V1 Vc1 A1 (I es) k kc (fun p hp => hz p (List.mem_cons_of_mem _ hp)) h1 hk1 hkc2
      refine ⟨i, V', Vc', A', g1, g2, by rw [g0, hV1]; simp only [restL, hw], g3, fun O' id hO' => hag O' id (g3a O' id hO'), hs1.trans g4, fun O' y hy => g5 _ _ (hA1 _ _ hy), g6.trans henv, fun id ho => ?_, fun j hj => ?_⟩
      · rcases g7 id ho with ho | ho
        · rcases hown id ho with ho | hi
          · exact .inl ho
          · exact .inr (hid id hi).1
        · exact .inr (hs1.own ho)
      · simp only [hasKey, Bool.or_eq_true, Nat.beq_eq] at hj
        rcases hj with rfl | hj
        · exact ⟨x, hx, g5 _ _ hAo⟩
        · exact g8 j hj
    · cases hk

/-- A PLACE WHERE WAYS MEET: what is known ahead of it is what is asked behind it. -/
theorem prJ_sim {st : St} {A : Tok} : ∀ (J : List Ent) (V Vc : VSt) (A0 : Tok) (I : JT J Prop) (k : VSt → Prop), J.all entPos = true → Two V A Vc A0 st → Agree A0 A → prJ J V I → allJ J Vc I k →
    ∃ Vc' A', k Vc' ∧ R A' Vc' st ∧ (∀ id, Own Vc' A' id → Own Vc A0 id ∨ Own V A id) ∧ Two (restJ J V) A Vc' A' st ∧ Sub V (restJ J V)
  | [], V, Vc, A0, I, k, hp, h, hag, hk, hkc => ⟨Vc, A0, hkc hk, h.new, fun id h => .inl h, h, Sub.refl V⟩
  | .tr t :: J, V, Vc, A0, I, k, hp, h, hag, hk, hkc => by
    rw [List.all_cons, Bool.and_eq_true] at hp
    obtain ⟨v, a, ha, hc, hk⟩ := rdT_t h.old hk
    obtain ⟨Vc', A', g1, g2, g3, g4⟩ := prJ_sim J V _ A0 (I v) k hp.2 ⟨h.old, r_addE h.new ha (.tr hc), h.apart⟩ hag hk (hkc v)
    exact ⟨Vc', A', g1, g2, g3, g4⟩
  | .sl t sz :: J, V, Vc, A0, I, k, hp, h, hag, hk, hkc => by
    rw [List.all_cons, Bool.and_eq_true] at hp
    have hz : 0 < sz := by have := hp.1; simpa [entPos] using this
    have hk' : rdK V none (.t t) fun w => takeS V sz w fun es V' => prJ J V' (I es) := hk
    simp only [rdK] at hk'
    split at hk'
    · cases hk'
    rename_i e he
    obtain ⟨a, ha, hv⟩ := h.old.env t e he
    split at hk'
    rotate_left
    · cases hk'
    rename_i hg
    have hv' := hv (fun c bb hh => by rw [hg] at hh; cases hh)
    have hsl : SlV A e.v a := by
      have hne := hk'
      unfold takeS at hne
      generalize e.v = w at hv' hne
      cases hv' <;> first | (cases hne; done) | skip
      · exact .inl rfl
      · exact .inr rfl
      · assumption
    obtain ⟨es, V1, hk1, hV1, hs1, hsl1, hone, hid, hnp⟩ := takeS_sim h hsl hk'
    have hkc1 := hkc es
    obtain ⟨Vc1, A1, hkc2, hR1, hA1, hAo, henv, hown, _, hback⟩ := name_sim h.new hkc1 (fun A' _ => hsl1 hz) hone (fun id hi => h.apart id (hid id hi).1)
    have h1 : Two V1 A (addE Vc1 t (.sl t)) A1 st := ⟨hs1.r h.old, r_addE hR1 ha (.sl hAo), fun id ho hc => (hown id hc).elim (fun hc => h.apart id (hs1.own ho) hc) (fun hi => (hid id hi).2 ho)⟩
    have hag1 : Agree A1 A := fun O' id hO' => by
      rcases hback O' _ hO' with hh | rfl
      · exact hag O' id hh
      · rw [hAo] at hO'; cases hO'; exact absurd rfl (hnp id)
    obtain ⟨Vc', A', g1, g2, g3, g4, g5⟩ := prJ_sim J V1 _ A1 (I es) k hp.2 h1 hag1 hk1 hkc2
    have hvv : vvOf V (.t t) = e.v := by simp only [vvOf, he]
    have hrest : restJ (.sl t sz :: J) V = restJ J V1 := by simp only [restJ]; rw [hvv, hV1]
    refine ⟨Vc', A', g1, g2, fun id ho => ?_, by rw [hrest]; exact g4, by rw [hrest]; exact hs1.trans g5⟩
    rcases g3 id ho with ho | ho
    · rcases hown id ho with ho | hi
      · exact .inl ho
      · exact .inr (hid id hi).1
    · exact .inr (hs1.own ho)
  | .pt t O off :: J, V, Vc, A0, I, k, hp, h, hag, hk, hkc => by
    rw [List.all_cons, Bool.and_eq_true] at hp
    simp only [allJ] at hkc
    split at hkc
    rotate_left
    · cases hkc
    rename_i v ovs hO
    obtain ⟨y, hy, id, cs, ts, rfl, hH, hc⟩ := h.new.heap O _ hO
    have hagr := hag O id hy
    have hk' : rdK V none (.t t) fun w => match w with
      | .ptr O' off' => same O' O (same off' off (prJ J V I))
      | _ => False := hk
    simp only [rdK] at hk'
    split at hk'
    · cases hk'
    rename_i e he
    obtain ⟨a, ha, hv⟩ := h.old.env t e he
    split at hk'
    rotate_left
    · cases hk'
    rename_i hg
    have hv' := hv (fun c bb hh => by rw [hg] at hh; cases hh)
    generalize e.v = w at hv' hk'
    cases hv' <;> first | (cases hk'; done) | skip
    rename_i O' off' id' hO'
    obtain ⟨rfl, hk'⟩ := same_ok hk'
    obtain ⟨rfl, hk'⟩ := same_ok hk'
    rw [hagr] at hO'; cases hO'
    obtain ⟨Vc', A', g1, g2, g3, g4⟩ := prJ_sim J V _ A0 I k hp.2 ⟨h.old, r_addE h.new ha (.ptr hy), h.apart⟩ hag hk' hkc
    exact ⟨Vc', A', g1, g2, g3, g4⟩
  | .ob O offs :: J, V, Vc, A0, I, k, hp, h, hag, hk, hkc => by
    rw [List.all_cons, Bool.and_eq_true] at hp
    have hz : ∀ p ∈ offs, 0 < p.2 := fun p hm => by have := List.all_eq_true.1 hp.1 p hm; simpa using this
    simp only [prJ] at hk
    split at hk
    rotate_left
    · cases hk
    rename_i v ovs hO
    split at hk
    rotate_left
    · cases hk
    rename_i hkeys
    obtain ⟨y, hy, id, cs, ts, rfl, hH, hc⟩ := h.old.heap O _ hO
    have hsl : ∀ j w, ovAt j ovs = some w → ∃ x, cs[j]? = some x ∧ SlV A w x := fun j w hj => by
      have hlt := hc.keys j w hj
      have hx : cs[j]? = some (cs[j]'(by rw [← hc.len]; exact hlt)) := List.getElem?_eq_getElem _
      have := hc.at_ j _ _ (List.getElem?_eq_getElem hlt) hx
      rw [hj] at this
      exact ⟨_, hx, this⟩
    have hgone := gone_dropO h.old hO hy (id := id) rfl
    have hownO : Own V A id := ⟨O, _, _, hO, hy, rfl⟩
    have h1 : Two (dropO V O) A Vc A0 st := h.sub (sub_dropO V O)
    obtain ⟨i, V', Vc', A', g1, g2, g0, g3, g3a, g4, g5, g6, g7, g8⟩ := takeL_sim hsl offs (dropO V O) Vc A0 (I v) (fun I V' => prJ J V' I) _ hz h1 hk (hkc v)
    have hor : ∀ A3 : Tok, (∀ O x, A' O = some x → A3 O = some x) → OR A3 st.H (.ob v (ovsOf O offs)) (.ptr id 0 0) := by
      intro A3 hA3
      refine ⟨id, cs, ts, rfl, hH, ⟨hc.cells, hc.len, fun j w hj => ?_, fun j t x ht hx => ?_⟩⟩
      · rw [ovsOf_at] at hj
        split at hj
        · rename_i hh
          obtain ⟨x, hx, _⟩ := g8 j hh
          rw [hc.len]; exact (List.getElem?_eq_some_iff.1 hx).1
        · cases hj
      · rw [ovsOf_at]
        by_cases hh : hasKey j offs = true
        · rw [if_pos hh]
          obtain ⟨x', hx', hA'⟩ := g8 j hh
          rw [hx] at hx'; cases hx'
          exact hA3 _ _ hA'
        · rw [if_neg hh]
          have := hc.at_ j t x ht hx
          cases ho : ovAt j ovs with
          | none => rw [ho] at this; exact this
          | some w => exact absurd (keysIn_at hkeys j w ho) hh
    obtain ⟨Vc2, A2, p1, p2, p3, p4, p5, p6, p7, p8⟩ := name_sim g3.new (a := .ptr id 0 0) g2 hor rfl (fun id' hi => by
      cases hi
      intro ho
      rcases g7 _ ho with ho | ho
      · exact h.apart _ hownO ho
      · exact hgone ho)
    have h2 : Two V' A Vc2 A2 st := ⟨g3.old, p2, fun id' ho hc' => by
      rcases p6 id' hc' with hc' | hi
      · exact g3.apart id' ho hc'
      · cases hi; exact hgone (g4.own ho)⟩
    have hag2 : Agree A2 A := fun O' id' hO' => by
      rcases p8 O' _ hO' with hh | rfl
      · exact hag O' id' (g3a O' id' hh)
      · rw [p4] at hO'; cases hO'; exact hy
    obtain ⟨Vc3, A3, q1, q2, q3, q4, q5⟩ := prJ_sim J V' Vc2 A2 i k hp.2 h2 hag2 g1 p1
    have hrest : restJ (.ob O offs :: J) V = restJ J V' := by simp only [restJ, hO]; rw [g0]
    refine ⟨Vc3, A3, q1, q2, fun id' ho => ?_, by rw [hrest]; exact q4, by rw [hrest]; exact ((sub_dropO V O).trans g4).trans q5⟩
    rcases q3 id' ho with ho | ho
    · rcases p6 id' ho with ho | hi
      · rcases g7 id' ho with ho | ho
        · exact .inl ho
        · exact .inr ((sub_dropO V O).own ho)
      · cases hi; exact .inr hownO
    · exact .inr ((sub_dropO V O).own (g4.own ho))
theorem R.zero {A : Tok} {V : VSt} {st : St} (h : R A V st) : R (fun _ => none) V0 st :=
  ⟨fun t e he => (by cases he), fun O o ho => (by cases ho), fun O O' o o' a a' id ho => (by cases ho), fun _ _ => rfl, fun O a ha => (by cases ha), h.fresh⟩
theorem meet_sim {A : Tok} {V : VSt} {st : St} (h : R A V st) {J : List Ent} {I : JT J Prop} {k : VSt → Prop} (hp : J.all entPos = true) (hk : prJ J V I) (hkc : allJ J V0 I k) : ∃ Vc A', k Vc ∧ R A' Vc st ∧ Fr V A st.H st.nx Vc A' st.H st.nx := by
  have no0 : ∀ id, ¬ Own V0 (fun _ => none) id := fun id ⟨O, o, a, ho, _⟩ => by cases ho
  obtain ⟨Vc, A', g1, g2, g3, _⟩ := prJ_sim J V V0 (fun _ => none) I k hp ⟨h, h.zero, fun id _ hc => no0 id hc⟩ (fun O id hO => by cases hO) hk hkc
  exact ⟨Vc, A', g1, g2, ⟨Nat.le_refl _, fun _ _ _ => rfl, fun id ho => (g3 id ho).elim (fun h => absurd h (no0 id)) .inl⟩⟩
end
end Go.Ax.V
