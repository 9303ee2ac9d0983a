/- What becomes of a state: results, new objects, values made trees. -/
import Derived.Test.YtamgnhdbeecapaaV2
set_option linter.unusedSimpArgs false
set_option linter.unusedVariables false
namespace Go.Ax.V

theorem resT_act {g : G} (ha : act g) {P k : TV → Prop} (h : resT g P k) : ∃ v, P v ∧ k v := by
  cases g with
  | none => exact h
  | some p =>
    obtain ⟨c, bb⟩ := p
    obtain ⟨v, h1, h2⟩ := h
    have hc : c = .b bb := ha
    subst hc
    refine ⟨v, ?_, h2⟩
    unfold gV at h1
    cases bb <;> exact h1
theorem resN_act {g : G} (ha : act g) {P : Option Nat} {k : Nat → Prop} (h : resN g P k) : ∃ n, P = some n ∧ k n := by
  cases g with
  | none => exact h
  | some p =>
    obtain ⟨c, bb⟩ := p
    obtain ⟨n, h1, h2⟩ := h
    exact ⟨n, h1 ha, h2⟩

/-- what follows: a value is put, the objects are as told -/
def Next (nt : Nat) (A : Tok) (V : VSt) (st : St) (d : Option Nat) (v : AV) (H' : Heap) (nx' : Nat) (k : VSt → Prop) : Prop :=
  ∃ e', putD nt st.env d v = some e' ∧ ∃ V' A', R A' V' ⟨e', H', nx'⟩ ∧ Fr V A st.H st.nx V' A' H' nx' ∧ (∀ O x, A O = some x → A' O = some x) ∧ k V'
theorem R.put {A : Tok} {V : VSt} {st : St} (h : R A V st) {d : Nat} {e : VE} {v : AV} (hv : (∀ c bb, e.gd = some (c, bb) → c = .b bb) → VR A e.v v) :
    R A { V with env := V.env.put (some e) d } ⟨st.env.put (some v) d, st.H, st.nx⟩ where
  env t e' he := by
    simp only [Map.get_put] at he ⊢
    split at he
    · rename_i ht; subst ht; cases he; exact ⟨v, by rw [if_pos rfl], hv⟩
    · rename_i ht; rw [if_neg ht]; exact h.env t e' he
  heap := h.heap
  inj := h.inj
  used := h.used
  one := h.one
  fresh := h.fresh
theorem putV_next {nt : Nat} {A : Tok} {V : VSt} {st : St} {A1 : Tok} {V1 : VSt} {H' : Heap} {nx' : Nat} {d : Option Nat} {g : G} {w : VV} {v : AV} {k : VSt → Prop}
    (hR : R A1 V1 ⟨st.env, H', nx'⟩) (hF : Fr V A st.H st.nx V1 A1 H' nx') (hx : ∀ O x, A O = some x → A1 O = some x) (hv : act g → VR A1 w v) (h : putV nt V1 d g w k) : Next nt A V st d v H' nx' k := by
  cases d with
  | none => exact ⟨st.env, rfl, V1, A1, hR, hF, hx, h⟩
  | some d =>
    simp only [putV, cond_eq_ite] at h
    split at h
    · rename_i hd
      refine ⟨st.env.put (some v) d, by simp only [putD, cond_eq_ite, if_pos hd], _, A1, hR.put (e := ⟨g, w⟩) (fun hh => hv ?_), ⟨hF.le, hF.same, hF.own⟩, hx, h⟩
      cases g with
      | none => trivial
      | some p => exact hh _ _ rfl
    · cases h
/-- a tree is put: the objects are as they were -/
theorem putV_tree {nt : Nat} {A : Tok} {V : VSt} {st : St} (hR : R A V st) {d : Option Nat} {g : G} {w : VV} {v : AV} {k : VSt → Prop} (hv : act g → VR A w v) (h : putV nt V d g w k) : Next nt A V st d v st.H st.nx k :=
  putV_next (A1 := A) (V1 := V) hR (Fr.refl _ _ _ _) (fun _ _ h => h) hv h
theorem resV_next {nt : Nat} {A : Tok} {V : VSt} {st : St} (hR : R A V st) {d : Option Nat} {g : G} (ha : act g) {P : Option TV} {k : VSt → Prop} (h : resV nt V d g P k) :
    ∃ r, P = some r ∧ ∀ v, Can r v → Next nt A V st d v st.H st.nx k := by
  obtain ⟨r, h1, h2⟩ := resT_act ha h
  exact ⟨r, h1, fun v hv => putV_tree hR (fun _ => .tr hv) h2⟩

theorem R.sub {A : Tok} {V V' : VSt} {st : St} (h : R A V st) (he : V'.env = V.env) (hu : V'.us = V.us) (hH : ∀ O o, V'.H.get O = some o → V.H.get O = some o) : R A V' st where
  env t e hh := h.env t e (by rw [← he]; exact hh)
  heap O o hh := h.heap O o (hH O o hh)
  inj O O' o o' a a' id h1 h2 := h.inj O O' o o' a a' id (hH _ _ h1) (hH _ _ h2)
  used O hh := h.used O (by rw [← hu]; exact hh)
  one := h.one
  fresh := h.fresh
theorem dropO_get {V : VSt} {O O' : Nat} {o : VO} (h : (dropO V O).H.get O' = some o) : O' ≠ O ∧ V.H.get O' = some o := by
  simp only [dropO, Map.get_put] at h
  split at h
  · cases h
  · rename_i hne; exact ⟨hne, h⟩
theorem R.dropO {A : Tok} {V : VSt} {st : St} (h : R A V st) (O : Nat) : R A (dropO V O) st :=
  h.sub rfl rfl (fun O' o hh => (dropO_get hh).2)

/-- A new object. `V0` is the state ahead, of which V has some objects no more. -/
theorem newV_next {nt : Nat} {A : Tok} {V0 V : VSt} {st : St} {d : Option Nat} {g : G} {wf : Nat → VV} {o : VO} {k : VSt → Prop} {a v : AV} {H' : Heap} {nx' : Nat}
    (hR : R A V st) (hsub : ∀ O o, V.H.get O = some o → V0.H.get O = some o) (h : newV nt V d g wf o k) (hle : st.nx ≤ nx') (hfresh : ∀ id ob, H'.get id = some ob → id < nx')
    (hkeep : ∀ id, Own V A id → H'.get id = st.H.get id) (hsame : ∀ id, id < st.nx → ¬ Own V0 A id → H'.get id = st.H.get id)
    (hO : ∀ A' : Tok, (∀ O x, A O = some x → A' O = some x) → OR A' H' o a) (h1 : a.one = true) (hid : ∀ id, idOf a = some id → ¬ Own V A id ∧ (Own V0 A id ∨ st.nx ≤ id))
    (hw : ∀ (A' : Tok) O, A' O = some a → VR A' (wf O) v) : Next nt A V0 st d v H' nx' k := by
  unfold newV at h
  split at h
  · cases h
  split at h
  · cases h
  rename_i d
  split at h
  · cases h
  rename_i hus
  have hnone := hR.used d hus
  let A' : Tok := fun O => if O = d then some a else A O
  have hA' : ∀ O x, A O = some x → A' O = some x := fun O x hx => by
    show (if O = d then _ else _) = _
    rw [if_neg (by rintro rfl; rw [hnone] at hx; cases hx)]; exact hx
  have hAd : A' d = some a := if_pos rfl
  have hVd : V.H.get d = none := by
    cases hh : V.H.get d with
    | none => rfl
    | some o' => obtain ⟨x, hx, _⟩ := hR.heap d o' hh; rw [hnone] at hx; cases hx
  have own' : ∀ O o', V.H.get O = some o' → ∀ x id, A O = some x → idOf x = some id → Own V A id := fun O o' h1 x id h2 h3 => ⟨O, o', x, h1, h2, h3⟩
  refine putV_next (A1 := A') (V1 := { V with H := V.H.put (some o) d, us := V.us.put (some ()) d }) ?_ ?_ hA' (fun _ => hw A' d hAd) h
  · refine ⟨fun t e he => ?_, fun O o' ho => ?_, fun O O' o1 o2 a1 a2 id ho1 ho2 ha1 ha2 hi1 hi2 => ?_, fun O hu => ?_, fun O x hx => ?_, hfresh⟩
    · obtain ⟨x, hx, hv⟩ := hR.env t e he
      exact ⟨x, hx, fun hh => (hv hh).mono hA'⟩
    · simp only [Map.get_put] at ho
      split at ho
      · rename_i hd; subst hd; cases ho; exact ⟨a, hAd, hO A' hA'⟩
      · obtain ⟨x, hx, hor⟩ := hR.heap O o' ho
        exact ⟨x, hA' _ _ hx, hor.mono hA' (fun id hi => hkeep id (own' O o' ho x id hx hi))⟩
    · simp only [Map.get_put] at ho1 ho2
      by_cases e1 : O = d
      · by_cases e2 : O' = d
        · rw [e1, e2]
        · subst e1
          rw [if_neg e2] at ho2
          have ha2' : A O' = some a2 := by have : (if O' = O then some a else A O') = some a2 := ha2; rwa [if_neg e2] at this
          rw [hAd] at ha1; cases ha1
          exact absurd (own' O' _ ho2 a2 id ha2' hi2) (hid id hi1).1
      · rw [if_neg e1] at ho1
        have ha1' : A O = some a1 := by have : (if O = d then some a else A O) = some a1 := ha1; rwa [if_neg e1] at this
        by_cases e2 : O' = d
        · subst e2
          rw [hAd] at ha2; cases ha2
          exact absurd (own' O _ ho1 a1 id ha1' hi1) (hid id hi2).1
        · rw [if_neg e2] at ho2
          have ha2' : A O' = some a2 := by have : (if O' = d then some a else A O') = some a2 := ha2; rwa [if_neg e2] at this
          exact hR.inj O O' _ _ a1 a2 id ho1 ho2 ha1' ha2' hi1 hi2
    · simp only [Map.get_put] at hu
      split at hu
      · cases hu
      · rename_i hne
        show (if O = d then _ else _) = _
        rw [if_neg hne]; exact hR.used O hu
    · by_cases e : O = d
      · subst e; rw [hAd] at hx; cases hx; exact h1
      · have : A O = some x := by have : (if O = d then some a else A O) = some x := hx; rwa [if_neg e] at this
        exact hR.one O x this
  · refine ⟨hle, hsame, fun id ⟨O, o', x, ho, hx, hi⟩ => ?_⟩
    simp only [Map.get_put] at ho
    by_cases e : O = d
    · subst e
      rw [hAd] at hx; cases hx
      exact (hid id hi).2
    · rw [if_neg e] at ho
      have : A O = some x := by have : (if O = d then some a else A O) = some x := hx; rwa [if_neg e] at this
      exact .inl ⟨O, o', x, hsub _ _ ho, this, hi⟩

/-- a fresh object's row -/
theorem fresh_next {nt : Nat} {A : Tok} {V : VSt} {st : St} {d : Option Nat} {g : G} {wf : Nat → VV} {o : VO} {k : VSt → Prop} {a v : AV} {ob : AObj}
    (hR : R A V st) (h : newV nt V d g wf o k) (hO : ∀ A' : Tok, (∀ O x, A O = some x → A' O = some x) → OR A' (st.H.put (some ob) st.nx) o a) (h1 : a.one = true) (hid : idOf a = some st.nx)
    (hw : ∀ (A' : Tok) O, A' O = some a → VR A' (wf O) v) : Next nt A V st d v (st.H.put (some ob) st.nx) (st.nx + 1) k := by
  have hno : ∀ id, Own V A id → id ≠ st.nx := fun id ho he => by have := hR.own_lt ho; omega
  refine newV_next (V0 := V) hR (fun _ _ h => h) h (Nat.le_succ _) (fun id o' hh => ?_) (fun id ho => by rw [Map.get_put, if_neg (hno id ho)])
    (fun id hlt _ => by rw [Map.get_put, if_neg (by omega)]) hO h1 (fun id hi => ?_) hw
  · rw [Map.get_put] at hh
    split at hh
    · omega
    · have := hR.fresh _ _ hh; omega
  · rw [hid] at hi; cases hi
    exact ⟨fun ho => hno _ ho rfl, .inr (Nat.le_refl _)⟩

/-- an object is another one -/
theorem set_next {A : Tok} {V : VSt} {st : St} (hR : R A V st) {O : Nat} {o0 o : VO} {a : AV} {id : Nat} {ob : AObj} (hV : V.H.get O = some o0) (hA : A O = some a) (hi : idOf a = some id)
    (hO : OR A (st.H.put (some ob) id) o a) : R A (setVO V O o) ⟨st.env, st.H.put (some ob) id, st.nx⟩ ∧ Fr V A st.H st.nx (setVO V O o) A (st.H.put (some ob) id) st.nx := by
  have hown : Own V A id := ⟨O, o0, a, hV, hA, hi⟩
  have get' : ∀ O' o', (setVO V O o).H.get O' = some o' → ∃ o'', V.H.get O' = some o'' := fun O' o' hh => by
    simp only [setVO, Map.get_put] at hh
    split at hh
    · rename_i e; subst e; exact ⟨_, hV⟩
    · exact ⟨_, hh⟩
  refine ⟨⟨hR.env, fun O' o' ho => ?_, fun O1 O2 o1 o2 a1 a2 id' ho1 ho2 => ?_, hR.used, hR.one, fun id' o' hh => ?_⟩, ⟨Nat.le_refl _, fun id' _ hn => ?_, fun id' ⟨O', o', x, h1, h2, h3⟩ => ?_⟩⟩
  · simp only [setVO, Map.get_put] at ho
    by_cases e : O' = O
    · subst e
      rw [if_pos rfl] at ho; cases ho
      exact ⟨a, hA, hO⟩
    · rw [if_neg e] at ho
      obtain ⟨x, hx, hor⟩ := hR.heap O' o' ho
      refine ⟨x, hx, hor.mono (fun _ _ h => h) (fun id' hi' => ?_)⟩
      rw [Map.get_put, if_neg]
      rintro rfl
      exact e (hR.inj O' O _ _ x a _ ho hV hx hA hi' hi)
  · obtain ⟨p1, h1⟩ := get' _ _ ho1
    obtain ⟨p2, h2⟩ := get' _ _ ho2
    exact hR.inj O1 O2 _ _ a1 a2 id' h1 h2
  · have hh' : (st.H.put (some ob) id).get id' = some o' := hh
    rw [Map.get_put] at hh'
    split at hh'
    · rename_i e; subst e; exact hR.own_lt hown
    · exact hR.fresh _ _ hh'
  · rw [Map.get_put, if_neg]
    rintro rfl
    exact hn hown
  · obtain ⟨o'', h4⟩ := get' _ _ h1
    exact .inl ⟨O', o'', x, h4, h2, h3⟩

/-! ### Values made trees -/
theorem imm_flat {a : AV} (h : a.flat = true) (d : Nat) (H : Heap) : toImm (d + 1) H a = some a := by
  cases a <;> first | rfl | cases h
theorem mapO_flat {cs : List AV} (h : ∀ x ∈ cs, AV.flat x = true) (d : Nat) (H : Heap) : mapO (toImm (d + 1) H) cs = some cs := by
  induction cs with
  | nil => rfl
  | cons x cs ih => rw [mapO_cons, imm_flat (h x List.mem_cons_self), ih (fun y hy => h y (List.mem_cons_of_mem _ hy))]
theorem plain1_or {a : AV} (h : a.plain1 = true) : a.flat = true ∨ ∃ cs, a = .agg cs ∧ ∀ x ∈ cs, AV.flat x = true := by
  cases a <;> first | exact .inr ⟨_, rfl, allB_true.1 h⟩ | exact .inl h
theorem plain_or {a : AV} (h : a.plain = true) : a.plain1 = true ∨ ∃ cs, a = .tup cs ∧ ∀ x ∈ cs, AV.plain1 x = true := by
  cases a <;> first | exact .inr ⟨_, rfl, allB_true.1 h⟩ | exact .inl h
theorem imm_plain1 {a : AV} (h : a.plain1 = true) (d : Nat) (H : Heap) : toImm (d + 2) H a = some a := by
  rcases plain1_or h with h | ⟨cs, rfl, h'⟩
  · exact imm_flat h (d + 1) H
  · rw [toImm_agg, mapO_flat h']
theorem mapO_plain1 {cs : List AV} (h : ∀ x ∈ cs, AV.plain1 x = true) (d : Nat) (H : Heap) : mapO (toImm (d + 2) H) cs = some cs := by
  induction cs with
  | nil => rfl
  | cons x cs ih => rw [mapO_cons, imm_plain1 (h x List.mem_cons_self), ih (fun y hy => h y (List.mem_cons_of_mem _ hy))]
theorem imm_plain {a : AV} (h : a.plain = true) (d : Nat) (H : Heap) : toImm (d + 3) H a = some a := by
  rcases plain_or h with h | ⟨cs, rfl, h'⟩
  · exact imm_plain1 h (d + 1) H
  · rw [toImm_tup, mapO_plain1 h']
theorem can_plain {t : TV} {a : AV} (h : Can t a) : a.plain = true := by
  cases h with
  | a ts as hl hf h => exact allB_true.2 hf
  | tp ts as hl hf h => exact allB_true.2 hf
  | _ => rfl
theorem el_imm {sz : Nat} {es : List TV} {cs : List AV} (hz : 0 < sz) (h : ElR sz es cs) (c : Option Nat) : Can (.l es) (.imm cs es.length c) :=
  .imm es cs es.length sz c rfl h.len hz h.flat h.el
/-- a slice of an object, made a tree -/
theorem sl_imm {H : Heap} {sz : Nat} {es : List TV} {a : AV} (h : SlR H sz es a) (d : Nat) : ∃ a', toImm (d + 2) H a = some a' ∧ Can (.l es) a' ∧ a'.flat = true ∧ (a.plain = true → a' = a) ∧ a.one = true := by
  obtain ⟨hz, h⟩ := h
  rcases h with ⟨rfl, rfl | rfl⟩ | ⟨id, g, b, cells, rfl, hH, hb, he⟩
  · exact ⟨_, rfl, .nil, rfl, fun _ => rfl, rfl⟩
  · exact ⟨_, rfl, can_nil1, rfl, fun _ => rfl, rfl⟩
  · have hl : cells.length = b + es.length * sz := by have := he.len; rw [List.length_drop] at this; omega
    refine ⟨.imm (cells.drop b) es.length none, ?_, el_imm hz he _, rfl, (fun hp => by cases hp), rfl⟩
    rw [toImm_ref, hH]
    simp only [cond_eq_ite, Nat.beq_eq, if_pos]
    have : cut cells b (Nat.mul es.length sz) = some (cells.drop b) := by
      rw [cut_eq, if_pos (by show b + es.length * sz ≤ _; omega), List.take_of_length_le]
      rw [List.length_drop]; show _ ≤ es.length * sz; omega
    rw [this]
    simp only [mapO_flat he.flat]
theorem slOf_sim {A : Tok} {V : VSt} {st : St} (h : R A V st) {w : VV} {x : AV} {k : List TV → Prop} (hv : SlV A w x) (hk : slOf V w k) (d : Nat) :
    ∃ es a', toImm (d + 2) st.H x = some a' ∧ Can (.l es) a' ∧ a'.flat = true ∧ (x.plain = true → a' = x) ∧ k es := by
  cases w <;> first | (cases hk; done) | skip
  · refine ⟨[], x, ?_, ?_, ?_, fun _ => rfl, hk⟩ <;> rcases hv with rfl | rfl <;> first | rfl | exact .nil | exact can_nil1
  · rename_i O
    simp only [slOf] at hk
    split at hk
    · rename_i sz es ho
      obtain ⟨a, h1, h2⟩ := h.heap O _ ho
      have hv' : A O = some x := hv
      rw [hv'] at h1; cases h1
      obtain ⟨a', h3, h4, h5, h6, _⟩ := sl_imm h2 d
      exact ⟨es, a', h3, h4, h5, h6, hk⟩
    · cases hk
theorem slOf_ex {V : VSt} {w : VV} {k : List TV → Prop} (hk : slOf V w k) : ∃ es, k es := by
  unfold slOf at hk
  split at hk
  · split at hk
    · exact ⟨_, hk⟩
    · cases hk
  · exact ⟨_, hk⟩
  · cases hk
theorem putT_a {l : List TV} {off n : Nat} {x u : TV} (h : putT (.a l) off n x = some u) : ∃ l', u = .a l' := by
  unfold putT at h
  split at h
  · cases h
  · rw [cond_eq_ite] at h
    split at h
    · simp only at h
      split at h
      · cases h; exact ⟨_, rfl⟩
      · cases h
    · cases h
/-- slices of objects are put in as trees (at those places that are asked for) -/
theorem toTs_sim {A : Tok} {V : VSt} {st : St} (h : R A V st) (d : Nat) : ∀ (ovs : List (Nat × VV)) (P : Nat → Prop) (v : TV) (ts : List TV) (cs : List AV) (k : TV → Prop), cellsT v = some ts → ts.length = cs.length →
    (∀ j t x, P j → ts[j]? = some t → cs[j]? = some x → match ovAt j ovs with | none => True | some w => SlV A w x) → toTs V ovs v k →
    ∃ u us, cellsT u = some us ∧ us.length = ts.length ∧ k u ∧ (∀ l, v = .a l → ∃ l', u = .a l') ∧
      ∀ j u' x, P j → us[j]? = some u' → cs[j]? = some x → match ovAt j ovs with | none => ts[j]? = some u' | some w => ∃ a', toImm (d + 2) st.H x = some a' ∧ Can u' a' ∧ a'.flat = true ∧ (x.plain = true → a' = x)
  | [], P, v, ts, cs, k, hc, hl, ho, hk => ⟨v, ts, hc, rfl, hk, fun l e => ⟨l, e⟩, fun j u' x _ hu hx => hu⟩
  | (off, w) :: r, P, v, ts, cs, k, hc, hl, ho, hk => by
    obtain ⟨u, us, h1, h2, h3, h4, h5⟩ := toTs_sim h d r (fun j => P j ∧ j ≠ off) v ts cs _ hc hl (fun j t x hp ht hx => by
      have := ho j t x hp.1 ht hx
      rwa [ovAt_cons, if_neg (Ne.symm hp.2)] at this) hk
    by_cases hoff : P off ∧ off < ts.length
    · obtain ⟨hP, hlt⟩ := hoff
      have hx : cs[off]? = some (cs[off]'(by omega)) := List.getElem?_eq_getElem _
      have ht : ts[off]? = some ts[off] := List.getElem?_eq_getElem _
      have hsl := ho off _ _ hP ht hx
      rw [ovAt_cons, if_pos rfl] at hsl
      obtain ⟨es, a', g1, g2, g3, g4, u', g5, g6⟩ := slOf_sim h hsl h3 d
      obtain ⟨us0, xs, us', p1, p2, p3, p4, p5, p6, p7⟩ := putT_some g5
      rw [h1] at p1; cases p1
      cases p2
      refine ⟨u', us', p4, by omega, g6, fun l e => ?_, fun j q x hp hq hx' => ?_⟩
      · obtain ⟨l', rfl⟩ := h4 l e
        exact putT_a g5
      · rw [p7] at hq
        rw [ovAt_cons]
        by_cases e : off = j
        · subst e
          rw [if_pos (by omega)] at hq
          simp at hq
          rw [if_pos rfl]
          subst hq
          rw [hx'] at hx; cases hx
          exact ⟨a', g1, g2, g3, g4⟩
        · rw [if_neg (by omega)] at hq
          rw [if_neg e]
          exact h5 j q x ⟨hp, Ne.symm e⟩ hq hx'
    · obtain ⟨es, u', g5, g6⟩ := slOf_ex h3
      obtain ⟨us0, xs, us', p1, p2, p3, p4, p5, p6, p7⟩ := putT_some g5
      rw [h1] at p1; cases p1
      refine ⟨u', us', p4, by omega, g6, fun l e => ?_, fun j q x hp hq hx' => ?_⟩
      · obtain ⟨l', rfl⟩ := h4 l e
        exact putT_a g5
      · rw [p7] at hq
        rw [ovAt_cons]
        by_cases e : off = j
        · subst e
          exact absurd ⟨hp, by have := (List.getElem?_eq_some_iff.1 hx').1; omega⟩ hoff
        · rw [if_neg (by omega)] at hq
          rw [if_neg e]
          exact h5 j q x ⟨hp, Ne.symm e⟩ hq hx'

theorem flat_plain {a : AV} (h : a.flat = true) : a.plain = true := by
  cases a <;> first | rfl | cases h
theorem mapO_of {f : AV → Option AV} : ∀ {cs : List AV} (P : Nat → AV → AV → Prop), (∀ j x, cs[j]? = some x → ∃ y, f x = some y ∧ P j x y) → ∃ l, mapO f cs = some l ∧ l.length = cs.length ∧ ∀ j x y, cs[j]? = some x → l[j]? = some y → P j x y
  | [], P, h => ⟨[], rfl, rfl, fun j x y hx => by simp at hx⟩
  | x :: cs, P, h => by
    obtain ⟨y, h1, h2⟩ := h 0 x rfl
    obtain ⟨l, h3, h4, h5⟩ := mapO_of (f := f) (cs := cs) (fun j => P (j + 1)) (fun j x hx => h (j + 1) x hx)
    refine ⟨y :: l, by rw [mapO_cons, h1, h3], by simp [h4], fun j x' y' hx hy => ?_⟩
    cases j with
    | zero => simp at hx hy; subst hx; subst hy; exact h2
    | succ j => exact h5 j x' y' (by simpa using hx) (by simpa using hy)
theorem cells_imm {A : Tok} {V : VSt} {st : St} (h : R A V st) {v : TV} {ovs : List (Nat × VV)} {cs : List AV} {ts : List TV} {k : TV → Prop} (hc : CellsR A v ovs cs ts) (hk : toTs V ovs v k) (d : Nat) :
    ∃ u us cs', mapO (toImm (d + 2) st.H) cs = some cs' ∧ cellsT u = some us ∧ CanF us cs' ∧ k u ∧ (∀ l, v = .a l → ∃ l', u = .a l') ∧ ((∀ x ∈ cs, AV.flat x = true) → cs' = cs) := by
  obtain ⟨u, us, h1, h2, h3, h4, h5⟩ := toTs_sim h d ovs (fun _ => True) v ts cs k hc.cells hc.len (fun j t x _ ht hx => by
    have := hc.at_ j t x ht hx
    unfold CellR at this
    cases ho : ovAt j ovs with
    | none => trivial
    | some w => rw [ho] at this; exact this) hk
  obtain ⟨cs', g1, g2, g3⟩ := mapO_of (f := toImm (d + 2) st.H) (cs := cs) (fun j x y => ∀ u', us[j]? = some u' → Can u' y ∧ y.flat = true ∧ (x.flat = true → y = x)) (fun j x hx => by
    have hlt : j < us.length := by rw [h2, hc.len]; exact (List.getElem?_eq_some_iff.1 hx).1
    have hu : us[j]? = some us[j] := List.getElem?_eq_getElem _
    have hp := h5 j _ x trivial hu hx
    cases ho : ovAt j ovs with
    | none =>
      rw [ho] at hp
      have hq := hc.at_ j _ x hp hx
      rw [ho] at hq
      exact ⟨x, imm_flat hq.2 (d + 1) st.H, fun u' hu' => by rw [hu] at hu'; cases hu'; exact ⟨hq.1, hq.2, fun _ => rfl⟩⟩
    | some w =>
      rw [ho] at hp
      obtain ⟨a', p1, p2, p3, p4⟩ := hp
      exact ⟨a', p1, fun u' hu' => by rw [hu] at hu'; cases hu'; exact ⟨p2, p3, fun hf => p4 (flat_plain hf)⟩⟩)
  have hlen : us.length = cs'.length := by rw [g2, h2, hc.len]
  have both : ∀ j y, cs'[j]? = some y → ∃ x u', cs[j]? = some x ∧ us[j]? = some u' := fun j y hy => by
    have hlt := (List.getElem?_eq_some_iff.1 hy).1
    exact ⟨cs[j]'(by omega), us[j]'(by omega), List.getElem?_eq_getElem _, List.getElem?_eq_getElem _⟩
  refine ⟨u, us, cs', g1, h1, ⟨⟨hlen, fun j t y ht hy => ?_⟩, fun y hy => ?_⟩, h3, h4, fun hf => ?_⟩
  · obtain ⟨x, u', hx, hu⟩ := both j y hy
    exact (g3 j x y hx hy t ht).1
  · obtain ⟨j, hj⟩ := List.getElem?_of_mem hy
    obtain ⟨x, u', hx, hu⟩ := both j y hj
    exact (g3 j x y hx hj u' hu).2.1
  · apply List.ext_getElem?
    intro j
    cases hy : cs'[j]? with
    | none =>
      rw [List.getElem?_eq_none_iff] at hy
      exact (List.getElem?_eq_none_iff.2 (by omega)).symm
    | some y =>
      obtain ⟨x, u', hx, hu⟩ := both j y hy
      rw [hx, (g3 j x y hx hy u' hu).2.2 (hf x (List.mem_of_getElem? hx))]
theorem toT_sim {A : Tok} {V : VSt} {st : St} (h : R A V st) {w : VV} {a : AV} {k : TV → Prop} (hv : VR A w a) (hk : toT V w k) (d : Nat) :
    ∃ t a', toImm (d + 3) st.H a = some a' ∧ Can t a' ∧ (a.plain = true → a' = a) ∧ k t := by
  cases hv <;> first | (cases hk; done) | skip
  · rename_i v hc; exact ⟨v, a, imm_plain (can_plain hc) d _, hc, fun _ => rfl, hk⟩
  · exact ⟨_, _, rfl, .nil, fun _ => rfl, hk⟩
  · exact ⟨_, _, rfl, can_nil1, fun _ => rfl, hk⟩
  · rename_i O hO
    obtain ⟨es, a', h1, h2, h3, h4, h5⟩ := slOf_sim h (w := .sl O) (x := a) hO hk (d + 1)
    exact ⟨_, a', h1, h2, h4, h5⟩
  · rename_i v ovs cs ts hv hc
    obtain ⟨u, us, cs', h1, h2, h3, h4, h5, h6⟩ := cells_imm h hc hk d
    obtain ⟨l', rfl⟩ := h5 _ hv
    cases h2
    refine ⟨_, .agg cs', by rw [toImm_agg, h1], .a _ _ h3.1.1 h3.2 h3.1.2, fun hp => ?_, h4⟩
    rw [h6 (allB_true.1 hp)]

/-! ### Arguments -/
theorem nilsB_at : ∀ {ovs : List (Nat × VV)}, nilsB ovs = true → ∀ j w, ovAt j ovs = some w → w = .nil0
  | [], h, j, w, hj => by simp [ovAt] at hj
  | (i, x) :: r, h, j, w, hj => by
    cases x <;> first | (cases h; done) | skip
    rw [ovAt_cons] at hj
    split at hj
    · cases hj; rfl
    · exact nilsB_at (ovs := r) h j w hj
theorem cells_plain {A : Tok} {v : TV} {ovs : List (Nat × VV)} {cs : List AV} {ts : List TV} (hc : CellsR A v ovs cs ts) (h : nilsB ovs = true) : (AV.agg cs).plain = true := by
  refine allB_true.2 (fun x hx => ?_)
  obtain ⟨j, hj⟩ := List.getElem?_of_mem hx
  have hlt : j < ts.length := by rw [hc.len]; exact (List.getElem?_eq_some_iff.1 hj).1
  have := hc.at_ j _ x (List.getElem?_eq_getElem hlt) hj
  cases ho : ovAt j ovs with
  | none => rw [ho] at this; exact this.2
  | some w =>
    rw [ho] at this
    have hw := nilsB_at h j w ho
    subst hw
    rcases this with rfl | rfl <;> rfl
theorem argsK_sim {A : Tok} {V : VSt} {st : St} {g : G} (h : R A V st) (ha : act g) : ∀ (xs : List Opd) (k : Bool → List TV → Prop), argsK V g xs k →
    ∃ p ts as', k p ts ∧ mapO (toImm deep st.H) (xs.map (ev st.env)) = some as' ∧ CanL ts as' ∧ (allB AV.plain (xs.map (ev st.env)) = true → as' = xs.map (ev st.env)) ∧ (p = true → allB AV.plain (xs.map (ev st.env)) = true)
  | [], k, hk => ⟨true, [], [], hk, rfl, ⟨rfl, fun j t x ht => by simp at ht⟩, fun _ => rfl, fun _ => rfl⟩
  | x :: xs, k, hk => by
    obtain ⟨w, hw, hk⟩ := rdK_sim h ha hk
    have fin : ∀ (t : TV) (a' : AV) (kk : Bool → List TV → Prop) (q : Bool), toImm deep st.H (ev st.env x) = some a' → Can t a' → ((ev st.env x).plain = true → a' = ev st.env x) → (q = true → (ev st.env x).plain = true) →
        argsK V g xs kk → (∀ p vs, kk p vs → k (q && p) (t :: vs)) →
        ∃ p ts as', k p ts ∧ mapO (toImm deep st.H) ((x :: xs).map (ev st.env)) = some as' ∧ CanL ts as' ∧ (allB AV.plain ((x :: xs).map (ev st.env)) = true → as' = (x :: xs).map (ev st.env)) ∧ (p = true → allB AV.plain ((x :: xs).map (ev st.env)) = true) := by
      intro t a' kk q h1 h2 h3 hq h4 h5
      obtain ⟨p, ts, as', g1, g2, g3, g4, g5⟩ := argsK_sim h ha xs kk h4
      refine ⟨q && p, t :: ts, a' :: as', h5 _ _ g1, ?_, ⟨by simp [g3.1], fun j u y hu hy => ?_⟩, fun hp => ?_, fun hp => ?_⟩
      · rw [List.map_cons, mapO_cons, h1, g2]
      · cases j with
        | zero => simp at hu hy; subst hu; subst hy; exact h2
        | succ j => exact g3.2 j u y (by simpa using hu) (by simpa using hy)
      · rw [List.map_cons] at hp ⊢
        have hp' := allB_true.1 hp
        rw [h3 (hp' _ List.mem_cons_self), g4 (allB_true.2 fun y hy => hp' y (List.mem_cons_of_mem _ hy))]
      · rw [Bool.and_eq_true] at hp
        rw [List.map_cons, allB_true]
        intro y hy
        rcases List.mem_cons.1 hy with rfl | hy
        · exact hq hp.1
        · exact allB_true.1 (g5 hp.2) y hy
    generalize ev st.env x = a at hw fin
    have tree : ∀ {t : TV}, Can t a → argsK V g xs (fun p vs => k p (t :: vs)) → _ := fun {t} hc hk =>
      fin t a _ true (imm_plain (can_plain hc) 27 _) hc (fun _ => rfl) (fun _ => can_plain hc) hk (fun p vs hh => by rw [Bool.true_and]; exact hh)
    cases hw with
    | tr hc => exact tree hc hk
    | nil0 => exact tree .nil hk
    | nil1 => exact tree can_nil1 hk
    | sl hO =>
      obtain ⟨t, a', h1, h2, h3, h4⟩ := toT_sim h (.sl hO) hk 27
      exact fin t a' _ false h1 h2 h3 (fun hh => by cases hh) h4 (fun p vs hh => hh)
    | @st v ovs cs ts hv hc =>
      obtain ⟨t, a', h1, h2, h3, h4⟩ := toT_sim h (.st hv hc) hk 27
      exact fin t a' _ (nilsB ovs) h1 h2 h3 (fun hh => cells_plain hc hh) h4 (fun p vs hh => hh)
    | _ => cases hk
end Go.Ax.V
