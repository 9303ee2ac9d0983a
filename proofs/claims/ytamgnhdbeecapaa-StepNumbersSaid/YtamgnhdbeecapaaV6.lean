/- Literals of slices. -/
import Derived.Test.YtamgnhdbeecapaaV5
set_option linter.unusedSimpArgs false
set_option linter.unusedVariables false
namespace Go.Ax.V

section
variable {prog : Map AFunc} {cf : FnF} {nt : Nat} {A : Tok} {V : VSt} {st : St} {d : Option Nat} {g : G} {k : VSt → Prop}

theorem ids_flat {a : AV} (h : a.flat = true) (d : Nat) (H : Heap) : idsOf (d + 1) H a = [] := by
  cases a <;> first | rfl | cases h
theorem ids_flats {cs : List AV} (h : ∀ x ∈ cs, AV.flat x = true) (d : Nat) (H : Heap) : cs.flatMap (idsOf (d + 1) H) = [] := by
  rw [List.flatMap_eq_nil_iff]; exact fun x hx => ids_flat (h x hx) d H
theorem ids_plain1 {a : AV} (h : a.plain1 = true) (d : Nat) (H : Heap) : idsOf (d + 2) H a = [] := by
  rcases plain1_or h with h | ⟨cs, rfl, h'⟩
  · exact ids_flat h (d + 1) H
  · rw [idsOf_agg, ids_flats h']
theorem ids_plain {a : AV} (h : a.plain = true) (d : Nat) (H : Heap) : idsOf (d + 3) H a = [] := by
  rcases plain_or h with h | ⟨cs, rfl, h'⟩
  · exact ids_plain1 h (d + 1) H
  · rw [idsOf_tup, List.flatMap_eq_nil_iff]; exact fun x hx => ids_plain1 (h' x hx) d H
theorem ids_sl {H : Heap} {sz : Nat} {es : List TV} {a : AV} (h : SlR H sz es a) (d : Nat) : ∀ id ∈ idsOf (d + 2) H a, idOf a = some id := by
  obtain ⟨hz, h⟩ := h
  rcases h with ⟨rfl, rfl | rfl⟩ | ⟨id, g, b, cells, rfl, hH, hb, he⟩
  · intro id hi; cases hi
  · intro id hi; cases hi
  · intro id' hi
    have hl : cells.length = b + es.length * sz := by have := he.len; rw [List.length_drop] at this; omega
    have hc : cut cells b (Nat.mul es.length sz) = some (cells.drop b) := by
      rw [cut_eq, if_pos (by show b + es.length * sz ≤ _; omega), List.take_of_length_le]
      rw [List.length_drop]; show _ ≤ es.length * sz; omega
    rw [idsOf_ref, hH] at hi
    simp only [hc, ids_flats he.flat] at hi
    simp at hi
    subst hi; rfl

/-- objects are given up -/
structure Sub (V V' : VSt) : Prop where
  env : V'.env = V.env
  us : V'.us = V.us
  H : ∀ O o, V'.H.get O = some o → V.H.get O = some o
theorem Sub.refl (V : VSt) : Sub V V := ⟨rfl, rfl, fun _ _ h => h⟩
theorem Sub.trans {V V1 V2 : VSt} (h : Sub V V1) (h' : Sub V1 V2) : Sub V V2 := ⟨h'.env.trans h.env, h'.us.trans h.us, fun O o hh => h.H O o (h'.H O o hh)⟩
theorem Sub.own {V V' : VSt} (h : Sub V V') {A : Tok} {id : Nat} (ho : Own V' A id) : Own V A id := let ⟨O, o, a, h1, h2, h3⟩ := ho; ⟨O, o, a, h.H _ _ h1, h2, h3⟩
theorem Sub.r {V V' : VSt} (h : Sub V V') {A : Tok} {st : St} (hR : R A V st) : R A V' st := hR.sub h.env h.us h.H
theorem sub_dropO (V : VSt) (O : Nat) : Sub V (dropO V O) := ⟨rfl, rfl, fun _ _ h => (dropO_get h).2⟩
theorem sub_dropVV (V : VSt) (w : VV) : Sub V (dropVV V w) := by
  cases w <;> first | exact sub_dropO V _ | exact Sub.refl V
theorem sub_dropOvs : ∀ (l : List (Nat × VV)) (V : VSt), Sub V (dropOvs V l)
  | [], V => Sub.refl V
  | (_, w) :: r, V => (sub_dropVV V w).trans (sub_dropOvs r _)
theorem gone_dropO {V : VSt} {A : Tok} {st : St} (hR : R A V st) {O : Nat} {o : VO} {a : AV} {id : Nat} (hV : V.H.get O = some o) (hA : A O = some a) (hi : idOf a = some id) : ¬ Own (dropO V O) A id := by
  rintro ⟨O', o', a', h1, h2, h3⟩
  obtain ⟨hne, h1'⟩ := dropO_get h1
  exact hne (hR.inj O' O _ _ a' a id h1' hV h2 hA h3 hi)
theorem ovAt_mem {j : Nat} {w : VV} : ∀ {l : List (Nat × VV)}, ovAt j l = some w → (j, w) ∈ l
  | [], h => by cases h
  | (i, w') :: r, h => by
    rw [ovAt_cons] at h
    split at h
    · rename_i e; subst e; cases h; exact List.mem_cons_self
    · exact List.mem_cons_of_mem _ (ovAt_mem h)
theorem gone_ovs : ∀ {l : List (Nat × VV)} {V : VSt} {O : Nat} {j : Nat}, (j, VV.sl O) ∈ l → (dropOvs V l).H.get O = none
  | (i, w) :: r, V, O, j, h => by
    have keep : ∀ {V : VSt}, V.H.get O = none → (dropOvs V r).H.get O = none := fun {V} hn => by
      cases hh : (dropOvs V r).H.get O with
      | none => rfl
      | some o => have := (sub_dropOvs r V).H O o hh; rw [hn] at this; cases this
    rcases List.mem_cons.1 h with h | h
    · cases h
      exact keep (by show (V.H.put none O).get O = none; rw [Map.get_put, if_pos rfl])
    · exact gone_ovs (l := r) (V := dropVV V w) h
theorem gone_own {V V' : VSt} {A : Tok} {st : St} (hR : R A V st) (hs : Sub V V') {O : Nat} {o : VO} {a : AV} {id : Nat} (hV : V.H.get O = some o) (hA : A O = some a) (hi : idOf a = some id) (hg : V'.H.get O = none) : ¬ Own V' A id := by
  rintro ⟨O', o', a', h1, h2, h3⟩
  have := hR.inj O' O _ _ a' a id (hs.H _ _ h1) hV h2 hA h3 hi
  subst this
  rw [hg] at h1; cases h1

/-- an element of a literal, as it stands in memory -/
noncomputable def rhoF (fz : Bool) (st : St) (x : Opd) : AV := match fz with
  | true => immρ st.H (ev st.env) x
  | false => ev st.env x
theorem imm_rho {st : St} {x : Opd} {a' : AV} (h : toImm deep st.H (ev st.env x) = some a') : immρ st.H (ev st.env) x = a' := by simp only [immρ, h]
theorem szOk_cells {n : Nat} {t : TV} (h : szOk n t) : ∃ l, cellsT t = some l ∧ l.length = n := by
  unfold szOk at h
  split at h
  · rename_i l hl; exact ⟨l, hl, h⟩
  · cases h

theorem toTs_there {V : VSt} : ∀ {l : List (Nat × VV)} {v : TV} {k : TV → Prop}, toTs V l v k → ∀ j O, (j, VV.sl O) ∈ l → ∃ z es, V.H.get O = some (.gr z es)
  | [], v, k, h, j, O, hm => by cases hm
  | (off, w) :: r, v, k, h, j, O, hm => by
    have ex : ∀ {l : List (Nat × VV)} {v : TV} {k : TV → Prop}, toTs V l v k → ∃ u, k u := by
      intro l
      induction l with
      | nil => intro v k h; exact ⟨v, h⟩
      | cons p l ih =>
        intro v k h
        obtain ⟨off, w⟩ := p
        obtain ⟨u, hu⟩ := ih h
        obtain ⟨es, u', _, hk⟩ := slOf_ex hu
        exact ⟨u', hk⟩
    rcases List.mem_cons.1 hm with hm | hm
    · cases hm
      obtain ⟨u, hu⟩ : ∃ u, slOf V (.sl O) (fun es => ∃ u', putT u off 1 (.l es) = some u' ∧ k u') := ex (l := r) h
      unfold slOf at hu
      split at hu
      · rename_i heq
        cases heq
        split at hu
        · rename_i z es ho; exact ⟨z, es, ho⟩
        · cases hu
      · rename_i heq; cases heq
      · rename_i hne _; exact (hne O rfl).elim
    · exact toTs_there (l := r) h j O hm

structure ElK (A : Tok) (st : St) (fz : Bool) (sz : Nat) (V : VSt) (j : Nat) (parts : List (Nat × Nat × Opd)) (ts : List TV) (V' : VSt) : Prop where
  sub : Sub V V'
  len : ts.length = parts.length
  fill : ∀ cells : List AV, (j + parts.length) * sz ≤ cells.length → ∃ cells', fill (rhoF fz st) parts cells = some cells' ∧ cells'.length = cells.length ∧ (∀ q, q < j * sz → cells'[q]? = cells[q]?) ∧
    (∀ q, (j + parts.length) * sz ≤ q → cells'[q]? = cells[q]?) ∧ (∀ q x, j * sz ≤ q → q < (j + parts.length) * sz → cells'[q]? = some x → x.flat = true) ∧ ∀ i t, ts[i]? = some t → CanC t ((cells'.drop ((j + i) * sz)).take sz)
  imm : fz = true → ∃ l, mapO (toImm deep st.H) (parts.map fun p => ev st.env p.2.2) = some l
  ids : fz = true → ∀ id ∈ (parts.map fun p => ev st.env p.2.2).flatMap (idsOf deep st.H), Own V A id ∧ ¬ Own V' A id

theorem elK_cons {fz : Bool} {sz j off n : Nat} {x : Opd} {r : List (Nat × Nat × Opd)} {V V1 V' : VSt} {t : TV} {ts : List TV} {a' : AV} {l : List TV} {as : List AV} (hoff : off = j * sz) (hn : n = sz)
    (hrho : rhoF fz st x = a') (hc : cellsT t = some l) (hl : l.length = n) (has : a'.cells? = some as) (hca : CanF l as) (hs : Sub V V1) (him : fz = true → toImm deep st.H (ev st.env x) = some a')
    (hid : fz = true → ∀ id ∈ idsOf deep st.H (ev st.env x), Own V A id ∧ ¬ Own V1 A id) (h : ElK A st fz sz V1 (j + 1) r ts V') : ElK A st fz sz V j ((off, n, x) :: r) (t :: ts) V' := by
  subst hoff; subst hn
  refine ⟨hs.trans h.sub, by simp [h.len], fun cells hcl => ?_, fun hf => ?_, fun hf id hid' => ?_⟩
  · rw [List.length_cons] at hcl
    have hal : as.length = n := by rw [← hca.1.1]; exact hl
    have hj1 : (j + 1) * n = j * n + n := by rw [Nat.add_mul, Nat.one_mul]
    have hj2 : (j + 1 + r.length) * n = (j + (r.length + 1)) * n := by congr 1; omega
    have hle : (j + 1) * n ≤ (j + (r.length + 1)) * n := Nat.mul_le_mul_right n (by omega)
    have hov : over cells (j * n) as = some (cells.take (j * n) ++ as ++ cells.drop (j * n + as.length)) := by rw [over_eq, if_pos (by omega)]
    obtain ⟨ho1, ho2⟩ := over_at hov
    obtain ⟨cells', g1, g2, g3, g4, gf, g5⟩ := h.fill _ (by rw [ho1]; omega)
    refine ⟨cells', ?_, by rw [g2, ho1], fun q hq => ?_, fun q hq => ?_, fun q y hq1 hq2 hy => ?_, fun i u hu => ?_⟩
    · rw [fill_cons']
      simp only [hrho, has, cond_eq_ite, Nat.beq_eq, if_pos hal, hov, g1]
    · rw [g3 q (by omega), ho2, if_neg (by omega)]
    · rw [List.length_cons] at hq
      rw [g4 q (by omega), ho2, if_neg (by omega)]
    · rw [List.length_cons] at hq2
      by_cases hq : q < (j + 1) * n
      · rw [g3 q hq, ho2, if_pos (by omega)] at hy
        exact hca.2 y (List.mem_of_getElem? hy)
      · exact gf q y (by omega) (by omega) hy
    · cases i with
      | zero =>
        simp at hu; subst hu
        have : (cells'.drop (j * n)).take n = as := by
          apply List.ext_getElem?
          intro q
          rw [seg_get]
          by_cases hq : q < n
          · rw [if_pos hq, g3 _ (by omega), ho2, if_pos (by omega)]; congr 1; omega
          · rw [if_neg hq]; exact (List.getElem?_eq_none_iff.2 (by omega)).symm
        rw [Nat.add_zero, this]
        exact canC_iff.2 ⟨l, hc, hca.1⟩
      | succ i =>
        have := g5 i u (by simpa using hu)
        rwa [show j + 1 + i = j + (i + 1) by omega] at this
  · obtain ⟨l', hl'⟩ := h.imm hf
    exact ⟨a' :: l', by rw [List.map_cons, mapO_cons]; simp only [him hf, hl']⟩
  · rw [List.map_cons, List.flatMap_cons, List.mem_append] at hid'
    rcases hid' with hi | hi
    · obtain ⟨h1, h2⟩ := hid hf id hi
      exact ⟨h1, fun ho => h2 (h.sub.own ho)⟩
    · obtain ⟨h1, h2⟩ := h.ids hf id hi
      exact ⟨hs.own h1, h2⟩

theorem elemsK_sim {fz : Bool} {sz : Nat} : ∀ (parts : List (Nat × Nat × Opd)) (j : Nat) (V : VSt) (k : List TV → VSt → Prop), R A V st → elemsK V none fz sz j parts k → ∃ ts V', k ts V' ∧ ElK A st fz sz V j parts ts V'
  | [], j, V, k, hR, hk => ⟨[], V, hk, ⟨Sub.refl V, rfl, fun cells _ => ⟨cells, rfl, rfl, fun _ _ => rfl, fun _ _ => rfl, fun q x h1 h2 => by simp at h2; omega, fun i t hi => by simp at hi⟩, fun _ => ⟨[], rfl⟩, fun _ id hi => by simp at hi⟩⟩
  | (off, n, x) :: r, j, V, k, hR, hk => by
    obtain ⟨h1, hk⟩ := hk
    rw [Bool.and_eq_true, Nat.beq_eq, Nat.beq_eq] at h1
    obtain ⟨hoff, hn⟩ := h1
    obtain ⟨w, hw, hq⟩ := rdK_sim (g := none) hR trivial hk
    clear hk
    -- a tree as it stands
    have tree : ∀ {t : TV} {k' : List TV → VSt → Prop}, Can t (ev st.env x) → szOk n t → elemsK V none fz sz (j + 1) r k' → (∀ ts V', k' ts V' → k (t :: ts) V') → ∃ ts V', k ts V' ∧ ElK A st fz sz V j ((off, n, x) :: r) ts V' := by
      intro t k' hc hs hk hkk
      obtain ⟨l, hl1, hl2⟩ := szOk_cells hs
      obtain ⟨as, h1, h2⟩ := can_cells hc hl1
      obtain ⟨ts, V', g1, g2⟩ := elemsK_sim r (j + 1) V k' hR hk
      have him : toImm deep st.H (ev st.env x) = some (ev st.env x) := imm_plain (can_plain hc) 27 _
      refine ⟨t :: ts, V', hkk _ _ g1, elK_cons hoff hn ?_ hl1 hl2 h1 h2 (Sub.refl V) (fun _ => him) (fun _ id hi => ?_) g2⟩
      · cases fz with
        | true => exact imm_rho him
        | false => rfl
      · have hh : idsOf deep st.H (ev st.env x) = [] := ids_plain (can_plain hc) 27 _
        rw [hh] at hi
        cases hi
    generalize he : ev st.env x = a at hw
    cases hw with
    | tr hc => exact tree (he ▸ hc) hq.1 hq.2 (fun _ _ h => h)
    | nil0 => exact tree (he ▸ Can.nil) (by rw [hq.1]; rfl) hq.2 (fun _ _ h => h)
    | nil1 => exact tree (he ▸ can_nil1) (by rw [hq.1]; rfl) hq.2 (fun _ _ h => h)
    | @sl O _ hO =>
      obtain ⟨rfl, rfl, hk⟩ := hq
      simp only [slOf] at hk
      split at hk
      · rename_i z es ho
        obtain ⟨y, hy, hs⟩ := hR.heap O _ ho
        rw [hO] at hy; cases hy
        obtain ⟨a', g1, g2, g3, g4, g5⟩ := sl_imm hs 28
        have hsub : Sub V (dropVV V (.sl O)) := sub_dropVV V _
        obtain ⟨ts, V', g6, g7⟩ := elemsK_sim r (j + 1) _ _ (hsub.r hR) hk
        obtain ⟨as, p1, p2⟩ := can_cells (t := .l es) g2 rfl
        refine ⟨_, V', g6, elK_cons hoff hn (imm_rho (by rw [he]; exact g1)) rfl rfl p1 p2 hsub (fun _ => by rw [he]; exact g1) (fun _ id hi => ?_) g7⟩
        rw [he] at hi
        have hid := ids_sl hs 28 id hi
        exact ⟨⟨O, _, a, ho, hO, hid⟩, gone_dropO hR ho hO hid⟩
      · cases hk
    | @st t o cs tl hv hc =>
      obtain ⟨rfl, hk⟩ := hq
      have hthere := toTs_there hk
      obtain ⟨u, us, cs', h1, h2, h3, ⟨hs, hk⟩, h5, h6⟩ := cells_imm hR hc hk 27
      obtain ⟨l', rfl⟩ := h5 _ hv
      cases h2
      have hsub : Sub V (dropOvs V o) := sub_dropOvs o V
      obtain ⟨ts, V', g6, g7⟩ := elemsK_sim r (j + 1) _ _ (hsub.r hR) hk
      have him : toImm deep st.H (ev st.env x) = some (.agg cs') := by rw [he]; show toImm (29 + 1) _ _ = _; rw [toImm_agg, h1]
      refine ⟨_, V', g6, elK_cons hoff hn (imm_rho him) rfl hs rfl h3 hsub (fun _ => him) (fun _ id hi => ?_) g7⟩
      rw [he] at hi
      have hi' : id ∈ cs.flatMap (idsOf 29 st.H) := hi
      obtain ⟨y, hy, hi'⟩ := List.mem_flatMap.1 hi'
      obtain ⟨q, hq⟩ := List.getElem?_of_mem hy
      have hlt : q < tl.length := by rw [hc.len]; exact (List.getElem?_eq_some_iff.1 hq).1
      have hat := hc.at_ q _ y (List.getElem?_eq_getElem hlt) hq
      cases ho : ovAt q o with
      | none =>
        rw [ho] at hat
        have hh : idsOf 29 st.H y = [] := ids_flat hat.2 28 _
        rw [hh] at hi'; cases hi'
      | some w =>
        rw [ho] at hat
        cases w <;> first | (exact absurd hat (by intro hh; exact hh)) | skip
        · rcases hat with e | e <;> (rw [e] at hi'; cases hi')
        · rename_i O
          have hO : A O = some y := hat
          obtain ⟨z, es, hO'⟩ := hthere q O (ovAt_mem ho)
          obtain ⟨y', hy', hs'⟩ := hR.heap O _ hO'
          rw [hO] at hy'; cases hy'
          have hidy := ids_sl hs' 27 id hi'
          exact ⟨⟨O, _, y, hO', hO, hidy⟩, gone_own hR hsub hO' hO hidy (gone_ovs (ovAt_mem ho))⟩
    | _ => cases hq
end
end Go.Ax.V
