/- Code over values is the interpreter's; functions. -/
import Derived.Test.YtamgnhdbeecapaaVE
set_option linter.unusedSimpArgs false
set_option linter.unusedVariables false
namespace Go.Ax.V

def _root_.Go.Ax.V.VCode.ok : VCode → Bool
  | .seq a b => a.ok && b.ok
  | .cond _ a b => a.ok && b.ok
  | .block _ c => c.ok
  | .loop J c => J.all entPos && c.ok
  | .join J c => J.all entPos && c.ok
  | _ => true

section
variable {sh : Sh} {prog : Map AFunc} {nt : Nat}

theorem evK_sim (hsh : sh.vs = VSh prog) : ∀ (c : VCode) (V : VSt) (A : Tok) (st : St) (k : AExit → VSt → Prop), c.ok = true → R A V st → evK sh prog nt c V k →
    WC (runFn prog) (runCode prog) nt c.code st (fun x st' => ∃ V' A', R A' V' st' ∧ Fr V A st.H st.nx V' A' st'.H st'.nx ∧ k x V') := by
  intro c
  induction c with
  | skip => intro V A st k _ hR h; exact wc_skip ⟨V, A, hR, Fr.refl _ _ _ _, h⟩
  | exit id => intro V A st k _ hR h; exact wc_exit ⟨V, A, hR, Fr.refl _ _ _ _, h⟩
  | ret => intro V A st k _ hR h; exact wc_ret ⟨V, A, hR, Fr.refl _ _ _ _, h⟩
  | dreg ops ahead pairs =>
    intro V A st k _ hR h
    obtain ⟨st', h1, V', A', h2, h3, h4⟩ := evD_sim hsh hR h
    exact wc_dreg h1 ⟨V', A', h2, h3, h4⟩
  | reg ops =>
    intro V A st k _ hR h
    obtain ⟨st', h1, V', A', h2, h3, _, h4⟩ := evOs_sim hsh hR h
    exact wc_reg ⟨st', h1, V', A', h2, h3, h4⟩
  | seq a b iha ihb =>
    intro V A st k hok hR h
    simp only [VCode.ok, Bool.and_eq_true] at hok
    refine wc_seq (wc_mono (iha V A st _ hok.1 hR h) ?_)
    rintro x st' ⟨V', A', h1, h2, h3⟩
    cases x with
    | normal =>
      refine wc_mono (ihb V' A' st' k hok.2 h1 h3) ?_
      rintro y st2 ⟨V2, A2, g1, g2, g3⟩
      exact ⟨V2, A2, g1, h2.trans g2, g3⟩
    | exit i => exact ⟨V', A', h1, h2, h3⟩
    | ret => exact ⟨V', A', h1, h2, h3⟩
  | cond c a b iha ihb =>
    intro V A st k hok hR h
    simp only [VCode.ok, Bool.and_eq_true] at hok
    obtain ⟨cv, hc, h⟩ := rdT_sim (g := none) hR trivial h
    unfold condK at h
    split at h
    · rename_i x
      generalize he : ev st.env c = p at hc
      cases hc
      cases x with
      | true => exact wc_cond_true he (iha V A st k hok.1 hR h)
      | false => exact wc_cond_false he (ihb V A st k hok.2 hR h)
    · cases h
  | block id c ih =>
    intro V A st k hok hR h
    refine wc_block (wc_mono (ih V A st _ hok hR h) ?_)
    rintro x st' ⟨V', A', h1, h2, h3⟩
    cases x with
    | normal => exact ⟨V', A', h1, h2, h3⟩
    | ret => exact ⟨V', A', h1, h2, h3⟩
    | exit i =>
      simp only [blockQ]
      simp only [cond_eq_ite, Nat.beq_eq] at h3
      by_cases hi : i = id
      · rw [if_pos hi] at h3 ⊢; exact ⟨V', A', h1, h2, h3⟩
      · rw [if_neg hi] at h3 ⊢; exact ⟨V', A', h1, h2, h3⟩
  | loop J c ih =>
    intro V A st k hok hR h
    simp only [VCode.ok, Bool.and_eq_true] at hok
    obtain ⟨I, ⟨n, h1⟩, h2⟩ := h
    refine wc_loop (fun (n : Nat) st1 => ∃ V1 A1, R A1 V1 st1 ∧ Fr V A st.H st.nx V1 A1 st1.H st1.nx ∧ prJ J V1 (I n)) (fun n => n) ?_ n st ⟨V, A, hR, Fr.refl _ _ _ _, h1⟩
    rintro m st1 ⟨V1, A1, g1, g2, g3⟩
    obtain ⟨Vc, A2, p1, p2, p3⟩ := meet_sim g1 hok.1 g3 (h2 m)
    refine wc_mono (ih Vc A2 st1 _ hok.2 p2 p1) ?_
    rintro x st2 ⟨V2, A3, q1, q2, q3⟩
    have hfr := g2.trans (p3.trans q2)
    cases x with
    | normal => obtain ⟨m', hm, q3⟩ := q3; exact ⟨m', hm, V2, A3, q1, hfr, q3⟩
    | exit i => exact ⟨V2, A3, q1, hfr, q3⟩
    | ret => exact ⟨V2, A3, q1, hfr, q3⟩
  | join J c ih =>
    intro V A st k hok hR h
    simp only [VCode.ok, Bool.and_eq_true] at hok
    obtain ⟨I, h1, h2⟩ := h
    refine wc_mono (ih V A st _ hok.2 hR h1) ?_
    rintro x st' ⟨V', A', g1, g2, g3⟩
    cases x with
    | normal =>
      obtain ⟨Vc, A2, p1, p2, p3⟩ := meet_sim g1 hok.1 g3 h2
      exact ⟨Vc, A2, p2, g2.trans p3, p1⟩
    | exit i => exact ⟨V', A', g1, g2, g3⟩
    | ret => exact ⟨V', A', g1, g2, g3⟩

/-! ### Functions -/
theorem init_sim {A : Tok} {H : Heap} {nx : Nat} : ∀ (ts : List TV) (as : List AV) (i : Nat) (V : VSt) (e : Env), CanL ts as → R A V ⟨e, H, nx⟩ → R A (initV ts i V) ⟨initE as i e, H, nx⟩
  | [], as, i, V, e, hc, hR => by
    have : as = [] := List.length_eq_zero_iff.1 hc.1.symm
    subst this; exact hR
  | t :: ts, [], i, V, e, hc, hR => by cases hc.1
  | t :: ts, a :: as, i, V, e, hc, hR => by
    refine init_sim ts as (i + 1) _ _ ⟨Nat.succ.inj hc.1, fun j u x hu hx => hc.2 (j + 1) u x hu hx⟩ ?_
    exact hR.put (e := ⟨none, .tr t⟩) (v := a) (fun _ => .tr (hc.2 0 t a rfl rfl))
theorem resOne_sim {A : Tok} {V : VSt} {st : St} (hR : R A V st) {r : ARes} {k : TV → Prop} (h : resOneK V r k) (d : Nat) : ∃ v t a, resOne st.env st.H r = some v ∧ toImm (d + 3) st.H v = some a ∧ Can t a ∧ k t := by
  cases r with
  | tmp t =>
    simp only [resOneK] at h
    obtain ⟨w, hw, h⟩ := rdK_sim (g := none) hR trivial h
    obtain ⟨t', a, h1, h2, h3, h4⟩ := toT_sim hR hw h d
    exact ⟨_, t', a, rfl, h1, h2, h4⟩
  | cell t sz =>
    simp only [resOneK] at h
    obtain ⟨w, hw, h⟩ := rdK_sim (g := none) hR trivial h
    generalize he : ev st.env (.t t) = p at hw
    cases hw with
    | @ptr O off id hO =>
      simp only at h
      split at h
      rotate_left
      · cases h
      rename_i v ovs ho
      obtain ⟨y, hy, id', cs, ts, rfl, hH, hc⟩ := hR.heap O _ ho
      rw [hO] at hy; cases hy
      have fin : ∀ {l : List AV} {v' t' a : _}, cut cs off (loadA sz) = some l → mkv sz l = some v' → toImm (d + 3) st.H v' = some a → Can t' a → k t' → ∃ v t_1 a, resOne st.env st.H (.cell t sz) = some v ∧ toImm (d + 3) st.H v = some a ∧ Can t_1 a ∧ k t_1 := by
        intro l v' t' a h1 h2 h3 h4 h5
        refine ⟨v', t', a, ?_, h3, h4, h5⟩
        simp only [resOne, he, fetch, hH, cond_eq_ite, Nat.beq_eq, if_pos, h1]
        exact h2
      split at h
      · split at h
        · rename_i w hw
          have hlt := hc.keys _ _ hw
          have hx : cs[off]? = some (cs[off]'(by rw [← hc.len]; exact hlt)) := List.getElem?_eq_getElem _
          have hs := hc.at_ off _ _ (List.getElem?_eq_getElem hlt) hx
          rw [hw] at hs
          obtain ⟨es, a', g1, g2, g3, g4, g5⟩ := slOf_sim hR hs h (d + 1)
          exact fin (cell_cut hx) rfl g1 g2 g5
        · rename_i ho'
          obtain ⟨u, h1, h2⟩ := h
          obtain ⟨x, h3, h4, h5⟩ := cells_ld hc h1 ho'
          exact fin h3 rfl (imm_flat h5 _ _) h4 h2
      · rename_i n
        obtain ⟨u, h1, h2⟩ := h
        obtain ⟨l, ls, h3, h4, h5⟩ := cells_sub hc h1
        obtain ⟨u', us, cs', g1, g2, g3, g4, g5, g6⟩ := cells_imm hR h5 h2 d
        obtain ⟨l', rfl⟩ := g5 _ h4
        cases g2
        exact fin h3 rfl (by rw [toImm_agg, g1]) (.a _ _ g3.1.1 g3.2 g3.1.2) g4
    | _ => cases h
theorem resK_sim {A : Tok} {V : VSt} {st : St} (hR : R A V st) (d : Nat) : ∀ (rs : List ARes) (k : List TV → Prop), resK V rs k → ∃ vs ts as, mapO (resOne st.env st.H) rs = some vs ∧ mapO (toImm (d + 3) st.H) vs = some as ∧ CanL ts as ∧ k ts
  | [], k, h => ⟨[], [], [], rfl, rfl, ⟨rfl, fun j t x ht => by simp at ht⟩, h⟩
  | r :: rs, k, h => by
    obtain ⟨v, t, a, h1, h2, h3, h4⟩ := resOne_sim hR h d
    obtain ⟨vs, ts, as, g1, g2, g3, g4⟩ := resK_sim hR d rs _ h4
    refine ⟨v :: vs, t :: ts, a :: as, by rw [mapO_cons, h1, g1], by rw [mapO_cons, h2, g2], ⟨by simp [g3.1], fun j u x hu hx => ?_⟩, g4⟩
    cases j with
    | zero => simp at hu hx; subst hu; subst hx; exact h3
    | succ j => exact g3.2 j u x (by simpa using hu) (by simpa using hx)
theorem noTps_mem : ∀ {ts : List TV}, noTps ts → ∀ t ∈ ts, t.isTp = false
  | [], _, t, ht => by cases ht
  | x :: ts, h, t, ht => by
    rcases List.mem_cons.1 ht with rfl | ht
    · exact h.1
    · exact noTps_mem h.2 t ht
theorem can_plain1 {t : TV} {a : AV} (h : Can t a) (ht : t.isTp = false) : a.plain1 = true := by
  cases h with
  | a ts as hl hf h => exact allB_true.2 hf
  | tp ts as hl hf h => cases ht
  | _ => rfl
/-- WHAT A FUNCTION ANSWERS. -/
theorem vs_of {f : Nat} {af : AFunc} {vc : VCode} {ts : List TV} {Q : TV → Prop} (hf : prog.get f = some af) (hc : vc.code = af.body) (hok : vc.ok = true) (hl : ts.length = af.params) (hsh : sh.vs = VSh prog) (h : evFn sh prog af vc ts Q) : VS prog f ts Q := by
  intro as ha
  have h0 : R (fun _ => none) V0 ⟨.leaf, .leaf, 0⟩ := ⟨fun t e he => (by cases he), fun O o ho => (by cases ho), fun O O' o o' a a' id ho => (by cases ho), fun _ _ => rfl, fun O a ha => (by cases ha), fun id o ho => (by cases ho)⟩
  have hR := init_sim ts as 0 V0 .leaf ha h0
  have hw := evK_sim hsh (nt := af.nt) vc _ _ _ _ hok hR h
  rw [hc] at hw
  obtain ⟨⟨v, H', nx'⟩, h1, h2⟩ := fn_of_body (r := fun p => ∃ a, toImm deep p.2.1 p.1 = some a ∧ ∃ r, Can r a ∧ Q r) hf (by rw [← ha.1]; exact hl) (wc_mono hw (by
    rintro x st' ⟨V', A', g1, g2, g3, g4⟩
    refine ⟨(by cases x <;> first | exact .inl rfl | exact .inr rfl | cases g3), ?_⟩
    obtain ⟨vs, rs, as', p1, p2, p3, p4, p5⟩ := resK_sim g1 26 af.res _ g4
    have many : vs.length ≠ 1 → ∃ v, resA af.res st' = some v ∧ ∃ a, toImm deep v.2.1 v.1 = some a ∧ ∃ r, Can r a ∧ Q r := by
      intro hne
      have hl1 := (mapO_some p2).1
      have hlr : rs.length = vs.length := by rw [p3.1, hl1]
      have e1 : resA af.res st' = some (.tup vs, st'.H, st'.nx) := by
        unfold resA
        rw [p1]
        match vs, hne with
        | [], _ => rfl
        | [_], h => exact absurd rfl h
        | _ :: _ :: _, _ => rfl
      have e2 : tupT rs = .tp rs := by
        match rs, hlr with
        | [], _ => rfl
        | [_], h => exact absurd h.symm hne
        | _ :: _ :: _, _ => rfl
      have e3 : noTps rs := by
        match rs, hlr, p4 with
        | [], _, _ => trivial
        | [_], h, _ => exact absurd h.symm hne
        | _ :: _ :: _, _, h => exact h
      refine ⟨_, e1, .tup as', ?_, _, ?_, by rw [e2] at p5; exact p5⟩
      · show toImm (29 + 1) _ _ = _
        rw [toImm_tup]
        have p2' : mapO (toImm 29 st'.H) vs = some as' := p2
        rw [p2']
      · refine .tp _ _ p3.1 (fun x hx => ?_) p3.2
        obtain ⟨j, hj⟩ := List.getElem?_of_mem hx
        have hlt : j < rs.length := by rw [p3.1]; exact (List.getElem?_eq_some_iff.1 hj).1
        exact can_plain1 (p3.2 j _ x (List.getElem?_eq_getElem hlt) hj) (noTps_mem e3 _ (List.getElem_mem hlt))
    by_cases hv : vs.length = 1
    · obtain ⟨vs', rs', as2, q1, q2, q3, q5⟩ := resK_sim g1 27 af.res _ g4
      rw [p1] at q1; cases q1
      obtain ⟨v, rfl⟩ := List.length_eq_one_iff.1 hv
      have hl1 := (mapO_some q2).1
      obtain ⟨a, rfl⟩ := List.length_eq_one_iff.1 hl1.symm
      obtain ⟨r, rfl⟩ := List.length_eq_one_iff.1 (show rs'.length = 1 by rw [q3.1]; rfl)
      refine ⟨(v, st'.H, st'.nx), by unfold resA; rw [p1], a, ?_, r, q3.2 0 r a rfl rfl, q5.2⟩
      rw [mapO_cons] at q2
      show toImm (27 + 3) st'.H v = some a
      cases hh : toImm (27 + 3) st'.H v with
      | none => rw [hh] at q2; cases q2
      | some y => rw [hh] at q2; cases q2; rfl
    · exact many hv))
  exact ⟨v, H', nx', h1, h2⟩
end
end Go.Ax.V
