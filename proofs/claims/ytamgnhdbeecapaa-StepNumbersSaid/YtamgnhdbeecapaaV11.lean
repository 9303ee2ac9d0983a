/- Every operation, under its guard; rows of operations. -/
import Derived.Test.YtamgnhdbeecapaaVS
set_option linter.unusedSimpArgs false
set_option linter.unusedVariables false
namespace Go.Ax.V

section
variable {sh : Sh} {prog : Map AFunc} {cf : FnF} {nt : Nat} {A : Tok} {V : VSt} {st : St} {d : Option Nat} {g : G} {k : VSt → Prop}

theorem evU_sim (hsh : sh.vs = VSh prog) (hR : R A V st) (ha : act g) {op : AOp} (h : evU sh prog nt V d g op k) : Sim (runFn prog) nt A V st d op k := by
  cases op with
  | mv x => exact o_mv hR ha h
  | pick c a b => exact o_pick hR ha h
  | alloc zero => exact o_alloc hR h
  | box x => exact o_box hR ha h
  | build zero parts =>
    cases g with
    | none => exact o_build hR h
    | some p => cases h
  | bslice es len zero parts =>
    cases g with
    | none => exact o_bslice hR h
    | some p => cases h
  | islice len zero parts =>
    cases g with
    | none =>
      obtain ⟨v, H', nx', h1, h2⟩ := o_islice (cf := runFn prog) (gd := none) (fz := false) hR h
      exact ⟨v, H', nx', h1, h2⟩
    | some p => cases h
  | load sz a => exact o_load hR ha h
  | store sz a x =>
    cases g with
    | none =>
      cases d with
      | none => exact o_store hR h
      | some d => cases h
    | some p => cases h
  | nilck x => exact o_nilck hR ha h
  | bin op x y => exact o_bin hR ha h
  | eq t neg x y => exact o_eq hR ha h
  | un op x => exact o_un hR ha h
  | conv c x => exact o_conv hR ha h
  | mksl es bytes zero n =>
    cases g with
    | none => exact o_mksl hR h
    | some p => exact (pos_ok h).2.elim
  | slstr x lo hi => exact o_slstr hR ha h
  | slsl es x lo hi mx => exact o_slsl hR ha h
  | slarr n es x lo hi mx => cases h
  | faddr off x => exact o_faddr hR ha h
  | fld off sz x => exact o_fld hR ha h
  | iaddr es x i => exact o_iaddr hR ha h
  | iarr len es x i => exact o_iarr hR ha h
  | idx x i => exact o_idx hR ha h
  | ext i x => exact o_ext hR ha h
  | app es bytes s x => exact o_app hR ha h
  | cpy es dd s => cases h
  | clr es zero x => cases h
  | len str x => exact o_len hR ha h
  | mnx mx xs => exact o_mnx hR ha h
  | mkmap => cases h
  | mlook t zero ok m k => cases h
  | mset t m k v => cases h
  | mlen m => cases h
  | call f args m =>
    cases m with
    | share =>
      cases g with
      | none => exact o_share hsh hR h
      | some p => cases h
    | borrow =>
      obtain ⟨v, h1, h2⟩ := o_call hR ha h
      exact ⟨v, st.H, st.nx, h1, h2⟩
  | callv f args m =>
    cases m with
    | share => cases h
    | borrow =>
      obtain ⟨fv, hf, h⟩ := rdT_sim hR ha h
      cases g with
      | none =>
        obtain ⟨n, rfl, h⟩ := h
        obtain ⟨v, h1, h2⟩ := o_call (g := none) hR trivial h
        generalize he : ev st.env f = p at hf
        cases hf
        refine ⟨v, st.H, st.nx, ?_, h2⟩
        have hk : kind (.callv f args .borrow) = .callv f args .borrow := rfl
        simp only [doOp, hk, he]
        exact h1
      | some q => cases h

/-! ### An operation that was not asked for -/
def Off (nt : Nat) (V : VSt) (d : Option Nat) (c : TV) (bb : Bool) (k : VSt → Prop) : Prop := ∃ g w, ((g = none ∧ w = VV.tr noT) ∨ g = some (c, bb)) ∧ putV nt V d g w k
theorem gV_off {c : TV} {bb : Bool} (hc : c ≠ .b bb) {P : TV → Prop} {v : TV} (h : gV c bb P v) : v = noT := by
  unfold gV at h
  split at h
  · rename_i x
    split at h
    · rename_i hh
      exact absurd (by cases x <;> cases bb <;> first | rfl | cases hh) hc
    · exact h
  · exact h
section
variable {c : TV} {bb : Bool}
theorem resT_off (hc : c ≠ .b bb) {P k : TV → Prop} (h : resT (some (c, bb)) P k) : k noT := by
  obtain ⟨v, h1, h2⟩ := h
  rw [gV_off hc h1] at h2; exact h2
theorem resV_off (hc : c ≠ .b bb) {P : Option TV} (h : resV nt V d (some (c, bb)) P k) : Off nt V d c bb k := ⟨none, .tr noT, .inl ⟨rfl, rfl⟩, resT_off hc h⟩
theorem tag_off {w : VV} (h : putV nt V d (some (c, bb)) w k) : Off nt V d c bb k := ⟨_, w, .inr rfl, h⟩
theorem resN_ex {g : G} {P : Option Nat} {k : Nat → Prop} (h : resN g P k) : ∃ n, k n := by
  cases g with
  | none => obtain ⟨n, _, h⟩ := h; exact ⟨n, h⟩
  | some p => obtain ⟨n, _, h⟩ := h; exact ⟨n, h⟩
theorem rdK_ex {x : Opd} {k : VV → Prop} (h : rdK V g x k) : ∃ w, k w := by
  cases x with
  | c v => exact ⟨_, h⟩
  | t n =>
    simp only [rdK] at h
    split at h
    · cases h
    split at h
    · exact ⟨_, h⟩
    · split at h
      · cases h
      · exact ⟨_, h.2⟩
theorem rdT_ex {x : Opd} {k : TV → Prop} (h : rdT V g x k) : ∃ v, k v := by
  obtain ⟨w, h⟩ := rdK_ex h
  unfold treeK at h
  split at h
  · exact ⟨_, h⟩
  · exact ⟨_, h⟩
  · cases h
theorem ordT_ex {x : Option Opd} {k : Option TV → Prop} (h : ordT V g x k) : ∃ v, k v := by
  cases x with
  | none => exact ⟨none, h⟩
  | some x => obtain ⟨v, h⟩ := rdT_ex h; exact ⟨some v, h⟩
theorem rdTs_ex : ∀ {xs : List Opd} {k : List TV → Prop}, rdTs V g xs k → ∃ vs, k vs
  | [], k, h => ⟨[], h⟩
  | x :: xs, k, h => by
    obtain ⟨v, h⟩ := rdT_ex h
    obtain ⟨vs, h⟩ := rdTs_ex h
    exact ⟨v :: vs, h⟩
theorem toTs_ex : ∀ {l : List (Nat × VV)} {v : TV} {k : TV → Prop}, toTs V l v k → ∃ u, k u
  | [], v, k, h => ⟨v, h⟩
  | (off, w) :: l, v, k, h => by
    obtain ⟨u, h⟩ := toTs_ex (l := l) h
    obtain ⟨es, u', _, h⟩ := slOf_ex h
    exact ⟨u', h⟩
theorem toT_ex {w : VV} {k : TV → Prop} (h : toT V w k) : ∃ t, k t := by
  unfold toT at h
  split at h
  · exact ⟨_, h⟩
  · exact ⟨_, h⟩
  · obtain ⟨es, h⟩ := slOf_ex h; exact ⟨_, h⟩
  · exact toTs_ex h
  · cases h
theorem argsK_ex : ∀ {xs : List Opd} {k : Bool → List TV → Prop}, argsK V g xs k → ∃ p ts, k p ts
  | [], k, h => ⟨_, _, h⟩
  | x :: xs, k, h => by
    obtain ⟨w, h⟩ := rdK_ex h
    split at h
    · obtain ⟨p, ts, h⟩ := argsK_ex h; exact ⟨_, _, h⟩
    · obtain ⟨p, ts, h⟩ := argsK_ex h; exact ⟨_, _, h⟩
    · obtain ⟨t, h⟩ := toTs_ex h
      obtain ⟨p, ts, h⟩ := argsK_ex h
      exact ⟨_, _, h⟩
    · obtain ⟨t, h⟩ := toT_ex h
      obtain ⟨p, ts, h⟩ := argsK_ex h
      exact ⟨_, _, h⟩

theorem evLoad_off (hc : c ≠ .b bb) {sz : Option Nat} {w : VV} (h : evLoad nt V d (some (c, bb)) sz w k) : Off nt V d c bb k := by
  unfold evLoad at h
  split at h
  · split at h
    · split at h
      · split at h
        · exact tag_off h
        · exact resV_off hc h
      · split at h
        · exact resV_off hc h
        · cases h
    · cases h
  · split at h
    · split at h
      · exact resV_off hc h
      · cases h
    · cases h
  · exact resV_off hc h
  · split at h
    · exact resV_off hc h
    · cases h
  · cases h
theorem evFld_off (hc : c ≠ .b bb) {off : Nat} {sz : Option Nat} {w : VV} (h : evFld nt V d (some (c, bb)) off sz w k) : Off nt V d c bb k := by
  unfold evFld at h
  split at h
  · exact resV_off hc h
  · split at h
    · split at h
      · exact tag_off h
      · exact resV_off hc h
    · split at h
      · exact resV_off hc h
      · cases h
  · cases h
theorem newV_off {wf : Nat → VV} {o : VO} (h : newV nt V d (some (c, bb)) wf o k) : False := h
theorem evSlsl_off (hc : c ≠ .b bb) {sz : Nat} {w : VV} {lo hi mx : Option Opd} (h : evSlsl nt V d (some (c, bb)) sz w lo hi mx k) : Off nt V d c bb k := by
  replace h := (pos_ok h).2
  split at h
  · split at h
    · split at h
      · split at h
        · obtain ⟨l, m, _, h⟩ := ordT_ex (same_ok h).2; cases h
        · cases h
      · cases h
    · cases h
  · split at h
    · obtain ⟨l, h⟩ := ordT_ex h
      obtain ⟨hh, h⟩ := ordT_ex h
      exact ⟨none, .tr noT, .inl ⟨rfl, rfl⟩, resT_off hc h⟩
    · split at h
      · rename_i hcond
        simp at hcond
      · cases h
  · split at h
    · exact tag_off h
    · cases h
  · cases h
theorem evU_off (hc : c ≠ .b bb) {op : AOp} (h : evU sh prog nt V d (some (c, bb)) op k) : Off nt V d c bb k := by
  cases op with
  | mv x =>
    simp only [evU] at h
    obtain ⟨w, h⟩ := rdK_ex h
    unfold evMv at h
    split at h
    · exact resV_off hc h
    · cases h
    · exact tag_off h
  | pick a b e => simp only [evU] at h; obtain ⟨_, h⟩ := rdT_ex h; obtain ⟨_, h⟩ := rdT_ex h; obtain ⟨_, h⟩ := rdT_ex h; exact resV_off hc h
  | alloc zero =>
    simp only [evU] at h
    split at h <;> cases h
  | box x =>
    simp only [evU] at h
    obtain ⟨w, h⟩ := rdK_ex h
    split at h
    · cases h.2
    · cases h
  | build zero parts => cases h
  | bslice es len zero parts => cases h
  | islice len zero parts => cases h
  | load sz a => simp only [evU] at h; obtain ⟨w, h⟩ := rdK_ex h; exact evLoad_off hc h
  | store sz a x => cases h
  | nilck x =>
    simp only [evU] at h
    obtain ⟨w, h⟩ := rdK_ex h
    unfold evNilck at h
    split at h <;> first | exact tag_off h | cases h
  | bin op x y => simp only [evU] at h; obtain ⟨_, h⟩ := rdT_ex h; obtain ⟨_, h⟩ := rdT_ex h; exact resV_off hc h
  | eq t neg x y => simp only [evU] at h; obtain ⟨_, h⟩ := rdT_ex h; obtain ⟨_, h⟩ := rdT_ex h; exact resV_off hc h
  | un op x => simp only [evU] at h; obtain ⟨_, h⟩ := rdT_ex h; exact resV_off hc h
  | conv e x => simp only [evU] at h; obtain ⟨_, h⟩ := rdT_ex h; exact resV_off hc h
  | mksl es bytes zero n => exact (pos_ok h).2.elim
  | slstr x lo hi => simp only [evU] at h; obtain ⟨_, h⟩ := rdT_ex h; obtain ⟨_, h⟩ := ordT_ex h; obtain ⟨_, h⟩ := ordT_ex h; exact resV_off hc h
  | slsl es x lo hi mx => simp only [evU] at h; obtain ⟨w, h⟩ := rdK_ex h; exact evSlsl_off hc h
  | slarr n es x lo hi mx => cases h
  | faddr off x =>
    simp only [evU] at h
    obtain ⟨w, h⟩ := rdK_ex h
    unfold evFaddr at h
    split at h <;> first | exact tag_off h | cases h
  | fld off sz x => simp only [evU] at h; obtain ⟨w, h⟩ := rdK_ex h; exact evFld_off hc h
  | iaddr es x i =>
    simp only [evU] at h
    obtain ⟨w, h⟩ := rdK_ex h
    obtain ⟨iv, h⟩ := rdT_ex h
    replace h := (pos_ok h).2
    split at h
    · exact tag_off (resT_off hc h)
    · split at h
      · obtain ⟨n, h⟩ := resN_ex (same_ok h).2
        exact tag_off h
      · cases h
    · cases h
  | iarr len es x i =>
    simp only [evU] at h
    obtain ⟨w, h⟩ := rdK_ex h
    obtain ⟨iv, h⟩ := rdT_ex h
    unfold evIarr at h
    split at h <;> first | (obtain ⟨n, h⟩ := resN_ex h; exact tag_off h) | cases h
  | idx x i => simp only [evU] at h; obtain ⟨_, h⟩ := rdT_ex h; obtain ⟨_, h⟩ := rdT_ex h; exact resV_off hc h
  | ext i x => simp only [evU] at h; obtain ⟨_, h⟩ := rdT_ex h; exact resV_off hc h
  | app es bytes s x =>
    simp only [evU] at h
    obtain ⟨w, h⟩ := rdK_ex h
    obtain ⟨y, h⟩ := rdK_ex h
    replace h := (pos_ok h).2
    exfalso
    unfold srcK at h
    have key : ∀ xs, (match w with
      | .nil0 => ∃ l, appT bytes [] xs = some l ∧ newV nt V d (some (c, bb)) .sl (.gr es l) k
      | .sl O => (match V.H.get O with
        | some (.gr z es') => same z es (∃ l, appT bytes es' xs = some l ∧ newV nt (dropO V O) d (some (c, bb)) .sl (.gr es l) k)
        | _ => False)
      | _ => False) → False := fun xs h => by
      split at h
      · obtain ⟨l, _, h⟩ := h; exact h
      · split at h
        · obtain ⟨l, _, h⟩ := (same_ok h).2; exact h
        · cases h
      · cases h
    split at h
    · obtain ⟨xs, _, _, h⟩ := h; exact key _ h
    · exact key _ h
    · split at h
      · exact key _ (same_ok h).2
      · cases h
    · cases h
  | cpy es dd s => cases h
  | clr es zero x => cases h
  | len str x =>
    simp only [evU] at h
    obtain ⟨w, h⟩ := rdK_ex h
    unfold evLen at h
    split at h
    · split at h
      · exact resV_off hc h
      · cases h
    · split at h
      · exact resV_off hc h
      · exact resV_off hc h
      · split at h
        · exact resV_off hc h
        · cases h
      · cases h
  | mnx mx xs => simp only [evU] at h; obtain ⟨vs, h⟩ := rdTs_ex h; exact resV_off hc h
  | mkmap => cases h
  | mlook t zero ok m k => cases h
  | mset t m k v => cases h
  | mlen m => cases h
  | call f args m =>
    cases m with
    | share => cases h
    | borrow =>
      simp only [evU] at h
      obtain ⟨p, ts, r, h1, h2⟩ := argsK_ex h
      rw [gV_off hc h1] at h2
      exact ⟨none, .tr noT, .inl ⟨rfl, rfl⟩, h2⟩
  | callv f args m =>
    cases m with
    | share => cases h
    | borrow => simp only [evU] at h; obtain ⟨_, h⟩ := rdT_ex h; cases h
end

/-! ### Operations in a row -/
theorem can_undef : Can noT undefA := .tp [] [] rfl (fun x hx => by cases hx) (fun j t x ht => by simp at ht)
def Goes1 (prog : Map AFunc) (nt : Nat) (A : Tok) (V : VSt) (st : St) (r : Option St) (k : VSt → Prop) : Prop :=
  ∃ st', r = some st' ∧ ∃ V' A', R A' V' st' ∧ Fr V A st.H st.nx V' A' st'.H st'.nx ∧ (∀ O x, A O = some x → A' O = some x) ∧ k V'
theorem evO_sim (hsh : sh.vs = VSh prog) (hR : R A V st) {o : AOper} (h : evO sh prog nt V o k) : Goes1 prog nt A V st (runOp (runFn prog) nt o st) k := by
  obtain ⟨dd, op, gd, fz⟩ := o
  have fin : wanted st.env gd = true → (∃ v H' nx', doFz (runFn prog) ⟨dd, op, gd, fz⟩ (ev st.env) st.H st.nx = some (v, H', nx') ∧ Next nt A V st dd v H' nx' k) → Goes1 prog nt A V st (runOp (runFn prog) nt ⟨dd, op, gd, fz⟩ st) k := by
    rintro hw ⟨v, H', nx', h1, e', h2, V', A', h3, h4, h5⟩
    exact ⟨⟨e', H', nx'⟩, by simp only [runOp, hw, cond_true, h1, h2], V', A', h3, h4, h5⟩
  unfold evO at h
  simp only at h
  cases gd with
  | none =>
    cases fz with
    | true =>
      simp only at h
      split at h
      · exact fin rfl (o_islice hR h)
      · cases h
    | false =>
      obtain ⟨v, H', nx', h1, h2⟩ := evU_sim (g := none) hsh hR trivial h
      exact fin rfl ⟨v, H', nx', h1, h2⟩
  | some p =>
    obtain ⟨n, bb⟩ := p
    cases fz with
    | true => cases h
    | false =>
      obtain ⟨c, a, ha, hca, h⟩ := rdT_t hR h
      by_cases hc : c = .b bb
      · subst hc
        cases hca
        obtain ⟨v, H', nx', h1, h2⟩ := evU_sim (g := some (.b bb, bb)) hsh hR rfl h
        exact fin (by simp only [wanted, ha]; cases bb <;> rfl) ⟨v, H', nx', h1, h2⟩
      · obtain ⟨g, w, hg, hp⟩ := evU_off hc h
        have hw : wanted st.env (some (n, bb)) = false := by
          simp only [wanted, ha]
          split
          · rename_i b' hb
            cases hb
            cases hca
            cases b' <;> cases bb <;> first | rfl | exact absurd rfl hc
          · rfl
        have hn : Next nt A V st dd undefA st.H st.nx k := putV_tree hR (fun hact => by
          rcases hg with ⟨rfl, rfl⟩ | rfl
          · exact .tr can_undef
          · exact absurd hact hc) hp
        obtain ⟨e', h2, V', A', h3, h4, h5⟩ := hn
        exact ⟨⟨e', st.H, st.nx⟩, by simp only [runOp, hw, cond_false, h2], V', A', h3, h4, h5⟩
theorem evOs_sim (hsh : sh.vs = VSh prog) : ∀ {l : List AOper} {A : Tok} {V : VSt} {st : St} {k : VSt → Prop}, R A V st → evOs sh prog nt l V k → Goes1 prog nt A V st (runOps (runFn prog) nt l st) k
  | [], A, V, st, k, hR, h => ⟨st, rfl, V, A, hR, Fr.refl _ _ _ _, fun _ _ h => h, h⟩
  | o :: l, A, V, st, k, hR, h => by
    obtain ⟨st1, h1, V1, A1, h2, h3, hx, h4⟩ := evO_sim hsh hR h
    obtain ⟨st2, g1, V2, A2, g2, g3, gx, g4⟩ := evOs_sim hsh h2 h4
    exact ⟨st2, by rw [runOps_cons, h1]; exact g1, V2, A2, g2, h3.trans g3, fun O x h => gx O x (hx O x h), g4⟩
end
end Go.Ax.V
