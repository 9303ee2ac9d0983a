/- Part 5 of the proof: VS, V11, VD, VE, V13, V14, V15, V16. -/
import Derived.Test.YtamgnhdbeecapaaCc4

/- Calls that are given objects. -/
set_option linter.unusedSimpArgs false
set_option linter.unusedVariables false
namespace Go.Ax.V

/-- a call goes as told: from a state that knows but its own -/
def CallOk (prog : Map AFunc) (f np : Nat) (Jout : List Ent) (Q : JT Jout Prop) (Vc : VSt) : Prop :=
  ∀ (A : Tok) (as : List AV) (H : Heap) (nx : Nat), as.length = np → R A Vc ⟨initE as 0 .leaf, H, nx⟩ →
    ∃ v H' nx' A' V', runFn prog f as H nx = some (v, H', nx') ∧ R A' V' ⟨(initE as 0 .leaf).put (some v) np, H', nx'⟩ ∧ prJ Jout V' Q ∧ Fr Vc A H nx V' A' H' nx'
noncomputable def VSh (prog : Map AFunc) (f np : Nat) (Jin Jout : List Ent) (Q : JT Jout Prop) : JT Jin Prop := mkJ Jin V0 (CallOk prog f np Jout Q)

theorem memB_iff' {n : Nat} : ∀ {l : List Nat}, memB n l = true ↔ n ∈ l
  | [] => by simp [memB]
  | m :: l => by simp [memB, memB_iff' (l := l)]
theorem free_none {us : Map Unit} {O : Nat} (h : freeB us O = true) : us.get O = none := by
  unfold freeB at h
  split at h
  · cases h
  · assumption
theorem nameK_of {V : VSt} {O : Nat} {o : VO} {k : VSt → Prop} (hf : freeB V.us O = true) (h : k (nameV V O o)) : nameK V O o k := by
  have hn := free_none hf
  unfold nameK
  rw [hn]
  exact h
/-- what has a name stays as it was -/
def Keep (V V' : VSt) : Prop := ∀ T, V.us.get T = some () → V'.us.get T = some () ∧ V'.H.get T = V.H.get T
theorem keep_name {V : VSt} {O : Nat} {o : VO} (hf : freeB V.us O = true) : Keep V (nameV V O o) := by
  intro T hT
  have hne : T ≠ O := by rintro rfl; rw [free_none hf] at hT; cases hT
  exact ⟨by simp only [nameV, Map.get_put, if_neg hne]; exact hT, by simp only [nameV, Map.get_put, if_neg hne]⟩
theorem Keep.trans {V V1 V2 : VSt} (h : Keep V V1) (h' : Keep V1 V2) : Keep V V2 := fun T hT => let ⟨a, b⟩ := h T hT; let ⟨c, d⟩ := h' T a; ⟨c, d.trans b⟩
theorem allL_mk {Rt : Type} {O : Nat} : ∀ (offs : List (Nat × Nat)) (V : VSt) (us : Map Unit) (k : VSt → Rt) (kk : Rt → VSt → Prop), okL O offs V.us = some us → (∀ V', V'.us = us → Keep V V' → kk (k V') V') → allL O offs V (mkL O offs V k) kk
  | [], V, us, k, kk, h, hk => by cases h; exact hk V rfl (fun T hT => ⟨hT, rfl⟩)
  | (off, sz) :: offs, V, us, k, kk, h, hk => by
    simp only [okL, cond_eq_ite] at h
    split at h
    · rename_i hf
      intro es
      refine nameK_of hf ?_
      exact allL_mk offs _ us k kk h (fun V' h1 h2 => hk V' h1 ((keep_name hf).trans h2))
    · cases h
theorem allJ_mk : ∀ (J : List Ent) (V : VSt) (obs : List Nat) (k : VSt → Prop), okN J V.us obs = true → (∀ O ∈ obs, V.us.get O = some () ∧ ∃ v ov, V.H.get O = some (.ob v ov)) → allJ J V (mkJ J V k) k
  | [], V, obs, k, h, ho => fun hk => hk
  | .tr t :: J, V, obs, k, h, ho => fun v => allJ_mk J (addE V t (.tr v)) obs k h ho
  | .sl t sz :: J, V, obs, k, h, ho => by
    simp only [okN, Bool.and_eq_true] at h
    intro es
    refine nameK_of h.1 ?_
    refine allJ_mk J _ obs k h.2 (fun O hO => ?_)
    obtain ⟨h1, v, ov, h2⟩ := ho O hO
    obtain ⟨h3, h4⟩ := keep_name (o := .gr sz es) h.1 O h1
    exact ⟨h3, v, ov, by rw [← h2]; exact h4⟩
  | .pt t O off :: J, V, obs, k, h, ho => by
    simp only [okN, Bool.and_eq_true] at h
    obtain ⟨h1, v, ov, h2⟩ := ho O (memB_iff'.1 h.1)
    simp only [allJ, h2]
    exact allJ_mk J (addE V t (.ptr O off)) obs k h.2 ho
  | .ob O offs :: J, V, obs, k, h, ho => by
    simp only [okN] at h
    split at h
    · rename_i us hus
      rw [Bool.and_eq_true] at h
      intro v
      refine allL_mk offs V us _ _ hus (fun V' hu hkp => ?_)
      have hf : freeB V'.us O = true := by rw [hu]; exact h.1
      refine nameK_of hf ?_
      refine allJ_mk J _ (O :: obs) k (by show okN J (V'.us.put (some ()) O) (O :: obs) = true; rw [hu]; exact h.2) (fun O' hO' => ?_)
      rcases List.mem_cons.1 hO' with rfl | hO'
      · exact ⟨by simp only [nameV, Map.get_put, if_pos], v, ovsOf O' offs, by simp only [nameV, Map.get_put, if_pos]⟩
      · obtain ⟨h1, v', ov, h2⟩ := ho O' hO'
        obtain ⟨h3, h4⟩ := (hkp.trans (keep_name (o := .ob v (ovsOf O offs)) hf)) O' h1
        exact ⟨h3, v', ov, by rw [← h2]; exact h4⟩
    · cases h

section
variable {prog : Map AFunc} {nt : Nat}

/-- a name's object is told anew, where it stands -/
theorem own_again {A : Tok} {V : VSt} {st : St} (hR : R A V st) {O : Nat} {o : VO} {a : AV} (hA : A O = some a) (hO : OR A st.H o a) (hid : ∀ id, idOf a = some id → ¬ Own V A id) :
    R A (setVO V O o) st ∧ ∀ id, Own (setVO V O o) A id → Own V A id ∨ idOf a = some id := by
  refine ⟨⟨hR.env, fun O' o' ho => ?_, fun O1 O2 o1 o2 a1 a2 id ho1 ho2 ha1 ha2 hi1 hi2 => ?_, hR.used, hR.one, hR.fresh⟩, fun id ⟨O', o', x, ho, hx, hi⟩ => ?_⟩
  · simp only [setVO, Map.get_put] at ho
    split at ho
    · rename_i e; subst e; cases ho; exact ⟨a, hA, hO⟩
    · exact hR.heap O' o' ho
  · simp only [setVO, Map.get_put] at ho1 ho2
    by_cases e1 : O1 = O
    · by_cases e2 : O2 = O
      · rw [e1, e2]
      · subst e1
        rw [if_neg e2] at ho2
        rw [hA] at ha1; cases ha1
        exact absurd ⟨O2, _, a2, ho2, ha2, hi2⟩ (hid id hi1)
    · rw [if_neg e1] at ho1
      by_cases e2 : O2 = O
      · subst e2
        rw [hA] at ha2; cases ha2
        exact absurd ⟨O1, _, a1, ho1, ha1, hi1⟩ (hid id hi2)
      · rw [if_neg e2] at ho2
        exact hR.inj O1 O2 _ _ a1 a2 id ho1 ho2 ha1 ha2 hi1 hi2
  · simp only [setVO, Map.get_put] at ho
    by_cases e : O' = O
    · subst e; rw [hA] at hx; cases hx; exact .inr hi
    · rw [if_neg e] at ho; exact .inl ⟨O', o', x, ho, hx, hi⟩

/-- the callee's state and the caller's, behind the call -/
structure Back (V2 : VSt) (A2 : Tok) (st2 : St) (Vr : VSt) (A : Tok) (st : St) : Prop where
  old : R A2 V2 st2
  new : R A Vr st
  H : st.H = st2.H
  nx : st.nx = st2.nx
  apart : ∀ id, Own V2 A2 id → ¬ Own Vr A id

theorem takeS_back {V2 Vr : VSt} {A2 A : Tok} {st2 st : St} (h : Back V2 A2 st2 Vr A st) {sz : Nat} {w : VV} {x : AV} (hw : SlV A2 w x) {k : List TV → VSt → Prop} (hk : takeS V2 sz w k) :
    ∃ es V', k es V' ∧ Sub V2 V' ∧ (0 < sz → SlR st.H sz es x) ∧ x.one = true ∧ (∀ id, idOf x = some id → Own V2 A2 id ∧ ¬ Own V' A2 id) := by
  obtain ⟨es, V', h1, _, h2, h3, h4, h5, _⟩ := takeS_sim (Vc := V0) (A0 := fun _ => none) (st := st2) ⟨h.old, h.old.zero, fun id _ ⟨O, o, a, ho, _⟩ => (by cases ho)⟩ hw hk
  exact ⟨es, V', h1, h2, by rw [h.H]; exact h3, h4, h5⟩

theorem takeL_back {Rt : Type} {d : Nat} {st2 st : St} {ovs : List (Nat × VV)} {cs : List AV} {A2 : Tok} (hsl : ∀ j w, ovAt j ovs = some w → ∃ x, cs[j]? = some x ∧ SlV A2 w x) : ∀ (offs : List (Nat × Nat)) (V2 Vr : VSt) (A : Tok) (us : Map Unit) (kc : VSt → Rt) (k : Rt → VSt → Prop),
    (∀ p ∈ offs, 0 < p.2) → Back V2 A2 st2 Vr A st → okLS d offs Vr.us = some us → takeL V2 ovs offs (conL d offs Vr kc) k →
    ∃ V2' Vr' A', k (kc Vr') V2' ∧ Back V2' A2 st2 Vr' A' st ∧ Sub V2 V2' ∧ Vr'.us = us ∧ (∀ O x, A O = some x → A' O = some x) ∧ (∀ id, Own Vr' A' id → Own Vr A id ∨ Own V2 A2 id) ∧ (∀ j, hasKey j offs = true → ∃ x, cs[j]? = some x ∧ A' (tokS d j) = some x)
  | [], V2, Vr, A, us, kc, k, hz, h, hus, hk => by
    cases hus
    exact ⟨V2, Vr, A, hk, h, Sub.refl V2, rfl, fun _ _ h => h, fun id h => .inl h, fun j hj => by cases hj⟩
  | (off, sz) :: offs, V2, Vr, A, us, kc, k, hz, h, hus, hk => by
    simp only [okLS, cond_eq_ite] at hus
    split at hus
    rotate_left
    · cases hus
    rename_i hf
    simp only [takeL] at hk
    split at hk
    rotate_left
    · cases hk
    rename_i w hw
    obtain ⟨x, hx, hs⟩ := hsl off w hw
    obtain ⟨es, V1, hk1, hs1, hsl1, hone, hid⟩ := takeS_back h hs hk
    obtain ⟨Vr1, A1, hV1, hR1, hA1, hAo, henv, hown, _, hback⟩ := name_sim (k := fun V' => V' = nameV Vr (tokS d off) (.gr sz es)) h.new (nameK_of hf rfl) (fun A' _ => hsl1 (hz (off, sz) List.mem_cons_self)) hone (fun id hi => h.apart id (hid id hi).1)
    subst hV1
    have hb : Back V1 A2 st2 (nameV Vr (tokS d off) (.gr sz es)) A1 st := ⟨hs1.r h.old, hR1, h.H, h.nx, fun id ho hc => (hown id hc).elim (fun hc => h.apart id (hs1.own ho) hc) (fun hi => (hid id hi).2 ho)⟩
    obtain ⟨V2', Vr', A', g1, g2, g3, g4, g5, g6, g7⟩ := takeL_back hsl offs V1 _ A1 us kc k (fun p hp => hz p (List.mem_cons_of_mem _ hp)) hb hus hk1
    refine ⟨V2', Vr', A', g1, g2, hs1.trans g3, g4, fun O y hy => g5 _ _ (hA1 _ _ hy), fun id ho => ?_, fun j hj => ?_⟩
    · rcases g6 id ho with ho | ho
      · rcases hown id ho with ho | hi
        · exact .inl ho
        · exact .inr (hid id hi).1
      · exact .inr (hs1.own ho)
    · simp only [hasKey, Bool.or_eq_true, Nat.beq_eq] at hj
      rcases hj with rfl | hj
      · exact ⟨x, hx, g5 _ _ hAo⟩
      · exact g7 j hj
theorem ovsS_at {d j : Nat} : ∀ {l : List (Nat × Nat)}, ovAt j (ovsS d l) = if hasKey j l = true then some (.sl (tokS d j)) else none
  | [] => by simp [ovsS, ovAt, hasKey]
  | (i, z) :: l => by
    simp only [ovsS, ovAt_cons, ovsS_at (l := l), hasKey, Bool.or_eq_true, Nat.beq_eq]
    by_cases e : i = j
    · subst e; simp
    · rw [if_neg e]
      by_cases hk : hasKey j l = true
      · rw [if_pos hk, if_pos (.inr hk)]
      · rw [if_neg hk, if_neg]
        rintro (h | h)
        · exact e h.symm
        · exact hk h
/-- what the callee's temporary says -/
theorem rdK_t {A : Tok} {V : VSt} {st : St} (hR : R A V st) {n : Nat} {k : VV → Prop} (h : rdK V none (.t n) k) : ∃ e a, V.env.get n = some e ∧ st.env.get n = some a ∧ VR A e.v a ∧ k e.v := by
  simp only [rdK] at h
  split at h
  · cases h
  rename_i e he
  obtain ⟨a, ha, hv⟩ := hR.env n e he
  split at h
  · rename_i hg
    exact ⟨e, a, he, ha, hv (fun c bb hh => by rw [hg] at hh; cases hh), h⟩
  · cases h

theorem imps_ob {d : Nat} {offs : List (Nat × Nat)} {ks : List PK} {w : VV} {ws : List VV} {ims : List Imp} (h : impsOf d (.ob offs :: ks) (w :: ws) = some ims) : ∃ O l, w = .ptr O 0 ∧ impsOf d ks ws = some l ∧ ims = .ob O d :: .pt :: l := by
  cases w with
  | ptr O off =>
    cases off with
    | zero =>
      simp only [impsOf] at h
      split at h
      · rename_i l hl; cases h; exact ⟨O, l, rfl, hl, rfl⟩
      · cases h
    | succ n => simp [impsOf] at h
  | _ => simp [impsOf] at h
theorem imps_sl {d sz : Nat} {ks : List PK} {w : VV} {ws : List VV} {ims : List Imp} (h : impsOf d (.sl sz :: ks) (w :: ws) = some ims) : ∃ O l, w = .sl O ∧ impsOf d ks ws = some l ∧ ims = .sl O :: l := by
  cases w with
  | sl O =>
    simp only [impsOf] at h
    split at h
    · rename_i l hl; cases h; exact ⟨O, l, rfl, hl, rfl⟩
    · cases h
  | _ => simp [impsOf] at h
/-- what comes back, parameter by parameter -/
theorem imp_sim {np d : Nat} {rk : RK} {k : VSt → Prop} {v : AV} {st2 st : St} : ∀ (ks : List PK) (i : Nat) (ws : List VV) (as : List AV) (ims : List Imp) (V2 Vr : VSt) (A2 A : Tok), impsOf d ks ws = some ims → (jout np rk ks i).all entPos = true → okI nt (jout np rk ks i) ims Vr.us = true →
    Back V2 A2 st2 Vr A st → (∀ (j : Nat) w a, ws[j]? = some w → as[j]? = some a → VR A w a) → ws.length = as.length → (∀ (j : Nat) a, as[j]? = some a → st2.env.get (i + j) = some a) → st2.env.get np = some v → st.env.get d = some v →
    prJ (jout np rk ks i) V2 (conJ (jout np rk ks i) ims Vr k) → ∃ Vr' A', k Vr' ∧ R A' Vr' st ∧ (∀ O x, A O = some x → A' O = some x) ∧ (∀ id, Own Vr' A' id → Own Vr A id ∨ Own V2 A2 id) ∧ Nat.blt d nt = true
  | [], i, ws, as, ims, V2, Vr, A2, A, him, hp, hok, h, hw, hl, has, hnp, hd, hk => by
    cases ws with
    | cons _ _ => cases him
    | nil =>
      cases him
      cases rk with
      | tr =>
        have hk0 : rdT V2 none (.t np) (fun v => k (addE Vr d (.tr v))) := hk
        have hok0 : (Nat.blt d nt && true) = true := hok
        rw [Bool.and_true] at hok0
        clear hk hok
        obtain ⟨u, a, ha, hc, hk1⟩ := rdT_t h.old hk0
        rw [hnp] at ha; cases ha
        exact ⟨_, A, hk1, r_addE h.new hd (.tr hc), fun _ _ h => h, fun id ho => .inl ho, hok0⟩
      | sl sz =>
        have hz : 0 < sz := by simp only [jout, jres, List.all_cons, Bool.and_eq_true] at hp; have := hp.1; simpa [entPos] using this
        have hk0 : rdK V2 none (.t np) (fun w => takeS V2 sz w fun es V' => k (addE (nameV Vr d (.gr sz es)) d (.sl d))) := hk
        have hok0 : (Nat.blt d nt && (freeB Vr.us d && true)) = true := hok
        rw [Bool.and_true, Bool.and_eq_true] at hok0
        clear hk hok
        obtain ⟨e, a, he, ha, hv, hk⟩ := rdK_t h.old hk0
        rw [hnp] at ha; cases ha
        have hsl : SlV A2 e.v v := by
          have hne := hk
          unfold takeS at hne
          generalize e.v = w at hv hne
          cases hv <;> first | (cases hne; done) | skip
          · exact .inl rfl
          · exact .inr rfl
          · assumption
        obtain ⟨es, V1, hk1, hs1, hsl1, hone, hid⟩ := takeS_back h hsl hk
        obtain ⟨hlt, hf⟩ := hok0
        obtain ⟨Vr1, A1, hV1, hR1, hA1, hAo, henv, hown, _, hback⟩ := name_sim (k := fun V' => V' = nameV Vr d (.gr sz es)) h.new (nameK_of hf rfl) (fun A' _ => hsl1 hz) hone (fun id hi => h.apart id (hid id hi).1)
        subst hV1
        exact ⟨_, A1, hk1, r_addE hR1 hd (.sl hAo), hA1, fun id ho => (hown id ho).imp (fun h => h) (fun hi => (hid id hi).1), hlt⟩
  | .tr :: ks, i, ws, as, ims, V2, Vr, A2, A, him, hp, hok, h, hw, hl, has, hnp, hd, hk => by
    cases ws with
    | nil => simp [impsOf] at him
    | cons w ws =>
      cases as with
      | nil => cases hl
      | cons a as =>
        have him' : impsOf d ks ws = some ims := by simpa only [impsOf] using him
        simp only [jout] at hp hok hk
        exact imp_sim ks (i + 1) ws as ims V2 Vr A2 A him' hp hok h (fun j w' a' h1 h2 => hw (j + 1) w' a' (by simpa using h1) (by simpa using h2)) (Nat.succ.inj hl) (fun j a' h1 => by have := has (j + 1) a' (by simpa using h1); rwa [show i + (j + 1) = i + 1 + j by omega] at this) hnp hd hk
  | .ob offs :: ks, i, ws, as, ims, V2, Vr, A2, A, him, hp, hok, h, hw, hl, has, hnp, hd, hk => by
    cases ws with
    | nil => simp [impsOf] at him
    | cons w ws =>
      cases as with
      | nil => cases hl
      | cons a as =>
        obtain ⟨O, l, rfl, hims, rfl⟩ := imps_ob him
        · simp only [jout, List.all_cons, Bool.and_eq_true] at hp
          have hz : ∀ p ∈ offs, 0 < p.2 := fun p hm => by have := List.all_eq_true.1 hp.1 p hm; simpa using this
          simp only [jout, okI] at hok
          split at hok
          rotate_left
          · cases hok
          rename_i us hus
          have hwa := hw 0 _ a rfl rfl
          cases hwa with
          | @ptr _ _ id hAO =>
          simp only [jout, prJ] at hk
          split at hk
          rotate_left
          · cases hk
          rename_i v2 ovs hO2
          split at hk
          rotate_left
          · cases hk
          rename_i hkeys
          obtain ⟨y, hy, id2, cs, ts, rfl, hH, hc⟩ := h.old.heap i _ hO2
          have hsl : ∀ j w, ovAt j ovs = some w → ∃ x, cs[j]? = some x ∧ SlV A2 w x := fun j w hj => by
            have hlt := hc.keys j w hj
            have hx : cs[j]? = some (cs[j]'(by rw [← hc.len]; exact hlt)) := List.getElem?_eq_getElem _
            have := hc.at_ j _ _ (List.getElem?_eq_getElem hlt) hx
            rw [hj] at this
            exact ⟨_, hx, this⟩
          have hgone := gone_dropO h.old hO2 hy (id := id2) rfl
          have hownO : Own V2 A2 id2 := ⟨i, _, _, hO2, hy, rfl⟩
          have hb1 : Back (dropO V2 i) A2 st2 Vr A st := ⟨(sub_dropO V2 i).r h.old, h.new, h.H, h.nx, fun id' ho => h.apart id' ((sub_dropO V2 i).own ho), ⟩
          obtain ⟨V2', Vr', A', g1, g2, g3, g4, g5, g6, g7⟩ := takeL_back hsl offs (dropO V2 i) Vr A us _ _ hz hb1 hus hk
          -- the pointer is the caller's
          have hk3 : rdK V2' none (.t i) fun w => match w with
            | .ptr O' off' => same O' i (same off' 0 (prJ (jout np rk ks (i + 1)) V2' (conJ (jout np rk ks (i + 1)) l (setVO Vr' O (.ob v2 (ovsS d offs))) k)))
            | _ => False := g1
          obtain ⟨e, a', he, ha', hv', hk3⟩ := rdK_t g2.old hk3
          have ha0 := has 0 _ rfl
          rw [Nat.add_zero, ha'] at ha0
          cases ha0
          generalize e.v = w' at hv' hk3
          cases w' <;> first | (cases hk3; done) | skip
          rename_i O' off'
          have hOi := (same_ok hk3).1
          have hoff := (same_ok (same_ok hk3).2).1
          have hk4 := (same_ok (same_ok hk3).2).2
          clear hk3
          have hOi := hOi.symm
          subst hOi
          subst hoff
          cases hv' with
          | ptr hO' =>
          rw [hy] at hO'; cases hO'
          have hAO' := g5 _ _ hAO
          have hor : OR A' st.H (.ob v2 (ovsS d offs)) (.ptr id 0 0) := by
            refine ⟨id, cs, ts, rfl, by rw [h.H]; exact hH, ⟨hc.cells, hc.len, fun j w hj => ?_, fun j t x ht hx => ?_⟩⟩
            · rw [ovsS_at] at hj
              split at hj
              · rename_i hh
                obtain ⟨x, hx, _⟩ := g7 j hh
                rw [hc.len]; exact (List.getElem?_eq_some_iff.1 hx).1
              · cases hj
            · rw [ovsS_at]
              by_cases hh : hasKey j offs = true
              · rw [if_pos hh]
                obtain ⟨x', hx', hA'⟩ := g7 j hh
                rw [hx] at hx'; cases hx'
                exact hA'
              · rw [if_neg hh]
                have := hc.at_ j t x ht hx
                cases ho : ovAt j ovs with
                | none => rw [ho] at this; exact this
                | some w => exact absurd (keysIn_at hkeys j w ho) hh
          obtain ⟨p1, p2⟩ := own_again g2.new hAO' hor (fun id' hi ho => by
            cases hi
            rcases g6 _ ho with ho | ho
            · exact h.apart _ hownO ho
            · exact hgone ho)
          have hb2 : Back V2' A2 st2 (setVO Vr' O (.ob v2 (ovsS d offs))) A' st := ⟨g2.old, p1, h.H, h.nx, fun id' ho hc' => (p2 id' hc').elim (fun hc' => g2.apart id' ho hc') (fun hi => by cases hi; exact hgone (g3.own ho))⟩
          obtain ⟨Vr2, A3, q1, q2, q3, q4, q5⟩ := imp_sim ks (i + 1) ws as l V2' _ A2 A' hims hp.2.2 (by rw [show (setVO Vr' O (VO.ob v2 (ovsS d offs))).us = us from g4]; exact hok) hb2
            (fun j w' a' h1 h2 => (hw (j + 1) w' a' (by simpa using h1) (by simpa using h2)).mono g5) (Nat.succ.inj hl) (fun j a' h1 => by have := has (j + 1) a' (by simpa using h1); rwa [show i + (j + 1) = i + 1 + j by omega] at this) hnp hd hk4
          refine ⟨Vr2, A3, q1, q2, fun O x hx => q3 _ _ (g5 _ _ hx), fun id' ho => ?_, q5⟩
          rcases q4 id' ho with ho | ho
          · rcases p2 id' ho with ho | hi
            · exact (g6 id' ho).imp (fun h => h) (sub_dropO V2 i).own
            · cases hi; exact .inr hownO
          · exact .inr ((sub_dropO V2 i).own (g3.own ho))
  | .sl sz :: ks, i, ws, as, ims, V2, Vr, A2, A, him, hp, hok, h, hw, hl, has, hnp, hd, hk => by
    cases ws with
    | nil => simp [impsOf] at him
    | cons w ws =>
      cases as with
      | nil => cases hl
      | cons a as =>
        obtain ⟨O, l, rfl, hims, rfl⟩ := imps_sl him
        simp only [jout, List.all_cons, Bool.and_eq_true] at hp
        have hz : 0 < sz := by have := hp.1; simpa [entPos] using this
        have hwa := hw 0 _ a rfl rfl
        cases hwa with
        | @sl _ _ hAO =>
        have hk' : rdK V2 none (.t i) fun w => takeS V2 sz w fun es V' => prJ (jout np rk ks (i + 1)) V' (conJ (jout np rk ks (i + 1)) l (setVO Vr O (.gr sz es)) k) := hk
        obtain ⟨e, a', he, ha', hv', hk'⟩ := rdK_t h.old hk'
        have ha0 := has 0 _ rfl
        rw [Nat.add_zero, ha'] at ha0
        cases ha0
        have hsl : SlV A2 e.v a := by
          have hne := hk'
          unfold takeS at hne
          generalize e.v = w at hv' hne
          cases hv' <;> first | (cases hne; done) | skip
          · exact .inl rfl
          · exact .inr rfl
          · assumption
        obtain ⟨es, V1, hk1, hs1, hsl1, hone, hid⟩ := takeS_back h hsl hk'
        obtain ⟨p1, p2⟩ := own_again h.new (o := .gr sz es) hAO (hsl1 hz) (fun id hi => h.apart id (hid id hi).1)
        have hb : Back V1 A2 st2 (setVO Vr O (.gr sz es)) A st := ⟨hs1.r h.old, p1, h.H, h.nx, fun id ho hc => (p2 id hc).elim (fun hc => h.apart id (hs1.own ho) hc) (fun hi => (hid id hi).2 ho)⟩
        obtain ⟨Vr2, A3, q1, q2, q3, q4, q5⟩ := imp_sim ks (i + 1) ws as l V1 (setVO Vr O (.gr sz es)) A2 A hims hp.2 hok hb
          (fun j w' a' h1 h2 => hw (j + 1) w' a' (by simpa using h1) (by simpa using h2)) (Nat.succ.inj hl) (fun j a' h1 => by have := has (j + 1) a' (by simpa using h1); rwa [show i + (j + 1) = i + 1 + j by omega] at this) hnp hd hk1
        refine ⟨Vr2, A3, q1, q2, q3, fun id ho => ?_, q5⟩
        rcases q4 id ho with ho | ho
        · exact (p2 id ho).imp (fun h => h) (fun hi => (hid id hi).1)
        · exact .inr (hs1.own ho)

theorem rdKs_sim {A : Tok} {V : VSt} {st : St} (hR : R A V st) : ∀ (xs : List Opd) (k : List VV → Prop), rdKs V xs k → ∃ ws, ws.length = (xs.map (ev st.env)).length ∧ (∀ (j : Nat) w a, ws[j]? = some w → (xs.map (ev st.env))[j]? = some a → VR A w a) ∧ k ws
  | [], k, h => ⟨[], rfl, fun j w a hw => by simp at hw, h⟩
  | x :: xs, k, h => by
    obtain ⟨w, hw, h⟩ := rdK_sim (g := none) hR trivial h
    obtain ⟨ws, h1, h2, h3⟩ := rdKs_sim hR xs _ h
    refine ⟨w :: ws, by simpa using h1, fun j w' a hj ha => ?_, h3⟩
    cases j with
    | zero => simp at hj ha; subst hj; subst ha; exact hw
    | succ j => exact h2 j w' a (by simpa using hj) (by simpa using ha)
theorem imps_len {d : Nat} : ∀ (ks : List PK) (ws : List VV) (ims : List Imp), impsOf d ks ws = some ims → ks.length = ws.length
  | [], [], ims, h => rfl
  | [], _ :: _, ims, h => by simp [impsOf] at h
  | k :: ks, [], ims, h => by cases k <;> simp [impsOf] at h
  | .tr :: ks, w :: ws, ims, h => by
    have h' : impsOf d ks ws = some ims := by simpa only [impsOf] using h
    simp [imps_len ks ws ims h']
  | .ob offs :: ks, w :: ws, ims, h => by
    obtain ⟨O, l, _, h', _⟩ := imps_ob h
    simp [imps_len ks ws l h']
  | .sl sz :: ks, w :: ws, ims, h => by
    obtain ⟨O, l, _, h', _⟩ := imps_sl h
    simp [imps_len ks ws l h']
theorem initE_get : ∀ (as : List AV) (i : Nat) (e : Env) (j : Nat), (initE as i e).get j = if i ≤ j ∧ j < i + as.length then as[j - i]? else e.get j
  | [], i, e, j => by simp only [initE, List.length_nil]; rw [if_neg (by omega)]
  | a :: as, i, e, j => by
    simp only [initE, initE_get as (i + 1), Map.get_put, List.length_cons]
    by_cases h : i + 1 ≤ j ∧ j < i + 1 + as.length
    · rw [if_pos h, if_pos (by omega), show j - i = (j - (i + 1)) + 1 by omega, List.getElem?_cons_succ]
    · rw [if_neg h]
      by_cases e1 : j = i
      · subst e1; rw [if_pos rfl, if_pos (by omega)]; simp
      · rw [if_neg e1, if_neg (by omega)]
theorem envVV_get : ∀ (ws : List VV) (i : Nat) (e : Map VE) (j : Nat), (envVV ws i e).get j = if i ≤ j ∧ j < i + ws.length then ws[j - i]?.map (fun w => ⟨none, w⟩) else e.get j
  | [], i, e, j => by simp only [envVV, List.length_nil]; rw [if_neg (by omega)]
  | w :: ws, i, e, j => by
    simp only [envVV, envVV_get ws (i + 1), Map.get_put, List.length_cons]
    by_cases h : i + 1 ≤ j ∧ j < i + 1 + ws.length
    · rw [if_pos h, if_pos (by omega), show j - i = (j - (i + 1)) + 1 by omega, List.getElem?_cons_succ]
    · rw [if_neg h]
      by_cases e1 : j = i
      · subst e1; rw [if_pos rfl, if_pos (by omega)]; simp
      · rw [if_neg e1, if_neg (by omega)]
/-- the callee's temporaries -/
theorem r_env {A : Tok} {V : VSt} {st : St} (hR : R A V st) {ws : List VV} {as : List AV} (hl : ws.length = as.length) (hw : ∀ (j : Nat) w a, ws[j]? = some w → as[j]? = some a → VR A w a) :
    R A { V with env := envVV ws 0 .leaf } ⟨initE as 0 .leaf, st.H, st.nx⟩ := by
  refine ⟨fun t e he => ?_, hR.heap, hR.inj, hR.used, hR.one, hR.fresh⟩
  have he' : (envVV ws 0 .leaf).get t = some e := he
  rw [envVV_get] at he'
  split at he'
  · rename_i ht
    rw [Nat.sub_zero] at he'
    have hlt : t < ws.length := by omega
    rw [List.getElem?_eq_getElem hlt] at he'
    cases he'
    have ha : as[t]? = some (as[t]'(by omega)) := List.getElem?_eq_getElem _
    refine ⟨as[t]'(by omega), ?_, fun _ => hw t _ _ (List.getElem?_eq_getElem hlt) ha⟩
    show (initE as 0 .leaf).get t = _
    rw [initE_get, if_pos (by omega), Nat.sub_zero, ha]
  · cases he'
/-- the caller's state and the callee's, ahead of the call -/
theorem prA_sim {st stc : St} (hH : stc.H = st.H) (hnx : stc.nx = st.nx) : ∀ (ks : List PK) (i : Nat) (ws : List VV) (as : List AV) (V Vc : VSt) (A A0 : Tok) (I : JT (jin ks i) Prop) (k : VSt → Prop), (jin ks i).all entPos = true → R A V st → R A0 Vc stc → (∀ id, Own V A id → ¬ Own Vc A0 id) →
    (∀ (j : Nat) w a, ws[j]? = some w → as[j]? = some a → VR A w a) → ws.length = as.length → (∀ (j : Nat) a, as[j]? = some a → stc.env.get (i + j) = some a) → prA ks i ws V I → allJ (jin ks i) Vc I k →
    ∃ Vc' A', k Vc' ∧ R A' Vc' stc ∧ (∀ id, Own Vc' A' id → Own Vc A0 id ∨ Own V A id) ∧ (∀ id, Own (restA ks ws V) A id → ¬ Own Vc' A' id) ∧ Sub V (restA ks ws V)
  | [], i, ws, as, V, Vc, A, A0, I, k, hp, hR, hRc, hap, hw, hl, has, hk, hkc => by
    cases ws with
    | nil => exact ⟨Vc, A0, hkc hk, hRc, fun id h => .inl h, hap, Sub.refl V⟩
    | cons w ws => cases hk
  | .tr :: ks, i, ws, as, V, Vc, A, A0, I, k, hp, hR, hRc, hap, hw, hl, has, hk, hkc => by
    cases ws with
    | nil => cases hk
    | cons w ws =>
      cases as with
      | nil => cases hl
      | cons a as =>
        simp only [jin, List.all_cons, Bool.and_eq_true] at hp
        simp only [prA] at hk
        obtain ⟨v, hc, hk⟩ := vr_tree (hw 0 w a rfl rfl) hk
        obtain ⟨Vc', A', g1, g2, g3, g4, g5⟩ := prA_sim hH hnx ks (i + 1) ws as V (addE Vc i (.tr v)) A A0 (I v) k hp.2 hR (r_addE hRc (has 0 a rfl) (.tr hc)) hap (fun j w' a' h1 h2 => hw (j + 1) w' a' (by simpa using h1) (by simpa using h2)) (Nat.succ.inj hl)
          (fun j a' h1 => by have := has (j + 1) a' (by simpa using h1); rwa [show i + (j + 1) = i + 1 + j by omega] at this) hk (hkc v)
        exact ⟨Vc', A', g1, g2, g3, g4, g5⟩
  | .ob offs :: ks, i, ws, as, V, Vc, A, A0, I, k, hp, hR, hRc, hap, hw, hl, has, hk, hkc => by
    cases ws with
    | nil => cases hk
    | cons w ws =>
      cases as with
      | nil => cases hl
      | cons a as =>
        simp only [jin, List.all_cons, Bool.and_eq_true] at hp
        have hz : ∀ p ∈ offs, 0 < p.2 := fun p hm => by have := List.all_eq_true.1 hp.1 p hm; simpa using this
        cases w <;> first | (cases hk; done) | skip
        rename_i O off
        cases off with
        | succ n => cases hk
        | zero =>
        simp only [prA] at hk
        split at hk
        rotate_left
        · cases hk
        rename_i v ovs hO
        split at hk
        rotate_left
        · cases hk
        rename_i hkeys
        have hwa := hw 0 _ a rfl rfl
        cases hwa with
        | @ptr _ _ id hAO =>
        obtain ⟨y, hy, id', cs, ts, rfl, hHc, hc⟩ := hR.heap O _ hO
        rw [hAO] at hy; cases hy
        have hsl : ∀ j w, ovAt j ovs = some w → ∃ x, cs[j]? = some x ∧ SlV A w x := fun j w hj => by
          have hlt := hc.keys j w hj
          have hx : cs[j]? = some (cs[j]'(by rw [← hc.len]; exact hlt)) := List.getElem?_eq_getElem _
          have := hc.at_ j _ _ (List.getElem?_eq_getElem hlt) hx
          rw [hj] at this
          exact ⟨_, hx, this⟩
        have hgone := gone_dropO hR hO hAO (id := id) rfl
        have hownO : Own V A id := ⟨O, _, _, hO, hAO, rfl⟩
        -- the caller's objects, in the callee's memory
        have hRe : R A { dropO V O with env := .leaf } stc := ⟨fun t e he => (by cases he), fun O' o' ho => by
            obtain ⟨x, hx, hor⟩ := hR.heap O' o' (dropO_get ho).2
            exact ⟨x, hx, hor.mono (fun _ _ h => h) (fun _ _ => by rw [hH])⟩, fun O1 O2 o1 o2 a1 a2 id' h1 h2 => hR.inj O1 O2 o1 o2 a1 a2 id' (dropO_get h1).2 (dropO_get h2).2, hR.used, hR.one, hRc.fresh⟩
        have h1 : Two { dropO V O with env := .leaf } A Vc A0 stc := ⟨hRe, hRc, fun id' ho => hap id' ((sub_dropO V O).own ho)⟩
        have hk' : takeL (R := JT (.pt i i 0 :: jin ks (i + 1)) Prop) { dropO V O with env := .leaf } ovs offs (I v) fun I V' => prA ks (i + 1) ws { V' with env := V.env } I := by
          have gen : ∀ (offs : List (Nat × Nat)) (V1 : VSt) (J : JL offs (JT (.pt i i 0 :: jin ks (i + 1)) Prop)), V1.env = V.env → takeL V1 ovs offs J (fun I V' => prA ks (i + 1) ws V' I) → takeL { V1 with env := .leaf } ovs offs J fun I V' => prA ks (i + 1) ws { V' with env := V.env } I := by
            intro offs
            induction offs with
            | nil => intro V1 J he h; show prA ks (i + 1) ws { V1 with env := V.env } J; rw [← he]; exact h
            | cons p offs ih =>
              obtain ⟨off, sz⟩ := p
              intro V1 J he h
              simp only [takeL] at h ⊢
              split at h
              · rename_i w hw
                unfold takeS at h ⊢
                split at h
                · split at h
                  · rename_i z es ho
                    obtain ⟨rfl, h⟩ := same_ok h
                    simp only [ho]
                    show same z z _
                    unfold same
                    rw [cond_eq_ite, if_pos (by simp)]
                    exact ih (dropO V1 _) (J es) he h
                  · cases h
                · exact ih V1 (J []) he h
                · cases h
              · cases h
          exact gen offs (dropO V O) (I v) rfl hk
        obtain ⟨i2, V', Vc', A', g1, g2, g0, g3, g3a, g4, g5, g6, g7, g8⟩ := takeL_sim hsl offs { dropO V O with env := .leaf } Vc A0 (I v) _ _ hz h1 hk' (hkc v)
        have hor : ∀ A3 : Tok, (∀ O x, A' O = some x → A3 O = some x) → OR A3 stc.H (.ob v (ovsOf i offs)) (.ptr id 0 0) := by
          intro A3 hA3
          refine ⟨id, cs, ts, rfl, by rw [hH]; exact hHc, ⟨hc.cells, hc.len, fun j w hj => ?_, fun j t x ht hx => ?_⟩⟩
          · rw [ovsOf_at] at hj
            split at hj
            · rename_i hh
              obtain ⟨x, hx, _⟩ := g8 j hh
              rw [hc.len]; exact (List.getElem?_eq_some_iff.1 hx).1
            · cases hj
          · rw [ovsOf_at]
            by_cases hh : hasKey j offs = true
            · rw [if_pos hh]
              obtain ⟨x', hx', hA'⟩ := g8 j hh
              rw [hx] at hx'; cases hx'
              exact hA3 _ _ hA'
            · rw [if_neg hh]
              have := hc.at_ j t x ht hx
              cases ho : ovAt j ovs with
              | none => rw [ho] at this; exact this
              | some w => exact absurd (keysIn_at hkeys j w ho) hh
        obtain ⟨Vc2, A2, p1, p2, p3, p4, p5, p6, p7, p8⟩ := name_sim g3.new (a := .ptr id 0 0) g2 hor rfl (fun id' hi ho => by
          cases hi
          rcases g7 _ ho with ho | ho
          · exact hap _ hownO ho
          · exact hgone ho)
        -- the pointer
        have p1' : allJ (.pt i i 0 :: jin ks (i + 1)) Vc2 i2 k := p1
        simp only [allJ, p7] at p1'
        have hR' : R A { V' with env := V.env } st := by
          have hs : Sub V { V' with env := V.env } := ⟨rfl, g4.us, fun O' o' ho => (dropO_get (g4.H O' o' ho)).2⟩
          exact hs.r hR
        obtain ⟨Vc3, A3, q1, q2, q3, q4, q5⟩ := prA_sim hH hnx ks (i + 1) ws as { V' with env := V.env } (addE Vc2 i (.ptr i 0)) A A2 i2 k hp.2.2 hR' (r_addE p2 (has 0 _ rfl) (.ptr p4)) (fun id' ho hc' => by
            rcases p6 id' hc' with hc' | hi
            · exact g3.apart id' ho hc'
            · cases hi; exact hgone (g4.own ho)) (fun j w' a' h1 h2 => hw (j + 1) w' a' (by simpa using h1) (by simpa using h2)) (Nat.succ.inj hl)
          (fun j a' h1 => by have := has (j + 1) a' (by simpa using h1); rwa [show i + (j + 1) = i + 1 + j by omega] at this) g1 p1'
        have hrestL : ∀ (offs : List (Nat × Nat)) (V1 : VSt), V1.env = V.env → { restL { V1 with env := .leaf } ovs offs with env := V.env } = restL V1 ovs offs := by
          intro offs
          induction offs with
          | nil => intro V1 he; simp only [restL]; rw [← he]
          | cons p offs ih =>
            obtain ⟨off, sz⟩ := p
            intro V1 he
            simp only [restL]
            split
            · rename_i w hw
              cases w <;> first | exact ih V1 he | exact ih (dropO V1 _) he
            · exact ih V1 he
        have hrest : restA (.ob offs :: ks) (.ptr O 0 :: ws) V = restA ks ws { V' with env := V.env } := by
          simp only [restA, hO]
          rw [g0, hrestL offs (dropO V O) rfl]
        refine ⟨Vc3, A3, q1, q2, fun id' ho => ?_, by rw [hrest]; exact q4, by rw [hrest]; exact (⟨rfl, g4.us, fun O' o' ho => (dropO_get (g4.H O' o' ho)).2⟩ : Sub V { V' with env := V.env }).trans q5⟩
        rcases q3 id' ho with ho | ho
        · rcases p6 id' ho with ho | hi
          · rcases g7 id' ho with ho | ho
            · exact .inl ho
            · exact .inr ((sub_dropO V O).own ho)
          · cases hi; exact .inr hownO
        · exact .inr ((sub_dropO V O).own (g4.own ho))
  | .sl sz :: ks, i, ws, as, V, Vc, A, A0, I, k, hp, hR, hRc, hap, hw, hl, has, hk, hkc => by
    cases ws with
    | nil => cases hk
    | cons w ws =>
      cases as with
      | nil => cases hl
      | cons a as =>
        simp only [jin, List.all_cons, Bool.and_eq_true] at hp
        have hz : 0 < sz := by have := hp.1; simpa [entPos] using this
        cases w <;> first | (cases hk; done) | skip
        rename_i O
        simp only [prA, takeS] at hk
        split at hk
        rotate_left
        · cases hk
        rename_i z es ho
        obtain ⟨rfl, hk⟩ := same_ok hk
        have hwa := hw 0 _ a rfl rfl
        cases hwa with
        | @sl _ _ hAO =>
        obtain ⟨y, hy, hs⟩ := hR.heap O _ ho
        rw [hAO] at hy; cases hy
        have hsl : SlR stc.H z es a := by rw [hH]; exact hs
        have hid : ∀ id, idOf a = some id → Own V A id ∧ ¬ Own (dropO V O) A id := fun id hi => ⟨⟨O, _, a, ho, hAO, hi⟩, gone_dropO hR ho hAO hi⟩
        have hkc1 := hkc es
        obtain ⟨Vc1, A1, hkc2, hR1, hA1, hAo, henv, hown, _, hback⟩ := name_sim hRc hkc1 (fun A' _ => hsl) (hR.one O _ hAO) (fun id hi => hap id (hid id hi).1)
        obtain ⟨Vc', A', g1, g2, g3, g4, g5⟩ := prA_sim hH hnx ks (i + 1) ws as (dropO V O) (addE Vc1 i (.sl i)) A A1 (I es) k hp.2 (hR.dropO O) (r_addE hR1 (has 0 a rfl) (.sl hAo)) (fun id hoo hc => (hown id hc).elim (fun hc => hap id ((sub_dropO V O).own hoo) hc) (fun hi => (hid id hi).2 hoo))
          (fun j w' a' h1 h2 => hw (j + 1) w' a' (by simpa using h1) (by simpa using h2)) (Nat.succ.inj hl) (fun j a' h1 => by have := has (j + 1) a' (by simpa using h1); rwa [show i + (j + 1) = i + 1 + j by omega] at this) hk hkc2
        refine ⟨Vc', A', g1, g2, fun id hoo => ?_, g4, (sub_dropO V O).trans g5⟩
        rcases g3 id hoo with hoo | hoo
        · rcases hown id hoo with hoo | hi
          · exact .inl hoo
          · exact .inr (hid id hi).1
        · exact .inr ((sub_dropO V O).own hoo)
theorem o_share {sh : Sh} (hsh : sh.vs = VSh prog) {A : Tok} {V : VSt} {st : St} (hR : R A V st) {d : Option Nat} {f : Nat} {args : List Opd} {k : VSt → Prop} (h : evShare sh nt V d f args k) : Sim (runFn prog) nt A V st d (.call f args .share) k := by
  unfold evShare at h
  cases d with
  | none => cases h
  | some d =>
  simp only at h
  split at h
  · cases h
  rename_i sg hsg
  obtain ⟨ws, hwl, hw, h⟩ := rdKs_sim hR args _ h
  split at h
  · cases h
  rename_i ims him
  split at h
  · cases h
  rename_i hok
  simp only [Bool.and_eq_true] at hok
  obtain ⟨⟨hp1, hp2⟩, hn, hi⟩ := hok
  rw [hsh] at h
  generalize has : args.map (ev st.env) = as at hwl hw
  have hal := allJ_mk (jin sg.ks 0) V0 [] (CallOk prog f sg.ks.length (jout sg.ks.length sg.rk sg.ks 0) (conJ (jout sg.ks.length sg.rk sg.ks 0) ims { restA sg.ks ws V with env := V.env.put none d } k)) hn (fun O hO => by cases hO)
  have no0 : ∀ id, ¬ Own V0 (fun _ => none) id := fun id ⟨O, o, a, ho, _⟩ => by cases ho
  have hRc0 : R (fun _ => none) V0 ⟨initE as 0 .leaf, st.H, st.nx⟩ := ⟨fun t e he => (by cases he), fun O o ho => (by cases ho), fun O O' o o' a a' id ho => (by cases ho), fun _ _ => rfl, fun O a ha => (by cases ha), hR.fresh⟩
  obtain ⟨Vc, A1, g1, g2, g3, g4, g5⟩ := prA_sim (st := st) (stc := ⟨initE as 0 .leaf, st.H, st.nx⟩) rfl rfl sg.ks 0 ws as V V0 A (fun _ => none) _ _ hp1 hR hRc0 (fun id _ hc => no0 id hc) hw hwl (fun j a ha => by
    show (initE as 0 .leaf).get (0 + j) = _
    have hjl := (List.getElem?_eq_some_iff.1 ha).1
    rw [initE_get, if_pos (by omega)]
    simpa using ha) h hal
  have hlen : as.length = sg.ks.length := by rw [← hwl, imps_len _ _ _ him]
  obtain ⟨v, H', nx', A2, V2, q1, q2, q3, q4⟩ := g1 A1 as st.H st.nx hlen g2
  have ownV : ∀ id, Own (restA sg.ks ws V) A id → Own V A id := fun id ho => g5.own ho
  have hlt : ∀ id, Own (restA sg.ks ws V) A id → id < st.nx := fun id ho => hR.own_lt (ownV id ho)
  have hsameH : ∀ id, Own (restA sg.ks ws V) A id → H'.get id = st.H.get id := fun id ho => q4.same id (hlt id ho) (g4 id ho)
  have hRr : R A { restA sg.ks ws V with env := V.env.put none d } ⟨st.env.put (some v) d, H', nx'⟩ := by
    refine ⟨fun t e he => ?_, fun O o ho => ?_, (g5.r hR).inj, fun O hu => hR.used O (by rw [← hu]; exact congrArg (fun m => Map.get m O) g5.us.symm), hR.one, q2.fresh⟩
    · have he' : (V.env.put none d).get t = some e := he
      rw [Map.get_put] at he'
      split at he'
      · cases he'
      · rename_i hne
        obtain ⟨a, ha, hv⟩ := hR.env t e he'
        exact ⟨a, by show (st.env.put (some v) d).get t = _; rw [Map.get_put, if_neg hne]; exact ha, hv⟩
    · obtain ⟨a, ha, hor⟩ := (g5.r hR).heap O o ho
      exact ⟨a, ha, hor.mono (fun _ _ h => h) (fun id hi => hsameH id ⟨O, o, a, ho, ha, hi⟩)⟩
  have hb : Back V2 A2 ⟨(initE as 0 .leaf).put (some v) sg.ks.length, H', nx'⟩ { restA sg.ks ws V with env := V.env.put none d } A ⟨st.env.put (some v) d, H', nx'⟩ :=
    ⟨q2, hRr, rfl, rfl, fun id ho hc => by
      rcases q4.own id ho with ho | hle
      · exact g4 id hc ho
      · have := hlt id hc; omega⟩
  obtain ⟨Vr', A3, p1, p2, p3, p4, p5⟩ := imp_sim (nt := nt) (st2 := ⟨(initE as 0 .leaf).put (some v) sg.ks.length, H', nx'⟩) (st := ⟨st.env.put (some v) d, H', nx'⟩) (v := v) (d := d) sg.ks 0 ws as ims V2 _ A2 A him hp2 (by
      have e : ({ restA sg.ks ws V with env := V.env.put none d } : VSt).us = V.us := g5.us
      rw [e]; exact hi) hb hw hwl (fun j a ha => by
      show ((initE as 0 .leaf).put (some v) sg.ks.length).get (0 + j) = _
      have hjl := (List.getElem?_eq_some_iff.1 ha).1
      rw [Map.get_put, if_neg (by omega), initE_get, if_pos (by omega)]
      simpa using ha) (by show ((initE as 0 .leaf).put (some v) sg.ks.length).get _ = _; rw [Map.get_put, if_pos rfl]) (by show (st.env.put (some v) d).get d = _; rw [Map.get_put, if_pos rfl]) q3
  refine ⟨v, H', nx', ?_, st.env.put (some v) d, by simp only [putD, cond_eq_ite, if_pos p5], Vr', A3, p2, ⟨q4.le, fun id hid hno => q4.same id hid (fun hc => ?_), fun id ho => ?_⟩, p3, p1⟩
  · have hk : kind (.call f args .share) = .call f args .share := rfl
    simp only [doOp, hk, doCall, has]
    exact q1
  · rcases g3 id hc with hc | hc
    · exact no0 id hc
    · exact hno hc
  · rcases p4 id ho with ho | ho
    · exact .inl (ownV id ho)
    · rcases q4.own id ho with ho | hle
      · rcases g3 id ho with hc | hc
        · exact absurd hc (no0 id)
        · exact .inl hc
      · exact .inr hle
end
end Go.Ax.V

/- Every operation, under its guard; rows of operations. -/
set_option linter.unusedSimpArgs false
set_option linter.unusedVariables false
namespace Go.Ax.V

section
variable {sh : Sh} {prog : Map AFunc} {cf : FnF} {nt : Nat} {A : Tok} {V : VSt} {st : St} {d : Option Nat} {g : G} {k : VSt → Prop}

theorem evU_sim (hsh : sh.vs = VSh prog) (hR : R A V st) (ha : act g) {op : AOp} (h : evU sh prog nt V d g op k) : Sim (runFn prog) nt A V st d op k := by
  cases op with
  | mv x => exact o_mv hR ha h
  | pick c a b => exact o_pick hR ha h
  | alloc zero => exact o_alloc hR h
  | box x => exact o_box hR ha h
  | build zero parts =>
    cases g with
    | none => exact o_build hR h
    | some p => exact o_buildg hR ha h
  | bslice es len zero parts =>
    cases g with
    | none => exact o_bslice hR h
    | some p => cases h
  | islice len zero parts =>
    cases g with
    | none =>
      obtain ⟨v, H', nx', h1, h2⟩ := o_islice (cf := runFn prog) (gd := none) (fz := false) hR h
      exact ⟨v, H', nx', h1, h2⟩
    | some p => cases h
  | load sz a => exact o_load hR ha h
  | store sz a x =>
    cases g with
    | none =>
      cases d with
      | none => exact o_store hR h
      | some d => cases h
    | some p => cases h
  | nilck x => exact o_nilck hR ha h
  | bin op x y => exact o_bin hR ha h
  | eq t neg x y =>
    cases t with
    | slice =>
      cases g with
      | none =>
        simp only [evU] at h
        split at h
        · rename_i hy; exact o_eqs hR hy h
        · cases h
      | some q => cases h
    | one l => exact o_eq hR ha h
    | agg l => exact o_eq hR ha h
  | un op x => exact o_un hR ha h
  | conv c x => exact o_conv hR ha h
  | mksl es bytes zero n =>
    cases g with
    | none => exact o_mksl hR h
    | some p => exact (pos_ok h).2.elim
  | slstr x lo hi => exact o_slstr hR ha h
  | slsl es x lo hi mx => exact o_slsl hR ha h
  | slarr n es x lo hi mx => cases h
  | faddr off x => exact o_faddr hR ha h
  | fld off sz x => exact o_fld hR ha h
  | iaddr es x i => exact o_iaddr hR ha h
  | iarr len es x i => exact o_iarr hR ha h
  | idx x i => exact o_idx hR ha h
  | ext i x => exact o_ext hR ha h
  | app es bytes s x => exact o_app hR ha h
  | cpy es dd s => cases h
  | clr es zero x => cases h
  | len str x => exact o_len hR ha h
  | mnx mx xs => exact o_mnx hR ha h
  | mkmap => cases h
  | mlook t zero ok m k => cases h
  | mset t m k v => cases h
  | mlen m => cases h
  | call f args m =>
    cases m with
    | share =>
      cases g with
      | none => exact o_share hsh hR h
      | some p => cases h
    | borrow =>
      obtain ⟨v, h1, h2⟩ := o_call hR ha h
      exact ⟨v, st.H, st.nx, h1, h2⟩
  | callv f args m =>
    cases m with
    | share => cases h
    | borrow =>
      obtain ⟨fv, hf, h⟩ := rdT_sim hR ha h
      cases g with
      | none =>
        obtain ⟨n, rfl, h⟩ := h
        obtain ⟨v, h1, h2⟩ := o_call (g := none) hR trivial h
        generalize he : ev st.env f = p at hf
        cases hf
        refine ⟨v, st.H, st.nx, ?_, h2⟩
        have hk : kind (.callv f args .borrow) = .callv f args .borrow := rfl
        simp only [doOp, hk, he]
        exact h1
      | some q =>
        obtain ⟨c, bb⟩ := q
        obtain ⟨n, hn, h⟩ := h
        obtain rfl := hn ha
        obtain ⟨v, h1, h2⟩ := o_call hR ha h
        generalize he : ev st.env f = p at hf
        cases hf
        refine ⟨v, st.H, st.nx, ?_, h2⟩
        have hk : kind (.callv f args .borrow) = .callv f args .borrow := rfl
        simp only [doOp, hk, he]
        exact h1

/-! ### An operation that was not asked for -/
def Off (nt : Nat) (V : VSt) (d : Option Nat) (c : TV) (bb : Bool) (k : VSt → Prop) : Prop := ∃ g w, ((g = none ∧ w = VV.tr noT) ∨ g = some (c, bb)) ∧ putV nt V d g w k
theorem gV_off {c : TV} {bb : Bool} (hc : c ≠ .b bb) {P : TV → Prop} {v : TV} (h : gV c bb P v) : v = noT := by
  unfold gV at h
  split at h
  · rename_i x
    split at h
    · rename_i hh
      exact absurd (by cases x <;> cases bb <;> first | rfl | cases hh) hc
    · exact h
  · exact h
section
variable {c : TV} {bb : Bool}
theorem resT_off (hc : c ≠ .b bb) {P k : TV → Prop} (h : resT (some (c, bb)) P k) : k noT := by
  obtain ⟨v, h1, h2⟩ := h
  rw [gV_off hc h1] at h2; exact h2
theorem resV_off (hc : c ≠ .b bb) {P : Option TV} (h : resV nt V d (some (c, bb)) P k) : Off nt V d c bb k := ⟨none, .tr noT, .inl ⟨rfl, rfl⟩, resT_off hc h⟩
theorem tag_off {w : VV} (h : putV nt V d (some (c, bb)) w k) : Off nt V d c bb k := ⟨_, w, .inr rfl, h⟩
theorem resN_ex {g : G} {P : Option Nat} {k : Nat → Prop} (h : resN g P k) : ∃ n, k n := by
  cases g with
  | none => obtain ⟨n, _, h⟩ := h; exact ⟨n, h⟩
  | some p => obtain ⟨n, _, h⟩ := h; exact ⟨n, h⟩
theorem rdK_ex {x : Opd} {k : VV → Prop} (h : rdK V g x k) : ∃ w, k w := by
  cases x with
  | c v => exact ⟨_, h⟩
  | t n =>
    simp only [rdK] at h
    split at h
    · cases h
    split at h
    · exact ⟨_, h⟩
    · split at h
      · cases h
      · exact ⟨_, h.2⟩
theorem rdT_ex {x : Opd} {k : TV → Prop} (h : rdT V g x k) : ∃ v, k v := by
  obtain ⟨w, h⟩ := rdK_ex h
  unfold treeK at h
  split at h
  · exact ⟨_, h⟩
  · exact ⟨_, h⟩
  · obtain ⟨u, _, h⟩ := h; exact ⟨u, h⟩
  · cases h
theorem ordT_ex {x : Option Opd} {k : Option TV → Prop} (h : ordT V g x k) : ∃ v, k v := by
  cases x with
  | none => exact ⟨none, h⟩
  | some x => obtain ⟨v, h⟩ := rdT_ex h; exact ⟨some v, h⟩
theorem rdPs_ex : ∀ {xs : List (Nat × Nat × Opd)} {k : List (Nat × Nat × TV) → Prop}, rdPs V g xs k → ∃ vs, k vs
  | [], k, h => ⟨[], h⟩
  | (off, n, x) :: xs, k, h => by
    obtain ⟨v, h⟩ := rdT_ex h
    obtain ⟨vs, h⟩ := rdPs_ex h
    exact ⟨_, h⟩
theorem rdTs_ex : ∀ {xs : List Opd} {k : List TV → Prop}, rdTs V g xs k → ∃ vs, k vs
  | [], k, h => ⟨[], h⟩
  | x :: xs, k, h => by
    obtain ⟨v, h⟩ := rdT_ex h
    obtain ⟨vs, h⟩ := rdTs_ex h
    exact ⟨v :: vs, h⟩
theorem toTs_ex : ∀ {l : List (Nat × VV)} {v : TV} {k : TV → Prop}, toTs V l v k → ∃ u, k u
  | [], v, k, h => ⟨v, h⟩
  | (off, w) :: l, v, k, h => by
    obtain ⟨u, h⟩ := toTs_ex (l := l) h
    obtain ⟨es, u', _, h⟩ := slOf_ex h
    exact ⟨u', h⟩
theorem toT_ex {w : VV} {k : TV → Prop} (h : toT V w k) : ∃ t, k t := by
  unfold toT at h
  split at h
  · exact ⟨_, h⟩
  · exact ⟨_, h⟩
  · obtain ⟨es, h⟩ := slOf_ex h; exact ⟨_, h⟩
  · exact toTs_ex h
  · cases h
theorem argsK_ex : ∀ {xs : List Opd} {k : Bool → List TV → Prop}, argsK V g xs k → ∃ p ts, k p ts
  | [], k, h => ⟨_, _, h⟩
  | x :: xs, k, h => by
    obtain ⟨w, h⟩ := rdK_ex h
    split at h
    · obtain ⟨p, ts, h⟩ := argsK_ex h; exact ⟨_, _, h⟩
    · obtain ⟨p, ts, h⟩ := argsK_ex h; exact ⟨_, _, h⟩
    · obtain ⟨t, h⟩ := toTs_ex h
      obtain ⟨p, ts, h⟩ := argsK_ex h
      exact ⟨_, _, h⟩
    · obtain ⟨t, h⟩ := toT_ex h
      obtain ⟨p, ts, h⟩ := argsK_ex h
      exact ⟨_, _, h⟩

theorem evLoad_off (hc : c ≠ .b bb) {sz : Option Nat} {w : VV} (h : evLoad nt V d (some (c, bb)) sz w k) : Off nt V d c bb k := by
  unfold evLoad at h
  split at h
  · split at h
    · split at h
      · split at h
        · exact tag_off h
        · exact resV_off hc h
      · split at h
        · exact resV_off hc h
        · cases h
    · cases h
  · split at h
    · split at h
      · exact resV_off hc h
      · cases h
    · cases h
  · exact resV_off hc h
  · split at h
    · exact resV_off hc h
    · cases h
  · cases h
theorem evFld_off (hc : c ≠ .b bb) {off : Nat} {sz : Option Nat} {w : VV} (h : evFld nt V d (some (c, bb)) off sz w k) : Off nt V d c bb k := by
  unfold evFld at h
  split at h
  · exact resV_off hc h
  · split at h
    · split at h
      · exact tag_off h
      · exact resV_off hc h
    · split at h
      · exact resV_off hc h
      · cases h
  · cases h
theorem newV_off {wf : Nat → VV} {o : VO} (h : newV nt V d (some (c, bb)) wf o k) : False := h
theorem evSlsl_off (hc : c ≠ .b bb) {sz : Nat} {w : VV} {lo hi mx : Option Opd} (h : evSlsl nt V d (some (c, bb)) sz w lo hi mx k) : Off nt V d c bb k := by
  replace h := (pos_ok h).2
  split at h
  · split at h
    · split at h
      · split at h
        · obtain ⟨l, m, _, h⟩ := ordT_ex (same_ok h).2; cases h
        · cases h
      · cases h
    · cases h
  · split at h
    · obtain ⟨l, h⟩ := ordT_ex h
      obtain ⟨hh, h⟩ := ordT_ex h
      exact ⟨none, .tr noT, .inl ⟨rfl, rfl⟩, resT_off hc h⟩
    · split at h
      · rename_i hcond
        simp at hcond
      · cases h
  · split at h
    · exact tag_off h
    · cases h
  · cases h
theorem evU_off (hc : c ≠ .b bb) {op : AOp} (h : evU sh prog nt V d (some (c, bb)) op k) : Off nt V d c bb k := by
  cases op with
  | mv x =>
    simp only [evU] at h
    obtain ⟨w, h⟩ := rdK_ex h
    unfold evMv at h
    split at h
    · exact resV_off hc h
    · cases h
    · exact tag_off h
  | pick a b e => simp only [evU] at h; obtain ⟨_, h⟩ := rdT_ex h; obtain ⟨_, h⟩ := rdT_ex h; obtain ⟨_, h⟩ := rdT_ex h; exact resV_off hc h
  | alloc zero =>
    simp only [evU] at h
    split at h <;> cases h
  | box x =>
    simp only [evU] at h
    obtain ⟨w, h⟩ := rdK_ex h
    split at h
    · cases h.2
    · cases h
  | build zero parts =>
    simp only [evU] at h
    split at h
    · obtain ⟨_, h⟩ := rdPs_ex h; exact resV_off hc h
    · cases h
  | bslice es len zero parts => cases h
  | islice len zero parts => cases h
  | load sz a => simp only [evU] at h; obtain ⟨w, h⟩ := rdK_ex h; exact evLoad_off hc h
  | store sz a x => cases h
  | nilck x =>
    simp only [evU] at h
    obtain ⟨w, h⟩ := rdK_ex h
    unfold evNilck at h
    split at h <;> first | exact tag_off h | cases h
  | bin op x y => simp only [evU] at h; obtain ⟨_, h⟩ := rdT_ex h; obtain ⟨_, h⟩ := rdT_ex h; exact resV_off hc h
  | eq t neg x y =>
    cases t with
    | slice => cases h
    | one l => simp only [evU] at h; obtain ⟨_, h⟩ := rdT_ex h; obtain ⟨_, h⟩ := rdT_ex h; exact resV_off hc h
    | agg l => simp only [evU] at h; obtain ⟨_, h⟩ := rdT_ex h; obtain ⟨_, h⟩ := rdT_ex h; exact resV_off hc h
  | un op x => simp only [evU] at h; obtain ⟨_, h⟩ := rdT_ex h; exact resV_off hc h
  | conv e x => simp only [evU] at h; obtain ⟨_, h⟩ := rdT_ex h; exact resV_off hc h
  | mksl es bytes zero n => exact (pos_ok h).2.elim
  | slstr x lo hi => simp only [evU] at h; obtain ⟨_, h⟩ := rdT_ex h; obtain ⟨_, h⟩ := ordT_ex h; obtain ⟨_, h⟩ := ordT_ex h; exact resV_off hc h
  | slsl es x lo hi mx => simp only [evU] at h; obtain ⟨w, h⟩ := rdK_ex h; exact evSlsl_off hc h
  | slarr n es x lo hi mx => cases h
  | faddr off x =>
    simp only [evU] at h
    obtain ⟨w, h⟩ := rdK_ex h
    unfold evFaddr at h
    split at h <;> first | exact tag_off h | cases h
  | fld off sz x => simp only [evU] at h; obtain ⟨w, h⟩ := rdK_ex h; exact evFld_off hc h
  | iaddr es x i =>
    simp only [evU] at h
    obtain ⟨w, h⟩ := rdK_ex h
    obtain ⟨iv, h⟩ := rdT_ex h
    replace h := (pos_ok h).2
    split at h
    · exact tag_off (resT_off hc h)
    · split at h
      · obtain ⟨n, h⟩ := resN_ex (same_ok h).2
        exact tag_off h
      · cases h
    · cases h
  | iarr len es x i =>
    simp only [evU] at h
    obtain ⟨w, h⟩ := rdK_ex h
    obtain ⟨iv, h⟩ := rdT_ex h
    unfold evIarr at h
    split at h <;> first | (obtain ⟨n, h⟩ := resN_ex h; exact tag_off h) | cases h
  | idx x i => simp only [evU] at h; obtain ⟨_, h⟩ := rdT_ex h; obtain ⟨_, h⟩ := rdT_ex h; exact resV_off hc h
  | ext i x => simp only [evU] at h; obtain ⟨_, h⟩ := rdT_ex h; exact resV_off hc h
  | app es bytes s x =>
    simp only [evU] at h
    obtain ⟨w, h⟩ := rdK_ex h
    obtain ⟨y, h⟩ := rdK_ex h
    replace h := (pos_ok h).2
    exfalso
    unfold srcK at h
    have key : ∀ xs, (match w with
      | .nil0 => ∃ l, appT bytes [] xs = some l ∧ newV nt V d (some (c, bb)) .sl (.gr es l) k
      | .sl O => (match V.H.get O with
        | some (.gr z es') => same z es (∃ l, appT bytes es' xs = some l ∧ newV nt (dropO V O) d (some (c, bb)) .sl (.gr es l) k)
        | _ => False)
      | _ => False) → False := fun xs h => by
      split at h
      · obtain ⟨l, _, h⟩ := h; exact h
      · split at h
        · obtain ⟨l, _, h⟩ := (same_ok h).2; exact h
        · cases h
      · cases h
    split at h
    · obtain ⟨xs, _, _, h⟩ := h; exact key _ h
    · exact key _ h
    · split at h
      · exact key _ (same_ok h).2
      · cases h
    · cases h
  | cpy es dd s => cases h
  | clr es zero x => cases h
  | len str x =>
    simp only [evU] at h
    obtain ⟨w, h⟩ := rdK_ex h
    unfold evLen at h
    split at h
    · split at h
      · exact resV_off hc h
      · cases h
    · split at h
      · exact resV_off hc h
      · exact resV_off hc h
      · split at h
        · exact resV_off hc h
        · cases h
      · cases h
  | mnx mx xs => simp only [evU] at h; obtain ⟨vs, h⟩ := rdTs_ex h; exact resV_off hc h
  | mkmap => cases h
  | mlook t zero ok m k => cases h
  | mset t m k v => cases h
  | mlen m => cases h
  | call f args m =>
    cases m with
    | share => cases h
    | borrow =>
      simp only [evU] at h
      obtain ⟨p, ts, r, h1, h2⟩ := argsK_ex h
      rw [gV_off hc h1] at h2
      exact ⟨none, .tr noT, .inl ⟨rfl, rfl⟩, h2⟩
  | callv f args m =>
    cases m with
    | share => cases h
    | borrow =>
      simp only [evU] at h
      obtain ⟨_, h⟩ := rdT_ex h
      obtain ⟨n, _, h⟩ := h
      obtain ⟨p, ts, r, h1, h2⟩ := argsK_ex h
      rw [gV_off hc h1] at h2
      exact ⟨none, .tr noT, .inl ⟨rfl, rfl⟩, h2⟩
end

/-! ### Operations in a row -/
theorem can_undef : Can noT undefA := .tp [] [] rfl (fun x hx => by cases hx) (fun j t x ht => by simp at ht)
def Goes1 (prog : Map AFunc) (nt : Nat) (A : Tok) (V : VSt) (st : St) (r : Option St) (k : VSt → Prop) : Prop :=
  ∃ st', r = some st' ∧ ∃ V' A', R A' V' st' ∧ Fr V A st.H st.nx V' A' st'.H st'.nx ∧ (∀ O x, A O = some x → A' O = some x) ∧ k V'
theorem evO_sim (hsh : sh.vs = VSh prog) (hR : R A V st) {o : AOper} (h : evO sh prog nt V o k) : Goes1 prog nt A V st (runOp (runFn prog) nt o st) k := by
  obtain ⟨dd, op, gd, fz⟩ := o
  have fin : wanted st.env gd = true → (∃ v H' nx', doFz (runFn prog) ⟨dd, op, gd, fz⟩ (ev st.env) st.H st.nx = some (v, H', nx') ∧ Next nt A V st dd v H' nx' k) → Goes1 prog nt A V st (runOp (runFn prog) nt ⟨dd, op, gd, fz⟩ st) k := by
    rintro hw ⟨v, H', nx', h1, e', h2, V', A', h3, h4, h5⟩
    exact ⟨⟨e', H', nx'⟩, by simp only [runOp, hw, cond_true, h1, h2], V', A', h3, h4, h5⟩
  unfold evO at h
  simp only at h
  cases gd with
  | none =>
    cases fz with
    | true =>
      simp only at h
      split at h
      · exact fin rfl (o_islice hR h)
      · cases h
    | false =>
      obtain ⟨v, H', nx', h1, h2⟩ := evU_sim (g := none) hsh hR trivial h
      exact fin rfl ⟨v, H', nx', h1, h2⟩
  | some p =>
    obtain ⟨n, bb⟩ := p
    cases fz with
    | true => cases h
    | false =>
      obtain ⟨c, a, ha, hca, h⟩ := rdT_t hR h
      by_cases hc : c = .b bb
      · subst hc
        cases hca
        obtain ⟨v, H', nx', h1, h2⟩ := evU_sim (g := some (.b bb, bb)) hsh hR rfl h
        exact fin (by simp only [wanted, ha]; cases bb <;> rfl) ⟨v, H', nx', h1, h2⟩
      · obtain ⟨g, w, hg, hp⟩ := evU_off hc h
        have hw : wanted st.env (some (n, bb)) = false := by
          simp only [wanted, ha]
          split
          · rename_i b' hb
            cases hb
            cases hca
            cases b' <;> cases bb <;> first | rfl | exact absurd rfl hc
          · rfl
        have hn : Next nt A V st dd undefA st.H st.nx k := putV_tree hR (fun hact => by
          rcases hg with ⟨rfl, rfl⟩ | rfl
          · exact .tr can_undef
          · exact absurd hact hc) hp
        obtain ⟨e', h2, V', A', h3, h4, h5⟩ := hn
        exact ⟨⟨e', st.H, st.nx⟩, by simp only [runOp, hw, cond_false, h2], V', A', h3, h4, h5⟩
theorem evOs_sim (hsh : sh.vs = VSh prog) : ∀ {l : List AOper} {A : Tok} {V : VSt} {st : St} {k : VSt → Prop}, R A V st → evOs sh prog nt l V k → Goes1 prog nt A V st (runOps (runFn prog) nt l st) k
  | [], A, V, st, k, hR, h => ⟨st, rfl, V, A, hR, Fr.refl _ _ _ _, fun _ _ h => h, h⟩
  | o :: l, A, V, st, k, hR, h => by
    obtain ⟨st1, h1, V1, A1, h2, h3, hx, h4⟩ := evO_sim hsh hR h
    obtain ⟨st2, g1, V2, A2, g2, g3, gx, g4⟩ := evOs_sim hsh h2 h4
    exact ⟨st2, by rw [runOps_cons, h1]; exact g1, V2, A2, g2, h3.trans g3, fun O x h => gx O x (hx O x h), g4⟩
end
end Go.Ax.V

/- Regions of open order. -/
set_option linter.unusedSimpArgs false
set_option linter.unusedVariables false
namespace Go.Ax.V

section
variable {sh : Sh} {prog : Map AFunc} {cf : FnF} {nt : Nat} {A : Tok} {V : VSt} {st : St} {d : Option Nat} {g : G} {k : VSt → Prop}

theorem rdK_vv {x : Opd} {k : VV → Prop} (h : rdK V g x k) : k (vvOf V x) := by
  cases x with
  | c v => exact h
  | t n =>
    simp only [rdK] at h
    split at h
    · cases h
    rename_i e he
    have e1 : vvOf V (.t n) = e.v := by simp only [vvOf, he]
    rw [e1]
    split at h
    · exact h
    · split at h
      · cases h
      · exact h.2
theorem rdK_both (hR : R A V st) (ha : act g) {x : Opd} {k : VV → Prop} (h : rdK V g x k) : VR A (vvOf V x) (ev st.env x) ∧ k (vvOf V x) := by
  refine ⟨?_, rdK_vv h⟩
  cases x with
  | c v => exact const_vr A v
  | t n =>
    simp only [rdK] at h
    split at h
    · cases h
    rename_i e he
    obtain ⟨a, h1, h2⟩ := hR.env n e he
    have e1 : vvOf V (.t n) = e.v := by simp only [vvOf, he]
    rw [ev_get h1, e1]
    refine h2 (fun c bb hc => ?_)
    rw [hc] at h
    simp only at h
    split at h
    · cases h
    · obtain ⟨e, _⟩ := h
      cases e; exact ha

/-! ### What an operation looks at -/
/-- each place that an operation looks at is that of one of some names -/
structure FootOk (A : Tok) (V : VSt) (f : Foot) (r : Rec) : Prop where
  rd : ∀ x ∈ r.rds, ∃ id, (match x with | .rng q => q.id = id | .obj i => i = id | .all => False) ∧ ∃ T ∈ f.rd, ∃ o a, V.H.get T = some o ∧ A T = some a ∧ idOf a = some id
  wr : ∃ l, r.tch = .ids l ∧ ∀ id ∈ l, ∃ T ∈ f.wr, ∃ o a, V.H.get T = some o ∧ A T = some a ∧ idOf a = some id
def Look (A : Tok) (V : VSt) (f : Foot) (rds : List Rd) (tch : List Nat) : Prop :=
  (∀ x ∈ rds, ∃ id, (match x with | .rng q => q.id = id | .obj i => i = id | .all => False) ∧ ∃ T ∈ f.rd, ∃ o a, V.H.get T = some o ∧ A T = some a ∧ idOf a = some id) ∧
  ∀ id ∈ tch, ∃ T ∈ f.wr, ∃ o a, V.H.get T = some o ∧ A T = some a ∧ idOf a = some id
theorem look_nil {f : Foot} : Look A V f [] [] := ⟨fun x hx => (by cases hx), fun id h => (by cases h)⟩
theorem look_val {f : Foot} {p : Plan} (h : p.rds = [] ∧ p.tch = []) : Look A V f p.rds p.tch := by rw [h.1, h.2]; exact look_nil
/-- an operation without memory -/
def still0 (p : Option Plan) : Prop := ∀ q, p = some q → q.rds = [] ∧ q.tch = []
theorem still0_pure (v : Option AV) : still0 (pureO v) := by
  intro q h
  cases v with
  | none => cases h
  | some v => cases h; exact ⟨rfl, rfl⟩
theorem still0_val (v : AV) : still0 (some (.val v)) := fun q h => by cases h; exact ⟨rfl, rfl⟩
theorem still0_new (f : Nat → AV) (o : AObj) : still0 (some (.new f o)) := fun q h => by cases h; exact ⟨rfl, rfl⟩
theorem still0_none : still0 none := fun q h => by cases h

theorem load_look (hR : R A V st) (ha : act g) {sz : Option Nat} {a : Opd} (h : rdK V g a fun w => evLoad nt V d g sz w k) {p : Plan} (hp : pLoad (ev st.env) sz a = some p) : Look A V ⟨ptrToks (vvOf V a), [], []⟩ p.rds p.tch := by
  obtain ⟨hw, hk⟩ := rdK_both hR ha h
  generalize he : ev st.env a = x at hw
  generalize vvOf V a = w at hw hk
  have hit : ∀ {O : Nat} {o : VO} {pa : AV} {id gg off : Nat}, x = .ptr id gg off → V.H.get O = some o → A O = some pa → idOf pa = some id → Look A V ⟨[O], [], []⟩ p.rds p.tch := by
    intro O o pa id gg off hx hO hA hi
    subst hx
    simp only [pLoad, he] at hp
    cases hp
    refine ⟨fun y hy => ?_, fun id' h => by cases h⟩
    simp [Plan.rds] at hy
    subst hy
    exact ⟨id, rfl, O, by simp, o, pa, hO, hA, hi⟩
  cases hw with
  | @ptr O off id hO =>
    simp only [evLoad] at hk
    split at hk
    · rename_i v ovs ho; exact hit rfl ho hO rfl
    · cases hk
  | @pd O off id hO =>
    simp only [evLoad] at hk
    split at hk
    · rename_i v ovs ho; exact hit rfl ho hO rfl
    · cases hk
  | @ea O i off id gg b z len cap ex hO =>
    simp only [evLoad] at hk
    split at hk
    · rename_i z es ho; exact hit rfl ho hO rfl
    · cases hk
  | @pt v cs b off n hl hf hcc =>
    simp only [pLoad, he] at hp
    split at hp
    · exact look_val (still0_pure _ p hp)
    · cases hp
  | _ => cases hk
theorem store_look (hR : R A V st) {sz : Nat} {a x : Opd} (h : rdK V none a fun w => rdK V none x fun x => evStore V sz w x k) {p : Plan} (hp : pStore (ev st.env) sz a x = some p) : Look A V ⟨ptrToks (vvOf V a), ptrToks (vvOf V a), []⟩ p.rds p.tch := by
  obtain ⟨hw, hk⟩ := rdK_both (g := none) hR trivial h
  obtain ⟨y, hy, hk⟩ := rdK_sim (g := none) hR trivial hk
  generalize he : ev st.env a = q at hw
  generalize vvOf V a = w at hw hk
  have hit : ∀ {O : Nat} {o : VO} {pa : AV} {id gg off : Nat}, q = .ptr id gg off → V.H.get O = some o → A O = some pa → idOf pa = some id → Look A V ⟨[O], [O], []⟩ p.rds p.tch := by
    intro O o pa id gg off hx hO hA hi
    subst hx
    simp only [pStore, he] at hp
    split at hp
    · rw [cond_eq_ite] at hp
      split at hp
      · cases hp
        refine ⟨fun y hy => ?_, fun id' h => ?_⟩
        · simp [Plan.rds] at hy
          subst hy
          exact ⟨id, rfl, O, by simp, o, pa, hO, hA, hi⟩
        · simp [Plan.tch] at h
          subst h
          exact ⟨O, by simp, o, pa, hO, hA, hi⟩
      · cases hp
    · cases hp
  cases hw with
  | @ptr O off id hO =>
    simp only [evStore] at hk
    split at hk
    · rename_i v ovs ho; exact hit rfl ho hO rfl
    · cases hk
  | @pd O off id hO =>
    simp only [evStore] at hk
    split at hk
    · rename_i v ovs ho; exact hit rfl ho hO rfl
    · cases hk
  | @ea O i off id gg b z len cap ex hO =>
    simp only [evStore] at hk
    split at hk
    · rename_i z es ho; exact hit rfl ho hO rfl
    · cases hk
  | _ => cases hk
theorem app_look (hR : R A V st) (ha : act g) {es bytes : Nat} {s x : Opd} (h : rdK V g s fun w => rdK V g x fun x => evApp nt V d g es bytes w x k) {p : Plan} (hp : appA es bytes (ev st.env s) (ev st.env x) = some p) :
    Look A V ⟨vvToks (vvOf V s) ++ vvToks (vvOf V x), vvToks (vvOf V s), vvToks (vvOf V s)⟩ p.rds p.tch := by
  obtain ⟨hw, h⟩ := rdK_both hR ha h
  obtain ⟨hy, hk⟩ := rdK_both hR ha h
  replace hk := (pos_ok hk).2
  generalize vvOf V s = w at hw hk
  generalize vvOf V x = y at hy hk
  generalize ev st.env s = a at hw hp
  generalize ev st.env x = b at hy hp
  -- what is appended
  have hsrc : ∀ {m : Nat} {src : Src} {q : Rng}, srcOf es b = some (m, src) → src.q = some q → ∃ T ∈ vvToks y, ∃ o a, V.H.get T = some o ∧ A T = some a ∧ idOf a = some q.id := by
    intro m src q h1 h2
    cases hy with
    | @sl O _ hO =>
      simp only [srcK] at hk
      split at hk
      · rename_i z es' ho
        obtain ⟨yy, hyy, hs⟩ := hR.heap O _ ho
        rw [hO] at hyy; cases hyy
        rcases hs.2 with ⟨_, rfl | rfl⟩ | ⟨id, gg, bb, cells, rfl, _⟩
        · cases h1; cases h2
        · simp only [srcOf, cond_eq_ite] at h1
          split at h1
          · cases h1; cases h2
          · cases h1
        · simp only [srcOf, cond_eq_ite] at h1
          split at h1
          · cases h1; cases h2
            exact ⟨O, by simp [vvToks], _, _, ho, hO, rfl⟩
          · cases h1
      · cases hk
    | @tr v _ hc =>
      cases hc <;> first | (cases h1; done) | skip
      · cases h1; cases h2
      · simp only [srcOf, cond_eq_ite] at h1
        split at h1
        · cases h1; cases h2
        · cases h1
    | nil0 => cases h1; cases h2
    | nil1 =>
      simp only [srcOf, cond_eq_ite] at h1
      split at h1
      · cases h1; cases h2
      · cases h1
    | _ => cases hk
  have hk' : ∃ xs, match w with
      | .nil0 => ∃ l, appT bytes [] xs = some l ∧ newV nt V d g .sl (.gr es l) k
      | .sl O => (match V.H.get O with
        | some (.gr z es') => same z es (∃ l, appT bytes es' xs = some l ∧ newV nt (dropO V O) d g .sl (.gr es l) k)
        | _ => False)
      | _ => False := by
    unfold srcK at hk
    split at hk
    · obtain ⟨xs, _, _, h⟩ := hk; exact ⟨xs, h⟩
    · exact ⟨_, hk⟩
    · split at hk
      · exact ⟨_, (same_ok hk).2⟩
      · cases hk
    · cases hk
  have hdst : ∀ {id : Nat}, idOf a = some id → ∃ T ∈ vvToks w, ∃ o a, V.H.get T = some o ∧ A T = some a ∧ idOf a = some id := by
    intro id hi
    obtain ⟨xs, hk'⟩ := hk'
    cases hw with
    | nil0 => cases hi
    | nil1 => cases hi
    | @sl O _ hO =>
      simp only at hk'
      split at hk'
      · rename_i z es' ho; exact ⟨O, by simp [vvToks], _, _, ho, hO, hi⟩
      · cases hk'
    | _ => cases hk'
  have mk : ∀ (q : Option Rng) (u : Option Nat) (kk : List AV → Option AObj → Option Out), (∀ r, q = some r → ∃ T ∈ vvToks y, ∃ o a, V.H.get T = some o ∧ A T = some a ∧ idOf a = some r.id) →
      (∀ i, u = some i → ∃ T ∈ vvToks w, ∃ o a, V.H.get T = some o ∧ A T = some a ∧ idOf a = some i) → Look A V ⟨vvToks w ++ vvToks y, vvToks w, vvToks w⟩ (Plan.look q u kk).rds (Plan.look q u kk).tch := by
    intro q u kk h1 h2
    refine ⟨fun z hz => ?_, fun id hid => ?_⟩
    · simp only [Plan.rds, List.mem_append] at hz
      rcases hz with hz | hz
      · cases q with
        | none => cases hz
        | some r =>
          simp at hz; subst hz
          obtain ⟨T, h3, h4⟩ := h1 r rfl
          exact ⟨r.id, rfl, T, List.mem_append_right _ h3, h4⟩
      · cases u with
        | none => cases hz
        | some i =>
          simp at hz; subst hz
          obtain ⟨T, h3, h4⟩ := h2 i rfl
          exact ⟨i, rfl, T, List.mem_append_left _ h3, h4⟩
    · cases u with
      | none => cases hid
      | some i =>
        simp [Plan.tch] at hid; subst hid
        exact h2 _ rfl
  unfold appA at hp
  split at hp
  · cases hp
  rename_i m src hm
  rw [cond_eq_ite] at hp
  split at hp
  · rw [cond_eq_ite] at hp
    split at hp
    · cases hp; exact look_nil
    · cases hp
  · split at hp
    · rw [cond_eq_ite] at hp
      split at hp
      · cases hp; exact mk _ _ _ (fun r hr => hsrc hm hr) (fun i hi => by cases hi)
      · cases hp
    · rw [cond_eq_ite] at hp
      split at hp
      · cases hp; exact mk _ _ _ (fun r hr => hsrc hm hr) (fun i hi => by cases hi)
      · cases hp
    · rename_i id gg off es' len cap ex
      rw [cond_eq_ite] at hp
      split at hp
      · cases hp
        unfold appRef
        rw [cond_eq_ite]
        split
        · exact mk _ _ _ (fun r hr => hsrc hm hr) (fun i hi => by cases hi; exact hdst rfl)
        · rw [cond_eq_ite]
          split
          · exact mk _ _ _ (fun r hr => hsrc hm hr) (fun i hi => by cases hi; exact hdst rfl)
          · exact mk _ _ _ (fun r hr => hsrc hm hr) (fun i hi => by cases hi; exact hdst rfl)
      · cases hp
    · cases hp

theorem part_toks_mono {V' : VSt} (he : V'.env = V.env) : ∀ (parts : List (Nat × Nat × Opd)), partToks V' parts = partToks V parts
  | [] => rfl
  | (_, _, x) :: r => by
    have e1 : vvOf V' x = vvOf V x := by cases x <;> simp only [vvOf, he]
    simp only [partToks, part_toks_mono he r, e1]
theorem elems_look {sz : Nat} : ∀ (parts : List (Nat × Nat × Opd)) (j : Nat) (V : VSt) (k : List TV → VSt → Prop), R A V st → elemsK V none true sz j parts k →
    ∀ id ∈ (parts.map fun p => ev st.env p.2.2).flatMap (idsOf deep st.H), ∃ T ∈ partToks V parts, ∃ o a, V.H.get T = some o ∧ A T = some a ∧ idOf a = some id
  | [], j, V, k, hR, hk, id, hid => by simp at hid
  | (off, n, x) :: r, j, V, k, hR, hk, id, hid => by
    obtain ⟨_, hk⟩ := hk
    obtain ⟨hw, hk⟩ := rdK_both (g := none) hR trivial hk
    rw [List.map_cons, List.flatMap_cons, List.mem_append] at hid
    -- the rest
    have rest : ∀ {V1 : VSt} {k' : List TV → VSt → Prop}, Sub V V1 → elemsK V1 none true sz (j + 1) r k' → id ∈ (r.map fun p => ev st.env p.2.2).flatMap (idsOf deep st.H) →
        ∃ T ∈ vvToks (vvOf V x) ++ partToks V r, ∃ o a, V.H.get T = some o ∧ A T = some a ∧ idOf a = some id := by
      intro V1 k' hs hk' hi
      obtain ⟨T, h1, o, a, h2, h3, h4⟩ := elems_look r (j + 1) V1 k' (hs.r hR) hk' id hi
      rw [part_toks_mono hs.env] at h1
      exact ⟨T, List.mem_append_right _ h1, o, a, hs.H _ _ h2, h3, h4⟩
    simp only [partToks]
    generalize vvOf V x = w at hw hk rest
    generalize ev st.env x = a at hw hid
    have no : a.plain = true → id ∈ idsOf deep st.H a → False := fun hp hi => by
      have : idsOf deep st.H a = [] := ids_plain hp 27 _
      rw [this] at hi; cases hi
    cases hw with
    | tr hc => exact hid.elim (fun hi => (no (can_plain hc) hi).elim) (rest (Sub.refl V) hk.2)
    | nil0 => exact hid.elim (fun hi => (no rfl hi).elim) (rest (Sub.refl V) hk.2)
    | nil1 => exact hid.elim (fun hi => (no rfl hi).elim) (rest (Sub.refl V) hk.2)
    | @sl O _ hO =>
      obtain ⟨_, _, hk⟩ := hk
      simp only [slOf] at hk
      split at hk
      · rename_i z es ho
        refine hid.elim (fun hi => ?_) (rest (sub_dropVV V (.sl O)) hk)
        obtain ⟨y, hy, hs⟩ := hR.heap O _ ho
        rw [hO] at hy; cases hy
        exact ⟨O, List.mem_append_left _ (by simp [vvToks]), _, _, ho, hO, ids_sl hs 28 id hi⟩
      · cases hk
    | @st t o cs tl hv hc =>
      obtain ⟨_, hk⟩ := hk
      have hthere := toTs_there hk
      obtain ⟨u, hk⟩ := toTs_ex hk
      refine hid.elim (fun hi => ?_) (rest (sub_dropOvs o V) hk.2)
      have hi' : id ∈ cs.flatMap (idsOf 29 st.H) := hi
      obtain ⟨y, hy, hi'⟩ := List.mem_flatMap.1 hi'
      obtain ⟨q, hq⟩ := List.getElem?_of_mem hy
      have hlt : q < tl.length := by rw [hc.len]; exact (List.getElem?_eq_some_iff.1 hq).1
      have hat := hc.at_ q _ y (List.getElem?_eq_getElem hlt) hq
      cases ho : ovAt q o with
      | none =>
        rw [ho] at hat
        have hh : idsOf 29 st.H y = [] := ids_flat hat.2 28 _
        rw [hh] at hi'; cases hi'
      | some w =>
        rw [ho] at hat
        cases w <;> first | (exact absurd hat (by intro hh; exact hh)) | skip
        · rcases hat with e | e <;> (rw [e] at hi'; cases hi')
        · rename_i O
          have hO : A O = some y := hat
          obtain ⟨z, es, hO'⟩ := hthere q O (ovAt_mem ho)
          obtain ⟨y', hy', hs'⟩ := hR.heap O _ hO'
          rw [hO] at hy'; cases hy'
          have hmem : ∀ {l : List (Nat × VV)} {i : Nat}, (i, VV.sl O) ∈ l → O ∈ ovToks l := by
            intro l
            induction l with
            | nil => intro i h; cases h
            | cons p l ih =>
              intro i h
              obtain ⟨i', w'⟩ := p
              rcases List.mem_cons.1 h with h1 | h1
              · cases h1; simp [ovToks]
              · cases w' <;> first | exact ih h1 | exact List.mem_cons_of_mem _ (ih h1)
          exact ⟨O, List.mem_append_left _ (hmem (ovAt_mem ho)), _, _, hO', hO, ids_sl hs' 27 id hi'⟩
    | _ => cases hk
theorem trees_plain (hR : R A V st) (ha : act g) : ∀ {xs : List Opd} {k : Bool → List TV → Prop}, treesB V xs = true → argsK V g xs k → allB AV.plain (xs.map (ev st.env)) = true
  | [], k, h, hk => rfl
  | x :: xs, k, h, hk => by
    simp only [treesB, Bool.and_eq_true] at h
    obtain ⟨hw, hk⟩ := rdK_both hR ha hk
    rw [List.map_cons, allB_true]
    have h1 := h.1
    generalize vvOf V x = w at hw hk h1
    generalize ev st.env x = a at hw
    have fin : ∀ {kk : Bool → List TV → Prop}, a.plain = true → argsK V g xs kk → ∀ y ∈ a :: xs.map (ev st.env), AV.plain y = true := by
      intro kk hp hk y hy
      rcases List.mem_cons.1 hy with rfl | hy
      · exact hp
      · exact allB_true.1 (trees_plain hR ha h.2 hk) y hy
    cases hw <;> first | (cases h1; done) | skip
    · rename_i v hc; exact fin (can_plain hc) hk
    · exact fin rfl hk
    · exact fin rfl hk
    · rename_i v ovs cs ts hv hc
      obtain ⟨t, hk⟩ := toTs_ex hk
      exact fin (cells_plain hc h1) hk
/-- what is looked at, as the record says -/
theorem evO_eff (hR : R A V st) {o : AOper} (h : evO sh prog nt V o k) {f : Foot} (hf : foot V o = some f) {st' : St} (hrun : runOp (runFn prog) nt o st = some st') (n0 : Nat) :
    ∃ r, effStep (runFn prog) nt n0 o st = some (st', r) ∧ FootOk A V f r ∧ r.nx0 = st.nx ∧ r.nx1 = st'.nx := by
  obtain ⟨dd, op, gd, fz⟩ := o
  unfold runOp at hrun
  simp only [cond_eq_ite] at hrun
  by_cases hw : wanted st.env gd = true
  rotate_left
  · rw [if_neg hw] at hrun
    split at hrun
    · rename_i e he
      cases hrun
      exact ⟨⟨[], .ids [], st.H, st.H, st.nx, st.nx⟩, by simp only [effStep, cond_eq_ite, if_neg hw, he], ⟨fun x hx => (by cases hx), ⟨[], rfl, fun id hid => (by cases hid)⟩⟩, rfl, rfl⟩
    · cases hrun
  rw [if_pos hw] at hrun
  split at hrun
  · cases hrun
  rename_i v H' nx' hdo
  split at hrun
  rotate_left
  · cases hrun
  rename_i e he
  cases hrun
  have fin : ∀ {rds : List Rd} {tch : List Nat}, effFz (runFn prog) n0 ⟨dd, op, gd, fz⟩ (ev st.env) st.H st.nx = some (v, H', nx', rds, .ids tch) → Look A V f rds tch →
      ∃ r, effStep (runFn prog) nt n0 ⟨dd, op, gd, fz⟩ st = some (⟨e, H', nx'⟩, r) ∧ FootOk A V f r ∧ r.nx0 = st.nx ∧ r.nx1 = nx' := by
    intro rds tch h1 h2
    exact ⟨⟨rds, .ids tch, st.H, H', st.nx, nx'⟩, by simp only [effStep, cond_eq_ite, if_pos hw, h1, he], ⟨h2.1, tch, rfl, h2.2⟩, rfl, rfl⟩
  cases fz with
  | true =>
    have hgd : gd = none := by
      cases gd with
      | none => rfl
      | some p => cases h
    subst hgd
    simp only [evO] at h
    split at h
    · rename_i len zero parts
      simp only [foot] at hf
      cases hf
      unfold evIsl at h
      simp only at h
      split at h
      · split at h <;> first | (cases h; done) | skip
        split at h <;> first | (cases h; done) | skip
      · rename_i n
        have hk := (same_ok (pos_ok h).2).2
        have hlook := elems_look parts 0 V _ hR hk
        simp only [doFz, cond_true] at hdo
        split at hdo
        · cases hdo
        rename_i l hl
        split at hdo
        · rename_i v' hv'
          cases hdo
          refine fin (rds := ((parts.map fun p => ev st.env p.2.2).flatMap (idsOf deep st.H)).map Rd.obj) (tch := (parts.map fun p => ev st.env p.2.2).flatMap (idsOf deep st.H)) ?_ ⟨fun x hx => ?_, hlook⟩
          · simp only [effFz, cond_true, hl, hv']
          · obtain ⟨id, hid, rfl⟩ := List.mem_map.1 hx
            exact ⟨id, rfl, hlook id hid⟩
        · cases hdo
    · cases h
  | false =>
    have hev : ∃ g : G, act g ∧ evU sh prog nt V dd g op k := by
      cases gd with
      | none => exact ⟨none, trivial, h⟩
      | some p =>
        obtain ⟨n, bb⟩ := p
        obtain ⟨c, a, ha, hca, h⟩ := rdT_t hR h
        refine ⟨some (c, bb), ?_, h⟩
        simp only [wanted, ha] at hw
        split at hw
        · rename_i b' hb
          cases hb
          cases hca
          show TV.b b' = TV.b bb
          congr 1
          cases b' <;> cases bb <;> first | rfl | cases hw
        · cases hw
    obtain ⟨g, hact, h⟩ := hev
    have hdo' : doOp (runFn prog) op (ev st.env) st.H st.nx = some (v, H', nx') := hdo
    have plan : ∀ {p : (Opd → AV) → Option Plan}, kind op = .plan p → (∀ q, p (ev st.env) = some q → Look A V f q.rds q.tch) → ∃ r, effStep (runFn prog) nt n0 ⟨dd, op, gd, false⟩ st = some (⟨e, H', nx'⟩, r) ∧ FootOk A V f r ∧ r.nx0 = st.nx ∧ r.nx1 = nx' := by
      intro p hk hl
      simp only [doOp, hk] at hdo'
      split at hdo'
      · rename_i q hq
        refine fin (rds := q.rds) (tch := q.tch) ?_ (hl q hq)
        simp only [effFz, cond_false, effOp, hk, hq, hdo']
      · cases hdo'
    have plain : ∀ {p : (Opd → AV) → Option Plan}, kind op = .plan p → still0 (p (ev st.env)) → ∃ r, effStep (runFn prog) nt n0 ⟨dd, op, gd, false⟩ st = some (⟨e, H', nx'⟩, r) ∧ FootOk A V f r ∧ r.nx0 = st.nx ∧ r.nx1 = nx' :=
      fun hk hs => plan hk (fun q hq => look_val (hs q hq))
    have call : ∀ {n : Nat} {args : List Opd}, (kind op = .call n args .borrow ∨ ∃ fv, kind op = .callv fv args .borrow ∧ ev st.env fv = .func n) → allB AV.plain (args.map (ev st.env)) = true →
        ∃ r, effStep (runFn prog) nt n0 ⟨dd, op, gd, false⟩ st = some (⟨e, H', nx'⟩, r) ∧ FootOk A V f r ∧ r.nx0 = st.nx ∧ r.nx1 = nx' := by
      intro n args hk hp
      have hd : doCall (runFn prog) n (args.map (ev st.env)) .borrow st.H st.nx = some (v, H', nx') := by
        rcases hk with hk | ⟨fv, hk, hf⟩
        · simpa only [doOp, hk] using hdo'
        · simpa only [doOp, hk, hf] using hdo'
      have hH : H' = st.H ∧ nx' = st.nx := by
        have hd' := hd
        simp only [doCall, hp, cond_true] at hd'
        split at hd'
        · cases hd'; exact ⟨rfl, rfl⟩
        · cases hd'
      obtain ⟨rfl, rfl⟩ := hH
      refine fin (rds := []) (tch := []) ?_ look_nil
      rcases hk with hk | ⟨fv, hk, hf⟩
      · simp only [effFz, cond_false, effOp, hk, effCall, hp, cond_true, hd]
      · simp only [effFz, cond_false, effOp, hk, hf, effCall, hp, cond_true, hd]
    cases op with
    | mv x => exact plain rfl (still0_val _)
    | pick c a b =>
      refine plain (p := fun ρ => pPick ρ c a b) rfl ?_
      unfold pPick
      split
      · split <;> exact still0_val _
      · exact still0_none
    | alloc zero => exact plain rfl (still0_new _ _)
    | box x =>
      refine plain (p := fun ρ => pBox ρ x) rfl ?_
      unfold pBox
      split
      · exact still0_new _ _
      · exact still0_none
    | build zero parts =>
      refine plain (p := fun ρ => pBuild ρ zero parts) rfl ?_
      unfold pBuild
      split
      · exact still0_val _
      · exact still0_none
    | bslice es len zero parts =>
      refine plain (p := fun ρ => pBslice ρ es len zero parts) rfl ?_
      unfold pBslice
      split
      · exact still0_new _ _
      · exact still0_none
    | islice len zero parts =>
      refine plain (p := fun ρ => pIslice ρ len zero parts) rfl ?_
      unfold pIslice
      split
      · rw [cond_eq_ite]
        split
        · exact still0_val _
        · exact still0_none
      · exact still0_none
    | load sz a =>
      simp only [foot] at hf
      cases hf
      exact plan (p := fun ρ => pLoad ρ sz a) rfl (fun q hq => load_look hR hact h hq)
    | store sz a x =>
      simp only [foot] at hf
      cases hf
      cases g with
      | none =>
        cases dd with
        | none => exact plan (p := fun ρ => pStore ρ sz a x) rfl (fun q hq => store_look hR h hq)
        | some _ => cases h
      | some _ => cases h
    | nilck x =>
      refine plain (p := fun ρ => pNilck ρ x) rfl ?_
      unfold pNilck
      split <;> first | exact still0_val _ | exact still0_none
    | bin op x y => exact plain (p := fun ρ => pureO (binA op (ρ x) (ρ y))) rfl (still0_pure _)
    | eq t neg x y =>
      refine plain (p := fun ρ => pEq ρ t neg x y) rfl ?_
      unfold pEq
      split
      · exact still0_val _
      · exact still0_none
    | un op x => exact plain (p := fun ρ => pureO (unA op (ρ x))) rfl (still0_pure _)
    | conv c x =>
      refine plain (p := fun ρ => pConv ρ c x) rfl ?_
      unfold pConv
      split
      · exact still0_val _
      · exact still0_none
    | mksl es bytes zero n =>
      refine plain (p := fun ρ => pMksl ρ es bytes zero n) rfl ?_
      unfold pMksl
      split
      · split
        · rw [cond_eq_ite]
          split
          · exact still0_new _ _
          · exact still0_none
        · exact still0_none
      · exact still0_none
    | slstr x lo hi =>
      refine plain (p := fun ρ => pSlstr ρ x lo hi) rfl ?_
      unfold pSlstr
      split
      · split
        · exact still0_none
        · exact still0_val _
      · exact still0_none
    | slsl es x lo hi mx => exact plain (p := fun ρ => pureO (slA es ρ (ρ x) lo hi mx)) rfl (still0_pure _)
    | slarr n es x lo hi mx => cases hf
    | faddr off x =>
      refine plain (p := fun ρ => pFaddr ρ off x) rfl ?_
      unfold pFaddr
      split <;> first | exact still0_val _ | exact still0_none
    | fld off sz x =>
      refine plain (p := fun ρ => pFld ρ off sz x) rfl ?_
      unfold pFld
      split
      · split
        · exact still0_pure _
        · exact still0_none
      · exact still0_none
    | iaddr es x i =>
      refine plain (p := fun ρ => pIaddr ρ es x i) rfl ?_
      unfold pIaddr
      split
      · split
        · split
          · split
            · exact still0_none
            · exact still0_val _
          · exact still0_none
        · rw [cond_eq_ite]
          split
          · split
            · exact still0_val _
            · exact still0_none
          · exact still0_none
        · exact still0_none
      · exact still0_none
    | iarr len es x i =>
      refine plain (p := fun ρ => pIarr ρ len es x i) rfl ?_
      unfold pIarr
      split
      · split
        · split <;> first | exact still0_val _ | exact still0_none
        · exact still0_none
      · exact still0_none
    | idx x i =>
      refine plain (p := fun ρ => pIdx ρ x i) rfl ?_
      unfold pIdx
      split
      · split
        · split
          · exact still0_val _
          · exact still0_none
        · exact still0_none
      · exact still0_none
    | ext i x =>
      refine plain (p := fun ρ => pExt ρ i x) rfl ?_
      unfold pExt
      split
      · exact still0_pure _
      · exact still0_none
    | app es bytes s x =>
      simp only [foot] at hf
      cases hf
      exact plan (p := fun ρ => appA es bytes (ρ s) (ρ x)) rfl (fun q hq => app_look hR hact h hq)
    | cpy es dd s => cases hf
    | clr es zero x => cases hf
    | len str x =>
      refine plain (p := fun ρ => pLen ρ str x) rfl ?_
      unfold pLen
      split
      · split
        · exact still0_val _
        · exact still0_none
      · split <;> first | exact still0_val _ | exact still0_none
    | mnx mx xs =>
      refine plain (p := fun ρ => pMnx ρ mx xs) rfl ?_
      unfold pMnx
      split
      · exact still0_pure _
      · exact still0_none
    | mkmap => cases h
    | mlook t zero ok m k => cases hf
    | mset t m k v => cases hf
    | mlen m => cases hf
    | call n args m =>
      cases m with
      | share => cases hf
      | borrow =>
        simp only [foot] at hf
        split at hf
        · rename_i ht
          simp only [evU] at h
          exact call (.inl rfl) (trees_plain hR hact ht h)
        · cases hf
    | callv fv args m =>
      cases m with
      | share => cases hf
      | borrow =>
        simp only [foot] at hf
        split at hf
        · rename_i ht
          simp only [evU] at h
          obtain ⟨fvv, hfv, h⟩ := rdT_sim hR hact h
          cases g with
          | none =>
            obtain ⟨n, rfl, h⟩ := h
            generalize he' : ev st.env fv = p at hfv
            cases hfv
            exact call (.inr ⟨fv, rfl, he'⟩) (trees_plain (g := none) hR trivial ht h)
          | some q =>
            obtain ⟨c, bb⟩ := q
            obtain ⟨n, hn, h⟩ := h
            obtain rfl := hn hact
            generalize he' : ev st.env fv = p at hfv
            cases hfv
            exact call (.inr ⟨fv, rfl, he'⟩) (trees_plain hR hact ht h)
        · cases hf
end
end Go.Ax.V

/- Regions of open order: carried out in the text's order. -/
set_option linter.unusedSimpArgs false
set_option linter.unusedVariables false
namespace Go.Ax.V

section
variable {sh : Sh} {prog : Map AFunc} {cf : FnF} {nt : Nat}

theorem memB_iff {n : Nat} : ∀ {l : List Nat}, memB n l = true ↔ n ∈ l
  | [] => by simp [memB]
  | m :: l => by simp [memB, memB_iff (l := l)]
theorem subB_mem {m : List Nat} : ∀ {l : List Nat}, subB l m = true → ∀ n ∈ l, n ∈ m
  | [], h, n, hn => by cases hn
  | x :: l, h, n, hn => by
    simp only [subB, Bool.and_eq_true] at h
    rcases List.mem_cons.1 hn with rfl | hn
    · exact memB_iff.1 h.1
    · exact subB_mem h.2 n hn
theorem disjB_mem {m : List Nat} : ∀ {l : List Nat}, disjB l m = true → ∀ n ∈ l, n ∉ m
  | [], h, n, hn => by cases hn
  | x :: l, h, n, hn => by
    simp only [disjB, Bool.and_eq_true, Bool.not_eq_true'] at h
    rcases List.mem_cons.1 hn with rfl | hn
    · intro hm; rw [memB_iff.2 hm] at h; exact absurd h.1 (by decide)
    · exact disjB_mem h.2 n hn
theorem rootsOf_mem {info : List (Nat × Nat × List Nat)} {T : Nat} : ∀ {l : List Nat}, T ∈ l → (infoOf T info).1 ∈ rootsOf info l
  | [], h => by cases h
  | x :: l, h => by
    rcases List.mem_cons.1 h with rfl | h
    · exact List.mem_cons_self
    · exact List.mem_cons_of_mem _ (rootsOf_mem h)
theorem chainsOk_mem {info : List (Nat × Nat × List Nat)} {ah : List Nat} : ∀ {l : List Nat}, chainsOk info ah l = true → ∀ T ∈ l, ∀ c ∈ (infoOf T info).2, c ∈ ah
  | [], h, T, hT => by cases hT
  | x :: l, h, T, hT => by
    simp only [chainsOk, Bool.and_eq_true] at h
    rcases List.mem_cons.1 hT with rfl | hT
    · exact subB_mem h.1
    · exact chainsOk_mem h.2 T hT
theorem infoOf_cons (T T' : Nat) (x : Nat × List Nat) (l : List (Nat × Nat × List Nat)) : infoOf T ((T', x) :: l) = if T' = T then x else infoOf T l := by
  simp only [infoOf, cond_eq_ite, Nat.beq_eq]
theorem allK_node {α : Type} (v : Option α) (l r : Map α) (p : Nat → Bool) : allK (.node v l r) p = ((match v with | none => true | some _ => p 0) && (allK l (fun k => p (Nat.succ (Nat.mul 2 k))) && allK r (fun k => p (Nat.succ (Nat.succ (Nat.mul 2 k)))))) := rfl
theorem allK_get {α : Type} : ∀ (m : Map α) (p : Nat → Bool), allK m p = true → ∀ i x, m.get i = some x → p i = true
  | .leaf, p, h, i, x, hx => by cases hx
  | .node v l r, p, h, i, x, hx => by
    rw [allK_node, Bool.and_eq_true, Bool.and_eq_true] at h
    obtain ⟨h1, h2, h3⟩ := h
    rw [Map.get_node] at hx
    by_cases h0 : i = 0
    · subst h0
      simp at hx
      subst hx
      exact h1
    · rw [if_neg h0] at hx
      split at hx
      · have := allK_get l _ h2 _ x hx
        rwa [show Nat.succ (Nat.mul 2 (i / 2)) = i by show 2 * (i / 2) + 1 = i; omega] at this
      · have := allK_get r _ h3 _ x hx
        rwa [show Nat.succ (Nat.succ (Nat.mul 2 (i / 2 - 1))) = i by show 2 * (i / 2 - 1) + 2 = i; omega] at this
theorem hasO_iff {V : VSt} {T : Nat} : hasO V T = true ↔ ∃ o, V.H.get T = some o := by
  unfold hasO
  split
  · rename_i o ho; exact ⟨fun _ => ⟨o, ho⟩, fun _ => rfl⟩
  · rename_i ho; exact ⟨fun h => (by cases h), fun ⟨o, h⟩ => (by rw [ho] at h; cases h)⟩

structure DInv (hp : Prop) (n0 : Nat) (rs : List Rec) (A : Tok) (V : VSt) (st : St) (info : List (Nat × Nat × List Nat)) (ρ : Nat → Option Nat) : Prop where
  known : ∀ T o a id, V.H.get T = some o → A T = some a → idOf a = some id → id < n0 ∨ ∃ c ∈ (infoOf T info).2, ∃ r, rs[c]? = some r ∧ r.nx0 ≤ id ∧ id < r.nx1
  root : hp → ∀ T o a id, V.H.get T = some o → A T = some a → idOf a = some id → ρ id = some (infoOf T info).1
  dom : ∀ id q, ρ id = some q → id < st.nx
def RecH (ρ : Nat → Option Nat) (r : Rec) (f : List Nat × List Nat) : Prop :=
  (∀ x ∈ r.rds, ∃ id, (match x with | .rng q => q.id = id | .obj i => i = id | .all => False) ∧ ∃ q, ρ id = some q ∧ q ∈ f.1) ∧ ∃ l, r.tch = .ids l ∧ ∀ id ∈ l, ∃ q, ρ id = some q ∧ q ∈ f.2
structure Hist (hp : Prop) (n0 : Nat) (ahead : List (List Nat)) (rs : List Rec) (feet : List (List Nat × List Nat)) (ρ : Nat → Option Nat) : Prop where
  len : feet.length = rs.length
  rec_ : hp → ∀ (c : Nat) r f, rs[c]? = some r → feet[c]? = some f → RecH ρ r f
  known : ∀ (c : Nat) r ah, rs[c]? = some r → ahead[c]? = some ah → ∀ rs', (∀ (i : Nat) a, rs[i]? = some a → rs'[i]? = some a) → r.rds.all (rdOk n0 rs' ah) = true ∧ tchOk n0 rs' ah r.tch = true

theorem RecH.mono {ρ ρ' : Nat → Option Nat} (h : ∀ id q, ρ id = some q → ρ' id = some q) {r : Rec} {f : List Nat × List Nat} (hr : RecH ρ r f) : RecH ρ' r f :=
  ⟨fun x hx => let ⟨id, h1, q, h2, h3⟩ := hr.1 x hx; ⟨id, h1, q, h _ _ h2, h3⟩, let ⟨l, h1, h2⟩ := hr.2; ⟨l, h1, fun id hid => let ⟨q, h3, h4⟩ := h2 id hid; ⟨q, h _ _ h3, h4⟩⟩⟩

def rtOf (d : Option Nat) (info : List (Nat × Nat × List Nat)) : Nat := match d with
  | some T => (infoOf T info).1
  | none => 0
/-- the step of one operation -/
theorem step_inv {n0 i : Nat} {rs : List Rec} {A A1 : Tok} {V V1 : VSt} {st st1 : St} {info info' : List (Nat × Nat × List Nat)} {ρ : Nat → Option Nat} {f : Foot} {d : Option Nat} {r : Rec} {feet : List (List Nat × List Nat)} {ahead : List (List Nat)} {ah : List Nat}
    (hR : R A V st) (hR1 : R A1 V1 st1) (hF : Fr V A st.H st.nx V1 A1 st1.H st1.nx) (hx : ∀ O x, A O = some x → A1 O = some x) {hp : Prop} (hinv : DInv hp n0 rs A V st info ρ) (hh : Hist hp n0 ahead rs feet ρ) (hi : rs.length = i)
    (hfo : FootOk A V f r) (h0 : r.nx0 = st.nx) (h1 : r.nx1 = st1.nx) (hah : ahead[i]? = some ah) (hch : chainsOk info ah (f.rd ++ f.wr) = true) (hs : stepI d i V V1 f info = some info') :
    ∃ ρ', DInv hp n0 (rs ++ [r]) A1 V1 st1 info' ρ' ∧ Hist hp n0 ahead (rs ++ [r]) (feet ++ [(rootsOf info f.rd, rootsOf info f.wr)]) ρ' := by
  have hlast : (rs ++ [r])[i]? = some r := by rw [List.getElem?_append_right (by omega), hi, Nat.sub_self]; rfl
  have hold : ∀ (c : Nat) a, rs[c]? = some a → (rs ++ [r])[c]? = some a := fun c a hc => by
    rw [List.getElem?_append_left (List.getElem?_eq_some_iff.1 hc).1]; exact hc
  -- what names there are
  have hkeys : ∀ T o, V1.H.get T = some o → (∃ o', V.H.get T = some o') ∨ d = some T := by
    unfold stepI at hs
    split at hs
    · cases hs
    · rename_i hc
      intro T o hT
      have := allK_get _ _ hc T o hT
      rw [Bool.or_eq_true] at this
      rcases this with h | h
      · exact .inl (hasO_iff.1 h)
      · right
        cases d with
        | none => cases h
        | some d => simp [isD] at h; rw [h]
  -- the name that is new
  have hnew : ∀ T, d = some T → V.H.get T = none → ∀ o, V1.H.get T = some o → ∃ rt ch, info' = (T, rt, ch) :: info ∧ i ∈ ch ∧ ∀ O o', V.H.get O = some o' → V1.H.get O = none → (infoOf O info).1 = rt ∧ ∀ c ∈ (infoOf O info).2, c ∈ ch := by
    intro T hd hT o ho
    subst hd
    unfold stepI at hs
    split at hs
    · cases hs
    simp only at hs
    have hb : (hasO V1 T && !hasO V T) = true := by
      have e1 : hasO V1 T = true := hasO_iff.2 ⟨o, ho⟩
      have e2 : hasO V T = false := by
        cases hh : hasO V T with
        | false => rfl
        | true => obtain ⟨o', h'⟩ := hasO_iff.1 hh; rw [hT] at h'; cases h'
      rw [e1, e2]; rfl
    rw [hb] at hs
    simp only at hs
    split at hs
    · cases hs
    rename_i hc
    have gone : ∀ O o', V.H.get O = some o' → V1.H.get O = none → O ∈ f.src := fun O o' h2 h3 => by
      have := allK_get _ _ hc O o' h2
      rw [Bool.or_eq_true] at this
      rcases this with h | h
      · exact memB_iff.1 h
      · obtain ⟨o2, h4⟩ := hasO_iff.1 h; rw [h3] at h4; cases h4
    split at hs
    · rename_i hsrc
      cases hs
      exact ⟨_, _, rfl, by simp, fun O o' h2 h3 => by have := gone O o' h2 h3; rw [hsrc] at this; cases this⟩
    · rename_i O1 hsrc
      cases hs
      refine ⟨_, _, rfl, List.mem_cons_self, fun O o' h2 h3 => ?_⟩
      have := gone O o' h2 h3
      rw [hsrc] at this
      simp at this
      subst this
      exact ⟨rfl, fun c hc => List.mem_cons_of_mem _ hc⟩
    · cases hs
  -- what was there keeps its kin
  have hsame : ∀ T o, V.H.get T = some o → infoOf T info' = infoOf T info := by
    intro T o hT
    unfold stepI at hs
    split at hs
    · cases hs
    cases d with
    | none => cases hs; rfl
    | some d =>
    simp only at hs
    split at hs
    · cases hs; rfl
    rename_i hb
    simp only [Bool.and_eq_true, Bool.not_eq_true'] at hb
    have hne : d ≠ T := by
      rintro rfl
      rw [hasO_iff.2 ⟨o, hT⟩] at hb
      exact absurd hb.2 (by decide)
    split at hs
    · cases hs
    split at hs
    · cases hs; rw [infoOf_cons, if_neg hne]
    · cases hs; rw [infoOf_cons, if_neg hne]
    · cases hs
  -- the new name's object: fresh, or that of a name that is given up
  have hid : ∀ T, d = some T → V.H.get T = none → ∀ o a id, V1.H.get T = some o → A1 T = some a → idOf a = some id → (st.nx ≤ id ∧ id < st1.nx) ∨ ∃ O o' a', V.H.get O = some o' ∧ V1.H.get O = none ∧ A O = some a' ∧ idOf a' = some id := by
    intro T hd hT o a id ho ha hida
    have hown1 : Own V1 A1 id := ⟨T, o, a, ho, ha, hida⟩
    rcases hF.own id hown1 with ⟨O, o', a', g1, g2, g3⟩ | hle
    · right
      refine ⟨O, o', a', g1, ?_, g2, g3⟩
      cases hO : V1.H.get O with
      | none => rfl
      | some o2 =>
        have := hR1.inj O T o2 o a' a id hO ho (hx _ _ g2) ha g3 hida
        subst this
        rw [hT] at g1; cases g1
    · exact .inl ⟨hle, hR1.own_lt hown1⟩
  -- the ids' kin, with the new ones
  let rtD : Nat := rtOf d info'
  let ρ' : Nat → Option Nat := fun id => if id < st.nx then ρ id else if id < st1.nx then some rtD else none
  have hρ : ∀ id q, ρ id = some q → ρ' id = some q := fun id q h => by
    show (if id < st.nx then ρ id else _) = _
    rw [if_pos (hinv.dom id q h)]; exact h
  have halive : ∀ T o, V.H.get T = some o → ∃ a, A T = some a := fun T o h => let ⟨a, h1, _⟩ := hR.heap T o h; ⟨a, h1⟩
  refine ⟨ρ', ⟨fun T o a id ho ha hida => ?_, fun hP T o a id ho ha hida => ?_, fun id q h => ?_⟩, ⟨by simp [hh.len], fun hP c r' f' hr hf => ?_, fun c r' ah' hr ha' rs' hrs' => ?_⟩⟩
  · cases hT : V.H.get T with
    | some o' =>
      obtain ⟨a', ha'⟩ := halive T o' hT
      have := hx _ _ ha'
      rw [ha] at this; cases this
      rw [hsame T o' hT]
      exact (hinv.known T o' a id hT ha' hida).imp (fun h => h) (fun ⟨c, h2, r2, h3, h4⟩ => ⟨c, h2, r2, hold c r2 h3, h4⟩)
    | none =>
      have hd : d = some T := (hkeys T o ho).elim (fun ⟨o', h⟩ => by rw [hT] at h; cases h) (fun h => h)
      obtain ⟨rt, ch, hinfo, hich, hO⟩ := hnew T hd hT o ho
      rw [hinfo, infoOf_cons, if_pos rfl]
      rcases hid T hd hT o a id ho ha hida with ⟨h2, h3⟩ | ⟨O, o', a', g1, g2, g3, g4⟩
      · exact .inr ⟨i, hich, r, hlast, by rw [h0]; exact h2, by rw [h1]; exact h3⟩
      · obtain ⟨_, hc⟩ := hO O o' g1 g2
        exact (hinv.known O o' a' id g1 g3 g4).imp (fun h => h) (fun ⟨c, h2, r2, h3, h4⟩ => ⟨c, hc c h2, r2, hold c r2 h3, h4⟩)
  · cases hT : V.H.get T with
    | some o' =>
      obtain ⟨a', ha'⟩ := halive T o' hT
      have := hx _ _ ha'
      rw [ha] at this; cases this
      rw [hsame T o' hT]
      exact hρ _ _ (hinv.root hP T o' a id hT ha' hida)
    | none =>
      have hd : d = some T := (hkeys T o ho).elim (fun ⟨o', h⟩ => by rw [hT] at h; cases h) (fun h => h)
      obtain ⟨rt, ch, hinfo, hich, hO⟩ := hnew T hd hT o ho
      rcases hid T hd hT o a id ho ha hida with ⟨h2, h3⟩ | ⟨O, o', a', g1, g2, g3, g4⟩
      · show (if id < st.nx then ρ id else if id < st1.nx then some rtD else none) = _
        rw [if_neg (by omega), if_pos h3]
        show some (rtOf d info') = _
        rw [hd]
        rfl
      · obtain ⟨hroot, _⟩ := hO O o' g1 g2
        rw [hinfo, infoOf_cons, if_pos rfl, ← hroot]
        exact hρ _ _ (hinv.root hP O o' a' id g1 g3 g4)
  · have h' : (if id < st.nx then ρ id else if id < st1.nx then some rtD else none) = some q := h
    split at h'
    · have := hF.le; omega
    · split at h'
      · assumption
      · cases h'
  · by_cases hc : c < rs.length
    · rw [List.getElem?_append_left hc] at hr
      rw [List.getElem?_append_left (by rw [hh.len]; exact hc)] at hf
      exact (hh.rec_ hP c r' f' hr hf).mono hρ
    · have hce : c = rs.length := by have := (List.getElem?_eq_some_iff.1 hr).1; simp at this; omega
      subst hce
      rw [List.getElem?_append_right (Nat.le_refl _), Nat.sub_self] at hr
      rw [List.getElem?_append_right (by rw [hh.len]; exact Nat.le_refl _), hh.len, Nat.sub_self] at hf
      cases hr; cases hf
      refine ⟨fun x hx' => ?_, ?_⟩
      · obtain ⟨id, g1, T, g2, o, a, g3, g4, g5⟩ := hfo.rd x hx'
        exact ⟨id, g1, _, hρ _ _ (hinv.root hP T o a id g3 g4 g5), rootsOf_mem g2⟩
      · obtain ⟨l, g1, g2⟩ := hfo.wr
        refine ⟨l, g1, fun id hid' => ?_⟩
        obtain ⟨T, g3, o, a, g4, g5, g6⟩ := g2 id hid'
        exact ⟨_, hρ _ _ (hinv.root hP T o a id g4 g5 g6), rootsOf_mem g3⟩
  · by_cases hc : c < rs.length
    · rw [List.getElem?_append_left hc] at hr
      exact hh.known c r' ah' hr ha' rs' (fun j a hj => hrs' j a (hold j a hj))
    · have hce : c = rs.length := by have := (List.getElem?_eq_some_iff.1 hr).1; simp at this; omega
      subst hce
      rw [List.getElem?_append_right (Nat.le_refl _), Nat.sub_self] at hr
      cases hr
      rw [hi, hah] at ha'; cases ha'
      have okId : ∀ T o a id, T ∈ f.rd ++ f.wr → V.H.get T = some o → A T = some a → idOf a = some id → idOk n0 rs' ah id = true := by
        intro T o a id hT g1 g2 g3
        unfold idOk
        rw [Bool.or_eq_true]
        rcases hinv.known T o a id g1 g2 g3 with h | ⟨c, h2, r2, h3, h4, h5⟩
        · exact .inl (by simpa using h)
        · right
          rw [List.any_eq_true]
          refine ⟨c, chainsOk_mem hch T hT c h2, ?_⟩
          rw [hrs' c r2 (hold c r2 h3)]
          simp only [Bool.and_eq_true]
          exact ⟨by simpa using h4, by simpa using h5⟩
      refine ⟨List.all_eq_true.2 (fun x hx' => ?_), ?_⟩
      · obtain ⟨id, g1, T, g2, o, a, g3, g4, g5⟩ := hfo.rd x hx'
        have := okId T o a id (List.mem_append_left _ g2) g3 g4 g5
        cases x with
        | rng q => cases g1; exact this
        | obj j => cases g1; exact this
        | all => cases g1
      · obtain ⟨l, g1, g2⟩ := hfo.wr
        rw [g1]
        refine List.all_eq_true.2 (fun id hid' => ?_)
        obtain ⟨T, g3, o, a, g4, g5, g6⟩ := g2 id hid'
        exact okId T o a id (List.mem_append_right _ g3) g4 g5 g6

theorem knownAll_of {n0 : Nat} {rs : List Rec} : ∀ (ahead : List (List Nat)) (l : List Rec), ahead.length = l.length → (∀ (c : Nat) r ah, l[c]? = some r → ahead[c]? = some ah → r.rds.all (rdOk n0 rs ah) = true ∧ tchOk n0 rs ah r.tch = true) → knownAll n0 rs ahead l = true
  | [], [], h, hk => rfl
  | [], _ :: _, h, hk => by cases h
  | _ :: _, [], h, hk => by cases h
  | a :: as, r :: l, h, hk => by
    obtain ⟨h1, h2⟩ := hk 0 r a rfl rfl
    simp only [knownAll, h1, h2, Bool.true_and]
    exact knownAll_of as l (Nat.succ.inj h) (fun c r' ah hr ha => hk (c + 1) r' ah (by simpa using hr) (by simpa using ha))
theorem still_of {ρ : Nat → Option Nat} {a b : Rec} {fa fb : List Nat × List Nat} (ha : RecH ρ a fa) (hb : RecH ρ b fb) (hd : ∀ q ∈ fa.2, q ∉ fb.1) : still a b = true := by
  unfold still
  rw [allB_true]
  intro x hx
  obtain ⟨id, h1, q, h2, h3⟩ := hb.1 x hx
  obtain ⟨l, h4, h5⟩ := ha.2
  have hno : id ∉ l := fun hm => by
    obtain ⟨q', h6, h7⟩ := h5 id hm
    rw [h2] at h6; cases h6
    exact hd q h7 h3
  have hc : l.contains id = false := by
    cases hh : l.contains id with
    | false => rfl
    | true => exact absurd (by simpa using hh) hno
  cases x with
  | rng r => cases h1; simp only [still1, h4, hc, cond_false]
  | obj j => cases h1; simp only [still1, h4, hc, Bool.not_false]
  | all => cases h1
theorem apart_of {ρ : Nat → Option Nat} {a b : Rec} {fa fb : List Nat × List Nat} (ha : RecH ρ a fa) (hb : RecH ρ b fb) (hd : ∀ q ∈ fa.2, q ∉ fb.2) : apart a b = true := by
  obtain ⟨l, h1, h2⟩ := ha.2
  obtain ⟨l', h3, h4⟩ := hb.2
  unfold apart
  rw [h1, h3]
  simp only
  rw [List.all_eq_true]
  intro id hid
  obtain ⟨q, h5, h6⟩ := h2 id hid
  cases hh : l'.contains id with
  | false => rfl
  | true =>
    obtain ⟨q', h7, h8⟩ := h4 id (by simpa using hh)
    rw [h5] at h7; cases h7
    exact absurd h8 (hd q h6)
theorem pairs_of {n0 : Nat} {ahead : List (List Nat)} {rs : List Rec} {feet : List (List Nat × List Nat)} {ρ : Nat → Option Nat} {hp : Prop} (hh : Hist hp n0 ahead rs feet ρ) : ∀ {pairs : List (Nat × Nat)}, (pairs ≠ [] → hp) → pairsB feet pairs = true → allB (pairOk rs) pairs = true
  | [], _, h => rfl
  | (i, j) :: l, hpp, h => by
    have hP := hpp (by simp)
    simp only [pairsB, Bool.and_eq_true] at h
    rw [allB_true]
    intro p hp
    rcases List.mem_cons.1 hp with rfl | hp
    · have h1 := h.1
      split at h1
      rotate_left
      · cases h1
      rename_i fa hfa
      split at h1
      rotate_left
      · cases h1
      rename_i fb hfb
      rw [Bool.and_eq_true, Bool.and_eq_true] at h1
      obtain ⟨d1, d2, d3⟩ := h1
      have li := (List.getElem?_eq_some_iff.1 hfa).1
      have lj := (List.getElem?_eq_some_iff.1 hfb).1
      rw [hh.len] at li lj
      have ra := List.getElem?_eq_getElem li
      have rb := List.getElem?_eq_getElem lj
      have ha := hh.rec_ hP i _ fa ra hfa
      have hb := hh.rec_ hP j _ fb rb hfb
      unfold pairOk
      simp only [ra, rb, Bool.and_eq_true]
      exact ⟨⟨still_of ha hb (disjB_mem d1), still_of hb ha (disjB_mem d2)⟩, apart_of ha hb (disjB_mem d3)⟩
    · exact allB_true.1 (pairs_of hh (fun _ => hP) h.2) p hp

/-! a call that is given objects -/
def namesI (info : List (Nat × Nat × List Nat)) : List Nat := info.map (·.1)
theorem dropI_get : ∀ {info : List (Nat × Nat × List Nat)} {V : VSt} {O : Nat} {o : VO}, (dropI info V).H.get O = some o → O ∉ namesI info ∧ V.H.get O = some o
  | [], V, O, o, h => ⟨by simp [namesI], h⟩
  | (T, x) :: l, V, O, o, h => by
    obtain ⟨h1, h2⟩ := dropI_get (info := l) (V := dropO V T) h
    obtain ⟨h3, h4⟩ := dropO_get h2
    refine ⟨fun hm => ?_, h4⟩
    simp only [namesI, List.map_cons, List.mem_cons] at hm
    exact hm.elim h3 h1
theorem dropI_same : ∀ (info : List (Nat × Nat × List Nat)) (V : VSt), (dropI info V).env = V.env ∧ (dropI info V).us = V.us
  | [], V => ⟨rfl, rfl⟩
  | (T, x) :: l, V => by obtain ⟨h1, h2⟩ := dropI_same l (dropO V T); exact ⟨h1, h2⟩
theorem dropI_has : ∀ {info : List (Nat × Nat × List Nat)} {V : VSt} {O : Nat} {o : VO}, V.H.get O = some o → O ∉ namesI info → (dropI info V).H.get O = some o
  | [], V, O, o, h, _ => h
  | (T, x) :: l, V, O, o, h, hn => by
    simp only [namesI, List.map_cons, List.mem_cons, not_or] at hn
    refine dropI_has (info := l) (V := dropO V T) ?_ hn.2
    simp only [dropO, Map.get_put, if_neg hn.1]; exact h
theorem infoOf_not {T : Nat} : ∀ {info : List (Nat × Nat × List Nat)}, T ∉ namesI info → infoOf T info = (T, [])
  | [], _ => rfl
  | (T', x) :: l, h => by
    simp only [namesI, List.map_cons, List.mem_cons, not_or] at h
    rw [infoOf_cons, if_neg (Ne.symm h.1)]; exact infoOf_not h.2
theorem infoN_of {i T : Nat} {info : List (Nat × Nat × List Nat)} : ∀ {ns : List Nat}, T ∈ ns → infoOf T (infoN i ns info) = (T, [i])
  | [], h => by cases h
  | T' :: r, h => by
    simp only [infoN, infoOf_cons]
    by_cases e : T' = T
    · subst e; rw [if_pos rfl]
    · rw [if_neg e]
      rcases List.mem_cons.1 h with rfl | h
      · exact absurd rfl e
      · exact infoN_of h
theorem infoN_not {i T : Nat} {info : List (Nat × Nat × List Nat)} : ∀ {ns : List Nat}, T ∉ ns → infoOf T (infoN i ns info) = infoOf T info
  | [], h => rfl
  | T' :: r, h => by
    simp only [List.mem_cons, not_or] at h
    simp only [infoN, infoOf_cons, if_neg (Ne.symm h.1)]
    exact infoN_not h.2
theorem noneB_get {V : VSt} : ∀ {l : List Nat}, noneB V l = true → ∀ T ∈ l, V.H.get T = none
  | [], h, T, hT => by cases hT
  | x :: l, h, T, hT => by
    simp only [noneB, Bool.and_eq_true] at h
    rcases List.mem_cons.1 hT with rfl | hT
    · have h1 := h.1
      split at h1
      · cases h1
      · assumption
    · exact noneB_get h.2 T hT
theorem wideOf_some {V : VSt} {o : AOper} {ns : List Nat} (h : wideOf sh V o = some ns) : (∃ d f args, o = ⟨some d, .call f args .share, none, false⟩) ∨ ∃ d f args, o = ⟨d, .call f args .borrow, none, false⟩ := by
  obtain ⟨dd, op, gd, fz⟩ := o
  unfold wideOf at h
  simp only at h
  split at h
  · cases h
  split at h
  · cases h
  split at h
  · split at h
    · exact .inl ⟨_, _, _, rfl⟩
    · cases h
  · exact .inr ⟨_, _, _, rfl⟩
  · cases h
/-- what was set aside is there again -/
theorem backI_sim {A A1 : Tok} {V V1 : VSt} {st : St} {st1 : St} {info0 : List (Nat × Nat × List Nat)} (hR : R A V st) (hx : ∀ O x, A O = some x → A1 O = some x)
    (hH : ∀ T o a id, T ∈ namesI info0 → V.H.get T = some o → A T = some a → idOf a = some id → st1.H.get id = st.H.get id)
    (hown : ∀ id, Own V1 A1 id → Own (dropI info0 V) A id ∨ st.nx ≤ id) :
    ∀ (info : List (Nat × Nat × List Nat)) (W : VSt), (∀ T ∈ namesI info, T ∈ namesI info0) → R A1 W st1 → (∀ O o, W.H.get O = some o → V1.H.get O = some o ∨ (O ∈ namesI info0 ∧ V.H.get O = some o)) →
      R A1 (backI V info W) st1 ∧ (backI V info W).env = W.env ∧ (backI V info W).us = W.us ∧ (∀ O o, (backI V info W).H.get O = some o → V1.H.get O = some o ∨ (O ∈ namesI info0 ∧ V.H.get O = some o)) ∧ ∀ O o, W.H.get O = some o → (backI V info W).H.get O = some o
  | [], W, _, hW, hk => ⟨hW, rfl, rfl, hk, fun _ _ h => h⟩
  | (T, x) :: l, W, hs, hW, hk => by
    have hsl : ∀ T ∈ namesI l, T ∈ namesI info0 := fun T' h => hs T' (by simp only [namesI, List.map_cons, List.mem_cons]; exact .inr h)
    have hT : T ∈ namesI info0 := hs T (by simp [namesI])
    simp only [backI]
    split
    · exact backI_sim hR hx hH hown l W hsl hW hk
    rename_i hWT
    split
    rotate_left
    · exact backI_sim hR hx hH hown l W hsl hW hk
    rename_i o ho
    obtain ⟨a, hA, hor⟩ := hR.heap T o ho
    have hown0 : ∀ id, idOf a = some id → Own V A id := fun id hi => ⟨T, o, a, ho, hA, hi⟩
    obtain ⟨hR', _⟩ := own_again hW (O := T) (o := o) (hx _ _ hA) (hor.mono hx (fun id hi => hH T o a id hT ho hA hi)) (fun id hi ⟨O, o', a', h1, h2, h3⟩ => by
      rcases hk O o' h1 with h4 | ⟨h4, h5⟩
      · rcases hown id ⟨O, o', a', h4, h2, h3⟩ with ⟨O2, o2, a2, h6, h7, h8⟩ | hle
        · obtain ⟨hn, h6'⟩ := dropI_get h6
          have := hR.inj O2 T o2 o a2 a id h6' ho h7 hA h8 hi
          subst this; exact hn hT
        · have := hR.own_lt (hown0 id hi); omega
      · obtain ⟨a2, h7, _⟩ := hR.heap O o' h5
        have := hx _ _ h7
        rw [h2] at this; cases this
        have := hR.inj O T o' o a' a id h5 ho h7 hA h3 hi
        subst this; rw [hWT] at h1; cases h1)
    obtain ⟨g1, g2, g3, g4, g5⟩ := backI_sim hR hx hH hown l (setVO W T o) hsl hR' (fun O o' h => by
      simp only [setVO, Map.get_put] at h
      split at h
      · rename_i e; subst e; cases h; exact .inr ⟨hT, ho⟩
      · exact hk O o' h)
    refine ⟨g1, g2, g3, g4, fun O o' h => g5 O o' ?_⟩
    simp only [setVO, Map.get_put]
    split
    · rename_i e; subst e; rw [hWT] at h; cases h
    · exact h
/-- such a call: what it is by itself, and in a region -/
def Wide (prog : Map AFunc) (nt n0 : Nat) (o : AOper) (A : Tok) (V1 : VSt) (st : St) (k : VSt → Prop) : Prop :=
  ∃ H' nx' e' H2 rds tch V2 A2, effStep (runFn prog) nt n0 o st = some (⟨e', H2, nx'⟩, ⟨rds, tch, st.H, H2, st.nx, nx'⟩) ∧ (∀ id, H2.get id = if id < n0 ∨ (st.nx ≤ id ∧ id < nx') then H'.get id else st.H.get id) ∧
    R A2 V2 ⟨e', H', nx'⟩ ∧ Fr V1 A (st.H.upto fun i => Nat.blt i n0) st.nx V2 A2 H' nx' ∧ (∀ O x, A O = some x → A2 O = some x) ∧ k V2 ∧ (∀ rs ah, rds.all (rdOk n0 rs ah) = true ∧ tchOk n0 rs ah tch = true)
theorem wide_share (hsh : sh.vs = VSh prog) {n0 d f : Nat} {args : List Opd} {A : Tok} {V1 : VSt} {st : St} {k : VSt → Prop} (hR0 : R A V1 ⟨st.env, st.H.upto fun i => Nat.blt i n0, st.nx⟩)
    (hk : evShare sh nt V1 (some d) f args k) : Wide prog nt n0 ⟨some d, .call f args .share, none, false⟩ A V1 st k := by
  obtain ⟨v, H', nx', hdo, e', hput, V2, A1, hR1, hF, hx, hk1⟩ := o_share (nt := nt) hsh hR0 hk
  have hkd : kind (.call f args .share) = .call f args .share := rfl
  have hcf : runFn prog f (args.map (ev st.env)) (st.H.upto fun i => Nat.blt i n0) st.nx = some (v, H', nx') := by
    simpa only [doOp, hkd, doCall] using hdo
  let P : Nat → Bool := fun i => Nat.blt i n0 || (Nat.ble st.nx i && Nat.blt i nx')
  have hP : ∀ i, P i = true ↔ (i < n0 ∨ (st.nx ≤ i ∧ i < nx')) := fun i => by
    show (Nat.blt i n0 || (Nat.ble st.nx i && Nat.blt i nx')) = true ↔ _
    simp
  let H2 : Heap := (H'.upto P).union (st.H.upto fun i => !P i)
  refine ⟨H', nx', e', H2, [.all], .all, V2, A1, ?_, fun id => ?_, hR1, hF, hx, hk1, fun rs ah => ⟨rfl, rfl⟩⟩
  · have h1 : effFz (runFn prog) n0 ⟨some d, .call f args .share, none, false⟩ (ev st.env) st.H st.nx = some (v, H2, nx', [.all], .all) := by
      simp only [effFz, cond_false, effOp, hkd, effCall, hcf]; rfl
    have hw : wanted st.env none = true := rfl
    simp only [effStep, hw, cond_true, h1, hput]
  · show ((H'.upto P).union (st.H.upto fun i => !P i)).get id = _
    rw [Map.get_union, Map.get_upto, Map.get_upto]
    by_cases h : P id = true
    · rw [if_pos ((hP id).1 h)]
      simp only [h, if_true, Bool.not_true]
      cases H'.get id <;> rfl
    · rw [if_neg (fun hc => h ((hP id).2 hc))]
      simp only [h]
      rfl
theorem wide_borrow {n0 f : Nat} {d : Option Nat} {args : List Opd} {A : Tok} {V1 : VSt} {st : St} {k : VSt → Prop} (hR0 : R A V1 ⟨st.env, st.H.upto fun i => Nat.blt i n0, st.nx⟩)
    (hk : evCall prog nt V1 d none f args k) : Wide prog nt n0 ⟨d, .call f args .borrow, none, false⟩ A V1 st k := by
  obtain ⟨v, hdo, e', hput, V2, A1, hR1, hF, hx, hk1⟩ := o_call (g := none) hR0 trivial hk
  have hkd : kind (.call f args .borrow) = .call f args .borrow := rfl
  have hw : wanted st.env none = true := rfl
  have hdo' : doCall (runFn prog) f (args.map (ev st.env)) .borrow (st.H.upto fun i => Nat.blt i n0) st.nx = some (v, (st.H.upto fun i => Nat.blt i n0), st.nx) := hdo
  have hget : ∀ id, st.H.get id = if id < n0 ∨ (st.nx ≤ id ∧ id < st.nx) then (st.H.upto fun i => Nat.blt i n0).get id else st.H.get id := by
    intro id
    split
    · rw [Map.get_upto, if_pos]
      rename_i h
      have : id < n0 := by rcases h with h | h <;> omega
      simpa using this
    · rfl
  by_cases hp : allB AV.plain (args.map (ev st.env)) = true
  · have h0 : doCall (runFn prog) f (args.map (ev st.env)) .borrow st.H st.nx = some (v, st.H, st.nx) := by
      simp only [doCall, hp, cond_true] at hdo' ⊢
      split at hdo'
      · rename_i r hr
        simp only [Option.some.injEq, Prod.mk.injEq] at hdo'
        simp only [hr, hdo'.1]
      · cases hdo'
    refine ⟨_, st.nx, e', st.H, [], .ids [], V2, A1, ?_, hget, hR1, hF, hx, hk1, fun rs ah => ⟨rfl, rfl⟩⟩
    have h1 : effFz (runFn prog) n0 ⟨d, .call f args .borrow, none, false⟩ (ev st.env) st.H st.nx = some (v, st.H, st.nx, [], .ids []) := by
      simp only [effFz, cond_false, effOp, hkd, effCall, hp, cond_true, h0]
    simp only [effStep, hw, cond_true, h1, hput]
  · have hpb : allB AV.plain (args.map (ev st.env)) = false := by simpa using hp
    refine ⟨_, st.nx, e', st.H, [.all], .ids [], V2, A1, ?_, hget, hR1, hF, hx, hk1, fun rs ah => ⟨rfl, rfl⟩⟩
    have h1 : effFz (runFn prog) n0 ⟨d, .call f args .borrow, none, false⟩ (ev st.env) st.H st.nx = some (v, st.H, st.nx, [.all], .ids []) := by
      simp only [effFz, cond_false, effOp, hkd, effCall, hpb, hdo']
    simp only [effStep, hw, cond_true, h1, hput]
theorem wide_step (hsh : sh.vs = VSh prog) {hp : Prop} (hnp : ¬ hp) {n0 i : Nat} {rs : List Rec} {A : Tok} {V : VSt} {st : St} {info : List (Nat × Nat × List Nat)} {ρ : Nat → Option Nat} {feet : List (List Nat × List Nat)} {ahead : List (List Nat)}
    {o : AOper} {ns : List Nat} {k : VSt → Prop} (hR : R A V st) (hinv : DInv hp n0 rs A V st info ρ) (hh : Hist hp n0 ahead rs feet ρ) (hi : rs.length = i) (hn0 : n0 ≤ st.nx) (hwd : wideOf sh V o = some ns) (hnn : noneB V ns = true)
    (hk : evO sh prog nt (dropI info V) o fun V' => match allK V'.H fun T => hasO (dropI info V) T || memB T (ns) with
      | true => k (backI V info V')
      | false => False) :
    ∃ st1 r, effStep (runFn prog) nt n0 o st = some (st1, r) ∧ ∃ W A1, R A1 W st1 ∧ Fr V A st.H st.nx W A1 st1.H st1.nx ∧ k W ∧ st.nx ≤ st1.nx ∧
      DInv hp n0 (rs ++ [r]) A1 W st1 (infoN i (ns) info) ρ ∧ Hist hp n0 ahead (rs ++ [r]) (feet ++ [([], [])]) ρ := by
  have hids : ∀ O o a id, (dropI info V).H.get O = some o → A O = some a → idOf a = some id → id < n0 := by
    intro O o a id ho ha hid
    obtain ⟨hn, ho'⟩ := dropI_get ho
    rcases hinv.known O o a id ho' ha hid with h | ⟨c, hc, _⟩
    · exact h
    · rw [infoOf_not hn] at hc; cases hc
  obtain ⟨he, hu⟩ := dropI_same info V
  have hR0 : R A (dropI info V) ⟨st.env, st.H.upto fun i => Nat.blt i n0, st.nx⟩ := by
    refine ⟨fun t e h => hR.env t e (by rw [← he]; exact h), fun O o ho => ?_, fun O O' o o' a a' id h1 h2 => hR.inj O O' o o' a a' id (dropI_get h1).2 (dropI_get h2).2, fun O h => hR.used O (by rw [← hu]; exact h), hR.one, fun id o h => ?_⟩
    · obtain ⟨a, ha, hor⟩ := hR.heap O o (dropI_get ho).2
      refine ⟨a, ha, hor.mono (fun _ _ h => h) (fun id hid => ?_)⟩
      have := hids O o a id ho ha hid
      show (Map.upto st.H _).get id = _
      rw [Map.get_upto, if_pos (by simpa using this)]
    · have h' : (Map.upto st.H fun i => Nat.blt i n0).get id = some o := h
      rw [Map.get_upto] at h'
      split at h'
      · exact hR.fresh id o h'
      · cases h'
  have hW : Wide prog nt n0 o A (dropI info V) st fun V' => match allK V'.H fun T => hasO (dropI info V) T || memB T ns with
      | true => k (backI V info V')
      | false => False := by
    rcases wideOf_some hwd with ⟨d, f, args, rfl⟩ | ⟨d, f, args, rfl⟩
    · exact wide_share hsh hR0 hk
    · exact wide_borrow hR0 hk
  obtain ⟨H', nx', e', H2, rds, tch, V1, A1, heff, hget0, hR1, hF, hx, hk1, hrt⟩ := hW
  have hle : st.nx ≤ nx' := hF.le
  let P : Nat → Bool := fun i => Nat.blt i n0 || (Nat.ble st.nx i && Nat.blt i nx')
  have hP : ∀ i, P i = true ↔ (i < n0 ∨ (st.nx ≤ i ∧ i < nx')) := fun i => by
    show (Nat.blt i n0 || (Nat.ble st.nx i && Nat.blt i nx')) = true ↔ _
    simp
  have hget : ∀ id, H2.get id = if P id = true then H'.get id else st.H.get id := by
    intro id
    rw [hget0]
    by_cases h : P id = true
    · rw [if_pos ((hP id).1 h), if_pos h]
    · rw [if_neg (fun hc => h ((hP id).2 hc)), if_neg h]
  have hown1 : ∀ id, Own V1 A1 id → P id = true := by
    intro id ho
    rw [hP]
    have hlt := hR1.own_lt ho
    rcases hF.own id ho with ⟨O, o, a, h1, h2, h3⟩ | h
    · exact .inl (hids O o a id h1 h2 h3)
    · exact .inr ⟨h, hlt⟩
  have hR2 : R A1 V1 ⟨e', H2, nx'⟩ := by
    refine ⟨hR1.env, fun O o ho => ?_, hR1.inj, hR1.used, hR1.one, fun id o h => ?_⟩
    · obtain ⟨a, ha, hor⟩ := hR1.heap O o ho
      refine ⟨a, ha, hor.mono (fun _ _ h => h) (fun id hid => ?_)⟩
      rw [show (⟨e', H2, nx'⟩ : St).H.get id = _ from hget id, if_pos (hown1 id ⟨O, o, a, ho, ha, hid⟩)]
    · have h' : H2.get id = some o := h
      rw [hget] at h'
      split at h'
      · exact hR1.fresh id o h'
      · exact Nat.lt_of_lt_of_le (hR.fresh id o h') hle
  split at hk1
  rotate_left
  · cases hk1
  rename_i hall
  have hkeys : ∀ T o, V1.H.get T = some o → (∃ o', (dropI info V).H.get T = some o') ∨ T ∈ ns := by
    intro T o hT
    have := allK_get _ _ hall T o hT
    rw [Bool.or_eq_true] at this
    exact this.imp hasO_iff.1 memB_iff.1
  obtain ⟨g1, g2, g3, g4, g5⟩ := backI_sim (V1 := V1) (st1 := ⟨e', H2, nx'⟩) (info0 := info) hR hx (fun T o a id hT ho ha hid => by
      show H2.get id = _
      rw [hget]
      split
      · rename_i hPi
        have hown : Own V A id := ⟨T, o, a, ho, ha, hid⟩
        have hlt := hR.own_lt hown
        have h0 : id < n0 := by rcases (hP id).1 hPi with h | h <;> omega
        have hno : ¬ Own (dropI info V) A id := fun ⟨O, o', a', h1, h2, h3⟩ => by
          obtain ⟨hn, h1'⟩ := dropI_get h1
          have := hR.inj O T o' o a' a id h1' ho h2 ha h3 hid
          subst this; exact hn hT
        have := hF.same id hlt hno
        rw [this]
        show (Map.upto st.H _).get id = _
        rw [Map.get_upto, if_pos (by simpa using h0)]
      · rfl) (fun id ho => hF.own id ho) info V1 (fun _ h => h) hR2 (fun O o h => .inl h)
  refine ⟨⟨e', H2, nx'⟩, ⟨rds, tch, st.H, H2, st.nx, nx'⟩, ?_, _, A1, g1, ⟨hle, fun id hid hno => ?_, fun id ho => ?_⟩, hk1, hle, ⟨fun T o a id ho ha hid => ?_, fun h => absurd h hnp, fun id q h => Nat.lt_of_lt_of_le (hinv.dom id q h) hle⟩,
    ⟨by simp [hh.len], fun h => absurd h hnp, fun c r' ah' hr ha' rs' hrs' => ?_⟩⟩
  · exact heff
  · show H2.get id = _
    rw [hget]
    split
    · rename_i hPi
      have h0 : id < n0 := by rcases (hP id).1 hPi with h | h <;> omega
      have := hF.same id hid (fun ⟨O, o, a, h1, h2, h3⟩ => hno ⟨O, o, a, (dropI_get h1).2, h2, h3⟩)
      rw [this]
      show (Map.upto st.H _).get id = _
      rw [Map.get_upto, if_pos (by simpa using h0)]
    · rfl
  · obtain ⟨O, o, a, h1, h2, h3⟩ := ho
    rcases g4 O o h1 with h4 | ⟨h4, h5⟩
    · rcases hF.own id ⟨O, o, a, h4, h2, h3⟩ with ⟨O', o', a', h6, h7, h8⟩ | h
      · exact .inl ⟨O', o', a', (dropI_get h6).2, h7, h8⟩
      · exact .inr h
    · obtain ⟨a', h6, _⟩ := hR.heap O o h5
      have := hx _ _ h6
      rw [h2] at this; cases this
      exact .inl ⟨O, o, a, h5, h6, h3⟩
  · have hold : ∀ (c : Nat) a, rs[c]? = some a → (rs ++ [(⟨rds, tch, st.H, H2, st.nx, nx'⟩ : Rec)])[c]? = some a := fun c a hc => by
      rw [List.getElem?_append_left (List.getElem?_eq_some_iff.1 hc).1]; exact hc
    have hlast : (rs ++ [(⟨rds, tch, st.H, H2, st.nx, nx'⟩ : Rec)])[i]? = some ⟨rds, tch, st.H, H2, st.nx, nx'⟩ := by
      rw [List.getElem?_append_right (by omega), hi, Nat.sub_self]; rfl
    rcases g4 T o ho with h4 | ⟨h4, h5⟩
    · by_cases hT : T ∈ ns
      · rw [infoN_of hT]
        rcases hF.own id ⟨T, o, a, h4, ha, hid⟩ with ⟨O', o', a', h6, h7, h8⟩ | h
        · exact .inl (hids O' o' a' id h6 h7 h8)
        · exact .inr ⟨i, by simp, _, hlast, h, hR1.own_lt ⟨T, o, a, h4, ha, hid⟩⟩
      · rcases hkeys T o h4 with ⟨o', h6⟩ | h6
        · obtain ⟨a', h7, _⟩ := hR.heap T o' (dropI_get h6).2
          have := hx _ _ h7
          rw [ha] at this; cases this
          exact .inl (hids T o' a id h6 h7 hid)
        · exact absurd h6 hT
    · have hT : T ∉ ns := fun hm => by have := noneB_get hnn T hm; rw [this] at h5; cases h5
      rw [infoN_not hT]
      obtain ⟨a', h6, _⟩ := hR.heap T o h5
      have := hx _ _ h6
      rw [ha] at this; cases this
      exact (hinv.known T o a id h5 h6 hid).imp (fun h => h) (fun ⟨c, h2, r2, h3, h4⟩ => ⟨c, h2, r2, hold c r2 h3, h4⟩)
  · by_cases hc : c < rs.length
    · rw [List.getElem?_append_left hc] at hr
      exact hh.known c r' ah' hr ha' rs' (fun j a hj => hrs' j a (by rw [List.getElem?_append_left (List.getElem?_eq_some_iff.1 hj).1]; exact hj))
    · have hce : c = rs.length := by have := (List.getElem?_eq_some_iff.1 hr).1; simp at this; omega
      subst hce
      rw [List.getElem?_append_right (Nat.le_refl _), Nat.sub_self] at hr
      cases hr
      exact hrt rs' ah'

theorem evD_run (hsh : sh.vs = VSh prog) {ahead : List (List Nat)} {pairs : List (Nat × Nat)} {n0 : Nat} : ∀ (ops : List AOper) (i : Nat) (V : VSt) (A : Tok) (st : St) (info : List (Nat × Nat × List Nat)) (feet : List (List Nat × List Nat)) (rs : List Rec) (ρ : Nat → Option Nat) (k : VSt → Prop),
    R A V st → DInv (pairs ≠ []) n0 rs A V st info ρ → Hist (pairs ≠ []) n0 ahead rs feet ρ → rs.length = i → n0 ≤ st.nx → evD sh prog nt ahead pairs ops i V info feet k →
    ∃ st' l, runDOps (runFn prog) nt n0 ops st = some (st', l) ∧ knownAll n0 (rs ++ l) ahead (rs ++ l) = true ∧ allB (pairOk (rs ++ l)) pairs = true ∧ ∃ V' A', R A' V' st' ∧ Fr V A st.H st.nx V' A' st'.H st'.nx ∧ k V'
  | [], i, V, A, st, info, feet, rs, ρ, k, hR, hinv, hh, hi, hn, hk => by
    simp only [evD] at hk
    split at hk
    · rename_i hb
      rw [Bool.and_eq_true, Nat.beq_eq] at hb
      refine ⟨st, [], rfl, ?_, ?_, V, A, hR, Fr.refl _ _ _ _, hk⟩
      · rw [List.append_nil]
        exact knownAll_of ahead rs (by rw [hb.1, hi]) (fun c r ah hr ha => hh.known c r ah hr ha rs (fun _ _ h => h))
      · rw [List.append_nil]; exact pairs_of hh (fun h => h) hb.2
    · cases hk
  | o :: l, i, V, A, st, info, feet, rs, ρ, k, hR, hinv, hh, hi, hn, hk => by
    rw [evD] at hk
    split at hk
    · rename_i ns hso
      split at hk
      rotate_left
      · cases hk
      rename_i hps
      split at hk
      rotate_left
      · cases hk
      rename_i hnn
      obtain ⟨st1, r, g1, W, A1, g2, g3, g4, g5, g6, g7⟩ := wide_step (k := fun W => evD sh prog nt ahead [] l (i + 1) W (infoN i ns info) (feet ++ [([], [])]) k) hsh (by simp) hR hinv hh hi hn hso hnn hk
      obtain ⟨st2, l2, q1, q2, q3, V2, A2, q4, q5, q6⟩ := evD_run hsh l (i + 1) W A1 st1 _ _ (rs ++ [r]) ρ k g2 g6 g7 (by simp [hi]) (Nat.le_trans hn g5) g4
      refine ⟨st2, r :: l2, by simp only [runDOps, g1, q1], ?_, ?_, V2, A2, q4, g3.trans q5, q6⟩
      · rwa [List.append_assoc] at q2
      · rwa [List.append_assoc] at q3
    have hk' : evO sh prog nt V o fun V' => match foot V o with
      | none => False
      | some f => match ahead[i]? with
        | none => False
        | some ah => match chainsOk info ah (f.rd ++ f.wr) with
          | false => False
          | true => match stepI o.dst i V V' f info with
            | none => False
            | some info' => evD sh prog nt ahead pairs l (i + 1) V' info' (feet ++ [(rootsOf info f.rd, rootsOf info f.wr)]) k := hk
    obtain ⟨st1, h1, V1, A1, h2, h3, hx, h4⟩ := evO_sim hsh hR hk'
    split at h4
    · cases h4
    rename_i f hf
    split at h4
    · cases h4
    rename_i ah hah
    split at h4
    · cases h4
    rename_i hch
    split at h4
    · cases h4
    rename_i info' hs
    obtain ⟨r, g1, g2, g3, g4⟩ := evO_eff hR hk' hf h1 n0
    obtain ⟨ρ', p1, p2⟩ := step_inv hR h2 h3 hx hinv hh hi g2 g3 g4 hah hch hs
    obtain ⟨st2, l2, q1, q2, q3, V2, A2, q4, q5, q6⟩ := evD_run hsh l (i + 1) V1 A1 st1 info' _ (rs ++ [r]) ρ' k h2 p1 p2 (by simp [hi]) (Nat.le_trans hn h3.le) h4
    refine ⟨st2, r :: l2, by simp only [runDOps, g1, q1], ?_, ?_, V2, A2, q4, h3.trans q5, q6⟩
    · rwa [List.append_assoc] at q2
    · rwa [List.append_assoc] at q3
open Classical in
noncomputable def rhoOf (V : VSt) (A : Tok) (id : Nat) : Option Nat := if h : ∃ T o a, V.H.get T = some o ∧ A T = some a ∧ idOf a = some id then some (Classical.choose h) else none
theorem rhoOf_some {V : VSt} {A : Tok} {id q : Nat} (h : rhoOf V A id = some q) : ∃ o a, V.H.get q = some o ∧ A q = some a ∧ idOf a = some id := by
  unfold rhoOf at h
  split at h
  · rename_i hh; cases h; exact Classical.choose_spec hh
  · cases h
theorem rhoOf_of {V : VSt} {A : Tok} {st : St} (hR : R A V st) {id T : Nat} {o : VO} {a : AV} (h1 : V.H.get T = some o) (h2 : A T = some a) (h3 : idOf a = some id) : rhoOf V A id = some T := by
  have hh : ∃ T o a, V.H.get T = some o ∧ A T = some a ∧ idOf a = some id := ⟨T, o, a, h1, h2, h3⟩
  unfold rhoOf
  rw [dif_pos hh]
  obtain ⟨o', a', g1, g2, g3⟩ := Classical.choose_spec hh
  congr 1
  exact hR.inj _ T _ _ _ _ id g1 h1 g2 h2 g3 h3
theorem evD_sim (hsh : sh.vs = VSh prog) {A : Tok} {V : VSt} {st : St} {k : VSt → Prop} {ops : List AOper} {ahead : List (List Nat)} {pairs : List (Nat × Nat)} (hR : R A V st) (hk : evD sh prog nt ahead pairs ops 0 V [] [] k) :
    ∃ st', runDreg (runFn prog) nt ops ahead pairs st = some st' ∧ ∃ V' A', R A' V' st' ∧ Fr V A st.H st.nx V' A' st'.H st'.nx ∧ k V' := by
  have own : ∀ T o a id, V.H.get T = some o → A T = some a → idOf a = some id → Own V A id := fun T o a id h1 h2 h3 => ⟨T, o, a, h1, h2, h3⟩
  obtain ⟨st', l, h1, h2, h3, V', A', h4, h5, h6⟩ := evD_run hsh (n0 := st.nx) ops 0 V A st [] [] [] (rhoOf V A) k hR ⟨fun T o a id g1 g2 g3 => .inl (hR.own_lt (own T o a id g1 g2 g3)), fun _ T o a id g1 g2 g3 => rhoOf_of hR g1 g2 g3, fun id q hq => by
      obtain ⟨o', a', g1, g2, g3⟩ := rhoOf_some hq
      exact hR.own_lt (own _ _ _ _ g1 g2 g3)⟩ ⟨rfl, fun _ c r f hr => by simp at hr, fun c r ah hr => by simp at hr⟩ rfl (Nat.le_refl _) hk
  rw [List.nil_append] at h2 h3
  exact ⟨st', by simp only [runDreg, h1, h2, h3, Bool.and_self, cond_true], V', A', h4, h5, h6⟩
end
end Go.Ax.V

/- Code over values is the interpreter's; functions. -/
set_option linter.unusedSimpArgs false
set_option linter.unusedVariables false
namespace Go.Ax.V

def _root_.Go.Ax.V.VCode.ok : VCode → Bool
  | .seq a b => a.ok && b.ok
  | .cond _ a b => a.ok && b.ok
  | .block _ c => c.ok
  | .loop J c => J.all entPos && c.ok
  | .join J c => J.all entPos && c.ok
  | _ => true

section
variable {sh : Sh} {prog : Map AFunc} {nt : Nat}

theorem evK_sim (hsh : sh.vs = VSh prog) : ∀ (c : VCode) (V : VSt) (A : Tok) (st : St) (k : AExit → VSt → Prop), c.ok = true → R A V st → evK sh prog nt c V k →
    WC (runFn prog) (runCode prog) nt c.code st (fun x st' => ∃ V' A', R A' V' st' ∧ Fr V A st.H st.nx V' A' st'.H st'.nx ∧ k x V') := by
  intro c
  induction c with
  | skip => intro V A st k _ hR h; exact wc_skip ⟨V, A, hR, Fr.refl _ _ _ _, h⟩
  | exit id => intro V A st k _ hR h; exact wc_exit ⟨V, A, hR, Fr.refl _ _ _ _, h⟩
  | ret => intro V A st k _ hR h; exact wc_ret ⟨V, A, hR, Fr.refl _ _ _ _, h⟩
  | dreg ops ahead pairs =>
    intro V A st k _ hR h
    obtain ⟨st', h1, V', A', h2, h3, h4⟩ := evD_sim hsh hR h
    exact wc_dreg h1 ⟨V', A', h2, h3, h4⟩
  | reg ops =>
    intro V A st k _ hR h
    obtain ⟨st', h1, V', A', h2, h3, _, h4⟩ := evOs_sim hsh hR h
    exact wc_reg ⟨st', h1, V', A', h2, h3, h4⟩
  | seq a b iha ihb =>
    intro V A st k hok hR h
    simp only [VCode.ok, Bool.and_eq_true] at hok
    refine wc_seq (wc_mono (iha V A st _ hok.1 hR h) ?_)
    rintro x st' ⟨V', A', h1, h2, h3⟩
    cases x with
    | normal =>
      refine wc_mono (ihb V' A' st' k hok.2 h1 h3) ?_
      rintro y st2 ⟨V2, A2, g1, g2, g3⟩
      exact ⟨V2, A2, g1, h2.trans g2, g3⟩
    | exit i => exact ⟨V', A', h1, h2, h3⟩
    | ret => exact ⟨V', A', h1, h2, h3⟩
  | cond c a b iha ihb =>
    intro V A st k hok hR h
    simp only [VCode.ok, Bool.and_eq_true] at hok
    obtain ⟨cv, hc, h⟩ := rdT_sim (g := none) hR trivial h
    unfold condK at h
    split at h
    · rename_i x
      generalize he : ev st.env c = p at hc
      cases hc
      cases x with
      | true => exact wc_cond_true he (iha V A st k hok.1 hR h)
      | false => exact wc_cond_false he (ihb V A st k hok.2 hR h)
    · cases h
  | block id c ih =>
    intro V A st k hok hR h
    refine wc_block (wc_mono (ih V A st _ hok hR h) ?_)
    rintro x st' ⟨V', A', h1, h2, h3⟩
    cases x with
    | normal => exact ⟨V', A', h1, h2, h3⟩
    | ret => exact ⟨V', A', h1, h2, h3⟩
    | exit i =>
      simp only [blockQ]
      simp only [cond_eq_ite, Nat.beq_eq] at h3
      by_cases hi : i = id
      · rw [if_pos hi] at h3 ⊢; exact ⟨V', A', h1, h2, h3⟩
      · rw [if_neg hi] at h3 ⊢; exact ⟨V', A', h1, h2, h3⟩
  | loop J c ih =>
    intro V A st k hok hR h
    simp only [VCode.ok, Bool.and_eq_true] at hok
    obtain ⟨I, ⟨n, h1⟩, h2⟩ := h
    refine wc_loop (fun (n : Nat) st1 => ∃ V1 A1, R A1 V1 st1 ∧ Fr V A st.H st.nx V1 A1 st1.H st1.nx ∧ prJ J V1 (I n)) (fun n => n) ?_ n st ⟨V, A, hR, Fr.refl _ _ _ _, h1⟩
    rintro m st1 ⟨V1, A1, g1, g2, g3⟩
    obtain ⟨Vc, A2, p1, p2, p3⟩ := meet_sim g1 hok.1 g3 (h2 m)
    refine wc_mono (ih Vc A2 st1 _ hok.2 p2 p1) ?_
    rintro x st2 ⟨V2, A3, q1, q2, q3⟩
    have hfr := g2.trans (p3.trans q2)
    cases x with
    | normal => obtain ⟨m', hm, q3⟩ := q3; exact ⟨m', hm, V2, A3, q1, hfr, q3⟩
    | exit i => exact ⟨V2, A3, q1, hfr, q3⟩
    | ret => exact ⟨V2, A3, q1, hfr, q3⟩
  | join J c ih =>
    intro V A st k hok hR h
    simp only [VCode.ok, Bool.and_eq_true] at hok
    obtain ⟨I, h1, h2⟩ := h
    refine wc_mono (ih V A st _ hok.2 hR h1) ?_
    rintro x st' ⟨V', A', g1, g2, g3⟩
    cases x with
    | normal =>
      obtain ⟨Vc, A2, p1, p2, p3⟩ := meet_sim g1 hok.1 g3 h2
      exact ⟨Vc, A2, p2, g2.trans p3, p1⟩
    | exit i => exact ⟨V', A', g1, g2, g3⟩
    | ret => exact ⟨V', A', g1, g2, g3⟩

/-! ### Functions -/
theorem init_sim {A : Tok} {H : Heap} {nx : Nat} : ∀ (ts : List TV) (as : List AV) (i : Nat) (V : VSt) (e : Env), CanL ts as → R A V ⟨e, H, nx⟩ → R A (initV ts i V) ⟨initE as i e, H, nx⟩
  | [], as, i, V, e, hc, hR => by
    have : as = [] := List.length_eq_zero_iff.1 hc.1.symm
    subst this; exact hR
  | t :: ts, [], i, V, e, hc, hR => by cases hc.1
  | t :: ts, a :: as, i, V, e, hc, hR => by
    refine init_sim ts as (i + 1) _ _ ⟨Nat.succ.inj hc.1, fun j u x hu hx => hc.2 (j + 1) u x hu hx⟩ ?_
    exact hR.put (e := ⟨none, .tr t⟩) (v := a) (fun _ => .tr (hc.2 0 t a rfl rfl))
theorem resOne_sim {A : Tok} {V : VSt} {st : St} (hR : R A V st) {r : ARes} {k : TV → Prop} (h : resOneK V r k) (d : Nat) : ∃ v t a, resOne st.env st.H r = some v ∧ toImm (d + 3) st.H v = some a ∧ Can t a ∧ k t := by
  cases r with
  | tmp t =>
    simp only [resOneK] at h
    obtain ⟨w, hw, h⟩ := rdK_sim (g := none) hR trivial h
    obtain ⟨t', a, h1, h2, h3, h4⟩ := toT_sim hR hw h d
    exact ⟨_, t', a, rfl, h1, h2, h4⟩
  | cell t sz =>
    simp only [resOneK] at h
    obtain ⟨w, hw, h⟩ := rdK_sim (g := none) hR trivial h
    generalize he : ev st.env (.t t) = p at hw
    cases hw with
    | @ptr O off id hO =>
      simp only at h
      split at h
      rotate_left
      · cases h
      rename_i v ovs ho
      obtain ⟨y, hy, id', cs, ts, rfl, hH, hc⟩ := hR.heap O _ ho
      rw [hO] at hy; cases hy
      have fin : ∀ {l : List AV} {v' t' a : _}, cut cs off (loadA sz) = some l → mkv sz l = some v' → toImm (d + 3) st.H v' = some a → Can t' a → k t' → ∃ v t_1 a, resOne st.env st.H (.cell t sz) = some v ∧ toImm (d + 3) st.H v = some a ∧ Can t_1 a ∧ k t_1 := by
        intro l v' t' a h1 h2 h3 h4 h5
        refine ⟨v', t', a, ?_, h3, h4, h5⟩
        simp only [resOne, he, fetch, hH, cond_eq_ite, Nat.beq_eq, if_pos, h1]
        exact h2
      split at h
      · split at h
        · rename_i w hw
          have hlt := hc.keys _ _ hw
          have hx : cs[off]? = some (cs[off]'(by rw [← hc.len]; exact hlt)) := List.getElem?_eq_getElem _
          have hs := hc.at_ off _ _ (List.getElem?_eq_getElem hlt) hx
          rw [hw] at hs
          obtain ⟨es, a', g1, g2, g3, g4, g5⟩ := slOf_sim hR hs h (d + 1)
          exact fin (cell_cut hx) rfl g1 g2 g5
        · rename_i ho'
          obtain ⟨u, h1, h2⟩ := h
          obtain ⟨x, h3, h4, h5⟩ := cells_ld hc h1 ho'
          exact fin h3 rfl (imm_flat h5 _ _) h4 h2
      · rename_i n
        obtain ⟨u, h1, h2⟩ := h
        obtain ⟨l, ls, h3, h4, h5⟩ := cells_sub hc h1
        obtain ⟨u', us, cs', g1, g2, g3, g4, g5, g6⟩ := cells_imm hR h5 h2 d
        obtain ⟨l', rfl⟩ := g5 _ h4
        cases g2
        exact fin h3 rfl (by rw [toImm_agg, g1]) (.a _ _ g3.1.1 g3.2 g3.1.2) g4
    | _ => cases h
theorem resK_sim {A : Tok} {V : VSt} {st : St} (hR : R A V st) (d : Nat) : ∀ (rs : List ARes) (k : List TV → Prop), resK V rs k → ∃ vs ts as, mapO (resOne st.env st.H) rs = some vs ∧ mapO (toImm (d + 3) st.H) vs = some as ∧ CanL ts as ∧ k ts
  | [], k, h => ⟨[], [], [], rfl, rfl, ⟨rfl, fun j t x ht => by simp at ht⟩, h⟩
  | r :: rs, k, h => by
    obtain ⟨v, t, a, h1, h2, h3, h4⟩ := resOne_sim hR h d
    obtain ⟨vs, ts, as, g1, g2, g3, g4⟩ := resK_sim hR d rs _ h4
    refine ⟨v :: vs, t :: ts, a :: as, by rw [mapO_cons, h1, g1], by rw [mapO_cons, h2, g2], ⟨by simp [g3.1], fun j u x hu hx => ?_⟩, g4⟩
    cases j with
    | zero => simp at hu hx; subst hu; subst hx; exact h3
    | succ j => exact g3.2 j u x (by simpa using hu) (by simpa using hx)
theorem noTps_mem : ∀ {ts : List TV}, noTps ts → ∀ t ∈ ts, t.isTp = false
  | [], _, t, ht => by cases ht
  | x :: ts, h, t, ht => by
    rcases List.mem_cons.1 ht with rfl | ht
    · exact h.1
    · exact noTps_mem h.2 t ht
theorem can_plain1 {t : TV} {a : AV} (h : Can t a) (ht : t.isTp = false) : a.plain1 = true := by
  cases h with
  | a ts as hl hf h => exact allB_true.2 hf
  | tp ts as hl hf h => cases ht
  | _ => rfl
/-- WHAT A FUNCTION ANSWERS. -/
theorem vs_of {f : Nat} {af : AFunc} {vc : VCode} {ts : List TV} {Q : TV → Prop} (hf : prog.get f = some af) (hc : vc.code = af.body) (hok : vc.ok = true) (hl : ts.length = af.params) (hsh : sh.vs = VSh prog) (h : evFn sh prog af vc ts Q) : VS prog f ts Q := by
  intro as ha
  have h0 : R (fun _ => none) V0 ⟨.leaf, .leaf, 0⟩ := ⟨fun t e he => (by cases he), fun O o ho => (by cases ho), fun O O' o o' a a' id ho => (by cases ho), fun _ _ => rfl, fun O a ha => (by cases ha), fun id o ho => (by cases ho)⟩
  have hR := init_sim ts as 0 V0 .leaf ha h0
  have hw := evK_sim hsh (nt := af.nt) vc _ _ _ _ hok hR h
  rw [hc] at hw
  obtain ⟨⟨v, H', nx'⟩, h1, h2⟩ := fn_of_body (r := fun p => ∃ a, toImm deep p.2.1 p.1 = some a ∧ ∃ r, Can r a ∧ Q r) hf (by rw [← ha.1]; exact hl) (wc_mono hw (by
    rintro x st' ⟨V', A', g1, g2, g3, g4⟩
    refine ⟨(by cases x <;> first | exact .inl rfl | exact .inr rfl | cases g3), ?_⟩
    obtain ⟨vs, rs, as', p1, p2, p3, p4, p5⟩ := resK_sim g1 26 af.res _ g4
    have many : vs.length ≠ 1 → ∃ v, resA af.res st' = some v ∧ ∃ a, toImm deep v.2.1 v.1 = some a ∧ ∃ r, Can r a ∧ Q r := by
      intro hne
      have hl1 := (mapO_some p2).1
      have hlr : rs.length = vs.length := by rw [p3.1, hl1]
      have e1 : resA af.res st' = some (.tup vs, st'.H, st'.nx) := by
        unfold resA
        rw [p1]
        match vs, hne with
        | [], _ => rfl
        | [_], h => exact absurd rfl h
        | _ :: _ :: _, _ => rfl
      have e2 : tupT rs = .tp rs := by
        match rs, hlr with
        | [], _ => rfl
        | [_], h => exact absurd h.symm hne
        | _ :: _ :: _, _ => rfl
      have e3 : noTps rs := by
        match rs, hlr, p4 with
        | [], _, _ => trivial
        | [_], h, _ => exact absurd h.symm hne
        | _ :: _ :: _, _, h => exact h
      refine ⟨_, e1, .tup as', ?_, _, ?_, by rw [e2] at p5; exact p5⟩
      · show toImm (29 + 1) _ _ = _
        rw [toImm_tup]
        have p2' : mapO (toImm 29 st'.H) vs = some as' := p2
        rw [p2']
      · refine .tp _ _ p3.1 (fun x hx => ?_) p3.2
        obtain ⟨j, hj⟩ := List.getElem?_of_mem hx
        have hlt : j < rs.length := by rw [p3.1]; exact (List.getElem?_eq_some_iff.1 hj).1
        exact can_plain1 (p3.2 j _ x (List.getElem?_eq_getElem hlt) hj) (noTps_mem e3 _ (List.getElem_mem hlt))
    by_cases hv : vs.length = 1
    · obtain ⟨vs', rs', as2, q1, q2, q3, q5⟩ := resK_sim g1 27 af.res _ g4
      rw [p1] at q1; cases q1
      obtain ⟨v, rfl⟩ := List.length_eq_one_iff.1 hv
      have hl1 := (mapO_some q2).1
      obtain ⟨a, rfl⟩ := List.length_eq_one_iff.1 hl1.symm
      obtain ⟨r, rfl⟩ := List.length_eq_one_iff.1 (show rs'.length = 1 by rw [q3.1]; rfl)
      refine ⟨(v, st'.H, st'.nx), by unfold resA; rw [p1], a, ?_, r, q3.2 0 r a rfl rfl, q5.2⟩
      rw [mapO_cons] at q2
      show toImm (27 + 3) st'.H v = some a
      cases hh : toImm (27 + 3) st'.H v with
      | none => rw [hh] at q2; cases q2
      | some y => rw [hh] at q2; cases q2; rfl
    · exact many hv))
  exact ⟨v, H', nx', h1, h2⟩
end
end Go.Ax.V

/- Functions that are given objects. -/
set_option linter.unusedSimpArgs false
set_option linter.unusedVariables false
namespace Go.Ax.V

/-! ### Temporaries that code does not write -/
def dOk (p : Nat → Bool) (d : Option Nat) : Bool := match d with
  | some d => !p d
  | none => true
def dstOk (p : Nat → Bool) (o : AOper) : Bool := dOk p o.dst
noncomputable def opsOk (p : Nat → Bool) (l : List AOper) : Bool := allB (dstOk p) l
noncomputable def noWB (p : Nat → Bool) (c : ACode) : Bool :=
  ACode.rec (motive := fun _ => Bool) true (fun ops => opsOk p ops) (fun ops _ _ => opsOk p ops) (fun _ _ a b => a && b) (fun _ _ _ a b => a && b) (fun _ _ a => a) (fun _ a => a) (fun _ => true) true c
def SameE (p : Nat → Bool) (e e' : Env) : Prop := ∀ t, p t = true → e'.get t = e.get t
theorem SameE.refl (p : Nat → Bool) (e : Env) : SameE p e e := fun _ _ => rfl
theorem SameE.trans {p : Nat → Bool} {a b c : Env} (h : SameE p a b) (h' : SameE p b c) : SameE p a c := fun t ht => (h' t ht).trans (h t ht)
section
variable {prog : Map AFunc} {cf : FnF} {nt np : Nat} {p : Nat → Bool}
theorem putD_same {e e' : Env} {d : Option Nat} {v : AV} (h : putD nt e d v = some e') (hd : dOk p d = true) : SameE p e e' := by
  cases d with
  | none => cases h; exact SameE.refl _ _
  | some d =>
    simp only [putD, cond_eq_ite] at h
    split at h
    · cases h
      intro t ht
      have hd' : p d = false := by simpa [dOk] using hd
      rw [Map.get_put, if_neg]
      rintro rfl; rw [hd'] at ht; cases ht
    · cases h
theorem runOp_same {o : AOper} {st st' : St} (ho : dstOk p o = true) (h : runOp cf nt o st = some st') : SameE p st.env st'.env := by
  simp only [runOp, cond_eq_ite] at h
  split at h
  · split at h
    · cases h
    · split at h
      · rename_i e he; cases h; exact putD_same he ho
      · cases h
  · split at h
    · rename_i e he; cases h; exact putD_same he ho
    · cases h
theorem runOps_same : ∀ {l : List AOper} {st st' : St}, opsOk p l = true → runOps cf nt l st = some st' → SameE p st.env st'.env
  | [], st, st', ho, h => by cases h; exact SameE.refl _ _
  | o :: l, st, st', ho, h => by
    have ho' := allB_true.1 ho
    rw [runOps_cons] at h
    split at h
    · rename_i st1 h1
      exact (runOp_same (ho' o List.mem_cons_self) h1).trans (runOps_same (allB_true.2 fun x hx => ho' x (List.mem_cons_of_mem _ hx)) h)
    · cases h
theorem runDOps_same {n0 : Nat} : ∀ {l : List AOper} {st st' : St} {rs : List Rec}, opsOk p l = true → runDOps cf nt n0 l st = some (st', rs) → SameE p st.env st'.env
  | [], st, st', rs, ho, h => by cases h; exact SameE.refl _ _
  | o :: l, st, st', rs, ho, h => by
    have ho' := allB_true.1 ho
    have h0 := ho' o List.mem_cons_self
    simp only [runDOps] at h
    split at h
    · cases h
    rename_i st1 r h1
    split at h
    · cases h
    rename_i st2 l2 h2
    cases h
    refine SameE.trans ?_ (runDOps_same (allB_true.2 fun x hx => ho' x (List.mem_cons_of_mem _ hx)) h2)
    simp only [effStep, cond_eq_ite] at h1
    split at h1
    · split at h1
      · cases h1
      · split at h1
        · cases h1
        · rename_i e he; cases h1; exact putD_same he h0
    · split at h1
      · cases h1
      · rename_i e he; cases h1; exact putD_same he h0
theorem interp_same : ∀ (k : Nat) (c : ACode) (st : St) (x : AExit) (st' : St), noWB p c = true → (interp prog k).code nt c st = some (x, st') → SameE p st.env st'.env
  | 0, c, st, x, st', hc, h => by cases h
  | k + 1, c, st, x, st', hc, h => by
    have h' : codeStep (interp prog k).code (interp prog k).fn nt c st = some (x, st') := h
    cases c with
    | skip => cases h'; exact SameE.refl _ _
    | exit id => cases h'; exact SameE.refl _ _
    | ret => cases h'; exact SameE.refl _ _
    | reg ops =>
      simp only [codeStep] at h'
      split at h'
      · rename_i st1 h1; cases h'; exact runOps_same hc h1
      · cases h'
    | dreg ops ahead pairs =>
      simp only [codeStep] at h'
      split at h'
      · rename_i st1 h1
        cases h'
        simp only [runDreg] at h1
        split at h1
        · cases h1
        · rename_i st2 rs h2
          rw [cond_eq_ite] at h1
          split at h1
          · cases h1; exact runDOps_same hc h2
          · cases h1
      · cases h'
    | seq a b =>
      have hab : noWB p a = true ∧ noWB p b = true := by have : (noWB p a && noWB p b) = true := hc; simpa using this
      simp only [codeStep] at h'
      split at h'
      · rename_i st1 h1
        exact (interp_same k a _ _ _ hab.1 h1).trans (interp_same k b _ _ _ hab.2 h')
      · exact interp_same k a _ _ _ hab.1 h'
    | cond c a b =>
      have hab : noWB p a = true ∧ noWB p b = true := by have : (noWB p a && noWB p b) = true := hc; simpa using this
      simp only [codeStep] at h'
      split at h'
      · exact interp_same k a _ _ _ hab.1 h'
      · exact interp_same k b _ _ _ hab.2 h'
      · cases h'
    | block id c =>
      have hcc : noWB p c = true := hc
      simp only [codeStep] at h'
      split at h'
      · rename_i i st1 h1
        have := interp_same k c _ _ _ hcc h1
        rw [cond_eq_ite] at h'
        split at h' <;> (cases h'; exact this)
      · exact interp_same k c _ _ _ hcc h'
    | loop c =>
      have hcc : noWB p c = true := hc
      simp only [codeStep] at h'
      split at h'
      · rename_i st1 h1
        exact (interp_same k c _ _ _ hcc h1).trans (interp_same k (.loop c) _ _ _ hc h')
      · exact interp_same k c _ _ _ hcc h'
theorem runCode_same {c : ACode} {st : St} {x : AExit} {st' : St} (hc : noWB p c = true) (h : runCode prog nt c st = some (x, st')) : SameE p st.env st'.env := by
  obtain ⟨k, hk⟩ := runCode_ev prog nt c st _ h
  exact interp_same k c st x st' hc (hk k (Nat.le_refl _))

/-! ### Results -/
/-- what the caller sees: the parameters, the result behind them -/
noncomputable def outV (V : VSt) (p : Nat → Bool) (np : Nat) (w : VV) : VSt := { V with env := (V.env.upto p).put (some ⟨none, w⟩) np }
/-- the parameters that the caller hears of -/
def kept (ks : List PK) (t : Nat) : Bool := match ks[t]? with
  | some .tr => false
  | some _ => true
  | none => false
def resT1 (V : VSt) (r : ARes) (k : TV → Prop) : Prop := match r with
  | .tmp t => rdT V none (.t t) k
  | .cell t sz => rdK V none (.t t) fun w => match w with
    | .ptr O off => (match V.H.get O with
      | some (.ob v ovs) => match sz with
        | none => (match ovAt off ovs with
          | some _ => False
          | none => ∃ u, cellT v off = some u ∧ k u)
        | some n => (match ovSub off n ovs with
          | [] => ∃ u, subT v off n = some u ∧ k u
          | _ :: _ => False)
      | _ => False)
    | _ => False
def resTs (V : VSt) : List ARes → (List TV → Prop) → Prop
  | [], k => k []
  | r :: rs, k => resT1 V r fun v => resTs V rs fun vs => k (v :: vs)
def resS (V : VSt) (p : Nat → Bool) (np : Nat) (rs : List ARes) (k : VSt → Prop) : Prop := match rs with
  | [.tmp t] => rdK V none (.t t) fun w => k (outV V p np w)
  | [.cell t sz] => resT1 V (.cell t sz) fun v => k (outV V p np (.tr v))
  | rs => resTs V rs fun vs => noTps vs ∧ k (outV V p np (.tr (.tp vs)))
/-- what a function that is given objects asks -/
def evFnS (sh : Sh) (prog : Map AFunc) (af : AFunc) (vc : VCode) (p : Nat → Bool) (np : Nat) (Jout : List Ent) (Q : JT Jout Prop) (Vc : VSt) : Prop :=
  evK sh prog af.nt vc Vc fun x V => (match x with | .exit _ => False | _ => True) ∧ resS V p np af.res fun V' => prJ Jout V' Q

theorem r_out {A : Tok} {V : VSt} {st : St} (hR : R A V st) {as : List AV} {p : Nat → Bool} {np : Nat} (hl : as.length = np) (hs : SameE p (initE as 0 .leaf) st.env) {w : VV} {v : AV} (hw : VR A w v) : R A (outV V p np w) ⟨(initE as 0 .leaf).put (some v) np, st.H, st.nx⟩ := by
  refine ⟨fun t e he => ?_, hR.heap, hR.inj, hR.used, hR.one, hR.fresh⟩
  have he' : ((V.env.upto p).put (some ⟨none, w⟩) np).get t = some e := he
  rw [Map.get_put] at he'
  split at he'
  · rename_i ht
    cases he'
    exact ⟨v, by show ((initE as 0 .leaf).put (some v) np).get t = _; rw [Map.get_put, if_pos ht], fun _ => hw⟩
  · rename_i hne
    rw [Map.get_upto] at he'
    split at he'
    · rename_i hlt
      obtain ⟨a, ha, hv⟩ := hR.env t e he'
      exact ⟨a, by show ((initE as 0 .leaf).put (some v) np).get t = _; rw [Map.get_put, if_neg hne, ← hs t hlt]; exact ha, hv⟩
    · cases he'
theorem resT1_sim {A : Tok} {V : VSt} {st : St} (hR : R A V st) {r : ARes} {k : TV → Prop} (h : resT1 V r k) : ∃ v t, resOne st.env st.H r = some v ∧ Can t v ∧ k t := by
  cases r with
  | tmp t =>
    obtain ⟨u, h1, h2⟩ := rdT_sim (g := none) hR trivial h
    exact ⟨_, u, rfl, h1, h2⟩
  | cell t sz =>
    simp only [resT1] at h
    obtain ⟨w, hw, h⟩ := rdK_sim (g := none) hR trivial h
    generalize he : ev st.env (.t t) = p at hw
    cases hw with
    | @ptr O off id hO =>
      simp only at h
      split at h
      rotate_left
      · cases h
      rename_i v ovs ho
      obtain ⟨y, hy, id', cs, ts, rfl, hH, hc⟩ := hR.heap O _ ho
      rw [hO] at hy; cases hy
      have fin : ∀ {l : List AV} {v' : AV} {t' : TV}, cut cs off (loadA sz) = some l → mkv sz l = some v' → Can t' v' → k t' → ∃ v t_1, resOne st.env st.H (.cell t sz) = some v ∧ Can t_1 v ∧ k t_1 := by
        intro l v' t' h1 h2 h3 h4
        refine ⟨v', t', ?_, h3, h4⟩
        simp only [resOne, he, fetch, hH, cond_eq_ite, Nat.beq_eq, if_pos, h1]
        exact h2
      split at h
      · split at h
        · cases h
        · rename_i ho'
          obtain ⟨u, h1, h2⟩ := h
          obtain ⟨x, h3, h4, _⟩ := cells_ld hc h1 ho'
          exact fin h3 rfl h4 h2
      · split at h
        · rename_i ho'
          obtain ⟨u, h1, h2⟩ := h
          obtain ⟨l, ls, h3, h4, h5⟩ := cells_sub hc h1
          rw [ho'] at h5
          exact fin h3 rfl (sub_tree h5 h4) h2
        · cases h
    | _ => cases h
theorem resTs_sim {A : Tok} {V : VSt} {st : St} (hR : R A V st) : ∀ (rs : List ARes) (k : List TV → Prop), resTs V rs k → ∃ vs ts, mapO (resOne st.env st.H) rs = some vs ∧ CanL ts vs ∧ k ts
  | [], k, h => ⟨[], [], rfl, ⟨rfl, fun j t x ht => by simp at ht⟩, h⟩
  | r :: rs, k, h => by
    obtain ⟨v, t, h1, h2, h3⟩ := resT1_sim hR h
    obtain ⟨vs, ts, g1, g2, g3⟩ := resTs_sim hR rs _ h3
    refine ⟨v :: vs, t :: ts, by rw [mapO_cons, h1, g1], ⟨by simp [g2.1], fun j u x hu hx => ?_⟩, g3⟩
    cases j with
    | zero => simp at hu hx; subst hu; subst hx; exact h2
    | succ j => exact g2.2 j u x (by simpa using hu) (by simpa using hx)
theorem resS_sim {A : Tok} {V : VSt} {st : St} (hR : R A V st) {rs : List ARes} {k : VSt → Prop} (h : resS V p np rs k) : ∃ v w, resA rs st = some (v, st.H, st.nx) ∧ VR A w v ∧ k (outV V p np w) := by
  have many : rs.length ≠ 1 → (resTs V rs fun vs => noTps vs ∧ k (outV V p np (.tr (.tp vs)))) → ∃ v w, resA rs st = some (v, st.H, st.nx) ∧ VR A w v ∧ k (outV V p np w) := by
    intro hne h
    obtain ⟨vs, ts, h1, h2, h3, h4⟩ := resTs_sim hR rs _ h
    have hl := (mapO_some h1).1
    refine ⟨.tup vs, .tr (.tp ts), ?_, .tr (.tp _ _ h2.1 (fun x hx => ?_) h2.2), h4⟩
    · unfold resA
      rw [h1]
      match vs, (show vs.length ≠ 1 by omega) with
      | [], _ => rfl
      | [_], hh => exact absurd rfl hh
      | _ :: _ :: _, _ => rfl
    · obtain ⟨j, hj⟩ := List.getElem?_of_mem hx
      have hlt : j < ts.length := by rw [h2.1]; exact (List.getElem?_eq_some_iff.1 hj).1
      exact can_plain1 (h2.2 j _ x (List.getElem?_eq_getElem hlt) hj) (noTps_mem h3 _ (List.getElem_mem hlt))
  match rs, h, many with
  | [], h, many => exact many (by simp) h
  | [.tmp t], h, many =>
    simp only [resS] at h
    obtain ⟨w, hw, h⟩ := rdK_sim (g := none) hR trivial h
    exact ⟨_, w, rfl, hw, h⟩
  | [.cell t sz], h, many =>
    simp only [resS] at h
    obtain ⟨v, u, h1, h2, h3⟩ := resT1_sim hR h
    exact ⟨v, .tr u, by unfold resA; rw [mapO_cons, h1]; rfl, .tr h2, h3⟩
  | r1 :: _ :: _, h, many => exact many (by simp) (by cases r1 <;> exact h)
/-- WHAT A CALL OF SUCH A FUNCTION DOES. -/
theorem vsh_of {sh : Sh} {f : Nat} {af : AFunc} {vc : VCode} {Jout : List Ent} {Q : JT Jout Prop} {Vc : VSt} (hf : prog.get f = some af) (hc : vc.code = af.body) (hok : vc.ok = true) (hp : af.params = np) (hnw : noWB p af.body = true) (hsh : sh.vs = VSh prog)
    (h : evFnS sh prog af vc p np Jout Q Vc) : CallOk prog f np Jout Q Vc := by
  intro A as H nx hl hR
  obtain ⟨x, st', h1, V', A', h2, h3, h4, h5⟩ := evK_sim hsh (nt := af.nt) vc Vc A ⟨initE as 0 .leaf, H, nx⟩ _ hok hR h
  have h1' := evC_run prog af.nt _ _ _ h1
  rw [hc] at h1'
  have hsame := runCode_same hnw h1'
  obtain ⟨v, w, g1, g2, g3⟩ := resS_sim h2 h5
  refine ⟨v, st'.H, st'.nx, A', _, run_fn ?_, r_out h2 hl hsame g2, g3, ⟨h3.le, h3.same, fun id ⟨O, o, a, ho, ha, hi⟩ => h3.own id ⟨O, o, a, ho, ha, hi⟩⟩⟩
  have hl' : as.length = af.params := by rw [hl, hp]
  simp only [fnStep, hf, cond_eq_ite, Nat.beq_eq, if_pos hl', h1']
  cases x with
  | exit i => cases h4
  | normal => exact g1
  | ret => exact g1
end
end Go.Ax.V

/- Calls that ask nothing; from values to a statement. -/
set_option linter.unusedSimpArgs false
set_option linter.unusedVariables false
namespace Go.Ax.V

theorem interp_run (prog : Map AFunc) : ∀ k, FnEv (fun _ => runFn prog) (interp prog k).fn ∧ CodeEv (fun _ => runCode prog) (interp prog k).code
  | 0 => ⟨fun f args H nx r h => (by cases h), fun nt c st r h => (by cases h)⟩
  | k + 1 => by
    obtain ⟨h1, h2⟩ := interp_run prog k
    constructor
    · intro f args H nx r h
      obtain ⟨k0, hk⟩ := fnStep_ev (prog := prog) h2 f args H nx r h
      exact Ev.const (run_fn (hk k0 (Nat.le_refl _)))
    · intro nt c st r h
      obtain ⟨k0, hk⟩ := codeStep_ev h1 h2 nt c st r h
      exact Ev.const (run_code (hk k0 (Nat.le_refl _)))
theorem run_of_interp {prog : Map AFunc} {k f : Nat} {args : List AV} {H : Heap} {nx : Nat} {r : AV × Heap × Nat} (h : (interp prog k).fn f args H nx = some r) : runFn prog f args H nx = some r := by
  obtain ⟨k0, hk⟩ := (interp_run prog k).1 f args H nx r h
  exact hk k0 (Nat.le_refl _)
/-- a call that asks nothing, carried out by the kernel -/
theorem vs_closed {prog : Map AFunc} {k f : Nat} (h : isTrue ((interp prog k).fn f [] .leaf 0) = true) : VS prog f [] (fun r => r = .b true) := by
  intro as ha
  have : as = [] := List.length_eq_zero_iff.1 ha.1.symm
  subst this
  obtain ⟨H, nx, hr⟩ := isTrue_some h
  exact ⟨_, H, nx, run_of_interp hr, _, rfl, _, .b true, rfl⟩
theorem vs_true {prog : Map AFunc} {f : Nat} {ts : List TV} {as : List AV} (h : VS prog f ts (fun r => r = .b true)) (ha : CanL ts as) : isTrue (runFn prog f as .leaf 0) = true := by
  obtain ⟨v, H, nx, h1, a, h2, r, h3, rfl⟩ := h as ha
  cases h3
  have := imm_back (d := 29) h2 (fun _ _ _ h => by cases h) (fun _ h => by cases h) (fun _ h => by cases h)
  subst this
  rw [h1]
  rfl
theorem canL_nil : CanL [] [] := ⟨rfl, fun j t x ht => by simp at ht⟩
theorem canL_cons {t : TV} {x : AV} {ts : List TV} {as : List AV} (h : Can t x) (hs : CanL ts as) : CanL (t :: ts) (x :: as) := by
  refine ⟨by simp [hs.1], fun j u y hu hy => ?_⟩
  cases j with
  | zero => simp at hu hy; subst hu; subst hy; exact h
  | succ j => exact hs.2 j u y (by simpa using hu) (by simpa using hy)

/-! numbers -/
theorem wrap_id {n : Int} (h1 : -9223372036854775808 ≤ n) (h2 : n < 9223372036854775808) : wrapA .i64 n = n := by
  unfold wrapA
  have : inR .i64 n = true := by
    cases n with
    | ofNat m => have h2' : (m : Int) < 9223372036854775808 := h2; simp only [inR]; simp; omega
    | negSucc m => simp only [inR]; simp; omega
  rw [this]; rfl
end Go.Ax.V

/- Steps of a plain proof over what functions ask. -/
set_option linter.unusedSimpArgs false
set_option linter.unusedVariables false
namespace Go.Ax.V

theorem condK_t {t : Bool} {a b : Prop} (h : t = true) (ha : a) : condK (.b t) a b := by subst h; exact ha
theorem condK_f {t : Bool} {a b : Prop} (h : t = false) (hb : b) : condK (.b t) a b := by subst h; exact hb
theorem condK_by {t : Bool} {a b : Prop} (ha : t = true → a) (hb : t = false → b) : condK (.b t) a b := by
  cases t with
  | true => exact ha rfl
  | false => exact hb rfl
theorem fin1 {Q : TV → Prop} {v : TV} (h : Q v) : True ∧ tupOk [v] ∧ Q v := ⟨trivial, trivial, h⟩
theorem fin2 {Q : TV → Prop} {a b : TV} (ha : a.isTp = false) (hb : b.isTp = false) (h : Q (.tp [a, b])) : True ∧ tupOk [a, b] ∧ Q (.tp [a, b]) := ⟨trivial, ⟨ha, hb, trivial⟩, h⟩
theorem tup2 {a b : TV} (ha : a.isTp = false) (hb : b.isTp = false) : tupOk [a, b] := ⟨ha, hb, trivial⟩
theorem vs_eq {prog : Map AFunc} {f : Nat} {ts : List TV} {c : TV} {K : TV → Prop} (h : VS prog f ts (fun r => r = c)) (hk : K c) : VS prog f ts (fun r => scOk true r ∧ K r) :=
  h.mono (fun r hr => by subst hr; exact ⟨trivial, hk⟩)
/-- an operation under a guard that holds, or not -/
theorem gV_t {t bb : Bool} {P : TV → Prop} {k : TV → Prop} {v : TV} (ht : t = bb) (hp : P v) (hk : k v) : ∃ v, gV (.b t) bb P v ∧ k v := by
  subst ht
  refine ⟨v, ?_, hk⟩
  unfold gV
  cases t <;> exact hp
theorem gV_f {t bb : Bool} {P : TV → Prop} {k : TV → Prop} (ht : t = !bb) (hk : k noT) : ∃ v, gV (.b t) bb P v ∧ k v := by
  subst ht
  refine ⟨noT, ?_, hk⟩
  unfold gV
  cases bb <;> rfl
theorem gV_n {bb : Bool} {P : TV → Prop} {k : TV → Prop} (hk : k noT) : ∃ v, gV noT bb P v ∧ k v := ⟨noT, rfl, hk⟩
end Go.Ax.V
