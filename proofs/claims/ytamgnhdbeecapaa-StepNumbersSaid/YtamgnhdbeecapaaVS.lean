/- Calls that are given objects. -/
import Derived.Test.YtamgnhdbeecapaaV12
set_option linter.unusedSimpArgs false
set_option linter.unusedVariables false
namespace Go.Ax.V

/-- a call goes as told: from a state that knows but its own -/
def CallOk (prog : Map AFunc) (f np : Nat) (Jout : List Ent) (Q : JT Jout Prop) (Vc : VSt) : Prop :=
  ∀ (A : Tok) (as : List AV) (H : Heap) (nx : Nat), as.length = np → R A Vc ⟨initE as 0 .leaf, H, nx⟩ →
    ∃ v H' nx' A' V', runFn prog f as H nx = some (v, H', nx') ∧ R A' V' ⟨(initE as 0 .leaf).put (some v) np, H', nx'⟩ ∧ prJ Jout V' Q ∧ Fr Vc A H nx V' A' H' nx'
noncomputable def VSh (prog : Map AFunc) (f np : Nat) (Jin Jout : List Ent) (Q : JT Jout Prop) : JT Jin Prop := mkJ Jin V0 (CallOk prog f np Jout Q)

theorem memB_iff' {n : Nat} : ∀ {l : List Nat}, memB n l = true ↔ n ∈ l
  | [] => by simp [memB]
  | m :: l => by simp [memB, memB_iff' (l := l)]
theorem free_none {us : Map Unit} {O : Nat} (h : freeB us O = true) : us.get O = none := by
  unfold freeB at h
  split at h
  · cases h
  · assumption
theorem nameK_of {V : VSt} {O : Nat} {o : VO} {k : VSt → Prop} (hf : freeB V.us O = true) (h : k (nameV V O o)) : nameK V O o k := by
  have hn := free_none hf
  unfold nameK
  rw [hn]
  exact h
/-- what has a name stays as it was -/
def Keep (V V' : VSt) : Prop := ∀ T, V.us.get T = some () → V'.us.get T = some () ∧ V'.H.get T = V.H.get T
theorem keep_name {V : VSt} {O : Nat} {o : VO} (hf : freeB V.us O = true) : Keep V (nameV V O o) := by
  intro T hT
  have hne : T ≠ O := by rintro rfl; rw [free_none hf] at hT; cases hT
  exact ⟨by simp only [nameV, Map.get_put, if_neg hne]; exact hT, by simp only [nameV, Map.get_put, if_neg hne]⟩
theorem Keep.trans {V V1 V2 : VSt} (h : Keep V V1) (h' : Keep V1 V2) : Keep V V2 := fun T hT => let ⟨a, b⟩ := h T hT; let ⟨c, d⟩ := h' T a; ⟨c, d.trans b⟩
theorem allL_mk {Rt : Type} {O : Nat} : ∀ (offs : List (Nat × Nat)) (V : VSt) (us : Map Unit) (k : VSt → Rt) (kk : Rt → VSt → Prop), okL O offs V.us = some us → (∀ V', V'.us = us → Keep V V' → kk (k V') V') → allL O offs V (mkL O offs V k) kk
  | [], V, us, k, kk, h, hk => by cases h; exact hk V rfl (fun T hT => ⟨hT, rfl⟩)
  | (off, sz) :: offs, V, us, k, kk, h, hk => by
    simp only [okL, cond_eq_ite] at h
    split at h
    · rename_i hf
      intro es
      refine nameK_of hf ?_
      exact allL_mk offs _ us k kk h (fun V' h1 h2 => hk V' h1 ((keep_name hf).trans h2))
    · cases h
theorem allJ_mk : ∀ (J : List Ent) (V : VSt) (obs : List Nat) (k : VSt → Prop), okN J V.us obs = true → (∀ O ∈ obs, V.us.get O = some () ∧ ∃ v ov, V.H.get O = some (.ob v ov)) → allJ J V (mkJ J V k) k
  | [], V, obs, k, h, ho => fun hk => hk
  | .tr t :: J, V, obs, k, h, ho => fun v => allJ_mk J (addE V t (.tr v)) obs k h ho
  | .sl t sz :: J, V, obs, k, h, ho => by
    simp only [okN, Bool.and_eq_true] at h
    intro es
    refine nameK_of h.1 ?_
    refine allJ_mk J _ obs k h.2 (fun O hO => ?_)
    obtain ⟨h1, v, ov, h2⟩ := ho O hO
    obtain ⟨h3, h4⟩ := keep_name (o := .gr sz es) h.1 O h1
    exact ⟨h3, v, ov, by rw [← h2]; exact h4⟩
  | .pt t O off :: J, V, obs, k, h, ho => by
    simp only [okN, Bool.and_eq_true] at h
    obtain ⟨h1, v, ov, h2⟩ := ho O (memB_iff'.1 h.1)
    simp only [allJ, h2]
    exact allJ_mk J (addE V t (.ptr O off)) obs k h.2 ho
  | .ob O offs :: J, V, obs, k, h, ho => by
    simp only [okN] at h
    split at h
    · rename_i us hus
      rw [Bool.and_eq_true] at h
      intro v
      refine allL_mk offs V us _ _ hus (fun V' hu hkp => ?_)
      have hf : freeB V'.us O = true := by rw [hu]; exact h.1
      refine nameK_of hf ?_
      refine allJ_mk J _ (O :: obs) k (by show okN J (V'.us.put (some ()) O) (O :: obs) = true; rw [hu]; exact h.2) (fun O' hO' => ?_)
      rcases List.mem_cons.1 hO' with rfl | hO'
      · exact ⟨by simp only [nameV, Map.get_put, if_pos], v, ovsOf O' offs, by simp only [nameV, Map.get_put, if_pos]⟩
      · obtain ⟨h1, v', ov, h2⟩ := ho O' hO'
        obtain ⟨h3, h4⟩ := (hkp.trans (keep_name (o := .ob v (ovsOf O offs)) hf)) O' h1
        exact ⟨h3, v', ov, by rw [← h2]; exact h4⟩
    · cases h

section
variable {prog : Map AFunc} {nt : Nat}

/-- a name's object is told anew, where it stands -/
theorem own_again {A : Tok} {V : VSt} {st : St} (hR : R A V st) {O : Nat} {o : VO} {a : AV} (hA : A O = some a) (hO : OR A st.H o a) (hid : ∀ id, idOf a = some id → ¬ Own V A id) :
    R A (setVO V O o) st ∧ ∀ id, Own (setVO V O o) A id → Own V A id ∨ idOf a = some id := by
  refine ⟨⟨hR.env, fun O' o' ho => ?_, fun O1 O2 o1 o2 a1 a2 id ho1 ho2 ha1 ha2 hi1 hi2 => ?_, hR.used, hR.one, hR.fresh⟩, fun id ⟨O', o', x, ho, hx, hi⟩ => ?_⟩
  · simp only [setVO, Map.get_put] at ho
    split at ho
    · rename_i e; subst e; cases ho; exact ⟨a, hA, hO⟩
    · exact hR.heap O' o' ho
  · simp only [setVO, Map.get_put] at ho1 ho2
    by_cases e1 : O1 = O
    · by_cases e2 : O2 = O
      · rw [e1, e2]
      · subst e1
        rw [if_neg e2] at ho2
        rw [hA] at ha1; cases ha1
        exact absurd ⟨O2, _, a2, ho2, ha2, hi2⟩ (hid id hi1)
    · rw [if_neg e1] at ho1
      by_cases e2 : O2 = O
      · subst e2
        rw [hA] at ha2; cases ha2
        exact absurd ⟨O1, _, a1, ho1, ha1, hi1⟩ (hid id hi2)
      · rw [if_neg e2] at ho2
        exact hR.inj O1 O2 _ _ a1 a2 id ho1 ho2 ha1 ha2 hi1 hi2
  · simp only [setVO, Map.get_put] at ho
    by_cases e : O' = O
    · subst e; rw [hA] at hx; cases hx; exact .inr hi
    · rw [if_neg e] at ho; exact .inl ⟨O', o', x, ho, hx, hi⟩

/-- the callee's state and the caller's, behind the call -/
structure Back (V2 : VSt) (A2 : Tok) (st2 : St) (Vr : VSt) (A : Tok) (st : St) : Prop where
  old : R A2 V2 st2
  new : R A Vr st
  H : st.H = st2.H
  nx : st.nx = st2.nx
  apart : ∀ id, Own V2 A2 id → ¬ Own Vr A id

theorem takeS_back {V2 Vr : VSt} {A2 A : Tok} {st2 st : St} (h : Back V2 A2 st2 Vr A st) {sz : Nat} {w : VV} {x : AV} (hw : SlV A2 w x) {k : List TV → VSt → Prop} (hk : takeS V2 sz w k) :
    ∃ es V', k es V' ∧ Sub V2 V' ∧ (0 < sz → SlR st.H sz es x) ∧ x.one = true ∧ (∀ id, idOf x = some id → Own V2 A2 id ∧ ¬ Own V' A2 id) := by
  obtain ⟨es, V', h1, _, h2, h3, h4, h5, _⟩ := takeS_sim (Vc := V0) (A0 := fun _ => none) (st := st2) ⟨h.old, h.old.zero, fun id _ ⟨O, o, a, ho, _⟩ => (by cases ho)⟩ hw hk
  exact ⟨es, V', h1, h2, by rw [h.H]; exact h3, h4, h5⟩

theorem takeL_back {Rt : Type} {d : Nat} {st2 st : St} {ovs : List (Nat × VV)} {cs : List AV} {A2 : Tok} (hsl : ∀ j w, ovAt j ovs = some w → ∃ x, cs[j]? = some x ∧ SlV A2 w x) : ∀ (offs : List (Nat × Nat)) (V2 Vr : VSt) (A : Tok) (us : Map Unit) (kc : VSt → Rt) (k : Rt → VSt → Prop),
    (∀ p ∈ offs, 0 < p.2) → Back V2 A2 st2 Vr A st → okLS d offs Vr.us = some us → takeL V2 ovs offs (conL d offs Vr kc) k →
    ∃ V2' Vr' A', k (kc Vr') V2' ∧ Back V2' A2 st2 Vr' A' st ∧ Sub V2 V2' ∧ Vr'.us = us ∧ (∀ O x, A O = some x → A' O = some x) ∧ (∀ id, Own Vr' A' id → Own Vr A id ∨ Own V2 A2 id) ∧ (∀ j, hasKey j offs = true → ∃ x, cs[j]? = some x ∧ A' (tokS d j) = some x)
  | [], V2, Vr, A, us, kc, k, hz, h, hus, hk => by
    cases hus
    exact ⟨V2, Vr, A, hk, h, Sub.refl V2, rfl, fun _ _ h => h, fun id h => .inl h, fun j hj => by cases hj⟩
  | (off, sz) :: offs, V2, Vr, A, us, kc, k, hz, h, hus, hk => by
    simp only [okLS, cond_eq_ite] at hus
    split at hus
    rotate_left
    · cases hus
    rename_i hf
    simp only [takeL] at hk
    split at hk
    rotate_left
    · cases hk
    rename_i w hw
    obtain ⟨x, hx, hs⟩ := hsl off w hw
    obtain ⟨es, V1, hk1, hs1, hsl1, hone, hid⟩ := takeS_back h hs hk
    obtain ⟨Vr1, A1, hV1, hR1, hA1, hAo, henv, hown, _, hback⟩ := name_sim (k := fun V' => V' = nameV Vr (tokS d off) (.gr sz es)) h.new (nameK_of hf rfl) (fun A' _ => hsl1 (hz (off, sz) List.mem_cons_self)) hone (fun id hi => h.apart id (hid id hi).1)
    subst hV1
    have hb : Back V1 A2 st2 (nameV Vr (tokS d off) (.gr sz es)) A1 st := ⟨hs1.r h.old, hR1, h.H, h.nx, fun id ho hc => (hown id hc).elim (fun hc => h.apart id (hs1.own ho) hc) (fun hi => (hid id hi).2 ho)⟩
    obtain ⟨V2', Vr', A', g1, g2, g3, g4, g5, g6, g7⟩ := takeL_back hsl offs V1 _ A1 us kc k (fun p hp => hz p (List.mem_cons_of_mem _ hp)) hb hus hk1
    refine ⟨V2', Vr', A', g1, g2, hs1.trans g3, g4, fun O y hy => g5 _ _ (hA1 _ _ hy), fun id ho => ?_, fun j hj => ?_⟩
    · rcases g6 id ho with ho | ho
      · rcases hown id ho with ho | hi
        · exact .inl ho
        · exact .inr (hid id hi).1
      · exact .inr (hs1.own ho)
    · simp only [hasKey, Bool.or_eq_true, Nat.beq_eq] at hj
      rcases hj with rfl | hj
      · exact ⟨x, hx, g5 _ _ hAo⟩
      · exact g7 j hj
theorem ovsS_at {d j : Nat} : ∀ {l : List (Nat × Nat)}, ovAt j (ovsS d l) = if hasKey j l = true then some (.sl (tokS d j)) else none
  | [] => by simp [ovsS, ovAt, hasKey]
  | (i, z) :: l => by
    simp only [ovsS, ovAt_cons, ovsS_at (l := l), hasKey, Bool.or_eq_true, Nat.beq_eq]
    by_cases e : i = j
    · subst e; simp
    · rw [if_neg e]
      by_cases hk : hasKey j l = true
      · rw [if_pos hk, if_pos (.inr hk)]
      · rw [if_neg hk, if_neg]
        rintro (h | h)
        · exact e h.symm
        · exact hk h
/-- what the callee's temporary says -/
theorem rdK_t {A : Tok} {V : VSt} {st : St} (hR : R A V st) {n : Nat} {k : VV → Prop} (h : rdK V none (.t n) k) : ∃ e a, V.env.get n = some e ∧ st.env.get n = some a ∧ VR A e.v a ∧ k e.v := by
  simp only [rdK] at h
  split at h
  · cases h
  rename_i e he
  obtain ⟨a, ha, hv⟩ := hR.env n e he
  split at h
  · rename_i hg
    exact ⟨e, a, he, ha, hv (fun c bb hh => by rw [hg] at hh; cases hh), h⟩
  · cases h

theorem imps_ob {d : Nat} {offs : List (Nat × Nat)} {ks : List PK} {w : VV} {ws : List VV} {ims : List Imp} (h : impsOf d (.ob offs :: ks) (w :: ws) = some ims) : ∃ O l, w = .ptr O 0 ∧ impsOf d ks ws = some l ∧ ims = .ob O d :: .pt :: l := by
  cases w with
  | ptr O off =>
    cases off with
    | zero =>
      simp only [impsOf] at h
      split at h
      · rename_i l hl; cases h; exact ⟨O, l, rfl, hl, rfl⟩
      · cases h
    | succ n => simp [impsOf] at h
  | _ => simp [impsOf] at h
theorem imps_sl {d sz : Nat} {ks : List PK} {w : VV} {ws : List VV} {ims : List Imp} (h : impsOf d (.sl sz :: ks) (w :: ws) = some ims) : ∃ O l, w = .sl O ∧ impsOf d ks ws = some l ∧ ims = .sl O :: l := by
  cases w with
  | sl O =>
    simp only [impsOf] at h
    split at h
    · rename_i l hl; cases h; exact ⟨O, l, rfl, hl, rfl⟩
    · cases h
  | _ => simp [impsOf] at h
/-- what comes back, parameter by parameter -/
theorem imp_sim {np d : Nat} {rk : RK} {k : VSt → Prop} {v : AV} {st2 st : St} : ∀ (ks : List PK) (i : Nat) (ws : List VV) (as : List AV) (ims : List Imp) (V2 Vr : VSt) (A2 A : Tok), impsOf d ks ws = some ims → (jout np rk ks i).all entPos = true → okI nt (jout np rk ks i) ims Vr.us = true →
    Back V2 A2 st2 Vr A st → (∀ (j : Nat) w a, ws[j]? = some w → as[j]? = some a → VR A w a) → ws.length = as.length → (∀ (j : Nat) a, as[j]? = some a → st2.env.get (i + j) = some a) → st2.env.get np = some v → st.env.get d = some v →
    prJ (jout np rk ks i) V2 (conJ (jout np rk ks i) ims Vr k) → ∃ Vr' A', k Vr' ∧ R A' Vr' st ∧ (∀ O x, A O = some x → A' O = some x) ∧ (∀ id, Own Vr' A' id → Own Vr A id ∨ Own V2 A2 id) ∧ Nat.blt d nt = true
  | [], i, ws, as, ims, V2, Vr, A2, A, him, hp, hok, h, hw, hl, has, hnp, hd, hk => by
    cases ws with
    | cons _ _ => cases him
    | nil =>
      cases him
      cases rk with
      | tr =>
        have hk0 : rdT V2 none (.t np) (fun v => k (addE Vr d (.tr v))) := hk
        have hok0 : (Nat.blt d nt && true) = true := hok
        rw [Bool.and_true] at hok0
        clear hk hok
        obtain ⟨u, a, ha, hc, hk1⟩ := rdT_t h.old hk0
        rw [hnp] at ha; cases ha
        exact ⟨_, A, hk1, r_addE h.new hd (.tr hc), fun _ _ h => h, fun id ho => .inl ho, hok0⟩
      | sl sz =>
        have hz : 0 < sz := by simp only [jout, jres, List.all_cons, Bool.and_eq_true] at hp; have := hp.1; simpa [entPos] using this
        have hk0 : rdK V2 none (.t np) (fun w => takeS V2 sz w fun es V' => k (addE (nameV Vr d (.gr sz es)) d (.sl d))) := hk
        have hok0 : (Nat.blt d nt && (freeB Vr.us d && true)) = true := hok
        rw [Bool.and_true, Bool.and_eq_true] at hok0
        clear hk hok
        obtain ⟨e, a, he, ha, hv, hk⟩ := rdK_t h.old hk0
        rw [hnp] at ha; cases ha
        have hsl : SlV A2 e.v v := by
          have hne := hk
          unfold takeS at hne
          generalize e.v = w at hv hne
          cases hv <;> first | (cases hne; done) | skip
          · exact .inl rfl
          · exact .inr rfl
          · assumption
        obtain ⟨es, V1, hk1, hs1, hsl1, hone, hid⟩ := takeS_back h hsl hk
        obtain ⟨hlt, hf⟩ := hok0
        obtain ⟨Vr1, A1, hV1, hR1, hA1, hAo, henv, hown, _, hback⟩ := name_sim (k := fun V' => V' = nameV Vr d (.gr sz es)) h.new (nameK_of hf rfl) (fun A' _ => hsl1 hz) hone (fun id hi => h.apart id (hid id hi).1)
        subst hV1
        exact ⟨_, A1, hk1, r_addE hR1 hd (.sl hAo), hA1, fun id ho => (hown id ho).imp (fun h => h) (fun hi => (hid id hi).1), hlt⟩
  | .tr :: ks, i, ws, as, ims, V2, Vr, A2, A, him, hp, hok, h, hw, hl, has, hnp, hd, hk => by
    cases ws with
    | nil => simp [impsOf] at him
    | cons w ws =>
      cases as with
      | nil => cases hl
      | cons a as =>
        have him' : impsOf d ks ws = some ims := by simpa only [impsOf] using him
        simp only [jout] at hp hok hk
        exact imp_sim ks (i + 1) ws as ims V2 Vr A2 A him' hp hok h (fun j w' a' h1 h2 => hw (j + 1) w' a' (by simpa using h1) (by simpa using h2)) (Nat.succ.inj hl) (fun j a' h1 => by have := has (j + 1) a' (by simpa using h1); rwa [show i + (j + 1) = i + 1 + j by omega] at this) hnp hd hk
  | .ob offs :: ks, i, ws, as, ims, V2, Vr, A2, A, him, hp, hok, h, hw, hl, has, hnp, hd, hk => by
    cases ws with
    | nil => simp [impsOf] at him
    | cons w ws =>
      cases as with
      | nil => cases hl
      | cons a as =>
        obtain ⟨O, l, rfl, hims, rfl⟩ := imps_ob him
        · simp only [jout, List.all_cons, Bool.and_eq_true] at hp
          have hz : ∀ p ∈ offs, 0 < p.2 := fun p hm => by have := List.all_eq_true.1 hp.1 p hm; simpa using this
          simp only [jout, okI] at hok
          split at hok
          rotate_left
          · cases hok
          rename_i us hus
          have hwa := hw 0 _ a rfl rfl
          cases hwa with
          | @ptr _ _ id hAO =>
          simp only [jout, prJ] at hk
          split at hk
          rotate_left
          · cases hk
          rename_i v2 ovs hO2
          split at hk
          rotate_left
          · cases hk
          rename_i hkeys
          obtain ⟨y, hy, id2, cs, ts, rfl, hH, hc⟩ := h.old.heap i _ hO2
          have hsl : ∀ j w, ovAt j ovs = some w → ∃ x, cs[j]? = some x ∧ SlV A2 w x := fun j w hj => by
            have hlt := hc.keys j w hj
            have hx : cs[j]? = some (cs[j]'(by rw [← hc.len]; exact hlt)) := List.getElem?_eq_getElem _
            have := hc.at_ j _ _ (List.getElem?_eq_getElem hlt) hx
            rw [hj] at this
            exact ⟨_, hx, this⟩
          have hgone := gone_dropO h.old hO2 hy (id := id2) rfl
          have hownO : Own V2 A2 id2 := ⟨i, _, _, hO2, hy, rfl⟩
          have hb1 : Back (dropO V2 i) A2 st2 Vr A st := ⟨(sub_dropO V2 i).r h.old, h.new, h.H, h.nx, fun id' ho => h.apart id' ((sub_dropO V2 i).own ho), ⟩
          obtain ⟨V2', Vr', A', g1, g2, g3, g4, g5, g6, g7⟩ := takeL_back hsl offs (dropO V2 i) Vr A us _ _ hz hb1 hus hk
          -- the pointer is the caller's
          have hk3 : rdK V2' none (.t i) fun w => match w with
            | .ptr O' off' => same O' i (same off' 0 (prJ (jout np rk ks (i + 1)) V2' (conJ (jout np rk ks (i + 1)) l (setVO Vr' O (.ob v2 (ovsS d offs))) k)))
            | _ => False := g1
          obtain ⟨e, a', he, ha', hv', hk3⟩ := rdK_t g2.old hk3
          have ha0 := has 0 _ rfl
          rw [Nat.add_zero, ha'] at ha0
          cases ha0
          generalize e.v = w' at hv' hk3
          cases w' <;> first | (cases hk3; done) | skip
          rename_i O' off'
          have hOi := (same_ok hk3).1
          have hoff := (same_ok (same_ok hk3).2).1
          have hk4 := (same_ok (same_ok hk3).2).2
          clear hk3
          have hOi := hOi.symm
          subst hOi
          subst hoff
          cases hv' with
          | ptr hO' =>
          rw [hy] at hO'; cases hO'
          have hAO' := g5 _ _ hAO
          have hor : OR A' st.H (.ob v2 (ovsS d offs)) (.ptr id 0 0) := by
            refine ⟨id, cs, ts, rfl, by rw [h.H]; exact hH, ⟨hc.cells, hc.len, fun j w hj => ?_, fun j t x ht hx => ?_⟩⟩
            · rw [ovsS_at] at hj
              split at hj
              · rename_i hh
                obtain ⟨x, hx, _⟩ := g7 j hh
                rw [hc.len]; exact (List.getElem?_eq_some_iff.1 hx).1
              · cases hj
            · rw [ovsS_at]
              by_cases hh : hasKey j offs = true
              · rw [if_pos hh]
                obtain ⟨x', hx', hA'⟩ := g7 j hh
                rw [hx] at hx'; cases hx'
                exact hA'
              · rw [if_neg hh]
                have := hc.at_ j t x ht hx
                cases ho : ovAt j ovs with
                | none => rw [ho] at this; exact this
                | some w => exact absurd (keysIn_at hkeys j w ho) hh
          obtain ⟨p1, p2⟩ := own_again g2.new hAO' hor (fun id' hi ho => by
            cases hi
            rcases g6 _ ho with ho | ho
            · exact h.apart _ hownO ho
            · exact hgone ho)
          have hb2 : Back V2' A2 st2 (setVO Vr' O (.ob v2 (ovsS d offs))) A' st := ⟨g2.old, p1, h.H, h.nx, fun id' ho hc' => (p2 id' hc').elim (fun hc' => g2.apart id' ho hc') (fun hi => by cases hi; exact hgone (g3.own ho))⟩
          obtain ⟨Vr2, A3, q1, q2, q3, q4, q5⟩ := imp_sim ks (i + 1) ws as l V2' _ A2 A' hims hp.2.2 (by rw [show (setVO Vr' O (VO.ob v2 (ovsS d offs))).us = us from g4]; exact hok) hb2
            (fun j w' a' h1 h2 => (hw (j + 1) w' a' (by simpa using h1) (by simpa using h2)).mono g5) (Nat.succ.inj hl) (fun j a' h1 => by have := has (j + 1) a' (by simpa using h1); rwa [show i + (j + 1) = i + 1 + j by omega] at this) hnp hd hk4
          refine ⟨Vr2, A3, q1, q2, fun O x hx => q3 _ _ (g5 _ _ hx), fun id' ho => ?_, q5⟩
          rcases q4 id' ho with ho | ho
          · rcases p2 id' ho with ho | hi
            · exact (g6 id' ho).imp (fun h => h) (sub_dropO V2 i).own
            · cases hi; exact .inr hownO
          · exact .inr ((sub_dropO V2 i).own (g3.own ho))
  | .sl sz :: ks, i, ws, as, ims, V2, Vr, A2, A, him, hp, hok, h, hw, hl, has, hnp, hd, hk => by
    cases ws with
    | nil => simp [impsOf] at him
    | cons w ws =>
      cases as with
      | nil => cases hl
      | cons a as =>
        obtain ⟨O, l, rfl, hims, rfl⟩ := imps_sl him
        simp only [jout, List.all_cons, Bool.and_eq_true] at hp
        have hz : 0 < sz := by have := hp.1; simpa [entPos] using this
        have hwa := hw 0 _ a rfl rfl
        cases hwa with
        | @sl _ _ hAO =>
        have hk' : rdK V2 none (.t i) fun w => takeS V2 sz w fun es V' => prJ (jout np rk ks (i + 1)) V' (conJ (jout np rk ks (i + 1)) l (setVO Vr O (.gr sz es)) k) := hk
        obtain ⟨e, a', he, ha', hv', hk'⟩ := rdK_t h.old hk'
        have ha0 := has 0 _ rfl
        rw [Nat.add_zero, ha'] at ha0
        cases ha0
        have hsl : SlV A2 e.v a := by
          have hne := hk'
          unfold takeS at hne
          generalize e.v = w at hv' hne
          cases hv' <;> first | (cases hne; done) | skip
          · exact .inl rfl
          · exact .inr rfl
          · assumption
        obtain ⟨es, V1, hk1, hs1, hsl1, hone, hid⟩ := takeS_back h hsl hk'
        obtain ⟨p1, p2⟩ := own_again h.new (o := .gr sz es) hAO (hsl1 hz) (fun id hi => h.apart id (hid id hi).1)
        have hb : Back V1 A2 st2 (setVO Vr O (.gr sz es)) A st := ⟨hs1.r h.old, p1, h.H, h.nx, fun id ho hc => (p2 id hc).elim (fun hc => h.apart id (hs1.own ho) hc) (fun hi => (hid id hi).2 ho)⟩
        obtain ⟨Vr2, A3, q1, q2, q3, q4, q5⟩ := imp_sim ks (i + 1) ws as l V1 (setVO Vr O (.gr sz es)) A2 A hims hp.2 hok hb
          (fun j w' a' h1 h2 => hw (j + 1) w' a' (by simpa using h1) (by simpa using h2)) (Nat.succ.inj hl) (fun j a' h1 => by have := has (j + 1) a' (by simpa using h1); rwa [show i + (j + 1) = i + 1 + j by omega] at this) hnp hd hk1
        refine ⟨Vr2, A3, q1, q2, q3, fun id ho => ?_, q5⟩
        rcases q4 id ho with ho | ho
        · exact (p2 id ho).imp (fun h => h) (fun hi => (hid id hi).1)
        · exact .inr (hs1.own ho)

theorem rdKs_sim {A : Tok} {V : VSt} {st : St} (hR : R A V st) : ∀ (xs : List Opd) (k : List VV → Prop), rdKs V xs k → ∃ ws, ws.length = (xs.map (ev st.env)).length ∧ (∀ (j : Nat) w a, ws[j]? = some w → (xs.map (ev st.env))[j]? = some a → VR A w a) ∧ k ws
  | [], k, h => ⟨[], rfl, fun j w a hw => by simp at hw, h⟩
  | x :: xs, k, h => by
    obtain ⟨w, hw, h⟩ := rdK_sim (g := none) hR trivial h
    obtain ⟨ws, h1, h2, h3⟩ := rdKs_sim hR xs _ h
    refine ⟨w :: ws, by simpa using h1, fun j w' a hj ha => ?_, h3⟩
    cases j with
    | zero => simp at hj ha; subst hj; subst ha; exact hw
    | succ j => exact h2 j w' a (by simpa using hj) (by simpa using ha)
theorem imps_len {d : Nat} : ∀ (ks : List PK) (ws : List VV) (ims : List Imp), impsOf d ks ws = some ims → ks.length = ws.length
  | [], [], ims, h => rfl
  | [], _ :: _, ims, h => by simp [impsOf] at h
  | k :: ks, [], ims, h => by cases k <;> simp [impsOf] at h
  | .tr :: ks, w :: ws, ims, h => by
    have h' : impsOf d ks ws = some ims := by simpa only [impsOf] using h
    simp [imps_len ks ws ims h']
  | .ob offs :: ks, w :: ws, ims, h => by
    obtain ⟨O, l, _, h', _⟩ := imps_ob h
    simp [imps_len ks ws l h']
  | .sl sz :: ks, w :: ws, ims, h => by
    obtain ⟨O, l, _, h', _⟩ := imps_sl h
    simp [imps_len ks ws l h']
theorem initE_get : ∀ (as : List AV) (i : Nat) (e : Env) (j : Nat), (initE as i e).get j = if i ≤ j ∧ j < i + as.length then as[j - i]? else e.get j
  | [], i, e, j => by simp only [initE, List.length_nil]; rw [if_neg (by omega)]
  | a :: as, i, e, j => by
    simp only [initE, initE_get as (i + 1), Map.get_put, List.length_cons]
    by_cases h : i + 1 ≤ j ∧ j < i + 1 + as.length
    · rw [if_pos h, if_pos (by omega), show j - i = (j - (i + 1)) + 1 by omega, List.getElem?_cons_succ]
    · rw [if_neg h]
      by_cases e1 : j = i
      · subst e1; rw [if_pos rfl, if_pos (by omega)]; simp
      · rw [if_neg e1, if_neg (by omega)]
theorem envVV_get : ∀ (ws : List VV) (i : Nat) (e : Map VE) (j : Nat), (envVV ws i e).get j = if i ≤ j ∧ j < i + ws.length then ws[j - i]?.map (fun w => ⟨none, w⟩) else e.get j
  | [], i, e, j => by simp only [envVV, List.length_nil]; rw [if_neg (by omega)]
  | w :: ws, i, e, j => by
    simp only [envVV, envVV_get ws (i + 1), Map.get_put, List.length_cons]
    by_cases h : i + 1 ≤ j ∧ j < i + 1 + ws.length
    · rw [if_pos h, if_pos (by omega), show j - i = (j - (i + 1)) + 1 by omega, List.getElem?_cons_succ]
    · rw [if_neg h]
      by_cases e1 : j = i
      · subst e1; rw [if_pos rfl, if_pos (by omega)]; simp
      · rw [if_neg e1, if_neg (by omega)]
/-- the callee's temporaries -/
theorem r_env {A : Tok} {V : VSt} {st : St} (hR : R A V st) {ws : List VV} {as : List AV} (hl : ws.length = as.length) (hw : ∀ (j : Nat) w a, ws[j]? = some w → as[j]? = some a → VR A w a) :
    R A { V with env := envVV ws 0 .leaf } ⟨initE as 0 .leaf, st.H, st.nx⟩ := by
  refine ⟨fun t e he => ?_, hR.heap, hR.inj, hR.used, hR.one, hR.fresh⟩
  have he' : (envVV ws 0 .leaf).get t = some e := he
  rw [envVV_get] at he'
  split at he'
  · rename_i ht
    rw [Nat.sub_zero] at he'
    have hlt : t < ws.length := by omega
    rw [List.getElem?_eq_getElem hlt] at he'
    cases he'
    have ha : as[t]? = some (as[t]'(by omega)) := List.getElem?_eq_getElem _
    refine ⟨as[t]'(by omega), ?_, fun _ => hw t _ _ (List.getElem?_eq_getElem hlt) ha⟩
    show (initE as 0 .leaf).get t = _
    rw [initE_get, if_pos (by omega), Nat.sub_zero, ha]
  · cases he'
/-- the caller's state and the callee's, ahead of the call -/
theorem prA_sim {st stc : St} (hH : stc.H = st.H) (hnx : stc.nx = st.nx) : ∀ (ks : List PK) (i : Nat) (ws : List VV) (as : List AV) (V Vc : VSt) (A A0 : Tok) (I : JT (jin ks i) Prop) (k : VSt → Prop), (jin ks i).all entPos = true → R A V st → R A0 Vc stc → (∀ id, Own V A id → ¬ Own Vc A0 id) →
    (∀ (j : Nat) w a, ws[j]? = some w → as[j]? = some a → VR A w a) → ws.length = as.length → (∀ (j : Nat) a, as[j]? = some a → stc.env.get (i + j) = some a) → prA ks i ws V I → allJ (jin ks i) Vc I k →
    ∃ Vc' A', k Vc' ∧ R A' Vc' stc ∧ (∀ id, Own Vc' A' id → Own Vc A0 id ∨ Own V A id) ∧ (∀ id, Own (restA ks ws V) A id → ¬ Own Vc' A' id) ∧ Sub V (restA ks ws V)
  | [], i, ws, as, V, Vc, A, A0, I, k, hp, hR, hRc, hap, hw, hl, has, hk, hkc => by
    cases ws with
    | nil => exact ⟨Vc, A0, hkc hk, hRc, fun id h => .inl h, hap, Sub.refl V⟩
    | cons w ws => cases hk
  | .tr :: ks, i, ws, as, V, Vc, A, A0, I, k, hp, hR, hRc, hap, hw, hl, has, hk, hkc => by
    cases ws with
    | nil => cases hk
    | cons w ws =>
      cases as with
      | nil => cases hl
      | cons a as =>
        simp only [jin, List.all_cons, Bool.and_eq_true] at hp
        simp only [prA] at hk
        obtain ⟨v, hc, hk⟩ := vr_tree (hw 0 w a rfl rfl) hk
        obtain ⟨Vc', A', g1, g2, g3, g4, g5⟩ := prA_sim hH hnx ks (i + 1) ws as V (addE Vc i (.tr v)) A A0 (I v) k hp.2 hR (r_addE hRc (has 0 a rfl) (.tr hc)) hap (fun j w' a' h1 h2 => hw (j + 1) w' a' (by simpa using h1) (by simpa using h2)) (Nat.succ.inj hl)
          (fun j a' h1 => by have := has (j + 1) a' (by simpa using h1); rwa [show i + (j + 1) = i + 1 + j by omega] at this) hk (hkc v)
        exact ⟨Vc', A', g1, g2, g3, g4, g5⟩
  | .ob offs :: ks, i, ws, as, V, Vc, A, A0, I, k, hp, hR, hRc, hap, hw, hl, has, hk, hkc => by
    cases ws with
    | nil => cases hk
    | cons w ws =>
      cases as with
      | nil => cases hl
      | cons a as =>
        simp only [jin, List.all_cons, Bool.and_eq_true] at hp
        have hz : ∀ p ∈ offs, 0 < p.2 := fun p hm => by have := List.all_eq_true.1 hp.1 p hm; simpa using this
        cases w <;> first | (cases hk; done) | skip
        rename_i O off
        cases off with
        | succ n => cases hk
        | zero =>
        simp only [prA] at hk
        split at hk
        rotate_left
        · cases hk
        rename_i v ovs hO
        split at hk
        rotate_left
        · cases hk
        rename_i hkeys
        have hwa := hw 0 _ a rfl rfl
        cases hwa with
        | @ptr _ _ id hAO =>
        obtain ⟨y, hy, id', cs, ts, rfl, hHc, hc⟩ := hR.heap O _ hO
        rw [hAO] at hy; cases hy
        have hsl : ∀ j w, ovAt j ovs = some w → ∃ x, cs[j]? = some x ∧ SlV A w x := fun j w hj => by
          have hlt := hc.keys j w hj
          have hx : cs[j]? = some (cs[j]'(by rw [← hc.len]; exact hlt)) := List.getElem?_eq_getElem _
          have := hc.at_ j _ _ (List.getElem?_eq_getElem hlt) hx
          rw [hj] at this
          exact ⟨_, hx, this⟩
        have hgone := gone_dropO hR hO hAO (id := id) rfl
        have hownO : Own V A id := ⟨O, _, _, hO, hAO, rfl⟩
        -- the caller's objects, in the callee's memory
        have hRe : R A { dropO V O with env := .leaf } stc := ⟨fun t e he => (by cases he), fun O' o' ho => by
            obtain ⟨x, hx, hor⟩ := hR.heap O' o' (dropO_get ho).2
            exact ⟨x, hx, hor.mono (fun _ _ h => h) (fun _ _ => by rw [hH])⟩, fun O1 O2 o1 o2 a1 a2 id' h1 h2 => hR.inj O1 O2 o1 o2 a1 a2 id' (dropO_get h1).2 (dropO_get h2).2, hR.used, hR.one, hRc.fresh⟩
        have h1 : Two { dropO V O with env := .leaf } A Vc A0 stc := ⟨hRe, hRc, fun id' ho => hap id' ((sub_dropO V O).own ho)⟩
        have hk' : takeL (R := JT (.pt i i 0 :: jin ks (i + 1)) Prop) { dropO V O with env := .leaf } ovs offs (I v) fun I V' => prA ks (i + 1) ws { V' with env := V.env } I := by
          have gen : ∀ (offs : List (Nat × Nat)) (V1 : VSt) (J : JL offs (JT (.pt i i 0 :: jin ks (i + 1)) Prop)), V1.env = V.env → takeL V1 ovs offs J (fun I V' => prA ks (i + 1) ws V' I) → takeL { V1 with env := .leaf } ovs offs J fun I V' => prA ks (i + 1) ws { V' with env := V.env } I := by
            intro offs
            induction offs with
            | nil => intro V1 J he h; show prA ks (i + 1) ws { V1 with env := V.env } J; rw [← he]; exact h
            | cons p offs ih =>
              obtain ⟨off, sz⟩ := p
              intro V1 J he h
              simp only [takeL] at h ⊢
              split at h
              · rename_i w hw
                unfold takeS at h ⊢
                split at h
                · split at h
                  · rename_i z es ho
                    obtain ⟨rfl, h⟩ := same_ok h
                    simp only [ho]
                    show same z z _
                    unfold same
                    rw [cond_eq_ite, if_pos (by simp)]
                    exact ih (dropO V1 _) (J es) he h
                  · cases h
                · exact ih V1 (J []) he h
                · cases h
              · cases h
          exact gen offs (dropO V O) (I v) rfl hk
        obtain ⟨i2, V', Vc', A', g1, g2, g0, g3, g3a, g4, g5, g6, g7, g8⟩ := takeL_sim hsl offs { dropO V O with env := .leaf } Vc A0 (I v) _ _ hz h1 hk' (hkc v)
        have hor : ∀ A3 : Tok, (∀ O x, A' O = some x → A3 O = some x) → OR A3 stc.H (.ob v (ovsOf i offs)) (.ptr id 0 0) := by
          intro A3 hA3
          refine ⟨id, cs, ts, rfl, by rw [hH]; exact hHc, ⟨hc.cells, hc.len, fun j w hj => ?_, fun j t x ht hx => ?_⟩⟩
          · rw [ovsOf_at] at hj
            split at hj
            · rename_i hh
              obtain ⟨x, hx, _⟩ := g8 j hh
              rw [hc.len]; exact (List.getElem?_eq_some_iff.1 hx).1
            · cases hj
          · rw [ovsOf_at]
            by_cases hh : hasKey j offs = true
            · rw [if_pos hh]
              obtain ⟨x', hx', hA'⟩ := g8 j hh
              rw [hx] at hx'; cases hx'
              exact hA3 _ _ hA'
            · rw [if_neg hh]
              have := hc.at_ j t x ht hx
              cases ho : ovAt j ovs with
              | none => rw [ho] at this; exact this
              | some w => exact absurd (keysIn_at hkeys j w ho) hh
        obtain ⟨Vc2, A2, p1, p2, p3, p4, p5, p6, p7, p8⟩ := name_sim g3.new (a := .ptr id 0 0) g2 hor rfl (fun id' hi ho => by
          cases hi
          rcases g7 _ ho with ho | ho
          · exact hap _ hownO ho
          · exact hgone ho)
        -- the pointer
        have p1' : allJ (.pt i i 0 :: jin ks (i + 1)) Vc2 i2 k := p1
        simp only [allJ, p7] at p1'
        have hR' : R A { V' with env := V.env } st := by
          have hs : Sub V { V' with env := V.env } := ⟨rfl, g4.us, fun O' o' ho => (dropO_get (g4.H O' o' ho)).2⟩
          exact hs.r hR
        obtain ⟨Vc3, A3, q1, q2, q3, q4, q5⟩ := prA_sim hH hnx ks (i + 1) ws as { V' with env := V.env } (addE Vc2 i (.ptr i 0)) A A2 i2 k hp.2.2 hR' (r_addE p2 (has 0 _ rfl) (.ptr p4)) (fun id' ho hc' => by
            rcases p6 id' hc' with hc' | hi
            · exact g3.apart id' ho hc'
            · cases hi; exact hgone (g4.own ho)) (fun j w' a' h1 h2 => hw (j + 1) w' a' (by simpa using h1) (by simpa using h2)) (Nat.succ.inj hl)
          (fun j a' h1 => by have := has (j + 1) a' (by simpa using h1); rwa [show i + (j + 1) = i + 1 + j by omega] at this) g1 p1'
        have hrestL : ∀ (offs : List (Nat × Nat)) (V1 : VSt), V1.env = V.env → { restL { V1 with env := .leaf } ovs offs with env := V.env } = restL V1 ovs offs := by
          intro offs
          induction offs with
          | nil => intro V1 he; simp only [restL]; rw [← he]
          | cons p offs ih =>
            obtain ⟨off, sz⟩ := p
            intro V1 he
            simp only [restL]
            split
            · rename_i w hw
              cases w <;> first | exact ih V1 he | exact ih (dropO V1 _) he
            · exact ih V1 he
        have hrest : restA (.ob offs :: ks) (.ptr O 0 :: ws) V = restA ks ws { V' with env := V.env } := by
          simp only [restA, hO]
          rw [g0, hrestL offs (dropO V O) rfl]
        refine ⟨Vc3, A3, q1, q2, fun id' ho => ?_, by rw [hrest]; exact q4, by rw [hrest]; exact (⟨rfl, g4.us, fun O' o' ho => (dropO_get (g4.H O' o' ho)).2⟩ : Sub V { V' with env := V.env }).trans q5⟩
        rcases q3 id' ho with ho | ho
        · rcases p6 id' ho with ho | hi
          · rcases g7 id' ho with ho | ho
            · exact .inl ho
            · exact .inr ((sub_dropO V O).own ho)
          · cases hi; exact .inr hownO
        · exact .inr ((sub_dropO V O).own (g4.own ho))
  | .sl sz :: ks, i, ws, as, V, Vc, A, A0, I, k, hp, hR, hRc, hap, hw, hl, has, hk, hkc => by
    cases ws with
    | nil => cases hk
    | cons w ws =>
      cases as with
      | nil => cases hl
      | cons a as =>
        simp only [jin, List.all_cons, Bool.and_eq_true] at hp
        have hz : 0 < sz := by have := hp.1; simpa [entPos] using this
        cases w <;> first | (cases hk; done) | skip
        rename_i O
        simp only [prA, takeS] at hk
        split at hk
        rotate_left
        · cases hk
        rename_i z es ho
        obtain ⟨rfl, hk⟩ := same_ok hk
        have hwa := hw 0 _ a rfl rfl
        cases hwa with
        | @sl _ _ hAO =>
        obtain ⟨y, hy, hs⟩ := hR.heap O _ ho
        rw [hAO] at hy; cases hy
        have hsl : SlR stc.H z es a := by rw [hH]; exact hs
        have hid : ∀ id, idOf a = some id → Own V A id ∧ ¬ Own (dropO V O) A id := fun id hi => ⟨⟨O, _, a, ho, hAO, hi⟩, gone_dropO hR ho hAO hi⟩
        have hkc1 := hkc es
        obtain ⟨Vc1, A1, hkc2, hR1, hA1, hAo, henv, hown, _, hback⟩ := name_sim hRc hkc1 (fun A' _ => hsl) (hR.one O _ hAO) (fun id hi => hap id (hid id hi).1)
        obtain ⟨Vc', A', g1, g2, g3, g4, g5⟩ := prA_sim hH hnx ks (i + 1) ws as (dropO V O) (addE Vc1 i (.sl i)) A A1 (I es) k hp.2 (hR.dropO O) (r_addE hR1 (has 0 a rfl) (.sl hAo)) (fun id hoo hc => (hown id hc).elim (fun hc => hap id ((sub_dropO V O).own hoo) hc) (fun hi => (hid id hi).2 hoo))
          (fun j w' a' h1 h2 => hw (j + 1) w' a' (by simpa using h1) (by simpa using h2)) (Nat.succ.inj hl) (fun j a' h1 => by have := has (j + 1) a' (by simpa using h1); rwa [show i + (j + 1) = i + 1 + j by omega] at this) hk hkc2
        refine ⟨Vc', A', g1, g2, fun id hoo => ?_, g4, (sub_dropO V O).trans g5⟩
        rcases g3 id hoo with hoo | hoo
        · rcases hown id hoo with hoo | hi
          · exact .inl hoo
          · exact .inr (hid id hi).1
        · exact .inr ((sub_dropO V O).own hoo)
theorem o_share {sh : Sh} (hsh : sh.vs = VSh prog) {A : Tok} {V : VSt} {st : St} (hR : R A V st) {d : Option Nat} {f : Nat} {args : List Opd} {k : VSt → Prop} (h : evShare sh nt V d f args k) : Sim (runFn prog) nt A V st d (.call f args .share) k := by
  unfold evShare at h
  cases d with
  | none => cases h
  | some d =>
  simp only at h
  split at h
  · cases h
  rename_i sg hsg
  obtain ⟨ws, hwl, hw, h⟩ := rdKs_sim hR args _ h
  split at h
  · cases h
  rename_i ims him
  split at h
  · cases h
  rename_i hok
  simp only [Bool.and_eq_true] at hok
  obtain ⟨⟨hp1, hp2⟩, hn, hi⟩ := hok
  rw [hsh] at h
  generalize has : args.map (ev st.env) = as at hwl hw
  have hal := allJ_mk (jin sg.ks 0) V0 [] (CallOk prog f sg.ks.length (jout sg.ks.length sg.rk sg.ks 0) (conJ (jout sg.ks.length sg.rk sg.ks 0) ims { restA sg.ks ws V with env := V.env.put none d } k)) hn (fun O hO => by cases hO)
  have no0 : ∀ id, ¬ Own V0 (fun _ => none) id := fun id ⟨O, o, a, ho, _⟩ => by cases ho
  have hRc0 : R (fun _ => none) V0 ⟨initE as 0 .leaf, st.H, st.nx⟩ := ⟨fun t e he => (by cases he), fun O o ho => (by cases ho), fun O O' o o' a a' id ho => (by cases ho), fun _ _ => rfl, fun O a ha => (by cases ha), hR.fresh⟩
  obtain ⟨Vc, A1, g1, g2, g3, g4, g5⟩ := prA_sim (st := st) (stc := ⟨initE as 0 .leaf, st.H, st.nx⟩) rfl rfl sg.ks 0 ws as V V0 A (fun _ => none) _ _ hp1 hR hRc0 (fun id _ hc => no0 id hc) hw hwl (fun j a ha => by
    show (initE as 0 .leaf).get (0 + j) = _
    have hjl := (List.getElem?_eq_some_iff.1 ha).1
    rw [initE_get, if_pos (by omega)]
    simpa using ha) h hal
  have hlen : as.length = sg.ks.length := by rw [← hwl, imps_len _ _ _ him]
  obtain ⟨v, H', nx', A2, V2, q1, q2, q3, q4⟩ := g1 A1 as st.H st.nx hlen g2
  have ownV : ∀ id, Own (restA sg.ks ws V) A id → Own V A id := fun id ho => g5.own ho
  have hlt : ∀ id, Own (restA sg.ks ws V) A id → id < st.nx := fun id ho => hR.own_lt (ownV id ho)
  have hsameH : ∀ id, Own (restA sg.ks ws V) A id → H'.get id = st.H.get id := fun id ho => q4.same id (hlt id ho) (g4 id ho)
  have hRr : R A { restA sg.ks ws V with env := V.env.put none d } ⟨st.env.put (some v) d, H', nx'⟩ := by
    refine ⟨fun t e he => ?_, fun O o ho => ?_, (g5.r hR).inj, fun O hu => hR.used O (by rw [← hu]; exact congrArg (fun m => Map.get m O) g5.us.symm), hR.one, q2.fresh⟩
    · have he' : (V.env.put none d).get t = some e := he
      rw [Map.get_put] at he'
      split at he'
      · cases he'
      · rename_i hne
        obtain ⟨a, ha, hv⟩ := hR.env t e he'
        exact ⟨a, by show (st.env.put (some v) d).get t = _; rw [Map.get_put, if_neg hne]; exact ha, hv⟩
    · obtain ⟨a, ha, hor⟩ := (g5.r hR).heap O o ho
      exact ⟨a, ha, hor.mono (fun _ _ h => h) (fun id hi => hsameH id ⟨O, o, a, ho, ha, hi⟩)⟩
  have hb : Back V2 A2 ⟨(initE as 0 .leaf).put (some v) sg.ks.length, H', nx'⟩ { restA sg.ks ws V with env := V.env.put none d } A ⟨st.env.put (some v) d, H', nx'⟩ :=
    ⟨q2, hRr, rfl, rfl, fun id ho hc => by
      rcases q4.own id ho with ho | hle
      · exact g4 id hc ho
      · have := hlt id hc; omega⟩
  obtain ⟨Vr', A3, p1, p2, p3, p4, p5⟩ := imp_sim (nt := nt) (st2 := ⟨(initE as 0 .leaf).put (some v) sg.ks.length, H', nx'⟩) (st := ⟨st.env.put (some v) d, H', nx'⟩) (v := v) (d := d) sg.ks 0 ws as ims V2 _ A2 A him hp2 (by
      have e : ({ restA sg.ks ws V with env := V.env.put none d } : VSt).us = V.us := g5.us
      rw [e]; exact hi) hb hw hwl (fun j a ha => by
      show ((initE as 0 .leaf).put (some v) sg.ks.length).get (0 + j) = _
      have hjl := (List.getElem?_eq_some_iff.1 ha).1
      rw [Map.get_put, if_neg (by omega), initE_get, if_pos (by omega)]
      simpa using ha) (by show ((initE as 0 .leaf).put (some v) sg.ks.length).get _ = _; rw [Map.get_put, if_pos rfl]) (by show (st.env.put (some v) d).get d = _; rw [Map.get_put, if_pos rfl]) q3
  refine ⟨v, H', nx', ?_, st.env.put (some v) d, by simp only [putD, cond_eq_ite, if_pos p5], Vr', A3, p2, ⟨q4.le, fun id hid hno => q4.same id hid (fun hc => ?_), fun id ho => ?_⟩, p3, p1⟩
  · have hk : kind (.call f args .share) = .call f args .share := rfl
    simp only [doOp, hk, doCall, has]
    exact q1
  · rcases g3 id hc with hc | hc
    · exact no0 id hc
    · exact hno hc
  · rcases p4 id ho with ho | ho
    · exact .inl (ownV id ho)
    · rcases q4.own id ho with ho | hle
      · rcases g3 id ho with hc | hc
        · exact absurd hc (no0 id)
        · exact .inl hc
      · exact .inr hle
end
end Go.Ax.V
