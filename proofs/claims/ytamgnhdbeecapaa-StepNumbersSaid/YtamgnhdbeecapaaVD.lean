/- Regions of open order. -/
import Derived.Test.YtamgnhdbeecapaaV11
set_option linter.unusedSimpArgs false
set_option linter.unusedVariables false
namespace Go.Ax.V

section
variable {sh : Sh} {prog : Map AFunc} {cf : FnF} {nt : Nat} {A : Tok} {V : VSt} {st : St} {d : Option Nat} {g : G} {k : VSt → Prop}

theorem rdK_vv {x : Opd} {k : VV → Prop} (h : rdK V g x k) : k (vvOf V x) := by
  cases x with
  | c v => exact h
  | t n =>
    simp only [rdK] at h
    split at h
    · cases h
    rename_i e he
    have e1 : vvOf V (.t n) = e.v := by simp only [vvOf, he]
    rw [e1]
    split at h
    · exact h
    · split at h
      · cases h
      · exact h.2
theorem rdK_both (hR : R A V st) (ha : act g) {x : Opd} {k : VV → Prop} (h : rdK V g x k) : VR A (vvOf V x) (ev st.env x) ∧ k (vvOf V x) := by
  refine ⟨?_, rdK_vv h⟩
  cases x with
  | c v => exact const_vr A v
  | t n =>
    simp only [rdK] at h
    split at h
    · cases h
    rename_i e he
    obtain ⟨a, h1, h2⟩ := hR.env n e he
    have e1 : vvOf V (.t n) = e.v := by simp only [vvOf, he]
    rw [ev_get h1, e1]
    refine h2 (fun c bb hc => ?_)
    rw [hc] at h
    simp only at h
    split at h
    · cases h
    · obtain ⟨e, _⟩ := h
      cases e; exact ha

/-! ### What an operation looks at -/
/-- each place that an operation looks at is that of one of some names -/
structure FootOk (A : Tok) (V : VSt) (f : Foot) (r : Rec) : Prop where
  rd : ∀ x ∈ r.rds, ∃ id, (match x with | .rng q => q.id = id | .obj i => i = id | .all => False) ∧ ∃ T ∈ f.rd, ∃ o a, V.H.get T = some o ∧ A T = some a ∧ idOf a = some id
  wr : ∃ l, r.tch = .ids l ∧ ∀ id ∈ l, ∃ T ∈ f.wr, ∃ o a, V.H.get T = some o ∧ A T = some a ∧ idOf a = some id
def Look (A : Tok) (V : VSt) (f : Foot) (rds : List Rd) (tch : List Nat) : Prop :=
  (∀ x ∈ rds, ∃ id, (match x with | .rng q => q.id = id | .obj i => i = id | .all => False) ∧ ∃ T ∈ f.rd, ∃ o a, V.H.get T = some o ∧ A T = some a ∧ idOf a = some id) ∧
  ∀ id ∈ tch, ∃ T ∈ f.wr, ∃ o a, V.H.get T = some o ∧ A T = some a ∧ idOf a = some id
theorem look_nil {f : Foot} : Look A V f [] [] := ⟨fun x hx => (by cases hx), fun id h => (by cases h)⟩
theorem look_val {f : Foot} {p : Plan} (h : p.rds = [] ∧ p.tch = []) : Look A V f p.rds p.tch := by rw [h.1, h.2]; exact look_nil
/-- an operation without memory -/
def still0 (p : Option Plan) : Prop := ∀ q, p = some q → q.rds = [] ∧ q.tch = []
theorem still0_pure (v : Option AV) : still0 (pureO v) := by
  intro q h
  cases v with
  | none => cases h
  | some v => cases h; exact ⟨rfl, rfl⟩
theorem still0_val (v : AV) : still0 (some (.val v)) := fun q h => by cases h; exact ⟨rfl, rfl⟩
theorem still0_new (f : Nat → AV) (o : AObj) : still0 (some (.new f o)) := fun q h => by cases h; exact ⟨rfl, rfl⟩
theorem still0_none : still0 none := fun q h => by cases h

theorem load_look (hR : R A V st) (ha : act g) {sz : Option Nat} {a : Opd} (h : rdK V g a fun w => evLoad nt V d g sz w k) {p : Plan} (hp : pLoad (ev st.env) sz a = some p) : Look A V ⟨ptrToks (vvOf V a), [], []⟩ p.rds p.tch := by
  obtain ⟨hw, hk⟩ := rdK_both hR ha h
  generalize he : ev st.env a = x at hw
  generalize vvOf V a = w at hw hk
  have hit : ∀ {O : Nat} {o : VO} {pa : AV} {id gg off : Nat}, x = .ptr id gg off → V.H.get O = some o → A O = some pa → idOf pa = some id → Look A V ⟨[O], [], []⟩ p.rds p.tch := by
    intro O o pa id gg off hx hO hA hi
    subst hx
    simp only [pLoad, he] at hp
    cases hp
    refine ⟨fun y hy => ?_, fun id' h => by cases h⟩
    simp [Plan.rds] at hy
    subst hy
    exact ⟨id, rfl, O, by simp, o, pa, hO, hA, hi⟩
  cases hw with
  | @ptr O off id hO =>
    simp only [evLoad] at hk
    split at hk
    · rename_i v ovs ho; exact hit rfl ho hO rfl
    · cases hk
  | @pd O off id hO =>
    simp only [evLoad] at hk
    split at hk
    · rename_i v ovs ho; exact hit rfl ho hO rfl
    · cases hk
  | @ea O i off id gg b z len cap ex hO =>
    simp only [evLoad] at hk
    split at hk
    · rename_i z es ho; exact hit rfl ho hO rfl
    · cases hk
  | @pt v cs b off n hl hf hcc =>
    simp only [pLoad, he] at hp
    split at hp
    · exact look_val (still0_pure _ p hp)
    · cases hp
  | _ => cases hk
theorem store_look (hR : R A V st) {sz : Nat} {a x : Opd} (h : rdK V none a fun w => rdK V none x fun x => evStore V sz w x k) {p : Plan} (hp : pStore (ev st.env) sz a x = some p) : Look A V ⟨ptrToks (vvOf V a), ptrToks (vvOf V a), []⟩ p.rds p.tch := by
  obtain ⟨hw, hk⟩ := rdK_both (g := none) hR trivial h
  obtain ⟨y, hy, hk⟩ := rdK_sim (g := none) hR trivial hk
  generalize he : ev st.env a = q at hw
  generalize vvOf V a = w at hw hk
  have hit : ∀ {O : Nat} {o : VO} {pa : AV} {id gg off : Nat}, q = .ptr id gg off → V.H.get O = some o → A O = some pa → idOf pa = some id → Look A V ⟨[O], [O], []⟩ p.rds p.tch := by
    intro O o pa id gg off hx hO hA hi
    subst hx
    simp only [pStore, he] at hp
    split at hp
    · rw [cond_eq_ite] at hp
      split at hp
      · cases hp
        refine ⟨fun y hy => ?_, fun id' h => ?_⟩
        · simp [Plan.rds] at hy
          subst hy
          exact ⟨id, rfl, O, by simp, o, pa, hO, hA, hi⟩
        · simp [Plan.tch] at h
          subst h
          exact ⟨O, by simp, o, pa, hO, hA, hi⟩
      · cases hp
    · cases hp
  cases hw with
  | @ptr O off id hO =>
    simp only [evStore] at hk
    split at hk
    · rename_i v ovs ho; exact hit rfl ho hO rfl
    · cases hk
  | @pd O off id hO =>
    simp only [evStore] at hk
    split at hk
    · rename_i v ovs ho; exact hit rfl ho hO rfl
    · cases hk
  | @ea O i off id gg b z len cap ex hO =>
    simp only [evStore] at hk
    split at hk
    · rename_i z es ho; exact hit rfl ho hO rfl
    · cases hk
  | _ => cases hk
theorem app_look (hR : R A V st) (ha : act g) {es bytes : Nat} {s x : Opd} (h : rdK V g s fun w => rdK V g x fun x => evApp nt V d g es bytes w x k) {p : Plan} (hp : appA es bytes (ev st.env s) (ev st.env x) = some p) :
    Look A V ⟨vvToks (vvOf V s) ++ vvToks (vvOf V x), vvToks (vvOf V s), vvToks (vvOf V s)⟩ p.rds p.tch := by
  obtain ⟨hw, h⟩ := rdK_both hR ha h
  obtain ⟨hy, hk⟩ := rdK_both hR ha h
  replace hk := (pos_ok hk).2
  generalize vvOf V s = w at hw hk
  generalize vvOf V x = y at hy hk
  generalize ev st.env s = a at hw hp
  generalize ev st.env x = b at hy hp
  -- what is appended
  have hsrc : ∀ {m : Nat} {src : Src} {q : Rng}, srcOf es b = some (m, src) → src.q = some q → ∃ T ∈ vvToks y, ∃ o a, V.H.get T = some o ∧ A T = some a ∧ idOf a = some q.id := by
    intro m src q h1 h2
    cases hy with
    | @sl O _ hO =>
      simp only [srcK] at hk
      split at hk
      · rename_i z es' ho
        obtain ⟨yy, hyy, hs⟩ := hR.heap O _ ho
        rw [hO] at hyy; cases hyy
        rcases hs.2 with ⟨_, rfl | rfl⟩ | ⟨id, gg, bb, cells, rfl, _⟩
        · cases h1; cases h2
        · simp only [srcOf, cond_eq_ite] at h1
          split at h1
          · cases h1; cases h2
          · cases h1
        · simp only [srcOf, cond_eq_ite] at h1
          split at h1
          · cases h1; cases h2
            exact ⟨O, by simp [vvToks], _, _, ho, hO, rfl⟩
          · cases h1
      · cases hk
    | @tr v _ hc =>
      cases hc <;> first | (cases h1; done) | skip
      · cases h1; cases h2
      · simp only [srcOf, cond_eq_ite] at h1
        split at h1
        · cases h1; cases h2
        · cases h1
    | nil0 => cases h1; cases h2
    | nil1 =>
      simp only [srcOf, cond_eq_ite] at h1
      split at h1
      · cases h1; cases h2
      · cases h1
    | _ => cases hk
  have hk' : ∃ xs, match w with
      | .nil0 => ∃ l, appT bytes [] xs = some l ∧ newV nt V d g .sl (.gr es l) k
      | .sl O => (match V.H.get O with
        | some (.gr z es') => same z es (∃ l, appT bytes es' xs = some l ∧ newV nt (dropO V O) d g .sl (.gr es l) k)
        | _ => False)
      | _ => False := by
    unfold srcK at hk
    split at hk
    · obtain ⟨xs, _, _, h⟩ := hk; exact ⟨xs, h⟩
    · exact ⟨_, hk⟩
    · split at hk
      · exact ⟨_, (same_ok hk).2⟩
      · cases hk
    · cases hk
  have hdst : ∀ {id : Nat}, idOf a = some id → ∃ T ∈ vvToks w, ∃ o a, V.H.get T = some o ∧ A T = some a ∧ idOf a = some id := by
    intro id hi
    obtain ⟨xs, hk'⟩ := hk'
    cases hw with
    | nil0 => cases hi
    | nil1 => cases hi
    | @sl O _ hO =>
      simp only at hk'
      split at hk'
      · rename_i z es' ho; exact ⟨O, by simp [vvToks], _, _, ho, hO, hi⟩
      · cases hk'
    | _ => cases hk'
  have mk : ∀ (q : Option Rng) (u : Option Nat) (kk : List AV → Option AObj → Option Out), (∀ r, q = some r → ∃ T ∈ vvToks y, ∃ o a, V.H.get T = some o ∧ A T = some a ∧ idOf a = some r.id) →
      (∀ i, u = some i → ∃ T ∈ vvToks w, ∃ o a, V.H.get T = some o ∧ A T = some a ∧ idOf a = some i) → Look A V ⟨vvToks w ++ vvToks y, vvToks w, vvToks w⟩ (Plan.look q u kk).rds (Plan.look q u kk).tch := by
    intro q u kk h1 h2
    refine ⟨fun z hz => ?_, fun id hid => ?_⟩
    · simp only [Plan.rds, List.mem_append] at hz
      rcases hz with hz | hz
      · cases q with
        | none => cases hz
        | some r =>
          simp at hz; subst hz
          obtain ⟨T, h3, h4⟩ := h1 r rfl
          exact ⟨r.id, rfl, T, List.mem_append_right _ h3, h4⟩
      · cases u with
        | none => cases hz
        | some i =>
          simp at hz; subst hz
          obtain ⟨T, h3, h4⟩ := h2 i rfl
          exact ⟨i, rfl, T, List.mem_append_left _ h3, h4⟩
    · cases u with
      | none => cases hid
      | some i =>
        simp [Plan.tch] at hid; subst hid
        exact h2 _ rfl
  unfold appA at hp
  split at hp
  · cases hp
  rename_i m src hm
  rw [cond_eq_ite] at hp
  split at hp
  · rw [cond_eq_ite] at hp
    split at hp
    · cases hp; exact look_nil
    · cases hp
  · split at hp
    · rw [cond_eq_ite] at hp
      split at hp
      · cases hp; exact mk _ _ _ (fun r hr => hsrc hm hr) (fun i hi => by cases hi)
      · cases hp
    · rw [cond_eq_ite] at hp
      split at hp
      · cases hp; exact mk _ _ _ (fun r hr => hsrc hm hr) (fun i hi => by cases hi)
      · cases hp
    · rename_i id gg off es' len cap ex
      rw [cond_eq_ite] at hp
      split at hp
      · cases hp
        unfold appRef
        rw [cond_eq_ite]
        split
        · exact mk _ _ _ (fun r hr => hsrc hm hr) (fun i hi => by cases hi; exact hdst rfl)
        · rw [cond_eq_ite]
          split
          · exact mk _ _ _ (fun r hr => hsrc hm hr) (fun i hi => by cases hi; exact hdst rfl)
          · exact mk _ _ _ (fun r hr => hsrc hm hr) (fun i hi => by cases hi; exact hdst rfl)
      · cases hp
    · cases hp

theorem part_toks_mono {V' : VSt} (he : V'.env = V.env) : ∀ (parts : List (Nat × Nat × Opd)), partToks V' parts = partToks V parts
  | [] => rfl
  | (_, _, x) :: r => by
    have e1 : vvOf V' x = vvOf V x := by cases x <;> simp only [vvOf, he]
    simp only [partToks, part_toks_mono he r, e1]
theorem elems_look {sz : Nat} : ∀ (parts : List (Nat × Nat × Opd)) (j : Nat) (V : VSt) (k : List TV → VSt → Prop), R A V st → elemsK V none true sz j parts k →
    ∀ id ∈ (parts.map fun p => ev st.env p.2.2).flatMap (idsOf deep st.H), ∃ T ∈ partToks V parts, ∃ o a, V.H.get T = some o ∧ A T = some a ∧ idOf a = some id
  | [], j, V, k, hR, hk, id, hid => by simp at hid
  | (off, n, x) :: r, j, V, k, hR, hk, id, hid => by
    obtain ⟨_, hk⟩ := hk
    obtain ⟨hw, hk⟩ := rdK_both (g := none) hR trivial hk
    rw [List.map_cons, List.flatMap_cons, List.mem_append] at hid
    -- the rest
    have rest : ∀ {V1 : VSt} {k' : List TV → VSt → Prop}, Sub V V1 → elemsK V1 none true sz (j + 1) r k' → id ∈ (r.map fun p => ev st.env p.2.2).flatMap (idsOf deep st.H) →
        ∃ T ∈ vvToks (vvOf V x) ++ partToks V r, ∃ o a, V.H.get T = some o ∧ A T = some a ∧ idOf a = some id := by
      intro V1 k' hs hk' hi
      obtain ⟨T, h1, o, a, h2, h3, h4⟩ := elems_look r (j + 1) V1 k' (hs.r hR) hk' id hi
      rw [part_toks_mono hs.env] at h1
      exact ⟨T, List.mem_append_right _ h1, o, a, hs.H _ _ h2, h3, h4⟩
    simp only [partToks]
    generalize vvOf V x = w at hw hk rest
    generalize ev st.env x = a at hw hid
    have no : a.plain = true → id ∈ idsOf deep st.H a → False := fun hp hi => by
      have : idsOf deep st.H a = [] := ids_plain hp 27 _
      rw [this] at hi; cases hi
    cases hw with
    | tr hc => exact hid.elim (fun hi => (no (can_plain hc) hi).elim) (rest (Sub.refl V) hk.2)
    | nil0 => exact hid.elim (fun hi => (no rfl hi).elim) (rest (Sub.refl V) hk.2)
    | nil1 => exact hid.elim (fun hi => (no rfl hi).elim) (rest (Sub.refl V) hk.2)
    | @sl O _ hO =>
      obtain ⟨_, _, hk⟩ := hk
      simp only [slOf] at hk
      split at hk
      · rename_i z es ho
        refine hid.elim (fun hi => ?_) (rest (sub_dropVV V (.sl O)) hk)
        obtain ⟨y, hy, hs⟩ := hR.heap O _ ho
        rw [hO] at hy; cases hy
        exact ⟨O, List.mem_append_left _ (by simp [vvToks]), _, _, ho, hO, ids_sl hs 28 id hi⟩
      · cases hk
    | @st t o cs tl hv hc =>
      obtain ⟨_, hk⟩ := hk
      have hthere := toTs_there hk
      obtain ⟨u, hk⟩ := toTs_ex hk
      refine hid.elim (fun hi => ?_) (rest (sub_dropOvs o V) hk.2)
      have hi' : id ∈ cs.flatMap (idsOf 29 st.H) := hi
      obtain ⟨y, hy, hi'⟩ := List.mem_flatMap.1 hi'
      obtain ⟨q, hq⟩ := List.getElem?_of_mem hy
      have hlt : q < tl.length := by rw [hc.len]; exact (List.getElem?_eq_some_iff.1 hq).1
      have hat := hc.at_ q _ y (List.getElem?_eq_getElem hlt) hq
      cases ho : ovAt q o with
      | none =>
        rw [ho] at hat
        have hh : idsOf 29 st.H y = [] := ids_flat hat.2 28 _
        rw [hh] at hi'; cases hi'
      | some w =>
        rw [ho] at hat
        cases w <;> first | (exact absurd hat (by intro hh; exact hh)) | skip
        · rcases hat with e | e <;> (rw [e] at hi'; cases hi')
        · rename_i O
          have hO : A O = some y := hat
          obtain ⟨z, es, hO'⟩ := hthere q O (ovAt_mem ho)
          obtain ⟨y', hy', hs'⟩ := hR.heap O _ hO'
          rw [hO] at hy'; cases hy'
          have hmem : ∀ {l : List (Nat × VV)} {i : Nat}, (i, VV.sl O) ∈ l → O ∈ ovToks l := by
            intro l
            induction l with
            | nil => intro i h; cases h
            | cons p l ih =>
              intro i h
              obtain ⟨i', w'⟩ := p
              rcases List.mem_cons.1 h with h1 | h1
              · cases h1; simp [ovToks]
              · cases w' <;> first | exact ih h1 | exact List.mem_cons_of_mem _ (ih h1)
          exact ⟨O, List.mem_append_left _ (hmem (ovAt_mem ho)), _, _, hO', hO, ids_sl hs' 27 id hi'⟩
    | _ => cases hk
theorem trees_plain (hR : R A V st) (ha : act g) : ∀ {xs : List Opd} {k : Bool → List TV → Prop}, treesB V xs = true → argsK V g xs k → allB AV.plain (xs.map (ev st.env)) = true
  | [], k, h, hk => rfl
  | x :: xs, k, h, hk => by
    simp only [treesB, Bool.and_eq_true] at h
    obtain ⟨hw, hk⟩ := rdK_both hR ha hk
    rw [List.map_cons, allB_true]
    have h1 := h.1
    generalize vvOf V x = w at hw hk h1
    generalize ev st.env x = a at hw
    have fin : ∀ {kk : Bool → List TV → Prop}, a.plain = true → argsK V g xs kk → ∀ y ∈ a :: xs.map (ev st.env), AV.plain y = true := by
      intro kk hp hk y hy
      rcases List.mem_cons.1 hy with rfl | hy
      · exact hp
      · exact allB_true.1 (trees_plain hR ha h.2 hk) y hy
    cases hw <;> first | (cases h1; done) | skip
    · rename_i v hc; exact fin (can_plain hc) hk
    · exact fin rfl hk
    · exact fin rfl hk
    · rename_i v ovs cs ts hv hc
      obtain ⟨t, hk⟩ := toTs_ex hk
      exact fin (cells_plain hc h1) hk
/-- what is looked at, as the record says -/
theorem evO_eff (hR : R A V st) {o : AOper} (h : evO sh prog nt V o k) {f : Foot} (hf : foot V o = some f) {st' : St} (hrun : runOp (runFn prog) nt o st = some st') (n0 : Nat) :
    ∃ r, effStep (runFn prog) nt n0 o st = some (st', r) ∧ FootOk A V f r ∧ r.nx0 = st.nx ∧ r.nx1 = st'.nx := by
  obtain ⟨dd, op, gd, fz⟩ := o
  unfold runOp at hrun
  simp only [cond_eq_ite] at hrun
  by_cases hw : wanted st.env gd = true
  rotate_left
  · rw [if_neg hw] at hrun
    split at hrun
    · rename_i e he
      cases hrun
      exact ⟨⟨[], .ids [], st.H, st.H, st.nx, st.nx⟩, by simp only [effStep, cond_eq_ite, if_neg hw, he], ⟨fun x hx => (by cases hx), ⟨[], rfl, fun id hid => (by cases hid)⟩⟩, rfl, rfl⟩
    · cases hrun
  rw [if_pos hw] at hrun
  split at hrun
  · cases hrun
  rename_i v H' nx' hdo
  split at hrun
  rotate_left
  · cases hrun
  rename_i e he
  cases hrun
  have fin : ∀ {rds : List Rd} {tch : List Nat}, effFz (runFn prog) n0 ⟨dd, op, gd, fz⟩ (ev st.env) st.H st.nx = some (v, H', nx', rds, .ids tch) → Look A V f rds tch →
      ∃ r, effStep (runFn prog) nt n0 ⟨dd, op, gd, fz⟩ st = some (⟨e, H', nx'⟩, r) ∧ FootOk A V f r ∧ r.nx0 = st.nx ∧ r.nx1 = nx' := by
    intro rds tch h1 h2
    exact ⟨⟨rds, .ids tch, st.H, H', st.nx, nx'⟩, by simp only [effStep, cond_eq_ite, if_pos hw, h1, he], ⟨h2.1, tch, rfl, h2.2⟩, rfl, rfl⟩
  cases fz with
  | true =>
    have hgd : gd = none := by
      cases gd with
      | none => rfl
      | some p => cases h
    subst hgd
    simp only [evO] at h
    split at h
    · rename_i len zero parts
      simp only [foot] at hf
      cases hf
      unfold evIsl at h
      simp only at h
      split at h
      · split at h <;> first | (cases h; done) | skip
        split at h <;> first | (cases h; done) | skip
      · rename_i n
        have hk := (same_ok (pos_ok h).2).2
        have hlook := elems_look parts 0 V _ hR hk
        simp only [doFz, cond_true] at hdo
        split at hdo
        · cases hdo
        rename_i l hl
        split at hdo
        · rename_i v' hv'
          cases hdo
          refine fin (rds := ((parts.map fun p => ev st.env p.2.2).flatMap (idsOf deep st.H)).map Rd.obj) (tch := (parts.map fun p => ev st.env p.2.2).flatMap (idsOf deep st.H)) ?_ ⟨fun x hx => ?_, hlook⟩
          · simp only [effFz, cond_true, hl, hv']
          · obtain ⟨id, hid, rfl⟩ := List.mem_map.1 hx
            exact ⟨id, rfl, hlook id hid⟩
        · cases hdo
    · cases h
  | false =>
    have hev : ∃ g : G, act g ∧ evU sh prog nt V dd g op k := by
      cases gd with
      | none => exact ⟨none, trivial, h⟩
      | some p =>
        obtain ⟨n, bb⟩ := p
        obtain ⟨c, a, ha, hca, h⟩ := rdT_t hR h
        refine ⟨some (c, bb), ?_, h⟩
        simp only [wanted, ha] at hw
        split at hw
        · rename_i b' hb
          cases hb
          cases hca
          show TV.b b' = TV.b bb
          congr 1
          cases b' <;> cases bb <;> first | rfl | cases hw
        · cases hw
    obtain ⟨g, hact, h⟩ := hev
    have hdo' : doOp (runFn prog) op (ev st.env) st.H st.nx = some (v, H', nx') := hdo
    have plan : ∀ {p : (Opd → AV) → Option Plan}, kind op = .plan p → (∀ q, p (ev st.env) = some q → Look A V f q.rds q.tch) → ∃ r, effStep (runFn prog) nt n0 ⟨dd, op, gd, false⟩ st = some (⟨e, H', nx'⟩, r) ∧ FootOk A V f r ∧ r.nx0 = st.nx ∧ r.nx1 = nx' := by
      intro p hk hl
      simp only [doOp, hk] at hdo'
      split at hdo'
      · rename_i q hq
        refine fin (rds := q.rds) (tch := q.tch) ?_ (hl q hq)
        simp only [effFz, cond_false, effOp, hk, hq, hdo']
      · cases hdo'
    have plain : ∀ {p : (Opd → AV) → Option Plan}, kind op = .plan p → still0 (p (ev st.env)) → ∃ r, effStep (runFn prog) nt n0 ⟨dd, op, gd, false⟩ st = some (⟨e, H', nx'⟩, r) ∧ FootOk A V f r ∧ r.nx0 = st.nx ∧ r.nx1 = nx' :=
      fun hk hs => plan hk (fun q hq => look_val (hs q hq))
    have call : ∀ {n : Nat} {args : List Opd}, (kind op = .call n args .borrow ∨ ∃ fv, kind op = .callv fv args .borrow ∧ ev st.env fv = .func n) → allB AV.plain (args.map (ev st.env)) = true →
        ∃ r, effStep (runFn prog) nt n0 ⟨dd, op, gd, false⟩ st = some (⟨e, H', nx'⟩, r) ∧ FootOk A V f r ∧ r.nx0 = st.nx ∧ r.nx1 = nx' := by
      intro n args hk hp
      have hd : doCall (runFn prog) n (args.map (ev st.env)) .borrow st.H st.nx = some (v, H', nx') := by
        rcases hk with hk | ⟨fv, hk, hf⟩
        · simpa only [doOp, hk] using hdo'
        · simpa only [doOp, hk, hf] using hdo'
      have hH : H' = st.H ∧ nx' = st.nx := by
        have hd' := hd
        simp only [doCall, hp, cond_true] at hd'
        split at hd'
        · cases hd'; exact ⟨rfl, rfl⟩
        · cases hd'
      obtain ⟨rfl, rfl⟩ := hH
      refine fin (rds := []) (tch := []) ?_ look_nil
      rcases hk with hk | ⟨fv, hk, hf⟩
      · simp only [effFz, cond_false, effOp, hk, effCall, hp, cond_true, hd]
      · simp only [effFz, cond_false, effOp, hk, hf, effCall, hp, cond_true, hd]
    cases op with
    | mv x => exact plain rfl (still0_val _)
    | pick c a b =>
      refine plain (p := fun ρ => pPick ρ c a b) rfl ?_
      unfold pPick
      split
      · split <;> exact still0_val _
      · exact still0_none
    | alloc zero => exact plain rfl (still0_new _ _)
    | box x =>
      refine plain (p := fun ρ => pBox ρ x) rfl ?_
      unfold pBox
      split
      · exact still0_new _ _
      · exact still0_none
    | build zero parts =>
      refine plain (p := fun ρ => pBuild ρ zero parts) rfl ?_
      unfold pBuild
      split
      · exact still0_val _
      · exact still0_none
    | bslice es len zero parts =>
      refine plain (p := fun ρ => pBslice ρ es len zero parts) rfl ?_
      unfold pBslice
      split
      · exact still0_new _ _
      · exact still0_none
    | islice len zero parts =>
      refine plain (p := fun ρ => pIslice ρ len zero parts) rfl ?_
      unfold pIslice
      split
      · rw [cond_eq_ite]
        split
        · exact still0_val _
        · exact still0_none
      · exact still0_none
    | load sz a =>
      simp only [foot] at hf
      cases hf
      exact plan (p := fun ρ => pLoad ρ sz a) rfl (fun q hq => load_look hR hact h hq)
    | store sz a x =>
      simp only [foot] at hf
      cases hf
      cases g with
      | none =>
        cases dd with
        | none => exact plan (p := fun ρ => pStore ρ sz a x) rfl (fun q hq => store_look hR h hq)
        | some _ => cases h
      | some _ => cases h
    | nilck x =>
      refine plain (p := fun ρ => pNilck ρ x) rfl ?_
      unfold pNilck
      split <;> first | exact still0_val _ | exact still0_none
    | bin op x y => exact plain (p := fun ρ => pureO (binA op (ρ x) (ρ y))) rfl (still0_pure _)
    | eq t neg x y =>
      refine plain (p := fun ρ => pEq ρ t neg x y) rfl ?_
      unfold pEq
      split
      · exact still0_val _
      · exact still0_none
    | un op x => exact plain (p := fun ρ => pureO (unA op (ρ x))) rfl (still0_pure _)
    | conv c x =>
      refine plain (p := fun ρ => pConv ρ c x) rfl ?_
      unfold pConv
      split
      · exact still0_val _
      · exact still0_none
    | mksl es bytes zero n =>
      refine plain (p := fun ρ => pMksl ρ es bytes zero n) rfl ?_
      unfold pMksl
      split
      · split
        · rw [cond_eq_ite]
          split
          · exact still0_new _ _
          · exact still0_none
        · exact still0_none
      · exact still0_none
    | slstr x lo hi =>
      refine plain (p := fun ρ => pSlstr ρ x lo hi) rfl ?_
      unfold pSlstr
      split
      · split
        · exact still0_none
        · exact still0_val _
      · exact still0_none
    | slsl es x lo hi mx => exact plain (p := fun ρ => pureO (slA es ρ (ρ x) lo hi mx)) rfl (still0_pure _)
    | slarr n es x lo hi mx => cases hf
    | faddr off x =>
      refine plain (p := fun ρ => pFaddr ρ off x) rfl ?_
      unfold pFaddr
      split <;> first | exact still0_val _ | exact still0_none
    | fld off sz x =>
      refine plain (p := fun ρ => pFld ρ off sz x) rfl ?_
      unfold pFld
      split
      · split
        · exact still0_pure _
        · exact still0_none
      · exact still0_none
    | iaddr es x i =>
      refine plain (p := fun ρ => pIaddr ρ es x i) rfl ?_
      unfold pIaddr
      split
      · split
        · split
          · split
            · exact still0_none
            · exact still0_val _
          · exact still0_none
        · rw [cond_eq_ite]
          split
          · split
            · exact still0_val _
            · exact still0_none
          · exact still0_none
        · exact still0_none
      · exact still0_none
    | iarr len es x i =>
      refine plain (p := fun ρ => pIarr ρ len es x i) rfl ?_
      unfold pIarr
      split
      · split
        · split <;> first | exact still0_val _ | exact still0_none
        · exact still0_none
      · exact still0_none
    | idx x i =>
      refine plain (p := fun ρ => pIdx ρ x i) rfl ?_
      unfold pIdx
      split
      · split
        · split
          · exact still0_val _
          · exact still0_none
        · exact still0_none
      · exact still0_none
    | ext i x =>
      refine plain (p := fun ρ => pExt ρ i x) rfl ?_
      unfold pExt
      split
      · exact still0_pure _
      · exact still0_none
    | app es bytes s x =>
      simp only [foot] at hf
      cases hf
      exact plan (p := fun ρ => appA es bytes (ρ s) (ρ x)) rfl (fun q hq => app_look hR hact h hq)
    | cpy es dd s => cases hf
    | clr es zero x => cases hf
    | len str x =>
      refine plain (p := fun ρ => pLen ρ str x) rfl ?_
      unfold pLen
      split
      · split
        · exact still0_val _
        · exact still0_none
      · split <;> first | exact still0_val _ | exact still0_none
    | mnx mx xs =>
      refine plain (p := fun ρ => pMnx ρ mx xs) rfl ?_
      unfold pMnx
      split
      · exact still0_pure _
      · exact still0_none
    | mkmap => cases h
    | mlook t zero ok m k => cases hf
    | mset t m k v => cases hf
    | mlen m => cases hf
    | call n args m =>
      cases m with
      | share => cases hf
      | borrow =>
        simp only [foot] at hf
        split at hf
        · rename_i ht
          simp only [evU] at h
          exact call (.inl rfl) (trees_plain hR hact ht h)
        · cases hf
    | callv fv args m =>
      cases m with
      | share => cases hf
      | borrow =>
        simp only [foot] at hf
        split at hf
        · rename_i ht
          simp only [evU] at h
          obtain ⟨fvv, hfv, h⟩ := rdT_sim hR hact h
          cases g with
          | none =>
            obtain ⟨n, rfl, h⟩ := h
            generalize he' : ev st.env fv = p at hfv
            cases hfv
            exact call (.inr ⟨fv, rfl, he'⟩) (trees_plain (g := none) hR trivial ht h)
          | some _ => cases h
        · cases hf
end
end Go.Ax.V
