/- Making; numbers, strings; calls; every operation, under its guard. -/
import Derived.Test.YtamgnhdbeecapaaV9
set_option linter.unusedSimpArgs false
set_option linter.unusedVariables false
namespace Go.Ax.V

section
variable {prog : Map AFunc} {cf : FnF} {nt : Nat} {A : Tok} {V : VSt} {st : St} {d : Option Nat} {g : G} {k : VSt → Prop}

theorem rows_len (zero : List AV) : ∀ m, (rows m zero).length = m * zero.length
  | 0 => by simp [rows]
  | m + 1 => by
    have := rows_len zero m
    unfold rows at this ⊢
    rw [List.replicate_succ, List.flatten_cons, List.length_append, this, Nat.add_mul, Nat.one_mul, Nat.add_comm]
theorem rows_seg (zero : List AV) : ∀ m j, j < m → ((rows m zero).drop (j * zero.length)).take zero.length = zero
  | 0, j, h => by omega
  | m + 1, 0, h => by
    unfold rows
    rw [List.replicate_succ, List.flatten_cons, Nat.zero_mul, List.drop_zero, List.take_left]
  | m + 1, j + 1, h => by
    have := rows_seg zero m j (by omega)
    unfold rows at this ⊢
    rw [List.replicate_succ, List.flatten_cons, Nat.add_mul, Nat.one_mul, Nat.add_comm, List.drop_append, List.drop_of_length_le (by omega), List.nil_append]
    rwa [show zero.length + j * zero.length - zero.length = j * zero.length by omega]
theorem bases_can {cs : List AV} (h : allB constOk cs = true) : CanL (basesOf cs) cs ∧ ∀ x ∈ cs, AV.flat x = true := by
  refine ⟨⟨bases_len cs, fun j t x ht hx => ?_⟩, fun x hx => (base_can (allB_true.1 h x hx)).2⟩
  rw [bases_at, hx] at ht
  cases ht
  exact (base_can (allB_true.1 h x (List.mem_of_getElem? hx))).1
theorem zero_can {zero : List AV} (h : allB constOk zero = true) : CanC (zeroT zero.length zero) zero := by
  have hb := (bases_can h).1
  have ag : CanC (.a (basesOf zero)) zero := .a _ _ hb.1 hb.2
  unfold zeroT
  split
  · rename_i hl
    match zero, hl, h with
    | [x], _, h =>
      have hx := allB_true.1 h x List.mem_cons_self
      refine .one _ _ ?_ (base_can hx).1
      cases x <;> first | rfl | cases hx
  · exact ag
theorem o_mksl (hR : R A V st) {es bytes : Nat} {zero : List AV} {n : Opd} (h : pos es <| match allB constOk zero && Nat.beq zero.length es with
      | true => rdT V none n fun n => ∃ m, natT bytes n = some m ∧ newV nt V d none .sl (.gr es (List.replicate m (zeroT es zero))) k
      | false => False) : Sim cf nt A V st d (.mksl es bytes zero n) k := by
  have hz := (pos_ok h).1
  replace h := (pos_ok h).2
  split at h
  · rename_i hc
    rw [Bool.and_eq_true, Nat.beq_eq] at hc
    obtain ⟨hc, rfl⟩ := hc
    obtain ⟨v, hv, m, h1, h2⟩ := rdT_sim (g := none) hR trivial h
    unfold natT at h1
    split at h1
    · rename_i ki z
      generalize he : ev st.env n = p at hv
      cases hv
      split at h1
      · rename_i m' hm
        rw [cond_eq_ite] at h1
        split at h1
        · rename_i hcond
          cases h1
          refine sim_new (f := fun id => .ref id 0 0 zero.length m m false) (ob := .row 0 (rows m zero)) rfl ?_ (fresh_next hR h2 (fun A' hA => ⟨hz, .inr ⟨st.nx, 0, 0, rows m zero, by simp, by rw [Map.get_put, if_pos rfl], Nat.zero_le _, ?_⟩⟩) rfl rfl (fun A' O hO => .sl hO))
          · simp only [pMksl, he, hm, hcond, cond_true]
          · rw [List.drop_zero]
            refine ⟨by rw [rows_len, List.length_replicate], fun x hx => ?_, fun j e hj => ?_⟩
            · unfold rows at hx
              obtain ⟨l, hl, hx⟩ := List.mem_flatten.1 hx
              rw [List.mem_replicate] at hl
              rw [hl.2] at hx
              exact (bases_can hc).2 x hx
            · have hlt : j < m := by have := (List.getElem?_eq_some_iff.1 hj).1; simpa using this
              rw [List.getElem?_replicate, if_pos hlt] at hj
              cases hj
              rw [rows_seg zero m j hlt]
              exact zero_can hc
        · cases h1
      · cases h1
    · cases h1
  · cases h

/-! numbers, strings -/
theorem o_bin (hR : R A V st) (ha : act g) {op : BinOp} {x y : Opd} (h : rdT V g x fun x => rdT V g y fun y => resV nt V d g (binT op x y) k) : Sim cf nt A V st d (.bin op x y) k := by
  obtain ⟨u, h1, h⟩ := rdT_sim hR ha h
  obtain ⟨w, h2, h⟩ := rdT_sim hR ha h
  obtain ⟨r, h3, h4⟩ := resV_next hR ha h
  obtain ⟨c, h5, h6⟩ := binT_can h3 h1 h2
  have hk : kind (.bin op x y) = .plan fun ρ => pureO (binA op (ρ x) (ρ y)) := rfl
  exact sim_val hk (by simp only [h5, pureO]) (h4 _ h6)
theorem o_un (hR : R A V st) (ha : act g) {op : UnOp} {x : Opd} (h : rdT V g x fun x => resV nt V d g (unT op x) k) : Sim cf nt A V st d (.un op x) k := by
  obtain ⟨u, h1, h⟩ := rdT_sim hR ha h
  obtain ⟨r, h3, h4⟩ := resV_next hR ha h
  obtain ⟨c, h5, h6⟩ := unT_can h3 h1
  have hk : kind (.un op x) = .plan fun ρ => pureO (unA op (ρ x)) := rfl
  exact sim_val hk (by simp only [h5, pureO]) (h4 _ h6)
theorem o_conv (hR : R A V st) (ha : act g) {c : IntKind} {x : Opd} (h : rdT V g x fun x => resV nt V d g (convT c x) k) : Sim cf nt A V st d (.conv c x) k := by
  obtain ⟨u, h1, h⟩ := rdT_sim hR ha h
  obtain ⟨r, h3, h4⟩ := resV_next hR ha h
  unfold convT at h3
  split at h3
  · cases h3
    generalize he : ev st.env x = p at h1
    cases h1
    exact sim_val rfl (by simp only [pConv, he]) (h4 _ (.i _ _))
  · cases h3
theorem eqT_can {t : EqT} {neg : Bool} {x y r : TV} {a b : AV} (h : eqT t neg x y = some r) (ha : Can x a) (hb : Can y b) : ∃ c, eqV t a b = some c ∧ r = .b (bif neg then !c else c) := by
  cases t with
  | one l =>
    simp only [eqT] at h
    cases hx : flatA x with
    | none => rw [hx] at h; cases h
    | some x' =>
      rw [hx] at h
      cases hy : flatA y with
      | none => rw [hy] at h; cases h
      | some y' =>
        rw [hy] at h
        simp only at h
        cases hc : eqS l x' y' with
        | none => rw [hc] at h; cases h
        | some c =>
          rw [hc] at h
          cases h
          exact ⟨c, by rw [flatA_can hx ha, flatA_can hy hb]; exact hc, by cases neg <;> rfl⟩
  | agg ls =>
    cases ha <;> first | (cases h; done) | skip
    rename_i xs as hl hf hh
    cases hb <;> first | (cases h; done) | skip
    rename_i ys bs hl' hf' hh'
    simp only [eqT] at h
    cases hx : flatAs xs with
    | none => rw [hx] at h; cases h
    | some x' =>
      rw [hx] at h
      cases hy : flatAs ys with
      | none => rw [hy] at h; cases h
      | some y' =>
        rw [hy] at h
        simp only at h
        cases hc : eqL ls x' y' with
        | none => rw [hc] at h; cases h
        | some c =>
          rw [hc] at h
          cases h
          refine ⟨c, ?_, by cases neg <;> rfl⟩
          rw [flatAs_can hx ⟨hl, hh⟩, flatAs_can hy ⟨hl', hh'⟩]
          exact hc
  | slice => cases h
theorem o_eq (hR : R A V st) (ha : act g) {t : EqT} {neg : Bool} {x y : Opd} (h : rdT V g x fun x => rdT V g y fun y => resV nt V d g (eqT t neg x y) k) : Sim cf nt A V st d (.eq t neg x y) k := by
  obtain ⟨u, h1, h⟩ := rdT_sim hR ha h
  obtain ⟨w, h2, h⟩ := rdT_sim hR ha h
  obtain ⟨r, h3, h4⟩ := resV_next hR ha h
  have hk : kind (.eq t neg x y) = .plan fun ρ => pEq ρ t neg x y := rfl
  obtain ⟨c, h5, rfl⟩ := eqT_can h3 h1 h2
  exact sim_val hk (by simp only [pEq, h5]; cases neg <;> rfl) (h4 _ (.b _))
theorem mnA_flat (mx : Bool) : ∀ (l : List AV) (v r : AV), mnA mx v l = some r → v.flat = true → r.flat = true
  | [], v, r, h, hv => by
    have : mnA mx v [] = some v := by cases v <;> rfl
    rw [this] at h; cases h; exact hv
  | w :: l, v, r, h, hv => by
    cases v <;> cases w <;> first | (cases h; done) | skip
    exact mnA_flat mx l _ r h rfl
theorem o_mnx (hR : R A V st) (ha : act g) {mx : Bool} {xs : List Opd} (h : rdTs V g xs fun xs => resV nt V d g (mnxT mx xs) k) : Sim cf nt A V st d (.mnx mx xs) k := by
  obtain ⟨vs, h1, h⟩ := rdTs_sim hR ha h
  obtain ⟨r, h3, h4⟩ := resV_next hR ha h
  unfold mnxT at h3
  split at h3
  · rename_i v l hl
    split at h3
    · rename_i r' hr
      have e := flatAs_can hl h1
      have hk : kind (.mnx mx xs) = .plan fun ρ => pMnx ρ mx xs := rfl
      exact sim_val hk (by simp only [pMnx, e, hr, pureO]) (h4 _ (flatV_can h3))
    · cases h3
  · cases h3
theorem o_idx (hR : R A V st) (ha : act g) {x i : Opd} (h : rdT V g x fun x => rdT V g i fun i => resV nt V d g (idxST x i) k) : Sim cf nt A V st d (.idx x i) k := by
  obtain ⟨u, h1, h⟩ := rdT_sim hR ha h
  obtain ⟨w, h2, h⟩ := rdT_sim hR ha h
  obtain ⟨r, h3, h4⟩ := resV_next hR ha h
  unfold idxST at h3
  split at h3
  · split at h3
    · split at h3
      · rename_i b hb
        cases h3
        generalize e1 : ev st.env x = p at h1
        generalize e2 : ev st.env i = q at h2
        cases h1; cases h2
        exact sim_val rfl (by simp only [pIdx, e1, e2, hb]) (h4 _ (.i _ _))
      · cases h3
    · cases h3
  · cases h3
theorem o_slstr (hR : R A V st) (ha : act g) {x : Opd} {lo hi : Option Opd} (h : rdT V g x fun x => ordT V g lo fun lo => ordT V g hi fun hi => resV nt V d g (slstrT x lo hi) k) : Sim cf nt A V st d (.slstr x lo hi) k := by
  obtain ⟨u, h1, h⟩ := rdT_sim hR ha h
  obtain ⟨l, h, hl⟩ := ordT_bd hR ha h
  obtain ⟨hv, h, hh⟩ := ordT_bd hR ha h
  obtain ⟨r, h3, h4⟩ := resV_next hR ha h
  unfold slstrT at h3
  split at h3
  · split at h3
    · rename_i a b hab
      cases h3
      obtain ⟨hb, _, _⟩ := bds_can hl hh hab
      generalize e1 : ev st.env x = p at h1
      cases h1
      exact sim_val rfl (by simp only [pSlstr, e1, hb]) (h4 _ (.s _))
    · cases h3
  · cases h3
theorem o_ext (hR : R A V st) (ha : act g) {i : Nat} {x : Opd} (h : rdT V g x fun x => resV nt V d g (extT i x) k) : Sim cf nt A V st d (.ext i x) k := by
  obtain ⟨u, h1, h⟩ := rdT_sim hR ha h
  obtain ⟨r, h3, h4⟩ := resV_next hR ha h
  unfold extT at h3
  split at h3
  · rename_i vs
    generalize e1 : ev st.env x = p at h1
    cases h1 with
    | tp _ as hl hf hh =>
      have hlt : i < as.length := by rw [← hl]; exact (List.getElem?_eq_some_iff.1 h3).1
      have hx : as[i]? = some as[i] := List.getElem?_eq_getElem hlt
      exact sim_val rfl (by simp only [pExt, e1, hx, pureO]) (h4 _ (hh i r _ h3 hx))
  · cases h3

/-! calls -/
/-- of one cell, and no slice -/
def sc (t : TV) : Bool := match t with | .l _ => false | .a _ => false | .tp _ => false | _ => true
theorem imm_back {d : Nat} {H : Heap} {v a : AV} (h : toImm (d + 1) H v = some a) (hi : ∀ cs n c, a ≠ .imm cs n c) (ha : ∀ cs, a ≠ .agg cs) (ht : ∀ cs, a ≠ .tup cs) : v = a := by
  cases v with
  | ref id g off es len cap ex =>
    rw [toImm_ref] at h
    split at h
    · rw [cond_eq_ite] at h
      split at h
      · split at h
        · split at h
          · cases h; exact absurd rfl (hi _ _ _)
          · cases h
        · cases h
      · cases h
    · cases h
  | agg cs =>
    rw [toImm_agg] at h
    split at h
    · cases h; exact absurd rfl (ha _)
    · cases h
  | tup cs =>
    rw [toImm_tup] at h
    split at h
    · cases h; exact absurd rfl (ht _)
    · cases h
  | ptr => cases h
  | mapr => cases h
  | _ => exact Option.some.inj h
theorem sc_own {t : TV} {a v : AV} (h : Can t a) (hs : sc t = true) {d : Nat} {H : Heap} (him : toImm (d + 1) H v = some a) : own (d + 1) H v = true := by
  cases h <;> first | (cases hs; done) | skip
  all_goals
    have := imm_back him (fun _ _ _ h => by cases h) (fun _ h => by cases h) (fun _ h => by cases h)
    subst this
    rfl
theorem allB_own {ts : List TV} {as vs : List AV} {d : Nat} {H : Heap} (f : TV → Bool) (ho : ∀ t a v, Can t a → f t = true → toImm d H v = some a → own d H v = true) (hc : CanL ts as) (hs : ∀ t ∈ ts, f t = true) (hm : mapO (toImm d H) vs = some as) : allB (own d H) vs = true := by
  rw [allB_true]
  intro v hv
  obtain ⟨j, hj⟩ := List.getElem?_of_mem hv
  obtain ⟨hl, hat⟩ := mapO_some hm
  obtain ⟨a, ha, him⟩ := hat j v hj
  have hlt : j < ts.length := by rw [hc.1]; exact (List.getElem?_eq_some_iff.1 ha).1
  exact ho _ a v (hc.2 j _ a (List.getElem?_eq_getElem hlt) ha) (hs _ (List.getElem_mem hlt)) him
theorem scal1_own {t : TV} {a v : AV} (h : Can t a) (hs : t.scal1 = true) {d : Nat} {H : Heap} (him : toImm (d + 2) H v = some a) : own (d + 2) H v = true := by
  cases h with
  | a ts as hl hf hh =>
    have hs' := allB_true.1 hs
    cases v with
    | agg cs =>
      rw [toImm_agg] at him
      split at him
      · rename_i cs' hm
        cases him
        rw [own_agg]
        exact allB_own sc (fun t a v h1 h2 h3 => sc_own h1 h2 h3) ⟨hl, hh⟩ (fun t ht => hs' t ht) hm
      · cases him
    | ref id g off es len cap ex =>
      rw [toImm_ref] at him
      split at him
      · rw [cond_eq_ite] at him
        split at him
        · split at him
          · split at him <;> cases him
          · cases him
        · cases him
      · cases him
    | tup cs => rw [toImm_tup] at him; split at him <;> cases him
    | _ => cases him
  | tp ts as hl hf hh => cases hs
  | nil => cases hs
  | imm => cases hs
  | i k n => exact sc_own (.i k n) rfl him
  | b x => exact sc_own (.b x) rfl him
  | s x => exact sc_own (.s x) rfl him
  | f n => exact sc_own (.f n) rfl him
  | np => exact sc_own .np rfl him
theorem scal_own {t : TV} {a v : AV} (h : Can t a) (hs : t.scal = true) {d : Nat} {H : Heap} (him : toImm (d + 3) H v = some a) : own (d + 3) H v = true := by
  cases h with
  | tp ts as hl hf hh =>
    have hs' := allB_true.1 hs
    cases v with
    | tup cs =>
      rw [toImm_tup] at him
      split at him
      · rename_i cs' hm
        cases him
        rw [own_tup]
        exact allB_own TV.scal1 (fun t a v h1 h2 h3 => scal1_own h1 h2 h3) ⟨hl, hh⟩ (fun t ht => hs' t ht) hm
      · cases him
    | ref id g off es len cap ex =>
      rw [toImm_ref] at him
      split at him
      · rw [cond_eq_ite] at him
        split at him
        · split at him
          · split at him <;> cases him
          · cases him
        · cases him
      · cases him
    | agg cs => rw [toImm_agg] at him; split at him <;> cases him
    | _ => cases him
  | a ts as hl hf hh => exact scal1_own (.a ts as hl hf hh) hs him
  | nil => cases hs
  | imm => cases hs
  | i k n => exact sc_own (.i k n) rfl him
  | b x => exact sc_own (.b x) rfl him
  | s x => exact sc_own (.s x) rfl him
  | f n => exact sc_own (.f n) rfl him
  | np => exact sc_own .np rfl him

theorem doCall_vs {ts : List TV} {Q : TV → Prop} {f : Nat} {vs as' : List AV} {H : Heap} {nx : Nat} {p : Bool} (h : VS prog f ts fun r => scOk p r ∧ Q r) (h1 : mapO (toImm deep H) vs = some as') (h2 : CanL ts as')
    (h3 : allB AV.plain vs = true → as' = vs) (h4 : p = true → allB AV.plain vs = true) : ∃ v r, doCall (runFn prog) f vs .borrow H nx = some (v, H, nx) ∧ Can r v ∧ Q r := by
  obtain ⟨v, H', nx', g1, a, g2, r, g3, g4, g5⟩ := h as' h2
  by_cases hp : allB AV.plain vs = true
  · have e := h3 hp
    subst e
    refine ⟨a, r, ?_, g3, g5⟩
    have hend : endOwn (some (v, H', nx')) false = some a := by
      simp only [endOwn, cond_eq_ite]
      rw [if_neg (by decide)]
      by_cases hv : v.plain = true
      · rw [if_pos hv]
        have : toImm deep H' v = some v := imm_plain hv 27 _
        rw [this] at g2; exact g2
      · rw [if_neg hv]; exact g2
    simp only [doCall, hp, cond_true, g1, hend]
  · have hpf : p = false := by cases p with | true => exact absurd (h4 rfl) hp | false => rfl
    subst hpf
    refine ⟨a, r, ?_, g3, g5⟩
    have ho : own deep H' v = true := scal_own (d := 27) g3 g4 g2
    have hpb : allB AV.plain vs = false := by simpa using hp
    simp only [doCall, hpb, cond_false, h1, g1, endOwn, cond_true, ho, g2]
theorem o_call (hR : R A V st) (ha : act g) {f : Nat} {args : List Opd} (h : evCall prog nt V d g f args k) : ∃ v, doCall (runFn prog) f (args.map (ev st.env)) .borrow st.H st.nx = some (v, st.H, st.nx) ∧ Next nt A V st d v st.H st.nx k := by
  obtain ⟨p, ts, as', hk, h1, h2, h3, h4⟩ := argsK_sim hR ha args _ h
  cases g with
  | none =>
    obtain ⟨v, r, g1, g2, g3⟩ := doCall_vs (nx := st.nx) hk h1 h2 h3 h4
    exact ⟨v, g1, putV_tree hR (fun _ => .tr g2) g3⟩
  | some q =>
    obtain ⟨c, bb⟩ := q
    obtain ⟨r, hg, hput⟩ := hk
    have hc : c = .b bb := ha
    subst hc
    have hg' : VS prog f ts fun r' => r' = r ∧ scOk p r := by
      unfold gV at hg
      cases bb <;> exact hg
    have hg'' : VS prog f ts fun r' => scOk p r' ∧ r' = r := hg'.mono (fun r' ⟨e, hs⟩ => by subst e; exact ⟨hs, rfl⟩)
    obtain ⟨v, r', g1, g2, g3⟩ := doCall_vs (nx := st.nx) hg'' h1 h2 h3 h4
    subst g3
    exact ⟨v, g1, putV_tree hR (fun _ => .tr g2) hput⟩
end
end Go.Ax.V
