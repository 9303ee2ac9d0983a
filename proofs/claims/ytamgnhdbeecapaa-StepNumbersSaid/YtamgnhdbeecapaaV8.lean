/- Appending, slicing, making; numbers; calls. -/
import Derived.Test.YtamgnhdbeecapaaV7
set_option linter.unusedSimpArgs false
set_option linter.unusedVariables false
namespace Go.Ax.V

section
variable {prog : Map AFunc} {cf : FnF} {nt : Nat} {A : Tok} {V : VSt} {st : St} {d : Option Nat} {g : G} {k : VSt → Prop}

theorem szHd_eq {sz z : Nat} {es : List TV} {cs : List AV} {n : Nat} (h : szHd sz es) (hn : es.length = n) (hc : cs.length = n * z) (hh : ∀ (j : Nat) (e : TV), es[j]? = some e → CanC e ((cs.drop (j * z)).take z)) : es = [] ∨ sz = z := by
  cases es with
  | nil => exact .inl rfl
  | cons e r =>
    right
    obtain ⟨l, hl1, hl2⟩ := szOk_cells h
    obtain ⟨ts, ht1, ht2⟩ := canC_iff.1 (hh 0 e rfl)
    rw [hl1] at ht1; cases ht1
    rw [← hl2, ht2.1]
    have : z ≤ cs.length := by rw [hc, ← hn, List.length_cons, Nat.add_mul, Nat.one_mul]; omega
    simp only [List.length_take, List.length_drop]; omega
structure SrcR (H : Heap) (sz : Nat) (xs : List TV) (a : AV) (src : Src) (l : List AV) : Prop where
  eq : srcOf sz a = some (xs.length, src)
  get : fetch H src.q = some l
  el : ElR sz xs (src.cs l)
theorem el_nil (sz : Nat) : ElR sz [] [] := ⟨by simp, fun x hx => by simp at hx, fun j e h => by simp at h⟩
theorem sl_src {H : Heap} {sz : Nat} {es : List TV} {a : AV} (h : SlR H sz es a) : ∃ src l, SrcR H sz es a src l := by
  obtain ⟨hz, h⟩ := h
  rcases h with ⟨rfl, rfl | rfl⟩ | ⟨id, g, b, cells, rfl, hH, hb, he⟩
  · exact ⟨.list [], [], rfl, rfl, el_nil sz⟩
  · exact ⟨.list [], [], by simp [srcOf], rfl, el_nil sz⟩
  · have hl := he.len
    rw [List.length_drop] at hl
    refine ⟨.rng ⟨id, g, b, es.length * sz⟩, cells.drop b, by simp [srcOf], ?_, he⟩
    simp only [Src.q, fetch, hH, cond_eq_ite, Nat.beq_eq, if_pos]
    rw [cut_eq, if_pos (by omega), List.take_of_length_le (by rw [List.length_drop]; omega)]
theorem srcK_sim (hR : R A V st) {sz : Nat} (hz : 0 < sz) {w : VV} {a : AV} (hw : VR A w a) {k : List TV → Prop} (hk : srcK V sz w k) : ∃ xs src l, SrcR st.H sz xs a src l ∧ k xs := by
  cases hw with
  | @tr v _ hc =>
    obtain ⟨xs, h1, h2, h3⟩ := hk
    cases v <;> first | (cases h1; done) | skip
    cases h1
    cases hc with
    | nil => exact ⟨[], .list [], [], ⟨rfl, rfl, el_nil sz⟩, h3⟩
    | imm _ cs n z c hn hcl hsz hf hh =>
      refine ⟨xs, .list cs, [], ?_, h3⟩
      rcases szHd_eq h2 hn hcl hh with rfl | rfl
      · simp at hn; subst hn
        have : cs = [] := List.length_eq_zero_iff.1 (by omega)
        subst this
        exact ⟨by simp [srcOf], rfl, el_nil sz⟩
      · exact ⟨by simp [srcOf, hn, hcl], rfl, ⟨by show cs.length = _; rw [hcl, hn], hf, hh⟩⟩
  | nil0 => exact ⟨[], .list [], [], ⟨rfl, rfl, el_nil sz⟩, hk⟩
  | nil1 => exact ⟨[], .list [], [], ⟨by simp [srcOf], rfl, el_nil sz⟩, hk⟩
  | @sl O _ hO =>
    simp only [srcK] at hk
    split at hk
    · rename_i z es ho
      obtain ⟨rfl, hk2⟩ := same_ok hk
      obtain ⟨y, hy, hs⟩ := hR.heap O _ ho
      rw [hO] at hy; cases hy
      obtain ⟨src, l, h⟩ := sl_src hs
      exact ⟨es, src, l, h, hk2⟩
    · cases hk
  | _ => cases hk
theorem el_append {sz : Nat} {es xs : List TV} {cs ds : List AV} (h : ElR sz es cs) (h' : ElR sz xs ds) : ElR sz (es ++ xs) (cs ++ ds) := by
  refine ⟨by rw [List.length_append, List.length_append, h.len, h'.len, Nat.add_mul], fun x hx => (List.mem_append.1 hx).elim (h.flat x) (h'.flat x), fun j e hj => ?_⟩
  by_cases hlt : j < es.length
  · rw [List.getElem?_append_left hlt] at hj
    have := mul_lt_seg (z := sz) hlt
    have : ((cs ++ ds).drop (j * sz)).take sz = (cs.drop (j * sz)).take sz := by
      rw [List.drop_append_of_le_length (by rw [h.len]; omega), List.take_append_of_le_length (by rw [List.length_drop, h.len]; omega)]
    rw [this]; exact h.el j e hj
  · rw [List.getElem?_append_right (by omega)] at hj
    have e1 : j * sz = cs.length + (j - es.length) * sz := by rw [h.len, ← Nat.add_mul]; congr 1; omega
    have : ((cs ++ ds).drop (j * sz)) = ds.drop ((j - es.length) * sz) := by rw [e1, List.drop_append]; simp
    rw [this]; exact h'.el _ e hj
theorem appT_some {bytes : Nat} {es xs l : List TV} (h : appT bytes es xs = some l) : l = es ++ xs ∧ (es.length + xs.length) * bytes ≤ most ∧ es.length + xs.length ≤ most := by
  unfold appT at h
  rw [cond_eq_ite] at h
  split at h
  · rename_i hh
    rw [Bool.and_eq_true, Nat.ble_eq, Nat.ble_eq] at hh
    cases h; exact ⟨rfl, hh.1, hh.2⟩
  · cases h

/-- appending to a slice: `V1` is the state without the slice's own object -/
theorem app_core (hR : R A V st) {V1 : VSt} (hs : Sub V V1) {sz bytes : Nat} {es xs l : List TV} {s x : AV} {src : Src} {lc : List AV} (hsl : SlR st.H sz es s) (hone : s.one = true) (hown : ∀ id, idOf s = some id → ¬ Own V1 A id ∧ Own V A id)
    (hx : SrcR st.H sz xs x src lc) (happ : appT bytes es xs = some l) {so xo : Opd} (e1 : ev st.env so = s) (e2 : ev st.env xo = x) (hk : newV nt V1 d g .sl (.gr sz l) k) : Sim cf nt A V st d (.app sz bytes so xo) k := by
  obtain ⟨rfl, hb1, hb2⟩ := appT_some happ
  have hR1 := hs.r hR
  have hz := hsl.1
  have hkind : kind (.app sz bytes so xo) = .plan fun ρ => appA sz bytes (ρ so) (ρ xo) := rfl
  by_cases hm : xs = []
  · subst hm
    refine sim_val (v := s) hkind ?_ (newV_next (a := s) (nx' := st.nx) hR1 hs.H hk (Nat.le_refl _) hR.fresh (fun _ _ => rfl) (fun _ _ _ => rfl) (fun A' _ => by rw [List.append_nil]; exact hsl) hone (fun id hi => ⟨(hown id hi).1, .inl (hown id hi).2⟩) (fun A' O hO => .sl hO))
    have hsl' : isSl s = true := by
      rcases hsl.2 with ⟨_, rfl | rfl⟩ | ⟨id, g, b, cells, rfl, _⟩ <;> rfl
    simp only [appA, e1, e2, hx.eq, List.length_nil, cond_eq_ite, Nat.beq_eq, if_pos, hsl']
  · have hm0 : xs.length ≠ 0 := fun h => hm (List.length_eq_zero_iff.1 h)
    obtain ⟨hz, hsl⟩ := hsl
    -- a row of its own
    have fresh : ∀ (n : Nat), n = (es ++ xs).length → ∀ cells, ElR sz (es ++ xs) cells → Next nt A V st d (.ref st.nx 0 0 sz n n false) (st.H.put (some (.row 0 cells)) st.nx) (st.nx + 1) k := by
      intro n hn cells hE
      subst hn
      obtain ⟨e', p1, V2, A2, p2, p3, p4⟩ := fresh_next (A := A) (V := V1) (st := st) (a := .ref st.nx 0 0 sz (es ++ xs).length (es ++ xs).length false) (v := .ref st.nx 0 0 sz (es ++ xs).length (es ++ xs).length false) (ob := .row 0 cells) hR1 hk
        (fun A' hA => ⟨hz, .inr ⟨_, _, _, cells, rfl, by rw [Map.get_put, if_pos rfl], Nat.zero_le _, hE⟩⟩) rfl rfl (fun A' O hO => .sl hO)
      exact ⟨e', p1, V2, A2, p2, ⟨p3.le, fun id hid hn => p3.same id hid (fun ho => hn (hs.own ho)), fun id ho => (p3.own id ho).imp hs.own (fun x => x)⟩, p4⟩
    rcases hsl with ⟨rfl, rfl | rfl⟩ | ⟨id, gg, b, cells, rfl, hH, hb, hE⟩
    · refine ⟨_, _, _, ?_, fresh xs.length (by simp) (src.cs lc) (by simpa using hx.el)⟩
      simp only [List.length_nil, Nat.zero_add] at hb1 hb2
      simp only [doOp, hkind, appA, e1, e2, hx.eq, cond_eq_ite, Nat.beq_eq, if_neg hm0, Bool.and_eq_true, Nat.ble_eq]
      rw [if_pos ⟨hb1, hb2⟩]
      simp only [runPlan, runLook, hx.get, fetchO, setO]
    · refine ⟨_, _, _, ?_, fresh (0 + xs.length) (by simp) (src.cs lc) (by simpa using hx.el)⟩
      simp only [List.length_nil] at hb1 hb2
      simp only [doOp, hkind, appA, e1, e2, hx.eq, cond_eq_ite, Nat.beq_eq, if_neg hm0, Bool.and_eq_true, Nat.ble_eq, Nat.blt_eq]
      rw [if_pos ⟨⟨⟨by show 0 < 0 + xs.length; omega, by simp⟩, hb1⟩, hb2⟩]
      simp only [runPlan, runLook, hx.get, fetchO, setO, List.nil_append]
      rfl
    · have hl := hE.len
      rw [List.length_drop] at hl
      obtain ⟨hn1, hn2⟩ := hown id rfl
      have hE2 := el_append hE hx.el
      refine ⟨.ref id (gg + 1) 0 sz (es.length + xs.length) (es.length + xs.length) false, st.H.put (some (.row (gg + 1) (cells.drop b ++ src.cs lc))) id, st.nx, ?_,
        newV_next (a := .ref id (gg + 1) 0 sz (es.length + xs.length) (es.length + xs.length) false) hR1 hs.H hk (Nat.le_refl _) (fun i o hh => ?_) (fun i ho => ?_) (fun i _ hn => ?_) (fun A' _ => ⟨hz, .inr ⟨id, gg + 1, 0, _, by rw [List.length_append], by rw [Map.get_put, if_pos rfl], Nat.zero_le _, hE2⟩⟩) rfl (fun i hi => ?_) (fun A' O hO => .sl hO)⟩
      · simp only [doOp, hkind, appA, e1, e2, hx.eq, cond_eq_ite, Nat.beq_eq, if_neg hm0, Bool.and_eq_true, Nat.ble_eq, if_pos]
        rw [if_pos ⟨⟨trivial, hb1⟩, hb2⟩]
        simp only [appRef, cond_eq_ite, Nat.ble_eq]
        rw [if_neg (by show ¬ (es.length + xs.length ≤ es.length); omega), if_neg (by decide)]
        simp only [runPlan, runLook, hx.get, fetchO, hH, rowK, cond_eq_ite, Nat.beq_eq, if_pos]
        rw [if_pos (by show b + es.length * sz = cells.length; omega)]
        simp only [setO]
        rfl
      · rw [Map.get_put] at hh
        split at hh
        · rename_i e; subst e; exact hR.own_lt hn2
        · exact hR.fresh i o hh
      · rw [Map.get_put, if_neg]
        rintro rfl; exact hn1 ho
      · rw [Map.get_put, if_neg]
        rintro rfl; exact hn hn2
      · cases hi; exact ⟨hn1, .inl hn2⟩
theorem o_app (hR : R A V st) (ha : act g) {es bytes : Nat} {s x : Opd} (h : rdK V g s fun w => rdK V g x fun x => evApp nt V d g es bytes w x k) : Sim cf nt A V st d (.app es bytes s x) k := by
  obtain ⟨w, hw, h⟩ := rdK_sim hR ha h
  obtain ⟨y, hy, hk⟩ := rdK_sim hR ha h
  obtain ⟨hz, hk⟩ := pos_ok hk
  obtain ⟨xs, src, l, hx, hk⟩ := srcK_sim hR hz hy hk
  generalize e1 : ev st.env s = a at hw
  cases hw with
  | nil0 =>
    obtain ⟨l', h1, h2⟩ := hk
    exact app_core hR (Sub.refl V) ⟨hz, .inl ⟨rfl, .inl rfl⟩⟩ rfl (fun id hi => by cases hi) hx h1 e1 rfl h2
  | nil1 =>
    obtain ⟨l', h1, h2⟩ := hk
    exact app_core hR (Sub.refl V) ⟨hz, .inl ⟨rfl, .inr rfl⟩⟩ rfl (fun id hi => by cases hi) hx h1 e1 rfl h2
  | @sl O _ hO =>
    dsimp only at hk
    split at hk
    · rename_i z es' ho
      obtain ⟨rfl, l', h1, h2⟩ := same_ok hk
      obtain ⟨y', hy', hs⟩ := hR.heap O _ ho
      rw [hO] at hy'; cases hy'
      exact app_core hR (sub_dropO V O) hs (hR.one O _ hO) (fun id hi => ⟨gone_dropO hR ho hO hi, ⟨O, _, _, ho, hO, hi⟩⟩) hx h1 e1 rfl h2
    · cases hk
  | _ => cases hk
theorem o_len (hR : R A V st) (ha : act g) {str : Bool} {x : Opd} (h : rdK V g x fun w => evLen nt V d g str w k) : Sim cf nt A V st d (.len str x) k := by
  obtain ⟨w, hw, hk⟩ := rdK_sim hR ha h
  generalize he : ev st.env x = p at hw
  cases str with
  | true =>
    cases hw with
    | @tr v _ hc =>
      obtain ⟨r, h1, h2⟩ := resV_next hR ha hk
      cases v <;> first | (cases h1; done) | skip
      cases h1; cases hc
      exact sim_val rfl (by simp only [pLen, he]) (h2 _ (.i _ _))
    | _ => cases hk
  | false =>
    cases hw with
    | @tr v _ hc =>
      obtain ⟨r, h1, h2⟩ := resV_next hR ha hk
      cases v <;> first | (cases h1; done) | skip
      cases h1
      cases hc with
      | nil => exact sim_val rfl (by simp only [pLen, he]; rfl) (h2 _ (.i _ _))
      | imm _ cs n z c hn => subst hn; exact sim_val rfl (by simp only [pLen, he]) (h2 _ (.i _ _))
    | nil0 => obtain ⟨r, h1, h2⟩ := resV_next hR ha hk; cases h1; exact sim_val rfl (by simp only [pLen, he]) (h2 _ (.i _ _))
    | nil1 => obtain ⟨r, h1, h2⟩ := resV_next hR ha hk; cases h1; exact sim_val (v := .int .i64 ((0 : Nat) : Int)) rfl (by simp only [pLen, he]) (h2 _ (.i _ _))
    | @sl O _ hO =>
      simp only [evLen] at hk
      split at hk
      · rename_i z es ho
        obtain ⟨y, hy, hs⟩ := hR.heap O _ ho
        rw [hO] at hy; cases hy
        obtain ⟨r, h1, h2⟩ := resV_next hR ha hk
        cases h1
        rcases hs.2 with ⟨rfl, rfl | rfl⟩ | ⟨id, gg, b, cells, rfl, _⟩
        · exact sim_val (v := .int .i64 0) rfl (by simp only [pLen, he]) (h2 _ (.i _ _))
        · exact sim_val (v := .int .i64 ((0 : Nat) : Int)) rfl (by simp only [pLen, he]) (h2 _ (.i _ _))
        · exact sim_val rfl (by simp only [pLen, he]) (h2 _ (.i _ _))
      · cases hk
    | _ => cases hk
end
end Go.Ax.V
