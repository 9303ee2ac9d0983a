/- Literals, slices, places, numbers, calls. -/
import Derived.Test.YtamgnhdbeecapaaV6
set_option linter.unusedSimpArgs false
set_option linter.unusedVariables false
namespace Go.Ax.V

section
variable {prog : Map AFunc} {cf : FnF} {nt : Nat} {A : Tok} {V : VSt} {st : St} {d : Option Nat} {g : G} {k : VSt → Prop}

theorem pos_ok {n : Nat} {p : Prop} (h : pos n p) : 0 < n ∧ p := by
  unfold pos at h
  rw [cond_eq_ite] at h
  split at h
  · rename_i hh; exact ⟨by simpa using hh, h⟩
  · cases h
theorem same_ok {a b : Nat} {p : Prop} (h : same a b p) : a = b ∧ p := by
  unfold same at h
  rw [cond_eq_ite] at h
  split at h
  · rename_i hh; exact ⟨by simpa using hh, h⟩
  · cases h

theorem drop_get : ∀ (l : List Nat) (H : Heap) (id : Nat), (drop H l).get id = if id ∈ l then none else H.get id
  | [], H, id => by simp [drop]
  | i :: l, H, id => by
    rw [drop, drop_get l, Map.get_put]
    by_cases h : id ∈ l
    · rw [if_pos h, if_pos (List.mem_cons_of_mem _ h)]
    · rw [if_neg h]
      by_cases e : id = i
      · rw [if_pos e, if_pos (by rw [e]; exact List.mem_cons_self)]
      · rw [if_neg e, if_neg (by intro hh; rcases List.mem_cons.1 hh with hh | hh; exact e hh; exact h hh)]
/-- the cells of a literal -/
theorem lit_cells {fz : Bool} {sz : Nat} {parts : List (Nat × Nat × Opd)} {ts : List TV} {V' : VSt} (h : ElK A st fz sz V 0 parts ts V') {zero : List AV} (hl : ts.length * sz = zero.length) :
    ∃ cs, fill (rhoF fz st) parts zero = some cs ∧ ElR sz ts cs := by
  have hlen := h.len
  obtain ⟨cs, g1, g2, g3, g4, gf, g5⟩ := h.fill zero (by rw [Nat.zero_add, ← h.len, hl]; exact Nat.le_refl _)
  refine ⟨cs, g1, by rw [g2, hl], fun x hx => ?_, fun j e hj => by have := g5 j e hj; rwa [Nat.zero_add] at this⟩
  obtain ⟨q, hq⟩ := List.getElem?_of_mem hx
  have := (List.getElem?_eq_some_iff.1 hq).1
  exact gf q x (by omega) (by rw [Nat.zero_add, ← h.len, hl, ← g2]; exact this) hq
theorem o_bslice (hR : R A V st) {es len : Nat} {zero : List AV} {parts : List (Nat × Nat × Opd)} (h : pos es (elemsK V none false es 0 parts fun ts V' => same ts.length len (same zero.length (ts.length * es) (newV nt V' d none .sl (.gr es ts) k)))) : Sim cf nt A V st d (.bslice es len zero parts) k := by
  obtain ⟨hz, h⟩ := pos_ok h
  obtain ⟨ts, V', hk, hE⟩ := elemsK_sim parts 0 V _ hR h
  obtain ⟨hl, hk⟩ := same_ok hk
  obtain ⟨hl2, hk⟩ := same_ok hk
  obtain ⟨cs, h1, h2⟩ := lit_cells hE (zero := zero) hl2.symm
  have hfr := fresh_next (A := A) (V := V') (st := st) (a := .ref st.nx 0 0 es ts.length ts.length false) (v := .ref st.nx 0 0 es ts.length ts.length false) (ob := .row 0 cs) (hE.sub.r hR) hk
    (fun A' hA => ⟨hz, .inr ⟨_, _, _, cs, rfl, by rw [Map.get_put, if_pos rfl], Nat.zero_le _, by simpa using h2⟩⟩) rfl rfl (fun A' O hO => .sl hO)
  obtain ⟨e', p1, V2, A2, p2, p3, p4⟩ := hfr
  refine sim_new (f := fun id => .ref id 0 0 es len len false) (ob := .row 0 cs) rfl (by
    have this : fill (ev st.env) parts zero = some cs := h1
    simp only [pBslice, this]) ⟨e', by rw [← hl]; exact p1, V2, A2, p2, ⟨p3.le, fun id hid hn => p3.same id hid (fun ho => hn (hE.sub.own ho)), fun id ho => (p3.own id ho).imp hE.sub.own (fun x => x)⟩, p4⟩
theorem allB_of {l : List AV} {f : AV → Bool} (h : ∀ x ∈ l, f x = true) : allB f l = true := allB_true.2 h
/-- a literal that never changes -/
theorem o_islice (hR : R A V st) {fz : Bool} {len : Nat} {zero : List AV} {parts : List (Nat × Nat × Opd)} {gd : Option (Nat × Bool)} (h : evIsl nt V d none fz len zero parts k) :
    ∃ v H' nx', doFz cf ⟨d, .islice len zero parts, gd, fz⟩ (ev st.env) st.H st.nx = some (v, H', nx') ∧ Next nt A V st d v H' nx' k := by
  unfold evIsl at h
  simp only at h
  split at h
  · split at h <;> first | (cases h; done) | skip
    split at h <;> first | (cases h; done) | skip
    split at h <;> first | (cases h; done) | skip
    exact ⟨.imm [] 0 (some 0), st.H, st.nx, rfl, putV_tree hR (fun _ => .nil1) h⟩
  · rename_i n
    obtain ⟨hz, h⟩ := pos_ok h
    obtain ⟨hm, h⟩ := same_ok h
    obtain ⟨ts, V', hk, hE⟩ := elemsK_sim parts 0 V _ hR h
    obtain ⟨hl, hk⟩ := same_ok hk
    obtain ⟨cs, h1, h2⟩ := lit_cells hE (zero := zero) (by rw [hl, Nat.mul_comm]; exact hm)
    have hcan : Can (.l ts) (.imm cs (n + 1) (some (n + 1))) := by have := el_imm hz h2 (some (n + 1)); rwa [hl] at this
    cases fz with
    | false =>
      refine ⟨.imm cs (n + 1) (some (n + 1)), st.H, st.nx, ?_, putV_next (hE.sub.r hR) (Fr.ofH fun O o hh => ⟨o, hE.sub.H O o hh⟩) (fun _ _ h => h) (fun _ => .tr hcan) hk⟩
      have h1' : fill (ev st.env) parts zero = some cs := h1
      simp only [doFz, doOp, kind, pIslice, h1', allB_of h2.flat, cond_true, cond_false, runPlan]
    | true =>
      obtain ⟨l, hl'⟩ := hE.imm rfl
      have hids := hE.ids rfl
      have h1' : fill (immρ st.H (ev st.env)) parts zero = some cs := h1
      have hget := drop_get ((parts.map fun p => ev st.env p.2.2).flatMap (idsOf deep st.H)) st.H
      refine ⟨.imm cs (n + 1) (some (n + 1)), drop st.H ((parts.map fun p => ev st.env p.2.2).flatMap (idsOf deep st.H)), st.nx, ?_, putV_next (A1 := A) (V1 := V') ⟨(hE.sub.r hR).env, fun O o ho => ?_, (hE.sub.r hR).inj, (hE.sub.r hR).used, hR.one, fun id o ho => ?_⟩ ⟨Nat.le_refl _, fun id _ hn => ?_, fun id ho => .inl (hE.sub.own ho)⟩ (fun _ _ h => h) (fun _ => .tr hcan) hk⟩
      · simp only [doFz, hl', pIslice, h1', allB_of h2.flat, cond_true]
      · obtain ⟨a, ha, hor⟩ := (hE.sub.r hR).heap O o ho
        refine ⟨a, ha, hor.mono (fun _ _ h => h) (fun id hi => ?_)⟩
        show (drop st.H _).get id = st.H.get id
        rw [hget, if_neg]
        exact fun hm => (hids id hm).2 ⟨O, o, a, ho, ha, hi⟩
      · have ho' : (drop st.H _).get id = some o := ho
        rw [hget] at ho'
        split at ho'
        · cases ho'
        · exact hR.fresh id o ho'
      · rw [hget, if_neg]
        exact fun hm => hn (hids id hm).1

/-! places -/
theorem o_nilck (hR : R A V st) (ha : act g) {x : Opd} (h : rdK V g x fun w => evNilck nt V d g w k) : Sim cf nt A V st d (.nilck x) k := by
  obtain ⟨w, hw, hk⟩ := rdK_sim hR ha h
  generalize he : ev st.env x = p at hw
  cases hw with
  | ptr h => exact sim_val rfl (by simp only [pNilck, he]) (putV_tree hR (fun _ => .ptr h) hk)
  | pd h => exact sim_val rfl (by simp only [pNilck, he]) (putV_tree hR (fun _ => .pd h) hk)
  | ea h => exact sim_val rfl (by simp only [pNilck, he]) (putV_tree hR (fun _ => .ea h) hk)
  | pt hl hf h => exact sim_val rfl (by simp only [pNilck, he]) (putV_tree hR (fun _ => .pt hl hf h) hk)
  | _ => cases hk
theorem vr_ea {O i off off' id gg b sz len cap : Nat} {ex : Bool} (h : A O = some (.ref id gg b sz len cap ex)) : VR A (.ea O i (off + off')) (.ptr id gg (Nat.add (b + i * sz + off) off')) := by
  have := VR.ea (A := A) (i := i) (off := off + off') h
  rwa [← Nat.add_assoc] at this
theorem vr_pt {v : TV} {cs : List AV} {b off off' n : Nat} (hl : b + n ≤ cs.length) (hf : ∀ x ∈ cs, AV.flat x = true) (h : CanC v ((cs.drop b).take n)) : VR A (.pt v (off + off')) (.iptr cs (Nat.add (b + off) off')) := by
  have := VR.pt (A := A) (off := off + off') hl hf h
  rwa [← Nat.add_assoc] at this
theorem o_faddr (hR : R A V st) (ha : act g) {off : Nat} {x : Opd} (h : rdK V g x fun w => evFaddr nt V d g off w k) : Sim cf nt A V st d (.faddr off x) k := by
  obtain ⟨w, hw, hk⟩ := rdK_sim hR ha h
  generalize he : ev st.env x = p at hw
  cases hw with
  | ptr h => exact sim_val rfl (by simp only [pFaddr, he]; rfl) (putV_tree hR (fun _ => .ptr h) hk)
  | pd h => exact sim_val rfl (by simp only [pFaddr, he]; rfl) (putV_tree hR (fun _ => .pd h) hk)
  | ea h => exact sim_val rfl (by simp only [pFaddr, he]) (putV_tree hR (fun _ => vr_ea h) hk)
  | pt hl hf h => exact sim_val rfl (by simp only [pFaddr, he]) (putV_tree hR (fun _ => vr_pt hl hf h) hk)
  | _ => cases hk
theorem o_fld (hR : R A V st) (ha : act g) {off : Nat} {sz : Option Nat} {x : Opd} (h : rdK V g x fun w => evFld nt V d g off sz w k) : Sim cf nt A V st d (.fld off sz x) k := by
  obtain ⟨w, hw, hk⟩ := rdK_sim hR ha h
  generalize he : ev st.env x = p at hw
  have fin : ∀ {cs l : List AV} {v : AV}, ev st.env x = .agg cs → cut cs off (loadA sz) = some l → mkv sz l = some v → Next nt A V st d v st.H st.nx k → Sim cf nt A V st d (.fld off sz x) k :=
    fun h1 h2 h3 h4 => sim_val rfl (by simp only [pFld, h1, h2, h3, pureO]) h4
  cases hw with
  | @tr v _ hc =>
    obtain ⟨r, h1, h2⟩ := resV_next hR ha hk
    unfold fldT at h1
    split at h1
    · rename_i cs
      cases hc with
      | a ts as hl hf hh =>
        obtain ⟨l, y, h3, h4, h5⟩ := ldT_can (cs := as) rfl ⟨⟨hl, hh⟩, hf⟩ h1
        exact fin he h3 h4 (h2 _ h5)
    · cases h1
  | @st v ovs cs ts hv hc =>
    simp only [evFld] at hk
    split at hk
    · split at hk
      · rename_i w hw
        have hlt := hc.keys _ _ hw
        have hx : cs[off]? = some (cs[off]'(by rw [← hc.len]; exact hlt)) := List.getElem?_eq_getElem _
        have hs := hc.at_ off _ _ (List.getElem?_eq_getElem hlt) hx
        rw [hw] at hs
        refine fin he (cell_cut hx) rfl (putV_tree hR (fun _ => ?_) hk)
        cases w <;> first | (exact absurd hs (by intro hh; exact hh)) | skip
        · rcases hs with e | e
          · rw [e]; exact .nil0
          · rw [e]; exact .nil1
        · exact .sl hs
      · rename_i ho
        obtain ⟨r, h1, h2⟩ := resV_next hR ha hk
        obtain ⟨y, h3, h4, _⟩ := cells_ld hc h1 ho
        exact fin he h3 rfl (h2 _ h4)
    · rename_i n
      split at hk
      · rename_i ho
        obtain ⟨r, h1, h2⟩ := resV_next hR ha hk
        obtain ⟨l, ls, h3, h4, h5⟩ := cells_sub hc h1
        rw [ho] at h5
        exact fin he h3 rfl (h2 _ (sub_tree h5 h4))
      · rename_i p r ho
        split at hk
        · obtain ⟨u, h1, h2⟩ := hk
          obtain ⟨l, ls, h3, h4, h5⟩ := cells_sub hc h1
          rw [ho] at h5
          exact fin he h3 rfl (putV_tree hR (fun _ => .st h4 h5) h2)
        · cases hk
  | _ => cases hk
/-- an index -/
theorem ixN_some {i : TV} {n m : Nat} {a : AV} (h : ixN i n = some m) (hc : Can i a) : ∃ k z, a = .int k z ∧ ixA z n = some m ∧ m < n := by
  unfold ixN at h
  split at h
  · rename_i k z; cases hc; exact ⟨k, z, rfl, h, (ixA_some h).2⟩
  · cases h
theorem o_iaddr (hR : R A V st) (ha : act g) {es : Nat} {x i : Opd} (h : rdK V g x fun w => rdT V g i fun i => evIaddr nt V d g es w i k) : Sim cf nt A V st d (.iaddr es x i) k := by
  obtain ⟨w, hw, hk⟩ := rdK_sim hR ha h
  obtain ⟨iv, hi, hk⟩ := rdT_sim hR ha hk
  obtain ⟨hz, hk⟩ := pos_ok hk
  generalize he : ev st.env x = p at hw
  cases hw with
  | @tr v _ hc =>
    obtain ⟨e, ⟨h1, h2⟩, h3⟩ := resT_act ha hk
    unfold idxT at h1
    split at h1
    · rename_i es'
      split at h1
      · rename_i m hm
        obtain ⟨ki, zi, g1, g2, g3⟩ := ixN_some hm hi
        cases hc with
        | nil => simp at g3
        | imm _ cs n sz c hn hcl hsz hf hh =>
          subst hn
          have hE := hh m e h1
          obtain ⟨l, hl1, hl2⟩ := szOk_cells h2
          obtain ⟨ts, ht1, ht2⟩ := canC_iff.1 hE
          rw [hl1] at ht1; cases ht1
          have hmn := mul_lt_seg (z := sz) g3
          have hseg : ((cs.drop (m * sz)).take sz).length = sz := by simp only [List.length_take, List.length_drop]; omega
          have hsz' : sz = es := by rw [← hl2, ht2.1, hseg]
          subst hsz'
          refine sim_val (v := .iptr cs (m * sz)) rfl ?_ (putV_tree hR (fun _ => ?_) h3)
          · simp only [pIaddr, g1, he, g2]
            cases cs with
            | nil => simp at hcl; omega
            | cons _ _ => rfl
          · exact VR.pt (b := m * sz) (off := 0) (n := sz) (by omega) hf hE
      · cases h1
    · cases h1
  | @sl O _ hO =>
    dsimp only at hk
    split at hk
    · rename_i z es' ho
      obtain ⟨rfl, hk2⟩ := same_ok hk
      obtain ⟨m, h1, h2⟩ := resN_act ha hk2
      obtain ⟨ki, zi, g1, g2, g3⟩ := ixN_some h1 hi
      obtain ⟨y, hy, hs⟩ := hR.heap O _ ho
      rw [hO] at hy; cases hy
      obtain ⟨_, hs⟩ := hs
      rcases hs with ⟨e, _⟩ | ⟨id, gg, b, cells, e, hH, hb, hE⟩
      · subst e; simp at g3
      · subst e
        exact sim_val (v := .ptr id gg (b + m * z)) rfl (by simp only [pIaddr, g1, he, g2, cond_eq_ite, Nat.beq_eq, if_pos]; rfl) (putV_tree hR (fun _ => VR.ea (off := 0) hO) h2)
    · cases hk
  | _ => cases hk
theorem o_iarr (hR : R A V st) (ha : act g) {len es : Nat} {x i : Opd} (h : rdK V g x fun w => rdT V g i fun i => evIarr nt V d g len es w i k) : Sim cf nt A V st d (.iarr len es x i) k := by
  obtain ⟨w, hw, hk⟩ := rdK_sim hR ha h
  obtain ⟨iv, hi, hk⟩ := rdT_sim hR ha hk
  generalize he : ev st.env x = p at hw
  have fin : ∀ {m : Nat} {v : AV}, ixN iv len = some m → (∀ ki zi, ev st.env i = .int ki zi → ixA zi len = some m → pIarr (ev st.env) len es x i = some (.val v)) → Next nt A V st d v st.H st.nx k → Sim cf nt A V st d (.iarr len es x i) k := by
    intro m v h1 h2 h3
    obtain ⟨ki, zi, g1, g2, g3⟩ := ixN_some h1 hi
    exact sim_val rfl (h2 ki zi g1 g2) h3
  cases hw with
  | @ptr O off id hO =>
    obtain ⟨m, h1, h2⟩ := resN_act ha hk
    exact fin h1 (fun ki zi g1 g2 => by simp only [pIarr, g1, g2, he]; rfl) (putV_tree hR (fun _ => VR.pd hO) h2)
  | @pd O off id hO =>
    obtain ⟨m, h1, h2⟩ := resN_act ha hk
    exact fin h1 (fun ki zi g1 g2 => by simp only [pIarr, g1, g2, he]; rfl) (putV_tree hR (fun _ => VR.pd hO) h2)
  | @pt v cs b off n hl hf hcc =>
    obtain ⟨m, h1, h2⟩ := resN_act ha hk
    exact fin h1 (fun ki zi g1 g2 => by simp only [pIarr, g1, g2, he]; rfl) (putV_tree hR (fun _ => vr_pt hl hf hcc) h2)
  | _ => cases hk
end
end Go.Ax.V
