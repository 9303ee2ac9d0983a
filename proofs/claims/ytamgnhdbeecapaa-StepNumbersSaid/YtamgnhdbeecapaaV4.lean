/- Each operation over values is the interpreter's. -/
import Derived.Test.YtamgnhdbeecapaaV3
set_option linter.unusedSimpArgs false
set_option linter.unusedVariables false
namespace Go.Ax.V

section
variable {prog : Map AFunc} {cf : FnF} {nt : Nat} {A : Tok} {V : VSt} {st : St} {d : Option Nat} {g : G} {k : VSt → Prop}

def Sim (cf : FnF) (nt : Nat) (A : Tok) (V : VSt) (st : St) (d : Option Nat) (op : AOp) (k : VSt → Prop) : Prop :=
  ∃ v H' nx', doOp cf op (ev st.env) st.H st.nx = some (v, H', nx') ∧ Next nt A V st d v H' nx' k
theorem sim_val {op : AOp} {p : (Opd → AV) → Option Plan} {v : AV} (hk : kind op = .plan p) (hp : p (ev st.env) = some (.val v)) (h : Next nt A V st d v st.H st.nx k) : Sim cf nt A V st d op k :=
  ⟨v, st.H, st.nx, by simp only [doOp, hk, hp, runPlan], h⟩
theorem sim_new {op : AOp} {p : (Opd → AV) → Option Plan} {f : Nat → AV} {ob : AObj} (hk : kind op = .plan p) (hp : p (ev st.env) = some (.new f ob)) (h : Next nt A V st d (f st.nx) (st.H.put (some ob) st.nx) (st.nx + 1) k) : Sim cf nt A V st d op k :=
  ⟨_, _, _, by simp only [doOp, hk, hp, runPlan], h⟩

theorem o_mv (hR : R A V st) (ha : act g) {x : Opd} (h : rdK V g x fun w => evMv nt V d g w k) : Sim cf nt A V st d (.mv x) k := by
  obtain ⟨w, hw, hk⟩ := rdK_sim hR ha h
  refine sim_val rfl rfl ?_
  generalize ev st.env x = a at hw
  cases hw with
  | bad => cases hk
  | tr hc =>
    cases g with
    | none => exact putV_tree hR (fun _ => .tr hc) hk
    | some p =>
      obtain ⟨r, h1, h2⟩ := resV_next hR ha hk
      cases h1
      exact h2 _ hc
  | nil0 => exact putV_tree hR (fun _ => .nil0) hk
  | nil1 => exact putV_tree hR (fun _ => .nil1) hk
  | ptr h => exact putV_tree hR (fun _ => .ptr h) hk
  | pd h => exact putV_tree hR (fun _ => .pd h) hk
  | sl h => exact putV_tree hR (fun _ => .sl h) hk
  | ea h => exact putV_tree hR (fun _ => .ea h) hk
  | pt hl hf h => exact putV_tree hR (fun _ => .pt hl hf h) hk
  | st hv h => exact putV_tree hR (fun _ => .st hv h) hk
theorem pickT_some {c a b r : TV} {x y z : AV} (h : pickT c a b = some r) (hc : Can c x) (ha : Can a y) (hb : Can b z) : ∃ t, x = .bool t ∧ Can r (match t with | true => y | false => z) := by
  unfold pickT at h
  split at h
  · rename_i t
    cases hc
    exact ⟨t, rfl, by cases t <;> (cases h; assumption)⟩
  · cases h
theorem o_pick (hR : R A V st) (ha : act g) {c a b : Opd} (h : rdT V g c fun c => rdT V g a fun a => rdT V g b fun b => resV nt V d g (pickT c a b) k) : Sim cf nt A V st d (.pick c a b) k := by
  obtain ⟨c', h1, h⟩ := rdT_sim hR ha h
  obtain ⟨a', h2, h⟩ := rdT_sim hR ha h
  obtain ⟨b', h3, h⟩ := rdT_sim hR ha h
  obtain ⟨r, h4, h5⟩ := resV_next hR ha h
  obtain ⟨t, e, h6⟩ := pickT_some h4 h1 h2 h3
  cases t with
  | true => exact sim_val rfl (by simp only [pPick, e]) (h5 _ h6)
  | false => exact sim_val rfl (by simp only [pPick, e]) (h5 _ h6)
theorem o_alloc (hR : R A V st) {zero : List AV} (h : match allB constOk zero with
      | true => newV nt V d g (fun O => .ptr O 0) (.ob (.a (basesOf zero)) (nilsAt 0 zero)) k
      | false => False) : Sim cf nt A V st d (.alloc zero) k := by
  split at h
  · rename_i hc
    exact sim_new rfl rfl (fresh_next hR h (fun A' hA => ⟨_, _, _, rfl, by rw [Map.get_put, if_pos rfl], cells_const A' hc⟩) rfl rfl (fun A' O hO => .ptr hO))
  · cases h
theorem isTp_cells {v : TV} (h : v.isTp = false) : ∃ ts, cellsT v = some ts := by
  cases v <;> first | exact ⟨_, rfl⟩ | cases h
theorem o_box (hR : R A V st) (ha : act g) {x : Opd} (h : rdK V g x fun w => match stOf w with
    | some (v, o) => v.isTp = false ∧ newV nt V d g (fun O => .ptr O 0) (.ob v o) k
    | none => False) : Sim cf nt A V st d (.box x) k := by
  obtain ⟨w, hw, hk⟩ := rdK_sim hR ha h
  split at hk
  · rename_i v o hs
    obtain ⟨ht, hk⟩ := hk
    obtain ⟨ts, hts⟩ := isTp_cells ht
    obtain ⟨as, h1, h2⟩ := vr_cells hR.one hw hs hts
    exact sim_new (f := fun id => .ptr id 0 0) (ob := .row 0 as) rfl (by simp only [pBox, h1]) (fresh_next hR hk (fun A' hA => ⟨_, _, _, rfl, by rw [Map.get_put, if_pos rfl], h2.mono hA⟩) rfl rfl (fun A' O hO => .ptr hO))
  · cases hk

/-! literals -/
theorem fill_cons' (ρ : Opd → AV) (p : Nat × Nat × Opd) (r : List (Nat × Nat × Opd)) (cells : List AV) : fill ρ (p :: r) cells = match (ρ p.2.2).cells? with
    | none => none
    | some cs => bif Nat.beq cs.length p.2.1 then match over cells p.1 cs with
        | some cells => fill ρ r cells
        | none => none
      else none := rfl
theorem partsK_sim (hR : R A V st) (ha : act g) : ∀ (parts : List (Nat × Nat × Opd)) (v : TV) (ovs : List (Nat × VV)) (cs : List AV) (ts : List TV) (k : TV → List (Nat × VV) → Prop), CellsR A v ovs cs ts → v = .a ts → partsK V g parts v ovs k →
    ∃ v' ovs' cs' ts', fill (ev st.env) parts cs = some cs' ∧ CellsR A v' ovs' cs' ts' ∧ v' = .a ts' ∧ k v' ovs'
  | [], v, ovs, cs, ts, k, hc, hv, hk => ⟨v, ovs, cs, ts, rfl, hc, hv, hk⟩
  | (off, n, x) :: r, v, ovs, cs, ts, k, hc, hv, hk => by
    obtain ⟨w, hw, hk⟩ := rdK_sim hR ha hk
    split at hk
    · rename_i t o hs
      obtain ⟨u, hp, hk⟩ := hk
      obtain ⟨_, xs, _, _, hxs, _⟩ := putT_some hp
      obtain ⟨as, h1, h2⟩ := vr_cells hR.one hw hs hxs
      obtain ⟨hn, cs', us, h3, h4, h5⟩ := cells_put hc h2 hp
      obtain ⟨l', rfl⟩ := h5 _ hv
      have := h4.cells
      cases this
      obtain ⟨v', ovs', cs'', ts', g1, g2, g3, g4⟩ := partsK_sim hR ha r _ _ cs' _ k h4 rfl hk
      refine ⟨v', ovs', cs'', ts', ?_, g2, g3, g4⟩
      rw [fill_cons']
      simp only [h1, cond_eq_ite, Nat.beq_eq, if_pos hn, h3, g1]
    · cases hk
theorem vr_mk {v : TV} {ovs : List (Nat × VV)} {cs : List AV} {ts : List TV} (h : CellsR A v ovs cs ts) (hv : v = .a ts) : VR A (mkSt v ovs) (.agg cs) := by
  cases ovs with
  | nil =>
    subst hv
    refine .tr (.a _ _ h.len (fun x hx => ?_) (fun j t x ht hx => (h.at_ j t x ht hx).1))
    obtain ⟨j, hj⟩ := List.getElem?_of_mem hx
    have hlt : j < ts.length := by rw [h.len]; exact (List.getElem?_eq_some_iff.1 hj).1
    exact (h.at_ j _ x (List.getElem?_eq_getElem hlt) hj).2
  | cons p r => exact .st hv h
theorem o_build (hR : R A V st) {zero : List AV} {parts : List (Nat × Nat × Opd)} (h : match allB constOk zero with
      | true => partsK V none parts (.a (basesOf zero)) (nilsAt 0 zero) fun v ovs => putV nt V d none (mkSt v ovs) k
      | false => False) : Sim cf nt A V st d (.build zero parts) k := by
  split at h
  · rename_i hc
    obtain ⟨v', ovs', cs', ts', h1, h2, h3, h4⟩ := partsK_sim (g := none) hR trivial parts _ _ zero _ _ (cells_const A hc) rfl h
    exact sim_val rfl (by simp only [pBuild, h1]) (putV_tree hR (fun _ => vr_mk h2 h3) h4)
  · cases h

/-! loads -/
theorem look_eq (H : Heap) (nx : Nat) {id g off n : Nat} {cells cs : List AV} (hH : H.get id = some (.row g cells)) (hc : cut cells off n = some cs) (kk : List AV → Option AObj → Option Out) (v : AV) (hk : kk cs none = some ⟨fun _ => v, none, none⟩) :
    runPlan (.look (some ⟨id, g, off, n⟩) none kk) H nx = some (v, H, nx) := by
  simp only [runPlan, runLook, fetch, hH, cond_eq_ite, Nat.beq_eq, if_pos, hc, fetchO, hk, setO]
theorem sim_look {op : AOp} {p : (Opd → AV) → Option Plan} (hk : kind op = .plan p) {id gg off n : Nat} {cells cs : List AV} {kk : List AV → Option AObj → Option Out} {v : AV} (hp : p (ev st.env) = some (.look (some ⟨id, gg, off, n⟩) none kk))
    (hH : st.H.get id = some (.row gg cells)) (hc : cut cells off n = some cs) (hkk : kk cs none = some ⟨fun _ => v, none, none⟩) (h : Next nt A V st d v st.H st.nx k) : Sim cf nt A V st d op k :=
  ⟨v, st.H, st.nx, by simp only [doOp, hk, hp]; exact look_eq _ _ hH hc _ _ hkk, h⟩
theorem load_ptr {sz : Option Nat} {a : Opd} {id gg off : Nat} {cells l : List AV} {v : AV} (he : ev st.env a = .ptr id gg off) (hH : st.H.get id = some (.row gg cells)) (hc : cut cells off (loadA sz) = some l) (hm : mkv sz l = some v)
    (h : Next nt A V st d v st.H st.nx k) : Sim cf nt A V st d (.load sz a) k :=
  sim_look (cs := l) (v := v) (kk := fun cs _ => match mkv sz cs with | some v => some ⟨fun _ => v, none, none⟩ | none => none) rfl (by simp only [pLoad, he]; rfl) hH hc (by simp only [hm]) h
theorem cell_cut {cs : List AV} {off : Nat} {x : AV} (h : cs[off]? = some x) : cut cs off 1 = some [x] := by
  obtain ⟨hlt, hx⟩ := List.getElem?_eq_some_iff.1 h
  rw [cut_eq, if_pos (by omega), List.drop_eq_getElem_cons hlt, hx]
  rfl
/-- a load of an object's cells -/
theorem cells_ld {v : TV} {ovs : List (Nat × VV)} {cs : List AV} {ts : List TV} (hc : CellsR A v ovs cs ts) {off : Nat} {r : TV} (h : cellT v off = some r) (ho : ovAt off ovs = none) : ∃ x, cut cs off 1 = some [x] ∧ Can r x ∧ x.flat = true := by
  obtain ⟨ts', h1, h2⟩ := cellT_some h
  have := hc.cells.symm.trans h1; cases this
  have hlt : off < cs.length := by rw [← hc.len]; exact (List.getElem?_eq_some_iff.1 h2).1
  have hx : cs[off]? = some cs[off] := List.getElem?_eq_getElem hlt
  have := hc.at_ _ _ _ h2 hx
  rw [ho] at this
  exact ⟨_, cell_cut hx, this⟩
theorem cells_sub {v : TV} {ovs : List (Nat × VV)} {cs : List AV} {ts : List TV} (hc : CellsR A v ovs cs ts) {off n : Nat} {r : TV} (h : subT v off n = some r) :
    ∃ l ls, cut cs off n = some l ∧ r = .a ls ∧ CellsR A r (ovSub off n ovs) l ls := by
  obtain ⟨ts', h0, h1, hl, rfl⟩ := subT_some h
  have := hc.cells.symm.trans h1; cases this
  refine ⟨(cs.drop off).take n, _, by rw [cut_eq, if_pos (by rw [← hc.len]; exact hl)], rfl, ⟨rfl, ?_, fun j w hj => ?_, fun j t x ht hx => ?_⟩⟩
  · have := hc.len; simp [this]
  · rw [ovAt_sub] at hj
    split at hj
    · rename_i hj'
      have := hc.keys _ _ hj
      simp only [List.length_take, List.length_drop]; omega
    · cases hj
  · simp only [List.getElem?_take, List.getElem?_drop] at ht hx
    split at ht
    · rename_i hj
      rw [if_pos hj] at hx
      rw [ovAt_sub, if_pos hj, Nat.add_comm]
      exact hc.at_ _ _ _ ht hx
    · cases ht
theorem sub_tree {r : TV} {l : List AV} {ls : List TV} (h : CellsR A r [] l ls) (hr : r = .a ls) : Can r (.agg l) := by
  have := vr_mk h hr
  cases this
  assumption
theorem o_load (hR : R A V st) (ha : act g) {sz : Option Nat} {a : Opd} (h : rdK V g a fun w => evLoad nt V d g sz w k) : Sim cf nt A V st d (.load sz a) k := by
  obtain ⟨w, hw, hk⟩ := rdK_sim hR ha h
  generalize he : ev st.env a = x at hw
  cases hw <;> first | (cases hk; done) | skip
  · rename_i O off id hO
    simp only [evLoad] at hk
    split at hk
    · rename_i v ovs hv
      obtain ⟨y, hy, id', cs, ts, rfl, hH, hc⟩ := hR.heap O _ hv
      rw [hO] at hy; cases hy
      split at hk
      · split at hk
        · rename_i w hw
          have hlt := hc.keys _ _ hw
          have hx : cs[off]? = some (cs[off]'(by rw [← hc.len]; exact hlt)) := List.getElem?_eq_getElem _
          have hs := hc.at_ off _ _ (List.getElem?_eq_getElem hlt) hx
          rw [hw] at hs
          refine load_ptr he hH (cell_cut hx) rfl (putV_tree hR (fun _ => ?_) hk)
          cases w <;> first | (exact absurd hs (by intro hh; exact hh)) | skip
          · rcases hs with e | e
            · rw [e]; exact .nil0
            · rw [e]; exact .nil1
          · exact .sl hs
        · rename_i ho
          obtain ⟨r, h1, h2⟩ := resV_next hR ha hk
          obtain ⟨x, h3, h4, _⟩ := cells_ld hc h1 ho
          exact load_ptr he hH h3 rfl (h2 _ h4)
      · rename_i n
        split at hk
        · rename_i ho
          obtain ⟨r, h1, h2⟩ := resV_next hR ha hk
          obtain ⟨l, ls, h3, h4, h5⟩ := cells_sub hc h1
          rw [ho] at h5
          exact load_ptr he hH h3 rfl (h2 _ (sub_tree h5 h4))
        · rename_i p r ho
          split at hk
          · obtain ⟨u, h1, h2⟩ := hk
            obtain ⟨l, ls, h3, h4, h5⟩ := cells_sub hc h1
            rw [ho] at h5
            exact load_ptr he hH h3 rfl (putV_tree hR (fun _ => .st h4 h5) h2)
          · cases hk
    · cases hk
  · rename_i O off id hO
    simp only [evLoad] at hk
    split at hk
    · rename_i v ovs hv
      split at hk
      rotate_left
      · cases hk
      obtain ⟨y, hy, id', cs, ts, rfl, hH, hc⟩ := hR.heap O _ hv
      rw [hO] at hy; cases hy
      obtain ⟨r, h1, h2⟩ := resV_next hR ha hk
      have hf : CanF ts cs := by
        refine ⟨⟨hc.len, fun j t x ht hx => (hc.at_ j t x ht hx).1⟩, fun x hx => ?_⟩
        obtain ⟨j, hj⟩ := List.getElem?_of_mem hx
        have hlt : j < ts.length := by rw [hc.len]; exact (List.getElem?_eq_some_iff.1 hj).1
        exact (hc.at_ j _ x (List.getElem?_eq_getElem hlt) hj).2
      obtain ⟨l, x, h3, h4, h5⟩ := ldT_can hc.cells hf h1
      exact load_ptr he hH h3 h4 (h2 _ h5)
    · cases hk
  · rename_i O i off id gg b z len cap ex hO
    simp only [evLoad] at hk
    split at hk
    · rename_i z' es hv
      obtain ⟨y, hy, hs⟩ := hR.heap O _ hv
      rw [hO] at hy; cases hy
      obtain ⟨r, h1, h2⟩ := resV_next hR ha hk
      obtain ⟨hz, hs⟩ := hs
      rcases hs with ⟨_, e | e⟩ | ⟨id', g', b', cells, e, hH, hb, hE⟩
      · cases e
      · cases e
      · cases e
        unfold ldE at h1
        split at h1
        · cases h1
        rename_i e1 he1
        have hlt : i < es.length := (List.getElem?_eq_some_iff.1 he1).1
        obtain ⟨ts, ht1, ht2⟩ := canC_iff.1 (hE.el i e1 he1)
        obtain ⟨l, x, h3, h4, h5⟩ := ldT_can ht1 ⟨ht2, flat_take hE.flat _ _⟩ h1
        have hl := hE.len
        rw [List.length_drop] at hl
        obtain ⟨h6, h7⟩ := cut_some h3
        have h8 : off + loadA sz ≤ z := by simp only [List.length_take] at h6; omega
        have h9 : i * z + z ≤ es.length * z := by
          have : (i + 1) * z ≤ es.length * z := Nat.mul_le_mul_right z hlt
          rwa [Nat.add_mul, Nat.one_mul] at this
        refine load_ptr he hH (l := l) ?_ h4 (h2 _ h5)
        rw [cut_eq, if_pos (by omega), h7]
        congr 1
        simp only [List.drop_drop, List.drop_take, List.take_take]
        congr 1
        omega
    · cases hk
  · rename_i v cs b off n hl hf hcc
    obtain ⟨r, h1, h2⟩ := resV_next hR ha hk
    obtain ⟨ts, ht1, ht2⟩ := canC_iff.1 hcc
    obtain ⟨l, x, h3, h4, h5⟩ := ldT_can ht1 ⟨ht2, flat_take hf _ _⟩ h1
    obtain ⟨h6, h7⟩ := cut_some h3
    have h8 : off + loadA sz ≤ n := by simp only [List.length_take] at h6; omega
    have hcut : cut cs (b + off) (loadA sz) = some l := by
      rw [cut_eq, if_pos (by omega), h7]
      congr 1
      simp only [List.drop_drop, List.drop_take, List.take_take]
      congr 1
      omega
    exact sim_val (v := x) rfl (by simp only [pLoad, he, hcut, h4, pureO]) (h2 _ h5)
end
end Go.Ax.V
