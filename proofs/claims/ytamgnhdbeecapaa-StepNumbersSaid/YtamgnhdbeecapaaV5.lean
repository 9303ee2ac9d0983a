/- Stores, literals of slices. -/
import Derived.Test.YtamgnhdbeecapaaV4
set_option linter.unusedSimpArgs false
set_option linter.unusedVariables false
namespace Go.Ax.V

section
variable {prog : Map AFunc} {cf : FnF} {nt : Nat} {A : Tok} {V : VSt} {st : St} {d : Option Nat} {g : G} {k : VSt → Prop}

theorem seg_get {α : Type} (l : List α) (a n j : Nat) : ((l.drop a).take n)[j]? = if j < n then l[a + j]? else none := by
  rw [List.getElem?_take, List.getElem?_drop]
theorem mul_lt_seg {i j z : Nat} (h : i < j) : i * z + z ≤ j * z := by
  have : (i + 1) * z ≤ j * z := Nat.mul_le_mul_right z h
  rwa [Nat.add_mul, Nat.one_mul] at this
theorem el_set {z : Nat} {es : List TV} {row row' ce' : List AV} {i : Nat} {e e' : TV} (hE : ElR z es row) (hi : es[i]? = some e) (hc : CanC e' ce') (hl : ce'.length = z) (hf : ∀ x ∈ ce', AV.flat x = true)
    (hl' : row'.length = row.length) (hr : ∀ j, row'[j]? = if i * z ≤ j ∧ j < i * z + z then ce'[j - i * z]? else row[j]?) : ElR z (es.set i e') row' := by
  have hlt : i < es.length := (List.getElem?_eq_some_iff.1 hi).1
  refine ⟨by rw [hl', hE.len, List.length_set], fun x hx => ?_, fun j e1 hj => ?_⟩
  · obtain ⟨q, hq⟩ := List.getElem?_of_mem hx
    rw [hr] at hq
    split at hq
    · exact hf x (List.mem_of_getElem? hq)
    · exact hE.flat x (List.mem_of_getElem? hq)
  · rw [List.getElem?_set] at hj
    by_cases e : i = j
    · subst e
      rw [if_pos rfl, if_pos hlt] at hj
      cases hj
      have : (row'.drop (i * z)).take z = ce' := by
        apply List.ext_getElem?
        intro q
        rw [seg_get]
        by_cases hq : q < z
        · rw [if_pos hq, hr, if_pos ⟨by omega, by omega⟩]; congr 1; omega
        · rw [if_neg hq]; exact (List.getElem?_eq_none_iff.2 (by omega)).symm
      rw [this]; exact hc
    · rw [if_neg e] at hj
      have : (row'.drop (j * z)).take z = (row.drop (j * z)).take z := by
        apply List.ext_getElem?
        intro q
        rw [seg_get, seg_get]
        by_cases hq : q < z
        · rw [if_pos hq, if_pos hq, hr, if_neg]
          rintro ⟨h1, h2⟩
          rcases Nat.lt_or_gt_of_ne e with h | h
          · have := mul_lt_seg (z := z) h; omega
          · have := mul_lt_seg (z := z) h; omega
        · rw [if_neg hq, if_neg hq]
      rw [this]; exact hE.el j e1 hj

theorem store_run {cf : FnF} {sz : Nat} {a x : Opd} {id gg off : Nat} {cells cells' as : List AV} (he : ev st.env a = .ptr id gg off) (hx : (ev st.env x).cells? = some as) (hn : as.length = sz)
    (hH : st.H.get id = some (.row gg cells)) (ho : over cells off as = some cells') : doOp cf (.store sz a x) (ev st.env) st.H st.nx = some (undefA, st.H.put (some (.row gg cells')) id, st.nx) := by
  have hp : kind (.store sz a x) = .plan fun ρ => pStore ρ sz a x := rfl
  simp only [doOp, hp, pStore, he, hx, cond_eq_ite, Nat.beq_eq, if_pos hn, runPlan, runLook, fetch, fetchO, hH, rowK, if_pos, ho, setO]
theorem o_store (hR : R A V st) {sz : Nat} {a x : Opd} (h : rdK V none a fun w => rdK V none x fun x => evStore V sz w x k) : Sim cf nt A V st none (.store sz a x) k := by
  obtain ⟨w, hw, h⟩ := rdK_sim (g := none) hR trivial h
  obtain ⟨y, hy, hk⟩ := rdK_sim (g := none) hR trivial h
  generalize he : ev st.env a = p at hw
  have done : ∀ (o : VO) {O : Nat} {o0 : VO} {id gg off : Nat} {pa : AV} {cells cells' as : List AV}, V.H.get O = some o0 → A O = some pa → idOf pa = some id → ev st.env a = .ptr id gg off → (ev st.env x).cells? = some as → as.length = sz →
      st.H.get id = some (.row gg cells) → over cells off as = some cells' → OR A (st.H.put (some (.row gg cells')) id) o pa → k (setVO V O o) → Sim cf nt A V st none (.store sz a x) k := by
    intro o O o0 id gg off pa cells cells' as h1 h2 h3 h4 h5 h6 h7 h8 h9 h10
    obtain ⟨g1, g2⟩ := set_next hR h1 h2 h3 h9
    exact ⟨_, _, _, store_run h4 h5 h6 h7 h8, st.env, rfl, _, A, g1, g2, (fun _ _ h => h), h10⟩
  cases hw <;> first | (cases hk; done) | skip
  · rename_i O off id hO
    simp only [evStore] at hk
    split at hk
    · rename_i v ovs hv
      split at hk
      · rename_i t o hs
        obtain ⟨u, hp, hk⟩ := hk
        obtain ⟨z, hz, id', cs, ts, rfl, hH, hc⟩ := hR.heap O _ hv
        rw [hO] at hz; cases hz
        obtain ⟨_, xs, _, _, hxs, _⟩ := putT_some hp
        obtain ⟨as, h1, h2⟩ := vr_cells hR.one hy hs hxs
        obtain ⟨hn, cs', us, h3, h4, h5⟩ := cells_put hc h2 hp
        exact done (.ob u (ovAdd off o (ovCut off sz ovs))) hv hO rfl he h1 hn hH h3 ⟨_, cs', us, rfl, by rw [Map.get_put, if_pos rfl], h4⟩ hk
      · cases hk
    · cases hk
  · rename_i O off id hO
    simp only [evStore] at hk
    split at hk
    · rename_i v ovs hv
      split at hk
      rotate_left
      · cases hk
      split at hk
      · rename_i t
        obtain ⟨u, hp, hk⟩ := hk
        obtain ⟨z, hz, id', cs, ts, rfl, hH, hc⟩ := hR.heap O _ hv
        rw [hO] at hz; cases hz
        obtain ⟨_, xs, _, _, hxs, _⟩ := putT_some hp
        obtain ⟨as, h1, h2⟩ := vr_cells hR.one hy rfl hxs
        obtain ⟨hn, cs', us, h3, h4, h5⟩ := cells_put hc h2 hp
        exact done (.ob u []) hv hO rfl he h1 hn hH h3 ⟨_, cs', us, rfl, by rw [Map.get_put, if_pos rfl], h4⟩ hk
      · cases hk
    · cases hk
  · rename_i O i off id gg b z len cap ex hO
    simp only [evStore] at hk
    split at hk
    · rename_i z' es hv
      split at hk
      · rename_i t
        obtain ⟨es', hp, hk⟩ := hk
        obtain ⟨y', hy', hs⟩ := hR.heap O _ hv
        rw [hO] at hy'; cases hy'
        obtain ⟨hz, hs⟩ := hs
        rcases hs with ⟨_, e | e⟩ | ⟨id', g', b', cells, e, hH, hb, hE⟩
        · cases e
        · cases e
        · cases e
          unfold setE at hp
          split at hp
          · cases hp
          rename_i e1 he1
          split at hp
          · rename_i e1' hp'
            cases hp
            have hlt : i < es.length := (List.getElem?_eq_some_iff.1 he1).1
            obtain ⟨ts, ht1, ht2⟩ := canC_iff.1 (hE.el i e1 he1)
            obtain ⟨_, xs, _, _, hxs, _⟩ := putT_some hp'
            obtain ⟨as, h1, h2⟩ := vr_cells hR.one hy rfl hxs
            have hce : CellsR A e1 [] (((cells.drop b).drop (i * z)).take z) ts := ⟨ht1, ht2.1, fun j w hj => by simp [ovAt] at hj, fun j t x ht hx => ⟨ht2.2 j t x ht hx, flat_take hE.flat _ _ x (List.mem_of_getElem? hx)⟩⟩
            obtain ⟨hn, ce', us, h3, h4, h5⟩ := cells_put hce h2 hp'
            obtain ⟨hov, hat⟩ := over_at h3
            obtain ⟨hb1, _⟩ := over_some h3
            have hl := hE.len
            rw [List.length_drop] at hl
            have h9 := mul_lt_seg (z := z) hlt
            have hz' : (((cells.drop b).drop (i * z)).take z).length = z := by simp only [List.length_take, List.length_drop]; omega
            rw [hz'] at hb1 hov
            have hov2 : over cells (b + i * z + off) as = some (cells.take (b + i * z + off) ++ as ++ cells.drop (b + i * z + off + as.length)) := by rw [over_eq, if_pos (by omega)]
            obtain ⟨hl2, hat2⟩ := over_at hov2
            refine done (.gr z (es.set i e1')) hv hO rfl he h1 hn hH hov2 ⟨hz, .inr ⟨id, gg, b, _, by simp only [List.length_set], by rw [Map.get_put, if_pos rfl], by omega, ?_⟩⟩ hk
            refine el_set (ce' := ce') hE he1 (canC_iff.2 ⟨us, h4.cells, h4.len, fun j t x ht hx => ((h4.at_ j t x ht hx) : Can t x ∧ _).1⟩) hov (fun x hx => ?_) (by simp only [List.length_drop]; omega) (fun j => ?_)
            · obtain ⟨q, hq⟩ := List.getElem?_of_mem hx
              have hlq : q < us.length := by rw [h4.len]; exact (List.getElem?_eq_some_iff.1 hq).1
              exact ((h4.at_ q _ x (List.getElem?_eq_getElem hlq) hq) : Can _ x ∧ _).2
            · rw [List.getElem?_drop, hat2, List.getElem?_drop]
              by_cases hj : i * z ≤ j ∧ j < i * z + z
              · rw [if_pos hj, hat, seg_get, List.getElem?_drop]
                by_cases hq : off ≤ j - i * z ∧ j - i * z < off + as.length
                · rw [if_pos hq, if_pos (by omega)]; congr 1; omega
                · rw [if_neg hq, if_neg (by omega), if_pos (by omega)]; congr 1; omega
              · rw [if_neg hj, if_neg (by omega)]
          · cases hp
      · cases hk
    · cases hk
end
end Go.Ax.V
