/- Each operation of the interpreter is what the machine does: append. -/
import Derived.Test.YtamgnhdbeecapaaAx9
set_option linter.unusedSimpArgs false
set_option linter.unusedVariables false
namespace Go.Ax

section
variable {top : Nat} {P : Program} {φ : Phi} {K : Nat → Prop} {h : HeapF} {nx : Nat} {w : World} {ρ : Opd → AV} {ρc : Operand → Value} {o : Oper}

theorem runF_none {q : Option Rng} {k : List AV → Option AObj → Option Out} {v : AV} {h' : HeapF} {nx' : Nat} (hr : runF (.look q none k) h nx = some (v, h', nx')) :
    ∃ a out, fetchF h q = some a ∧ k a none = some out ∧ (match out.new with
      | some ob => some (out.val nx, upd (setF h none out.obj) nx (some ob), nx + 1)
      | none => some (out.val nx, setF h none out.obj, nx)) = some (v, h', nx') := by
  simp only [runF, fetchOF] at hr
  cases hq : fetchF h q with
  | none => rw [hq] at hr; cases hr
  | some a =>
    rw [hq] at hr
    simp only at hr
    cases hk : k a none with
    | none => rw [hk] at hr; cases hr
    | some out => rw [hk] at hr; exact ⟨a, out, rfl, hk, hr⟩

theorem s_app (s : Sim top φ K h nx w) (hρ : ∀ x y, mOpd x y = true → RelV φ K w (ρ y) (ρc x)) {es bytes : Nat} {x y : Opd} (hm : mApp P o es bytes x y = true) {p : Plan} (hp : appA es bytes (ρ x) (ρ y) = some p) : Sound top P φ K h nx w ρc o p := by
  unfold mApp at hm
  split at hm
  · rename_i x' y' t tx ho
    simp only [Bool.and_eq_true] at hm
    obtain ⟨⟨⟨hmx, hmy⟩, htx⟩, ht⟩ := hm
    have hrx := hρ _ _ hmx
    have hry := hρ _ _ hmy
    obtain ⟨dx, hdx, hdx2⟩ := tDesc_some htx
    have hkx : ∃ e', P.underlying tx = some (.slice e') := by
      cases dx <;> first | exact ⟨_, hdx⟩ | cases hdx2
    obtain ⟨e', hkx⟩ := hkx
    obtain ⟨dt, hdt, hdt2⟩ := tDesc_some ht
    have hkt : ∃ e, P.underlying t = some (.slice e) ∧ (tInfo P e fun i => Nat.beq i.size es && Nat.beq i.bytes bytes && (match i.zero with | some z => Nat.beq z.cells.size es | none => false)) = true := by
      cases dt <;> first | exact ⟨_, hdt, hdt2⟩ | cases hdt2
    obtain ⟨e, hkt, hie⟩ := hkt
    obtain ⟨i, hi, hie2⟩ := tInfo_some hie
    simp only [Bool.and_eq_true, Nat.beq_eq] at hie2
    obtain ⟨⟨hes, hby⟩, hz2⟩ := hie2
    have hzz : ∃ z, i.zero = some z ∧ z.cells.size = es := by
      cases hz : i.zero with
      | none => rw [hz] at hz2; cases hz2
      | some z => rw [hz] at hz2; exact ⟨z, rfl, by simpa [Nat.beq_eq] using hz2⟩
    obtain ⟨z, hz, hzs⟩ := hzz
    have hexec : ∀ {V : Value} {w' : World}, (Builtin.append_ #[t, tx] o.type #[ρc x', ρc y']).run P w = .ok V w' → (execOp ρc o).run P w = .ok (.value V) w' := fun hr =>
      run_builtin (x := Builtin.append_ #[t, tx] o.type #[ρc x', ρc y']) ho (fun _ => by simp [builtin]) hr
    unfold appA at hp
    split at hp
    · cases hp
    · rename_i m src hsrc
      simp only [cond_eq_ite, Nat.beq_eq, Bool.and_eq_true, Nat.ble_eq, Nat.blt_eq] at hp
      split at hp
      · rename_i hm0
        subst hm0
        split at hp
        · rename_i hsl
          cases hp
          obtain ⟨ao, l, c, hX, hle⟩ := isSl_rel hsl hrx
          obtain ⟨ao', c', hY⟩ := srcOf_zero hsrc hry
          refine sound_val s (hexec ?_) hrx
          rw [hX, hY]
          refine run_append_nothing w t tx o.type e i hkt hi ao l c hle _ ?_
          exact src_ok hkx (by simp) (fun _ => rfl) (fun _ _ j u hu => by simp at hu) (fun u hu => by cases hu)
        · cases hp
      · rename_i hm0
        split at hp
        · rename_i hx
          rw [hx] at hrx
          split at hp
          · rename_i hb
            cases hp
            intro v h' nx' hrun htop
            obtain ⟨a, out, hf, hk, hend⟩ := runF_none hrun
            cases hk
            cases hend
            obtain ⟨news, ao, c', hY, hmc, hl1, hl2, hao, hn, hr2⟩ := src_run s hsrc hry hf
            have hs := src_ok (w := w) (c' := c') hkx (hl2.symm.trans hl1) hao hn (one_list hl2 hr2)
            have hX := rel_nils hrx
            simp only [Nat.mul_eq] at hb
            obtain ⟨cap', zz, g1, g2, g3⟩ := grow_run (ty := o.type) (sLen := 0) (sCap := 0) (base := none) (olds := []) hkt hi hz hes hby hzs (by simp) (run_firstCells_none w.drew es 0 0 0) hs (by omega) (by rw [Nat.zero_add]; exact hb.1) (by omega)
            rw [Nat.zero_add] at g1 g2
            exact app_new s htop (cs := []) (olds := []) rfl hl2 (fun j y hy => by simp at hy) hr2 (hexec (by rw [hX, hY]; exact g1)) g2 g3
          · cases hp
        · rename_i cs n c hx
          rw [hx] at hrx
          split at hp
          · rename_i hb
            cases hp
            simp only [Nat.mul_eq, Nat.add_eq] at hb
            obtain ⟨⟨⟨hb1, hb2⟩, hb3⟩, hb4⟩ := hb
            intro v h' nx' hrun htop
            obtain ⟨a, out, hf, hk, hend⟩ := runF_none hrun
            cases hk
            cases hend
            obtain ⟨news, ao, c', hY, hmc, hl1, hl2, hao, hn, hr2⟩ := src_run s hsrc hry hf
            have hs := src_ok (w := w) (c' := c') hkx (hl2.symm.trans hl1) hao hn (one_list hl2 hr2)
            obtain ⟨ad, c'', hX, hn1, hcap, hK1, hc1⟩ := rel_imm hrx
            obtain ⟨olds, o1, o2, o3⟩ := imm_list (φ := φ) (n := 0) (cap := none) hK1 hc1
            have hcc := hcap c rfl
            subst hcc
            obtain ⟨cap', zz, g1, g2, g3⟩ := grow_run (ty := o.type) (sLen := n) (sCap := c'') (base := some ad) (olds := olds) hkt hi hz hes hby hzs (by omega) (run_firstCells_some w.drew es n ad n c'' olds (by omega) (by simpa using o2)) hs (by omega) hb3 hb4
            exact app_new s htop o1 hl2 o3 hr2 (hexec (by rw [hX, hY]; exact g1)) g2 g3
          · cases hp
        · rename_i id g off es' len cap ex hx
          rw [hx] at hrx
          split at hp
          · rename_i hb
            simp only [Nat.mul_eq, Nat.add_eq] at hb
            obtain ⟨⟨hb1, hb2⟩, hb3⟩ := hb
            subst hb1
            obtain ⟨b, base, ad, c1, hX, hp1, hlc, hcc, hexc, had⟩ := rel_ref hrx
            cases hp
            unfold appRef
            simp only [cond_eq_ite, Nat.beq_eq, Nat.ble_eq]
            split
            · rename_i hroom
              simp only [Nat.add_eq] at hroom
              intro v h' nx' hrun htop
              obtain ⟨a, cells, out, hf, hh, hk, hend⟩ := runF_row hrun
              split at hk
              · rename_i cells' hov
                cases hk
                cases hend
                obtain ⟨news, ao, c', hY, hmc, hl1, hl2, hao, hn, hr2⟩ := src_run s hsrc hry hf
                have h1 := one_list hl2 hr2
                have hs := src_ok (w := w) (c' := c') hkx (hl2.symm.trans hl1) hao hn h1
                obtain ⟨b1, base1, c, e1, h5, h6, h7, h8⟩ := s.row id g cells hh
                rw [hp1] at h5
                cases h5
                have hne : c1 ≠ 0 := by omega
                obtain ⟨rfl, c2, e2, fr, h9, h10⟩ := had hne
                rw [h6] at h9
                cases h9
                have hof := (over_some hov).1
                simp only [Nat.mul_eq, Nat.add_eq] at hof hov
                have hroom2 : base + off + len * es' + news.length ≤ c.size := by omega
                have hrun2 := run_append_room_src (P := P) w t tx o.type e i hkt hi b (base + off) len c1 (.slice ao m c') m news (by rw [hes]; exact hs) (by omega) (fun j hj => by
                  rw [cell_at h6, hes, Array.getElem?_eq_getElem (by omega)]; rfl) (fun j hj => by simp [World.frozen?, h6])
                rw [hes, setCells_row P h6 news hroom2 h1] at hrun2
                have hg := goes_over s hh hp1 h6 h7 h8 hov news hl2.symm (fun j a v ha hv => by
                  obtain ⟨_, u, q1, q2⟩ := hr2 j a ha
                  rw [q1] at hv
                  cases hv
                  exact q2) (fun j a ha => (hr2 j a ha).1)
                rw [← Nat.add_assoc base off] at hg
                refine ⟨_, _, _, _, .inl (hexec (by rw [hX, hY]; exact hrun2)), hg, ?_⟩
                refine .ref id g off es' (len + m) cap ex b base _ c1 hp1 hroom (by omega) hexc (fun _ => ⟨rfl, _, e1, (0, 0), setRow_heap w b c _ e1 (0, 0) h6, ?_⟩)
                simp only [List.size_toArray, List.length_append, List.length_take, List.length_drop, Array.length_toList]
                omega
              · cases hk
            · rename_i hroom
              simp only [Nat.add_eq] at hroom
              split
              · rename_i hex
                have hce := hexc hex
                intro v h' nx' hrun htop
                obtain ⟨a, cells, out, hf, hh, hk, hend⟩ := runF_row hrun
                split at hk
                · rename_i cs hcut
                  cases hk
                  cases hend
                  obtain ⟨news, ao, c', hY, hmc, hl1, hl2, hao, hn, hr2⟩ := src_run s hsrc hry hf
                  have hs := src_ok (w := w) (c' := c') hkx (hl2.symm.trans hl1) hao hn (one_list hl2 hr2)
                  have hf2 : fetchF h (some ⟨id, g, off, len * es'⟩) = some cs := by
                    simp only [fetchF, hh, cond_eq_ite, Nat.beq_eq, if_true]
                    exact hcut
                  obtain ⟨olds, ao2, c3, hX2, _, ho1, ho2, hao2, hn2, hro⟩ := src_run (src := .rng ⟨id, g, off, len * es'⟩) (es := es') (m := len) s (by simp [srcOf]) hrx hf2
                  rw [hX] at hX2
                  cases hX2
                  simp only [Src.cs] at ho1 ho2 hro
                  obtain ⟨cap', zz, g1, g2, g3⟩ := grow_run (ty := o.type) (sLen := len) (sCap := c1) (base := some ad) (olds := olds) hkt hi hz hes hby hzs (by omega) (run_firstCells_some w.drew es' len ad len c1 olds (by omega) (by simpa using hn2 ad rfl)) hs (by omega) hb2 hb3
                  exact app_new s htop ho2 hl2 hro hr2 (hexec (by rw [hX, hY]; exact g1)) g2 g3
                · cases hk
              · rename_i hex
                intro v h' nx' hrun htop
                obtain ⟨a, cells, out, hf, hh, hk, hend⟩ := runF_row hrun
                split at hk
                · rename_i hend2
                  simp only [Nat.mul_eq, Nat.add_eq] at hend2
                  cases hk
                  cases hend
                  obtain ⟨news, ao, c', hY, hmc, hl1, hl2, hao, hn, hr2⟩ := src_run s hsrc hry hf
                  have h1 := one_list hl2 hr2
                  have hs := src_ok (w := w) (c' := c') hkx (hl2.symm.trans hl1) hao hn h1
                  obtain ⟨b1, base1, c, e1, h5, h6, h7, h8⟩ := s.row id g cells hh
                  rw [hp1] at h5
                  cases h5
                  by_cases hroom2 : len + m ≤ c1
                  · have hne : c1 ≠ 0 := by omega
                    obtain ⟨rfl, c2, e2, fr, h9, h10⟩ := had hne
                    rw [h6] at h9
                    cases h9
                    have hmul : (len + m) * es' ≤ c1 * es' := Nat.mul_le_mul_right _ hroom2
                    rw [Nat.add_mul] at hmul
                    have hroom3 : base + off + len * es' + news.length ≤ c.size := by omega
                    have hrun2 := run_append_room_src (P := P) w t tx o.type e i hkt hi b (base + off) len c1 (.slice ao m c') m news (by rw [hes]; exact hs) hroom2 (fun j hj => by
                      rw [cell_at h6, hes, Array.getElem?_eq_getElem (by omega)]; rfl) (fun j hj => by simp [World.frozen?, h6])
                    rw [hes, setCells_row P h6 news hroom3 h1] at hrun2
                    have hg := app_there (off := off) s hh hp1 h6 h8 (by omega) hl2 (by omega) hr2
                    rw [show base + cells.length = base + off + len * es' by omega] at hg
                    refine ⟨_, _, _, _, .inl (hexec (by rw [hX, hY]; exact hrun2)), hg, ?_⟩
                    refine .ref id (g + 1) 0 es' (len + m) (len + m) false b (base + off) _ c1 (by simp) (Nat.le_refl _) hroom2 (fun h => by cases h) (fun _ => ⟨rfl, _, e1, (0, 0), setRow_heap w b c _ e1 (0, 0) h6, ?_⟩)
                    simp only [List.size_toArray, List.length_append, List.length_take, List.length_drop, Array.length_toList]
                    omega
                  · have hf2 : fetchF h (some ⟨id, g, off, len * es'⟩) = some (cells.drop off) := by
                      simp only [fetchF, hh, cond_eq_ite, Nat.beq_eq, if_true]
                      rw [cut_eq, if_pos (by omega), List.take_of_length_le (by rw [List.length_drop]; omega)]
                    obtain ⟨olds, ao2, c3, hX2, _, ho1, ho2, hao2, hn2, hro⟩ := src_run (src := .rng ⟨id, g, off, len * es'⟩) (es := es') (m := len) s (by simp [srcOf]) hrx hf2
                    rw [hX] at hX2
                    cases hX2
                    simp only [Src.cs] at ho1 ho2 hro
                    obtain ⟨cap', zz, g1, g2, g3⟩ := grow_run (ty := o.type) (sLen := len) (sCap := c1) (base := some ad) (olds := olds) hkt hi hz hes hby hzs (by omega) (run_firstCells_some w.drew es' len ad len c1 olds (by omega) (by simpa using hn2 ad rfl)) hs (by omega) hb2 hb3
                    have hcell := grown_cells ho2 hl2 zz w hro hr2
                    refine ⟨_, _, _, _, .inl (hexec (by rw [hX, hY]; exact g1)), app_else (e' := e) s hh hp1 h6 (by simp; omega) hcell, ?_⟩
                    exact .ref id (g + 1) 0 es' (len + m) (len + m) false w.heap.size 0 _ cap' (by simp) (Nat.le_refl _) g2 (fun h => by cases h) (fun _ => ⟨rfl, _, e, (0, 0), alloc_at w.drew _, by omega⟩)
                · cases hk
          · cases hp
        · cases hp
  · cases hm
end
end Go.Ax
