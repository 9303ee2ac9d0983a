/- What stands for what: values without memory, and the interpreter's. -/
import Derived.Test.YtamgnhdbeecapaaV0
set_option linter.unusedSimpArgs false
set_option linter.unusedVariables false
namespace Go.Ax.V

/-! ### Lists -/
theorem firstT_eq : ∀ (cs : List TV) (n : Nat), firstT cs n = if n ≤ cs.length then some (cs.take n) else none
  | cs, 0 => by simp [firstT]
  | [], n + 1 => by simp [firstT]
  | x :: xs, n + 1 => by
    simp only [firstT, firstT_eq xs n, List.length_cons, Nat.add_le_add_iff_right, List.take_succ_cons]
    by_cases h : n ≤ xs.length
    · rw [if_pos h, if_pos h]
    · rw [if_neg h, if_neg h]
theorem cutT_eq : ∀ (cs : List TV) (off n : Nat), cutT cs off n = if off + n ≤ cs.length then some ((cs.drop off).take n) else none
  | cs, 0, n => by simp [cutT, firstT_eq]
  | [], o + 1, n => by simp [cutT]
  | x :: xs, o + 1, n => by
    simp only [cutT, cutT_eq xs o n, List.length_cons, List.drop_succ_cons]
    by_cases h : o + n ≤ xs.length
    · rw [if_pos h, if_pos (by omega)]
    · rw [if_neg h, if_neg (by omega)]
theorem overFT_eq : ∀ (cells cs : List TV), overFT cells cs = if cs.length ≤ cells.length then some (cs ++ cells.drop cs.length) else none
  | cells, [] => by cases cells <;> simp [overFT]
  | [], y :: ys => by simp [overFT]
  | x :: xs, y :: ys => by
    simp only [overFT, overFT_eq xs ys, List.length_cons, Nat.add_le_add_iff_right, List.drop_succ_cons, List.cons_append]
    by_cases h : ys.length ≤ xs.length
    · rw [if_pos h, if_pos h]
    · rw [if_neg h, if_neg h]
theorem overT_eq : ∀ (cells : List TV) (off : Nat) (cs : List TV), overT cells off cs = if off + cs.length ≤ cells.length then some (cells.take off ++ cs ++ cells.drop (off + cs.length)) else none
  | cells, 0, cs => by cases cells <;> simp [overT, overFT_eq]
  | [], o + 1, cs => by simp [overT]
  | x :: xs, o + 1, cs => by
    simp only [overT, overT_eq xs o cs, List.length_cons]
    by_cases h : o + cs.length ≤ xs.length
    · rw [if_pos h, if_pos (by omega)]
      simp [show o + 1 + cs.length = o + cs.length + 1 by omega]
    · rw [if_neg h, if_neg (by omega)]
theorem over_pt {cells cs : List TV} {off : Nat} (h : off + cs.length ≤ cells.length) (j : Nat) :
    (cells.take off ++ cs ++ cells.drop (off + cs.length))[j]? = if off ≤ j ∧ j < off + cs.length then cs[j - off]? else cells[j]? := by
  have h1 : (cells.take off).length = off := by rw [List.length_take]; omega
  rw [List.append_assoc]
  by_cases ha : j < off
  · rw [List.getElem?_append_left (by omega), if_neg (by omega), List.getElem?_take, if_pos ha]
  · rw [List.getElem?_append_right (by omega), h1]
    by_cases hb : j < off + cs.length
    · rw [List.getElem?_append_left (by omega), if_pos (by omega)]
    · rw [List.getElem?_append_right (by omega), if_neg (by omega), List.getElem?_drop]
      congr 1; omega

/-! ### Cells -/
theorem can_flat1 {t : TV} {a : AV} (h : Can t a) (h1 : t.one = true) : a.flat = true := by
  cases h <;> first | rfl | cases h1
theorem can_one {t : TV} {a : AV} (h : Can t a) (h1 : t.one = true) : a.one = true := by
  cases h <;> first | rfl | cases h1
theorem canC_iff {v : TV} {cells : List AV} : CanC v cells ↔ ∃ ts, cellsT v = some ts ∧ CanL ts cells := by
  constructor
  · intro h
    cases h with
    | one _ x h1 h =>
      refine ⟨[v], (by cases v <;> first | rfl | cases h1), rfl, fun j t y ht hy => ?_⟩
      cases j with
      | zero => simp at ht hy; subst ht; subst hy; exact h
      | succ j => simp at ht
    | a ts _ hl h => exact ⟨ts, rfl, hl, h⟩
  · rintro ⟨ts, h1, hl, h⟩
    cases v with
    | a cs => cases h1; exact .a _ _ hl h
    | tp vs => cases h1
    | _ =>
      cases h1
      match cells, hl with
      | [x], _ => exact .one _ _ rfl (h 0 _ _ rfl rfl)
/-- cells that lead to no object -/
def CanF (ts : List TV) (cs : List AV) : Prop := CanL ts cs ∧ ∀ x ∈ cs, AV.flat x = true
theorem can_cells {t : TV} {a : AV} {ts : List TV} (h : Can t a) (hc : cellsT t = some ts) : ∃ as, a.cells? = some as ∧ CanF ts as := by
  have single : ∀ {t : TV} {a : AV}, Can t a → t.one = true → CanF [t] [a] := fun h h1 => ⟨⟨rfl, fun j u y hu hy => by
    cases j with
    | zero => simp at hu hy; subst hu; subst hy; exact h
    | succ j => simp at hu⟩, fun x hx => by simp at hx; subst hx; exact can_flat1 h h1⟩
  cases h with
  | a ts as hl hf h => cases hc; exact ⟨as, rfl, ⟨hl, h⟩, hf⟩
  | tp ts as hl hf h => cases hc
  | i k n => cases hc; exact ⟨_, rfl, single (.i k n) rfl⟩
  | b x => cases hc; exact ⟨_, rfl, single (.b x) rfl⟩
  | s x => cases hc; exact ⟨_, rfl, single (.s x) rfl⟩
  | f n => cases hc; exact ⟨_, rfl, single (.f n) rfl⟩
  | np => cases hc; exact ⟨_, rfl, single .np rfl⟩
  | nil => cases hc; exact ⟨_, rfl, single .nil rfl⟩
  | imm es cs n sz c hn hc' hz hf h => cases hc; exact ⟨_, rfl, single (.imm es cs n sz c hn hc' hz hf h) rfl⟩
theorem cellT_some {v r : TV} {off : Nat} (h : cellT v off = some r) : ∃ ts, cellsT v = some ts ∧ ts[off]? = some r := by
  cases v with
  | a cs => exact ⟨cs, rfl, h⟩
  | tp vs => cases h
  | _ => cases off with
    | zero => cases h; exact ⟨_, rfl, rfl⟩
    | succ n => cases h
theorem subT_some {v r : TV} {off n : Nat} (h : subT v off n = some r) : ∃ ts, v = .a ts ∧ cellsT v = some ts ∧ off + n ≤ ts.length ∧ r = .a ((ts.drop off).take n) := by
  cases v with
  | a cs =>
    simp only [subT, cutT_eq] at h
    by_cases hl : off + n ≤ cs.length
    · rw [if_pos hl] at h; cases h; exact ⟨cs, rfl, rfl, hl, rfl⟩
    · rw [if_neg hl] at h; cases h
  | _ => cases h
theorem putT_some {v u x : TV} {off n : Nat} (h : putT v off n x = some u) : ∃ ts xs us, cellsT v = some ts ∧ cellsT x = some xs ∧ xs.length = n ∧ cellsT u = some us ∧ us.length = ts.length ∧ off + n ≤ ts.length ∧
    ∀ j, us[j]? = if off ≤ j ∧ j < off + n then xs[j - off]? else ts[j]? := by
  unfold putT at h
  split at h
  · cases h
  rename_i xs hx
  simp only [cond_eq_ite, Nat.beq_eq] at h
  split at h
  rotate_left
  · cases h
  rename_i hn
  have one : ∀ {w : TV}, cellsT v = some [w] → (if (Nat.beq off 0 && x.one) = true then some x else none) = some u →
      ∃ ts xs us, cellsT v = some ts ∧ cellsT x = some xs ∧ xs.length = n ∧ cellsT u = some us ∧ us.length = ts.length ∧ off + n ≤ ts.length ∧ ∀ j, us[j]? = if off ≤ j ∧ j < off + n then xs[j - off]? else ts[j]? := by
    intro w hv h
    simp only [Bool.and_eq_true, Nat.beq_eq] at h
    split at h
    rotate_left
    · cases h
    rename_i hc
    obtain ⟨h0, h1⟩ := hc
    have hu := Option.some.inj h
    subst hu
    have hx1 : xs = [x] := by
      cases x <;> first | (simp only [cellsT, Option.some.injEq] at hx; exact hx.symm) | (simp [TV.one] at h1)
    subst hx1
    simp at hn
    subst hn
    subst h0
    refine ⟨[w], [x], [x], hv, hx, rfl, hx, rfl, by simp, fun j => ?_⟩
    cases j with
    | zero => simp
    | succ j => simp
  cases v with
  | a cs =>
    simp only [overT_eq] at h
    by_cases hl : off + xs.length ≤ cs.length
    · rw [if_pos hl] at h
      cases h
      refine ⟨cs, xs, _, rfl, hx, hn, rfl, ?_, by omega, fun j => ?_⟩
      · simp only [List.length_append, List.length_take, List.length_drop]; omega
      · rw [over_pt hl, hn]
    · rw [if_neg hl] at h; cases h
  | tp vs => cases h
  | _ => exact one rfl h

theorem canL_take {ts : List TV} {cs : List AV} (h : CanL ts cs) (off n : Nat) : CanL ((ts.drop off).take n) ((cs.drop off).take n) := by
  refine ⟨by simp [h.1], fun j t x ht hx => ?_⟩
  simp only [List.getElem?_take] at ht hx
  split at ht
  · rename_i hj
    rw [if_pos hj] at hx
    simp only [List.getElem?_drop] at ht hx
    exact h.2 _ _ _ ht hx
  · cases ht
theorem flat_take {cs : List AV} (h : ∀ x ∈ cs, AV.flat x = true) (off n : Nat) : ∀ x ∈ (cs.drop off).take n, AV.flat x = true :=
  fun x hx => h x (List.mem_of_mem_drop (List.mem_of_mem_take hx))
/-- A load out of cells that lead to no object. -/
theorem ldT_can {v r : TV} {ts : List TV} {cs : List AV} {off : Nat} {sz : Option Nat} (hv : cellsT v = some ts) (hc : CanF ts cs) (h : ldT v off sz = some r) :
    ∃ l a, cut cs off (loadA sz) = some l ∧ mkv sz l = some a ∧ Can r a := by
  cases sz with
  | none =>
    obtain ⟨ts', h1, h2⟩ := cellT_some h
    rw [hv] at h1; cases h1
    have hlt : off < ts.length := by
      cases hh : ts[off]? with
      | none => rw [hh] at h2; cases h2
      | some _ => exact (List.getElem?_eq_some_iff.1 hh).1
    have hlt' : off < cs.length := by rw [← hc.1.1]; exact hlt
    have hx : cs[off]? = some cs[off] := List.getElem?_eq_getElem hlt'
    refine ⟨[cs[off]], cs[off], ?_, rfl, hc.1.2 _ _ _ h2 hx⟩
    rw [cut_eq, loadA, if_pos (by omega)]
    rw [List.drop_eq_getElem_cons hlt']
    rfl
  | some n =>
    obtain ⟨ts', h0, h1, hl, rfl⟩ := subT_some h
    rw [hv] at h1; cases h1
    have hl' : off + n ≤ cs.length := by rw [← hc.1.1]; exact hl
    refine ⟨(cs.drop off).take n, .agg _, ?_, rfl, ?_⟩
    · rw [cut_eq, loadA, if_pos hl']
    · exact .a _ _ (canL_take hc.1 _ _).1 (flat_take hc.2 _ _) (canL_take hc.1 _ _).2

/-! ### Scalars -/
theorem flatA_can {t : TV} {x a : AV} (h : flatA t = some x) (hc : Can t a) : a = x := by
  cases hc <;> first | (cases h; rfl) | cases h
theorem flatV_can {r : AV} {t : TV} (h : flatV r = some t) : Can t r := by
  cases r <;> first | (cases h; constructor) | cases h
theorem flatA_can' {t : TV} {x : AV} (h : flatA t = some x) : Can t x := by
  cases t <;> first | (cases h; constructor) | cases h
theorem binT_can {op : BinOp} {x y r : TV} {a b : AV} (h : binT op x y = some r) (ha : Can x a) (hb : Can y b) : ∃ c, binA op a b = some c ∧ Can r c := by
  unfold binT at h
  split at h
  · rename_i x' hx
    split at h
    · rename_i y' hy
      split at h
      · rename_i c hc
        rw [flatA_can hx ha, flatA_can hy hb]
        exact ⟨c, hc, flatV_can h⟩
      · cases h
    · cases h
  · cases h
theorem unT_can {op : UnOp} {x r : TV} {a : AV} (h : unT op x = some r) (ha : Can x a) : ∃ c, unA op a = some c ∧ Can r c := by
  unfold unT at h
  split at h
  · rename_i x' hx
    split at h
    · rename_i c hc
      rw [flatA_can hx ha]
      exact ⟨c, hc, flatV_can h⟩
    · cases h
  · cases h
theorem flatAs_can : ∀ {ts : List TV} {xs as : List AV}, flatAs ts = some xs → CanL ts as → as = xs
  | [], xs, as, h, hc => by cases h; exact List.length_eq_zero_iff.1 hc.1.symm
  | t :: ts, xs, as, h, hc => by
    simp only [flatAs] at h
    split at h
    · cases h
    rename_i x hx
    split at h
    · cases h
    rename_i l hl
    cases h
    cases as with
    | nil => cases hc.1
    | cons a as =>
      rw [flatA_can hx (hc.2 0 t a rfl rfl), flatAs_can hl ⟨Nat.succ.inj hc.1, fun j u y hu hy => hc.2 (j + 1) u y hu hy⟩]
end Go.Ax.V
