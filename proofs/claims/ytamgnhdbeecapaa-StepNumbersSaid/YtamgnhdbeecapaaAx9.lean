/- Each operation of the interpreter is what the machine does: append, copy, clear, make. -/
import Derived.Test.YtamgnhdbeecapaaAx8
set_option linter.unusedSimpArgs false
set_option linter.unusedVariables false
namespace Go.Ax

section
variable {top : Nat} {P : Program} {φ : Phi} {K : Nat → Prop} {h : HeapF} {nx : Nat} {w : World} {ρ : Opd → AV} {ρc : Operand → Value} {o : Oper}

theorem goes_drew (s : Sim top φ K h nx w) : Goes top φ K h nx w φ K h nx w.drew :=
  ⟨fun _ _ _ h => h, fun _ h => h, s.drew, (Ext.refl _ w).drew, fun _ h => .inl h, fun _ h => .inl h, fun _ _ _ h => .inl h, fun _ h => .inl h, Nat.le_refl _⟩

theorem setCells_row (P : Program) {b o : Nat} {c : Array Value} {e : TypeId} (hb : w.heap[b]? = some (.cells c e (0, 0))) (vs : List Value) (hfit : o + vs.length ≤ c.size) (h1 : ∀ u ∈ vs, u.oneCell' = true) :
    w.setCells b o vs = w.setRow b (c.toList.take o ++ vs ++ c.toList.drop (o + vs.length)).toArray := by
  have hcell : ∀ j, j < vs.length → w.cell? ⟨b, o + j, none⟩ = c[o + j]? := fun j _ => cell_at hb
  have A := run_storeCells_cells (P := P) b o vs 0 w (fun j hj => by
    rw [Nat.add_zero, hcell j hj, Array.getElem?_eq_getElem (by omega)]; rfl) (fun j hj => by simp [World.frozen?, hb]) h1
  have B := run_storeCells_at P b o e vs 0 c w hb (by omega) h1
  rw [A] at B
  simp only [Nat.add_zero] at B
  injection B

theorem one_list {news : List Value} {cs : List AV} (hl : cs.length = news.length) (hr : ∀ (j : Nat) (y : AV), cs[j]? = some y → y.one = true ∧ ∃ u, news[j]? = some u ∧ RelV φ K w y u) : ∀ u ∈ news, u.oneCell' = true := by
  intro u hu
  obtain ⟨j, hj, rfl⟩ := List.getElem_of_mem hu
  obtain ⟨r1, u', r2, r3⟩ := hr j _ (List.getElem?_eq_getElem (by omega))
  rw [List.getElem?_eq_getElem hj] at r2
  cases r2
  exact one_of r3 r1

theorem mul0 {m es : Nat} (h : m = 0) : m * es = 0 := by rw [h, Nat.zero_mul]

theorem imm_list {cs : List AV} {n : Nat} {cap : Option Nat} {ad : Addr} (hK : cs ≠ [] → ad.spot = none ∧ K ad.block) (hc : ∀ (j : Nat) (a : AV), cs[j]? = some a → a.one = true ∧ ∃ v, w.cell? ⟨ad.block, ad.off + j, none⟩ = some v ∧ RelP K w a v) :
    ∃ news : List Value, cs.length = news.length ∧ (∀ j u, news[j]? = some u → w.cell? (ad.add j) = some u) ∧ (∀ (j : Nat) (y : AV), cs[j]? = some y → y.one = true ∧ ∃ u, news[j]? = some u ∧ RelV φ K w y u) := by
  refine ⟨(List.range cs.length).map fun j => (w.cell? ⟨ad.block, ad.off + j, none⟩).getD undef, by simp, fun j u hu => ?_, fun j y hy => ?_⟩
  · have hj : j < cs.length := by
      rcases Nat.lt_or_ge j cs.length with h' | h'
      · exact h'
      · rw [List.getElem?_eq_none (by simpa using h')] at hu; cases hu
    have hne : cs ≠ [] := by rintro rfl; simp at hj
    obtain ⟨_, v, r2, _⟩ := hc j _ (List.getElem?_eq_getElem hj)
    rw [addr_eta ad (hK hne).1, Addr.add_lit, r2]
    simp [hj, r2] at hu
    rw [hu]
  · have hj : j < cs.length := by
      rcases Nat.lt_or_ge j cs.length with h' | h'
      · exact h'
      · rw [List.getElem?_eq_none h'] at hy; cases hy
    obtain ⟨r1, v, r2, r3⟩ := hc j y hy
    exact ⟨r1, v, by simp [hj, r2], .pure r3⟩

/-- what is appended, or copied -/
theorem src_run (s : Sim top φ K h nx w) {es m : Nat} {src : Src} {x : AV} {X : Value} (hs : srcOf es x = some (m, src)) (r : RelV φ K w x X) {a : List AV} (hf : fetchF h src.q = some a) :
    ∃ (news : List Value) (ao : Option Addr) (c' : Nat), X = .slice ao m c' ∧ m ≤ c' ∧ (src.cs a).length = m * es ∧ (src.cs a).length = news.length ∧ (ao = none → m = 0) ∧
      (∀ ad, ao = some ad → ∀ j u, news[j]? = some u → w.cell? (ad.add j) = some u) ∧ (∀ (j : Nat) (y : AV), (src.cs a)[j]? = some y → y.one = true ∧ ∃ u, news[j]? = some u ∧ RelV φ K w y u) := by
  unfold srcOf at hs
  split at hs
  · cases hs
    rw [rel_nils r]
    exact ⟨[], none, 0, rfl, Nat.le_refl _, by simp [Src.cs], rfl, fun _ => rfl, fun _ h => (by cases h), fun j y hy => by simp [Src.cs] at hy⟩
  · simp only [cond_eq_ite, Nat.beq_eq] at hs
    split at hs
    · rename_i hl
      cases hs
      obtain ⟨ad, c', rfl, h1, _, h3, h4⟩ := rel_imm r
      obtain ⟨news, n1, n2, n3⟩ := imm_list (φ := φ) (n := 0) (cap := none) h3 h4
      exact ⟨news, some ad, c', rfl, h1, hl.symm, n1, fun h => (by cases h), fun ad' h => (by cases h; exact n2), n3⟩
    · cases hs
  · rename_i id g off es' len cap ex
    simp only [cond_eq_ite, Nat.beq_eq] at hs
    split at hs
    · rename_i hes
      subst hes
      cases hs
      obtain ⟨b, base, ad, c', rfl, hp1, hlc, hcc, hexc, had⟩ := rel_ref r
      obtain ⟨b1, base1, c, e, h1, h2, h3, h4, h5⟩ := fetch_cells s hf
      rw [hp1] at h1
      cases h1
      have hlen := listAt_length c (base + off) (Nat.mul m es')
      simp only [Nat.mul_eq] at h3 h4 hlen ⊢
      have hb : ∀ j (y : AV), a[j]? = some y → j < m * es' := by
        intro j y hy
        rcases Nat.lt_or_ge j a.length with h' | h'
        · omega
        · rw [List.getElem?_eq_none h'] at hy; cases hy
      refine ⟨listAt c (base + off) (m * es'), some ad, c', rfl, by omega, h4, h4.trans hlen.symm, fun h => (by cases h), fun ad' h j u hu => ?_, fun j y hy => ?_⟩
      · cases h
        have hj : j < m * es' := by
          rcases Nat.lt_or_ge j (m * es') with h' | h'
          · exact h'
          · rw [List.getElem?_eq_none (by omega)] at hu; cases hu
        have hne : c' ≠ 0 := by
          rintro rfl
          have : m = 0 := by omega
          subst this
          omega
        obtain ⟨rfl, _⟩ := had hne
        rw [Addr.add_lit, cell_at h2, ← listAt_get c _ _ j hj (by omega), hu]
      · obtain ⟨r1, u, r2, r3⟩ := h5 j y hy
        exact ⟨r1, u, by rw [listAt_get c _ _ j (hb j y hy) (by have := hb j y hy; omega)]; exact r2, r3⟩
    · cases hs
  · cases hs

theorem src_ok {es : Nat} {tx e' : TypeId} (hk : P.underlying tx = some (.slice e')) {m c' : Nat} {ao : Option Addr} {news : List Value} (hl : news.length = m * es) (h0 : ao = none → m = 0)
    (hn : ∀ ad, ao = some ad → ∀ j u, news[j]? = some u → w.cell? (ad.add j) = some u) (h1 : ∀ u ∈ news, u.oneCell' = true) : Go.Src P es tx (.slice ao m c') m news w := by
  cases ao with
  | none =>
    have hm := h0 rfl
    subst hm
    obtain rfl : news = [] := List.eq_nil_of_length_eq_zero (by omega)
    exact Go.Src.ofNil w hk c'
  | some ad => exact Go.Src.ofSlice w hk ad m c' news hl (hn ad rfl) h1

def mApp (P : Program) (o : Oper) (es bytes : Nat) (x y : Opd) : Bool := match o.op with
  | .call { callee := .builtin .append, args := ⟨[x', y']⟩, argTypes := ⟨[t, tx]⟩ } => mOpd x' x && mOpd y' y && (tDesc P tx fun d => match d with | .slice _ => true | _ => false) &&
      (tDesc P t fun d => match d with
        | .slice e => tInfo P e fun i => Nat.beq i.size es && Nat.beq i.bytes bytes && (match i.zero with | some z => Nat.beq z.cells.size es | none => false)
        | _ => false)
  | _ => false

theorem isSl_rel {v : AV} {V : Value} (hv : isSl v = true) (r : RelV φ K w v V) : ∃ ao l c, V = .slice ao l c ∧ l ≤ c := by
  unfold isSl at hv
  split at hv
  · exact ⟨none, 0, 0, rel_nils r, Nat.le_refl _⟩
  · obtain ⟨ad, c', rfl, h1, _⟩ := rel_imm r; exact ⟨_, _, _, rfl, h1⟩
  · obtain ⟨b, base, ad, c', rfl, _, h1, h2, _⟩ := rel_ref r; exact ⟨_, _, _, rfl, by omega⟩
  · cases hv
theorem srcOf_zero {es : Nat} {src : Src} {x : AV} {X : Value} (hs : srcOf es x = some (0, src)) (r : RelV φ K w x X) : ∃ ao c', X = .slice ao 0 c' := by
  unfold srcOf at hs
  split at hs
  · exact ⟨none, 0, rel_nils r⟩
  · simp only [cond_eq_ite, Nat.beq_eq] at hs
    split at hs
    · cases hs
      obtain ⟨ad, c', rfl, _⟩ := rel_imm r; exact ⟨_, _, rfl⟩
    · cases hs
  · simp only [cond_eq_ite, Nat.beq_eq] at hs
    split at hs
    · cases hs
      obtain ⟨b, base, ad, c', rfl, _⟩ := rel_ref r; exact ⟨_, _, rfl⟩
    · cases hs
  · cases hs

/-- what an append that grows makes: a new row; of it the first cells are known -/
theorem grown_cells {cs xs : List AV} {olds news : List Value} (h1 : cs.length = olds.length) (h2 : xs.length = news.length) (z : Array Value) (w' : World)
    (hr1 : ∀ (j : Nat) (y : AV), cs[j]? = some y → y.one = true ∧ ∃ u, olds[j]? = some u ∧ RelV φ K w' y u) (hr2 : ∀ (j : Nat) (y : AV), xs[j]? = some y → y.one = true ∧ ∃ u, news[j]? = some u ∧ RelV φ K w' y u) :
    ∀ (j : Nat) (y : AV), (cs ++ xs)[j]? = some y → y.one = true ∧ ∃ u, ((olds ++ news).toArray ++ z)[j]? = some u ∧ RelV φ K w' y u := by
  intro j y hy
  have hj : j < (cs ++ xs).length := by
    rcases Nat.lt_or_ge j (cs ++ xs).length with h' | h'
    · exact h'
    · rw [List.getElem?_eq_none h'] at hy; cases hy
  have hj2 : j < cs.length + xs.length := by simpa using hj
  rw [Array.getElem?_append_left (by simp; omega), List.getElem?_toArray]
  by_cases hlo : j < cs.length
  · rw [List.getElem?_append_left hlo] at hy
    rw [List.getElem?_append_left (by omega)]
    exact hr1 j y hy
  · rw [List.getElem?_append_right (by omega)] at hy
    rw [List.getElem?_append_right (by omega), ← h1]
    exact hr2 _ y hy

theorem grow_run {t tx ty e : TypeId} {i : TypeInfo} {z : Value} {es bytes : Nat} (ht : P.underlying t = some (.slice e)) (hi : P.info? e = some i) (hz : i.zero = some z) (hes : i.size = es) (hby : i.bytes = bytes) (hzs : z.cells.size = es)
    {ao base : Option Addr} {m c' sLen sCap : Nat} {olds news : List Value} (hol : olds.length = sLen * es) (hold : (Builtin.firstCells es sLen (.slice base sLen sCap)).run P w.drew = .ok olds.toArray w.drew)
    (hs : Go.Src P es tx (.slice ao m c') m news w) (hg : sCap < sLen + m) (hb1 : (sLen + m) * bytes ≤ most) (hb2 : sLen + m ≤ most) :
    ∃ cap' zz, (Builtin.append_ #[t, tx] ty #[.slice base sLen sCap, .slice ao m c']).run P w = .ok (.slice (some ⟨w.heap.size, 0, none⟩) (sLen + m) cap') (w.drew.alloc (.cells ((olds ++ news).toArray ++ zz) e)) ∧ sLen + m ≤ cap' ∧ ((olds ++ news).toArray ++ zz).size = cap' * es := by
  subst hes hby
  simp only [most] at hb1 hb2
  have hrun := run_append_grow_src (P := P) w t tx ty e i z ht hi hz base sLen sCap olds hold _ m news hs hg (by omega) (growslice_fits hg (by omega))
  have hge := grownCap_ge w (sLen + m) sCap e
  refine ⟨_, _, hrun, hge, ?_⟩
  have hnl := hs.newsLen
  simp only [Array.size_append, List.size_toArray, List.length_append, size_zeroCells, hol, hnl, hzs]
  rw [← Nat.add_mul, ← Nat.add_mul]
  congr 1
  omega

theorem app_new (s : Sim top φ K h nx w) (htop : nx < top) {es len : Nat} {cs xs : List AV} {olds news : List Value} {e : TypeId} {cap' : Nat} {zz : Array Value} (h1 : cs.length = olds.length) (h2 : xs.length = news.length)
    (hr1 : ∀ (j : Nat) (y : AV), cs[j]? = some y → y.one = true ∧ ∃ u, olds[j]? = some u ∧ RelV φ K w y u) (hr2 : ∀ (j : Nat) (y : AV), xs[j]? = some y → y.one = true ∧ ∃ u, news[j]? = some u ∧ RelV φ K w y u)
    (hrun : (execOp ρc o).run P w = .ok (.value (.slice (some ⟨w.heap.size, 0, none⟩) len cap')) (w.drew.alloc (.cells ((olds ++ news).toArray ++ zz) e))) (hle : len ≤ cap') (hsz : ((olds ++ news).toArray ++ zz).size = cap' * es) :
    ∃ V w' φ' K', ((execOp ρc o).run P w = .ok (.value V) w' ∨ ((execOp ρc o).run P w = .ok .skip w' ∧ V = undef)) ∧ Goes top φ K h nx w φ' K' (upd h nx (some (.row 0 (cs ++ xs)))) (nx + 1) w' ∧ RelV φ' K' w' (.ref nx 0 0 es len len false) V := by
  have gd := goes_drew s
  have hcell := grown_cells h1 h2 zz w.drew (fun j y hy => let ⟨a1, u, a2, a3⟩ := hr1 j y hy; ⟨a1, u, a2, gd.val s a3⟩) (fun j y hy => let ⟨a1, u, a2, a3⟩ := hr2 j y hy; ⟨a1, u, a2, gd.val s a3⟩)
  have g := goes_new s.drew htop (cs ++ xs) ((olds ++ news).toArray ++ zz) e (by simp; omega) (fun j a ha => (hcell j a ha).1) (fun j a ha => (hcell j a ha).2)
  refine ⟨_, _, _, _, .inl hrun, gd.trans g, ?_⟩
  exact .ref nx 0 0 es len len false w.heap.size 0 ⟨w.heap.size, 0, none⟩ cap' (by simp) (Nat.le_refl _) hle (fun h => by cases h) (fun _ => ⟨rfl, _, e, (0, 0), alloc_at w.drew _, by omega⟩)

/-- a row that is grown: in its place (behind the part that is looked at), or elsewhere -/
theorem app_there (s : Sim top φ K h nx w) {id g off b base : Nat} {cells xs : List AV} {news : List Value} {c : Array Value} {e : TypeId} (hh : h id = some (.row g cells)) (hb : φ id g = some (b, base)) (hc : w.heap[b]? = some (.cells c e (0, 0)))
    (hcells : ∀ (j : Nat) (a : AV), cells[j]? = some a → a.one = true ∧ ∃ v, c[base + j]? = some v ∧ RelV φ K w a v) (hoff : off ≤ cells.length) (h2 : xs.length = news.length) (hfit : base + cells.length + news.length ≤ c.size)
    (hr2 : ∀ (j : Nat) (y : AV), xs[j]? = some y → y.one = true ∧ ∃ u, news[j]? = some u ∧ RelV φ K w y u) :
    Goes top φ K h nx w (fun i gg => if i = id ∧ gg = g + 1 then some (b, base + off) else φ i gg) K (upd h id (some (.row (g + 1) (cells.drop off ++ xs)))) nx (w.setRow b (c.toList.take (base + cells.length) ++ news ++ c.toList.drop (base + cells.length + news.length)).toArray) := by
  have hsize : (c.toList.take (base + cells.length) ++ news ++ c.toList.drop (base + cells.length + news.length)).toArray.size = c.size := by
    simp
    omega
  refine goes_obj s hh hb (g + 1) (cells.drop off ++ xs) b (base + off) _ e (fun i gg => rfl) (.inr (Nat.lt_succ_self g)) (.inl rfl) (setRow_heap w b c _ e (0, 0) hc) (fun i hi hne => setRow_other w b i _ hne) (by simp [World.setRow]) ?_ (fun a => frozen_setRow w hc _ a) rfl rfl rfl (by rw [hsize]; simp; omega) ?_
  · intro c1 e1 fr1 h1
    rw [hc] at h1
    cases h1
    exact ⟨rfl, rfl, hsize⟩
  · intro j a ha
    simp only [List.getElem?_toArray]
    by_cases hlo : j < cells.length - off
    · rw [List.getElem?_append_left (by simpa using hlo), List.getElem?_drop] at ha
      obtain ⟨h1, v, h3, h4⟩ := hcells _ a ha
      refine ⟨h1, v, ?_, h4⟩
      rw [List.getElem?_append_left (by simp; omega), List.getElem?_append_left (by simp; omega), List.getElem?_take_of_lt (by omega), Array.getElem?_toList, ← h3]
      congr 1
      omega
    · rw [List.getElem?_append_right (by simp; omega), List.length_drop] at ha
      obtain ⟨h1, u, h3, h4⟩ := hr2 _ a ha
      refine ⟨h1, u, ?_, h4⟩
      have hj : j - (cells.length - off) < news.length := (List.getElem?_eq_some_iff.1 h3).1
      rw [List.getElem?_append_left (by simp; omega), List.getElem?_append_right (by simp; omega), ← h3]
      congr 1
      simp only [List.length_take, Array.length_toList]
      omega

theorem app_else (s : Sim top φ K h nx w) {id g b base : Nat} {cells cs : List AV} {cn : Array Value} {c : Array Value} {e e' : TypeId} (hh : h id = some (.row g cells)) (hb : φ id g = some (b, base)) (hc : w.heap[b]? = some (.cells c e (0, 0)))
    (hsz : cs.length ≤ cn.size) (hr : ∀ (j : Nat) (y : AV), cs[j]? = some y → y.one = true ∧ ∃ u, cn[j]? = some u ∧ RelV φ K w y u) :
    Goes top φ K h nx w (fun i gg => if i = id ∧ gg = g + 1 then some (w.heap.size, 0) else φ i gg) K (upd h id (some (.row (g + 1) cs))) nx (w.drew.alloc (.cells cn e')) := by
  refine goes_obj s hh hb (g + 1) cs w.heap.size 0 cn e' (fun i gg => rfl) (.inr (Nat.lt_succ_self g)) (.inr rfl) (alloc_at w.drew _) (fun i hi hne => alloc_old w.drew _ hi) (by simp) ?_ (fun a => RowKit.frozen?_alloc_cells w.drew cn e' a) rfl rfl rfl (by omega) ?_
  · intro c1 e1 fr1 h1
    rw [Array.getElem?_eq_none (Nat.le_refl _)] at h1
    cases h1
  · intro j a ha
    rw [Nat.zero_add]
    exact hr j a ha
end
end Go.Ax
