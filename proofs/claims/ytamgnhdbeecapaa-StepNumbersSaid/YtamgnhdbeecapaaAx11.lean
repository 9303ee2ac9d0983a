/- Each operation of the interpreter is what the machine does: copy, clear, make, parts of arrays, min and max. -/
import Derived.Test.YtamgnhdbeecapaaAx10
set_option linter.unusedSimpArgs false
set_option linter.unusedVariables false
namespace Go.Ax

section
variable {top : Nat} {P : Program} {φ : Phi} {K : Nat → Prop} {h : HeapF} {nx : Nat} {w : World} {ρ : Opd → AV} {ρc : Operand → Value} {o : Oper}

theorem undef_rel : RelV φ K w undefA undef := .pure (.tup [] #[] rfl (fun j a v ha => by simp at ha))

theorem copy_run {dT sT ty e : TypeId} {i : TypeInfo} {es : Nat} (hu : P.underlying dT = some (.slice e)) (hi : P.info? e = some i) (hes : i.size = es) (dn : Option Addr) (dLen dCap : Nat) (ao : Option Addr) (m c' : Nat) (news : List Value)
    (hn : news.length = Nat.min m dLen * es) (h0 : ao = none → m = 0) (hcells : ∀ ad, ao = some ad → ∀ j u, news[j]? = some u → w.cell? (ad.add j) = some u) (w' : World)
    (hst : ∀ ad, dn = some ad → (storeCells ad news).run P w = .ok () w') (hnone : dn = none → w' = w) :
    (Builtin.copy_ #[dT, sT] ty #[.slice dn dLen dCap, .slice ao m c']).run P w = .ok (goInt (Nat.min m dLen)) w' := by
  subst hes
  have hfc : (Builtin.firstCells i.size (Nat.min m dLen) (.slice ao m c')).run P w = .ok news.toArray w := by
    cases ao with
    | none =>
      have := h0 rfl
      subst this
      obtain rfl : news = [] := List.eq_nil_of_length_eq_zero (by rw [hn]; simp)
      exact run_firstCells_none w _ _ _ _
    | some ad => exact run_firstCells_some w _ _ ad _ _ news hn (hcells ad rfl)
  have hsz : (sizeOf e).run P w = .ok i.size w := by simp [sizeOf, typeInfo, hi]
  cases dn with
  | none =>
    have := hnone rfl
    subst this
    simp only [Builtin.copy_, Builtin.lenOf, Sem.run_bind, Result.andThen_ok, run_underlying hu, Sem.run_pure, hsz, hfc]
    simp [run_underlying hu, hsz, hfc]
  | some ad =>
    have := hst ad rfl
    simp [Builtin.copy_, Builtin.lenOf, run_underlying hu, hsz, hfc, this]

def mCpy (P : Program) (o : Oper) (es : Nat) (x y : Opd) : Bool := match o.op with
  | .call { callee := .builtin .copy, args := ⟨[x', y']⟩, argTypes := ⟨[t, _]⟩ } => mOpd x' x && mOpd y' y && (tElem P t es)
  | _ => false
theorem s_cpy (s : Sim top φ K h nx w) (hρ : ∀ x y, mOpd x y = true → RelV φ K w (ρ y) (ρc x)) {es : Nat} {x y : Opd} (hm : mCpy P o es x y = true) {p : Plan} (hp : cpyA es (ρ x) (ρ y) = some p) : Sound top P φ K h nx w ρc o p := by
  unfold mCpy at hm
  split at hm
  · rename_i x' y' t tx ho
    simp only [Bool.and_eq_true] at hm
    obtain ⟨⟨hmx, hmy⟩, ht⟩ := hm
    have hrx := hρ _ _ hmx
    have hry := hρ _ _ hmy
    obtain ⟨e, hu, hse⟩ := tElem_some ht
    obtain ⟨i, hi, hes⟩ := tInfo_some hse
    rw [Nat.beq_eq] at hes
    have hexec : ∀ {V : Value} {w' : World}, (Builtin.copy_ #[t, tx] o.type #[ρc x', ρc y']).run P w = .ok V w' → (execOp ρc o).run P w = .ok (.value V) w' := fun hr =>
      run_builtin (x := Builtin.copy_ #[t, tx] o.type #[ρc x', ρc y']) ho (fun _ => by simp [builtin]) hr
    unfold cpyA at hp
    split at hp
    · cases hp
    · rename_i m src hsrc
      split at hp
      · rename_i hx
        cases hp
        rw [hx] at hrx
        have hX := rel_nils hrx
        have hY : ∃ ao c', ρc y' = .slice ao m c' ∧ (ao = none → m = 0) := by
          unfold srcOf at hsrc
          split at hsrc
          · rename_i hy
            cases hsrc
            rw [hy] at hry
            exact ⟨none, 0, rel_nils hry, fun _ => rfl⟩
          · rename_i hy
            simp only [cond_eq_ite, Nat.beq_eq] at hsrc
            split at hsrc
            · cases hsrc
              rw [hy] at hry
              obtain ⟨ad, c', hY, _⟩ := rel_imm hry
              exact ⟨_, _, hY, fun h => by cases h⟩
            · cases hsrc
          · rename_i hy
            simp only [cond_eq_ite, Nat.beq_eq] at hsrc
            split at hsrc
            · cases hsrc
              rw [hy] at hry
              obtain ⟨b, base, ad, c', hY, _⟩ := rel_ref hry
              exact ⟨_, _, hY, fun h => by cases h⟩
            · cases hsrc
          · cases hsrc
        obtain ⟨ao, c', hY, h0⟩ := hY
        refine sound_val s (V := goInt 0) (hexec ?_) (.pure (.int _ _))
        rw [hX, hY]
        have := copy_run (P := P) (w := w) (sT := tx) (ty := o.type) hu hi hes none 0 0 ao m c' [] (by simp) h0 (fun ad _ j u hj => by simp at hj) w (fun ad h => by cases h) (fun _ => rfl)
        simpa using this
      · rename_i id g off es' len cap ex hx
        simp only [cond_eq_ite, Nat.beq_eq] at hp
        split at hp
        · rename_i hese
          subst hese
          cases hp
          rw [hx] at hrx
          obtain ⟨b, base, ad, c1, hX, hp1, hlc, hcc, hexc, had⟩ := rel_ref hrx
          intro v h' nx' hrun htop
          obtain ⟨a, cells, out, hf, hh, hk, hend⟩ := runF_row hrun
          split at hk
          · rename_i cs hfst
            split at hk
            · rename_i cells' hov
              cases hk
              cases hend
              obtain ⟨news, ao, c', hY, hmc, hl1, hl2, hao, hn, hr2⟩ := src_run s hsrc hry hf
              rw [first_eq] at hfst
              split at hfst
              · rename_i hle
                cases hfst
                simp only [Nat.mul_eq] at hle hov ⊢
                have hr3 : ∀ (j : Nat) (y : AV), ((src.cs a).take (min m len * es'))[j]? = some y → y.one = true ∧ ∃ u, (news.take (min m len * es'))[j]? = some u ∧ RelV φ K w y u := by
                  intro j y hy
                  have hj : j < min m len * es' := by
                    rcases Nat.lt_or_ge j (min m len * es') with h' | h'
                    · exact h'
                    · rw [List.getElem?_eq_none (by simp; omega)] at hy; cases hy
                  rw [List.getElem?_take_of_lt hj] at hy ⊢
                  exact hr2 j y hy
                have hl3 : ((src.cs a).take (min m len * es')).length = (news.take (min m len * es')).length := by simp only [List.length_take, hl2]
                have hl4 : (news.take (min m len * es')).length = min m len * es' := by rw [List.length_take]; omega
                have h1 := one_list hl3 hr3
                obtain ⟨b1, base1, c, e1, h5, h6, h7, h8⟩ := s.row id g cells hh
                rw [hp1] at h5
                cases h5
                have hof := (over_some hov).1
                have hst := run_storeCells_at P b (base + off) e1 (news.take (min m len * es')) 0 c w h6 (by omega) h1
                simp only [Nat.add_zero] at hst
                have hstep : (Builtin.copy_ #[t, tx] o.type #[ρc x', ρc y']).run P w = .ok (goInt (Nat.min m len)) (w.setRow b (c.toList.take (base + off) ++ news.take (min m len * es') ++ c.toList.drop (base + off + (news.take (min m len * es')).length)).toArray) := by
                  rw [hX, hY]
                  refine copy_run hu hi hes (some ad) len c1 ao m c' (news.take (min m len * es')) hl4 hao (fun ad' h j u hj => ?_) _ (fun ad' h => ?_) (fun h => by cases h)
                  · have hj2 : j < min m len * es' := by
                      rcases Nat.lt_or_ge j (min m len * es') with h' | h'
                      · exact h'
                      · rw [List.getElem?_eq_none (by omega)] at hj; cases hj
                    rw [List.getElem?_take_of_lt hj2] at hj
                    exact hn ad' h j u hj
                  · cases h
                    by_cases hc0 : c1 = 0
                    · have hl0 : len = 0 := by omega
                      have hnil : news.take (min m len * es') = [] := List.eq_nil_of_length_eq_zero (by rw [hl4, hl0]; simp)
                      rw [hnil]
                      simp only [List.append_nil, List.length_nil, Nat.add_zero, List.take_append_drop, Array.toArray_toList]
                      rw [setRow_self w b c e1 (0, 0) h6]
                      rfl
                    · obtain ⟨rfl, _⟩ := had hc0
                      exact hst
                refine ⟨_, _, φ, K, .inl (hexec hstep), goes_over s hh hp1 h6 h7 h8 hov (news.take (min m len * es')) hl3.symm (fun j a v ha hv => by
                  obtain ⟨_, u, q1, q2⟩ := hr3 j a ha
                  rw [q1] at hv
                  cases hv
                  exact q2) (fun j a ha => (hr3 j a ha).1), .pure ?_⟩
                have : goInt (Nat.min m len) = .int .i64 ((min m len : Nat) : Int) := rfl
                rw [this, show (min (m : Int) (len : Int)) = ((min m len : Nat) : Int) by omega]
                exact .int _ _
              · cases hfst
            · cases hk
          · cases hk
        · cases hp
      · cases hp
  · cases hm

def mClr (P : Program) (o : Oper) (es : Nat) (zero : List AV) (x : Opd) : Bool := match o.op with
  | .call { callee := .builtin .clear, args := ⟨[x']⟩, argTypes := ⟨[t]⟩ } => mOpd x' x && (tDesc P t fun d => match d with | .slice e => tSize P e es && Nat.blt 0 es && Nat.beq zero.length es && mZero P e zero | _ => false)
  | _ => false
theorem s_clr (s : Sim top φ K h nx w) (hρ : ∀ x y, mOpd x y = true → RelV φ K w (ρ y) (ρc x)) {es : Nat} {zero : List AV} {x : Opd} (hm : mClr P o es zero x = true) {p : Plan} (hp : pClr ρ es zero x = some p) : Sound top P φ K h nx w ρc o p := by
  unfold mClr at hm
  split at hm
  · rename_i x' t ho
    simp only [Bool.and_eq_true] at hm
    obtain ⟨hmx, ht⟩ := hm
    have hrx := hρ _ _ hmx
    obtain ⟨d, hd, hd2⟩ := tDesc_some ht
    have hk : ∃ e, P.underlying t = some (.slice e) ∧ (tSize P e es && Nat.blt 0 es && Nat.beq zero.length es && mZero P e zero) = true := by
      cases d <;> first | exact ⟨_, hd, hd2⟩ | cases hd2
    obtain ⟨e, hu, hk⟩ := hk
    simp only [Bool.and_eq_true, Nat.blt_eq, Nat.beq_eq] at hk
    obtain ⟨⟨⟨_, hpos⟩, hzl⟩, hz⟩ := hk
    obtain ⟨z, z1, z2, z3, z4⟩ := mZero_run hz K w
    have hexec : ∀ {V : Value} {w' : World}, (Builtin.clear_ #[t] o.type #[ρc x']).run P w = .ok V w' → (execOp ρc o).run P w = .ok (.value V) w' := fun hr =>
      run_builtin (x := Builtin.clear_ #[t] o.type #[ρc x']) ho (fun _ => by simp [builtin]) hr
    have hV : ∀ {φ' : Phi} {K' : Nat → Prop} {w' : World}, RelV φ' K' w' undefA (.tuple #[]) := .pure (.tup [] #[] rfl (fun j a v ha => by simp at ha))
    unfold pClr at hp
    split at hp
    · rename_i hx
      cases hp
      rw [hx] at hrx
      refine sound_val s (V := .tuple #[]) (hexec ?_) hV
      rw [rel_nils hrx]
      simp [Builtin.clear_, run_underlying hu]
    · rename_i id g off es' len cap ex hx
      simp only [cond_eq_ite, Nat.beq_eq] at hp
      split at hp
      · rename_i hese
        subst hese
        cases hp
        rw [hx] at hrx
        obtain ⟨b, base, ad, c1, hX, hp1, hlc, hcc, hexc, had⟩ := rel_ref hrx
        intro v h' nx' hrun htop
        obtain ⟨_, cells, out, _, hh, hk, hend⟩ := runF_row (q := none) (k := fun _ cells => match over cells off (rows len zero) with | some cells' => some ⟨fun _ => undefA, some (.row g cells'), none⟩ | none => none) hrun
        split at hk
        · rename_i cells' hov
          cases hk
          cases hend
          obtain ⟨b1, base1, c, e1, h5, h6, h7, h8⟩ := s.row id g cells hh
          rw [hp1] at h5
          cases h5
          have hrl : (rows len zero).length = len * es' := by simp [rows, hzl]
          have hzs : z.cells.size = es' := by omega
          have hnl : (Builtin.zeroCells z.cells len).toList.length = len * es' := by rw [Array.length_toList, size_zeroCells, hzs]
          have hr3 : ∀ (j : Nat) (y : AV), (rows len zero)[j]? = some y → y.one = true ∧ ∃ u, (Builtin.zeroCells z.cells len).toList[j]? = some u ∧ RelV φ K w y u := by
            intro j y hy
            have hj : j < len * es' := by
              rcases Nat.lt_or_ge j (len * es') with h' | h'
              · exact h'
              · rw [List.getElem?_eq_none (by omega)] at hy; cases hy
            rw [rows, rep_get zero len j (by rw [hzl]; exact hj), hzl] at hy
            obtain ⟨r1, u, r2, r3⟩ := z4 _ y hy
            refine ⟨r1, u, ?_, .pure r3⟩
            rw [Array.getElem?_toList, Builtin.zeroCells, made_get z.cells _ j (by omega) (by rw [hzs]; exact hj), hzs]
            exact r2
          have hl3 : (rows len zero).length = (Builtin.zeroCells z.cells len).toList.length := by omega
          have h1 := one_list hl3 hr3
          have hof := (over_some hov).1
          have hst := run_storeCells_at P b (base + off) e1 (Builtin.zeroCells z.cells len).toList 0 c w h6 (by omega) h1
          simp only [Nat.add_zero] at hst
          have hgo := goes_over s hh hp1 h6 h7 h8 hov (Builtin.zeroCells z.cells len).toList hl3.symm (fun j a v ha hv => by
            obtain ⟨_, u, q1, q2⟩ := hr3 j a ha
            rw [q1] at hv
            cases hv
            exact q2) (fun j a ha => (hr3 j a ha).1)
          refine ⟨.tuple #[], _, φ, K, .inl (hexec ?_), hgo, hV⟩
          rw [hX]
          by_cases hl0 : len = 0
          · subst hl0
            have hnil : (Builtin.zeroCells z.cells 0).toList = [] := List.eq_nil_of_length_eq_zero (by omega)
            rw [hnil]
            simp only [List.append_nil, List.length_nil, Nat.add_zero, List.take_append_drop, Array.toArray_toList]
            rw [setRow_self w b c e1 (0, 0) h6]
            simp [Builtin.clear_, run_underlying hu]
          · obtain ⟨rfl, _⟩ := had (by omega)
            obtain ⟨k, rfl⟩ := Nat.exists_eq_succ_of_ne_zero hl0
            simp only [Nat.succ_eq_add_one] at hst ⊢
            simp [Builtin.clear_, run_underlying hu, z1, hst]
        · cases hk
      · cases hp
    · cases hp
  · cases hm

def mSlarr (P : Program) (o : Oper) (n es : Nat) (x : Opd) (lo hi mx : Option Opd) : Bool := match o.op with
  | .slice t x' lo' hi' mx' => mOpd x' x && mOpt lo' lo && mOpt hi' hi && mOpt mx' mx && tArr P t n es && (match mx with | none => true | some _ => hi.isSome)
  | _ => false
theorem s_slarr (s : Sim top φ K h nx w) (hρ : ∀ x y, mOpd x y = true → RelV φ K w (ρ y) (ρc x)) {n es : Nat} {x : Opd} {lo hi mx : Option Opd} (hm : mSlarr P o n es x lo hi mx = true) {p : Plan} (hp : pSlarr ρ n es x lo hi mx = some p) : Sound top P φ K h nx w ρc o p := by
  unfold mSlarr at hm
  split at hm
  · rename_i t x' lo' hi' mx' ho
    simp only [Bool.and_eq_true] at hm
    obtain ⟨⟨⟨⟨⟨h1, h2⟩, h3⟩, h4⟩, h5⟩, h6⟩ := hm
    obtain ⟨e, hu, hs⟩ := tArr_some h5
    have hr := hρ _ _ h1
    have hhi : mx.isSome = true → hi.isSome = true := by
      intro hmx
      obtain ⟨q, rfl⟩ := Option.isSome_iff_exists.1 hmx
      exact h6
    unfold pSlarr at hp
    split at hp
    · rename_i id g off hx
      rw [hx] at hr
      obtain ⟨b, base, hb, hV⟩ := rel_ptr hr
      split at hp
      · cases hp
      · rename_i l hh m hbn
        cases hp
        obtain ⟨hrun, hl1, hl2, hl3⟩ := bnds_run (P := P) (w := w) hρ h2 h3 h4 hbn (Nat.le_refl n) (Nat.le_refl n) hhi false
        have hcap : capOf mx n m = m := by
          cases mx with
          | none => exact (bnds_none hbn).symm
          | some q => rfl
        rw [hcap] at hrun
        intro v h' nx' hrr htop
        obtain ⟨a, out, hf, hk, hend⟩ := runF_none hrr
        cases hk
        cases hend
        obtain ⟨b1, base1, c, e1, q1, q2, q3, q4, q5⟩ := fetch_cells s hf
        rw [hb] at q1
        cases q1
        simp only [Nat.mul_eq] at q3
        refine ⟨.slice (some (if m = l then ⟨b, base + off, none⟩ else (⟨b, base + off, none⟩ : Addr).add (l * es))) (hh - l) (m - l), w, φ, K, .inl ?_, Goes.refl s, ?_⟩
        · simp only [execOp, ho]
          refine run_v ?_
          simp [Instr.sliceAt, run_underlying hu, hV, Instr.sureAddr, hrun, tSize_run hs]
        · refine .ref id g _ es _ _ _ b base _ _ hb (by simp only [Nat.sub_eq]; omega) (Nat.le_refl _) (fun _ => rfl) (fun h0 => ?_)
          rw [if_neg (by omega), Addr.add_lit]
          refine ⟨by simp only [Nat.mul_eq, Nat.add_eq, Nat.add_assoc], c, e1, (0, 0), q2, ?_⟩
          have h8 : (m - l) * es + l * es ≤ n * es := by
            rw [← Nat.add_mul]
            exact Nat.mul_le_mul_right _ (by omega)
          simp only [Nat.mul_eq, Nat.add_eq]
          omega
    · cases hp
  · cases hm

def mMksl (P : Program) (o : Oper) (es bytes : Nat) (zero : List AV) (n : Opd) : Bool := match o.op with
  | .makeSlice t l c => mOpd l n && mOpd c n && (tDesc P t fun d => match d with | .slice e => (tInfo P e fun i => Nat.beq i.size es && Nat.beq i.bytes bytes) && Nat.blt 0 es && Nat.beq zero.length es && mZero P e zero | _ => false)
  | _ => false
theorem s_mksl (s : Sim top φ K h nx w) (hρ : ∀ x y, mOpd x y = true → RelV φ K w (ρ y) (ρc x)) {es bytes : Nat} {zero : List AV} {n : Opd} (hm : mMksl P o es bytes zero n = true) {p : Plan} (hp : pMksl ρ es bytes zero n = some p) : Sound top P φ K h nx w ρc o p := by
  unfold mMksl at hm
  split at hm
  · rename_i t l c ho
    simp only [Bool.and_eq_true] at hm
    obtain ⟨⟨hml, hmc⟩, ht⟩ := hm
    have hrl := hρ _ _ hml
    have hrc := hρ _ _ hmc
    obtain ⟨d, hd, hd2⟩ := tDesc_some ht
    have hk : ∃ e, P.underlying t = some (.slice e) ∧ ((tInfo P e fun i => Nat.beq i.size es && Nat.beq i.bytes bytes) && Nat.blt 0 es && Nat.beq zero.length es && mZero P e zero) = true := by
      cases d <;> first | exact ⟨_, hd, hd2⟩ | cases hd2
    obtain ⟨e, hu, hk⟩ := hk
    simp only [Bool.and_eq_true, Nat.blt_eq, Nat.beq_eq] at hk
    obtain ⟨⟨⟨hti, hpos⟩, hzl⟩, hz⟩ := hk
    obtain ⟨i, hi, hi2⟩ := tInfo_some hti
    simp only [Bool.and_eq_true, Nat.beq_eq] at hi2
    obtain ⟨hes, hby⟩ := hi2
    obtain ⟨z, z1, z2, z3, z4⟩ := mZero_run hz K w
    unfold pMksl at hp
    split at hp
    · rename_i k mi hn
      split at hp
      · rename_i m hbd
        simp only [cond_eq_ite, Bool.and_eq_true, Nat.ble_eq] at hp
        split at hp
        · rename_i hc
          cases hp
          obtain ⟨hk1, hb1⟩ := hc
          obtain rfl := eqK_eq hk1
          obtain ⟨rfl, hmost⟩ := bdA_some hbd
          rw [hn] at hrl hrc
          have hL := rel_int hrl
          have hC := rel_int hrc
          simp only [Nat.mul_eq, most] at hb1 hmost
          have hzs : z.cells.size = es := by omega
          refine sound_new s _ (rows m zero) ((Array.range (m * es)).map (z.cells[· % z.cells.size]!)) e (.slice (some ⟨w.heap.size, 0, none⟩) m m) ?_ ?_ ?_ ?_
          · simp only [execOp, ho]
            refine run_v ?_
            have hw : IntKind.i64.wrap (m : Int) = (m : Int) := by
              rw [← wrapA_eq]
              unfold wrapA
              rw [cond_eq_ite, if_pos]
              simp only [inR, Nat.blt_eq]
              show m < 9223372036854775808
              omega
            have e0 : Array.range 0 = #[] := rfl
            have hb2 : ¬ ((281474976710656 : Int) < (bytes : Int) * (m : Int)) := by
              rw [Int.mul_comm, ← Int.natCast_mul]
              omega
            have hb3 : ¬ ((m : Int) < 0) := by omega
            by_cases hm0 : m * es = 0
            · rw [hm0]
              simp [Instr.makeSlice, run_underlying hu, hL, hC, asInt, asIntOf, typeInfo, hi, hby, hes, hw, hb2, hb3, sizeOf, hm0, newRow, e0]
            · simp [Instr.makeSlice, run_underlying hu, hL, hC, asInt, asIntOf, typeInfo, hi, hby, hes, hw, hb2, hb3, sizeOf, hm0, newRow, z1]
          · simp [rows, hzl]
          · intro j y hy
            have hj : j < m * es := by
              rcases Nat.lt_or_ge j (m * es) with h' | h'
              · exact h'
              · rw [List.getElem?_eq_none (by simp [rows, hzl]; omega)] at hy; cases hy
            rw [rows, rep_get zero m j (by rw [hzl]; exact hj), hzl] at hy
            obtain ⟨r1, u, r2, r3⟩ := z4 _ y hy
            refine ⟨r1, u, ?_, .pure r3⟩
            rw [made_get z.cells _ j (by omega) hj, hzs]
            exact r2
          · exact .ref nx 0 0 es m m false w.heap.size 0 ⟨w.heap.size, 0, none⟩ m (by simp) (Nat.le_refl _) (Nat.le_refl _) (fun h => by cases h) (fun _ => ⟨rfl, _, e, (0, 0), alloc_at w _, by simp⟩)
        · cases hp
      · cases hp
    · cases hp
  · cases hm

def mMnx (o : Oper) (mx : Bool) (xs : List Opd) : Bool := match o.op with
  | .call { callee := .builtin .min, args := as, argTypes := _ } => !mx && mOpds as.toList xs
  | .call { callee := .builtin .max, args := as, argTypes := _ } => mx && mOpds as.toList xs
  | _ => false
theorem mn2 (b : Bool) (x y : Int) : (match b with | true => (bif ltA x y then y else x) | false => (bif ltA y x then y else x)) = (bif b then (if y > x then y else x) else (if y < x then y else x)) := by
  cases b <;> simp [ltA_eq, cond_eq_ite]
theorem mnA_run (b : Bool) {f : Value → Value → Sem Value} (hf : ∀ k x k' y, f (.int k x) (.int k' y) = pure (.int k (bif b then (if y > x then y else x) else (if y < x then y else x)))) :
    ∀ (xs : List AV) (Xs : List Value) (v : AV) (V : Value) (r : AV), RelV φ K w v V → xs.length = Xs.length → (∀ (j : Nat) (a : AV) (A : Value), xs[j]? = some a → Xs[j]? = some A → RelV φ K w a A) → mnA b v xs = some r →
      ∃ R, (Xs.foldlM f V).run P w = .ok R w ∧ RelV φ K w r R := by
  intro xs
  induction xs with
  | nil =>
    intro Xs v V r hv hl _ hr
    cases Xs with
    | nil => cases hr; exact ⟨V, rfl, hv⟩
    | cons _ _ => simp at hl
  | cons a xs ih =>
    intro Xs v V r hv hl hrel hr
    cases Xs with
    | nil => simp at hl
    | cons A Xs =>
      have hA := hrel 0 a A rfl rfl
      unfold mnA at hr
      split at hr
      · rename_i heq; cases heq
      · rename_i k x k' y rest heq
        cases heq
        rw [rel_int hv, rel_int hA]
        replace hr : mnA b (.int k (bif b then (if y > x then y else x) else (if y < x then y else x))) xs = some r := by rw [← mn2]; cases b <;> exact hr
        obtain ⟨R, h1, h2⟩ := ih Xs _ (.int k (bif b then (if y > x then y else x) else (if y < x then y else x))) r (.pure (.int _ _)) (by simpa using hl) (fun j a A ha hA' => hrel (j + 1) a A (by simpa using ha) (by simpa using hA')) hr
        exact ⟨R, by simp [List.foldlM_cons, hf, h1], h2⟩
      · cases hr

theorem mOpds_rel (hρ : ∀ x y, mOpd x y = true → RelV φ K w (ρ y) (ρc x)) : ∀ {as : List Operand} {xs : List Opd}, mOpds as xs = true → (xs.map ρ).length = (as.map ρc).length ∧ ∀ (j : Nat) (a : AV) (A : Value), (xs.map ρ)[j]? = some a → (as.map ρc)[j]? = some A → RelV φ K w a A := by
  intro as
  induction as with
  | nil => intro xs h; cases xs with
    | nil => exact ⟨rfl, fun j a A ha => by simp at ha⟩
    | cons _ _ => cases h
  | cons a as ih => intro xs h; cases xs with
    | nil => cases h
    | cons x xs =>
      simp only [mOpds, Bool.and_eq_true] at h
      obtain ⟨h1, h2⟩ := ih h.2
      refine ⟨by simpa using h1, fun j a' A' ha hA => ?_⟩
      cases j with
      | zero => simp at ha hA; subst ha; subst hA; exact hρ _ _ h.1
      | succ j => exact h2 j a' A' (by simpa using ha) (by simpa using hA)

theorem s_mnx (s : Sim top φ K h nx w) (hρ : ∀ x y, mOpd x y = true → RelV φ K w (ρ y) (ρc x)) {mx : Bool} {xs : List Opd} (hm : mMnx o mx xs = true) {p : Plan} (hp : pMnx ρ mx xs = some p) : Sound top P φ K h nx w ρc o p := by
  unfold pMnx at hp
  split at hp
  · rename_i v vs hvs
    obtain ⟨r, hr, rfl⟩ := sound_of_O hp
    unfold mMnx at hm
    split at hm
    · rename_i as tys ho
      simp only [Bool.and_eq_true, Bool.not_eq_true'] at hm
      obtain ⟨rfl, hm⟩ := hm
      obtain ⟨h1, h2⟩ := mOpds_rel hρ hm
      rw [hvs] at h1 h2
      cases hX : as.toList.map ρc with
      | nil => rw [hX] at h1; simp at h1
      | cons V Vs =>
        rw [hX] at h1 h2
        obtain ⟨R, r1, r2⟩ := mnA_run (P := P) (φ := φ) (K := K) (w := w) false (f := Builtin.min2) (fun k x k' y => rfl) vs Vs v V r (h2 0 v V rfl rfl) (by simpa using h1) (fun j a A ha hA => h2 (j + 1) a A (by simpa using ha) (by simpa using hA)) hr
        refine sound_val s (V := R) (run_builtin (x := Builtin.min_ tys o.type (as.map ρc)) ho (fun _ => by simp [builtin]) ?_) r2
        simp [Builtin.min_, hX, r1]
    · rename_i as tys ho
      simp only [Bool.and_eq_true] at hm
      obtain ⟨rfl, hm⟩ := hm
      obtain ⟨h1, h2⟩ := mOpds_rel hρ hm
      rw [hvs] at h1 h2
      cases hX : as.toList.map ρc with
      | nil => rw [hX] at h1; simp at h1
      | cons V Vs =>
        rw [hX] at h1 h2
        obtain ⟨R, r1, r2⟩ := mnA_run (P := P) (φ := φ) (K := K) (w := w) true (f := Builtin.max2) (fun k x k' y => rfl) vs Vs v V r (h2 0 v V rfl rfl) (by simpa using h1) (fun j a A ha hA => h2 (j + 1) a A (by simpa using ha) (by simpa using hA)) hr
        refine sound_val s (V := R) (run_builtin (x := Builtin.max_ tys o.type (as.map ρc)) ho (fun _ => by simp [builtin]) ?_) r2
        simp [Builtin.max_, hX, r1]
    · cases hm
  · cases hp
end
end Go.Ax
