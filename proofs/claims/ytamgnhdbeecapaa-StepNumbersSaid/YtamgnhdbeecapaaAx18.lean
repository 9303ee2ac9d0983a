/- One operation of a region of open order, at whatever place of the order. -/
import Derived.Test.YtamgnhdbeecapaaAx17
set_option linter.unusedSimpArgs false
set_option linter.unusedVariables false
namespace Go.Ax
open Classical

def TouchE (n0 : Nat) (tch : Tch) (nx nx' : Nat) (id : Nat) : Prop := (match tch with | .ids l => id ∈ l | .all => id < n0) ∨ (nx ≤ id ∧ id < nx')
def AgreeRd (n0 : Nat) (h h' : HeapF) : Rd → Prop
  | .rng r => fetchF h (some r) = fetchF h' (some r)
  | .obj id => h id = h' id
  | .all => ∀ id, id < n0 → h id = h' id

section
variable {P : Program} {H H' : Heap} {nx nx' n0 : Nat} {o : Oper} {nt : Nat} {cf : FnF} {v : AV} {rds : List Rd} {tch : Tch}

/-- what a plan does, does not lie at the rest of the heap -/
theorem runPlan_local {p : Plan} (hr : runPlan p H nx = some (v, H', nx')) :
    nx ≤ nx' ∧ (∀ id, ¬ TouchE n0 (.ids p.tch) nx nx' id → H'.get id = H.get id) ∧
    ∀ h : HeapF, (∀ rd, rd ∈ p.rds → AgreeRd n0 h H.get rd) → runF p h nx = some (v, (fun id => if TouchE n0 (.ids p.tch) nx nx' id then H'.get id else h id), nx') := by
  refine ⟨runPlan_up hr, ?_⟩
  have hF := runPlan_F hr
  cases p with
  | val x =>
    cases hr
    refine ⟨fun id _ => rfl, fun h _ => ?_⟩
    have : (fun id => if TouchE n0 (.ids (Plan.val v).tch) nx nx id then H.get id else h id) = h := by
      funext id
      rw [if_neg]
      rintro (h1 | h1)
      · cases h1
      · omega
    rw [this]
    rfl
  | new f ob =>
    cases hr
    refine ⟨fun id hn => ?_, fun h _ => ?_⟩
    · rw [Map.get_put, if_neg]
      rintro rfl
      exact hn (.inr ⟨Nat.le_refl _, Nat.lt_succ_self _⟩)
    · have : (fun id => if TouchE n0 (.ids (Plan.new f ob).tch) nx (Nat.succ nx) id then (H.put (some ob) nx).get id else h id) = upd h nx (some ob) := by
        funext id
        rw [Map.get_put]
        by_cases hid : id = nx
        · subst hid
          rw [if_pos (.inr ⟨Nat.le_refl _, Nat.lt_succ_self _⟩), if_pos rfl, upd_same]
        · rw [if_neg, upd_other _ _ hid]
          rintro (h1 | h1)
          · cases h1
          · omega
      rw [this]
      rfl
  | look q u k =>
    simp only [runF] at hF
    cases hq : fetchF H.get q with
    | none => rw [hq] at hF; cases hF
    | some a =>
      rw [hq] at hF
      simp only at hF
      cases hu : fetchOF H.get u with
      | none => rw [hu] at hF; cases hF
      | some ob =>
        rw [hu] at hF
        simp only at hF
        cases hk : k a ob with
        | none => rw [hk] at hF; cases hF
        | some out =>
          rw [hk] at hF
          simp only at hF
          have hset : ∀ id, id ∉ (Plan.look q u k).tch → setF H.get u out.obj id = H.get id := by
            intro id hn
            cases ho : out.obj with
            | none => rfl
            | some ob' =>
              cases u with
              | none => rfl
              | some i =>
                exact upd_other _ _ (by rintro rfl; exact hn (by simp [Plan.tch]))
          have agree_u : ∀ h : HeapF, (∀ rd, rd ∈ (Plan.look q u k).rds → AgreeRd n0 h H.get rd) → fetchF h q = some a ∧ fetchOF h u = some ob ∧ ∀ id, setF h u out.obj id = if id ∈ (Plan.look q u k).tch then setF H.get u out.obj id else h id := by
            intro h ha
            refine ⟨?_, ?_, ?_⟩
            · cases q with
              | none => exact hq
              | some r => rw [← hq]; exact ha (.rng r) (by simp [Plan.rds])
            · cases u with
              | none => exact hu
              | some i => rw [← hu]; have := ha (.obj i) (by simp [Plan.rds]); simp only [AgreeRd] at this; simp only [fetchOF, this]
            · intro id
              cases u with
              | none => cases out.obj <;> simp [Plan.tch, setF]
              | some i =>
                have hai := ha (.obj i) (by simp [Plan.rds])
                simp only [AgreeRd] at hai
                simp only [Plan.tch, List.mem_singleton]
                by_cases hid : id = i
                · subst hid
                  rw [if_pos rfl]
                  cases out.obj with
                  | none => exact hai
                  | some ob' => simp [setF, upd_same]
                · rw [if_neg hid]
                  cases out.obj with
                  | none => rfl
                  | some ob' => exact upd_other _ _ hid
          cases hnew : out.new with
          | none =>
            rw [hnew] at hF
            simp only [Option.some.injEq, Prod.mk.injEq] at hF
            obtain ⟨rfl, hH, rfl⟩ := hF
            refine ⟨fun id hn => ?_, fun h ha => ?_⟩
            · rw [← hH]
              exact hset id (fun h => hn (.inl h))
            · obtain ⟨a1, a2, a3⟩ := agree_u h ha
              simp only [runF, a1, a2, hk, hnew]
              congr 3
              funext id
              rw [a3 id, ← hH]
              by_cases ht : id ∈ (Plan.look q u k).tch
              · rw [if_pos ht, if_pos (.inl ht)]
              · rw [if_neg ht, if_neg]
                rintro (h1 | h1)
                · exact ht h1
                · omega
          | some nb =>
            rw [hnew] at hF
            simp only [Option.some.injEq, Prod.mk.injEq] at hF
            obtain ⟨rfl, hH, rfl⟩ := hF
            refine ⟨fun id hn => ?_, fun h ha => ?_⟩
            · rw [← hH, upd_other]
              · exact hset id (fun h => hn (.inl h))
              · rintro rfl; exact hn (.inr ⟨Nat.le_refl _, Nat.lt_succ_self _⟩)
            · obtain ⟨a1, a2, a3⟩ := agree_u h ha
              simp only [runF, a1, a2, hk, hnew]
              congr 3
              funext id
              rw [← hH]
              by_cases hid : id = nx
              · subst hid
                rw [upd_same, if_pos (.inr ⟨Nat.le_refl _, Nat.lt_succ_self _⟩), upd_same]
              · rw [upd_other _ _ hid, upd_other _ _ hid, a3 id]
                by_cases ht : id ∈ (Plan.look q u k).tch
                · rw [if_pos ht, if_pos (.inl ht)]
                · rw [if_neg ht, if_neg]
                  rintro (h1 | h1)
                  · exact ht h1
                  · omega

theorem upto_get (H : Heap) (p : Nat → Bool) (id : Nat) : (H.upto p).get id = if p id = true then H.get id else none := by
  rw [Map.get_upto]

theorem effCall_ok (hcf : FnOk P cf) (hup : FnUp cf) {f : Nat} {args : List AV} {m : Mode} (hn0 : n0 ≤ nx) (hd : effCall cf n0 f args m H nx = some (v, H', nx', rds, tch)) :
    nx ≤ nx' ∧ (∀ id, ¬ TouchE n0 tch nx nx' id → H'.get id = H.get id) ∧ (∀ args w, (callFunc f args).run P w = .ok (.enter f args) w) ∧
    ∀ φ K h w cargs, Sim nx' φ K h nx w → (∀ rd, rd ∈ rds → AgreeRd n0 h H.get rd) → ArgsR φ K w args cargs →
      Calls P f cargs w (Ret (Ends nx' φ K h nx w v (fun id => if TouchE n0 tch nx nx' id then H'.get id else h id) nx')) := by
  have none_touch : ∀ (h : HeapF), (fun id => if TouchE n0 (.ids []) nx nx id then H.get id else h id) = h := by
    intro h
    funext id
    rw [if_neg]
    rintro (h1 | h1)
    · cases h1
    · omega
  cases m with
  | share =>
    simp only [effCall] at hd
    split at hd
    · rename_i v1 Hc nx1 hc
      cases hd
      have hle := hup _ _ _ _ _ _ _ hc
      obtain ⟨h1, h2⟩ := hcf _ _ _ _ _ _ _ hc
      have hget : ∀ id, ((Hc.upto fun i => Nat.blt i n0 || (Nat.ble nx i && Nat.blt i nx')).union (H.upto fun i => !(Nat.blt i n0 || (Nat.ble nx i && Nat.blt i nx')))).get id = if TouchE n0 .all nx nx' id then Hc.get id else H.get id := by
        intro id
        rw [Map.get_union, upto_get, upto_get]
        have hb : (Nat.blt id n0 || (Nat.ble nx id && Nat.blt id nx')) = decide (TouchE n0 .all nx nx' id) := by
          rw [Bool.eq_iff_iff]
          rw [decide_eq_true_eq]
          simp only [Bool.or_eq_true, Bool.and_eq_true, Nat.blt_eq, Nat.ble_eq, TouchE]
        rw [hb]
        by_cases ht : TouchE n0 .all nx nx' id
        · simp only [ht, decide_true, if_true, Bool.not_true]
          cases Hc.get id <;> rfl
        · simp only [ht, decide_false, if_false, Bool.not_false, if_true]
          rfl
      refine ⟨hle, fun id hn => by rw [hget, if_neg hn], h1, fun φ K h w cargs s ha hargs => ?_⟩
      have hall := ha .all (List.mem_singleton.2 rfl)
      simp only [AgreeRd] at hall
      have hpart : ∀ id, ((H.upto fun i => Nat.blt i n0).get id) = if id < n0 then h id else none := by
        intro id
        rw [upto_get]
        by_cases hlt : id < n0
        · rw [if_pos (by rw [Nat.blt_eq]; exact hlt), if_pos hlt, hall id hlt]
        · rw [if_neg (by rw [Nat.blt_eq]; exact hlt), if_neg hlt]
      have sp := s.part (h' := (H.upto fun i => Nat.blt i n0).get) (fun id ob hh => by
        rw [hpart] at hh
        split at hh
        · exact hh
        · cases hh)
      have hcl := h2 nx' φ K w cargs (Nat.le_refl _) sp hargs
      refine Calls.mono hcl (fun e w' he => ?_)
      cases e with
      | returned V =>
        obtain ⟨φ', K', g, hV⟩ := he
        refine ⟨φ', K', ?_, hV⟩
        have gf := goes_frame s (fun id => ¬ id < n0 ∧ ¬ (nx ≤ id ∧ id < nx')) (fun id hr => by rw [hpart, if_neg hr.1]) (fun id hr => by
          rw [hpart]
          by_cases hlt : id < n0
          · rw [if_pos hlt]
          · rw [if_neg hlt]
            cases hh : h id with
            | none => rfl
            | some ob => exact absurd ⟨hlt, (s.low id ob hh).1⟩ hr) g (Nat.le_refl _)
        have : (fun id => if TouchE n0 .all nx nx' id then ((Hc.upto fun i => Nat.blt i n0 || (Nat.ble nx i && Nat.blt i nx')).union (H.upto fun i => !(Nat.blt i n0 || (Nat.ble nx i && Nat.blt i nx')))).get id else h id) = fun id => if ¬ id < n0 ∧ ¬ (nx ≤ id ∧ id < nx') then h id else Hc.get id := by
          funext id
          rw [hget]
          by_cases hlt : id < n0
          · rw [if_pos (.inl hlt), if_pos (.inl hlt), if_neg (fun h => h.1 hlt)]
          · by_cases hnew : nx ≤ id ∧ id < nx'
            · rw [if_pos (.inr hnew), if_pos (.inr hnew), if_neg (fun h => h.2 hnew)]
            · rw [if_neg (fun h => h.elim hlt hnew), if_pos ⟨hlt, hnew⟩]
        rw [this]
        exact gf
      | panicked _ => exact he.elim
      | outgrown => exact he.elim
    · cases hd
  | borrow =>
    simp only [effCall, cond_eq_ite] at hd
    split at hd
    · rename_i hpl
      split at hd
      · rename_i v1 H1 nx1 hc
        cases hd
        obtain ⟨_, _, hb⟩ := doCall_borrow hc
        have hb' : allB AV.plain args = true ∧ endOwn (cf f args .leaf 0) false = some v := by
          rcases hb with hb | ⟨as, has, hb⟩
          · exact hb
          · simp only [doCall, hpl, cond_true] at hc
            split at hc
            · rename_i r hr; cases hc; exact ⟨hpl, hr⟩
            · cases hc
        refine ⟨Nat.le_refl _, fun id _ => rfl, ?_, fun φ K h w cargs s _ hargs => ?_⟩
        · obtain ⟨_, hr⟩ := hb'
          unfold endOwn at hr
          split at hr
          · cases hr
          · rename_i hcall; exact (hcf _ _ _ _ _ _ _ hcall).1
        · rw [none_touch]
          exact (borrow_ends hcf s (H := .leaf) (fun id o hh => by cases hh) hargs (.inl hb')).2
      · cases hd
    · rename_i hpl
      split at hd
      · rename_i v1 H1 nx1 hc
        cases hd
        obtain ⟨_, _, hb⟩ := doCall_borrow hc
        refine ⟨Nat.le_refl _, fun id _ => rfl, ?_, fun φ K h w cargs s ha hargs => ?_⟩
        · rcases hb with ⟨_, hr⟩ | ⟨as, _, hr⟩ <;>
          · unfold endOwn at hr
            split at hr
            · cases hr
            · rename_i hcall; exact (hcf _ _ _ _ _ _ _ hcall).1
        · rw [none_touch]
          have hall := ha .all (List.mem_singleton.2 rfl)
          simp only [AgreeRd] at hall
          refine (borrow_ends hcf s (H := H.upto fun i => Nat.blt i n0) (fun id ob hh => ?_) hargs hb).2
          rw [upto_get] at hh
          split at hh
          · rename_i hlt
            rw [Nat.blt_eq] at hlt
            rw [hall id hlt]
            exact hh
          · cases hh
      · cases hd
end
end Go.Ax
