/- Calls. -/
import Derived.Test.YtamgnhdbeecapaaAx13
set_option linter.unusedSimpArgs false
set_option linter.unusedVariables false
namespace Go.Ax

def ArgsR (φ : Phi) (K : Nat → Prop) (w : World) (args : List AV) (cargs : Array Value) : Prop := args.length = cargs.size ∧ ∀ (j : Nat) (a : AV) (V : Value), args[j]? = some a → cargs[j]? = some V → RelV φ K w a V
/-- it comes back, with a value -/
def Ret (R : Value → World → Prop) : Ending → World → Prop
  | .returned V, w => R V w
  | _, _ => False
/-- What calls are said to do, they do. -/
def FnOk (P : Program) (cf : FnF) : Prop := ∀ f args H nx v H' nx', cf f args H nx = some (v, H', nx') →
  (∀ args w, (callFunc f args).run P w = .ok (.enter f args) w) ∧
  ∀ top φ K w cargs, nx' ≤ top → Sim top φ K H.get nx w → ArgsR φ K w args cargs → Calls P f cargs w (Ret (Ends top φ K H.get nx w v H'.get nx'))

section
variable {top : Nat} {P : Program} {φ : Phi} {K : Nat → Prop} {h : HeapF} {nx : Nat} {w : World} {H : Heap} {ρ : Opd → AV} {ρc : Operand → Value} {o : Oper}

theorem plain1_rel {a : AV} {v : Value} (hf : a.plain1 = true) (r : RelV φ K w a v) : RelP K w a v := by
  cases a with
  | agg cs =>
    have hf' : allB AV.flat cs = true := hf
    rw [allB_true] at hf'
    obtain ⟨vs, rfl, hl, hc⟩ := rel_agg r
    refine .agg cs vs hl (fun j a ha => (hc j a ha).1) (fun j a v ha hv => ?_)
    obtain ⟨_, u, h1, h2⟩ := hc j a ha
    rw [hv] at h1
    cases h1
    exact flat_rel (hf' a (List.mem_of_getElem? ha)) h2
  | tup cs => cases hf
  | _ => exact flat_rel hf r
theorem plain_rel {a : AV} {v : Value} (hf : a.plain = true) (r : RelV φ K w a v) : RelP K w a v := by
  cases a with
  | tup cs =>
    have hf' : allB AV.plain1 cs = true := hf
    rw [allB_true] at hf'
    obtain ⟨vs, rfl, hl, hc⟩ := rel_tup r
    refine .tup cs vs hl (fun j a v ha hv => ?_)
    obtain ⟨u, h1, h2⟩ := hc j a ha
    rw [hv] at h1
    cases h1
    exact plain1_rel (hf' a (List.mem_of_getElem? ha)) h2
  | _ => exact plain1_rel hf r

def noPhi : Phi := fun _ _ => none
theorem leaf_get (id : Nat) : (Map.leaf : Heap).get id = none := rfl
theorem no_mut {φ : Phi} {b : Nat} : ¬ Mut φ (Map.leaf : Heap).get b := fun ⟨_, _, _, h, _⟩ => by cases h

theorem sim_none {t : Nat} (K0 : Nat → Prop) (hk : ∀ b, K0 b → b < w.heap.size) : Sim t noPhi K0 (Map.leaf : Heap).get 0 w :=
  ⟨fun b hb => ⟨hk b hb, no_mut⟩, fun id g cells hh => (by cases hh), fun id es hh => (by cases hh), fun id id' ob ob' b base base' h1 => (by cases h1), fun id ob hh => (by cases hh), fun _ _ _ _ => rfl⟩

/-- The world has gone on; of what stood nothing was changed. -/
theorem goes_away (s : Sim top φ K h nx w) {w' : World} (e : Ext (fun _ => False) w w') (K' : Nat → Prop) (h1 : ∀ b, K b → K' b) (h2 : ∀ b, K' b → b < w'.heap.size) (h3 : ∀ b, K' b → K b ∨ w.heap.size ≤ b) : Goes top φ K h nx w φ K' h nx w' := by
  have hsame : ∀ b, b < w.heap.size → w'.heap[b]? = w.heap[b]? := fun b hb => e.same b hb (fun h => h)
  have hval : ∀ {a : AV} {v : Value}, RelV φ K w a v → RelV φ K' w' a v := fun r => RelV.keep (fun _ _ _ h => h) h1 (fun b hb => hsame b (s.kin b hb).1) e.shape r
  have hmlt : ∀ b, Mut φ h b → b < w.heap.size := fun b ⟨id, ob', base, h1, h2⟩ => place_lt s h1 h2
  refine ⟨fun _ _ _ h => h, h1, ⟨fun b hb => ⟨h2 b hb, fun hm => ?_⟩, fun id g cells hh => ?_, fun id es hh => ?_, s.inj, s.low, s.new⟩, e.mono (fun _ h => h.elim), fun b hb => .inl hb, fun b hb => ?_, fun _ _ _ h => .inl h, fun _ h => .inl h, Nat.le_refl _⟩
  · rcases h3 b hb with h4 | h4
    · exact (s.kin b h4).2 hm
    · exact Nat.lt_irrefl _ (Nat.lt_of_lt_of_le (hmlt b hm) h4)
  · obtain ⟨b, base, c, e', q1, q2, q3, q4⟩ := s.row id g cells hh
    refine ⟨b, base, c, e', q1, by rw [hsame b (Array.getElem?_eq_some_iff.1 q2).1]; exact q2, q3, fun j a ha => ⟨(q4 j a ha).1, ?_⟩⟩
    obtain ⟨v, hv1, hv2⟩ := (q4 j a ha).2
    exact ⟨v, hv1, hval hv2⟩
  · obtain ⟨b, mes, clk, q1, q2, q3, q4⟩ := s.map id es hh
    refine ⟨b, mes, clk, q1, by rw [hsame b (Array.getElem?_eq_some_iff.1 q2).1]; exact q2, q3, fun j k v hj => ?_⟩
    obtain ⟨me, m1, m2, m3⟩ := q4 j k v hj
    exact ⟨me, m1, hval m2, hval m3⟩
  · rcases h3 b hb with h4 | h4
    · exact .inl h4
    · exact .inr (.inl h4)

/-- a call that gets trees, and a heap of its own; `H`: where the arguments lead to -/
theorem borrow_ends {cf : FnF} (hcf : FnOk P cf) (s : Sim top φ K h nx w) {H : Heap} (hH : ∀ id o, H.get id = some o → h id = some o) {f : Nat} {args : List AV} {v : AV} {cargs : Array Value} (ha : ArgsR φ K w args cargs)
    (hd : (allB AV.plain args = true ∧ endOwn (cf f args .leaf 0) false = some v) ∨ ∃ as, mapO (toImm deep H) args = some as ∧ endOwn (cf f as .leaf 0) true = some v) :
    (∀ args w, (callFunc f args).run P w = .ok (.enter f args) w) ∧ Calls P f cargs w (Ret (Ends top φ K h nx w v h nx)) := by
  rcases hd with ⟨hpl, hr⟩ | ⟨as, has, hr⟩
  · rw [allB_true] at hpl
    unfold endOwn at hr
    split at hr
    · cases hr
    · rename_i r0 Hc nxc hcall
      simp only [cond_false] at hr
      obtain ⟨h1, h2⟩ := hcf f args .leaf 0 r0 Hc nxc hcall
      refine ⟨h1, ?_⟩
      have hs := h2 nxc noPhi K w cargs (Nat.le_refl _) (sim_none K (fun b hb => (s.kin b hb).1)) ⟨ha.1, fun j a V hj hV => .pure (plain_rel (hpl a (List.mem_of_getElem? hj)) (ha.2 j a V hj hV))⟩
      refine Calls.mono hs (fun e w' he => ?_)
      cases e with
      | returned V =>
        obtain ⟨φc, Kc, g, hV⟩ := he
        have hmlt : ∀ b, Mut φc Hc.get b → b < w'.heap.size := fun b ⟨id, ob', base, h1, h2⟩ => place_lt g.sim h1 h2
        have hg := goes_away s (w' := w') (g.ext.mono (fun b hb => (no_mut hb).elim)) (fun b => Kc b ∨ Mut φc Hc.get b) (fun b hb => .inl (g.k b hb)) (fun b hb => hb.elim (fun h => (g.sim.kin b h).1) (hmlt b)) (fun b hb => by
          rcases hb with hb | hb
          · rcases g.newK b hb with h3 | h3 | h3
            · exact .inl h3
            · exact .inr h3
            · exact (no_mut h3).elim
          · rcases g.mu b hb with h3 | h3
            · exact (no_mut h3).elim
            · exact .inr h3)
        refine ⟨φ, _, hg, .pure ?_⟩
        rw [cond_eq_ite] at hr
        split at hr
        · rename_i hpr
          cases hr
          exact relP_mono (fun b hb => .inl hb) (plain_rel hpr hV)
        · exact toImm_rel g.sim Hc _ deep _ _ _ hr (fun id _ => ⟨rfl, fun ob b base h1 h2 => .inr ⟨id, ob, base, h1, h2⟩⟩) (.inl fun b hb => .inl hb) hV
      | panicked _ => exact he.elim
      | outgrown => exact he.elim
  · unfold endOwn at hr
    split at hr
    · cases hr
    · rename_i r0 Hc nxc hcall
      simp only [cond_true] at hr
      rw [cond_eq_ite] at hr
      split at hr
      · rename_i hown
        obtain ⟨h1, h2⟩ := hcf f as .leaf 0 r0 Hc nxc hcall
        refine ⟨h1, ?_⟩
        obtain ⟨hl, hat⟩ := mapO_some has
        have sH := s.part hH
        have hs := h2 nxc noPhi (fun b => b < w.heap.size) w cargs (Nat.le_refl _) (sim_none _ (fun b hb => hb)) ⟨by rw [← hl]; exact ha.1, fun j a' V hj hV => by
          have hj' : j < args.length := by have := (List.getElem?_eq_some_iff.1 hj).1; omega
          obtain ⟨y, hy1, hy2⟩ := hat j _ (List.getElem?_eq_getElem hj')
          rw [hj] at hy1
          cases hy1
          exact .pure (toImm_rel sH H _ deep _ _ _ hy2 (fun id _ => ⟨rfl, fun ob b base h1 h2 => place_lt sH h1 h2⟩) (.inl fun b hb => (s.kin b hb).1) (ha.2 j _ V (List.getElem?_eq_getElem hj') hV))⟩
        refine Calls.mono hs (fun e w' he => ?_)
        cases e with
        | returned V =>
          obtain ⟨φc, Kc, g, hV⟩ := he
          have hmlt : ∀ b, Mut φc Hc.get b → b < w'.heap.size := fun b ⟨id, ob', base, h1, h2⟩ => place_lt g.sim h1 h2
          have hg := goes_away s (w' := w') (g.ext.mono (fun b hb => (no_mut hb).elim)) (fun b => K b ∨ Mut φc Hc.get b) (fun b hb => .inl hb) (fun b hb => hb.elim (fun h => Nat.lt_of_lt_of_le (s.kin b h).1 g.ext.size) (hmlt b)) (fun b hb => by
            rcases hb with hb | hb
            · exact .inl hb
            · rcases g.mu b hb with h3 | h3
              · exact (no_mut h3).elim
              · exact .inr h3)
          refine ⟨φ, _, hg, .pure ?_⟩
          exact relP_mono (fun b hb => .inr hb) (toImm_rel g.sim Hc (Mut φc Hc.get) deep _ _ _ hr (fun id _ => ⟨rfl, fun ob b base h1 h2 => ⟨id, ob, base, h1, h2⟩⟩) (.inr hown) hV)
        | panicked _ => exact he.elim
        | outgrown => exact he.elim
      · cases hr

theorem doCall_borrow {cf : FnF} {f : Nat} {args : List AV} {v : AV} {H' : Heap} {nx' : Nat} (hd : doCall cf f args .borrow H nx = some (v, H', nx')) :
    H' = H ∧ nx' = nx ∧ ((allB AV.plain args = true ∧ endOwn (cf f args .leaf 0) false = some v) ∨ ∃ as, mapO (toImm deep H) args = some as ∧ endOwn (cf f as .leaf 0) true = some v) := by
  simp only [doCall, cond_eq_ite] at hd
  split at hd
  · rename_i hpl
    split at hd
    · rename_i r hr
      cases hd
      exact ⟨rfl, rfl, .inl ⟨hpl, hr⟩⟩
    · cases hd
  · split at hd
    · cases hd
    · rename_i as has
      split at hd
      · rename_i r hr
        cases hd
        exact ⟨rfl, rfl, .inr ⟨as, has, hr⟩⟩
      · cases hd

theorem calls_ends {cf : FnF} (hcf : FnOk P cf) (s : Sim top φ K H.get nx w) {f : Nat} {args : List AV} {m : Mode} {v : AV} {H' : Heap} {nx' : Nat} (hd : doCall cf f args m H nx = some (v, H', nx')) (ht : nx' ≤ top) {cargs : Array Value} (ha : ArgsR φ K w args cargs) :
    (∀ args w, (callFunc f args).run P w = .ok (.enter f args) w) ∧ Calls P f cargs w (Ret (Ends top φ K H.get nx w v H'.get nx')) := by
  cases m with
  | share =>
    obtain ⟨h1, h2⟩ := hcf f args H nx v H' nx' hd
    exact ⟨h1, h2 top φ K w cargs ht s ha⟩
  | borrow =>
    obtain ⟨rfl, rfl, hc⟩ := doCall_borrow hd
    exact borrow_ends hcf s (H := H') (fun _ _ h => h) ha hc

theorem argsR_of (hρ : ∀ x y, mOpd x y = true → RelV φ K w (ρ y) (ρc x)) {as : Array Operand} {xs : List Opd} (hm : mOpds as.toList xs = true) : ArgsR φ K w (xs.map ρ) (as.map ρc) := by
  obtain ⟨h1, h2⟩ := mOpds_rel hρ hm
  refine ⟨by simpa using h1, fun j a V ha hV => h2 j a V ha ?_⟩
  rw [← hV]
  simp

theorem op_of_call {a : Act} {f : Nat} {as : Array Operand} (hcall : ∀ args w, (callFunc f args).run P w = .ok (.enter f args) w) (hrun : (execOp a.eval o).run P w = (callFunc f (as.map a.eval)).run P w) {v : AV} {h' : HeapF} {nx' : Nat} (hc : Calls P f (as.map a.eval) w (Ret (Ends top φ K h nx w v h' nx'))) :
    OpOk top P φ K h nx w o a v h' nx' := by
  intro next Q hn
  unfold Oper.wp
  rw [hrun, hcall, Oper.upon_enter]
  refine Calls.mono hc (fun e w' he => ?_)
  cases e with
  | returned V => exact hn V w' he
  | panicked _ => exact he.elim
  | outgrown => exact he.elim

/-- ONE OPERATION. -/
theorem op_sound {cf : FnF} (hcf : FnOk P cf) (s : Sim top φ K H.get nx w) {a : Act} (hρ : ∀ x y, mOpd x y = true → RelV φ K w (ρ y) (a.eval x)) {ao : AOper} (hm : mOp P o ao.op = true) {v : AV} {H' : Heap} {nx' : Nat} (hd : doFz cf ao ρ H nx = some (v, H', nx')) (ht : nx' ≤ top) :
    OpOk top P φ K H.get nx w o a v H'.get nx' := by
  unfold doFz at hd
  rw [cond_eq_ite] at hd
  split at hd
  · split at hd
    · rename_i len zero parts hop
      split at hd
      · cases hd
      · rename_i vs hvs
        split at hd
        · rename_i v' hp
          cases hd
          rw [hop] at hm
          have := op_of_fz s hρ hm (fun _ _ => rfl) hvs hp ht
          have e : (drop H ((parts.map fun p => ρ p.2.2).flatMap (idsOf deep H))).get = fun id => if id ∈ (parts.map fun p => ρ p.2.2).flatMap (idsOf deep H) then none else H.get id := funext fun id => drop_get _ H id
          rw [e]
          exact this
        · cases hd
    · cases hd
  · unfold doOp at hd
    split at hd
    · rename_i pf hk
      split at hd
      · rename_i p hp
        exact op_of_plan (s_plan s hρ hm hk hp) (runPlan_F hd) ht
      · cases hd
    · rename_i f args m hk
      have hop : ao.op = .call f args m := by
        cases hop : ao.op <;> rw [hop] at hk <;> cases hk
        rfl
      rw [hop] at hm
      simp only [mOp] at hm
      split at hm
      · rename_i g as tys ho
        simp only [Bool.and_eq_true, Nat.beq_eq] at hm
        obtain ⟨rfl, hm⟩ := hm
        obtain ⟨h1, h2⟩ := calls_ends hcf s hd ht (argsR_of hρ hm)
        refine op_of_call (as := as) h1 ?_ h2
        simp [execOp, ho, resolve, Deferred.ofValue, invoke, Act.eval]
      · cases hm
    · rename_i f args m hk
      have hop : ao.op = .callv f args m := by
        cases hop : ao.op <;> rw [hop] at hk <;> cases hk
        rfl
      rw [hop] at hm
      simp only [mOp] at hm
      split at hd
      · rename_i g hg
        split at hm
        · rename_i x as tys ho
          simp only [Bool.and_eq_true] at hm
          obtain ⟨hx, hm⟩ := hm
          have hf := hρ _ _ hx
          rw [hg] at hf
          have hX := rel_func hf
          obtain ⟨h1, h2⟩ := calls_ends hcf s hd ht (argsR_of hρ hm)
          refine op_of_call (as := as) h1 ?_ h2
          simp [execOp, ho, resolve, Deferred.ofValue, invoke, hX]
        · cases hm
      · cases hd
end
end Go.Ax
