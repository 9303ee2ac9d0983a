/- One operation of a region of open order: all kinds. -/
import Derived.Test.YtamgnhdbeecapaaAx18
set_option linter.unusedSimpArgs false
set_option linter.unusedVariables false
namespace Go.Ax
open Classical

def evF (f : Nat → AV) : Opd → AV
  | .t n => f n
  | .c v => v
def EnvF (φ : Phi) (K : Nat → Prop) (w : World) (f : Nat → AV) (a : Act) : Prop := ∀ t, RelV φ K w (f t) (a.tmps.getD t undef)
def wantedF (f : Nat → AV) : Option (Nat × Bool) → Bool
  | none => true
  | some (g, b) => match f g with
    | .bool b' => b' == b
    | _ => false
def putF (f : Nat → AV) (d : Option Nat) (v : AV) : Nat → AV := fun t => if d = some t then v else f t
def opdT : Opd → List Nat
  | .t n => [n]
  | .c _ => []
/-- the temporaries that it looks at -/
def AOper.sees (o : AOper) : List Nat := o.op.opds.flatMap opdT ++ (match o.gd with | some (g, _) => [g] | none => [])

theorem ev_evF (e : Env) : ev e = evF (fun t => ev e (.t t)) := by
  funext x
  cases x <;> rfl
theorem wanted_F (e : Env) (gd : Option (Nat × Bool)) : wanted e gd = wantedF (fun t => ev e (.t t)) gd := by
  cases gd with
  | none => rfl
  | some p =>
    obtain ⟨g, b⟩ := p
    simp only [wanted, wantedF, ev]
    cases e.get g with
    | none => rfl
    | some v => cases v <;> rfl

section
variable {top : Nat} {P : Program} {φ : Phi} {K : Nat → Prop} {h : HeapF} {w : World} {H H' : Heap} {nx nx' n0 : Nat} {o : Oper} {nt : Nat} {cf : FnF} {v : AV} {rds : List Rd} {tch : Tch}

theorem EnvF.opd {f : Nat → AV} {a : Act} (he : EnvF φ K w f a) : ∀ x y, mOpd x y = true → RelV φ K w (evF f y) (a.eval x) := by
  intro x y hm
  unfold mOpd at hm
  split at hm
  · rw [Nat.beq_eq] at hm
    subst hm
    exact he _
  · exact .pure (mVal_rel hm K w).1
  · rw [Nat.beq_eq] at hm
    subst hm
    exact .pure (.func _)
  · cases hm
theorem EnvF.keep {φ' : Phi} {K' : Nat → Prop} {h' : HeapF} {w' : World} {f : Nat → AV} {a : Act} (he : EnvF φ K w f a) (s : Sim top φ K h nx w) (g : Goes top φ K h nx w φ' K' h' nx' w') : EnvF φ' K' w' f a := fun t => g.val s (he t)
theorem putF_rel {f : Nat → AV} {d : Option Nat} {V : Value} {a : Act} (he : EnvF φ K w f a) (hs : a.tmps.size = nt) (hd : ∀ t, d = some t → t < nt) (hv : RelV φ K w v V) : EnvF φ K w (putF f d v) (a.put d V) ∧ (a.put d V).tmps.size = nt ∧ (a.put d V).defers = a.defers := by
  cases d with
  | none => exact ⟨fun t => by simpa [putF, Act.put] using he t, hs, rfl⟩
  | some d =>
    have hlt := hd d rfl
    refine ⟨fun t => ?_, by simp [Act.put, hs], rfl⟩
    simp only [putF, Act.put, Array.getD_eq_getD_getElem?, Array.getElem?_setIfInBounds, Option.some.injEq]
    by_cases ht : d = t
    · subst ht
      rw [if_pos rfl, if_pos rfl, if_pos (by omega)]
      exact hv
    · rw [if_neg ht, if_neg ht]
      have := he t
      rwa [Array.getD_eq_getD_getElem?] at this

theorem wantedF_eq {f : Nat → AV} {a : Act} (he : EnvF φ K w f a) {ops : Array Oper} {gd : Option (Nat × Bool)} (hm : mGd ops o.guard gd = true) : Region.wanted o (yielded ops a.tmps) = wantedF f gd := by
  unfold Region.wanted
  cases hg : o.guard with
  | none =>
    rw [hg] at hm
    cases gd with
    | none => rfl
    | some p => cases hm
  | some p =>
    obtain ⟨j, b⟩ := p
    rw [hg] at hm
    cases gd with
    | none => cases hm
    | some q =>
      obtain ⟨t, b'⟩ := q
      simp only [mGd, Bool.and_eq_true, beq_iff_eq] at hm
      obtain ⟨rfl, hm⟩ := hm
      split at hm
      · rename_i t' ht'
        rw [Nat.beq_eq] at hm
        subst hm
        have hr := he t'
        rw [Array.getD_eq_getD_getElem?] at hr
        simp only [yielded, ht', Option.bind_some, wantedF]
        cases hv : f t' with
        | bool x =>
          rw [hv] at hr
          cases hc : a.tmps[t']? with
          | none =>
            rw [hc] at hr
            have hr2 := rel_bool hr
            cases hr2
          | some V =>
            rw [hc] at hr
            have hr2 := rel_bool hr
            simp at hr2
            subst hr2
            simp
        | _ =>
          rw [hv] at hr
          split
          · rename_i x hx
            rw [hx] at hr
            cases rel_bool_inv hr
          · rfl
      · cases hm

theorem op_eq_call {op : AOp} {f : Nat} {args : List Opd} {m : Mode} (hk : kind op = .call f args m) : op = .call f args m := by
  cases op <;> cases hk
  rfl
theorem op_eq_callv {op : AOp} {f : Opd} {args : List Opd} {m : Mode} (hk : kind op = .callv f args m) : op = .callv f args m := by
  cases op <;> cases hk
  rfl

theorem effFz_ok (hcf : FnOk P cf) (hup : FnUp cf) {ao : AOper} (hm : mOp P o ao.op = true) {ρ0 : Opd → AV} (hn0 : n0 ≤ nx) (hd : effFz cf n0 ao ρ0 H nx = some (v, H', nx', rds, tch)) :
    nx ≤ nx' ∧ (∀ id, ¬ TouchE n0 tch nx nx' id → H'.get id = H.get id) ∧ (heapFree ao = true → rds = [] ∧ tch = .ids []) ∧ (upFree ao = true → tch = .ids []) ∧
    ∀ (φ : Phi) (K : Nat → Prop) (h : HeapF) (w : World) (a : Act) (ρ : Opd → AV), Sim nx' φ K h nx w → (∀ rd, rd ∈ rds → AgreeRd n0 h H.get rd) → (∀ x y, mOpd x y = true → RelV φ K w (ρ y) (a.eval x)) → (∀ x, x ∈ ao.op.opds → ρ x = ρ0 x) →
      OpOk nx' P φ K h nx w o a v (fun id => if TouchE n0 tch nx nx' id then H'.get id else h id) nx' := by
  unfold effFz at hd
  rw [cond_eq_ite] at hd
  split at hd
  · rename_i hfz
    split at hd
    · rename_i len zero parts hop
      split at hd
      · cases hd
      · rename_i vs hvs
        split at hd
        · rename_i v' hp
          cases hd
          have ht : ∀ id, TouchE n0 (.ids ((parts.map fun p => ρ0 p.2.2).flatMap (idsOf deep H))) nx nx id ↔ id ∈ (parts.map fun p => ρ0 p.2.2).flatMap (idsOf deep H) := fun id => ⟨fun h => h.elim (fun h => h) (fun h => by omega), fun h => .inl h⟩
          refine ⟨Nat.le_refl _, fun id hn => ?_, fun hf => ?_, fun hf => ?_, fun φ K h w a ρ s ha hρ hop2 => ?_⟩
          · rw [drop_get, if_neg (fun h => hn ((ht id).2 h))]
          · simp [heapFree, hfz] at hf
          · simp [upFree, hfz] at hf
          · rw [hop] at hm hop2
            have hparts : (parts.map fun p => ρ p.2.2) = parts.map fun p => ρ0 p.2.2 := List.map_congr_left (fun p hp => hop2 p.2.2 (List.mem_map.2 ⟨p, hp, rfl⟩))
            have hp' : pIslice (immρ H ρ) len zero parts = some (.val v) := by
              rw [← hp]
              simp only [pIslice]
              rw [fill_congr parts zero (ρ := immρ H ρ) (ρ' := immρ H ρ0) (fun x hx => by simp only [immρ, hop2 x hx])]
            have h1 := op_of_fz (o := o) s hρ hm (H := H) (fun id hid => by
              rw [hparts] at hid
              exact ha (.obj id) (List.mem_map.2 ⟨id, hid, rfl⟩)) (by rw [hparts]; exact hvs) hp' (Nat.le_refl nx)
            rw [hparts] at h1
            have e : (fun id => if TouchE n0 (.ids ((parts.map fun p => ρ0 p.2.2).flatMap (idsOf deep H))) nx nx id then (drop H ((parts.map fun p => ρ0 p.2.2).flatMap (idsOf deep H))).get id else h id) = fun id => if id ∈ (parts.map fun p => ρ0 p.2.2).flatMap (idsOf deep H) then none else h id := by
              funext id
              by_cases hid : id ∈ (parts.map fun p => ρ0 p.2.2).flatMap (idsOf deep H)
              · rw [if_pos ((ht id).2 hid), if_pos hid, drop_get, if_pos hid]
              · rw [if_neg (fun h => hid ((ht id).1 h)), if_neg hid]
            rw [e]
            intro next Q hn
            exact h1 next Q (fun V w' hE => hn V w' (by
              obtain ⟨φ', K', g, r⟩ := hE
              refine ⟨φ', K', ?_, r⟩
              have e2 : (fun id => if id ∈ (parts.map fun p => ρ0 p.2.2).flatMap (idsOf deep H) then (none : Option AObj) else h id) = _ := rfl
              first | exact g | (rw [← e2]; exact g)))
        · cases hd
    · cases hd
  · rename_i hfz
    unfold effOp at hd
    split at hd
    · rename_i pf hk
      split at hd
      · rename_i p hp
        split at hd
        · rename_i v1 H1 nx1 hrun
          cases hd
          obtain ⟨l1, l2, l3⟩ := runPlan_local (n0 := n0) hrun
          refine ⟨l1, l2, fun hf => ?_, fun hf => ?_, fun φ K h w a ρ s ha hρ hop2 => ?_⟩
          · obtain ⟨q1, q2⟩ := free_rds (kind_free hf hk hp)
            rw [q1, q2]
            exact ⟨rfl, rfl⟩
          · have : p.tch = [] := by
              simp only [upFree, Bool.and_eq_true] at hf
              obtain ⟨_, hf⟩ := hf
              split at hf
              · rename_i hop; rw [hop] at hk; cases hk
                simp only [pLoad] at hp
                split at hp
                · cases hp; rfl
                · split at hp
                  · obtain ⟨_, _, rfl⟩ := sound_of_O hp; rfl
                  · cases hp
                · cases hp
              · rename_i hop; rw [hop] at hk; cases hk
                simp only [pSlarr] at hp
                split at hp
                · split at hp
                  · cases hp
                  · cases hp; rfl
                · cases hp
              · rename_i hop; rw [hop] at hm; cases hm
              · rename_i hop; rw [hop] at hm; cases hm
              · rename_i hop; rw [hop] at hk; cases hk
              · rename_i hop; rw [hop] at hk; cases hk
              · exact (free_rds (kind_free hf hk hp)).2
            rw [this]
          · have hpe : pf ρ = some p := by rw [kind_congr ao.op hop2 hk]; exact hp
            exact op_of_plan (s_plan s hρ hm hk hpe) (l3 h ha) (Nat.le_refl _)
        · cases hd
      · cases hd
    · rename_i f args m hk
      have hop := op_eq_call hk
      obtain ⟨l1, l2, l3, l4⟩ := effCall_ok hcf hup hn0 hd
      rw [hop] at hm
      simp only [mOp] at hm
      split at hm
      · rename_i g as tys ho
        simp only [Bool.and_eq_true, Nat.beq_eq] at hm
        obtain ⟨rfl, hm⟩ := hm
        refine ⟨l1, l2, fun hf => ?_, fun hf => ?_, fun φ K h w a ρ s ha hρ hop2 => ?_⟩
        · simp [heapFree, hop] at hf
        · cases m with
          | share => simp [upFree, heapFree, hop] at hf
          | borrow =>
            simp only [effCall, cond_eq_ite] at hd
            split at hd <;> split at hd <;> first | (cases hd; rfl) | cases hd
        · have hargs : args.map ρ = args.map ρ0 := List.map_congr_left (fun x hx => hop2 x (by rw [hop]; exact hx))
          have ha2 := argsR_of hρ hm
          rw [hargs] at ha2
          refine op_of_call (as := as) l3 ?_ (l4 φ K h w _ s ha ha2)
          simp [execOp, ho, resolve, Deferred.ofValue, invoke, Act.eval]
      · cases hm
    · rename_i f args m hk
      have hop := op_eq_callv hk
      split at hd
      · rename_i g hg
        obtain ⟨l1, l2, l3, l4⟩ := effCall_ok hcf hup hn0 hd
        rw [hop] at hm
        simp only [mOp] at hm
        split at hm
        · rename_i x as tys ho
          simp only [Bool.and_eq_true] at hm
          obtain ⟨hx, hm⟩ := hm
          refine ⟨l1, l2, fun hf => ?_, fun hf => ?_, fun φ K h w a ρ s ha hρ hop2 => ?_⟩
          · simp [heapFree, hop] at hf
          · cases m with
            | share => simp [upFree, heapFree, hop] at hf
            | borrow =>
              simp only [effCall, cond_eq_ite] at hd
              split at hd <;> split at hd <;> first | (cases hd; rfl) | cases hd
          · have hargs : args.map ρ = args.map ρ0 := List.map_congr_left (fun x hx => hop2 x (by rw [hop]; exact List.mem_cons_of_mem _ hx))
            have hf := hρ _ _ hx
            rw [hop2 f (by rw [hop]; exact List.mem_cons_self ..), hg] at hf
            have hX := rel_func hf
            have ha2 := argsR_of hρ hm
            rw [hargs] at ha2
            refine op_of_call (as := as) l3 ?_ (l4 φ K h w _ s ha ha2)
            simp [execOp, ho, resolve, Deferred.ofValue, invoke, hX]
        · cases hm
      · cases hd
end
end Go.Ax
