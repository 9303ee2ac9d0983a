/- Environments; regions in the text's order. -/
import Derived.Test.YtamgnhdbeecapaaAx14
set_option linter.unusedSimpArgs false
set_option linter.unusedVariables false
namespace Go.Ax

def EnvR (φ : Phi) (K : Nat → Prop) (w : World) (e : Env) (a : Act) : Prop := ∀ t, RelV φ K w (ev e (.t t)) (a.tmps.getD t undef)

/-- What calls are said to do, they do; the numbers of objects go up. -/
def FnUp (cf : FnF) : Prop := ∀ f args H nx v H' nx', cf f args H nx = some (v, H', nx') → nx ≤ nx'

def mGd (ops : Array Oper) : Option (Nat × Bool) → Option (Nat × Bool) → Bool
  | none, none => true
  | some (j, b), some (t, b') => (b == b') && (match (ops[j]?).bind (·.dst) with | some t' => Nat.beq t' t | none => false)
  | _, _ => false
def mDst : Option Nat → Option Nat → Bool
  | none, none => true
  | some a, some b => Nat.beq a b
  | _, _ => false
def mOper (P : Program) (ops : Array Oper) (o : Oper) (ao : AOper) : Bool := mDst o.dst ao.dst && mGd ops o.guard ao.gd && mOp P o ao.op
def mOpers (P : Program) (ops : Array Oper) : List Oper → List AOper → Bool
  | [], [] => true
  | o :: l, ao :: al => mOper P ops o ao && mOpers P ops l al
  | _, _ => false

theorem mDst_eq {a b : Option Nat} (h : mDst a b = true) : a = b := by
  cases a <;> cases b <;> first | rfl | cases h | skip
  simp only [mDst, Nat.beq_eq] at h
  rw [h]

section
variable {top : Nat} {P : Program} {φ : Phi} {K : Nat → Prop} {h : HeapF} {nx : Nat} {w : World} {H : Heap} {o : Oper} {nt : Nat} {cf : FnF}

theorem EnvR.opd {e : Env} {a : Act} (he : EnvR φ K w e a) : ∀ x y, mOpd x y = true → RelV φ K w (ev e y) (a.eval x) := by
  intro x y hm
  unfold mOpd at hm
  split at hm
  · rw [Nat.beq_eq] at hm
    subst hm
    exact he _
  · exact .pure (mVal_rel hm K w).1
  · rw [Nat.beq_eq] at hm
    subst hm
    exact .pure (.func _)
  · cases hm

theorem EnvR.keep {φ' : Phi} {K' : Nat → Prop} {h' : HeapF} {nx' : Nat} {w' : World} {e : Env} {a : Act} (he : EnvR φ K w e a) (s : Sim top φ K h nx w) (g : Goes top φ K h nx w φ' K' h' nx' w') : EnvR φ' K' w' e a := fun t => g.val s (he t)

theorem ev_put (e : Env) (v : AV) (d t : Nat) : ev (e.put (some v) d) (.t t) = if t = d then v else ev e (.t t) := by
  simp only [ev, Map.get_put]
  by_cases h : t = d
  · rw [if_pos h, if_pos h]
  · rw [if_neg h, if_neg h]

theorem putD_rel {e e' : Env} {d : Option Nat} {v : AV} {V : Value} {a : Act} (he : EnvR φ K w e a) (hs : a.tmps.size = nt) (hp : putD nt e d v = some e') (hv : RelV φ K w v V) : EnvR φ K w e' (a.put d V) ∧ (a.put d V).tmps.size = nt ∧ (a.put d V).defers = a.defers := by
  cases d with
  | none => cases hp; exact ⟨he, hs, rfl⟩
  | some d =>
    simp only [putD, cond_eq_ite, Nat.blt_eq] at hp
    split at hp
    · rename_i hd
      cases hp
      refine ⟨fun t => ?_, by simp [Act.put, hs], rfl⟩
      rw [ev_put]
      simp only [Act.put, Array.getD_eq_getD_getElem?, Array.getElem?_setIfInBounds]
      by_cases ht : t = d
      · subst ht
        rw [if_pos rfl, if_pos rfl, if_pos (by omega)]
        exact hv
      · rw [if_neg ht, if_neg (fun h => ht h.symm)]
        have := he t
        rwa [Array.getD_eq_getD_getElem?] at this
    · cases hp

theorem rel_bool_inv {a : AV} {b : Bool} (r : RelV φ K w a (.bool b)) : a = .bool b := by
  cases r with
  | pure r => cases r; rfl

theorem wanted_eq {e : Env} {a : Act} (he : EnvR φ K w e a) {ops : Array Oper} {gd : Option (Nat × Bool)} (hm : mGd ops o.guard gd = true) : Region.wanted o (yielded ops a.tmps) = wanted e gd := by
  unfold Region.wanted
  cases hg : o.guard with
  | none =>
    rw [hg] at hm
    cases gd with
    | none => rfl
    | some p => cases hm
  | some p =>
    obtain ⟨j, b⟩ := p
    rw [hg] at hm
    cases gd with
    | none => cases hm
    | some q =>
      obtain ⟨t, b'⟩ := q
      simp only [mGd, Bool.and_eq_true, beq_iff_eq] at hm
      obtain ⟨rfl, hm⟩ := hm
      split at hm
      · rename_i t' ht'
        rw [Nat.beq_eq] at hm
        subst hm
        have hr := he t'
        rw [Array.getD_eq_getD_getElem?] at hr
        simp only [yielded, ht', Option.bind_some, wanted]
        cases hget : e.get t' with
        | none =>
          have hev : ev e (.t t') = undefA := by simp [ev, hget]
          rw [hev] at hr
          split
          · rename_i x hx
            rw [hx] at hr
            cases rel_bool_inv hr
          · rfl
        | some v =>
          have hev : ev e (.t t') = v := by simp [ev, hget]
          rw [hev] at hr
          split
          · rename_i x hx
            rw [hx] at hr
            have := rel_bool_inv hr
            subst this
            simp
          · rename_i hx
            cases v with
            | bool x =>
              exfalso
              cases hc : a.tmps[t']? with
              | none =>
                rw [hc] at hr
                have hr2 := rel_bool hr
                cases hr2
              | some V =>
                rw [hc] at hr
                have hr2 := rel_bool hr
                simp at hr2
                subst hr2
                exact hx x hc
            | _ => rfl
      · cases hm

def Post (top : Nat) (φ : Phi) (K : Nat → Prop) (st : St) (w : World) (nt : Nat) (st' : St) (a' : Act) (w' : World) : Prop :=
  ∃ φ' K', Goes top φ K st.H.get st.nx w φ' K' st'.H.get st'.nx w' ∧ EnvR φ' K' w' st'.env a' ∧ a'.tmps.size = nt ∧ a'.defers = []

theorem doCall_up (hcf : FnUp cf) {f : Nat} {args : List AV} {m : Mode} {v : AV} {H' : Heap} {nx' : Nat} (hd : doCall cf f args m H nx = some (v, H', nx')) : nx ≤ nx' := by
  cases m with
  | share => exact hcf _ _ _ _ _ _ _ hd
  | borrow =>
    simp only [doCall, cond_eq_ite] at hd
    split at hd
    · split at hd
      · cases hd; exact Nat.le_refl _
      · cases hd
    · split at hd
      · cases hd
      · split at hd
        · cases hd; exact Nat.le_refl _
        · cases hd
theorem runPlan_up {p : Plan} {v : AV} {H' : Heap} {nx' : Nat} (hd : runPlan p H nx = some (v, H', nx')) : nx ≤ nx' := by
  unfold runPlan at hd
  split at hd
  · cases hd; exact Nat.le_refl _
  · cases hd; exact Nat.le_succ _
  · unfold runLook at hd
    repeat' (split at hd <;> try cases hd)
    all_goals first | exact Nat.le_refl _ | exact Nat.le_succ _
theorem doFz_up (hcf : FnUp cf) {ao : AOper} {ρ : Opd → AV} {v : AV} {H' : Heap} {nx' : Nat} (hd : doFz cf ao ρ H nx = some (v, H', nx')) : nx ≤ nx' := by
  unfold doFz at hd
  rw [cond_eq_ite] at hd
  split at hd
  · split at hd
    · split at hd
      · cases hd
      · split at hd
        · cases hd; exact Nat.le_refl _
        · cases hd
    · cases hd
  · unfold doOp at hd
    split at hd
    · split at hd
      · exact runPlan_up hd
      · cases hd
    · exact doCall_up hcf hd
    · split at hd
      · exact doCall_up hcf hd
      · cases hd

theorem runOps_cons (o : AOper) (l : List AOper) (st : St) : runOps cf nt (o :: l) st = match runOp cf nt o st with
      | some st => runOps cf nt l st
      | none => none := rfl
theorem runOp_up (hcf : FnUp cf) {ao : AOper} {st st' : St} (hr : runOp cf nt ao st = some st') : st.nx ≤ st'.nx := by
  unfold runOp at hr
  rw [cond_eq_ite] at hr
  split at hr
  · split at hr
    · cases hr
    · rename_i v H nx hd
      split at hr
      · cases hr; exact doFz_up hcf hd
      · cases hr
  · split at hr
    · cases hr; exact Nat.le_refl _
    · cases hr
theorem runOps_up (hcf : FnUp cf) {al : List AOper} : ∀ {st st' : St}, runOps cf nt al st = some st' → st.nx ≤ st'.nx := by
  induction al with
  | nil => intro st st' hr; cases hr; exact Nat.le_refl _
  | cons o l ih =>
    intro st st' hr
    rw [runOps_cons] at hr
    split at hr
    · rename_i st1 h1
      exact Nat.le_trans (runOp_up hcf h1) (ih hr)
    · cases hr

/-- one operation of a region -/
theorem oper_sound (hcf : FnOk P cf) {ops : Array Oper} {ao : AOper} (hm : mOper P ops o ao = true) {st st' : St} (hr : runOp cf nt ao st = some st') (ht : st'.nx ≤ top) {a : Act} (s : Sim top φ K st.H.get st.nx w) (he : EnvR φ K w st.env a) (hs : a.tmps.size = nt) (hd : a.defers = [])
    (next : Act → World → Prop) (Q : Exit → Act → World → Prop) (hn : ∀ a' w', Post top φ K st w nt st' a' w' → next a' w') :
    if Region.wanted o (yielded ops a.tmps) then o.wp P a w next Q else next (a.put o.dst undef) w := by
  simp only [mOper, Bool.and_eq_true] at hm
  obtain ⟨⟨h1, h2⟩, h3⟩ := hm
  have hdst := mDst_eq h1
  rw [wanted_eq he h2]
  unfold runOp at hr
  rw [cond_eq_ite] at hr
  split at hr
  · rename_i hw
    rw [if_pos hw]
    split at hr
    · cases hr
    · rename_i v H' nx' hdo
      split at hr
      · rename_i e' hp
        cases hr
        refine op_sound hcf s he.opd h3 hdo ht next Q (fun V w' hE => ?_)
        obtain ⟨φ', K', g, hv⟩ := hE
        rw [← hdst] at hp
        obtain ⟨q1, q2, q3⟩ := putD_rel (he.keep s g) hs hp hv
        exact hn _ _ ⟨φ', K', g, q1, q2, by rw [q3, hd]⟩
      · cases hr
  · rename_i hw
    rw [if_neg hw]
    split at hr
    · rename_i e' hp
      cases hr
      rw [← hdst] at hp
      obtain ⟨q1, q2, q3⟩ := putD_rel he hs hp undef_rel
      exact hn _ _ ⟨φ, K, Goes.refl s, q1, q2, by rw [q3, hd]⟩
    · cases hr

theorem Post.trans {φ1 : Phi} {K1 : Nat → Prop} {st st1 st' : St} {w1 : World} (g : Goes top φ K st.H.get st.nx w φ1 K1 st1.H.get st1.nx w1) {a' : Act} {w' : World} (p : Post top φ1 K1 st1 w1 nt st' a' w') : Post top φ K st w nt st' a' w' :=
  let ⟨φ', K', g', q⟩ := p; ⟨φ', K', g.trans g', q⟩

theorem regs (hcf : FnOk P cf) (hup : FnUp cf) {ops : Array Oper} {Q : Exit → Act → World → Prop} : ∀ (l : List Oper) (al : List AOper) (st st' : St) (a : Act) (w : World) (φ : Phi) (K : Nat → Prop), mOpers P ops l al = true → runOps cf nt al st = some st' → st'.nx ≤ top →
    Sim top φ K st.H.get st.nx w → EnvR φ K w st.env a → a.tmps.size = nt → a.defers = [] → (∀ a' w', Post top φ K st w nt st' a' w' → Q .normal a' w') → wpList P ops Q l a w := by
  intro l
  induction l with
  | nil =>
    intro al st st' a w φ K hm hr ht s he hs hd hQ
    cases al with
    | nil => cases hr; exact hQ a w ⟨φ, K, Goes.refl s, he, hs, hd⟩
    | cons _ _ => cases hm
  | cons o l ih =>
    intro al st st' a w φ K hm hr ht s he hs hd hQ
    cases al with
    | nil => cases hm
    | cons ao al =>
      simp only [mOpers, Bool.and_eq_true] at hm
      rw [runOps_cons] at hr
      split at hr
      · rename_i st1 h1
        have hup1 := runOps_up hup hr
        refine wpList_step (fun Kn hK => ?_)
        refine oper_sound hcf hm.1 h1 (Nat.le_trans hup1 ht) s he hs hd Kn Q (fun a1 w1 hp => hK a1 w1 ?_)
        obtain ⟨φ1, K1, g, q1, q2, q3⟩ := hp
        exact ih al st1 st' a1 w1 φ1 K1 hm.2 hr ht g.sim q1 q2 q3 (fun a' w' hp' => hQ a' w' (hp'.trans g))
      · cases hr
end
end Go.Ax
