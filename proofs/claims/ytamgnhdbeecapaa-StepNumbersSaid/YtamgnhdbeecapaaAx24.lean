/- Code, functions: what the interpreter answers, calls answer. -/
import Derived.Test.YtamgnhdbeecapaaAx23
import Derived.LoopN
set_option linter.unusedSimpArgs false
set_option linter.unusedVariables false
namespace Go.Ax

/-! ### 1. Numbers go up -/
section
variable {cf : FnF} {nt n0 : Nat} {H : Heap} {nx : Nat}
theorem effStep_up (hup : FnUp cf) {ao : AOper} {st st1 : St} {r : Rec} (hd : effStep cf nt n0 ao st = some (st1, r)) : st.nx ≤ st1.nx := by
  have hcall : ∀ {f : Nat} {args : List AV} {m : Mode} {v : AV} {H' : Heap} {nx' : Nat} {rds : List Rd} {tch : Tch}, effCall cf n0 f args m st.H st.nx = some (v, H', nx', rds, tch) → st.nx ≤ nx' := by
    intro f args m v H' nx' rds tch h
    cases m with
    | share =>
      simp only [effCall] at h
      split at h
      · rename_i hc; cases h; exact hup _ _ _ _ _ _ _ hc
      · cases h
    | borrow =>
      simp only [effCall, cond_eq_ite] at h
      split at h <;> split at h <;> first | (cases h; exact Nat.le_refl _) | cases h
  unfold effStep at hd
  rw [cond_eq_ite] at hd
  split at hd
  · split at hd
    · cases hd
    · rename_i v H nx rds tch hE
      split at hd
      · cases hd
      · cases hd
        unfold effFz at hE
        rw [cond_eq_ite] at hE
        split at hE
        · split at hE
          · split at hE
            · cases hE
            · split at hE
              · cases hE; exact Nat.le_refl _
              · cases hE
          · cases hE
        · unfold effOp at hE
          split at hE
          · split at hE
            · split at hE
              · rename_i hrun; cases hE; exact runPlan_up hrun
              · cases hE
            · cases hE
          · exact hcall hE
          · split at hE
            · exact hcall hE
            · cases hE
  · split at hd
    · cases hd
    · cases hd; exact Nat.le_refl _
theorem runDOps_up (hup : FnUp cf) : ∀ {al : List AOper} {st st' : St} {rs : List Rec}, runDOps cf nt n0 al st = some (st', rs) → st.nx ≤ st'.nx
  | [], st, st', rs, h => by cases h; exact Nat.le_refl _
  | ao :: al, st, st', rs, h => by
    simp only [runDOps] at h
    split at h
    · cases h
    · rename_i st1 r h1
      split at h
      · cases h
      · rename_i h2
        cases h
        exact Nat.le_trans (effStep_up hup h1) (runDOps_up hup h2)
end

def CodeUp (ex : CodeF) : Prop := ∀ nt ac st x st', ex nt ac st = some (x, st') → st.nx ≤ st'.nx
theorem codeStep_up {ex : CodeF} {cf : FnF} (h1 : CodeUp ex) (h2 : FnUp cf) : CodeUp (codeStep ex cf) := by
  intro nt ac st x st' h
  unfold codeStep at h
  split at h
  · cases h; exact Nat.le_refl _
  · split at h
    · rename_i hr; cases h; exact runOps_up h2 hr
    · cases h
  · split at h
    · rename_i hr
      cases h
      unfold runDreg at hr
      split at hr
      · cases hr
      · rename_i hrun
        rw [cond_eq_ite] at hr
        split at hr
        · cases hr; exact runDOps_up h2 hrun
        · cases hr
    · cases h
  · split at h
    · rename_i hr; exact Nat.le_trans (h1 _ _ _ _ _ hr) (h1 _ _ _ _ _ h)
    · exact h1 _ _ _ _ _ h
  · split at h
    · exact h1 _ _ _ _ _ h
    · exact h1 _ _ _ _ _ h
    · cases h
  · split at h
    · rename_i hr
      rw [cond_eq_ite] at h
      split at h
      · cases h; exact h1 _ _ _ _ _ hr
      · cases h; exact h1 _ _ _ _ _ hr
    · exact h1 _ _ _ _ _ h
  · split at h
    · rename_i hr; exact Nat.le_trans (h1 _ _ _ _ _ hr) (h1 _ _ _ _ _ h)
    · exact h1 _ _ _ _ _ h
  · cases h; exact Nat.le_refl _
  · cases h; exact Nat.le_refl _
theorem resA_up {l : List ARes} {st : St} {v : AV} {H' : Heap} {nx' : Nat} (h : resA l st = some (v, H', nx')) : H' = st.H ∧ nx' = st.nx := by
  unfold resA at h
  split at h
  · cases h; exact ⟨rfl, rfl⟩
  · cases h; exact ⟨rfl, rfl⟩
  · cases h
theorem fnStep_up {prog : Map AFunc} {ex : CodeF} (h1 : CodeUp ex) : FnUp (fnStep prog ex) := by
  intro f args H nx v H' nx' h
  unfold fnStep at h
  split at h
  · cases h
  · rw [cond_eq_ite] at h
    split at h
    · split at h
      · rename_i hr; obtain ⟨_, rfl⟩ := resA_up h; exact h1 _ _ _ _ _ hr
      · rename_i hr; obtain ⟨_, rfl⟩ := resA_up h; exact h1 _ _ _ _ _ hr
      · cases h
    · cases h
theorem interp_up (prog : Map AFunc) : ∀ k, CodeUp (interp prog k).code ∧ FnUp (interp prog k).fn
  | 0 => ⟨fun _ _ _ _ _ h => (by cases h), fun _ _ _ _ _ _ _ h => (by cases h)⟩
  | k + 1 => by
    obtain ⟨h1, h2⟩ := interp_up prog k
    exact ⟨codeStep_up h1 h2, fnStep_up h1⟩

/-! ### 2. Code -/
def mCode (P : Program) : Code → ACode → Bool
  | .skip, .skip => true
  | .region _ ops draw, .reg al => !draw && mOpers P ops ops.toList al
  | .region _ ops draw, .dreg al ahead pairs => draw && mDreg P ops al ahead pairs
  | .seq a b, .seq a' b' => mCode P a a' && mCode P b b'
  | .cond c a b, .cond c' a' b' => mOpd c c' && mCode P a a' && mCode P b b'
  | .block id c, .block id' c' => Nat.beq id id' && mCode P c c'
  | .loop c, .loop c' => mCode P c c'
  | .exit id, .exit id' => Nat.beq id id'
  | .ret, .ret => true
  | _, _ => false

def AExit.conc : AExit → Exit
  | .normal => .normal
  | .exit id => .exit id
  | .ret => .ret

def Holds (P : Program) (X : Code → (Exit → Act → World → Prop) → Act → World → Prop) (nt : Nat) (st : St) (x : AExit) (st' : St) (c : Code) : Prop :=
  ∀ (top : Nat) (φ : Phi) (K : Nat → Prop) (w : World) (a : Act) (Q : Exit → Act → World → Prop), st'.nx ≤ top → Sim top φ K st.H.get st.nx w → EnvR φ K w st.env a → a.tmps.size = nt → a.defers = [] → (∀ a' w', Post top φ K st w nt st' a' w' → Q x.conc a' w') → X c Q a w
def CodeOk (P : Program) (ex : CodeF) : Prop := ∀ nt ac st x st', ex nt ac st = some (x, st') → ∀ c, mCode P c ac = true → Holds P (fun c Q a w => c.wp P Q a w) nt st x st' c
def LoopOk (P : Program) (ex : CodeF) (n : Nat) : Prop := ∀ nt ac st x st', ex nt (.loop ac) st = some (x, st') → ∀ c, mCode P c ac = true → Holds P (fun c Q a w => Code.rounds P c Q n a w) nt st x st' c

theorem loop_ok {P : Program} {ex : CodeF} {cf : FnF} {n : Nat} (h1 : CodeOk P ex) (hu : CodeUp ex) (hl : LoopOk P ex n) : LoopOk P (codeStep ex cf) (n + 1) := by
  intro nt ac st x st' h c hm top φ K w a Q ht s he hs hd hQ
  simp only [codeStep] at h
  rw [rounds_succ]
  split at h
  · rename_i st1 hr
    have hle := hu _ _ _ _ _ h
    refine h1 nt ac st .normal st1 hr c hm top φ K w a _ (Nat.le_trans hle ht) s he hs hd (fun a1 w1 hp => ?_)
    obtain ⟨φ1, K1, g, q1, q2, q3⟩ := hp
    exact hl nt ac st1 x st' h c hm top φ1 K1 w1 a1 Q ht g.sim q1 q2 q3 (fun a' w' hp' => hQ a' w' (hp'.trans g))
  · rename_i hne
    refine h1 nt ac st x st' h c hm top φ K w a _ ht s he hs hd (fun a1 w1 hp => ?_)
    cases x with
    | normal => exact (hne _ h).elim
    | exit id => exact hQ a1 w1 hp
    | ret => exact hQ a1 w1 hp

theorem code_ok {P : Program} {ex : CodeF} {cf : FnF} {n : Nat} (hmx : P.follows .mixedOrders = true) (h1 : CodeOk P ex) (hu : CodeUp ex) (hl : LoopOk P ex n) (hcf : FnOk P cf) (hup : FnUp cf) : CodeOk P (codeStep ex cf) := by
  intro nt ac st x st' h c hm top φ K w a Q ht s he hs hd hQ
  cases ac with
  | skip =>
    cases c <;> first | cases hm | skip
    cases h
    exact wp_skip (hQ a w ⟨φ, K, Goes.refl s, he, hs, hd⟩)
  | reg al =>
    cases c <;> first | cases hm | skip
    rename_i id ops draw
    simp only [mCode, Bool.and_eq_true, Bool.not_eq_true'] at hm
    obtain ⟨rfl, hm⟩ := hm
    simp only [codeStep] at h
    split at h
    · rename_i st1 hr
      cases h
      exact wp_region_list (regs hcf hup ops.toList al st st' a w φ K hm hr ht s he hs hd hQ)
    · cases h
  | dreg al ahead pairs =>
    cases c <;> first | cases hm | skip
    rename_i id ops draw
    simp only [mCode, Bool.and_eq_true] at hm
    obtain ⟨rfl, hm⟩ := hm
    simp only [codeStep] at h
    split at h
    · rename_i st1 hr
      cases h
      exact dreg_ok hcf hup hmx hm hr ht s he hs hd hQ
    · cases h
  | seq a1 b1 =>
    cases c <;> first | cases hm | skip
    rename_i ca cb
    simp only [mCode, Bool.and_eq_true] at hm
    simp only [codeStep] at h
    refine wp_seq ?_
    split at h
    · rename_i st1 hr
      have hle := hu _ _ _ _ _ h
      refine h1 nt a1 st .normal st1 hr ca hm.1 top φ K w a _ (Nat.le_trans hle ht) s he hs hd (fun a1 w1 hp => ?_)
      obtain ⟨φ1, K1, g, q1, q2, q3⟩ := hp
      exact h1 nt b1 st1 x st' h cb hm.2 top φ1 K1 w1 a1 Q ht g.sim q1 q2 q3 (fun a' w' hp' => hQ a' w' (hp'.trans g))
    · rename_i hne
      refine h1 nt a1 st x st' h ca hm.1 top φ K w a _ ht s he hs hd (fun a1 w1 hp => ?_)
      cases x with
      | normal => exact (hne _ h).elim
      | exit id => exact hQ a1 w1 hp
      | ret => exact hQ a1 w1 hp
  | cond c0 a1 b1 =>
    cases c <;> first | cases hm | skip
    rename_i cc ca cb
    simp only [mCode, Bool.and_eq_true] at hm
    simp only [codeStep] at h
    have hr := he.opd _ _ hm.1.1
    split at h
    · rename_i hc
      rw [hc] at hr
      exact wp_cond_true (rel_bool hr) (h1 nt a1 st x st' h ca hm.1.2 top φ K w a Q ht s he hs hd hQ)
    · rename_i hc
      rw [hc] at hr
      exact wp_cond_false (rel_bool hr) (h1 nt b1 st x st' h cb hm.2 top φ K w a Q ht s he hs hd hQ)
    · cases h
  | block id c0 =>
    cases c <;> first | cases hm | skip
    rename_i id' cc
    simp only [mCode, Bool.and_eq_true, Nat.beq_eq] at hm
    obtain ⟨rfl, hm⟩ := hm
    simp only [codeStep] at h
    refine wp_block ?_
    split at h
    · rename_i i st1 hr
      rw [cond_eq_ite] at h
      split at h
      · rename_i hi
        rw [Nat.beq_eq] at hi
        cases h
        refine h1 nt c0 st (.exit i) st' hr cc hm top φ K w a _ ht s he hs hd (fun a1 w1 hp => ?_)
        simp only [AExit.conc, Exit.inBlock, if_pos hi]
        exact hQ a1 w1 hp
      · rename_i hi
        rw [Nat.beq_eq] at hi
        cases h
        refine h1 nt c0 st (.exit i) st' hr cc hm top φ K w a _ ht s he hs hd (fun a1 w1 hp => ?_)
        simp only [AExit.conc, Exit.inBlock, if_neg hi]
        exact hQ a1 w1 hp
    · rename_i hne
      refine h1 nt c0 st x st' h cc hm top φ K w a _ ht s he hs hd (fun a1 w1 hp => ?_)
      cases x with
      | normal => exact hQ a1 w1 hp
      | exit id => exact (hne _ _ h).elim
      | ret => exact hQ a1 w1 hp
  | loop c0 =>
    cases c <;> first | cases hm | skip
    rename_i cc
    exact wp_loop_rounds (n + 1) (loop_ok (cf := cf) h1 hu hl nt c0 st x st' h cc hm top φ K w a Q ht s he hs hd hQ)
  | exit id =>
    cases c <;> first | cases hm | skip
    simp only [mCode, Nat.beq_eq] at hm
    subst hm
    cases h
    exact wp_exit (hQ a w ⟨φ, K, Goes.refl s, he, hs, hd⟩)
  | ret =>
    cases c <;> first | cases hm | skip
    cases h
    exact wp_ret (hQ a w ⟨φ, K, Goes.refl s, he, hs, hd⟩)

/-! ### 3. Functions -/
def mRes (P : Program) : List ResultVar → List ARes → Bool
  | [], [] => true
  | .tmp t :: l, .tmp t' :: l' => Nat.beq t t' && mRes P l l'
  | .cell a t :: l, .cell a' sz :: l' => Nat.beq a a' && tVar P t sz && mRes P l l'
  | _, _ => false
def mFunc (P : Program) (fn : Func) (c : Code) (af : AFunc) : Bool := Nat.beq fn.ntmps af.nt && Nat.ble af.params af.nt && mCode P c af.body && mRes P fn.results.toList af.res
/-- A function of the program, and the interpreter's form of it. -/
def Matched (P : Program) (f : Nat) (af : AFunc) : Prop := (∃ fn c, P.funcs[f]? = some fn ∧ fn.body = some c ∧ mFunc P fn c af = true) ∧ ∀ args w, (callFunc f args).run P w = .ok (.enter f args) w

theorem initE_ev : ∀ (vs : List AV) (i : Nat) (e : Env) (t : Nat), ev (initE vs i e) (.t t) = if i ≤ t ∧ t < i + vs.length then vs.getD (t - i) undefA else ev e (.t t)
  | [], i, e, t => by simp [initE]; intro h1 h2; omega
  | v :: vs, i, e, t => by
    rw [initE, initE_ev vs (i + 1) _ t, ev_put]
    by_cases h1 : t = i
    · subst h1
      rw [if_neg (by omega), if_pos rfl, if_pos (by simp)]
      simp
    · rw [if_neg h1]
      by_cases h2 : i + 1 ≤ t ∧ t < i + 1 + vs.length
      · rw [if_pos h2, if_pos (by simp; omega), show t - i = (t - (i + 1)) + 1 by omega]
        simp
      · rw [if_neg h2, if_neg (by simp; omega)]

section
variable {top : Nat} {P : Program} {φ : Phi} {K : Nat → Prop} {w : World} {st : St} {a : Act}

def resRun (tmps : Array Value) : ResultVar → Sem Value
  | .tmp t => pure (tmps.getD t undef)
  | .cell b t => do loadVar t (← asAddr (tmps.getD b undef))
theorem results_eq (fn : Func) (tmps : Array Value) : results fn tmps = (do let vs ← fn.results.mapM (resRun tmps); pure (if h : vs.size = 1 then vs[0] else .tuple vs)) := by
  rfl
theorem resOne_ok (s : Sim top φ K st.H.get st.nx w) (he : EnvR φ K w st.env a) : ∀ (l : List ResultVar) (l' : List ARes) (vs : List AV), mRes P l l' = true → mapO (resOne st.env st.H) l' = some vs →
    ∃ Vs : List Value, (l.mapM (resRun a.tmps)).run P w = .ok Vs w ∧ Vs.length = vs.length ∧ ∀ (j : Nat) (v : AV) (V : Value), vs[j]? = some v → Vs[j]? = some V → RelV φ K w v V := by
  intro l
  induction l with
  | nil =>
    intro l' vs hm hv
    cases l' with
    | nil => cases hv; exact ⟨[], rfl, rfl, fun j v V h => by simp at h⟩
    | cons _ _ => cases hm
  | cons r l ih =>
    intro l' vs hm hv
    cases l' with
    | nil => cases r <;> cases hm
    | cons r' l' =>
      rw [mapO_cons] at hv
      cases h1 : resOne st.env st.H r' with
      | none => rw [h1] at hv; cases hv
      | some v =>
        rw [h1] at hv
        simp only at hv
        cases h2 : mapO (resOne st.env st.H) l' with
        | none => rw [h2] at hv; cases hv
        | some vs' =>
          rw [h2] at hv
          cases hv
          have fin : ∀ V : Value, RelV φ K w v V → mRes P l l' = true → (resRun a.tmps r).run P w = .ok V w →
              ∃ Vs : List Value, ((r :: l).mapM (resRun a.tmps)).run P w = .ok Vs w ∧ Vs.length = (v :: vs').length ∧ ∀ (j : Nat) (v' : AV) (V' : Value), (v :: vs')[j]? = some v' → Vs[j]? = some V' → RelV φ K w v' V' := by
            intro V hV hml hrun
            obtain ⟨Vs, q1, q2, q3⟩ := ih l' vs' hml h2
            refine ⟨V :: Vs, ?_, by simp [q2], fun j v' V' hj hJ => ?_⟩
            · rw [List.mapM_cons, Sem.run_bind]
              rw [hrun]
              simp [q1]
            · cases j with
              | zero => simp at hj hJ; subst hj; subst hJ; exact hV
              | succ j => exact q3 j v' V' (by simpa using hj) (by simpa using hJ)
          cases r with
          | tmp t =>
            cases r' with
            | cell _ _ => cases hm
            | tmp t' =>
              simp only [mRes, Bool.and_eq_true, Nat.beq_eq] at hm
              obtain ⟨rfl, hm⟩ := hm
              cases h1
              exact fin _ (he t) hm rfl
          | cell b t =>
            cases r' with
            | tmp _ => cases hm
            | cell b' sz =>
              simp only [mRes, Bool.and_eq_true, Nat.beq_eq] at hm
              obtain ⟨⟨rfl, htv⟩, hm⟩ := hm
              simp only [resOne] at h1
              split at h1
              · rename_i id g off hev
                split at h1
                · rename_i cs hcs
                  rw [fetch_F] at hcs
                  have hb := he b
                  rw [hev] at hb
                  obtain ⟨blk, base, hp1, hV⟩ := rel_ptr hb
                  obtain ⟨b1, base1, c, e, p1, p2, p3, p4, p5⟩ := fetch_cells s hcs
                  rw [hp1] at p1
                  cases p1
                  have hlen := listAt_length c (base + off) (loadA sz)
                  have hget : ∀ (j : Nat) (x : AV), cs[j]? = some x → x.one = true ∧ ∃ u, (listAt c (base + off) (loadA sz))[j]? = some u ∧ RelV φ K w x u := by
                    intro j x hx
                    obtain ⟨r1, u, r2, r3⟩ := p5 j x hx
                    have hj : j < loadA sz := by
                      rcases Nat.lt_or_ge j cs.length with hj | hj
                      · omega
                      · rw [List.getElem?_eq_none hj] at hx; cases hx
                    exact ⟨r1, u, by rw [listAt_get c _ _ j hj (by omega)]; exact r2, r3⟩
                  refine fin _ (rel_mkv s htv h1 _ (by rw [p4, hlen]) hget) hm ?_
                  simp only [resRun, hV, asAddr, Sem.run_bind, Sem.run_pure, Result.andThen_ok]
                  refine run_loadVar htv blk (base + off) _ hlen (fun j hj => ?_)
                  rw [cell_at p2, listAt_get c _ _ j (by omega) (by omega)]
                · cases h1
              · cases h1

theorem results_ok (s : Sim top φ K st.H.get st.nx w) (he : EnvR φ K w st.env a) {fn : Func} {l' : List ARes} (hm : mRes P fn.results.toList l' = true) {v : AV} {H' : Heap} {nx' : Nat} (hv : resA l' st = some (v, H', nx')) :
    ∃ V, (results fn a.tmps).run P w = .ok V w ∧ RelV φ K w v V := by
  unfold resA at hv
  have key : ∀ vs, mapO (resOne st.env st.H) l' = some vs → ∃ Vs : List Value, Vs.length = vs.length ∧ (∀ (j : Nat) (v : AV) (V : Value), vs[j]? = some v → Vs[j]? = some V → RelV φ K w v V) ∧ (results fn a.tmps).run P w = .ok (if h : Vs.toArray.size = 1 then Vs.toArray[0] else .tuple Vs.toArray) w := by
    intro vs hvs
    obtain ⟨Vs, q1, q2, q3⟩ := resOne_ok s he fn.results.toList l' vs hm hvs
    refine ⟨Vs, q2, q3, ?_⟩
    have e : fn.results = fn.results.toList.toArray := by simp
    rw [results_eq, e, List.mapM_toArray]
    simp [q1]
  split at hv
  · rename_i v1 hvs
    cases hv
    obtain ⟨Vs, q1, q2, q3⟩ := key _ hvs
    cases Vs with
    | nil => simp at q1
    | cons V Vs =>
      have hVs : Vs = [] := List.eq_nil_of_length_eq_zero (by simpa using q1)
      subst hVs
      exact ⟨V, by rw [q3]; rfl, q2 0 v V rfl rfl⟩
  · rename_i vs hne hvs
    cases hv
    obtain ⟨Vs, q1, q2, q3⟩ := key _ hvs
    refine ⟨.tuple Vs.toArray, ?_, .tup vs Vs.toArray (by simp [q1]) (fun j a V ha hV => q2 j a V ha (by simpa using hV))⟩
    rw [q3, dif_neg]
    intro h1
    cases vs with
    | nil => simp at q1; simp [q1] at h1
    | cons v1 vs1 =>
      cases vs1 with
      | nil => exact hne v1 rfl
      | cons _ _ => simp at q1 h1; omega
  · cases hv
end

theorem fn_ok {P : Program} {prog : Map AFunc} (hprog : ∀ f af, prog.get f = some af → Matched P f af) {ex : CodeF} (h1 : CodeOk P ex) : FnOk P (fnStep prog ex) := by
  intro f args H nx v H' nx' h
  unfold fnStep at h
  split at h
  · cases h
  · rename_i af haf
    obtain ⟨⟨fn, c, hf, hb, hm⟩, hcall⟩ := hprog f af haf
    simp only [mFunc, Bool.and_eq_true, Nat.beq_eq, Nat.ble_eq] at hm
    obtain ⟨⟨⟨hnt, hpn⟩, hmc⟩, hmr⟩ := hm
    refine ⟨hcall, ?_⟩
    rw [cond_eq_ite] at h
    split at h
    · rename_i hlen
      rw [Nat.beq_eq] at hlen
      intro top φ K w cargs ht s ha
      have hsz : (cargs ++ Array.replicate (fn.ntmps - cargs.size) undef).size = af.nt := by
        have := ha.1
        simp
        omega
      have henv : EnvR φ K w (initE args 0 .leaf) { tmps := cargs ++ Array.replicate (fn.ntmps - cargs.size) undef, defers := [] } := by
        intro t
        rw [initE_ev]
        simp only [Nat.zero_le, true_and, Nat.zero_add, Nat.sub_zero]
        by_cases hlt : t < args.length
        · rw [if_pos hlt]
          have hc : t < cargs.size := by have := ha.1; omega
          have h2 := ha.2 t _ _ (List.getElem?_eq_getElem hlt) (Array.getElem?_eq_getElem hc)
          have e1 : args.getD t undefA = args[t] := by simp [hlt]
          have e2 : (cargs ++ Array.replicate (fn.ntmps - cargs.size) undef).getD t undef = cargs[t] := by
            rw [Array.getD_eq_getD_getElem?, Array.getElem?_append_left hc, Array.getElem?_eq_getElem hc]; rfl
          rw [e1, e2]
          exact h2
        · rw [if_neg hlt]
          have e2 : (cargs ++ Array.replicate (fn.ntmps - cargs.size) undef).getD t undef = undef := by
            rw [Array.getD_eq_getD_getElem?, Array.getElem?_append_right (by have := ha.1; omega), Array.getElem?_replicate]
            split <;> rfl
          rw [e2]
          exact undef_rel
      have fin : ∀ (x : AExit) (st : St), ex af.nt af.body ⟨initE args 0 .leaf, H, nx⟩ = some (x, st) → (x = .normal ∨ x = .ret) → resA af.res st = some (v, H', nx') → Calls P f cargs w (Ret (Ends top φ K H.get nx w v H'.get nx')) := by
        intro x st hr hx hres
        obtain ⟨rfl, rfl⟩ := resA_up hres
        refine calls_of_wp hf hb ?_
        refine h1 af.nt af.body _ x st hr c hmc top φ K w _ _ ht s henv hsz rfl (fun a' w' hp => ?_)
        obtain ⟨φ', K', g, henv', hs', hd'⟩ := hp
        obtain ⟨V, hV1, hV2⟩ := results_ok (P := P) (fn := fn) g.sim henv' hmr hres
        have hb : a'.defers = [] ∧ ∃ V, (results fn a'.tmps).run P w' = .ok V w' ∧ Ret (Ends top φ K H.get nx w v st.H.get st.nx) (.returned V) w' := ⟨hd', V, hV1, φ', K', g, hV2⟩
        rcases hx with rfl | rfl
        · exact hb
        · exact hb
      split at h
      · rename_i st hr; exact fin .normal st hr (.inl rfl) h
      · rename_i st hr; exact fin .ret st hr (.inr rfl) h
      · cases h
    · cases h

/-- WHAT THE INTERPRETER ANSWERS, CALLS ANSWER. -/
theorem interp_ok {P : Program} (hmx : P.follows .mixedOrders = true) {prog : Map AFunc} (hprog : ∀ f af, prog.get f = some af → Matched P f af) : ∀ k, CodeOk P (interp prog k).code ∧ LoopOk P (interp prog k).code k ∧ FnOk P (interp prog k).fn
  | 0 => ⟨fun _ _ _ _ _ h => (by cases h), fun _ _ _ _ _ h => (by cases h), fun _ _ _ _ _ _ _ h => (by cases h)⟩
  | k + 1 => by
    obtain ⟨h1, h2, h3⟩ := interp_ok hmx hprog k
    obtain ⟨u1, u2⟩ := interp_up prog k
    exact ⟨code_ok hmx h1 u1 h2 h3 u2, loop_ok h1 u1 h2, fn_ok hprog h1⟩
end Go.Ax
