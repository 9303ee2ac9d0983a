/- Functions that are given objects. -/
import Derived.Test.YtamgnhdbeecapaaV13
set_option linter.unusedSimpArgs false
set_option linter.unusedVariables false
namespace Go.Ax.V

/-! ### Temporaries that code does not write -/
def dOk (p : Nat → Bool) (d : Option Nat) : Bool := match d with
  | some d => !p d
  | none => true
def dstOk (p : Nat → Bool) (o : AOper) : Bool := dOk p o.dst
noncomputable def opsOk (p : Nat → Bool) (l : List AOper) : Bool := allB (dstOk p) l
noncomputable def noWB (p : Nat → Bool) (c : ACode) : Bool :=
  ACode.rec (motive := fun _ => Bool) true (fun ops => opsOk p ops) (fun ops _ _ => opsOk p ops) (fun _ _ a b => a && b) (fun _ _ _ a b => a && b) (fun _ _ a => a) (fun _ a => a) (fun _ => true) true c
def SameE (p : Nat → Bool) (e e' : Env) : Prop := ∀ t, p t = true → e'.get t = e.get t
theorem SameE.refl (p : Nat → Bool) (e : Env) : SameE p e e := fun _ _ => rfl
theorem SameE.trans {p : Nat → Bool} {a b c : Env} (h : SameE p a b) (h' : SameE p b c) : SameE p a c := fun t ht => (h' t ht).trans (h t ht)
section
variable {prog : Map AFunc} {cf : FnF} {nt np : Nat} {p : Nat → Bool}
theorem putD_same {e e' : Env} {d : Option Nat} {v : AV} (h : putD nt e d v = some e') (hd : dOk p d = true) : SameE p e e' := by
  cases d with
  | none => cases h; exact SameE.refl _ _
  | some d =>
    simp only [putD, cond_eq_ite] at h
    split at h
    · cases h
      intro t ht
      have hd' : p d = false := by simpa [dOk] using hd
      rw [Map.get_put, if_neg]
      rintro rfl; rw [hd'] at ht; cases ht
    · cases h
theorem runOp_same {o : AOper} {st st' : St} (ho : dstOk p o = true) (h : runOp cf nt o st = some st') : SameE p st.env st'.env := by
  simp only [runOp, cond_eq_ite] at h
  split at h
  · split at h
    · cases h
    · split at h
      · rename_i e he; cases h; exact putD_same he ho
      · cases h
  · split at h
    · rename_i e he; cases h; exact putD_same he ho
    · cases h
theorem runOps_same : ∀ {l : List AOper} {st st' : St}, opsOk p l = true → runOps cf nt l st = some st' → SameE p st.env st'.env
  | [], st, st', ho, h => by cases h; exact SameE.refl _ _
  | o :: l, st, st', ho, h => by
    have ho' := allB_true.1 ho
    rw [runOps_cons] at h
    split at h
    · rename_i st1 h1
      exact (runOp_same (ho' o List.mem_cons_self) h1).trans (runOps_same (allB_true.2 fun x hx => ho' x (List.mem_cons_of_mem _ hx)) h)
    · cases h
theorem runDOps_same {n0 : Nat} : ∀ {l : List AOper} {st st' : St} {rs : List Rec}, opsOk p l = true → runDOps cf nt n0 l st = some (st', rs) → SameE p st.env st'.env
  | [], st, st', rs, ho, h => by cases h; exact SameE.refl _ _
  | o :: l, st, st', rs, ho, h => by
    have ho' := allB_true.1 ho
    have h0 := ho' o List.mem_cons_self
    simp only [runDOps] at h
    split at h
    · cases h
    rename_i st1 r h1
    split at h
    · cases h
    rename_i st2 l2 h2
    cases h
    refine SameE.trans ?_ (runDOps_same (allB_true.2 fun x hx => ho' x (List.mem_cons_of_mem _ hx)) h2)
    simp only [effStep, cond_eq_ite] at h1
    split at h1
    · split at h1
      · cases h1
      · split at h1
        · cases h1
        · rename_i e he; cases h1; exact putD_same he h0
    · split at h1
      · cases h1
      · rename_i e he; cases h1; exact putD_same he h0
theorem interp_same : ∀ (k : Nat) (c : ACode) (st : St) (x : AExit) (st' : St), noWB p c = true → (interp prog k).code nt c st = some (x, st') → SameE p st.env st'.env
  | 0, c, st, x, st', hc, h => by cases h
  | k + 1, c, st, x, st', hc, h => by
    have h' : codeStep (interp prog k).code (interp prog k).fn nt c st = some (x, st') := h
    cases c with
    | skip => cases h'; exact SameE.refl _ _
    | exit id => cases h'; exact SameE.refl _ _
    | ret => cases h'; exact SameE.refl _ _
    | reg ops =>
      simp only [codeStep] at h'
      split at h'
      · rename_i st1 h1; cases h'; exact runOps_same hc h1
      · cases h'
    | dreg ops ahead pairs =>
      simp only [codeStep] at h'
      split at h'
      · rename_i st1 h1
        cases h'
        simp only [runDreg] at h1
        split at h1
        · cases h1
        · rename_i st2 rs h2
          rw [cond_eq_ite] at h1
          split at h1
          · cases h1; exact runDOps_same hc h2
          · cases h1
      · cases h'
    | seq a b =>
      have hab : noWB p a = true ∧ noWB p b = true := by have : (noWB p a && noWB p b) = true := hc; simpa using this
      simp only [codeStep] at h'
      split at h'
      · rename_i st1 h1
        exact (interp_same k a _ _ _ hab.1 h1).trans (interp_same k b _ _ _ hab.2 h')
      · exact interp_same k a _ _ _ hab.1 h'
    | cond c a b =>
      have hab : noWB p a = true ∧ noWB p b = true := by have : (noWB p a && noWB p b) = true := hc; simpa using this
      simp only [codeStep] at h'
      split at h'
      · exact interp_same k a _ _ _ hab.1 h'
      · exact interp_same k b _ _ _ hab.2 h'
      · cases h'
    | block id c =>
      have hcc : noWB p c = true := hc
      simp only [codeStep] at h'
      split at h'
      · rename_i i st1 h1
        have := interp_same k c _ _ _ hcc h1
        rw [cond_eq_ite] at h'
        split at h' <;> (cases h'; exact this)
      · exact interp_same k c _ _ _ hcc h'
    | loop c =>
      have hcc : noWB p c = true := hc
      simp only [codeStep] at h'
      split at h'
      · rename_i st1 h1
        exact (interp_same k c _ _ _ hcc h1).trans (interp_same k (.loop c) _ _ _ hc h')
      · exact interp_same k c _ _ _ hcc h'
theorem runCode_same {c : ACode} {st : St} {x : AExit} {st' : St} (hc : noWB p c = true) (h : runCode prog nt c st = some (x, st')) : SameE p st.env st'.env := by
  obtain ⟨k, hk⟩ := runCode_ev prog nt c st _ h
  exact interp_same k c st x st' hc (hk k (Nat.le_refl _))

/-! ### Results -/
/-- what the caller sees: the parameters, the result behind them -/
noncomputable def outV (V : VSt) (p : Nat → Bool) (np : Nat) (w : VV) : VSt := { V with env := (V.env.upto p).put (some ⟨none, w⟩) np }
/-- the parameters that the caller hears of -/
def kept (ks : List PK) (t : Nat) : Bool := match ks[t]? with
  | some .tr => false
  | some _ => true
  | none => false
def resT1 (V : VSt) (r : ARes) (k : TV → Prop) : Prop := match r with
  | .tmp t => rdT V none (.t t) k
  | .cell t sz => rdK V none (.t t) fun w => match w with
    | .ptr O off => (match V.H.get O with
      | some (.ob v ovs) => match sz with
        | none => (match ovAt off ovs with
          | some _ => False
          | none => ∃ u, cellT v off = some u ∧ k u)
        | some n => (match ovSub off n ovs with
          | [] => ∃ u, subT v off n = some u ∧ k u
          | _ :: _ => False)
      | _ => False)
    | _ => False
def resTs (V : VSt) : List ARes → (List TV → Prop) → Prop
  | [], k => k []
  | r :: rs, k => resT1 V r fun v => resTs V rs fun vs => k (v :: vs)
def resS (V : VSt) (p : Nat → Bool) (np : Nat) (rs : List ARes) (k : VSt → Prop) : Prop := match rs with
  | [.tmp t] => rdK V none (.t t) fun w => k (outV V p np w)
  | [.cell t sz] => resT1 V (.cell t sz) fun v => k (outV V p np (.tr v))
  | rs => resTs V rs fun vs => noTps vs ∧ k (outV V p np (.tr (.tp vs)))
/-- what a function that is given objects asks -/
def evFnS (sh : Sh) (prog : Map AFunc) (af : AFunc) (vc : VCode) (p : Nat → Bool) (np : Nat) (Jout : List Ent) (Q : JT Jout Prop) (Vc : VSt) : Prop :=
  evK sh prog af.nt vc Vc fun x V => (match x with | .exit _ => False | _ => True) ∧ resS V p np af.res fun V' => prJ Jout V' Q

theorem r_out {A : Tok} {V : VSt} {st : St} (hR : R A V st) {as : List AV} {p : Nat → Bool} {np : Nat} (hl : as.length = np) (hs : SameE p (initE as 0 .leaf) st.env) {w : VV} {v : AV} (hw : VR A w v) : R A (outV V p np w) ⟨(initE as 0 .leaf).put (some v) np, st.H, st.nx⟩ := by
  refine ⟨fun t e he => ?_, hR.heap, hR.inj, hR.used, hR.one, hR.fresh⟩
  have he' : ((V.env.upto p).put (some ⟨none, w⟩) np).get t = some e := he
  rw [Map.get_put] at he'
  split at he'
  · rename_i ht
    cases he'
    exact ⟨v, by show ((initE as 0 .leaf).put (some v) np).get t = _; rw [Map.get_put, if_pos ht], fun _ => hw⟩
  · rename_i hne
    rw [Map.get_upto] at he'
    split at he'
    · rename_i hlt
      obtain ⟨a, ha, hv⟩ := hR.env t e he'
      exact ⟨a, by show ((initE as 0 .leaf).put (some v) np).get t = _; rw [Map.get_put, if_neg hne, ← hs t hlt]; exact ha, hv⟩
    · cases he'
theorem resT1_sim {A : Tok} {V : VSt} {st : St} (hR : R A V st) {r : ARes} {k : TV → Prop} (h : resT1 V r k) : ∃ v t, resOne st.env st.H r = some v ∧ Can t v ∧ k t := by
  cases r with
  | tmp t =>
    obtain ⟨u, h1, h2⟩ := rdT_sim (g := none) hR trivial h
    exact ⟨_, u, rfl, h1, h2⟩
  | cell t sz =>
    simp only [resT1] at h
    obtain ⟨w, hw, h⟩ := rdK_sim (g := none) hR trivial h
    generalize he : ev st.env (.t t) = p at hw
    cases hw with
    | @ptr O off id hO =>
      simp only at h
      split at h
      rotate_left
      · cases h
      rename_i v ovs ho
      obtain ⟨y, hy, id', cs, ts, rfl, hH, hc⟩ := hR.heap O _ ho
      rw [hO] at hy; cases hy
      have fin : ∀ {l : List AV} {v' : AV} {t' : TV}, cut cs off (loadA sz) = some l → mkv sz l = some v' → Can t' v' → k t' → ∃ v t_1, resOne st.env st.H (.cell t sz) = some v ∧ Can t_1 v ∧ k t_1 := by
        intro l v' t' h1 h2 h3 h4
        refine ⟨v', t', ?_, h3, h4⟩
        simp only [resOne, he, fetch, hH, cond_eq_ite, Nat.beq_eq, if_pos, h1]
        exact h2
      split at h
      · split at h
        · cases h
        · rename_i ho'
          obtain ⟨u, h1, h2⟩ := h
          obtain ⟨x, h3, h4, _⟩ := cells_ld hc h1 ho'
          exact fin h3 rfl h4 h2
      · split at h
        · rename_i ho'
          obtain ⟨u, h1, h2⟩ := h
          obtain ⟨l, ls, h3, h4, h5⟩ := cells_sub hc h1
          rw [ho'] at h5
          exact fin h3 rfl (sub_tree h5 h4) h2
        · cases h
    | _ => cases h
theorem resTs_sim {A : Tok} {V : VSt} {st : St} (hR : R A V st) : ∀ (rs : List ARes) (k : List TV → Prop), resTs V rs k → ∃ vs ts, mapO (resOne st.env st.H) rs = some vs ∧ CanL ts vs ∧ k ts
  | [], k, h => ⟨[], [], rfl, ⟨rfl, fun j t x ht => by simp at ht⟩, h⟩
  | r :: rs, k, h => by
    obtain ⟨v, t, h1, h2, h3⟩ := resT1_sim hR h
    obtain ⟨vs, ts, g1, g2, g3⟩ := resTs_sim hR rs _ h3
    refine ⟨v :: vs, t :: ts, by rw [mapO_cons, h1, g1], ⟨by simp [g2.1], fun j u x hu hx => ?_⟩, g3⟩
    cases j with
    | zero => simp at hu hx; subst hu; subst hx; exact h2
    | succ j => exact g2.2 j u x (by simpa using hu) (by simpa using hx)
theorem resS_sim {A : Tok} {V : VSt} {st : St} (hR : R A V st) {rs : List ARes} {k : VSt → Prop} (h : resS V p np rs k) : ∃ v w, resA rs st = some (v, st.H, st.nx) ∧ VR A w v ∧ k (outV V p np w) := by
  have many : rs.length ≠ 1 → (resTs V rs fun vs => noTps vs ∧ k (outV V p np (.tr (.tp vs)))) → ∃ v w, resA rs st = some (v, st.H, st.nx) ∧ VR A w v ∧ k (outV V p np w) := by
    intro hne h
    obtain ⟨vs, ts, h1, h2, h3, h4⟩ := resTs_sim hR rs _ h
    have hl := (mapO_some h1).1
    refine ⟨.tup vs, .tr (.tp ts), ?_, .tr (.tp _ _ h2.1 (fun x hx => ?_) h2.2), h4⟩
    · unfold resA
      rw [h1]
      match vs, (show vs.length ≠ 1 by omega) with
      | [], _ => rfl
      | [_], hh => exact absurd rfl hh
      | _ :: _ :: _, _ => rfl
    · obtain ⟨j, hj⟩ := List.getElem?_of_mem hx
      have hlt : j < ts.length := by rw [h2.1]; exact (List.getElem?_eq_some_iff.1 hj).1
      exact can_plain1 (h2.2 j _ x (List.getElem?_eq_getElem hlt) hj) (noTps_mem h3 _ (List.getElem_mem hlt))
  match rs, h, many with
  | [], h, many => exact many (by simp) h
  | [.tmp t], h, many =>
    simp only [resS] at h
    obtain ⟨w, hw, h⟩ := rdK_sim (g := none) hR trivial h
    exact ⟨_, w, rfl, hw, h⟩
  | [.cell t sz], h, many =>
    simp only [resS] at h
    obtain ⟨v, u, h1, h2, h3⟩ := resT1_sim hR h
    exact ⟨v, .tr u, by unfold resA; rw [mapO_cons, h1]; rfl, .tr h2, h3⟩
  | r1 :: _ :: _, h, many => exact many (by simp) (by cases r1 <;> exact h)
/-- WHAT A CALL OF SUCH A FUNCTION DOES. -/
theorem vsh_of {sh : Sh} {f : Nat} {af : AFunc} {vc : VCode} {Jout : List Ent} {Q : JT Jout Prop} {Vc : VSt} (hf : prog.get f = some af) (hc : vc.code = af.body) (hok : vc.ok = true) (hp : af.params = np) (hnw : noWB p af.body = true) (hsh : sh.vs = VSh prog)
    (h : evFnS sh prog af vc p np Jout Q Vc) : CallOk prog f np Jout Q Vc := by
  intro A as H nx hl hR
  obtain ⟨x, st', h1, V', A', h2, h3, h4, h5⟩ := evK_sim hsh (nt := af.nt) vc Vc A ⟨initE as 0 .leaf, H, nx⟩ _ hok hR h
  have h1' := evC_run prog af.nt _ _ _ h1
  rw [hc] at h1'
  have hsame := runCode_same hnw h1'
  obtain ⟨v, w, g1, g2, g3⟩ := resS_sim h2 h5
  refine ⟨v, st'.H, st'.nx, A', _, run_fn ?_, r_out h2 hl hsame g2, g3, ⟨h3.le, h3.same, fun id ⟨O, o, a, ho, ha, hi⟩ => h3.own id ⟨O, o, a, ho, ha, hi⟩⟩⟩
  have hl' : as.length = af.params := by rw [hl, hp]
  simp only [fnStep, hf, cond_eq_ite, Nat.beq_eq, if_pos hl', h1']
  cases x with
  | exit i => cases h4
  | normal => exact g1
  | ret => exact g1
end
end Go.Ax.V
