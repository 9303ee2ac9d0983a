/- Each operation of the interpreter is what the machine does: arithmetic, addresses, slices. -/
import Derived.Test.YtamgnhdbeecapaaAx4
import Derived.Laws.StructEq
set_option linter.unusedSimpArgs false
set_option linter.unusedVariables false
namespace Go.Ax

section
variable {top : Nat} {P : Program} {φ : Phi} {K : Nat → Prop} {h : HeapF} {nx : Nat} {w : World} {ρ : Opd → AV} {ρc : Operand → Value} {o : Oper}

def mNilck (o : Oper) (x : Opd) : Bool := match o.op with
  | .nilCheck x' => mOpd x' x
  | _ => false
theorem s_nilck (s : Sim top φ K h nx w) (hρ : ∀ x y, mOpd x y = true → RelV φ K w (ρ y) (ρc x)) {x : Opd} (hm : mNilck o x = true) {p : Plan} (hp : pNilck ρ x = some p) : Sound top P φ K h nx w ρc o p := by
  unfold mNilck at hm
  split at hm
  · rename_i x' ho
    have hr := hρ _ _ hm
    unfold pNilck at hp
    split at hp
    · rename_i id g off hx
      cases hp
      rw [hx] at hr
      obtain ⟨b, base, hb, hV⟩ := rel_ptr hr
      exact sound_val s (V := ρc x') (by simp [execOp, ho, hV]) hr
    · rename_i cs off hx
      cases hp
      rw [hx] at hr
      obtain ⟨b, o1, hK, hV, _⟩ := rel_iptr hr
      exact sound_val s (V := ρc x') (by simp [execOp, ho, hV]) hr
    · rename_i f hx
      cases hp
      rw [hx] at hr
      have hV := rel_func hr
      exact sound_val s (V := ρc x') (by simp [execOp, ho, hV]) hr
    · cases hp
  · cases hm

theorem eqGuard_run (op : BinOp) (t : TypeId) (x y : Operand) (a b : Value) (hc : (∃ k n, a = .int k n) ∨ (∃ q, a = .string q) ∨ (∃ q, a = .bool q)) : (eqGuard op t x y a b).run P w = .ok () w := by
  unfold eqGuard
  rcases hc with ⟨k, n, rfl⟩ | ⟨q, rfl⟩ | ⟨q, rfl⟩ <;> cases op <;> simp

theorem binA_run {op : BinOp} {x y v : AV} {X Y : Value} (t : TypeId) (hv : binA op x y = some v) (hx : RelV φ K w x X) (hy : RelV φ K w y Y) :
    ∃ V, (binOp op t X Y).run P w = .ok V w ∧ RelV φ K w v V ∧ ((∃ k n, X = .int k n) ∨ (∃ q, X = .string q) ∨ (∃ q, X = .bool q)) := by
  unfold binA at hv
  split at hv
  · rename_i k a
    split at hv
    · rename_i k' b
      have hX := rel_int hx
      have hY := rel_int hy
      subst hX hY
      refine (fun (hh : ∃ V, (binOp op t (.int k a) (.int k' b)).run P w = .ok V w ∧ RelV φ K w v V) => let ⟨V, h1, h2⟩ := hh; ⟨V, h1, h2, .inl ⟨_, _, rfl⟩⟩) ?_
      by_cases hsh : op = .shl ∨ op = .shr
      · rcases hsh with rfl | rfl <;>
        · simp only [shiftA, ltA_eq, cond_eq_ite, decide_eq_true_eq] at hv
          split at hv
          · cases hv
          · rename_i hb
            cases hv
            exact ⟨_, by simp [binOp, Op.shift, hb], .pure (.int _ _)⟩
      · have hv' : (bif eqK k k' then intA op k a b else none) = some v := by
          revert hv
          cases op <;> simp_all
        rw [cond_eq_ite] at hv'
        split at hv'
        · rename_i hk
          have hk' := eqK_eq hk
          subst hk'
          cases op <;> simp only [intA, wrapA_eq, eqA_eq, ltA_eq, cond_eq_ite, decide_eq_true_eq] at hv'
          case add | sub | mul => cases hv'; exact ⟨_, by simp [binOp, Op.intArith], .pure (.int _ _)⟩
          case and | or | xor | andNot => cases hv'; exact ⟨_, by simp [binOp, Op.intBits], .pure (.int _ _)⟩
          case quo | rem =>
            split at hv'
            · cases hv'
            · rename_i hb
              cases hv'
              refine ⟨.int k _, ?_, .pure (.int _ _)⟩
              simp [binOp, Op.intDiv, hb]
          case shl | shr => cases hv'
          case eql => cases hv'; rw [show decide (a = b) = (a == b) from (Bool.beq_eq_decide_eq a b).symm]; exact ⟨_, by simp [binOp, Op.intCmp], .pure (.bool _)⟩
          case neq => cases hv'; rw [show (!decide (a = b)) = (a != b) from by rw [bne, Bool.beq_eq_decide_eq]]; exact ⟨_, by simp [binOp, Op.intCmp], .pure (.bool _)⟩
          case lss | gtr => cases hv'; exact ⟨_, by simp [binOp, Op.intCmp], .pure (.bool _)⟩
          case leq => cases hv'; rw [show (!decide (b < a)) = decide (a ≤ b) from by rw [Bool.eq_iff_iff]; simp]; exact ⟨_, by simp [binOp, Op.intCmp], .pure (.bool _)⟩
          case geq => cases hv'; rw [show (!decide (a < b)) = decide (b ≤ a) from by rw [Bool.eq_iff_iff]; simp]; exact ⟨_, by simp [binOp, Op.intCmp], .pure (.bool _)⟩
        · cases hv'
    · cases hv
  · rename_i a
    split at hv
    · rename_i b
      have hX := rel_str hx
      have hY := rel_str hy
      subst hX hY
      refine (fun (hh : ∃ V, (binOp op t (.string a) (.string b)).run P w = .ok V w ∧ RelV φ K w v V) => let ⟨V, h1, h2⟩ := hh; ⟨V, h1, h2, .inr (.inl ⟨_, rfl⟩)⟩) ?_
      cases op <;> simp only [strA, cond_eq_ite, Nat.ble_eq] at hv
      case eql | neq | lss | leq | gtr | geq => cases hv; exact ⟨_, by simp [binOp, Op.stringOp], .pure (.bool _)⟩
      case add =>
        split at hv
        · rename_i hb
          cases hv
          refine ⟨.string (a ++ b), ?_, .pure (.str _)⟩
          have hb' : ¬ (9223372036854775807 < (a.size : Int) + (b.size : Int)) := by unfold most at hb; omega
          simp [binOp, Op.stringOp, IntKind.max, IntKind.signed, IntKind.bits, hb']
        · cases hv
      all_goals cases hv
    · cases hv
  · cases hv

def mBin (o : Oper) (op : BinOp) (x y : Opd) : Bool := match o.op with
  | .binOp op' _ x' y' _ => decide (op' = op) && mOpd x' x && mOpd y' y
  | _ => false
theorem s_bin (s : Sim top φ K h nx w) (hρ : ∀ x y, mOpd x y = true → RelV φ K w (ρ y) (ρc x)) {op : BinOp} {x y : Opd} (hm : mBin o op x y = true) {p : Plan} (hp : pureO (binA op (ρ x) (ρ y)) = some p) : Sound top P φ K h nx w ρc o p := by
  unfold mBin at hm
  split at hm
  · rename_i op' t x' y' t' ho
    simp only [Bool.and_eq_true, decide_eq_true_eq] at hm
    obtain ⟨⟨rfl, h1⟩, h2⟩ := hm
    obtain ⟨v, hv, rfl⟩ := sound_of_O hp
    obtain ⟨V, r1, r2, r3⟩ := binA_run (P := P) t hv (hρ _ _ h1) (hρ _ _ h2)
    refine sound_val s (V := V) ?_ r2
    simp only [execOp, ho]
    refine run_v ?_
    simp [eqGuard_run op' t x' y' _ _ r3, r1]
  · cases hm

def mUn (o : Oper) (op : UnOp) (x : Opd) : Bool := match o.op with
  | .unOp op' _ x' => decide (op' = op) && mOpd x' x
  | _ => false
theorem s_un (s : Sim top φ K h nx w) (hρ : ∀ x y, mOpd x y = true → RelV φ K w (ρ y) (ρc x)) {op : UnOp} {x : Opd} (hm : mUn o op x = true) {p : Plan} (hp : pureO (unA op (ρ x)) = some p) : Sound top P φ K h nx w ρc o p := by
  unfold mUn at hm
  split at hm
  · rename_i op' t x' ho
    simp only [Bool.and_eq_true, decide_eq_true_eq] at hm
    obtain ⟨rfl, h1⟩ := hm
    obtain ⟨v, hv, rfl⟩ := sound_of_O hp
    have hr := hρ _ _ h1
    unfold unA at hv
    split at hv
    · split at hv
      · rename_i k n hx
        cases hv
        rw [hx] at hr
        have hV := rel_int hr
        refine sound_val s (V := .int k (k.wrap (0 - n))) ?_ (by rw [wrapA_eq]; exact .pure (.int _ _))
        simp [execOp, ho, hV, Op.unary, Op.intArith]
      · cases hv
    · split at hv
      · rename_i b hx
        cases hv
        rw [hx] at hr
        have hV := rel_bool hr
        refine sound_val s (V := .bool !b) ?_ (.pure (.bool _))
        simp [execOp, ho, hV, Op.unary]
      · cases hv
    · split at hv
      · rename_i k n hx
        simp only [intA] at hv
        cases hv
        rw [hx] at hr
        have hV := rel_int hr
        refine sound_val s (V := _) ?_ (.pure (.int _ _))
        simp [execOp, ho, hV, Op.unary, Op.intBits]
      · cases hv
    · cases hv
  · cases hm

def mConv (P : Program) (o : Oper) (k : IntKind) (x : Opd) : Bool := match o.op with
  | .convert a b x' => mOpd x' x && tDesc P a (fun d => match d with | .int _ => true | _ => false) && tDesc P b (fun d => match d with | .int k' => eqK k' k | _ => false)
  | _ => false
theorem s_conv (s : Sim top φ K h nx w) (hρ : ∀ x y, mOpd x y = true → RelV φ K w (ρ y) (ρc x)) {k : IntKind} {x : Opd} (hm : mConv P o k x = true) {p : Plan} (hp : pConv ρ k x = some p) : Sound top P φ K h nx w ρc o p := by
  unfold mConv at hm
  split at hm
  · rename_i a b x' ho
    simp only [Bool.and_eq_true] at hm
    obtain ⟨⟨h1, h2⟩, h3⟩ := hm
    have hr := hρ _ _ h1
    obtain ⟨d, hd, _⟩ := tDesc_some h2
    obtain ⟨d', hd', hd2⟩ := tDesc_some h3
    unfold pConv at hp
    split at hp
    · rename_i k0 n hx
      cases hp
      rw [hx] at hr
      have hV := rel_int hr
      split at hd2
      · rename_i k'
        have := eqK_eq hd2
        subst this
        refine sound_val s (V := .int k' (k'.wrap n)) ?_ (by rw [wrapA_eq]; exact .pure (.int _ _))
        simp [execOp, ho, hV, convert, run_underlying hd, run_underlying hd', Conv.intToInt]
      · cases hd2
    · cases hp
  · cases hm

theorem rel_iptr2 {cs : List AV} {off : Nat} {V : Value} (r : RelV φ K w (.iptr cs off) V) : ∃ b o, V = .pointer (some ⟨b, o + off, none⟩) ∧ ∀ off', RelP K w (.iptr cs off') (.pointer (some ⟨b, o + off', none⟩)) := by
  cases r with
  | pure r => cases r with
    | iptr cs b o off f hK hone hc hr => exact ⟨b, o, rfl, fun off' => .iptr cs b o off' f hK hone hc hr⟩

/-- a field's place and cells -/
def tField (P : Program) (t : TypeId) (i off : Nat) (f : TypeId → Bool) : Bool := tDesc P t fun d => match d with
  | .struct fs => match fs[i]? with
    | some fd => Nat.beq fd.offset off && f fd.type
    | none => false
  | _ => false
theorem tField_some {t : TypeId} {i off : Nat} {f : TypeId → Bool} (hm : tField P t i off f = true) : ∃ fs fd, P.underlying t = some (.struct fs) ∧ fs[i]? = some fd ∧ fd.offset = off ∧ f fd.type = true := by
  obtain ⟨d, hd, h1⟩ := tDesc_some hm
  split at h1
  · rename_i fs
    split at h1
    · rename_i fd hfd
      simp only [Bool.and_eq_true, Nat.beq_eq] at h1
      exact ⟨fs, fd, hd, hfd, h1.1, h1.2⟩
    · cases h1
  · cases h1

def mFaddr (P : Program) (o : Oper) (off : Nat) (x : Opd) : Bool := match o.op with
  | .fieldAddr t x' i => mOpd x' x && tField P t i off (fun ft => tInfo P ft fun i => !(Nat.beq i.size 0))
  | _ => false
theorem s_faddr (s : Sim top φ K h nx w) (hρ : ∀ x y, mOpd x y = true → RelV φ K w (ρ y) (ρc x)) {off : Nat} {x : Opd} (hm : mFaddr P o off x = true) {p : Plan} (hp : pFaddr ρ off x = some p) : Sound top P φ K h nx w ρc o p := by
  unfold mFaddr at hm
  split at hm
  · rename_i t x' i ho
    simp only [Bool.and_eq_true] at hm
    obtain ⟨h1, h2⟩ := hm
    have hr := hρ _ _ h1
    obtain ⟨fs, fd, hu, hf, hoff, hsz⟩ := tField_some h2
    obtain ⟨ti, hti, hsz⟩ := tInfo_some hsz
    have hs0 : ti.size ≠ 0 := by
      intro h0
      rw [h0] at hsz
      cases hsz
    have hrun : ∀ b q, (Instr.fieldAt t (.pointer (some ⟨b, q, none⟩)) i).run P w = .ok (.pointer (some ⟨b, q + off, none⟩)) w := by
      intro b q
      simp [Instr.fieldAt, run_underlying hu, hf, Instr.sureAddr, fieldPlace, sizeOf, typeInfo, hti, hs0, Addr.add_lit, hoff]
    unfold pFaddr at hp
    split at hp
    · rename_i id g q hx
      cases hp
      rw [hx] at hr
      obtain ⟨b, base, hb, hV⟩ := rel_ptr hr
      refine sound_val s (V := .pointer (some ⟨b, base + q + off, none⟩)) ?_ (by rw [Nat.add_assoc]; exact .ptr id g (q + off) b base hb)
      simp only [execOp, ho, hV]
      exact run_v (hrun b (base + q))
    · rename_i cs q hx
      cases hp
      rw [hx] at hr
      obtain ⟨b, o1, hV, hre⟩ := rel_iptr2 hr
      refine sound_val s (V := .pointer (some ⟨b, o1 + q + off, none⟩)) ?_ (by rw [Nat.add_assoc]; exact .pure (hre (q + off)))
      simp only [execOp, ho, hV]
      exact run_v (hrun b (o1 + q))
    · cases hp
  · cases hm
end
end Go.Ax
