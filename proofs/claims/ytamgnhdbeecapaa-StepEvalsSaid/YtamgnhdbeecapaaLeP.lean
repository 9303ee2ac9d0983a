/- Expressions that are tame; what Eval, the program's and the document's, tells of them. By an AI agent. -/
import Derived.Test.YtamgnhdbeecapaaLeW
import Derived.Test.YtamgnhdbeecapaaV17
import Derived.Test.YtamgnhdbeecapaaProg
set_option linter.unusedSimpArgs false
set_option linter.unusedVariables false
set_option maxRecDepth 100000
namespace Go.Ax.TryLe
open Go Go.Ax Go.Ax.V

inductive Te where
  | num (n : Int)
  | var (v : Int)
  | neg (t : Te)
  | bin (k : Int) (a b : Te)
def encT : Te → TV
  | .num n => .a [.i .i64 1, .i .i64 n, .i .i64 0, .l []]
  | .var v => .a [.i .i64 2, .i .i64 0, .i .i64 v, .l []]
  | .neg t => .a [.i .i64 3, .i .i64 0, .i .i64 0, .l [encT t]]
  | .bin k a b => .a [.i .i64 k, .i .i64 0, .i .i64 0, .l [encT a, encT b]]
def Te.ok : Te → Prop
  | .num n => 0 ≤ n ∧ n < 2147483648
  | .var v => v = 0 ∨ v = 1 ∨ v = 2
  | .neg t => t.ok
  | .bin k a b => (k = 4 ∨ k = 5 ∨ k = 6 ∨ k = 7 ∨ k = 8) ∧ a.ok ∧ b.ok
theorem enc_a (t : Te) : ∃ a b c d, encT t = .a [a, b, c, d] := by cases t <;> exact ⟨_, _, _, _, rfl⟩
theorem enc_sz (t : Te) : szOk 4 (encT t) := by cases t <;> exact rfl
theorem enc_sub (t : Te) : subT (encT t) 0 4 = some (encT t) := by cases t <;> rfl
theorem enc_tp (t : Te) : TV.isTp (encT t) = false := by cases t <;> rfl
theorem sc_a {r : TV} {l : List TV} (h : r = .a l) : scOk true r := by subst h; trivial
theorem enc_sc (t : Te) : scOk true (encT t) := by cases t <;> trivial

/-! ### The types -/
noncomputable abbrev PP : Program := Go.Proofs.Try.prog
theorem r92 : rowOf PP 92 = some (.st [3, 3, 3, 90]) := by kernel_rfl
theorem r90 : rowOf PP 90 = some (.sl 92) := by kernel_rfl
theorem r3 : rowOf PP 3 = some (.int .i64) := by kernel_rfl
theorem ty_int {n : Nat} {ts : List TV} (h : TyT PP n 3 ts) : ∃ m, ts = [.i .i64 m] ∧ (Lit.int .i64 m).wf = true := by
  cases n with
  | zero => cases h
  | succ n => unfold TyT at h; rw [r3] at h; exact h
theorem ty_expr {n : Nat} {ts : List TV} (h : TyT PP n 92 ts) : ∃ (m : Nat) (k nm v : Int) (kids : List TV), ts = [.i .i64 k, .i .i64 nm, .i .i64 v, .l kids] ∧
    (∀ (j : Nat) (x : TV), kids[j]? = some x → ∃ us, x = .a us ∧ us.length = 4 ∧ TyT PP m 92 us) := by
  cases n with
  | zero => cases h
  | succ n =>
    unfold TyT at h
    rw [r92] at h
    obtain ⟨u0, w0, rfl, h0, u1, w1, rfl, h1, u2, w2, rfl, h2, u3, w3, rfl, h3, rfl⟩ := h
    obtain ⟨k, rfl, _⟩ := ty_int h0
    obtain ⟨nm, rfl, _⟩ := ty_int h1
    obtain ⟨v, rfl, _⟩ := ty_int h2
    cases n with
    | zero => cases h3
    | succ n =>
      unfold TyT at h3
      rw [r90] at h3
      obtain ⟨kids, rfl, _, hk⟩ := h3
      refine ⟨n, k, nm, v, kids, rfl, fun j x hx => ?_⟩
      obtain ⟨us, rfl, hu⟩ := hk j x hx
      refine ⟨us, by rw [r92]; rfl, ?_, hu⟩
      cases n with
      | zero => cases hu
      | succ n =>
        unfold TyT at hu
        rw [r92] at hu
        obtain ⟨u0, w0, rfl, h0, u1, w1, rfl, h1, u2, w2, rfl, h2, u3, w3, rfl, h3, rfl⟩ := hu
        obtain ⟨_, rfl, _⟩ := ty_int h0
        obtain ⟨_, rfl, _⟩ := ty_int h1
        obtain ⟨_, rfl, _⟩ := ty_int h2
        cases n with
        | zero => cases h3
        | succ n =>
          unfold TyT at h3
          rw [r90] at h3
          obtain ⟨_, rfl, _⟩ := h3
          rfl
/-- a rest by m, of what was made a number without a sign -/
theorem rest {n m : Int} (hm : 0 < m) (hm2 : m < 9223372036854775808) : ∃ w, 0 ≤ w ∧ w < m ∧ binT .rem (.i .u64 (wrapA .u64 n)) (.i .u64 m) = some (.i .u64 w) ∧ wrapA .i64 w = w := by
  refine ⟨(wrapA .u64 n).tmod m, ?_, ?_, rem_k (by omega), wrap_id ?_ ?_⟩
  all_goals
    have h1 := wf_wrap .u64 n
    rw [← wrapA_eq] at h1
    have h2 := bounds_u64 h1
    have h3 := Int.tmod_nonneg m h2.1
    have h4 := Int.tmod_lt_of_pos (wrapA .u64 n) hm
    omega

theorem len_i {l : List TV} : lenT (.l l) = some (.i .i64 l.length) := rfl
theorem len_two {α : Type} {l : List α} (h : l.length = 2) : ∃ a b, l = [a, b] := by
  match l, h with
  | [a, b], _ => exact ⟨a, b, rfl⟩
theorem len_one {α : Type} {l : List α} (h : l.length = 1) : ∃ a, l = [a] := by
  match l, h with
  | [a], _ => exact ⟨a, rfl⟩
theorem sub4 {us : List TV} (h : us.length = 4) : subT (.a us) 0 4 = some (.a us) := by
  match us, h with
  | [a, b, c, d], _ => rfl

theorem dec_i {d : Nat} (h : d ≤ 8) : binT .sub (.i .i64 ((d + 1 : Nat) : Int)) (.i .i64 1) = some (.i .i64 (d : Int)) := by
  have := sub_i (a := ((d + 1 : Nat) : Int)) (b := 1) (by omega) (by omega)
  rw [this]
  congr 2
  omega

/-- a tame expression -/
theorem s34 : ∀ (d : Nat), d ≤ 8 → ∀ (n : Nat) (us : List TV), TyT PP n 92 us → VS prog 34 [.a us, .i .i64 d] (fun r => ∃ t : Te, t.ok ∧ r = encT t) := by
  intro d
  induction d with
  | zero =>
    intro _ n us hu
    obtain ⟨m, k, nm, v, kids, rfl, hk⟩ := ty_expr hu
    refine vs34 _ _ _ ?_
    unfold W34
    refine ⟨rfl, _, rfl, _, rfl, rfl, ?_⟩
    refine gB (.i .i64 k) (fun _ => rfl) (gB (.b (!ltA 8 k)) (fun h => by rw [h]; rfl) (pkB ⟨rfl, ?_⟩))
    refine gB (.l kids) (fun _ => rfl) (gB (.i .i64 kids.length) (fun h => by rw [h]; rfl) (gB (.b (eqA kids.length 2)) (fun h => by rw [h]; rfl) (pkB ?_)))
    refine gB (.i .i64 0) (fun _ => rfl) (gB (.b false) (fun h => by rw [h]; rfl) (pkB (condK_f (by rw [Bool.and_false]) ?_)))
    refine ⟨_, rfl, _, rfl, rfl, ?_⟩
    refine gB (.l kids) (fun _ => rfl) (gB (.i .i64 kids.length) (fun h => by rw [h]; rfl) (gB (.b (eqA kids.length 1)) (fun h => by rw [h]; rfl) (pkB ?_)))
    refine gB (.i .i64 0) (fun _ => rfl) (gB (.b false) (fun h => by rw [h]; rfl) (pkB (condK_f (by rw [Bool.and_false]) ?_)))
    refine ⟨_, rfl, _, rfl, condK_by (fun h2 => ?_) (fun h2 => ?_)⟩
    · obtain ⟨w, w0, w1, hw, hc⟩ := rest (n := v) (m := 3) (by omega) (by omega)
      refine ⟨_, rfl, _, rfl, _, hw, _, rfl, _, rfl, _, rfl, _, rfl, trivial, _, rfl, _, rfl, trivial, .var w, ?_, ?_⟩
      · unfold Te.ok; omega
      · rw [hc]; rfl
    · obtain ⟨w, w0, w1, hw, hc⟩ := rest (n := nm) (m := 2147483648) (by omega) (by omega)
      refine ⟨_, rfl, _, rfl, _, hw, _, rfl, _, rfl, _, rfl, _, rfl, trivial, _, rfl, _, rfl, trivial, .num w, ⟨w0, w1⟩, ?_⟩
      rw [hc]; rfl
  | succ d ih =>
    intro hd n us hu
    obtain ⟨m, k, nm, v, kids, rfl, hk⟩ := ty_expr hu
    refine vs34 _ _ _ ?_
    unfold W34
    refine ⟨rfl, _, rfl, _, rfl, rfl, ?_⟩
    refine gB (.i .i64 k) (fun _ => rfl) (gB (.b (!ltA 8 k)) (fun h => by rw [h]; rfl) (pkB ⟨rfl, ?_⟩))
    refine gB (.l kids) (fun _ => rfl) (gB (.i .i64 kids.length) (fun h => by rw [h]; rfl) (gB (.b (eqA kids.length 2)) (fun h => by rw [h]; rfl) (pkB ?_)))
    refine gB (.i .i64 ((d + 1 : Nat) : Int)) (fun _ => rfl) (gB (.b (ltA 0 ((d + 1 : Nat) : Int))) (fun h => by rw [h]; rfl) (pkB (condK_by (fun ht => ?_) (fun hf => ?_))))
    · simp only [Bool.and_eq_true, Bool.not_eq_true', ltA_eq, eqA_eq, decide_eq_true_eq, decide_eq_false_iff_not] at ht
      obtain ⟨⟨⟨h1, h2⟩, h3⟩, _⟩ := ht
      obtain ⟨x, y, rfl⟩ := len_two (l := kids) (by omega)
      obtain ⟨ux, rfl, lx, tx⟩ := hk 0 x rfl
      obtain ⟨uy, rfl, ly, ty⟩ := hk 1 y rfl
      refine ⟨_, rfl, _, rfl, _, ⟨rfl, lx⟩, _, sub4 lx, _, dec_i (by omega), vs_ex (ih (by omega) _ _ tx) (fun r hr => ?_)⟩
      obtain ⟨t1, ok1, rfl⟩ := hr
      refine ⟨enc_sc t1, _, rfl, _, ⟨rfl, ly⟩, _, sub4 ly, _, dec_i (by omega), vs_ex (ih (by omega) _ _ ty) (fun r hr => ?_)⟩
      obtain ⟨t2, ok2, rfl⟩ := hr
      refine ⟨enc_sc t2, rfl, enc_sz t1, rfl, enc_sz t2, _, rfl, _, rfl, _, rfl, trivial, _, rfl, trivial, .bin k t1 t2, ⟨by omega, ok1, ok2⟩, rfl⟩
    · refine ⟨_, rfl, _, rfl, rfl, ?_⟩
      refine gB (.l kids) (fun _ => rfl) (gB (.i .i64 kids.length) (fun h => by rw [h]; rfl) (gB (.b (eqA kids.length 1)) (fun h => by rw [h]; rfl) (pkB ?_)))
      refine gB (.i .i64 ((d + 1 : Nat) : Int)) (fun _ => rfl) (gB (.b (ltA 0 ((d + 1 : Nat) : Int))) (fun h => by rw [h]; rfl) (pkB (condK_by (fun ht => ?_) (fun hf => ?_))))
      · simp only [Bool.and_eq_true, Bool.not_eq_true', ltA_eq, eqA_eq, decide_eq_true_eq, decide_eq_false_iff_not] at ht
        obtain ⟨⟨h1, h3⟩, _⟩ := ht
        obtain ⟨x, rfl⟩ := len_one (l := kids) (by omega)
        obtain ⟨ux, rfl, lx, tx⟩ := hk 0 x rfl
        refine ⟨_, rfl, _, ⟨rfl, lx⟩, _, sub4 lx, _, dec_i (by omega), vs_ex (ih (by omega) _ _ tx) (fun r hr => ?_)⟩
        obtain ⟨t1, ok1, rfl⟩ := hr
        refine ⟨enc_sc t1, rfl, enc_sz t1, _, rfl, _, rfl, _, rfl, trivial, _, rfl, trivial, .neg t1, ok1, rfl⟩
      · refine ⟨_, rfl, _, rfl, condK_by (fun h2 => ?_) (fun h2 => ?_)⟩
        · obtain ⟨w, w0, w1, hw, hc⟩ := rest (n := v) (m := 3) (by omega) (by omega)
          refine ⟨_, rfl, _, rfl, _, hw, _, rfl, _, rfl, _, rfl, _, rfl, trivial, _, rfl, _, rfl, trivial, .var w, ?_, ?_⟩
          · unfold Te.ok; omega
          · rw [hc]; rfl
        · obtain ⟨w, w0, w1, hw, hc⟩ := rest (n := nm) (m := 2147483648) (by omega) (by omega)
          refine ⟨_, rfl, _, rfl, _, hw, _, rfl, _, rfl, _, rfl, _, rfl, trivial, _, rfl, _, rfl, trivial, .num w, ⟨w0, w1⟩, ?_⟩
          rw [hc]; rfl
end Go.Ax.TryLe

/- What Eval and Holds, the program's and the document's, tell of tame expressions. By an AI agent. -/
set_option linter.unusedSimpArgs false
set_option linter.unusedVariables false
set_option maxRecDepth 100000
namespace Go.Ax.TryLe
open Go Go.Ax Go.Ax.V

theorem s36g (k nm v : Int) (K : List TV) (hl : K.length ≤ 1048576) (hK : ∀ (j : Nat) (x : TV), K[j]? = some x → szOk 4 x ∧ subT x 0 4 = some x ∧ VS prog 36 [x] (fun r => r = x)) :
    VS prog 36 [.a [.i .i64 k, .i .i64 nm, .i .i64 v, .l K]] (fun r => r = .a [.i .i64 k, .i .i64 nm, .i .i64 v, .l K]) := by
  refine vs36 _ _ ?_
  unfold W36
  refine ⟨rfl, _, rfl, _, rfl, _, rfl, _, rfl, _, rfl, _, rfl, _, rfl,
    fun n o11 o12 l13 o14 l15 x16 => ∃ i : Nat, i ≤ K.length ∧ n = K.length - i ∧ o11 = .a [.i .i64 k, .i .i64 nm, .i .i64 v, .l K] ∧ o12 = .a [.i .i64 0, .i .i64 0, .i .i64 0, .l []] ∧ l13 = [] ∧
      o14 = .a [.i .i64 k, .i .i64 nm, .i .i64 v, .l []] ∧ l15 = K.take i ∧ x16 = .i .i64 i,
    ⟨_, 0, by simp, rfl, rfl, rfl, rfl, rfl, by simp, rfl⟩, ?_⟩
  rintro n o11 o12 l13 o14 l15 x16 ⟨i, hi, rfl, rfl, rfl, rfl, rfl, rfl, rfl⟩
  refine ⟨_, rfl, _, rfl, _, rfl, condK_by (fun h => ?_) (fun h => ?_)⟩
  · have hi : i < K.length := by simpa [ltA_eq] using h
    obtain ⟨x, hx⟩ : ∃ x, K[i]? = some x := ⟨_, List.getElem?_eq_getElem hi⟩
    obtain ⟨x1, x2, x3⟩ := hK i x hx
    have hb : ((K.take i).length + [x].length) * 48 ≤ most := by
      simp only [List.length_take, List.length_singleton, most]; omega
    refine ⟨_, rfl, _, ⟨idx_i hx, x1⟩, _, x2, vs_eq x3 ⟨rfl, x1, _, rfl, x1, _, app_i hb (by omega), _, rfl, _, add_i (by omega) (by omega), K.length - (i + 1), by omega, i + 1, by omega, rfl, rfl, rfl, rfl, rfl, take_snoc hx, ?_⟩⟩
    congr 1
  · have hi : ¬ i < K.length := by simpa [ltA_eq] using h
    refine ⟨_, rfl, _, rfl, trivial, _, rfl, _, rfl, trivial, ?_⟩
    rw [List.take_of_length_le (by omega)]
theorem s36 : ∀ t : Te, VS prog 36 [encT t] (fun r => r = encT t)
  | .num n => s36g _ _ _ [] (by simp) (by simp)
  | .var v => s36g _ _ _ [] (by simp) (by simp)
  | .neg t => s36g _ _ _ [encT t] (by simp) (fun j x hx => by
      cases j with
      | zero => simp at hx; subst hx; exact ⟨enc_sz t, enc_sub t, s36 t⟩
      | succ j => simp at hx)
  | .bin k a b => s36g _ _ _ [encT a, encT b] (by simp) (fun j x hx => by
      cases j with
      | zero => simp at hx; subst hx; exact ⟨enc_sz a, enc_sub a, s36 a⟩
      | succ j =>
        cases j with
        | zero => simp at hx; subst hx; exact ⟨enc_sz b, enc_sub b, s36 b⟩
        | succ j => simp at hx)

/-! ### What is told -/
def small (n : Int) : Prop := -2147483648 ≤ n ∧ n ≤ 2147483647
def lim (n : Int) : Int × Int := if n < -2147483648 ∨ n > 2147483647 then (0, 2) else (n, 0)
def two (k a b : Int) : Int × Int := if k = 4 then (a + b, 0) else if k = 5 then (a - b, 0) else if k = 6 then (a * b, 0) else if b = 0 then (0, 3) else if k = 7 then (a.tdiv b, 0) else (a.tmod b, 0)
def tpr (p : Int × Int) : TV := .tp [.i .i64 p.1, .i .i64 p.2]
def fin (p : Int × Int) : Int × Int := if p.2 ≠ 0 then (0, p.2) else lim p.1
def vget (x y z v : Int) : Int := if v = 0 then x else if v = 1 then y else z
def ev (x y z : Int) : Te → Int × Int
  | .num n => (n, 0)
  | .var v => (vget x y z v, 0)
  | .neg t => fin (0 - (ev x y z t).1, (ev x y z t).2)
  | .bin k a b => if (ev x y z a).2 ≠ 0 then (0, (ev x y z a).2) else if (ev x y z b).2 ≠ 0 then (0, (ev x y z b).2) else fin (two k (ev x y z a).1 (ev x y z b).1)
def varsE (x y z : Int) : TV := .l [.i .i64 x, .i .i64 y, .i .i64 z]
theorem lim_small (n : Int) : small (lim n).1 := by
  unfold lim small; split <;> simp <;> omega
theorem fin_small (p : Int × Int) : small (fin p).1 := by
  unfold fin; split
  · unfold small; simp
  · exact lim_small _
theorem ev_small {x y z : Int} (hx : small x) (hy : small y) (hz : small z) : ∀ {t : Te}, t.ok → small (ev x y z t).1
  | .num n, h => by unfold ev small; unfold Te.ok at h; simp; omega
  | .var v, h => by unfold ev vget; simp only; split; exact hx; split; exact hy; exact hz
  | .neg t, h => by unfold ev; exact fin_small _
  | .bin k a b, h => by
    unfold ev
    split
    · unfold small; simp
    · split
      · unfold small; simp
      · exact fin_small _
theorem mul_small {a b : Int} (ha : small a) (hb : small b) : -4611686018427387904 ≤ a * b ∧ a * b ≤ 4611686018427387904 := by
  unfold small at *
  have h1 : a.natAbs ≤ 2147483648 := by omega
  have h2 : b.natAbs ≤ 2147483648 := by omega
  have h3 : a.natAbs * b.natAbs ≤ 2147483648 * 2147483648 := Nat.mul_le_mul h1 h2
  have h4 : (a * b).natAbs = a.natAbs * b.natAbs := Int.natAbs_mul a b
  omega
theorem tdiv_small {a b : Int} (ha : small a) : -2147483648 ≤ a.tdiv b ∧ a.tdiv b ≤ 2147483648 := by
  unfold small at *
  have h1 : (a.tdiv b).natAbs = a.natAbs / b.natAbs := Int.natAbs_tdiv a b
  have h2 : a.natAbs / b.natAbs ≤ a.natAbs := Nat.div_le_self _ _
  omega
theorem s103 (k a b : Int) (hk : k = 4 ∨ k = 5 ∨ k = 6 ∨ k = 7 ∨ k = 8) (ha : small a) (hb : small b) : VS prog 103 [.i .i64 k, .i .i64 a, .i .i64 b] (fun r => r = tpr (two k a b)) := by
  refine vs103 _ _ _ _ ?_
  unfold W103
  have hm := mul_small ha hb
  have hd := tdiv_small (b := b) ha
  have ha' := ha
  have hb' := hb
  unfold small at ha' hb'
  rcases hk with rfl | rfl | rfl | rfl | rfl
  · exact ⟨_, rfl, condK_t rfl ⟨_, add_i (by omega) (by omega), trivial, tup2 rfl rfl, rfl⟩⟩
  · exact ⟨_, rfl, condK_f rfl ⟨_, rfl, condK_t rfl ⟨_, sub_i (by omega) (by omega), trivial, tup2 rfl rfl, rfl⟩⟩⟩
  · exact ⟨_, rfl, condK_f rfl ⟨_, rfl, condK_f rfl ⟨_, rfl, condK_t rfl ⟨_, mul_i (by omega) (by omega), trivial, tup2 rfl rfl, rfl⟩⟩⟩⟩
  · refine ⟨_, rfl, condK_f rfl ⟨_, rfl, condK_f rfl ⟨_, rfl, condK_f rfl ⟨_, rfl, ?_⟩⟩⟩⟩
    by_cases h0 : b = 0
    · exact condK_t (eq_t h0) ⟨trivial, tup2 rfl rfl, by simp [two, h0]; rfl⟩
    · exact condK_f (eq_f h0) ⟨_, rfl, condK_t rfl ⟨_, quo_i h0 (by omega) (by omega), trivial, tup2 rfl rfl, by simp [two, h0]; rfl⟩⟩
  · refine ⟨_, rfl, condK_f rfl ⟨_, rfl, condK_f rfl ⟨_, rfl, condK_f rfl ⟨_, rfl, ?_⟩⟩⟩⟩
    by_cases h0 : b = 0
    · exact condK_t (eq_t h0) ⟨trivial, tup2 rfl rfl, by simp [two, h0]; rfl⟩
    · exact condK_f (eq_f h0) ⟨_, rfl, condK_f rfl ⟨_, rem_k h0, trivial, tup2 rfl rfl, by simp [two, h0]; rfl⟩⟩
/-- a number that is in bounds, or an error -/
theorem rng {n : Int} {Q : TV → Prop} (h : Q (tpr (lim n))) : ∃ v1 : TV, binT .lss (.i .i64 n) (.i .i64 (-2147483648)) = some v1 ∧ ∃ v2 : TV, gV v1 false (fun r => some (TV.i .i64 n) = some r) v2 ∧
    ∃ v3 : TV, gV v1 false (fun r => binT .gtr v2 (.i .i64 2147483647) = some r) v3 ∧ ∃ v4 : TV, pickT v1 (.b true) v3 = some v4 ∧
    condK v4 (True ∧ tupOk [(TV.i .i64 0), (TV.i .i64 2)] ∧ Q (TV.tp [(TV.i .i64 0), (TV.i .i64 2)])) (True ∧ tupOk [(TV.i .i64 n), (TV.i .i64 0)] ∧ Q (TV.tp [(TV.i .i64 n), (TV.i .i64 0)])) := by
  refine ⟨_, rfl, gO (.i .i64 n) (fun _ => rfl) (gO (.b (ltA 2147483647 n)) (fun h => by rw [h]; rfl) (pkO (condK_by (fun ht => ?_) (fun hf => ?_))))⟩
  · simp only [Bool.or_eq_true, ltA_eq, decide_eq_true_eq] at ht
    have : lim n = (0, 2) := by unfold lim; rw [if_pos (by omega)]
    rw [this] at h
    exact ⟨trivial, tup2 rfl rfl, h⟩
  · simp only [Bool.or_eq_false_iff, ltA_eq, decide_eq_false_iff_not] at hf
    have : lim n = (n, 0) := by unfold lim; rw [if_neg (by omega)]
    rw [this] at h
    exact ⟨trivial, tup2 rfl rfl, h⟩
theorem s35f {e vs e' : TV} (p : Int × Int) (ht : e.isTp = false) (hs : subT e 0 4 = some e') (h : VS prog 58 [e', vs] (fun r => r = tpr p)) : VS prog 35 [e, vs] (fun r => r = tpr (fin p)) := by
  refine vs35 _ _ _ ?_
  unfold W35
  refine ⟨ht, _, hs, vs_eq h ⟨_, rfl, _, rfl, _, rfl, ?_⟩⟩
  by_cases hx : p.2 = 0
  · refine condK_f (by rw [eq_t hx]; rfl) ?_
    refine rng (n := p.1) (Q := fun r => r = tpr (fin p)) ?_
    show tpr (lim p.1) = tpr (fin p)
    unfold fin
    rw [if_neg (by simpa using hx)]
  · refine condK_t (by rw [eq_f hx]; rfl) ⟨trivial, tup2 rfl rfl, ?_⟩
    unfold fin
    rw [if_pos hx]; rfl

theorem ev_bin (x y z k : Int) (a b : Te) : ev x y z (.bin k a b) = if (ev x y z a).2 ≠ 0 then (0, (ev x y z a).2) else if (ev x y z b).2 ≠ 0 then (0, (ev x y z b).2) else fin (two k (ev x y z a).1 (ev x y z b).1) := rfl

/-! ### Eval, the program's -/
section
variable {x y z : Int} (hx : small x) (hy : small y) (hz : small z)
include hx hy hz
theorem s35 : ∀ t : Te, t.ok → VS prog 35 [encT t, varsE x y z] (fun r => r = tpr (ev x y z t))
  | .num n, h => by
    have e : ev x y z (.num n) = fin (n, 0) := by
      unfold ev fin lim; unfold Te.ok at h; simp; omega
    rw [e]
    refine s35f (n, 0) rfl rfl (vs58 _ _ _ ?_)
    unfold W58
    exact ⟨rfl, _, rfl, _, rfl, condK_t rfl ⟨_, rfl, trivial, tup2 rfl rfl, rfl⟩⟩
  | .var v, h => by
    have e : ev x y z (.var v) = fin (vget x y z v, 0) := by
      have := ev_small hx hy hz (t := .var v) h
      unfold ev at this ⊢; unfold fin lim; unfold small at this; simp at this ⊢; omega
    rw [e]
    refine s35f (vget x y z v, 0) rfl rfl (vs58 _ _ _ ?_)
    unfold W58
    have hv : v = 0 ∨ v = 1 ∨ v = 2 := h
    rcases hv with rfl | rfl | rfl <;>
    · refine ⟨rfl, _, rfl, _, rfl, condK_f rfl ⟨_, rfl, _, rfl, rfl, _, rfl, _, rfl, _, rfl, rfl, _, rfl, _, rfl, _, rfl, _, rfl, _, rfl, condK_t rfl ⟨_, rfl, _, ⟨rfl, rfl⟩, _, rfl, ⟨trivial, tup2 rfl rfl, rfl⟩⟩⟩⟩
  | .neg t, h => by
    have ih := s35 t h
    have hs := ev_small hx hy hz (t := t) h
    unfold ev
    refine s35f _ rfl rfl (vs58 _ _ _ ?_)
    unfold W58
    refine ⟨rfl, _, rfl, _, rfl, condK_f rfl ⟨_, rfl, _, rfl, rfl, _, rfl, _, rfl, _, rfl, rfl, _, rfl, _, rfl, _, rfl, _, rfl, _, rfl, condK_f rfl ⟨_, rfl, _, rfl, rfl, _, rfl, _, rfl, _, rfl, _, rfl, condK_t rfl ⟨_, rfl, _, ⟨rfl, enc_sz t⟩, _, enc_sub t, vs_eq ih ⟨_, rfl, _, rfl, _, rfl, trivial, tup2 rfl rfl, ?_⟩⟩⟩⟩⟩
    show TV.tp [.i .i64 (wrapA .i64 (0 - (ev x y z t).1)), .i .i64 (ev x y z t).2] = tpr (0 - (ev x y z t).1, (ev x y z t).2)
    unfold small at hs
    rw [wrap_id (by omega) (by omega)]; rfl
  | .bin k a b, h => by
    obtain ⟨hk, oa, ob⟩ := h
    have iha := s35 a oa
    have ihb := s35 b ob
    have sa := ev_small hx hy hz (t := a) oa
    have sb := ev_small hx hy hz (t := b) ob
    have h80 : VS prog 80 [encT (.bin k a b), varsE x y z] (fun r => r = tpr (if (ev x y z a).2 ≠ 0 then (0, (ev x y z a).2) else if (ev x y z b).2 ≠ 0 then (0, (ev x y z b).2) else two k (ev x y z a).1 (ev x y z b).1)) := by
      refine vs80 _ _ _ ?_
      unfold W80
      refine ⟨rfl, _, rfl, _, ⟨rfl, enc_sz a⟩, _, enc_sub a, vs_eq iha ⟨_, rfl, _, rfl, _, rfl, ?_⟩⟩
      by_cases h1 : (ev x y z a).2 = 0
      · refine condK_f (by rw [eq_t h1]; rfl) ⟨_, rfl, _, ⟨rfl, enc_sz b⟩, _, enc_sub b, vs_eq ihb ⟨_, rfl, _, rfl, _, rfl, ?_⟩⟩
        rw [if_neg (by simpa using h1)]
        by_cases h2 : (ev x y z b).2 = 0
        · rw [if_neg (by simpa using h2)]
          exact condK_f (by rw [eq_t h2]; rfl) ⟨_, rfl, vs_eq (s103 k _ _ hk sa sb) ⟨_, rfl, _, rfl, trivial, tup2 rfl rfl, rfl⟩⟩
        · rw [if_pos h2]
          exact condK_t (by rw [eq_f h2]; rfl) ⟨trivial, tup2 rfl rfl, rfl⟩
      · rw [if_pos h1]
        exact condK_t (by rw [eq_f h1]; rfl) ⟨trivial, tup2 rfl rfl, rfl⟩
    have e : ev x y z (.bin k a b) = fin (if (ev x y z a).2 ≠ 0 then (0, (ev x y z a).2) else if (ev x y z b).2 ≠ 0 then (0, (ev x y z b).2) else two k (ev x y z a).1 (ev x y z b).1) := by
      rw [ev_bin]
      by_cases h1 : (ev x y z a).2 = 0
      · by_cases h2 : (ev x y z b).2 = 0
        · rw [if_neg (by simpa using h1), if_neg (by simpa using h2), if_neg (by simpa using h1), if_neg (by simpa using h2)]
        · rw [if_neg (by simpa using h1), if_pos h2, if_neg (by simpa using h1), if_pos h2]; unfold fin; rw [if_pos h2]
      · rw [if_pos h1, if_pos h1]; unfold fin; rw [if_pos h1]
    rw [e]
    refine s35f _ rfl rfl (vs58 _ _ _ ?_)
    unfold W58
    clear e iha ihb
    rcases hk with rfl | rfl | rfl | rfl | rfl <;>
    · refine ⟨rfl, _, rfl, _, rfl, condK_f rfl ⟨_, rfl, _, rfl, rfl, _, rfl, _, rfl, _, rfl, rfl, _, rfl, _, rfl, _, rfl, _, rfl, _, rfl, condK_f rfl ⟨_, rfl, _, rfl, rfl, _, rfl, _, rfl, _, rfl, _, rfl, condK_f rfl ⟨_, rfl, _, rfl, rfl, _, rfl, _, rfl, _, rfl, rfl, _, rfl, _, rfl, _, rfl, _, rfl, condK_t rfl ⟨_, rfl, vs_eq h80 ⟨_, rfl, _, rfl, trivial, tup2 rfl rfl, rfl⟩⟩⟩⟩⟩⟩
end
end Go.Ax.TryLe

/- What the document's Eval and both Holds tell; the law. By an AI agent. -/
set_option linter.unusedSimpArgs false
set_option linter.unusedVariables false
set_option maxRecDepth 100000
namespace Go.Ax.TryLe
open Go Go.Ax Go.Ax.V

section
variable {x y z : Int} (hx : small x) (hy : small y) (hz : small z)
include hx hy hz
theorem s37 : ∀ t : Te, t.ok → VS prog 37 [encT t, varsE x y z] (fun r => r = tpr (ev x y z t))
  | .num m, h => by
    have e : ev x y z (.num m) = lim m := by
      unfold ev lim; unfold Te.ok at h; simp; omega
    rw [e]
    refine vs37 _ _ _ ?_
    unfold W37
    refine ⟨rfl, fun n o4 o5 x6 x7 x8 x9 => o4 = encT (.num m) ∧ x6 = varsE x y z ∧ x9 = .i .i64 0, ⟨0, rfl, rfl, rfl⟩, ?_⟩
    rintro n o4 o5 x6 x7 x8 x9 ⟨rfl, rfl, rfl⟩
    exact ⟨_, rfl, _, rfl, _, rfl, _, rfl, _, rfl, _, rfl, condK_f rfl ⟨_, rfl, _, rfl, condK_t rfl ⟨_, rfl, rng (n := m) (Q := fun r => r = tpr (lim m)) rfl⟩⟩⟩
  | .var v, h => by
    have e : ev x y z (.var v) = lim (vget x y z v) := by
      have := ev_small hx hy hz (t := .var v) h
      unfold ev at this ⊢; unfold lim; unfold small at this; simp at this ⊢; omega
    rw [e]
    refine vs37 _ _ _ ?_
    unfold W37
    refine ⟨rfl, fun n o4 o5 x6 x7 x8 x9 => o4 = encT (.var v) ∧ x6 = varsE x y z ∧ x9 = .i .i64 0, ⟨0, rfl, rfl, rfl⟩, ?_⟩
    rintro n o4 o5 x6 x7 x8 x9 ⟨rfl, rfl, rfl⟩
    have hv : v = 0 ∨ v = 1 ∨ v = 2 := h
    rcases hv with rfl | rfl | rfl
    · exact ⟨_, rfl, _, rfl, _, rfl, _, rfl, _, rfl, _, rfl, condK_f rfl ⟨_, rfl, _, rfl, condK_f rfl ⟨_, rfl, condK_t rfl ⟨_, rfl, _, rfl, rfl, _, rfl, _, rfl, _, rfl, _, rfl, _, rfl, condK_t rfl ⟨_, rfl, _, ⟨rfl, rfl⟩, _, rfl, rng (n := x) (Q := fun r => r = tpr (lim x)) rfl⟩⟩⟩⟩⟩
    · exact ⟨_, rfl, _, rfl, _, rfl, _, rfl, _, rfl, _, rfl, condK_f rfl ⟨_, rfl, _, rfl, condK_f rfl ⟨_, rfl, condK_t rfl ⟨_, rfl, _, rfl, rfl, _, rfl, _, rfl, _, rfl, _, rfl, _, rfl, condK_t rfl ⟨_, rfl, _, ⟨rfl, rfl⟩, _, rfl, rng (n := y) (Q := fun r => r = tpr (lim y)) rfl⟩⟩⟩⟩⟩
    · exact ⟨_, rfl, _, rfl, _, rfl, _, rfl, _, rfl, _, rfl, condK_f rfl ⟨_, rfl, _, rfl, condK_f rfl ⟨_, rfl, condK_t rfl ⟨_, rfl, _, rfl, rfl, _, rfl, _, rfl, _, rfl, _, rfl, _, rfl, condK_t rfl ⟨_, rfl, _, ⟨rfl, rfl⟩, _, rfl, rng (n := z) (Q := fun r => r = tpr (lim z)) rfl⟩⟩⟩⟩⟩
  | .neg t, h => by
    have ih := s37 t h
    have hs := ev_small hx hy hz (t := t) h
    refine vs37 _ _ _ ?_
    unfold W37
    refine ⟨rfl, fun n o4 o5 x6 x7 x8 x9 => o4 = encT (.neg t) ∧ x6 = varsE x y z ∧ ((n = 1 ∧ o5 = .a [.i .i64 0, .i .i64 0] ∧ x9 = .i .i64 0) ∨ (o5 = .a [.i .i64 (ev x y z t).1, .i .i64 0] ∧ x9 = .i .i64 1 ∧ (ev x y z t).2 = 0)),
      ⟨1, rfl, rfl, .inl ⟨rfl, rfl, rfl⟩⟩, ?_⟩
    rintro n o4 o5 x6 x7 x8 x9 ⟨rfl, rfl, ⟨rfl, rfl, rfl⟩ | ⟨rfl, rfl, h0⟩⟩
    · refine ⟨_, rfl, _, rfl, _, rfl, _, rfl, _, rfl, _, rfl, condK_t rfl ⟨_, rfl, _, ⟨rfl, enc_sz t⟩, _, enc_sub t, vs_eq ih ⟨_, rfl, _, rfl, _, rfl, ?_⟩⟩⟩
      by_cases h1 : (ev x y z t).2 = 0
      · exact condK_f (by rw [eq_t h1]; rfl) ⟨_, rfl, _, rfl, _, rfl, 0, by omega, rfl, rfl, .inr ⟨rfl, rfl, h1⟩⟩
      · refine condK_t (by rw [eq_f h1]; rfl) ⟨trivial, tup2 rfl rfl, ?_⟩
        show _ = tpr (fin (0 - (ev x y z t).1, (ev x y z t).2))
        unfold fin; rw [if_pos h1]; rfl
    · have e : ev x y z (.neg t) = lim (0 - (ev x y z t).1) := by
        show fin (0 - (ev x y z t).1, (ev x y z t).2) = _
        unfold fin; rw [if_neg (by simpa using h0)]
      rw [e]
      unfold small at hs
      exact ⟨_, rfl, _, rfl, _, rfl, _, rfl, _, rfl, _, rfl, condK_f rfl ⟨_, rfl, _, rfl, condK_f rfl ⟨_, rfl, condK_f rfl ⟨_, rfl, condK_t rfl ⟨_, rfl, _, rfl, _, sub_i (a := 0) (b := (ev x y z t).1) (by omega) (by omega), rng (n := 0 - (ev x y z t).1) (Q := fun r => r = tpr (lim (0 - (ev x y z t).1))) rfl⟩⟩⟩⟩⟩
  | .bin k a b, h => by
    obtain ⟨hk, oa, ob⟩ := h
    have iha := s37 a oa
    have ihb := s37 b ob
    have sa := ev_small hx hy hz (t := a) oa
    have sb := ev_small hx hy hz (t := b) ob
    refine vs37 _ _ _ ?_
    unfold W37
    refine ⟨rfl, fun n o4 o5 x6 x7 x8 x9 => o4 = encT (.bin k a b) ∧ x6 = varsE x y z ∧ ((n = 2 ∧ o5 = .a [.i .i64 0, .i .i64 0] ∧ x9 = .i .i64 0) ∨ (n = 1 ∧ o5 = .a [.i .i64 (ev x y z a).1, .i .i64 0] ∧ x9 = .i .i64 1 ∧ (ev x y z a).2 = 0) ∨
      (o5 = .a [.i .i64 (ev x y z a).1, .i .i64 (ev x y z b).1] ∧ x9 = .i .i64 2 ∧ (ev x y z a).2 = 0 ∧ (ev x y z b).2 = 0)), ⟨2, rfl, rfl, .inl ⟨rfl, rfl, rfl⟩⟩, ?_⟩
    rintro n o4 o5 x6 x7 x8 x9 ⟨rfl, rfl, ⟨rfl, rfl, rfl⟩ | ⟨rfl, rfl, rfl, h1⟩ | ⟨rfl, rfl, h1, h2⟩⟩
    · refine ⟨_, rfl, _, rfl, _, rfl, _, rfl, _, rfl, _, rfl, condK_t rfl ⟨_, rfl, _, ⟨rfl, enc_sz a⟩, _, enc_sub a, vs_eq iha ⟨_, rfl, _, rfl, _, rfl, ?_⟩⟩⟩
      by_cases h1 : (ev x y z a).2 = 0
      · exact condK_f (by rw [eq_t h1]; rfl) ⟨_, rfl, _, rfl, _, rfl, 1, by omega, rfl, rfl, .inr (.inl ⟨rfl, rfl, rfl, h1⟩)⟩
      · refine condK_t (by rw [eq_f h1]; rfl) ⟨trivial, tup2 rfl rfl, ?_⟩
        rw [ev_bin, if_pos h1]; rfl
    · refine ⟨_, rfl, _, rfl, _, rfl, _, rfl, _, rfl, _, rfl, condK_t rfl ⟨_, rfl, _, ⟨rfl, enc_sz b⟩, _, enc_sub b, vs_eq ihb ⟨_, rfl, _, rfl, _, rfl, ?_⟩⟩⟩
      by_cases h2 : (ev x y z b).2 = 0
      · exact condK_f (by rw [eq_t h2]; rfl) ⟨_, rfl, _, rfl, _, rfl, 0, by omega, rfl, rfl, .inr (.inr ⟨rfl, rfl, h1, h2⟩)⟩
      · refine condK_t (by rw [eq_f h2]; rfl) ⟨trivial, tup2 rfl rfl, ?_⟩
        rw [ev_bin, if_neg (by simpa using h1), if_pos h2]; rfl
    · have e : ev x y z (.bin k a b) = fin (two k (ev x y z a).1 (ev x y z b).1) := by
        rw [ev_bin, if_neg (by simpa using h1), if_neg (by simpa using h2)]
      rw [e]
      have hm := mul_small sa sb
      have hd := tdiv_small (b := (ev x y z b).1) sa
      clear iha ihb e
      revert sa sb hm hd
      generalize (ev x y z a).1 = A
      generalize (ev x y z b).1 = B
      intro sa sb hm hd
      unfold small at sa sb
      rcases hk with rfl | rfl | rfl | rfl | rfl
      · exact ⟨_, rfl, _, rfl, _, rfl, _, rfl, _, rfl, _, rfl, condK_f rfl ⟨_, rfl, _, rfl, condK_f rfl ⟨_, rfl, condK_f rfl ⟨_, rfl, condK_f rfl ⟨_, rfl, condK_t rfl ⟨_, rfl, _, rfl, _, rfl, _, rfl, _, add_i (a := A) (b := B) (by omega) (by omega), rng (n := A + B) (Q := fun r => r = tpr (fin (two 4 A B))) rfl⟩⟩⟩⟩⟩⟩
      · exact ⟨_, rfl, _, rfl, _, rfl, _, rfl, _, rfl, _, rfl, condK_f rfl ⟨_, rfl, _, rfl, condK_f rfl ⟨_, rfl, condK_f rfl ⟨_, rfl, condK_f rfl ⟨_, rfl, condK_f rfl ⟨_, rfl, condK_t rfl ⟨_, rfl, _, rfl, _, rfl, _, rfl, _, sub_i (a := A) (b := B) (by omega) (by omega), rng (n := A - B) (Q := fun r => r = tpr (fin (two 5 A B))) rfl⟩⟩⟩⟩⟩⟩⟩
      · exact ⟨_, rfl, _, rfl, _, rfl, _, rfl, _, rfl, _, rfl, condK_f rfl ⟨_, rfl, _, rfl, condK_f rfl ⟨_, rfl, condK_f rfl ⟨_, rfl, condK_f rfl ⟨_, rfl, condK_f rfl ⟨_, rfl, condK_f rfl ⟨_, rfl, condK_t rfl ⟨_, rfl, _, rfl, _, rfl, _, rfl, _, mul_i (a := A) (b := B) (by omega) (by omega), rng (n := A * B) (Q := fun r => r = tpr (fin (two 6 A B))) rfl⟩⟩⟩⟩⟩⟩⟩⟩
      · refine ⟨_, rfl, _, rfl, _, rfl, _, rfl, _, rfl, _, rfl, condK_f rfl ⟨_, rfl, _, rfl, condK_f rfl ⟨_, rfl, condK_f rfl ⟨_, rfl, condK_f rfl ⟨_, rfl, condK_f rfl ⟨_, rfl, condK_f rfl ⟨_, rfl, condK_f rfl ⟨_, rfl, condK_t rfl (condK_t rfl ⟨_, rfl, _, rfl, _, rfl, ?_⟩)⟩⟩⟩⟩⟩⟩⟩⟩
        by_cases h0 : B = 0
        · exact condK_t (eq_t h0) ⟨trivial, tup2 rfl rfl, by simp [two, h0]; rfl⟩
        · refine condK_f (eq_f h0) ⟨_, rfl, _, rfl, condK_t rfl ⟨_, rfl, _, rfl, _, rfl, _, rfl, _, quo_i (a := A) (b := B) h0 (by omega) (by omega), rng (n := A.tdiv B) (Q := fun r => r = tpr (fin (two 7 A B))) ?_⟩⟩
          simp [two, h0, fin]
      · refine ⟨_, rfl, _, rfl, _, rfl, _, rfl, _, rfl, _, rfl, condK_f rfl ⟨_, rfl, _, rfl, condK_f rfl ⟨_, rfl, condK_f rfl ⟨_, rfl, condK_f rfl ⟨_, rfl, condK_f rfl ⟨_, rfl, condK_f rfl ⟨_, rfl, condK_f rfl ⟨_, rfl, condK_f rfl ⟨_, rfl, condK_t rfl ⟨_, rfl, _, rfl, _, rfl, ?_⟩⟩⟩⟩⟩⟩⟩⟩⟩⟩
        by_cases h0 : B = 0
        · exact condK_t (eq_t h0) ⟨trivial, tup2 rfl rfl, by simp [two, h0]; rfl⟩
        · refine condK_f (eq_f h0) ⟨_, rfl, _, rfl, condK_f rfl ⟨_, rfl, _, rfl, _, rfl, _, rfl, _, rem_k (a := A) (b := B) h0, rng (n := A.tmod B) (Q := fun r => r = tpr (fin (two 8 A B))) ?_⟩⟩
          simp [two, h0, fin]
end
end Go.Ax.TryLe

/- Comparisons; the law of all expressions, over values. By an AI agent. -/
set_option linter.unusedSimpArgs false
set_option linter.unusedVariables false
set_option maxRecDepth 100000
namespace Go.Ax.TryLe
open Go Go.Ax Go.Ax.V

def c0 : Te → TV
  | .num n => .i .i64 1
  | .var v => .i .i64 2
  | .neg t => .i .i64 3
  | .bin k a b => .i .i64 k
def c1 : Te → TV
  | .num n => .i .i64 n
  | _ => .i .i64 0
def c2 : Te → TV
  | .var v => .i .i64 v
  | _ => .i .i64 0
def c3 : Te → TV
  | .num n => .l []
  | .var v => .l []
  | .neg t => .l [encT t]
  | .bin k a b => .l [encT a, encT b]
theorem enc_c (t : Te) : encT t = .a [c0 t, c1 t, c2 t, c3 t] := by cases t <;> rfl
def condE (op : Int) (a b : Te) : TV := .a [.i .i64 op, c0 a, c1 a, c2 a, c3 a, c0 b, c1 b, c2 b, c3 b]
def cmpB (op n m : Int) : Bool := if op = 1 then eqA n m else if op = 2 then !eqA n m else if op = 3 then ltA n m else if op = 4 then !ltA m n else if op = 5 then ltA m n else !ltA n m
def holds (op : Int) (p q : Int × Int) : Bool × Int := if p.2 ≠ 0 then (false, p.2) else if q.2 ≠ 0 then (false, q.2) else (cmpB op p.1 q.1, 0)
def bpr (p : Bool × Int) : TV := .tp [.b p.1, .i .i64 p.2]
def notO (op : Int) : Int := if op = 1 then 2 else if op = 2 then 1 else if op = 3 then 6 else if op = 4 then 5 else if op = 5 then 4 else 3
abbrev okOp (op : Int) : Prop := op = 1 ∨ op = 2 ∨ op = 3 ∨ op = 4 ∨ op = 5 ∨ op = 6
theorem s41 {op : Int} (h : okOp op) : VS prog 41 [.i .i64 op] (fun r => r = .i .i64 (notO op)) := by
  refine vs41 _ _ ?_
  unfold W41
  rcases h with rfl | rfl | rfl | rfl | rfl | rfl
  · exact ⟨_, rfl, condK_t rfl ⟨trivial, trivial, rfl⟩⟩
  · exact ⟨_, rfl, condK_f rfl ⟨_, rfl, condK_t rfl ⟨trivial, trivial, rfl⟩⟩⟩
  · exact ⟨_, rfl, condK_f rfl ⟨_, rfl, condK_f rfl ⟨_, rfl, condK_t rfl ⟨trivial, trivial, rfl⟩⟩⟩⟩
  · exact ⟨_, rfl, condK_f rfl ⟨_, rfl, condK_f rfl ⟨_, rfl, condK_f rfl ⟨_, rfl, condK_t rfl ⟨trivial, trivial, rfl⟩⟩⟩⟩⟩
  · exact ⟨_, rfl, condK_f rfl ⟨_, rfl, condK_f rfl ⟨_, rfl, condK_f rfl ⟨_, rfl, condK_f rfl ⟨_, rfl, condK_t rfl ⟨trivial, trivial, rfl⟩⟩⟩⟩⟩⟩
  · exact ⟨_, rfl, condK_f rfl ⟨_, rfl, condK_f rfl ⟨_, rfl, condK_f rfl ⟨_, rfl, condK_f rfl ⟨_, rfl, condK_f rfl ⟨_, rfl, condK_t rfl ⟨trivial, trivial, rfl⟩⟩⟩⟩⟩⟩⟩
theorem okNot {op : Int} (h : okOp op) : okOp (notO op) := by
  rcases h with rfl | rfl | rfl | rfl | rfl | rfl <;> unfold notO okOp <;> simp
theorem cmp_not {op n m : Int} (h : okOp op) : cmpB (notO op) n m = !cmpB op n m := by
  rcases h with rfl | rfl | rfl | rfl | rfl | rfl <;> simp [notO, cmpB]
theorem sub1 (op : Int) (a b : Te) : subT (condE op a b) 1 4 = some (encT a) := by rw [enc_c a]; rfl
theorem sub5 (op : Int) (a b : Te) : subT (condE op a b) 5 4 = some (encT b) := by rw [enc_c b]; rfl

section
variable {x y z : Int} (hx : small x) (hy : small y) (hz : small z)
include hx hy hz
theorem s39 {op : Int} (h : okOp op) {a b : Te} (oa : a.ok) (ob : b.ok) : VS prog 39 [condE op a b, varsE x y z] (fun r => r = bpr (holds op (ev x y z a) (ev x y z b))) := by
  refine vs39 _ _ _ ?_
  unfold W39
  refine ⟨rfl, _, sub1 op a b, vs_eq (s35 hx hy hz a oa) ⟨_, rfl, _, rfl, _, rfl, ?_⟩⟩
  by_cases h1 : (ev x y z a).2 = 0
  · refine condK_f (by rw [eq_t h1]; rfl) ⟨_, sub5 op a b, vs_eq (s35 hx hy hz b ob) ⟨_, rfl, _, rfl, _, rfl, ?_⟩⟩
    unfold holds
    rw [if_neg (by simpa using h1)]
    by_cases h2 : (ev x y z b).2 = 0
    · rw [if_neg (by simpa using h2)]
      refine condK_f (by rw [eq_t h2]; rfl) ⟨_, rfl, _, rfl, ?_⟩
      rcases h with rfl | rfl | rfl | rfl | rfl | rfl
      · exact condK_t rfl ⟨_, rfl, trivial, tup2 rfl rfl, rfl⟩
      · exact condK_f rfl ⟨_, rfl, condK_t rfl ⟨_, rfl, trivial, tup2 rfl rfl, rfl⟩⟩
      · exact condK_f rfl ⟨_, rfl, condK_f rfl ⟨_, rfl, condK_t rfl ⟨_, rfl, trivial, tup2 rfl rfl, rfl⟩⟩⟩
      · exact condK_f rfl ⟨_, rfl, condK_f rfl ⟨_, rfl, condK_f rfl ⟨_, rfl, condK_t rfl ⟨_, rfl, trivial, tup2 rfl rfl, rfl⟩⟩⟩⟩
      · exact condK_f rfl ⟨_, rfl, condK_f rfl ⟨_, rfl, condK_f rfl ⟨_, rfl, condK_f rfl ⟨_, rfl, condK_t rfl ⟨_, rfl, trivial, tup2 rfl rfl, rfl⟩⟩⟩⟩⟩
      · exact condK_f rfl ⟨_, rfl, condK_f rfl ⟨_, rfl, condK_f rfl ⟨_, rfl, condK_f rfl ⟨_, rfl, condK_f rfl ⟨_, rfl, condK_t rfl ⟨_, rfl, trivial, tup2 rfl rfl, rfl⟩⟩⟩⟩⟩⟩
    · rw [if_pos h2]
      exact condK_t (by rw [eq_f h2]; rfl) ⟨trivial, tup2 rfl rfl, rfl⟩
  · unfold holds
    rw [if_pos h1]
    exact condK_t (by rw [eq_f h1]; rfl) ⟨trivial, tup2 rfl rfl, rfl⟩
theorem s40 {op : Int} (h : okOp op) {a b : Te} (oa : a.ok) (ob : b.ok) : VS prog 40 [condE op a b, varsE x y z] (fun r => r = bpr (holds op (ev x y z a) (ev x y z b))) := by
  refine vs40 _ _ _ ?_
  unfold W40
  refine ⟨rfl, _, sub1 op a b, vs_eq (s37 hx hy hz a oa) ⟨_, rfl, _, rfl, _, rfl, ?_⟩⟩
  by_cases h1 : (ev x y z a).2 = 0
  · refine condK_f (by rw [eq_t h1]; rfl) ⟨_, sub5 op a b, vs_eq (s37 hx hy hz b ob) ⟨_, rfl, _, rfl, _, rfl, ?_⟩⟩
    unfold holds
    rw [if_neg (by simpa using h1)]
    by_cases h2 : (ev x y z b).2 = 0
    · rw [if_neg (by simpa using h2)]
      refine condK_f (by rw [eq_t h2]; rfl) ⟨_, rfl, _, rfl, ?_⟩
      rcases h with rfl | rfl | rfl | rfl | rfl | rfl
      · exact condK_t rfl ⟨_, rfl, trivial, tup2 rfl rfl, rfl⟩
      · exact condK_f rfl ⟨_, rfl, condK_t rfl ⟨_, rfl, trivial, tup2 rfl rfl, rfl⟩⟩
      · exact condK_f rfl ⟨_, rfl, condK_f rfl ⟨_, rfl, condK_t rfl ⟨_, rfl, trivial, tup2 rfl rfl, rfl⟩⟩⟩
      · exact condK_f rfl ⟨_, rfl, condK_f rfl ⟨_, rfl, condK_f rfl ⟨_, rfl, condK_t rfl ⟨_, rfl, trivial, tup2 rfl rfl, rfl⟩⟩⟩⟩
      · exact condK_f rfl ⟨_, rfl, condK_f rfl ⟨_, rfl, condK_f rfl ⟨_, rfl, condK_f rfl ⟨_, rfl, condK_t rfl ⟨_, rfl, trivial, tup2 rfl rfl, rfl⟩⟩⟩⟩⟩
      · exact condK_f rfl ⟨_, rfl, condK_f rfl ⟨_, rfl, condK_f rfl ⟨_, rfl, condK_f rfl ⟨_, rfl, condK_f rfl ⟨_, rfl, condK_t rfl ⟨_, rfl, trivial, tup2 rfl rfl, rfl⟩⟩⟩⟩⟩⟩
    · rw [if_pos h2]
      exact condK_t (by rw [eq_f h2]; rfl) ⟨trivial, tup2 rfl rfl, rfl⟩
  · unfold holds
    rw [if_pos h1]
    exact condK_t (by rw [eq_f h1]; rfl) ⟨trivial, tup2 rfl rfl, rfl⟩
end
theorem s38 : VS prog 38 [] (fun r => r = .b true) := vs_closed (k := 1000) (by kernel_rfl)
theorem put1 (op : Int) (a : Te) : putT (.a [.i .i64 op, .i .i64 0, .i .i64 0, .i .i64 0, .l [], .i .i64 0, .i .i64 0, .i .i64 0, .l []]) 1 4 (encT a) = some (.a [.i .i64 op, c0 a, c1 a, c2 a, c3 a, .i .i64 0, .i .i64 0, .i .i64 0, .l []]) := by rw [enc_c a]; rfl
theorem put5 (op : Int) (a b : Te) : putT (.a [.i .i64 op, c0 a, c1 a, c2 a, c3 a, .i .i64 0, .i .i64 0, .i .i64 0, .l []]) 5 4 (encT b) = some (condE op a b) := by rw [enc_c b]; rfl
theorem put0 {us : List TV} (h : us.length = 4) (a : Te) : putT (.a us) 0 4 (encT a) = some (encT a) := by
  rw [enc_c a]
  match us, h with
  | [_, _, _, _], _ => rfl
/-- what is compared behind a comparison: the truth, the error, the opposite -/
theorem holds_not {op : Int} (h : okOp op) (p q : Int × Int) : (holds op p q).2 = 0 → (holds (notO op) p q).1 = !(holds op p q).1 := by
  intro h0
  unfold holds at *
  by_cases h1 : p.2 = 0
  · by_cases h2 : q.2 = 0
    · rw [if_neg (by simpa using h1), if_neg (by simpa using h2)]
      rw [if_neg (by simpa using h1), if_neg (by simpa using h2)]
      exact cmp_not h
    · rw [if_neg (by simpa using h1), if_pos h2] at h0; exact absurd h0 h2
  · rw [if_pos h1] at h0; exact absurd h0 h1

theorem law {n m : Nat} {ua ub : List TV} {x y z : Int} (ha : TyT PP n 92 ua) (hb : TyT PP m 92 ub) (hx : small x) (hy : small y) (hz : small z) :
    VS prog 9 [.a ua, .a ub, .a [.i .i32 x, .i .i32 y, .i .i32 z]] (fun r => r = .b true) := by
  have la : ua.length = 4 := by obtain ⟨_, _, _, _, _, rfl, _⟩ := ty_expr ha; rfl
  have lb : ub.length = 4 := by obtain ⟨_, _, _, _, _, rfl, _⟩ := ty_expr hb; rfl
  have cv : ∀ {w : Int}, small w → convT .i64 (.i .i32 w) = some (.i .i64 w) := by
    intro w hw
    show some (TV.i .i64 (wrapA .i64 w)) = _
    unfold small at hw
    rw [wrap_id (by omega) (by omega)]
  refine vs9 _ _ _ _ ?_
  unfold W9
  refine ⟨rfl, rfl, rfl, _, rfl, _, rfl, _, cv hx, _, rfl, _, rfl, _, cv hy, _, rfl, _, rfl, _, cv hz, rfl, rfl, rfl, rfl, rfl, rfl, _, sub4 la, vs_ex (s34 8 (by omega) n ua ha) (fun r hr => ?_)⟩
  obtain ⟨t, ot, rfl⟩ := hr
  refine ⟨trivial, _, sub4 lb, vs_ex (s34 8 (by omega) m ub hb) (fun r hr => ?_)⟩
  obtain ⟨u, ou, rfl⟩ := hr
  refine ⟨trivial, _, put0 la t, _, put0 lb u, _, enc_sub t, vs_eq (s36 t) (vs_eq (s35 hx hy hz t ot) ⟨_, rfl, _, rfl, _, enc_sub t, vs_eq (s37 hx hy hz t ot) ⟨_, rfl, _, rfl, vs_eq s38 ⟨_, rfl, ?_⟩⟩⟩)⟩
  have e1 : (!eqA (ev x y z t).1 (ev x y z t).1) = false := by rw [eq_t rfl]; rfl
  have e2 : (!eqA (ev x y z t).2 (ev x y z t).2) = false := by rw [eq_t rfl]; rfl
  refine ⟨_, rfl, _, rfl, .b false, congrArg (fun w => some (TV.b w)) e1, _, rfl, _, rfl, _, rfl, .b false, congrArg (fun w => some (TV.b w)) e2, _, rfl, condK_f rfl ?_⟩
  refine ⟨fun n o38 o39 x40 x41 x42 => ∃ op : Nat, 1 ≤ op ∧ op ≤ 7 ∧ n = 7 - op ∧ o38 = encT t ∧ o39 = encT u ∧ x41 = varsE x y z ∧ x42 = .i .i64 op, ⟨6, 1, by omega, by omega, rfl, rfl, rfl, rfl, rfl⟩, ?_⟩
  rintro n o38 o39 x40 x41 x42 ⟨op, h1, h7, rfl, rfl, rfl, rfl, rfl⟩
  refine ⟨_, rfl, condK_by (fun h => ?_) (fun h => ⟨trivial, trivial, rfl⟩)⟩
  have hop : op < 7 := by
    rw [ltA_eq, decide_eq_true_eq] at h; omega
  have ho : okOp (op : Int) := by unfold okOp; omega
  have hn := okNot ho
  refine ⟨_, enc_sub t, vs_eq (s36 t) ⟨_, enc_sub u, vs_eq (s36 u) ⟨_, rfl, _, put1 _ t, _, put5 _ t u, vs_eq (s39 hx hy hz ho ot ou) ⟨_, rfl, _, rfl, _, enc_sub t, _, enc_sub u, _, rfl, _, put1 _ t, _, put5 _ t u, vs_eq (s40 hx hy hz ho ot ou) ⟨_, rfl, _, rfl,
    vs_eq (s41 ho) ⟨_, enc_sub t, vs_eq (s36 t) ⟨_, enc_sub u, vs_eq (s36 u) ⟨_, rfl, _, put1 _ t, _, put5 _ t u, vs_eq (s39 hx hy hz hn ot ou) ⟨_, rfl, _, rfl, ?_⟩⟩⟩⟩⟩⟩⟩⟩⟩
  have hh := holds_not ho (ev x y z t) (ev x y z u)
  revert hh
  generalize holds (op : Int) (ev x y z t) (ev x y z u) = H1
  generalize holds (notO (op : Int)) (ev x y z t) (ev x y z u) = H2
  intro hh
  obtain ⟨b1, g1⟩ := H1
  obtain ⟨b2, g2⟩ := H2
  have e3 : (!eqA g1 g1) = false := by rw [eq_t rfl]; rfl
  have step : ∃ m37, m37 < 7 - op ∧ ∃ op' : Nat, 1 ≤ op' ∧ op' ≤ 7 ∧ m37 = 7 - op' ∧ encT t = encT t ∧ encT u = encT u ∧ varsE x y z = varsE x y z ∧ (TV.i .i64 ((op : Int) + 1)) = .i .i64 op' :=
    ⟨7 - (op + 1), by omega, op + 1, by omega, by omega, rfl, rfl, rfl, rfl, rfl⟩
  by_cases hg : g1 = 0
  · have hb := hh hg
    simp only at hb
    subst hb
    have e4 : eqA g1 0 = true := eq_t hg
    cases b1
    · exact ⟨.b false, rfl, _, rfl, _, rfl, .b false, congrArg (fun w => some (TV.b w)) e3, _, rfl, _, rfl, .b true, congrArg (fun w => some (TV.b w)) e4, _, rfl, _, rfl, _, rfl, _, rfl, _, rfl, _, rfl, condK_f rfl ⟨_, add_i (by omega) (by omega), step⟩⟩
    · exact ⟨.b false, rfl, _, rfl, _, rfl, .b false, congrArg (fun w => some (TV.b w)) e3, _, rfl, _, rfl, .b true, congrArg (fun w => some (TV.b w)) e4, _, rfl, _, rfl, _, rfl, _, rfl, _, rfl, _, rfl, condK_f rfl ⟨_, add_i (by omega) (by omega), step⟩⟩
  · have e4 : eqA g1 0 = false := eq_f hg
    cases b1
    · exact ⟨.b false, rfl, _, rfl, _, rfl, .b false, congrArg (fun w => some (TV.b w)) e3, _, rfl, _, rfl, .b false, congrArg (fun w => some (TV.b w)) e4, _, rfl, _, rfl, _, rfl, _, rfl, _, rfl, _, rfl, condK_f rfl ⟨_, add_i (by omega) (by omega), step⟩⟩
    · exact ⟨.b false, rfl, _, rfl, _, rfl, .b false, congrArg (fun w => some (TV.b w)) e3, _, rfl, _, rfl, .b false, congrArg (fun w => some (TV.b w)) e4, _, rfl, _, rfl, _, rfl, _, rfl, _, rfl, _, rfl, condK_f rfl ⟨_, add_i (by omega) (by omega), step⟩⟩
end Go.Ax.TryLe
