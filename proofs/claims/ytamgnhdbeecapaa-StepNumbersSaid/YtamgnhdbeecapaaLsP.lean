/- Numbers: of two numbers the sum, and so on. -/
import Derived.Test.YtamgnhdbeecapaaLsW
import Derived.Test.YtamgnhdbeecapaaV16
set_option linter.unusedSimpArgs false
set_option linter.unusedVariables false
namespace Go.Ax.TryLs
open Go Go.Ax Go.Ax.V

def ev2 (v : Int) : TV := .a [.i .i64 2, .i .i64 0, .i .i64 v, .l []]
def pairE (k : Int) : TV := .a [.i .i64 k, .i .i64 0, .i .i64 0, .l [ev2 0, ev2 1]]
def varsE (x y : Int) : TV := .l [.i .i64 x, .i .i64 y]
def two2 (a b : Int) : TV := .tp [.i .i64 a, .i .i64 b]

theorem s42 (k : Int) : VS prog 42 [.i .i64 k] (fun r => r = pairE k) := by
  refine vs42 _ _ ?_
  unfold W42
  refine ⟨_, rfl, _, rfl, _, rfl, rfl, rfl, _, rfl, rfl, rfl, rfl, _, rfl, rfl, _, rfl, _, rfl, _, rfl, trivial, _, rfl, trivial, rfl⟩

/-- a variable -/
theorem s58v (x y : Int) (v : Int) (w : Int) (hv : v = 0 ∧ w = x ∨ v = 1 ∧ w = y) : VS prog 58 [ev2 v, varsE x y] (fun r => r = two2 w 0) := by
  refine vs58 _ _ _ ?_
  unfold W58
  rcases hv with ⟨rfl, rfl⟩ | ⟨rfl, rfl⟩ <;>
  · refine ⟨rfl, _, rfl, _, rfl, condK_f rfl ⟨_, rfl, _, rfl, rfl, _, rfl, _, rfl, _, rfl, rfl, _, rfl, _, rfl, _, rfl, _, rfl, _, rfl, condK_t rfl ⟨_, rfl, _, ⟨rfl, rfl⟩, _, rfl, ⟨trivial, tup2 rfl rfl, rfl⟩⟩⟩⟩
def small (n : Int) : Prop := -2147483648 ≤ n ∧ n ≤ 2147483647
theorem lt_f {a b : Int} (h : ¬ a < b) : ltA a b = false := by rw [ltA_eq]; simpa using h
theorem lt_t {a b : Int} (h : a < b) : ltA a b = true := by rw [ltA_eq]; simpa using h
theorem eq_f {a b : Int} (h : a ≠ b) : eqA a b = false := by rw [eqA_eq]; simpa using h
theorem eq_t {a b : Int} (h : a = b) : eqA a b = true := by rw [eqA_eq]; simpa using h
/-- what Eval makes of what plain told -/
def evalR (n e : Int) : TV := if e ≠ 0 then two2 0 e else if n < -2147483648 ∨ n > 2147483647 then two2 0 2 else two2 n 0
theorem s35 {e vs : TV} {e' : TV} (n x : Int) (ht : e.isTp = false) (hs : subT e 0 4 = some e') (h : VS prog 58 [e', vs] (fun r => r = two2 n x)) : VS prog 35 [e, vs] (fun r => r = evalR n x) := by
  refine vs35 _ _ _ ?_
  unfold W35
  refine ⟨ht, _, hs, vs_eq h ⟨_, rfl, _, rfl, _, rfl, ?_⟩⟩
  by_cases hx : x = 0
  · subst hx
    refine condK_f rfl ⟨_, rfl, ?_⟩
    by_cases h1 : n < -2147483648
    · refine gV_f (lt_t h1) (gV_f (lt_t h1) ⟨_, (show pickT (.b (ltA n (-2147483648))) _ _ = some (.b true) by rw [lt_t h1]; rfl), condK_t rfl ⟨trivial, tup2 rfl rfl, ?_⟩⟩)
      simp [evalR, h1]; rfl
    · refine gV_t (lt_f h1) rfl (gV_t (lt_f h1) rfl ⟨_, (show pickT (.b (ltA n (-2147483648))) _ _ = some _ by rw [lt_f h1]; rfl), ?_⟩)
      by_cases h2 : 2147483647 < n
      · refine condK_t (lt_t h2) ⟨trivial, tup2 rfl rfl, ?_⟩
        simp [evalR, h2]; rfl
      · refine condK_f (lt_f h2) ⟨trivial, tup2 rfl rfl, ?_⟩
        have h3 : ¬ (n < -2147483648 ∨ n > 2147483647) := by omega
        simp [evalR, h3]; rfl
  · refine condK_t (by rw [eq_f hx]; rfl) ⟨trivial, tup2 rfl rfl, ?_⟩
    simp [evalR, hx, two2]
theorem s35v (x y v w : Int) (hv : v = 0 ∧ w = x ∨ v = 1 ∧ w = y) (hw : small w) : VS prog 35 [ev2 v, varsE x y] (fun r => r = two2 w 0) := by
  have := s35 (e := ev2 v) (vs := varsE x y) w 0 rfl rfl (s58v x y v w hv)
  have e : evalR w 0 = two2 w 0 := by unfold evalR small at *; simp; omega
  rwa [e] at this
/-- what an operation makes of two numbers: the number, the error -/
def opN (k a b : Int) : Int := if k = 6 then a * b else if b = 0 then 0 else if k = 7 then a.tdiv b else a.tmod b
def opE (k b : Int) : Int := if k = 6 then 0 else if b = 0 then 3 else 0
theorem mul_small {a b : Int} (ha : small a) (hb : small b) : -4611686018427387904 ≤ a * b ∧ a * b ≤ 4611686018427387904 := by
  unfold small at *
  have h1 : a.natAbs ≤ 2147483648 := by omega
  have h2 : b.natAbs ≤ 2147483648 := by omega
  have h3 : a.natAbs * b.natAbs ≤ 2147483648 * 2147483648 := Nat.mul_le_mul h1 h2
  have h4 : (a * b).natAbs = a.natAbs * b.natAbs := Int.natAbs_mul a b
  omega
theorem tdiv_small {a b : Int} (ha : small a) : -2147483648 ≤ a.tdiv b ∧ a.tdiv b ≤ 2147483648 := by
  unfold small at *
  have h1 : (a.tdiv b).natAbs = a.natAbs / b.natAbs := Int.natAbs_tdiv a b
  have h2 : a.natAbs / b.natAbs ≤ a.natAbs := Nat.div_le_self _ _
  omega
theorem s103 (k a b : Int) (hk : k = 6 ∨ k = 7 ∨ k = 8) (ha : small a) (hb : small b) : VS prog 103 [.i .i64 k, .i .i64 a, .i .i64 b] (fun r => r = two2 (opN k a b) (opE k b)) := by
  refine vs103 _ _ _ _ ?_
  unfold W103
  have hm := mul_small ha hb
  have hd := tdiv_small (b := b) ha
  rcases hk with rfl | rfl | rfl
  · refine ⟨_, rfl, condK_f rfl ⟨_, rfl, condK_f rfl ⟨_, rfl, condK_t rfl ⟨_, rfl, trivial, tup2 rfl rfl, ?_⟩⟩⟩⟩
    show TV.tp [.i .i64 (wrapA .i64 (a * b)), _] = _
    rw [wrap_id (by omega) (by omega)]; rfl
  · refine ⟨_, rfl, condK_f rfl ⟨_, rfl, condK_f rfl ⟨_, rfl, condK_f rfl ⟨_, rfl, ?_⟩⟩⟩⟩
    by_cases h0 : b = 0
    · exact condK_t (eq_t h0) ⟨trivial, tup2 rfl rfl, by simp [opN, opE, h0]; rfl⟩
    · refine condK_f (eq_f h0) ⟨_, rfl, condK_t rfl ⟨.i .i64 (wrapA .i64 (a.tdiv b)), ?_, trivial, tup2 rfl rfl, ?_⟩⟩
      · show (match (bif eqA b 0 then none else some (.int .i64 (wrapA .i64 (a.tdiv b))) : Option AV) with | some r => flatV r | none => none) = _
        rw [eq_f h0]; rfl
      · rw [wrap_id (by omega) (by omega)]; simp [opN, opE, h0]; rfl
  · refine ⟨_, rfl, condK_f rfl ⟨_, rfl, condK_f rfl ⟨_, rfl, condK_f rfl ⟨_, rfl, ?_⟩⟩⟩⟩
    by_cases h0 : b = 0
    · exact condK_t (eq_t h0) ⟨trivial, tup2 rfl rfl, by simp [opN, opE, h0]; rfl⟩
    · refine condK_f (eq_f h0) ⟨_, rfl, condK_f rfl ⟨.i .i64 (a.tmod b), ?_, trivial, tup2 rfl rfl, ?_⟩⟩
      · show (match (bif eqA b 0 then none else some (.int .i64 (a.tmod b)) : Option AV) with | some r => flatV r | none => none) = _
        rw [eq_f h0]; rfl
      · simp [opN, opE, h0]; rfl
theorem s80 (k x y : Int) (hk : k = 6 ∨ k = 7 ∨ k = 8) (hx : small x) (hy : small y) : VS prog 80 [pairE k, varsE x y] (fun r => r = two2 (opN k x y) (opE k y)) := by
  refine vs80 _ _ _ ?_
  unfold W80
  refine ⟨rfl, _, rfl, _, ⟨rfl, rfl⟩, _, rfl, vs_eq (s35v x y 0 x (.inl ⟨rfl, rfl⟩) hx) ⟨_, rfl, _, rfl, _, rfl, condK_f rfl ⟨_, rfl, _, ⟨rfl, rfl⟩, _, rfl, vs_eq (s35v x y 1 y (.inr ⟨rfl, rfl⟩) hy) ⟨_, rfl, _, rfl, _, rfl, condK_f rfl ⟨_, rfl, vs_eq (s103 k x y hk hx hy) ⟨_, rfl, _, rfl, trivial, tup2 rfl rfl, rfl⟩⟩⟩⟩⟩⟩
theorem s58p (k x y : Int) (hk : k = 6 ∨ k = 7 ∨ k = 8) (hx : small x) (hy : small y) : VS prog 58 [pairE k, varsE x y] (fun r => r = two2 (opN k x y) (opE k y)) := by
  refine vs58 _ _ _ ?_
  unfold W58
  have h80 := s80 k x y hk hx hy
  rcases hk with rfl | rfl | rfl <;>
  · refine ⟨rfl, _, rfl, _, rfl, condK_f rfl ⟨_, rfl, _, rfl, rfl, _, rfl, _, rfl, _, rfl, rfl, _, rfl, _, rfl, _, rfl, _, rfl, _, rfl, condK_f rfl ⟨_, rfl, _, rfl, rfl, _, rfl, _, rfl, _, rfl, _, rfl, condK_f rfl ⟨_, rfl, _, rfl, rfl, _, rfl, _, rfl, _, rfl, rfl, _, rfl, _, rfl, _, rfl, _, rfl, condK_t rfl ⟨_, rfl, vs_eq h80 ⟨_, rfl, _, rfl, trivial, tup2 rfl rfl, rfl⟩⟩⟩⟩⟩⟩
theorem s35p (k x y : Int) (hk : k = 6 ∨ k = 7 ∨ k = 8) (hx : small x) (hy : small y) : VS prog 35 [pairE k, varsE x y] (fun r => r = evalR (opN k x y) (opE k y)) :=
  s35 _ _ rfl rfl (s58p k x y hk hx hy)
theorem s38 : VS prog 38 [] (fun r => r = .b true) := vs_closed (k := 1000) (by kernel_rfl)

theorem tdiv_add {x y : Int} : x.tdiv y * y + x.tmod y = x := by
  have := Int.tmod_add_mul_tdiv x y
  rw [Int.mul_comm] at this
  omega
theorem tmod_abs {x y : Int} (hy : y ≠ 0) : (x.tmod y).natAbs < y.natAbs := by
  rw [Int.natAbs_tmod]
  exact Nat.mod_lt _ (by omega)
theorem sq_lt {r y : Int} (h : r.natAbs < y.natAbs) : r * r < y * y := by
  have h1 : r.natAbs * r.natAbs < y.natAbs * y.natAbs := Nat.mul_self_lt_mul_self h
  have h2 := Int.natAbs_mul_self (a := r)
  have h3 := Int.natAbs_mul_self (a := y)
  have h4 : ((r.natAbs * r.natAbs : Nat) : Int) < ((y.natAbs * y.natAbs : Nat) : Int) := Int.ofNat_lt.2 h1
  rw [h2, h3] at h4
  exact h4
theorem tmod_sign {x y : Int} (h : x.tmod y ≠ 0) : (x.tmod y < 0) ↔ (x < 0) := by
  have h1 := Int.tmod_nonneg y (a := x)
  constructor
  · intro hr
    rcases Int.lt_or_le x 0 with hx | hx
    · exact hx
    · have := h1 hx; omega
  · intro hx
    have h2 := Int.tmod_nonneg y (a := -x) (by omega)
    rw [Int.neg_tmod] at h2
    omega
theorem mul_t {a b : Int} (ha : small a) (hb : small b) : binT .mul (.i .i64 a) (.i .i64 b) = some (.i .i64 (a * b)) := by
  have hm := mul_small ha hb
  show some (TV.i .i64 (wrapA .i64 (a * b))) = _
  rw [wrap_id (by omega) (by omega)]
theorem eql_t {a b : Int} (h : a = b) : binT .eql (.i .i64 a) (.i .i64 b) = some (.b true) := by
  show some (TV.b (eqA a b)) = _; rw [eq_t h]
theorem eql_f {a b : Int} (h : a ≠ b) : binT .eql (.i .i64 a) (.i .i64 b) = some (.b false) := by
  show some (TV.b (eqA a b)) = _; rw [eq_f h]
theorem neq_t {a b : Int} (h : a ≠ b) : binT .neq (.i .i64 a) (.i .i64 b) = some (.b true) := by
  show some (TV.b (!eqA a b)) = _; rw [eq_f h]; rfl
theorem neq_f {a b : Int} (h : a = b) : binT .neq (.i .i64 a) (.i .i64 b) = some (.b false) := by
  show some (TV.b (!eqA a b)) = _; rw [eq_t h]; rfl
theorem lss_t {a b : Int} (h : a < b) : binT .lss (.i .i64 a) (.i .i64 b) = some (.b true) := by
  show some (TV.b (ltA a b)) = _; rw [lt_t h]
theorem lss_f {a b : Int} (h : ¬ a < b) : binT .lss (.i .i64 a) (.i .i64 b) = some (.b false) := by
  show some (TV.b (ltA a b)) = _; rw [lt_f h]
theorem geq_t {a b : Int} (h : ¬ a < b) : binT .geq (.i .i64 a) (.i .i64 b) = some (.b true) := by
  show some (TV.b (!ltA a b)) = _; rw [lt_f h]; rfl
theorem geq_f {a b : Int} (h : a < b) : binT .geq (.i .i64 a) (.i .i64 b) = some (.b false) := by
  show some (TV.b (!ltA a b)) = _; rw [lt_t h]; rfl
theorem leq_f {a b : Int} (h : b < a) : binT .leq (.i .i64 a) (.i .i64 b) = some (.b false) := by
  show some (TV.b (!ltA b a)) = _; rw [lt_t h]; rfl
theorem small_of {r y : Int} (h : r.natAbs < y.natAbs) (hy : small y) : small r := by unfold small at *; omega

/-- the number, the error, that Eval tells of a quotient, of a rest -/
def qE (x y : Int) : Int := if y = 0 then 3 else if x = -2147483648 ∧ y = -1 then 2 else 0
def qN (x y : Int) : Int := if y = 0 then 0 else if x = -2147483648 ∧ y = -1 then 0 else x.tdiv y
theorem eval7 {x y : Int} (hx : small x) (hy : small y) : evalR (opN 7 x y) (opE 7 y) = two2 (qN x y) (qE x y) := by
  unfold evalR opN opE qN qE
  by_cases h0 : y = 0
  · simp [h0]
  · by_cases h1 : x = -2147483648 ∧ y = -1
    · obtain ⟨rfl, rfl⟩ := h1; rfl
    · have h2 : -2147483648 ≤ x.tdiv y ∧ x.tdiv y ≤ 2147483647 := by
        have h3 : (x.tdiv y).natAbs = x.natAbs / y.natAbs := Int.natAbs_tdiv x y
        unfold small at *
        have h4 : x.natAbs / y.natAbs ≤ x.natAbs := Nat.div_le_self _ _
        by_cases hxm : x = -2147483648
        · by_cases hy1 : y = 1
          · subst hy1; rw [Int.tdiv_one]; omega
          · have h5 : 2 ≤ y.natAbs := by omega
            have h6 : x.natAbs / y.natAbs ≤ x.natAbs / 2 := Nat.div_le_div_left h5 (by omega)
            omega
        · omega
      have h7 : ¬ (x.tdiv y < -2147483648 ∨ x.tdiv y > 2147483647) := by omega
      simp [h0, h1, h7]
theorem eval8 {x y : Int} (hx : small x) (hy : small y) : evalR (opN 8 x y) (opE 8 y) = two2 (if y = 0 then 0 else x.tmod y) (if y = 0 then 3 else 0) := by
  unfold evalR opN opE
  by_cases h0 : y = 0
  · simp [h0]
  · have := tmod_abs (x := x) h0
    have h7 : ¬ (x.tmod y < -2147483648 ∨ x.tmod y > 2147483647) := by unfold small at hy; omega
    simp [h0, h7]
end Go.Ax.TryLs
