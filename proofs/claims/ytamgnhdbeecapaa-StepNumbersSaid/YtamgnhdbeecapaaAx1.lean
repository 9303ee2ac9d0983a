/- What the interpreter's maps and cuts are: plain laws. -/
import Derived.Test.YtamgnhdbeecapaaAx0
set_option linter.unusedSimpArgs false
set_option linter.unusedVariables false
namespace Go.Ax

theorem brec {α : Sort _} (c : Bool) (a b : α) : (Bool.rec a b c : α) = if c = true then b else a := by cases c <;> rfl

namespace Map
variable {α : Type}
theorem get_leaf (i : Nat) : (leaf : Map α).get i = none := rfl
theorem get_node (v : Option α) (l r : Map α) (i : Nat) : (node v l r).get i = if i = 0 then v else if i % 2 = 1 then l.get (i / 2) else r.get (i / 2 - 1) := by
  show (Bool.rec (Bool.rec (r.get (i / 2 - 1)) (l.get (i / 2)) (Nat.beq (i % 2) 1)) v (Nat.beq i 0) : Option α) = _
  simp only [brec, Nat.beq_eq]
theorem one_succ (v : Option α) (f i : Nat) : one v (f + 1) i = if i = 0 then .node v .leaf .leaf else if i % 2 = 1 then .node none (one v f (i / 2)) .leaf else .node none .leaf (one v f (i / 2 - 1)) := by
  show (Bool.rec (Bool.rec (.node none .leaf (one v f (i / 2 - 1))) (.node none (one v f (i / 2)) .leaf) (Nat.beq (i % 2) 1)) (.node v .leaf .leaf) (Nat.beq i 0) : Map α) = _
  simp only [brec, Nat.beq_eq]
theorem put_leaf (v : Option α) (i : Nat) : put v leaf i = one v (i + 1) i := rfl
theorem put_node (w v : Option α) (l r : Map α) (i : Nat) : put w (node v l r) i = if i = 0 then .node w l r else if i % 2 = 1 then .node v (put w l (i / 2)) r else .node v l (put w r (i / 2 - 1)) := by
  show (Bool.rec (Bool.rec (.node v l (put w r (i / 2 - 1))) (.node v (put w l (i / 2)) r) (Nat.beq (i % 2) 1)) (.node w l r) (Nat.beq i 0) : Map α) = _
  simp only [brec, Nat.beq_eq]

theorem get_one (v : Option α) : ∀ (f i j : Nat), i < f → (one v f i).get j = if j = i then v else none := by
  intro f
  induction f with
  | zero => intro i j h; omega
  | succ f ih =>
    intro i j h
    rw [one_succ]
    by_cases h0 : i = 0
    · subst h0
      simp only [if_true, get_node, get_leaf]
      split <;> simp_all
    · rw [if_neg h0]
      by_cases h1 : i % 2 = 1
      · rw [if_pos h1, get_node, ih _ _ (by omega)]
        by_cases hj : j = 0
        · subst hj; rw [if_pos rfl, if_neg (by omega)]
        · rw [if_neg hj]
          by_cases hj1 : j % 2 = 1
          · rw [if_pos hj1]
            by_cases e : j = i
            · subst e; simp
            · rw [if_neg (by omega), if_neg e]
          · rw [if_neg hj1, get_leaf, if_neg (by rintro rfl; exact hj1 h1)]
      · rw [if_neg h1, get_node, ih _ _ (by omega)]
        by_cases hj : j = 0
        · subst hj; rw [if_pos rfl, if_neg (by omega)]
        · rw [if_neg hj]
          by_cases hj1 : j % 2 = 1
          · rw [if_pos hj1, get_leaf, if_neg (by rintro rfl; exact h1 hj1)]
          · rw [if_neg hj1]
            by_cases e : j = i
            · subst e; simp
            · rw [if_neg (by omega), if_neg e]

theorem get_put (w : Option α) (m : Map α) : ∀ (i j : Nat), (put w m i).get j = if j = i then w else m.get j := by
  induction m with
  | leaf => intro i j; rw [put_leaf, get_one _ _ _ _ (by omega), get_leaf]
  | node v l r ihl ihr =>
    intro i j
    rw [put_node]
    by_cases h0 : i = 0
    · subst h0
      rw [if_pos rfl, get_node, get_node]
      split <;> rfl
    · rw [if_neg h0]
      by_cases h1 : i % 2 = 1
      · rw [if_pos h1, get_node, get_node, ihl]
        by_cases hj : j = 0
        · subst hj; rw [if_pos rfl, if_neg (by omega), if_pos rfl]
        · rw [if_neg hj, if_neg hj]
          by_cases hj1 : j % 2 = 1
          · rw [if_pos hj1, if_pos hj1]
            by_cases e : j = i
            · subst e; simp
            · rw [if_neg (by omega), if_neg e]
          · rw [if_neg hj1, if_neg hj1, if_neg (by rintro rfl; exact hj1 h1)]
      · rw [if_neg h1, get_node, get_node, ihr]
        by_cases hj : j = 0
        · subst hj; rw [if_pos rfl, if_neg (by omega), if_pos rfl]
        · rw [if_neg hj, if_neg hj]
          by_cases hj1 : j % 2 = 1
          · rw [if_pos hj1, if_pos hj1, if_neg (by rintro rfl; exact h1 hj1)]
          · rw [if_neg hj1, if_neg hj1]
            by_cases e : j = i
            · subst e; simp
            · rw [if_neg (by omega), if_neg e]

theorem get_upto (m : Map α) : ∀ (p : Nat → Bool) (i : Nat), (m.upto p).get i = if p i = true then m.get i else none := by
  induction m with
  | leaf => intro p i; show none = _; rw [get_leaf]; split <;> rfl
  | node v l r ihl ihr =>
    intro p i
    show (node _ (l.upto _) (r.upto _)).get i = _
    rw [get_node, get_node, ihl, ihr, brec]
    by_cases h0 : i = 0
    · subst h0; simp
    · rw [if_neg h0, if_neg h0]
      by_cases h1 : i % 2 = 1
      · rw [if_pos h1, if_pos h1]
        have e : Nat.succ (Nat.mul 2 (i / 2)) = i := by simp only [Nat.succ_eq_add_one, Nat.mul_eq]; omega
        rw [e]
      · rw [if_neg h1, if_neg h1]
        have e : Nat.succ (Nat.succ (Nat.mul 2 (i / 2 - 1))) = i := by simp only [Nat.succ_eq_add_one, Nat.mul_eq]; omega
        rw [e]

theorem get_union (a : Map α) : ∀ (b : Map α) (i : Nat), (a.union b).get i = match a.get i with | some x => some x | none => b.get i := by
  induction a with
  | leaf => intro b i; rfl
  | node v l r ihl ihr =>
    intro b i
    cases b with
    | leaf => show (node v l r).get i = _; cases (node v l r).get i <;> rfl
    | node v' l' r' =>
      show (node _ (l.union l') (r.union r')).get i = _
      rw [get_node, get_node, get_node, ihl, ihr]
      by_cases h0 : i = 0
      · simp only [if_pos h0]; cases v <;> rfl
      · simp only [if_neg h0]
        by_cases h1 : i % 2 = 1
        · simp only [if_pos h1]
        · simp only [if_neg h1]
end Map

theorem allB_true {α : Type} {f : α → Bool} {l : List α} : allB f l = true ↔ ∀ x ∈ l, f x = true := by
  induction l with
  | nil => exact ⟨fun _ _ h => (by cases h), fun _ => rfl⟩
  | cons x l ih =>
    show (Bool.rec false (allB f l) (f x) : Bool) = true ↔ _
    rw [brec]
    split
    · rename_i h; rw [ih]; simp [h]
    · rename_i h; simp [h]

theorem mapO_cons {α β : Type} (f : α → Option β) (x : α) (l : List α) : mapO f (x :: l) = match f x with | none => none | some y => match mapO f l with | none => none | some ys => some (y :: ys) := rfl
theorem mapO_nil {α β : Type} (f : α → Option β) : mapO f [] = some [] := rfl

theorem mapO_some {α β : Type} {f : α → Option β} {l : List α} {r : List β} (h : mapO f l = some r) : l.length = r.length ∧ ∀ (j : Nat) (x : α), l[j]? = some x → ∃ y, r[j]? = some y ∧ f x = some y := by
  induction l generalizing r with
  | nil => rw [mapO_nil] at h; cases h; exact ⟨rfl, fun j x hx => by simp at hx⟩
  | cons a l ih =>
    rw [mapO_cons] at h
    cases ha : f a with
    | none => rw [ha] at h; cases h
    | some y =>
      rw [ha] at h
      cases hl : mapO f l with
      | none => rw [hl] at h; cases h
      | some ys =>
        rw [hl] at h
        cases h
        obtain ⟨h1, h2⟩ := ih hl
        refine ⟨by simp [h1], fun j x hx => ?_⟩
        cases j with
        | zero => simp at hx; subst hx; exact ⟨y, rfl, ha⟩
        | succ j => simpa using h2 j x (by simpa using hx)

theorem first_nil (n : Nat) : first [] n = if n = 0 then some [] else none := by
  show (Bool.rec _ _ _ : Option (List AV)) = _; simp only [brec, Nat.beq_eq]
theorem first_cons (x : AV) (l : List AV) (n : Nat) : first (x :: l) n = if n = 0 then some [] else match first l (n - 1) with | some r => some (x :: r) | none => none := by
  show (Bool.rec (match first l (n - 1) with | some r => some (x :: r) | none => none) (some []) (Nat.beq n 0) : Option (List AV)) = _; simp only [brec, Nat.beq_eq]
theorem first_eq (cells : List AV) : ∀ n, first cells n = if n ≤ cells.length then some (cells.take n) else none := by
  induction cells with
  | nil => intro n; rw [first_nil]; cases n <;> simp
  | cons x l ih =>
    intro n
    rw [first_cons, ih]
    cases n with
    | zero => simp
    | succ n => simp only [Nat.add_one_ne_zero, if_false, Nat.add_sub_cancel, List.length_cons, Nat.add_le_add_iff_right]; by_cases h : n ≤ l.length <;> simp [h]
theorem cut_nil (off n : Nat) : cut [] off n = if off = 0 then first [] n else none := by
  show (Bool.rec _ _ _ : Option (List AV)) = _; simp only [brec, Nat.beq_eq]
theorem cut_cons (x : AV) (l : List AV) (off n : Nat) : cut (x :: l) off n = if off = 0 then first (x :: l) n else cut l (off - 1) n := by
  show (Bool.rec (cut l (off - 1) n) (first (x :: l) n) (Nat.beq off 0) : Option (List AV)) = _; simp only [brec, Nat.beq_eq]
theorem cut_eq (cells : List AV) : ∀ off n, cut cells off n = if off + n ≤ cells.length then some ((cells.drop off).take n) else none := by
  induction cells with
  | nil => intro off n; rw [cut_nil, first_eq]; cases off <;> simp
  | cons x l ih =>
    intro off n
    rw [cut_cons, ih, first_eq]
    cases off with
    | zero => simp
    | succ off => simp only [Nat.add_one_ne_zero, if_false, Nat.add_sub_cancel, List.length_cons, List.drop_succ_cons]; simp only [Nat.add_right_comm off 1 n, Nat.add_le_add_iff_right]
theorem cut_some {cells cs : List AV} {off n : Nat} (h : cut cells off n = some cs) : off + n ≤ cells.length ∧ cs = (cells.drop off).take n := by
  rw [cut_eq] at h
  split at h
  · rename_i hl; exact ⟨hl, by injection h with h; exact h.symm⟩
  · cases h
theorem cut_at {cells cs : List AV} {off n : Nat} (h : cut cells off n = some cs) : cs.length = n ∧ ∀ j, j < n → cs[j]? = cells[off + j]? := by
  obtain ⟨hl, rfl⟩ := cut_some h
  refine ⟨by simp; omega, fun j hj => by rw [List.getElem?_take_of_lt hj, List.getElem?_drop]⟩
theorem overF_nil (cells : List AV) : overF [] cells = some cells := rfl
theorem overF_cons (y : AV) (cs : List AV) : ∀ cells, overF (y :: cs) cells = match cells with | [] => none | _ :: xs => match overF cs xs with | some l => some (y :: l) | none => none := fun _ => rfl
theorem overF_eq (cs : List AV) : ∀ cells, overF cs cells = if cs.length ≤ cells.length then some (cs ++ cells.drop cs.length) else none := by
  induction cs with
  | nil => intro cells; simp [overF_nil]
  | cons y cs ih =>
    intro cells
    rw [overF_cons]
    cases cells with
    | nil => simp
    | cons x xs => simp only [ih, List.length_cons, Nat.add_le_add_iff_right, List.drop_succ_cons, List.cons_append]; by_cases h : cs.length ≤ xs.length <;> simp [h]
theorem over_nil (off : Nat) (cs : List AV) : over [] off cs = if off = 0 then overF cs [] else none := by
  show (Bool.rec _ _ _ : Option (List AV)) = _; simp only [brec, Nat.beq_eq]
theorem over_cons (x : AV) (l : List AV) (off : Nat) (cs : List AV) : over (x :: l) off cs = if off = 0 then overF cs (x :: l) else match over l (off - 1) cs with | some r => some (x :: r) | none => none := by
  show (Bool.rec (match over l (off - 1) cs with | some r => some (x :: r) | none => none) (overF cs (x :: l)) (Nat.beq off 0) : Option (List AV)) = _; simp only [brec, Nat.beq_eq]
theorem over_eq (cells : List AV) : ∀ off cs, over cells off cs = if off + cs.length ≤ cells.length then some (cells.take off ++ cs ++ cells.drop (off + cs.length)) else none := by
  induction cells with
  | nil => intro off cs; rw [over_nil, overF_eq]; cases off <;> simp
  | cons x l ih =>
    intro off cs
    rw [over_cons, ih, overF_eq]
    cases off with
    | zero => simp
    | succ off =>
      simp only [Nat.add_one_ne_zero, if_false, Nat.add_sub_cancel, List.length_cons, List.take_succ_cons, Nat.add_right_comm off 1 cs.length, Nat.add_le_add_iff_right, List.drop_succ_cons]
      by_cases h : off + cs.length ≤ l.length <;> simp [h]
theorem over_some {cells cells' cs : List AV} {off : Nat} (h : over cells off cs = some cells') : off + cs.length ≤ cells.length ∧ cells' = cells.take off ++ cs ++ cells.drop (off + cs.length) := by
  rw [over_eq] at h
  split at h
  · rename_i hl; exact ⟨hl, by injection h with h; exact h.symm⟩
  · cases h
theorem over_at {cells cells' cs : List AV} {off : Nat} (h : over cells off cs = some cells') : cells'.length = cells.length ∧ ∀ j, cells'[j]? = if off ≤ j ∧ j < off + cs.length then cs[j - off]? else cells[j]? := by
  obtain ⟨hl, rfl⟩ := over_some h
  refine ⟨by simp; omega, fun j => ?_⟩
  by_cases h1 : j < off
  · rw [List.getElem?_append_left (by simp; omega), List.getElem?_append_left (by simp; omega), List.getElem?_take_of_lt h1, if_neg (by omega)]
  · by_cases h2 : j < off + cs.length
    · rw [List.getElem?_append_left (by simp; omega), List.getElem?_append_right (by simp; omega), if_pos ⟨by omega, h2⟩]
      congr 1
      simp
      omega
    · rw [List.getElem?_append_right (by simp; omega), if_neg (by omega), List.getElem?_drop]
      congr 1
      simp
      omega

theorem eqK_eq {a b : IntKind} (h : eqK a b = true) : a = b := by cases a <;> cases b <;> first | rfl | cases h
theorem eqK_iff (a b : IntKind) : eqK a b = decide (a = b) := by cases a <;> cases b <;> rfl
theorem blt_d (a b : Nat) : Nat.blt a b = decide (a < b) := by rw [Bool.eq_iff_iff]; simp [Nat.blt_eq]
theorem ltA_eq (x y : Int) : ltA x y = decide (x < y) := by
  cases x <;> cases y <;> simp only [ltA, blt_d] <;> first
    | (congr 1; simp only [Int.ofNat_eq_natCast, eq_iff_iff]; omega)
    | (symm; rw [decide_eq_true_eq]; simp only [Int.ofNat_eq_natCast]; omega)
    | (symm; rw [decide_eq_false_iff_not]; simp only [Int.ofNat_eq_natCast]; omega)
theorem eqA_eq (x y : Int) : eqA x y = decide (x = y) := by
  cases x <;> cases y <;> simp only [eqA] <;> first
    | (rw [Bool.eq_iff_iff, Nat.beq_eq, decide_eq_true_eq]; simp only [Int.ofNat_eq_natCast]; omega)
    | (rw [Bool.eq_iff_iff, Nat.beq_eq, decide_eq_true_eq, Int.negSucc.injEq])
    | (symm; rw [decide_eq_false_iff_not]; simp only [Int.ofNat_eq_natCast]; omega)
theorem ixA_some {i : Int} {n m : Nat} (h : ixA i n = some m) : i = (m : Int) ∧ m < n := by
  cases i with
  | ofNat k =>
    simp only [ixA, blt_d, cond_eq_ite, decide_eq_true_eq] at h
    split at h
    · cases h; exact ⟨rfl, by assumption⟩
    · cases h
  | negSucc k => cases h
theorem bdA_some {i : Int} {n m : Nat} (h : bdA i n = some m) : i = (m : Int) ∧ m ≤ n := by
  cases i with
  | ofNat k =>
    simp only [bdA, cond_eq_ite, Nat.ble_eq] at h
    split at h
    · cases h; exact ⟨rfl, by assumption⟩
    · cases h
  | negSucc k => cases h
theorem wrapA_eq (k : IntKind) (n : Int) : wrapA k n = k.wrap n := by
  unfold wrapA
  rw [cond_eq_ite]
  split
  · rename_i h
    cases k <;> cases n <;> simp only [inR, blt_d, decide_eq_true_eq] at h <;> simp only [IntKind.wrap, IntKind.bits, IntKind.signed, Int.ofNat_eq_natCast] <;> simp <;> omega
  · rfl
end Go.Ax
