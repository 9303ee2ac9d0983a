/- Regions of open order: carried out in the text's order. -/
import Derived.Test.YtamgnhdbeecapaaVD
set_option linter.unusedSimpArgs false
set_option linter.unusedVariables false
namespace Go.Ax.V

section
variable {sh : Sh} {prog : Map AFunc} {cf : FnF} {nt : Nat}

theorem memB_iff {n : Nat} : ∀ {l : List Nat}, memB n l = true ↔ n ∈ l
  | [] => by simp [memB]
  | m :: l => by simp [memB, memB_iff (l := l)]
theorem subB_mem {m : List Nat} : ∀ {l : List Nat}, subB l m = true → ∀ n ∈ l, n ∈ m
  | [], h, n, hn => by cases hn
  | x :: l, h, n, hn => by
    simp only [subB, Bool.and_eq_true] at h
    rcases List.mem_cons.1 hn with rfl | hn
    · exact memB_iff.1 h.1
    · exact subB_mem h.2 n hn
theorem disjB_mem {m : List Nat} : ∀ {l : List Nat}, disjB l m = true → ∀ n ∈ l, n ∉ m
  | [], h, n, hn => by cases hn
  | x :: l, h, n, hn => by
    simp only [disjB, Bool.and_eq_true, Bool.not_eq_true'] at h
    rcases List.mem_cons.1 hn with rfl | hn
    · intro hm; rw [memB_iff.2 hm] at h; exact absurd h.1 (by decide)
    · exact disjB_mem h.2 n hn
theorem rootsOf_mem {info : List (Nat × Nat × List Nat)} {T : Nat} : ∀ {l : List Nat}, T ∈ l → (infoOf T info).1 ∈ rootsOf info l
  | [], h => by cases h
  | x :: l, h => by
    rcases List.mem_cons.1 h with rfl | h
    · exact List.mem_cons_self
    · exact List.mem_cons_of_mem _ (rootsOf_mem h)
theorem chainsOk_mem {info : List (Nat × Nat × List Nat)} {ah : List Nat} : ∀ {l : List Nat}, chainsOk info ah l = true → ∀ T ∈ l, ∀ c ∈ (infoOf T info).2, c ∈ ah
  | [], h, T, hT => by cases hT
  | x :: l, h, T, hT => by
    simp only [chainsOk, Bool.and_eq_true] at h
    rcases List.mem_cons.1 hT with rfl | hT
    · exact subB_mem h.1
    · exact chainsOk_mem h.2 T hT
theorem infoOf_cons (T T' : Nat) (x : Nat × List Nat) (l : List (Nat × Nat × List Nat)) : infoOf T ((T', x) :: l) = if T' = T then x else infoOf T l := by
  simp only [infoOf, cond_eq_ite, Nat.beq_eq]
theorem allK_node {α : Type} (v : Option α) (l r : Map α) (p : Nat → Bool) : allK (.node v l r) p = ((match v with | none => true | some _ => p 0) && (allK l (fun k => p (Nat.succ (Nat.mul 2 k))) && allK r (fun k => p (Nat.succ (Nat.succ (Nat.mul 2 k)))))) := rfl
theorem allK_get {α : Type} : ∀ (m : Map α) (p : Nat → Bool), allK m p = true → ∀ i x, m.get i = some x → p i = true
  | .leaf, p, h, i, x, hx => by cases hx
  | .node v l r, p, h, i, x, hx => by
    rw [allK_node, Bool.and_eq_true, Bool.and_eq_true] at h
    obtain ⟨h1, h2, h3⟩ := h
    rw [Map.get_node] at hx
    by_cases h0 : i = 0
    · subst h0
      simp at hx
      subst hx
      exact h1
    · rw [if_neg h0] at hx
      split at hx
      · have := allK_get l _ h2 _ x hx
        rwa [show Nat.succ (Nat.mul 2 (i / 2)) = i by show 2 * (i / 2) + 1 = i; omega] at this
      · have := allK_get r _ h3 _ x hx
        rwa [show Nat.succ (Nat.succ (Nat.mul 2 (i / 2 - 1))) = i by show 2 * (i / 2 - 1) + 2 = i; omega] at this
theorem hasO_iff {V : VSt} {T : Nat} : hasO V T = true ↔ ∃ o, V.H.get T = some o := by
  unfold hasO
  split
  · rename_i o ho; exact ⟨fun _ => ⟨o, ho⟩, fun _ => rfl⟩
  · rename_i ho; exact ⟨fun h => (by cases h), fun ⟨o, h⟩ => (by rw [ho] at h; cases h)⟩

structure DInv (n0 : Nat) (rs : List Rec) (A : Tok) (V : VSt) (st : St) (info : List (Nat × Nat × List Nat)) (ρ : Nat → Option Nat) : Prop where
  known : ∀ T o a id, V.H.get T = some o → A T = some a → idOf a = some id → id < n0 ∨ ∃ c ∈ (infoOf T info).2, ∃ r, rs[c]? = some r ∧ r.nx0 ≤ id ∧ id < r.nx1
  root : ∀ T o a id, V.H.get T = some o → A T = some a → idOf a = some id → ρ id = some (infoOf T info).1
  dom : ∀ id q, ρ id = some q → id < st.nx
def RecH (ρ : Nat → Option Nat) (r : Rec) (f : List Nat × List Nat) : Prop :=
  (∀ x ∈ r.rds, ∃ id, (match x with | .rng q => q.id = id | .obj i => i = id | .all => False) ∧ ∃ q, ρ id = some q ∧ q ∈ f.1) ∧ ∃ l, r.tch = .ids l ∧ ∀ id ∈ l, ∃ q, ρ id = some q ∧ q ∈ f.2
structure Hist (n0 : Nat) (ahead : List (List Nat)) (rs : List Rec) (feet : List (List Nat × List Nat)) (ρ : Nat → Option Nat) : Prop where
  len : feet.length = rs.length
  rec_ : ∀ (c : Nat) r f, rs[c]? = some r → feet[c]? = some f → RecH ρ r f
  known : ∀ (c : Nat) r ah, rs[c]? = some r → ahead[c]? = some ah → ∀ rs', (∀ (i : Nat) a, rs[i]? = some a → rs'[i]? = some a) → r.rds.all (rdOk n0 rs' ah) = true ∧ tchOk n0 rs' ah r.tch = true

theorem RecH.mono {ρ ρ' : Nat → Option Nat} (h : ∀ id q, ρ id = some q → ρ' id = some q) {r : Rec} {f : List Nat × List Nat} (hr : RecH ρ r f) : RecH ρ' r f :=
  ⟨fun x hx => let ⟨id, h1, q, h2, h3⟩ := hr.1 x hx; ⟨id, h1, q, h _ _ h2, h3⟩, let ⟨l, h1, h2⟩ := hr.2; ⟨l, h1, fun id hid => let ⟨q, h3, h4⟩ := h2 id hid; ⟨q, h _ _ h3, h4⟩⟩⟩

def rtOf (d : Option Nat) (info : List (Nat × Nat × List Nat)) : Nat := match d with
  | some T => (infoOf T info).1
  | none => 0
/-- the step of one operation -/
theorem step_inv {n0 i : Nat} {rs : List Rec} {A A1 : Tok} {V V1 : VSt} {st st1 : St} {info info' : List (Nat × Nat × List Nat)} {ρ : Nat → Option Nat} {f : Foot} {d : Option Nat} {r : Rec} {feet : List (List Nat × List Nat)} {ahead : List (List Nat)} {ah : List Nat}
    (hR : R A V st) (hR1 : R A1 V1 st1) (hF : Fr V A st.H st.nx V1 A1 st1.H st1.nx) (hx : ∀ O x, A O = some x → A1 O = some x) (hinv : DInv n0 rs A V st info ρ) (hh : Hist n0 ahead rs feet ρ) (hi : rs.length = i)
    (hfo : FootOk A V f r) (h0 : r.nx0 = st.nx) (h1 : r.nx1 = st1.nx) (hah : ahead[i]? = some ah) (hch : chainsOk info ah (f.rd ++ f.wr) = true) (hs : stepI d i V V1 f info = some info') :
    ∃ ρ', DInv n0 (rs ++ [r]) A1 V1 st1 info' ρ' ∧ Hist n0 ahead (rs ++ [r]) (feet ++ [(rootsOf info f.rd, rootsOf info f.wr)]) ρ' := by
  have hlast : (rs ++ [r])[i]? = some r := by rw [List.getElem?_append_right (by omega), hi, Nat.sub_self]; rfl
  have hold : ∀ (c : Nat) a, rs[c]? = some a → (rs ++ [r])[c]? = some a := fun c a hc => by
    rw [List.getElem?_append_left (List.getElem?_eq_some_iff.1 hc).1]; exact hc
  -- what names there are
  have hkeys : ∀ T o, V1.H.get T = some o → (∃ o', V.H.get T = some o') ∨ d = some T := by
    unfold stepI at hs
    split at hs
    · cases hs
    · rename_i hc
      intro T o hT
      have := allK_get _ _ hc T o hT
      rw [Bool.or_eq_true] at this
      rcases this with h | h
      · exact .inl (hasO_iff.1 h)
      · right
        cases d with
        | none => cases h
        | some d => simp [isD] at h; rw [h]
  -- the name that is new
  have hnew : ∀ T, d = some T → V.H.get T = none → ∀ o, V1.H.get T = some o → ∃ rt ch, info' = (T, rt, ch) :: info ∧ i ∈ ch ∧ ∀ O o', V.H.get O = some o' → V1.H.get O = none → (infoOf O info).1 = rt ∧ ∀ c ∈ (infoOf O info).2, c ∈ ch := by
    intro T hd hT o ho
    subst hd
    unfold stepI at hs
    split at hs
    · cases hs
    simp only at hs
    have hb : (hasO V1 T && !hasO V T) = true := by
      have e1 : hasO V1 T = true := hasO_iff.2 ⟨o, ho⟩
      have e2 : hasO V T = false := by
        cases hh : hasO V T with
        | false => rfl
        | true => obtain ⟨o', h'⟩ := hasO_iff.1 hh; rw [hT] at h'; cases h'
      rw [e1, e2]; rfl
    rw [hb] at hs
    simp only at hs
    split at hs
    · cases hs
    rename_i hc
    have gone : ∀ O o', V.H.get O = some o' → V1.H.get O = none → O ∈ f.src := fun O o' h2 h3 => by
      have := allK_get _ _ hc O o' h2
      rw [Bool.or_eq_true] at this
      rcases this with h | h
      · exact memB_iff.1 h
      · obtain ⟨o2, h4⟩ := hasO_iff.1 h; rw [h3] at h4; cases h4
    split at hs
    · rename_i hsrc
      cases hs
      exact ⟨_, _, rfl, by simp, fun O o' h2 h3 => by have := gone O o' h2 h3; rw [hsrc] at this; cases this⟩
    · rename_i O1 hsrc
      cases hs
      refine ⟨_, _, rfl, List.mem_cons_self, fun O o' h2 h3 => ?_⟩
      have := gone O o' h2 h3
      rw [hsrc] at this
      simp at this
      subst this
      exact ⟨rfl, fun c hc => List.mem_cons_of_mem _ hc⟩
    · cases hs
  -- what was there keeps its kin
  have hsame : ∀ T o, V.H.get T = some o → infoOf T info' = infoOf T info := by
    intro T o hT
    unfold stepI at hs
    split at hs
    · cases hs
    cases d with
    | none => cases hs; rfl
    | some d =>
    simp only at hs
    split at hs
    · cases hs; rfl
    rename_i hb
    simp only [Bool.and_eq_true, Bool.not_eq_true'] at hb
    have hne : d ≠ T := by
      rintro rfl
      rw [hasO_iff.2 ⟨o, hT⟩] at hb
      exact absurd hb.2 (by decide)
    split at hs
    · cases hs
    split at hs
    · cases hs; rw [infoOf_cons, if_neg hne]
    · cases hs; rw [infoOf_cons, if_neg hne]
    · cases hs
  -- the new name's object: fresh, or that of a name that is given up
  have hid : ∀ T, d = some T → V.H.get T = none → ∀ o a id, V1.H.get T = some o → A1 T = some a → idOf a = some id → (st.nx ≤ id ∧ id < st1.nx) ∨ ∃ O o' a', V.H.get O = some o' ∧ V1.H.get O = none ∧ A O = some a' ∧ idOf a' = some id := by
    intro T hd hT o a id ho ha hida
    have hown1 : Own V1 A1 id := ⟨T, o, a, ho, ha, hida⟩
    rcases hF.own id hown1 with ⟨O, o', a', g1, g2, g3⟩ | hle
    · right
      refine ⟨O, o', a', g1, ?_, g2, g3⟩
      cases hO : V1.H.get O with
      | none => rfl
      | some o2 =>
        have := hR1.inj O T o2 o a' a id hO ho (hx _ _ g2) ha g3 hida
        subst this
        rw [hT] at g1; cases g1
    · exact .inl ⟨hle, hR1.own_lt hown1⟩
  -- the ids' kin, with the new ones
  let rtD : Nat := rtOf d info'
  let ρ' : Nat → Option Nat := fun id => if id < st.nx then ρ id else if id < st1.nx then some rtD else none
  have hρ : ∀ id q, ρ id = some q → ρ' id = some q := fun id q h => by
    show (if id < st.nx then ρ id else _) = _
    rw [if_pos (hinv.dom id q h)]; exact h
  have halive : ∀ T o, V.H.get T = some o → ∃ a, A T = some a := fun T o h => let ⟨a, h1, _⟩ := hR.heap T o h; ⟨a, h1⟩
  refine ⟨ρ', ⟨fun T o a id ho ha hida => ?_, fun T o a id ho ha hida => ?_, fun id q h => ?_⟩, ⟨by simp [hh.len], fun c r' f' hr hf => ?_, fun c r' ah' hr ha' rs' hrs' => ?_⟩⟩
  · cases hT : V.H.get T with
    | some o' =>
      obtain ⟨a', ha'⟩ := halive T o' hT
      have := hx _ _ ha'
      rw [ha] at this; cases this
      rw [hsame T o' hT]
      exact (hinv.known T o' a id hT ha' hida).imp (fun h => h) (fun ⟨c, h2, r2, h3, h4⟩ => ⟨c, h2, r2, hold c r2 h3, h4⟩)
    | none =>
      have hd : d = some T := (hkeys T o ho).elim (fun ⟨o', h⟩ => by rw [hT] at h; cases h) (fun h => h)
      obtain ⟨rt, ch, hinfo, hich, hO⟩ := hnew T hd hT o ho
      rw [hinfo, infoOf_cons, if_pos rfl]
      rcases hid T hd hT o a id ho ha hida with ⟨h2, h3⟩ | ⟨O, o', a', g1, g2, g3, g4⟩
      · exact .inr ⟨i, hich, r, hlast, by rw [h0]; exact h2, by rw [h1]; exact h3⟩
      · obtain ⟨_, hc⟩ := hO O o' g1 g2
        exact (hinv.known O o' a' id g1 g3 g4).imp (fun h => h) (fun ⟨c, h2, r2, h3, h4⟩ => ⟨c, hc c h2, r2, hold c r2 h3, h4⟩)
  · cases hT : V.H.get T with
    | some o' =>
      obtain ⟨a', ha'⟩ := halive T o' hT
      have := hx _ _ ha'
      rw [ha] at this; cases this
      rw [hsame T o' hT]
      exact hρ _ _ (hinv.root T o' a id hT ha' hida)
    | none =>
      have hd : d = some T := (hkeys T o ho).elim (fun ⟨o', h⟩ => by rw [hT] at h; cases h) (fun h => h)
      obtain ⟨rt, ch, hinfo, hich, hO⟩ := hnew T hd hT o ho
      rcases hid T hd hT o a id ho ha hida with ⟨h2, h3⟩ | ⟨O, o', a', g1, g2, g3, g4⟩
      · show (if id < st.nx then ρ id else if id < st1.nx then some rtD else none) = _
        rw [if_neg (by omega), if_pos h3]
        show some (rtOf d info') = _
        rw [hd]
        rfl
      · obtain ⟨hroot, _⟩ := hO O o' g1 g2
        rw [hinfo, infoOf_cons, if_pos rfl, ← hroot]
        exact hρ _ _ (hinv.root O o' a' id g1 g3 g4)
  · have h' : (if id < st.nx then ρ id else if id < st1.nx then some rtD else none) = some q := h
    split at h'
    · have := hF.le; omega
    · split at h'
      · assumption
      · cases h'
  · by_cases hc : c < rs.length
    · rw [List.getElem?_append_left hc] at hr
      rw [List.getElem?_append_left (by rw [hh.len]; exact hc)] at hf
      exact (hh.rec_ c r' f' hr hf).mono hρ
    · have hce : c = rs.length := by have := (List.getElem?_eq_some_iff.1 hr).1; simp at this; omega
      subst hce
      rw [List.getElem?_append_right (Nat.le_refl _), Nat.sub_self] at hr
      rw [List.getElem?_append_right (by rw [hh.len]; exact Nat.le_refl _), hh.len, Nat.sub_self] at hf
      cases hr; cases hf
      refine ⟨fun x hx' => ?_, ?_⟩
      · obtain ⟨id, g1, T, g2, o, a, g3, g4, g5⟩ := hfo.rd x hx'
        exact ⟨id, g1, _, hρ _ _ (hinv.root T o a id g3 g4 g5), rootsOf_mem g2⟩
      · obtain ⟨l, g1, g2⟩ := hfo.wr
        refine ⟨l, g1, fun id hid' => ?_⟩
        obtain ⟨T, g3, o, a, g4, g5, g6⟩ := g2 id hid'
        exact ⟨_, hρ _ _ (hinv.root T o a id g4 g5 g6), rootsOf_mem g3⟩
  · by_cases hc : c < rs.length
    · rw [List.getElem?_append_left hc] at hr
      exact hh.known c r' ah' hr ha' rs' (fun j a hj => hrs' j a (hold j a hj))
    · have hce : c = rs.length := by have := (List.getElem?_eq_some_iff.1 hr).1; simp at this; omega
      subst hce
      rw [List.getElem?_append_right (Nat.le_refl _), Nat.sub_self] at hr
      cases hr
      rw [hi, hah] at ha'; cases ha'
      have okId : ∀ T o a id, T ∈ f.rd ++ f.wr → V.H.get T = some o → A T = some a → idOf a = some id → idOk n0 rs' ah id = true := by
        intro T o a id hT g1 g2 g3
        unfold idOk
        rw [Bool.or_eq_true]
        rcases hinv.known T o a id g1 g2 g3 with h | ⟨c, h2, r2, h3, h4, h5⟩
        · exact .inl (by simpa using h)
        · right
          rw [List.any_eq_true]
          refine ⟨c, chainsOk_mem hch T hT c h2, ?_⟩
          rw [hrs' c r2 (hold c r2 h3)]
          simp only [Bool.and_eq_true]
          exact ⟨by simpa using h4, by simpa using h5⟩
      refine ⟨List.all_eq_true.2 (fun x hx' => ?_), ?_⟩
      · obtain ⟨id, g1, T, g2, o, a, g3, g4, g5⟩ := hfo.rd x hx'
        have := okId T o a id (List.mem_append_left _ g2) g3 g4 g5
        cases x with
        | rng q => cases g1; exact this
        | obj j => cases g1; exact this
        | all => cases g1
      · obtain ⟨l, g1, g2⟩ := hfo.wr
        rw [g1]
        refine List.all_eq_true.2 (fun id hid' => ?_)
        obtain ⟨T, g3, o, a, g4, g5, g6⟩ := g2 id hid'
        exact okId T o a id (List.mem_append_right _ g3) g4 g5 g6

theorem knownAll_of {n0 : Nat} {rs : List Rec} : ∀ (ahead : List (List Nat)) (l : List Rec), ahead.length = l.length → (∀ (c : Nat) r ah, l[c]? = some r → ahead[c]? = some ah → r.rds.all (rdOk n0 rs ah) = true ∧ tchOk n0 rs ah r.tch = true) → knownAll n0 rs ahead l = true
  | [], [], h, hk => rfl
  | [], _ :: _, h, hk => by cases h
  | _ :: _, [], h, hk => by cases h
  | a :: as, r :: l, h, hk => by
    obtain ⟨h1, h2⟩ := hk 0 r a rfl rfl
    simp only [knownAll, h1, h2, Bool.true_and]
    exact knownAll_of as l (Nat.succ.inj h) (fun c r' ah hr ha => hk (c + 1) r' ah (by simpa using hr) (by simpa using ha))
theorem still_of {ρ : Nat → Option Nat} {a b : Rec} {fa fb : List Nat × List Nat} (ha : RecH ρ a fa) (hb : RecH ρ b fb) (hd : ∀ q ∈ fa.2, q ∉ fb.1) : still a b = true := by
  unfold still
  rw [allB_true]
  intro x hx
  obtain ⟨id, h1, q, h2, h3⟩ := hb.1 x hx
  obtain ⟨l, h4, h5⟩ := ha.2
  have hno : id ∉ l := fun hm => by
    obtain ⟨q', h6, h7⟩ := h5 id hm
    rw [h2] at h6; cases h6
    exact hd q h7 h3
  have hc : l.contains id = false := by
    cases hh : l.contains id with
    | false => rfl
    | true => exact absurd (by simpa using hh) hno
  cases x with
  | rng r => cases h1; simp only [still1, h4, hc, cond_false]
  | obj j => cases h1; simp only [still1, h4, hc, Bool.not_false]
  | all => cases h1
theorem apart_of {ρ : Nat → Option Nat} {a b : Rec} {fa fb : List Nat × List Nat} (ha : RecH ρ a fa) (hb : RecH ρ b fb) (hd : ∀ q ∈ fa.2, q ∉ fb.2) : apart a b = true := by
  obtain ⟨l, h1, h2⟩ := ha.2
  obtain ⟨l', h3, h4⟩ := hb.2
  unfold apart
  rw [h1, h3]
  simp only
  rw [List.all_eq_true]
  intro id hid
  obtain ⟨q, h5, h6⟩ := h2 id hid
  cases hh : l'.contains id with
  | false => rfl
  | true =>
    obtain ⟨q', h7, h8⟩ := h4 id (by simpa using hh)
    rw [h5] at h7; cases h7
    exact absurd h8 (hd q h6)
theorem pairs_of {n0 : Nat} {ahead : List (List Nat)} {rs : List Rec} {feet : List (List Nat × List Nat)} {ρ : Nat → Option Nat} (hh : Hist n0 ahead rs feet ρ) : ∀ {pairs : List (Nat × Nat)}, pairsB feet pairs = true → allB (pairOk rs) pairs = true
  | [], h => rfl
  | (i, j) :: l, h => by
    simp only [pairsB, Bool.and_eq_true] at h
    rw [allB_true]
    intro p hp
    rcases List.mem_cons.1 hp with rfl | hp
    · have h1 := h.1
      split at h1
      rotate_left
      · cases h1
      rename_i fa hfa
      split at h1
      rotate_left
      · cases h1
      rename_i fb hfb
      rw [Bool.and_eq_true, Bool.and_eq_true] at h1
      obtain ⟨d1, d2, d3⟩ := h1
      have li := (List.getElem?_eq_some_iff.1 hfa).1
      have lj := (List.getElem?_eq_some_iff.1 hfb).1
      rw [hh.len] at li lj
      have ra := List.getElem?_eq_getElem li
      have rb := List.getElem?_eq_getElem lj
      have ha := hh.rec_ i _ fa ra hfa
      have hb := hh.rec_ j _ fb rb hfb
      unfold pairOk
      simp only [ra, rb, Bool.and_eq_true]
      exact ⟨⟨still_of ha hb (disjB_mem d1), still_of hb ha (disjB_mem d2)⟩, apart_of ha hb (disjB_mem d3)⟩
    · exact allB_true.1 (pairs_of hh h.2) p hp

theorem evD_run (hsh : sh.vs = VSh prog) {ahead : List (List Nat)} {pairs : List (Nat × Nat)} {n0 : Nat} : ∀ (ops : List AOper) (i : Nat) (V : VSt) (A : Tok) (st : St) (info : List (Nat × Nat × List Nat)) (feet : List (List Nat × List Nat)) (rs : List Rec) (ρ : Nat → Option Nat) (k : VSt → Prop),
    R A V st → DInv n0 rs A V st info ρ → Hist n0 ahead rs feet ρ → rs.length = i → evD sh prog nt ahead pairs ops i V info feet k →
    ∃ st' l, runDOps (runFn prog) nt n0 ops st = some (st', l) ∧ knownAll n0 (rs ++ l) ahead (rs ++ l) = true ∧ allB (pairOk (rs ++ l)) pairs = true ∧ ∃ V' A', R A' V' st' ∧ Fr V A st.H st.nx V' A' st'.H st'.nx ∧ k V'
  | [], i, V, A, st, info, feet, rs, ρ, k, hR, hinv, hh, hi, hk => by
    simp only [evD] at hk
    split at hk
    · rename_i hb
      rw [Bool.and_eq_true, Nat.beq_eq] at hb
      refine ⟨st, [], rfl, ?_, ?_, V, A, hR, Fr.refl _ _ _ _, hk⟩
      · rw [List.append_nil]
        exact knownAll_of ahead rs (by rw [hb.1, hi]) (fun c r ah hr ha => hh.known c r ah hr ha rs (fun _ _ h => h))
      · rw [List.append_nil]; exact pairs_of hh hb.2
    · cases hk
  | o :: l, i, V, A, st, info, feet, rs, ρ, k, hR, hinv, hh, hi, hk => by
    have hk' : evO sh prog nt V o fun V' => match foot V o with
      | none => False
      | some f => match ahead[i]? with
        | none => False
        | some ah => match chainsOk info ah (f.rd ++ f.wr) with
          | false => False
          | true => match stepI o.dst i V V' f info with
            | none => False
            | some info' => evD sh prog nt ahead pairs l (i + 1) V' info' (feet ++ [(rootsOf info f.rd, rootsOf info f.wr)]) k := hk
    obtain ⟨st1, h1, V1, A1, h2, h3, hx, h4⟩ := evO_sim hsh hR hk'
    split at h4
    · cases h4
    rename_i f hf
    split at h4
    · cases h4
    rename_i ah hah
    split at h4
    · cases h4
    rename_i hch
    split at h4
    · cases h4
    rename_i info' hs
    obtain ⟨r, g1, g2, g3, g4⟩ := evO_eff hR hk' hf h1 n0
    obtain ⟨ρ', p1, p2⟩ := step_inv hR h2 h3 hx hinv hh hi g2 g3 g4 hah hch hs
    obtain ⟨st2, l2, q1, q2, q3, V2, A2, q4, q5, q6⟩ := evD_run hsh l (i + 1) V1 A1 st1 info' _ (rs ++ [r]) ρ' k h2 p1 p2 (by simp [hi]) h4
    refine ⟨st2, r :: l2, by simp only [runDOps, g1, q1], ?_, ?_, V2, A2, q4, h3.trans q5, q6⟩
    · rwa [List.append_assoc] at q2
    · rwa [List.append_assoc] at q3
open Classical in
noncomputable def rhoOf (V : VSt) (A : Tok) (id : Nat) : Option Nat := if h : ∃ T o a, V.H.get T = some o ∧ A T = some a ∧ idOf a = some id then some (Classical.choose h) else none
theorem rhoOf_some {V : VSt} {A : Tok} {id q : Nat} (h : rhoOf V A id = some q) : ∃ o a, V.H.get q = some o ∧ A q = some a ∧ idOf a = some id := by
  unfold rhoOf at h
  split at h
  · rename_i hh; cases h; exact Classical.choose_spec hh
  · cases h
theorem rhoOf_of {V : VSt} {A : Tok} {st : St} (hR : R A V st) {id T : Nat} {o : VO} {a : AV} (h1 : V.H.get T = some o) (h2 : A T = some a) (h3 : idOf a = some id) : rhoOf V A id = some T := by
  have hh : ∃ T o a, V.H.get T = some o ∧ A T = some a ∧ idOf a = some id := ⟨T, o, a, h1, h2, h3⟩
  unfold rhoOf
  rw [dif_pos hh]
  obtain ⟨o', a', g1, g2, g3⟩ := Classical.choose_spec hh
  congr 1
  exact hR.inj _ T _ _ _ _ id g1 h1 g2 h2 g3 h3
theorem evD_sim (hsh : sh.vs = VSh prog) {A : Tok} {V : VSt} {st : St} {k : VSt → Prop} {ops : List AOper} {ahead : List (List Nat)} {pairs : List (Nat × Nat)} (hR : R A V st) (hk : evD sh prog nt ahead pairs ops 0 V [] [] k) :
    ∃ st', runDreg (runFn prog) nt ops ahead pairs st = some st' ∧ ∃ V' A', R A' V' st' ∧ Fr V A st.H st.nx V' A' st'.H st'.nx ∧ k V' := by
  have own : ∀ T o a id, V.H.get T = some o → A T = some a → idOf a = some id → Own V A id := fun T o a id h1 h2 h3 => ⟨T, o, a, h1, h2, h3⟩
  obtain ⟨st', l, h1, h2, h3, V', A', h4, h5, h6⟩ := evD_run hsh (n0 := st.nx) ops 0 V A st [] [] [] (rhoOf V A) k hR ⟨fun T o a id g1 g2 g3 => .inl (hR.own_lt (own T o a id g1 g2 g3)), fun T o a id g1 g2 g3 => rhoOf_of hR g1 g2 g3, fun id q hq => by
      obtain ⟨o', a', g1, g2, g3⟩ := rhoOf_some hq
      exact hR.own_lt (own _ _ _ _ g1 g2 g3)⟩ ⟨rfl, fun c r f hr => by simp at hr, fun c r ah hr => by simp at hr⟩ rfl hk
  rw [List.nil_append] at h2 h3
  exact ⟨st', by simp only [runDreg, h1, h2, h3, Bool.and_self, cond_true], V', A', h4, h5, h6⟩
end
end Go.Ax.V
