/- Operations look at their operands alone; which ones look at no object. -/
import Derived.Test.YtamgnhdbeecapaaAx15
set_option linter.unusedSimpArgs false
set_option linter.unusedVariables false
namespace Go.Ax

section
variable {ρ ρ' : Opd → AV}

theorem fill_congr : ∀ (parts : List (Nat × Nat × Opd)) (cells : List AV), (∀ x, x ∈ parts.map (·.2.2) → ρ x = ρ' x) → fill ρ parts cells = fill ρ' parts cells := by
  intro parts
  induction parts with
  | nil => intro cells _; rfl
  | cons p parts ih =>
    intro cells h
    rw [fill_cons, fill_cons, h p.2.2 (by simp)]
    have ih' : ∀ cells, fill ρ parts cells = fill ρ' parts cells := fun cells => ih cells (fun x hx => h x (by rw [List.map_cons]; exact List.mem_cons_of_mem _ hx))
    simp only [ih']

theorem bnd_congr {x : Option Opd} (h : ∀ y, y ∈ x.toList → ρ y = ρ' y) (other y : Nat) : bnd ρ x other y = bnd ρ' x other y := by
  cases x with
  | none => rfl
  | some o => simp only [bnd, h o (by simp)]
theorem bnds_congr {lo hi mx : Option Opd} (h1 : ∀ y, y ∈ lo.toList → ρ y = ρ' y) (h2 : ∀ y, y ∈ hi.toList → ρ y = ρ' y) (h3 : ∀ y, y ∈ mx.toList → ρ y = ρ' y) (len cap : Nat) : bnds ρ lo hi mx len cap = bnds ρ' lo hi mx len cap := by
  simp only [bnds, bnd_congr h1, bnd_congr h2, bnd_congr h3]

theorem slA_congr {es : Nat} {v : AV} {lo hi mx : Option Opd} (h1 : ∀ y, y ∈ lo.toList → ρ y = ρ' y) (h2 : ∀ y, y ∈ hi.toList → ρ y = ρ' y) (h3 : ∀ y, y ∈ mx.toList → ρ y = ρ' y) : slA es ρ v lo hi mx = slA es ρ' v lo hi mx := by
  simp only [slA, bnds_congr h1 h2 h3]

theorem kind_congr (op : AOp) (h : ∀ x, x ∈ op.opds → ρ x = ρ' x) {p : (Opd → AV) → Option Plan} (hk : kind op = .plan p) : p ρ = p ρ' := by
  cases op <;> cases hk
  case mv x => simp only [h x (by simp [AOp.opds])]
  case pick c a b => simp only [pPick, h c (by simp [AOp.opds]), h a (by simp [AOp.opds]), h b (by simp [AOp.opds])]
  case alloc => rfl
  case box x => simp only [pBox, h x (by simp [AOp.opds])]
  case build zero parts => simp only [pBuild, fill_congr parts zero h]
  case bslice es len zero parts => simp only [pBslice, fill_congr parts zero h]
  case islice len zero parts => simp only [pIslice, fill_congr parts zero h]
  case load sz a => simp only [pLoad, h a (by simp [AOp.opds])]
  case store sz a x => simp only [pStore, h a (by simp [AOp.opds]), h x (by simp [AOp.opds])]
  case nilck x => simp only [pNilck, h x (by simp [AOp.opds])]
  case bin op x y => simp only [h x (by simp [AOp.opds]), h y (by simp [AOp.opds])]
  case eq t neg x y => simp only [pEq, h x (by simp [AOp.opds]), h y (by simp [AOp.opds])]
  case un op x => simp only [h x (by simp [AOp.opds])]
  case conv k x => simp only [pConv, h x (by simp [AOp.opds])]
  case mksl es bytes zero n => simp only [pMksl, h n (by simp [AOp.opds])]
  case slstr x lo hi =>
    have e := fun len cap => bnds_congr (ρ := ρ) (ρ' := ρ') (lo := lo) (hi := hi) (mx := none) (fun y hy => h y (by simp [AOp.opds]; simp at hy; exact .inr (.inl hy))) (fun y hy => h y (by simp [AOp.opds]; simp at hy; exact .inr (.inr hy))) (fun y hy => by simp at hy) len cap
    simp only [pSlstr, h x (by simp [AOp.opds]), e]
  case slsl es x lo hi mx =>
    have e := fun v => slA_congr (ρ := ρ) (ρ' := ρ') (es := es) (v := v) (lo := lo) (hi := hi) (mx := mx) (fun y hy => h y (by simp [AOp.opds]; simp at hy; exact .inr (.inl hy))) (fun y hy => h y (by simp [AOp.opds]; simp at hy; exact .inr (.inr (.inl hy)))) (fun y hy => h y (by simp [AOp.opds]; simp at hy; exact .inr (.inr (.inr hy))))
    simp only [h x (by simp [AOp.opds]), e]
  case slarr n es x lo hi mx =>
    have e := fun len cap => bnds_congr (ρ := ρ) (ρ' := ρ') (lo := lo) (hi := hi) (mx := mx) (fun y hy => h y (by simp [AOp.opds]; simp at hy; exact .inr (.inl hy))) (fun y hy => h y (by simp [AOp.opds]; simp at hy; exact .inr (.inr (.inl hy)))) (fun y hy => h y (by simp [AOp.opds]; simp at hy; exact .inr (.inr (.inr hy)))) len cap
    simp only [pSlarr, h x (by simp [AOp.opds]), e]
  case faddr off x => simp only [pFaddr, h x (by simp [AOp.opds])]
  case fld off sz x => simp only [pFld, h x (by simp [AOp.opds])]
  case iaddr es x i => simp only [pIaddr, h x (by simp [AOp.opds]), h i (by simp [AOp.opds])]
  case iarr len es x i => simp only [pIarr, h x (by simp [AOp.opds]), h i (by simp [AOp.opds])]
  case idx x i => simp only [pIdx, h x (by simp [AOp.opds]), h i (by simp [AOp.opds])]
  case ext i x => simp only [pExt, h x (by simp [AOp.opds])]
  case app es bytes s x => simp only [h s (by simp [AOp.opds]), h x (by simp [AOp.opds])]
  case cpy es d s => simp only [h d (by simp [AOp.opds]), h s (by simp [AOp.opds])]
  case clr es zero x => simp only [pClr, h x (by simp [AOp.opds])]
  case len str x => simp only [pLen, h x (by simp [AOp.opds])]
  case mnx mx xs =>
    have e : xs.map ρ = xs.map ρ' := List.map_congr_left (fun x hx => h x (by simpa [AOp.opds] using hx))
    simp only [pMnx, e]
  case mkmap => rfl
  case mlook t zero ok m k => simp only [pMlook, h m (by simp [AOp.opds]), h k (by simp [AOp.opds])]
  case mset t m k v => simp only [pMset, h m (by simp [AOp.opds]), h k (by simp [AOp.opds]), h v (by simp [AOp.opds])]
  case mlen m => simp only [pMlen, h m (by simp [AOp.opds])]
end

/-- it looks at no object and changes none -/
def heapFree (o : AOper) : Bool := !o.fz && match o.op with
  | .mv _ | .pick .. | .alloc _ | .box _ | .build .. | .bslice .. | .islice .. | .nilck _ | .bin .. | .eq .. | .un .. | .conv .. | .mksl .. | .slstr .. | .slsl .. | .faddr .. | .fld .. | .iaddr .. | .iarr .. | .idx .. | .ext .. | .len .. | .mnx .. | .mkmap => true
  | _ => false
/-- it changes none -/
def upFree (o : AOper) : Bool := !o.fz && match o.op with
  | .load .. | .slarr .. | .mlook .. | .mlen _ => true
  | .call _ _ .borrow | .callv _ _ .borrow => true
  | _ => heapFree o

def Plan.free : Plan → Prop
  | .look _ _ _ => False
  | _ => True
theorem free_rds {p : Plan} (h : p.free) : p.rds = [] ∧ p.tch = [] := by cases p <;> first | exact ⟨rfl, rfl⟩ | exact h.elim
theorem pureO_free {v : Option AV} {p : Plan} (h : pureO v = some p) : p.free := by
  obtain ⟨x, _, rfl⟩ := sound_of_O h; trivial

theorem kind_free {o : AOper} (hf : heapFree o = true) {p : (Opd → AV) → Option Plan} (hk : kind o.op = .plan p) {ρ : Opd → AV} {q : Plan} (hp : p ρ = some q) : q.free := by
  simp only [heapFree, Bool.and_eq_true] at hf
  obtain ⟨_, hf⟩ := hf
  cases hop : o.op <;> rw [hop] at hk hf <;> first | cases hf | skip
  all_goals (cases hk)
  case mv => cases hp; trivial
  case pick => simp only at hp; unfold pPick at hp; (repeat' (split at hp <;> try cases hp)) <;> first | trivial | exact pureO_free hp | (cases hp; trivial)
  case alloc => cases hp; trivial
  case box => simp only at hp; unfold pBox at hp; (repeat' (split at hp <;> try cases hp)) <;> first | trivial | exact pureO_free hp | (cases hp; trivial)
  case build => simp only at hp; unfold pBuild at hp; (repeat' (split at hp <;> try cases hp)) <;> first | trivial | exact pureO_free hp | (cases hp; trivial)
  case bslice => simp only at hp; unfold pBslice at hp; (repeat' (split at hp <;> try cases hp)) <;> first | trivial | exact pureO_free hp | (cases hp; trivial)
  case islice => simp only at hp; unfold pIslice at hp; simp only [cond_eq_ite] at hp; (repeat' (split at hp <;> try cases hp)) <;> first | trivial | exact pureO_free hp | (cases hp; trivial)
  case nilck => simp only at hp; unfold pNilck at hp; (repeat' (split at hp <;> try cases hp)) <;> first | trivial | exact pureO_free hp | (cases hp; trivial)
  case bin => exact pureO_free hp
  case eq => simp only at hp; unfold pEq at hp; (repeat' (split at hp <;> try cases hp)) <;> first | trivial | exact pureO_free hp | (cases hp; trivial)
  case un => exact pureO_free hp
  case conv => simp only at hp; unfold pConv at hp; (repeat' (split at hp <;> try cases hp)) <;> first | trivial | exact pureO_free hp | (cases hp; trivial)
  case mksl => simp only at hp; unfold pMksl at hp; simp only [cond_eq_ite] at hp; (repeat' (split at hp <;> try cases hp)) <;> first | trivial | exact pureO_free hp | (cases hp; trivial)
  case slstr => simp only at hp; unfold pSlstr at hp; (repeat' (split at hp <;> try cases hp)) <;> first | trivial | exact pureO_free hp | (cases hp; trivial)
  case slsl => exact pureO_free hp
  case faddr => simp only at hp; unfold pFaddr at hp; (repeat' (split at hp <;> try cases hp)) <;> first | trivial | exact pureO_free hp | (cases hp; trivial)
  case fld => simp only at hp; unfold pFld at hp; (repeat' (split at hp <;> try cases hp)) <;> first | trivial | exact pureO_free hp | (cases hp; trivial)
  case iaddr => simp only at hp; unfold pIaddr at hp; simp only [cond_eq_ite] at hp; (repeat' (split at hp <;> try cases hp)) <;> first | trivial | exact pureO_free hp | (cases hp; trivial)
  case iarr => simp only at hp; unfold pIarr at hp; (repeat' (split at hp <;> try cases hp)) <;> first | trivial | exact pureO_free hp | (cases hp; trivial)
  case idx => simp only at hp; unfold pIdx at hp; (repeat' (split at hp <;> try cases hp)) <;> first | trivial | exact pureO_free hp | (cases hp; trivial)
  case ext => simp only at hp; unfold pExt at hp; (repeat' (split at hp <;> try cases hp)) <;> first | trivial | exact pureO_free hp | (cases hp; trivial)
  case len => simp only at hp; unfold pLen at hp; (repeat' (split at hp <;> try cases hp)) <;> first | trivial | exact pureO_free hp | (cases hp; trivial)
  case mnx => simp only at hp; unfold pMnx at hp; (repeat' (split at hp <;> try cases hp)) <;> first | trivial | exact pureO_free hp | (cases hp; trivial)
  case mkmap => cases hp; trivial
end Go.Ax
