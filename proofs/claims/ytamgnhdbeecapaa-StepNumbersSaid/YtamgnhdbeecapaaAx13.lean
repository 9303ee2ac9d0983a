/- One operation, calls too: what the interpreter answers, the machine answers. -/
import Derived.Test.YtamgnhdbeecapaaAx12
set_option linter.unusedSimpArgs false
set_option linter.unusedVariables false
namespace Go.Ax

/-! ### 1. Is an operation of the interpreter the machine's? -/
def mIslice (P : Program) (o : Oper) (len : Nat) (zero : List AV) (parts : List (Nat × Nat × Opd)) : Bool := match o.op with
  | .buildSlice t _ _ => tDesc P t fun d => match d with | .slice e => tInfo P e fun i => mLit P o i.size len zero parts | _ => false
  | _ => false
def mOp (P : Program) (o : Oper) (ao : AOp) : Bool := match ao with
  | .mv x => mMv o x
  | .pick c a b => mPick o c a b
  | .alloc zero => mAlloc P o zero
  | .box x => mBox o x
  | .build zero parts => mBuild P o zero parts
  | .bslice es len zero parts => mLit P o es len zero parts
  | .islice len zero parts => mIslice P o len zero parts
  | .load sz a => mLoad P o sz a
  | .store sz a x => mStore P o sz a x
  | .nilck x => mNilck o x
  | .bin op x y => mBin o op x y
  | .eq t neg x y => mEq P o t neg x y
  | .un op x => mUn o op x
  | .conv k x => mConv P o k x
  | .mksl es bytes zero n => mMksl P o es bytes zero n
  | .slstr x lo hi => mSlstr P o x lo hi
  | .slsl es x lo hi mx => mSlsl P o es x lo hi mx
  | .slarr n es x lo hi mx => mSlarr P o n es x lo hi mx
  | .faddr off x => mFaddr P o off x
  | .fld off sz x => mFld P o off sz x
  | .iaddr es x i => mIaddr P o es x i
  | .iarr len es x i => mIarr P o len es x i
  | .idx x i => mIdx P o x i
  | .ext i x => mExt o i x
  | .app es bytes s x => mApp P o es bytes s x
  | .cpy es d s => mCpy P o es d s
  | .clr es zero x => mClr P o es zero x
  | .len str x => mLen P o str x
  | .mnx mx xs => mMnx o mx xs
  | .mkmap => false
  | .mlook _ _ _ _ _ => false
  | .mset _ _ _ _ => false
  | .mlen _ => false
  | .call f args _ => match o.op with
    | .call { callee := .value (.func g), args := as, argTypes := _ } => Nat.beq g f && mOpds as.toList args
    | _ => false
  | .callv f args _ => match o.op with
    | .call { callee := .value x, args := as, argTypes := _ } => mOpd x f && mOpds as.toList args
    | _ => false

section
variable {top : Nat} {P : Program} {φ : Phi} {K : Nat → Prop} {h : HeapF} {nx : Nat} {w : World} {ρ : Opd → AV} {ρc : Operand → Value} {o : Oper}

theorem s_plan (s : Sim top φ K h nx w) (hρ : ∀ x y, mOpd x y = true → RelV φ K w (ρ y) (ρc x)) {ao : AOp} (hm : mOp P o ao = true) {pf : (Opd → AV) → Option Plan} (hk : kind ao = .plan pf) {p : Plan} (hp : pf ρ = some p) : Sound top P φ K h nx w ρc o p := by
  cases ao with
  | mv x => cases hk; cases hp; exact s_mv s hρ hm
  | pick c a b => cases hk; exact s_pick s hρ hm hp
  | alloc zero => cases hk; cases hp; exact s_alloc s hm
  | box x => cases hk; exact s_box s hρ hm hp
  | build zero parts => cases hk; exact s_build s hρ hm hp
  | bslice es len zero parts => cases hk; exact s_bslice s hρ hm hp
  | islice len zero parts =>
    cases hk
    have hm' : mIslice P o len zero parts = true := hm
    unfold mIslice at hm'
    split at hm'
    · obtain ⟨d, _, hd⟩ := tDesc_some hm'
      split at hd
      · obtain ⟨i, _, hi⟩ := tInfo_some hd
        exact s_islice s (fun x y _ => hρ x y) hi hp
      · cases hd
    · cases hm'
  | load sz a => cases hk; exact s_load s hρ hm hp
  | store sz a x => cases hk; exact s_store s hρ hm hp
  | nilck x => cases hk; exact s_nilck s hρ hm hp
  | bin op x y => cases hk; exact s_bin s hρ hm hp
  | eq t neg x y => cases hk; exact s_eq s hρ hm hp
  | un op x => cases hk; exact s_un s hρ hm hp
  | conv k x => cases hk; exact s_conv s hρ hm hp
  | mksl es bytes zero n => cases hk; exact s_mksl s hρ hm hp
  | slstr x lo hi => cases hk; exact s_slstr s hρ hm hp
  | slsl es x lo hi mx => cases hk; exact s_slsl s hρ hm hp
  | slarr n es x lo hi mx => cases hk; exact s_slarr s hρ hm hp
  | faddr off x => cases hk; exact s_faddr s hρ hm hp
  | fld off sz x => cases hk; exact s_fld s hρ hm hp
  | iaddr es x i => cases hk; exact s_iaddr s hρ hm hp
  | iarr len es x i => cases hk; exact s_iarr s hρ hm hp
  | idx x i => cases hk; exact s_idx s hρ hm hp
  | ext i x => cases hk; exact s_ext s hρ hm hp
  | app es bytes a x => cases hk; exact s_app s hρ hm hp
  | cpy es d a => cases hk; exact s_cpy s hρ hm hp
  | clr es zero x => cases hk; exact s_clr s hρ hm hp
  | len str x => cases hk; exact s_len s hρ hm hp
  | mnx mx xs => cases hk; exact s_mnx s hρ hm hp
  | mkmap => cases hm
  | mlook _ _ _ _ _ => cases hm
  | mset _ _ _ _ => cases hm
  | mlen _ => cases hm
  | call f args m => cases hk
  | callv f args m => cases hk

/-- What an operation comes to, said of the machine. -/
def Ends (top : Nat) (φ : Phi) (K : Nat → Prop) (h : HeapF) (nx : Nat) (w : World) (v : AV) (h' : HeapF) (nx' : Nat) (V : Value) (w' : World) : Prop :=
  ∃ φ' K', Goes top φ K h nx w φ' K' h' nx' w' ∧ RelV φ' K' w' v V
def OpOk (top : Nat) (P : Program) (φ : Phi) (K : Nat → Prop) (h : HeapF) (nx : Nat) (w : World) (o : Oper) (a : Act) (v : AV) (h' : HeapF) (nx' : Nat) : Prop :=
  ∀ (next : Act → World → Prop) (Q : Exit → Act → World → Prop), (∀ V w', Ends top φ K h nx w v h' nx' V w' → next (a.put o.dst V) w') → o.wp P a w next Q

theorem op_of_plan {a : Act} {p : Plan} (hs : Sound top P φ K h nx w a.eval o p) {v : AV} {h' : HeapF} {nx' : Nat} (hr : runF p h nx = some (v, h', nx')) (ht : nx' ≤ top) : OpOk top P φ K h nx w o a v h' nx' := by
  intro next Q hn
  obtain ⟨V, w', φ', K', hrun, hg, hv⟩ := hs v h' nx' hr ht
  unfold Oper.wp
  rcases hrun with hrun | ⟨hrun, rfl⟩
  · rw [hrun]; exact hn V w' ⟨φ', K', hg, hv⟩
  · rw [hrun]; exact hn undef w' ⟨φ', K', hg, hv⟩

/-! ### 2. Some objects are never changed again -/
theorem drop_get : ∀ (ids : List Nat) (H : Heap) (id : Nat), (drop H ids).get id = if id ∈ ids then none else H.get id
  | [], H, id => by simp [drop]
  | i :: ids, H, id => by
    rw [drop, drop_get ids, Map.get_put]
    by_cases h1 : id ∈ ids
    · rw [if_pos h1, if_pos (List.mem_cons_of_mem _ h1)]
    · rw [if_neg h1]
      by_cases h2 : id = i
      · rw [if_pos h2, if_pos (by rw [h2]; exact List.mem_cons_self ..)]
      · rw [if_neg h2, if_neg (by simp [h1, h2])]

/-- the blocks of some objects -/
def Of (φ : Phi) (h : HeapF) (ids : List Nat) (b : Nat) : Prop := ∃ id, id ∈ ids ∧ ∃ ob base, h id = some ob ∧ φ id (gen ob) = some (b, base)

theorem goes_freeze (s : Sim top φ K h nx w) (ids : List Nat) (h' : HeapF) (hd : ∀ id, h' id = if id ∈ ids then none else h id) : Goes top φ K h nx w φ (fun b => K b ∨ Of φ h ids b) h' nx w := by
  have hsub : ∀ id ob, h' id = some ob → h id = some ob ∧ id ∉ ids := by
    intro id ob hh
    rw [hd] at hh
    split at hh
    · cases hh
    · rename_i hn; exact ⟨hh, hn⟩
  have hmut : ∀ b, Mut φ h' b → Mut φ h b := fun b ⟨id, ob, base, h1, h2⟩ => ⟨id, ob, base, (hsub _ _ h1).1, h2⟩
  have hval : ∀ {a : AV} {v : Value}, RelV φ K w a v → RelV φ (fun b => K b ∨ Of φ h ids b) w a v := fun r => RelV.keep (fun _ _ _ h => h) (fun _ h => .inl h) (fun _ _ => rfl) (fun _ c _ _ h => ⟨c, h, rfl⟩) r
  refine ⟨fun _ _ _ h => h, fun _ h => .inl h, ⟨fun b hb => ?_, fun id g cells hh => ?_, fun id es hh => ?_, fun id id' ob ob' b base base' h1 h2 => s.inj id id' ob ob' b base base' (hsub _ _ h1).1 (hsub _ _ h2).1, fun id ob hh => s.low id ob (hsub _ _ hh).1, s.new⟩,
    Ext.refl _ _, fun b hb => .inl (hmut b hb), fun b hb => ?_, fun _ _ _ h => .inl h, fun id hi => ?_, Nat.le_refl _⟩
  · rcases hb with hb | ⟨id, hid, ob, base, h1, h2⟩
    · exact ⟨(s.kin b hb).1, fun hm => (s.kin b hb).2 (hmut b hm)⟩
    · refine ⟨place_lt s h1 h2, fun ⟨id', ob', base', h3, h4⟩ => ?_⟩
      have := s.inj id id' ob ob' b base base' h1 (hsub _ _ h3).1 h2 h4
      subst this
      exact (hsub _ _ h3).2 hid
  · obtain ⟨b, base, c, e, h1, h2, h3, h4⟩ := s.row id g cells (hsub _ _ hh).1
    exact ⟨b, base, c, e, h1, h2, h3, fun j a ha => ⟨(h4 j a ha).1, let ⟨v, a1, a2⟩ := (h4 j a ha).2; ⟨v, a1, hval a2⟩⟩⟩
  · obtain ⟨b, mes, clk, h1, h2, h3, h4⟩ := s.map id es (hsub _ _ hh).1
    exact ⟨b, mes, clk, h1, h2, h3, fun j k v hj => let ⟨me, m1, m2, m3⟩ := h4 j k v hj; ⟨me, m1, hval m2, hval m3⟩⟩
  · rcases hb with hb | ⟨id, _, ob, base, h1, h2⟩
    · exact .inl hb
    · exact .inr (.inr ⟨id, ob, base, h1, h2⟩)
  · cases hh : h' id with
    | none => rw [hh] at hi; cases hi
    | some ob => rw [(hsub _ _ hh).1]; exact .inl rfl

theorem Goes.from {φ1 : Phi} {K1 : Nat → Prop} {h1 : HeapF} {nx1 : Nat} {w1 : World} (g : Goes top φ K h nx w φ1 K1 h1 nx1 w1) {v : AV} {h' : HeapF} {nx' : Nat} {V : Value} {w' : World} (e : Ends top φ1 K1 h1 nx1 w1 v h' nx' V w') : Ends top φ K h nx w v h' nx' V w' :=
  let ⟨φ', K', g', r⟩ := e; ⟨φ', K', g.trans g', r⟩

theorem op_of_fz {a : Act} {H : Heap} (s : Sim top φ K h nx w) (hρ : ∀ x y, mOpd x y = true → RelV φ K w (ρ y) (a.eval x)) {len : Nat} {zero : List AV} {parts : List (Nat × Nat × Opd)} (hm : mIslice P o len zero parts = true)
    (hH : ∀ id, id ∈ (parts.map fun p => ρ p.2.2).flatMap (idsOf deep H) → h id = H.get id)
    {vs : List AV} (hall : mapO (toImm deep H) (parts.map fun p => ρ p.2.2) = some vs) {v : AV} (hp : pIslice (immρ H ρ) len zero parts = some (.val v)) (ht : nx ≤ top) :
    OpOk top P φ K h nx w o a v (fun id => if id ∈ (parts.map fun p => ρ p.2.2).flatMap (idsOf deep H) then none else h id) nx := by
  have hg := goes_freeze s ((parts.map fun p => ρ p.2.2).flatMap (idsOf deep H)) (fun id => if id ∈ (parts.map fun p => ρ p.2.2).flatMap (idsOf deep H) then none else h id) (fun id => rfl)
  have hρ' : ∀ x y, y ∈ parts.map (·.2.2) → mOpd x y = true → RelV φ (fun b => K b ∨ Of φ h ((parts.map fun p => ρ p.2.2).flatMap (idsOf deep H)) b) w (immρ H ρ y) (a.eval x) := by
    intro x y hy hxy
    obtain ⟨pt, hpt, rfl⟩ := List.mem_map.1 hy
    have hmem : ρ pt.2.2 ∈ parts.map fun p => ρ p.2.2 := List.mem_map.2 ⟨pt, hpt, rfl⟩
    obtain ⟨j, hj, hjj⟩ := List.getElem_of_mem hmem
    obtain ⟨_, hat⟩ := mapO_some hall
    obtain ⟨v', _, hv'⟩ := hat j _ (by rw [List.getElem?_eq_getElem hj, hjj])
    unfold immρ
    rw [hv']
    refine .pure (toImm_rel s H _ deep _ _ _ hv' (fun id hid => ⟨hH id (List.mem_flatMap.2 ⟨_, hmem, hid⟩), fun ob b base h1 h2 => .inr ⟨id, List.mem_flatMap.2 ⟨_, hmem, hid⟩, ob, base, h1, h2⟩⟩) (.inl fun b hb => .inl hb) (hρ _ _ hxy))
  have hs : Sound top P φ (fun b => K b ∨ Of φ h ((parts.map fun p => ρ p.2.2).flatMap (idsOf deep H)) b) (fun id => if id ∈ (parts.map fun p => ρ p.2.2).flatMap (idsOf deep H) then none else h id) nx w a.eval o (.val v) := by
    unfold mIslice at hm
    split at hm
    · obtain ⟨d, _, hd⟩ := tDesc_some hm
      split at hd
      · obtain ⟨i, _, hi⟩ := tInfo_some hd
        exact s_islice hg.sim hρ' hi hp
      · cases hd
    · cases hm
  intro next Q hn
  exact op_of_plan hs (nx' := nx) rfl ht next Q (fun V w' e => hn V w' (hg.from e))
end
end Go.Ax
