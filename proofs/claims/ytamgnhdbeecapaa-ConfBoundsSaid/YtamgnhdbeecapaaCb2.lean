/- Part 2 of the proof: Ax5, Ax6. -/
import Derived.Test.YtamgnhdbeecapaaCb1
import Derived.Laws.StructEq

set_option linter.unusedSimpArgs false
set_option linter.unusedVariables false
namespace Go.Ax
section
variable {top:Nat} {P:Program} {φ:Phi} {K:Nat→Prop} {h:HeapF} {nx:Nat} {w:World} {ρ:Opd→AV} {ρc:Operand→Value} {o:Oper}
def mNilck (o:Oper) (x:Opd):Bool:=match o.op with
 |.nilCheck x'=>mOpd x' x
 |_=>false
theorem s_nilck (s:Sim top φ K h nx w) (hρ:∀x y,mOpd x y=true→RelV φ K w (ρ y) (ρc x)) {x:Opd} (hm:mNilck o x=true) {p:Plan} (hp:pNilck ρ x=some p):Sound top P φ K h nx w ρc o p:=by
 unfold mNilck at hm
 split at hm
 ·rename_i x' ho
  have hr:=hρ _ _ hm
  unfold pNilck at hp
  split at hp
  ·rename_i id g off hx
   cases hp
   rw [hx] at hr
   obtain ⟨b,base,hb,hV⟩:=rel_ptr hr
   exact sound_val s (V:=ρc x') (by simp [execOp,ho,hV]) hr
  ·rename_i cs off hx
   cases hp
   rw [hx] at hr
   obtain ⟨b,o1,hK,hV,_⟩:=rel_iptr hr
   exact sound_val s (V:=ρc x') (by simp [execOp,ho,hV]) hr
  ·rename_i f hx
   cases hp
   rw [hx] at hr
   have hV:=rel_func hr
   exact sound_val s (V:=ρc x') (by simp [execOp,ho,hV]) hr
  ·cases hp
 ·cases hm
theorem eqGuard_run (op:BinOp) (t:TypeId) (x y:Operand) (a b:Value) (hc:(∃k n,a=.int k n)∨(∃q,a=.string q)∨(∃q,a=.bool q)):(eqGuard op t x y a b).run P w=.ok () w:=by
 unfold eqGuard
 rcases hc with ⟨k,n,rfl⟩ | ⟨q,rfl⟩ | ⟨q,rfl⟩ <;> cases op <;> simp
theorem binA_run {op:BinOp} {x y v:AV} {X Y:Value} (t:TypeId) (hv:binA op x y=some v) (hx:RelV φ K w x X) (hy:RelV φ K w y Y) :
  ∃V,(binOp op t X Y).run P w=.ok V w∧RelV φ K w v V∧((∃k n,X=.int k n)∨(∃q,X=.string q)∨(∃q,X=.bool q)):=by
 unfold binA at hv
 split at hv
 ·rename_i k a
  split at hv
  ·rename_i k' b
   have hX:=rel_int hx
   have hY:=rel_int hy
   subst hX hY
   refine (fun (hh:∃V,(binOp op t (.int k a) (.int k' b)).run P w=.ok V w∧RelV φ K w v V)=>let ⟨V,h1,h2⟩:=hh;⟨V,h1,h2,.inl ⟨_,_,rfl⟩⟩) ?_
   by_cases hsh:op=.shl∨op=.shr
   ·rcases hsh with rfl | rfl <;>
    ·simp only [shiftA,ltA_eq,cond_eq_ite,decide_eq_true_eq] at hv
     split at hv
     ·cases hv
     ·rename_i hb
      cases hv
      exact ⟨_,by simp [binOp,Op.shift,hb],.pure (.int _ _)⟩
   ·have hv':(bif eqK k k' then intA op k a b else none)=some v:=by
     revert hv
     cases op <;> simp_all
    rw [cond_eq_ite] at hv'
    split at hv'
    ·rename_i hk
     have hk':=eqK_eq hk
     subst hk'
     cases op <;> simp only [intA,wrapA_eq,eqA_eq,ltA_eq,cond_eq_ite,decide_eq_true_eq] at hv'
     case add | sub | mul=>cases hv';exact ⟨_,by simp [binOp,Op.intArith],.pure (.int _ _)⟩
     case and | or | xor | andNot=>cases hv';exact ⟨_,by simp [binOp,Op.intBits],.pure (.int _ _)⟩
     case quo | rem=>
      split at hv'
      ·cases hv'
      ·rename_i hb
       cases hv'
       refine ⟨.int k _,?_,.pure (.int _ _)⟩
       simp [binOp,Op.intDiv,hb]
     case shl | shr=>cases hv'
     case eql=>cases hv';rw [show decide (a=b)=(a == b) from (Bool.beq_eq_decide_eq a b).symm];exact ⟨_,by simp [binOp,Op.intCmp],.pure (.bool _)⟩
     case neq=>cases hv';rw [show (!decide (a=b))=(a != b) from by rw [bne,Bool.beq_eq_decide_eq]];exact ⟨_,by simp [binOp,Op.intCmp],.pure (.bool _)⟩
     case lss | gtr=>cases hv';exact ⟨_,by simp [binOp,Op.intCmp],.pure (.bool _)⟩
     case leq=>cases hv';rw [show (!decide (b < a))=decide (a≤b) from by rw [Bool.eq_iff_iff];simp];exact ⟨_,by simp [binOp,Op.intCmp],.pure (.bool _)⟩
     case geq=>cases hv';rw [show (!decide (a < b))=decide (b≤a) from by rw [Bool.eq_iff_iff];simp];exact ⟨_,by simp [binOp,Op.intCmp],.pure (.bool _)⟩
    ·cases hv'
  ·cases hv
 ·rename_i a
  split at hv
  ·rename_i b
   have hX:=rel_str hx
   have hY:=rel_str hy
   subst hX hY
   refine (fun (hh:∃V,(binOp op t (.string a) (.string b)).run P w=.ok V w∧RelV φ K w v V)=>let ⟨V,h1,h2⟩:=hh;⟨V,h1,h2,.inr (.inl ⟨_,rfl⟩)⟩) ?_
   cases op <;> simp only [strA,cond_eq_ite,Nat.ble_eq] at hv
   case eql | neq | lss | leq | gtr | geq=>cases hv;exact ⟨_,by simp [binOp,Op.stringOp],.pure (.bool _)⟩
   case add=>
    split at hv
    ·rename_i hb
     cases hv
     refine ⟨.string (a++b),?_,.pure (.str _)⟩
     have hb':¬(9223372036854775807 < (a.size:Int) + (b.size:Int)):=by unfold most at hb;omega
     simp [binOp,Op.stringOp,IntKind.max,IntKind.signed,IntKind.bits,hb']
    ·cases hv
   all_goals cases hv
  ·cases hv
 ·cases hv
def mBin (o:Oper) (op:BinOp) (x y:Opd):Bool:=match o.op with
 |.binOp op' _ x' y' _=>decide (op'=op)&&mOpd x' x&&mOpd y' y
 |_=>false
theorem s_bin (s:Sim top φ K h nx w) (hρ:∀x y,mOpd x y=true→RelV φ K w (ρ y) (ρc x)) {op:BinOp} {x y:Opd} (hm:mBin o op x y=true) {p:Plan} (hp:pureO (binA op (ρ x) (ρ y))=some p):Sound top P φ K h nx w ρc o p:=by
 unfold mBin at hm
 split at hm
 ·rename_i op' t x' y' t' ho
  simp only [Bool.and_eq_true,decide_eq_true_eq] at hm
  obtain ⟨⟨rfl,h1⟩,h2⟩:=hm
  obtain ⟨v,hv,rfl⟩:=sound_of_O hp
  obtain ⟨V,r1,r2,r3⟩:=binA_run (P:=P) t hv (hρ _ _ h1) (hρ _ _ h2)
  refine sound_val s (V:=V) ?_ r2
  simp only [execOp,ho]
  refine run_v ?_
  simp [eqGuard_run op' t x' y' _ _ r3,r1]
 ·cases hm
def mUn (o:Oper) (op:UnOp) (x:Opd):Bool:=match o.op with
 |.unOp op' _ x'=>decide (op'=op)&&mOpd x' x
 |_=>false
theorem s_un (s:Sim top φ K h nx w) (hρ:∀x y,mOpd x y=true→RelV φ K w (ρ y) (ρc x)) {op:UnOp} {x:Opd} (hm:mUn o op x=true) {p:Plan} (hp:pureO (unA op (ρ x))=some p):Sound top P φ K h nx w ρc o p:=by
 unfold mUn at hm
 split at hm
 ·rename_i op' t x' ho
  simp only [Bool.and_eq_true,decide_eq_true_eq] at hm
  obtain ⟨rfl,h1⟩:=hm
  obtain ⟨v,hv,rfl⟩:=sound_of_O hp
  have hr:=hρ _ _ h1
  unfold unA at hv
  split at hv
  ·split at hv
   ·rename_i k n hx
    cases hv
    rw [hx] at hr
    have hV:=rel_int hr
    refine sound_val s (V:=.int k (k.wrap (0 - n))) ?_ (by rw [wrapA_eq];exact .pure (.int _ _))
    simp [execOp,ho,hV,Op.unary,Op.intArith]
   ·cases hv
  ·split at hv
   ·rename_i b hx
    cases hv
    rw [hx] at hr
    have hV:=rel_bool hr
    refine sound_val s (V:=.bool !b) ?_ (.pure (.bool _))
    simp [execOp,ho,hV,Op.unary]
   ·cases hv
  ·split at hv
   ·rename_i k n hx
    simp only [intA] at hv
    cases hv
    rw [hx] at hr
    have hV:=rel_int hr
    refine sound_val s (V:=_) ?_ (.pure (.int _ _))
    simp [execOp,ho,hV,Op.unary,Op.intBits]
   ·cases hv
  ·cases hv
 ·cases hm
def mConv (P:Program) (o:Oper) (k:IntKind) (x:Opd):Bool:=match o.op with
 |.convert a b x'=>mOpd x' x&&tDesc P a (fun d=>match d with | .int _=>true | _=>false)&&tDesc P b (fun d=>match d with | .int k'=>eqK k' k | _=>false)
 |_=>false
theorem s_conv (s:Sim top φ K h nx w) (hρ:∀x y,mOpd x y=true→RelV φ K w (ρ y) (ρc x)) {k:IntKind} {x:Opd} (hm:mConv P o k x=true) {p:Plan} (hp:pConv ρ k x=some p):Sound top P φ K h nx w ρc o p:=by
 unfold mConv at hm
 split at hm
 ·rename_i a b x' ho
  simp only [Bool.and_eq_true] at hm
  obtain ⟨⟨h1,h2⟩,h3⟩:=hm
  have hr:=hρ _ _ h1
  obtain ⟨d,hd,_⟩:=tDesc_some h2
  obtain ⟨d',hd',hd2⟩:=tDesc_some h3
  unfold pConv at hp
  split at hp
  ·rename_i k0 n hx
   cases hp
   rw [hx] at hr
   have hV:=rel_int hr
   split at hd2
   ·rename_i k'
    have:=eqK_eq hd2
    subst this
    refine sound_val s (V:=.int k' (k'.wrap n)) ?_ (by rw [wrapA_eq];exact .pure (.int _ _))
    simp [execOp,ho,hV,convert,run_underlying hd,run_underlying hd',Conv.intToInt]
   ·cases hd2
  ·cases hp
 ·cases hm
theorem rel_iptr2 {cs:List AV} {off:Nat} {V:Value} (r:RelV φ K w (.iptr cs off) V):∃b o,V=.pointer (some ⟨b,o + off,none⟩)∧∀off',RelP K w (.iptr cs off') (.pointer (some ⟨b,o + off',none⟩)):=by
 cases r with
 |pure r=>cases r with
  |iptr cs b o off f hK hone hc hr=>exact ⟨b,o,rfl,fun off'=>.iptr cs b o off' f hK hone hc hr⟩
def tField (P:Program) (t:TypeId) (i off:Nat) (f:TypeId→Bool):Bool:=tDesc P t fun d=>match d with
 |.struct fs=>match fs[i]? with
  |some fd=>Nat.beq fd.offset off&&f fd.type
  |none=>false
 |_=>false
theorem tField_some {t:TypeId} {i off:Nat} {f:TypeId→Bool} (hm:tField P t i off f=true):∃fs fd,P.underlying t=some (.struct fs)∧fs[i]?=some fd∧fd.offset=off∧f fd.type=true:=by
 obtain ⟨d,hd,h1⟩:=tDesc_some hm
 split at h1
 ·rename_i fs
  split at h1
  ·rename_i fd hfd
   simp only [Bool.and_eq_true,Nat.beq_eq] at h1
   exact ⟨fs,fd,hd,hfd,h1.1,h1.2⟩
  ·cases h1
 ·cases h1
def mFaddr (P:Program) (o:Oper) (off:Nat) (x:Opd):Bool:=match o.op with
 |.fieldAddr t x' i=>mOpd x' x&&tField P t i off (fun ft=>tInfo P ft fun i=>!(Nat.beq i.size 0))
 |_=>false
theorem s_faddr (s:Sim top φ K h nx w) (hρ:∀x y,mOpd x y=true→RelV φ K w (ρ y) (ρc x)) {off:Nat} {x:Opd} (hm:mFaddr P o off x=true) {p:Plan} (hp:pFaddr ρ off x=some p):Sound top P φ K h nx w ρc o p:=by
 unfold mFaddr at hm
 split at hm
 ·rename_i t x' i ho
  simp only [Bool.and_eq_true] at hm
  obtain ⟨h1,h2⟩:=hm
  have hr:=hρ _ _ h1
  obtain ⟨fs,fd,hu,hf,hoff,hsz⟩:=tField_some h2
  obtain ⟨ti,hti,hsz⟩:=tInfo_some hsz
  have hs0:ti.size≠0:=by
   intro h0
   rw [h0] at hsz
   cases hsz
  have hrun:∀b q,(Instr.fieldAt t (.pointer (some ⟨b,q,none⟩)) i).run P w=.ok (.pointer (some ⟨b,q + off,none⟩)) w:=by
   intro b q
   simp [Instr.fieldAt,run_underlying hu,hf,Instr.sureAddr,fieldPlace,sizeOf,typeInfo,hti,hs0,Addr.add_lit,hoff]
  unfold pFaddr at hp
  split at hp
  ·rename_i id g q hx
   cases hp
   rw [hx] at hr
   obtain ⟨b,base,hb,hV⟩:=rel_ptr hr
   refine sound_val s (V:=.pointer (some ⟨b,base + q + off,none⟩)) ?_ (by rw [Nat.add_assoc];exact .ptr id g (q + off) b base hb)
   simp only [execOp,ho,hV]
   exact run_v (hrun b (base + q))
  ·rename_i cs q hx
   cases hp
   rw [hx] at hr
   obtain ⟨b,o1,hV,hre⟩:=rel_iptr2 hr
   refine sound_val s (V:=.pointer (some ⟨b,o1 + q + off,none⟩)) ?_ (by rw [Nat.add_assoc];exact .pure (hre (q + off)))
   simp only [execOp,ho,hV]
   exact run_v (hrun b (o1 + q))
  ·cases hp
 ·cases hm
end
end Go.Ax

set_option linter.unusedSimpArgs false
set_option linter.unusedVariables false
namespace Go.Ax
section
variable {top:Nat} {P:Program} {φ:Phi} {K:Nat→Prop} {h:HeapF} {nx:Nat} {w:World} {ρ:Opd→AV} {ρc:Operand→Value} {o:Oper}
theorem part_run (s:Sim top φ K h nx w) {t:TypeId} {sz:Option Nat} (ht:tVar P t sz=true) {cs cs':List AV} {off:Nat} {v:AV} {vs:Array Value} (hcut:cut cs off (loadA sz)=some cs') (hv:mkv sz cs'=some v)
  (hl:cs.length=vs.size) (hr:∀(j:Nat) (a:AV),cs[j]?=some a→a.one=true∧∃u,vs[j]?=some u∧RelV φ K w a u):∃V,(part t vs off).run P w=.ok V w∧RelV φ K w v V:=by
 obtain ⟨hl',hat⟩:=cut_at hcut
 have hfit:=(cut_some hcut).1
 have hget:∀(j:Nat) (a:AV),cs'[j]?=some a→a.one=true∧∃u,vs[off + j]?=some u∧RelV φ K w a u:=by
  intro j a ha
  have hj:j < loadA sz:=by
   rcases Nat.lt_or_ge j cs'.length with hj | hj
   ·omega
   ·rw [List.getElem?_eq_none hj] at ha;cases ha
  rw [hat j hj] at ha
  exact hr _ a ha
 cases sz with
 |none=>
  obtain ⟨d,hd,hag⟩:=tDesc_some ht
  unfold mkv at hv
  simp only at hv
  split at hv
  ·rename_i x
   cases hv
   obtain ⟨_,u,h1,h2⟩:=hget 0 v rfl
   refine ⟨u,?_,h2⟩
   simp only [Nat.add_zero] at h1
   simp at hag
   simp [part,isAgg_run hd,hag,h1]
  ·cases hv
 |some n=>
  simp only [tVar,Bool.and_eq_true] at ht
  obtain ⟨d,hd,hag⟩:=tDesc_some ht.1
  have hs:=tSize_run ht.2 w
  simp only [loadA] at hl' hfit
  cases hv
  refine ⟨.agg (vs.extract off (off + n)),by simp [part,isAgg_run hd,hag,hs],.agg _ _ (by simp;omega) (fun j a ha=>(hget j a ha).1) (fun j a u ha hu=>?_)⟩
  obtain ⟨_,u',h1,h2⟩:=hget j a ha
  have hj:j < n:=by
   rcases Nat.lt_or_ge j cs'.length with hj | hj
   ·omega
   ·rw [List.getElem?_eq_none hj] at ha;cases ha
  rw [Array.getElem?_extract,if_pos (by omega),h1] at hu
  cases hu
  exact h2
def mFld (P:Program) (o:Oper) (off:Nat) (sz:Option Nat) (x:Opd):Bool:=match o.op with
 |.field t x' i=>mOpd x' x&&tField P t i off (fun ft=>tVar P ft sz)
 |_=>false
theorem s_fld (s:Sim top φ K h nx w) (hρ:∀x y,mOpd x y=true→RelV φ K w (ρ y) (ρc x)) {off:Nat} {sz:Option Nat} {x:Opd} (hm:mFld P o off sz x=true) {p:Plan} (hp:pFld ρ off sz x=some p):Sound top P φ K h nx w ρc o p:=by
 unfold mFld at hm
 split at hm
 ·rename_i t x' i ho
  simp only [Bool.and_eq_true] at hm
  obtain ⟨h1,h2⟩:=hm
  have hr:=hρ _ _ h1
  obtain ⟨fs,fd,hu,hf,hoff,hsz⟩:=tField_some h2
  unfold pFld at hp
  split at hp
  ·rename_i cs hx
   split at hp
   ·rename_i cs' hcut
    obtain ⟨v,hv,rfl⟩:=sound_of_O hp
    rw [hx] at hr
    obtain ⟨vs,hV,hl,hrr⟩:=rel_agg hr
    obtain ⟨V,r1,r2⟩:=part_run s hsz hcut hv hl hrr
    refine sound_val s (V:=V) ?_ r2
    simp only [execOp,ho]
    refine run_v ?_
    simp [Instr.field,run_underlying hu,hf,hV,asAgg,hoff,r1]
   ·cases hp
  ·cases hp
 ·cases hm
def tElem (P:Program) (t:TypeId) (es:Nat):Bool:=tDesc P t fun d=>match d with | .slice e=>tSize P e es | _=>false
theorem tElem_some {t:TypeId} {es:Nat} (hm:tElem P t es=true):∃e,P.underlying t=some (.slice e)∧tSize P e es=true:=by
 obtain ⟨d,hd,h1⟩:=tDesc_some hm
 split at h1
 ·rename_i e;exact ⟨e,hd,h1⟩
 ·cases h1
def tArr (P:Program) (t:TypeId) (n es:Nat):Bool:=tDesc P t fun d=>match d with | .array m e=>Nat.beq m n&&tSize P e es | _=>false
theorem tArr_some {t:TypeId} {n es:Nat} (hm:tArr P t n es=true):∃e,P.underlying t=some (.array n e)∧tSize P e es=true:=by
 obtain ⟨d,hd,h1⟩:=tDesc_some hm
 split at h1
 ·rename_i m e
  simp only [Bool.and_eq_true,Nat.beq_eq] at h1
  obtain ⟨rfl,h1⟩:=h1
  exact ⟨e,hd,h1⟩
 ·cases h1
theorem rel_imm2 {cs:List AV} {n:Nat} {cap:Option Nat} {V:Value} (r:RelV φ K w (.imm cs n cap) V):∃ad c',V=.slice (some ad) n c'∧n≤c'∧(∀c,cap=some c→c'=c)∧(cs≠[]→ad.spot=none)∧
  (cs≠[]→∀off',RelP K w (.iptr cs off') (.pointer (some ⟨ad.block,ad.off + off',none⟩)))∧
  (∀(cs':List AV) (off' n' c1:Nat) (ad':Addr) (cap':Option Nat),(∀j,cs'[j]?=if j < cs'.length then cs[off' + j]? else none)→(cs'≠[]→ad'=⟨ad.block,ad.off + off',none⟩)→(cs'≠[]→cs≠[])→n'≤c1→(∀c,cap'=some c→c1=c)→
   RelP K w (.imm cs' n' cap') (.slice (some ad') n' c1)):=by
 cases r with
 |pure r=>cases r with
  |imm cs n cap ad c' f hK hn hcap hone hc hr=>
   refine ⟨ad,c',rfl,hn,hcap,fun hne=>(hK hne).1,fun hne off'=>.iptr cs ad.block ad.off off' f (hK hne).2 hone hc hr,fun cs' off' n' c1 ad' cap' hat had hne hn' hcap'=>?_⟩
   have hat':∀(j:Nat) (a:AV),cs'[j]?=some a→cs[off' + j]?=some a:=by
    intro j a ha
    have:=hat j
    rw [ha] at this
    split at this
    ·exact this.symm
    ·cases this
   refine .imm cs' n' cap' ad' c1 (fun j=>f (off' + j)) (fun hne'=>?_) hn' hcap' (fun j a ha=>hone _ a (hat' j a ha)) (fun j hj=>?_) (fun j a ha=>hr _ a (hat' j a ha))
   ·rw [had hne']
    exact ⟨rfl,(hK (hne hne')).2⟩
   ·have hne':cs'≠[]:=by rintro rfl;simp at hj
    rw [had hne']
    have hlt:off' + j < cs.length:=by
     have:=hat' j _ (List.getElem?_eq_getElem hj)
     rcases Nat.lt_or_ge (off' + j) cs.length with h1 | h1
     ·exact h1
     ·rw [List.getElem?_eq_none h1] at this;cases this
    simp only
    rw [Nat.add_assoc]
    exact hc _ hlt
theorem addr_eta (ad:Addr) (hs:ad.spot=none):ad=⟨ad.block,ad.off,none⟩:=by cases ad;simp at hs;simp [hs]
def mIaddr (P:Program) (o:Oper) (es:Nat) (x i:Opd):Bool:=match o.op with
 |.indexAddr t x' i'=>mOpd x' x&&mOpd i' i&&tElem P t es
 |_=>false
theorem s_iaddr (s:Sim top φ K h nx w) (hρ:∀x y,mOpd x y=true→RelV φ K w (ρ y) (ρc x)) {es:Nat} {x i:Opd} (hm:mIaddr P o es x i=true) {p:Plan} (hp:pIaddr ρ es x i=some p):Sound top P φ K h nx w ρc o p:=by
 unfold mIaddr at hm
 split at hm
 ·rename_i t x' i' ho
  simp only [Bool.and_eq_true] at hm
  obtain ⟨⟨h1,h2⟩,h3⟩:=hm
  obtain ⟨e,hu,hs⟩:=tElem_some h3
  have hrx:=hρ _ _ h1
  have hri:=hρ _ _ h2
  have hrun:∀(ad:Addr) (len c':Nat) (k:IntKind) (m:Nat),m < len→(Instr.indexAt t (.slice (some ad) len c') (.int k (m:Int))).run P w=.ok (.pointer (some (ad.add (m*es)))) w:=by
   intro ad len c' k m hlt
   simp [Instr.indexAt,run_underlying hu,asIntOf,hlt,tSize_run hs]
  unfold pIaddr at hp
  split at hp
  ·rename_i k iv hi
   rw [hi] at hri
   have hI:=rel_int hri
   split at hp
   ·rename_i cs n cap hx
    split at hp
    ·rename_i m hix
     obtain ⟨rfl,hlt⟩:=ixA_some hix
     split at hp
     ·cases hp
     ·rename_i a0 cs0
      cases hp
      rw [hx] at hrx
      obtain ⟨ad,c',hV,_,_,hspot,hip,_⟩:=rel_imm2 hrx
      have hne:(a0 :: cs0)≠[]:=by simp
      refine sound_val s (V:=.pointer (some ⟨ad.block,ad.off + m*es,none⟩)) ?_ (.pure (hip hne _))
      simp only [execOp,ho,hV,hI]
      refine run_v ?_
      rw [hrun ad n c' k m hlt]
      rw [addr_eta ad (hspot hne),Addr.add_lit]
    ·cases hp
   ·rename_i id g off es' len cap ex hx
    simp only [cond_eq_ite,Nat.beq_eq] at hp
    split at hp
    ·rename_i hes
     subst hes
     split at hp
     ·rename_i m hix
      obtain ⟨rfl,hlt⟩:=ixA_some hix
      cases hp
      rw [hx] at hrx
      obtain ⟨b,base,ad,c',hV,hb,hl1,hl2,_,had⟩:=rel_ref hrx
      have h0:c'≠0:=by omega
      obtain ⟨rfl,_⟩:=had h0
      refine sound_val s (V:=.pointer (some ⟨b,base + (off + m*es'),none⟩)) ?_ (.ptr id g _ b base hb)
      simp only [execOp,ho,hV,hI]
      refine run_v ?_
      rw [hrun _ len c' k m hlt,Addr.add_lit,Nat.add_assoc]
     ·cases hp
    ·cases hp
   ·cases hp
  ·cases hp
 ·cases hm
def mIarr (P:Program) (o:Oper) (len es:Nat) (x i:Opd):Bool:=match o.op with
 |.indexAddr t x' i'=>mOpd x' x&&mOpd i' i&&tArr P t len es
 |_=>false
theorem s_iarr (s:Sim top φ K h nx w) (hρ:∀x y,mOpd x y=true→RelV φ K w (ρ y) (ρc x)) {len es:Nat} {x i:Opd} (hm:mIarr P o len es x i=true) {p:Plan} (hp:pIarr ρ len es x i=some p):Sound top P φ K h nx w ρc o p:=by
 unfold mIarr at hm
 split at hm
 ·rename_i t x' i' ho
  simp only [Bool.and_eq_true] at hm
  obtain ⟨⟨h1,h2⟩,h3⟩:=hm
  obtain ⟨e,hu,hs⟩:=tArr_some h3
  have hrx:=hρ _ _ h1
  have hri:=hρ _ _ h2
  have hrun:∀(b q:Nat) (k:IntKind) (m:Nat),m < len→(Instr.indexAt t (.pointer (some ⟨b,q,none⟩)) (.int k (m:Int))).run P w=.ok (.pointer (some ⟨b,q + m*es,none⟩)) w:=by
   intro b q k m hlt
   simp [Instr.indexAt,run_underlying hu,asIntOf,Instr.sureAddr,hlt,tSize_run hs,Addr.add_lit]
  unfold pIarr at hp
  split at hp
  ·rename_i k iv hi
   rw [hi] at hri
   have hI:=rel_int hri
   split at hp
   ·rename_i m hix
    obtain ⟨rfl,hlt⟩:=ixA_some hix
    split at hp
    ·rename_i id g q hx
     cases hp
     rw [hx] at hrx
     obtain ⟨b,base,hb,hV⟩:=rel_ptr hrx
     refine sound_val s (V:=.pointer (some ⟨b,base + (q + m*es),none⟩)) ?_ (.ptr id g _ b base hb)
     simp only [execOp,ho,hV,hI]
     refine run_v ?_
     rw [hrun _ _ k m hlt,Nat.add_assoc]
    ·rename_i cs q hx
     cases hp
     rw [hx] at hrx
     obtain ⟨b,o1,hV,hre⟩:=rel_iptr2 hrx
     refine sound_val s (V:=.pointer (some ⟨b,o1 + (q + m*es),none⟩)) ?_ (.pure (hre _))
     simp only [execOp,ho,hV,hI]
     refine run_v ?_
     rw [hrun _ _ k m hlt,Nat.add_assoc]
    ·cases hp
   ·cases hp
  ·cases hp
 ·cases hm
def tStr (P:Program) (t:TypeId):Bool:=tDesc P t fun d=>match d with | .string=>true | _=>false
theorem tStr_some {t:TypeId} (hm:tStr P t=true):P.underlying t=some .string:=by
 obtain ⟨d,hd,h1⟩:=tDesc_some hm
 split at h1
 ·exact hd
 ·cases h1
def mIdx (P:Program) (o:Oper) (x i:Opd):Bool:=match o.op with
 |.index t x' i'=>mOpd x' x&&mOpd i' i&&tStr P t
 |_=>false
theorem s_idx (s:Sim top φ K h nx w) (hρ:∀x y,mOpd x y=true→RelV φ K w (ρ y) (ρc x)) {x i:Opd} (hm:mIdx P o x i=true) {p:Plan} (hp:pIdx ρ x i=some p):Sound top P φ K h nx w ρc o p:=by
 unfold mIdx at hm
 split at hm
 ·rename_i t x' i' ho
  simp only [Bool.and_eq_true] at hm
  obtain ⟨⟨h1,h2⟩,h3⟩:=hm
  have hu:=tStr_some h3
  have hrx:=hρ _ _ h1
  have hri:=hρ _ _ h2
  unfold pIdx at hp
  split at hp
  ·rename_i q hx
   split at hp
   ·rename_i k m hi
    split at hp
    ·rename_i b hb
     cases hp
     rw [hx] at hrx
     rw [hi] at hri
     have hX:=rel_str hrx
     have hI:=rel_int hri
     refine sound_val s (V:=.int .u8 b.toNat) ?_ (.pure (.int _ _))
     simp only [execOp,ho,hX,hI]
     refine run_v ?_
     have h0:(0:Int)≤Int.ofNat m:=Int.natCast_nonneg m
     simp [Instr.index,run_underlying hu,asIntOf,h0,hb]
    ·cases hp
   ·cases hp
  ·cases hp
 ·cases hm
def mExt (o:Oper) (i:Nat) (x:Opd):Bool:=match o.op with
 |.extract x' i'=>mOpd x' x&&Nat.beq i' i
 |_=>false
theorem s_ext (s:Sim top φ K h nx w) (hρ:∀x y,mOpd x y=true→RelV φ K w (ρ y) (ρc x)) {i:Nat} {x:Opd} (hm:mExt o i x=true) {p:Plan} (hp:pExt ρ i x=some p):Sound top P φ K h nx w ρc o p:=by
 unfold mExt at hm
 split at hm
 ·rename_i x' i' ho
  simp only [Bool.and_eq_true,Nat.beq_eq] at hm
  obtain ⟨h1,rfl⟩:=hm
  have hr:=hρ _ _ h1
  unfold pExt at hp
  split at hp
  ·rename_i vs hx
   obtain ⟨v,hv,rfl⟩:=sound_of_O hp
   rw [hx] at hr
   obtain ⟨us,hV,hl,hrr⟩:=rel_tup hr
   obtain ⟨u,r1,r2⟩:=hrr _ _ hv
   refine sound_val s (V:=u) ?_ r2
   simp only [execOp,ho]
   refine run_v ?_
   simp [Instr.extract,hV,r1]
  ·cases hp
 ·cases hm
theorem run_builtin {b:Builtin} {args:Array Operand} {tys:Array TypeId} {V:Value} {w':World} {x:Sem Value} (ho:o.op=.call {callee:=.builtin b,args:=args,argTypes:=tys})
  (hb:∀consts,builtin b tys o.type consts (args.map ρc)=(do pure (Next.value (←x)):Sem Next)) (hr:x.run P w=.ok V w'):(execOp ρc o).run P w=.ok (.value V) w':=by
 simp only [execOp,ho,resolve,invoke,hb]
 simp only [Sem.run_bind,Sem.run_pure,Result.andThen_ok,hb,hr]
def mLen (P:Program) (o:Oper) (str:Bool) (x:Opd):Bool:=match o.op with
 |.call {callee:=.builtin .len,args:=⟨[x']⟩,argTypes:=⟨t :: _⟩}=>mOpd x' x&&(match str with | true=>tStr P t | false=>tDesc P t fun d=>match d with | .slice _=>true | _=>false)
 |_=>false
theorem s_len (s:Sim top φ K h nx w) (hρ:∀x y,mOpd x y=true→RelV φ K w (ρ y) (ρc x)) {str:Bool} {x:Opd} (hm:mLen P o str x=true) {p:Plan} (hp:pLen ρ str x=some p):Sound top P φ K h nx w ρc o p:=by
 unfold mLen at hm
 split at hm
 ·rename_i x' t ts ho
  simp only [Bool.and_eq_true] at hm
  obtain ⟨h1,h2⟩:=hm
  have hr:=hρ _ _ h1
  have fin:∀(n:Nat),(Builtin.len_ ⟨t :: ts⟩ o.type #[ρc x']).run P w=.ok (.int .i64 n) w→Sound top P φ K h nx w ρc o (pureP (.int .i64 n)):=by
   intro n hrun
   exact sound_val s (V:=.int .i64 n) (run_builtin (x:=Builtin.len_ ⟨t :: ts⟩ o.type #[ρc x']) ho (fun _=>by simp [builtin]) hrun) (.pure (.int _ _))
  unfold pLen at hp
  cases str with
  |true=>
   have hu:=tStr_some h2
   simp only at hp
   split at hp
   ·rename_i q hx
    cases hp
    rw [hx] at hr
    have hX:=rel_str hr
    exact fin _ (by simp [Builtin.len_,hX,run_underlying hu,goInt])
   ·cases hp
  |false=>
   obtain ⟨d,hd,h3⟩:=tDesc_some h2
   split at h3
   ·simp only at hp
    split at hp
    ·rename_i hx
     cases hp
     rw [hx] at hr
     have hX:=rel_nils hr
     exact fin 0 (by simp [Builtin.len_,hX,run_underlying hd,goInt])
    ·rename_i cs n cap hx
     cases hp
     rw [hx] at hr
     obtain ⟨ad,c',hV,_⟩:=rel_imm hr
     exact fin n (by simp [Builtin.len_,hV,run_underlying hd,goInt])
    ·rename_i id g off es len cap ex hx
     cases hp
     rw [hx] at hr
     obtain ⟨b,base,ad,c',hV,_⟩:=rel_ref hr
     exact fin len (by simp [Builtin.len_,hV,run_underlying hd,goInt])
    ·cases hp
   ·cases h3
 ·cases hm
end
end Go.Ax
