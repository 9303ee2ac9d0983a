/- Part 3 of the proof: Ax5, Ax6. -/
import Derived.Test.YtamgnhdbeecapaaCp2
import Derived.Laws.StructEq

namespace Go.Ax
section
variable {top:Nat} {P:Program} {φ:pq} {K:Nat->Prop} {h:ef} {nx:Nat} {w:World} {ρ:ct->AV} {ρc:Operand->Value} {o:Oper}
def Lj (o:Oper) (x:ct):Bool:=match o.op with
 |.nilCheck x'=>e8 x' x
 |_=>false
theorem RL (s:gz top φ K h nx w) (hρ:∀x y,e8 x y=true->ck φ K w (ρ y) (ρc x)) {x:ct} (hm:Lj o x=true) {p:dg} (hp:uc ρ x=some p):Sound top P φ K h nx w ρc o p:=by
 unfold Lj at hm
 split at hm
 ·rename_i x' ho
  have hr:=hρ _ _ hm
  unfold uc at hp
  split at hp
  ·rename_i id g off hx
   cases hp
   rw [hx] at hr
   obtain⟨b,base,hb,hV⟩:=yg hr
   exact cy s (V:=ρc x') (by simp [execOp,ho,hV]) hr
  ·rename_i cs off hx
   cases hp
   rw [hx] at hr
   obtain⟨b,o1,hK,hV,_⟩:=Jb hr
   exact cy s (V:=ρc x') (by simp [execOp,ho,hV]) hr
  ·rename_i f hx
   cases hp
   rw [hx] at hr
   have hV:=Cj hr
   exact cy s (V:=ρc x') (by simp [execOp,ho,hV]) hr
  ·cases hp
 ·cases hm
theorem D0 (op:BinOp) (t:TypeId) (x y:Operand) (a b:Value) (hc:(∃k n,a=.int k n)\/(∃q,a=.string q)\/(∃q,a=.bool q)):(eqGuard op t x y a b).run P w=.ok () w:=by
 unfold eqGuard
 rcases hc with ⟨k,n,rfl⟩|⟨q,rfl⟩|⟨q,rfl⟩<;>cases op<;>simp
theorem QI {op:BinOp} {x y v:AV} {X Y:Value} (t:TypeId) (hv:Ko op x y=some v) (hx:ck φ K w x X) (hy:ck φ K w y Y) :
  ∃V,(binOp op t X Y).run P w=.ok V w/\ck φ K w v V/\((∃k n,X=.int k n)\/(∃q,X=.string q)\/(∃q,X=.bool q)):=by
 unfold Ko at hv
 split at hv
 ·rename_i k a
  split at hv
  ·rename_i k' b
   have hX:=jw hx
   have hY:=jw hy
   subst hX hY
   refine(fun (hh:∃V,(binOp op t (.int k a) (.int k' b)).run P w=.ok V w/\ck φ K w v V)=>let ⟨V,h1,h2⟩:=hh;⟨V,h1,h2,.inl ⟨_,_,rfl⟩⟩) ?_
   by_cases hsh:op=.shl\/op=.shr
   ·rcases hsh with rfl|rfl <;>
    ·simp only [KP,z_,cond_eq_ite,decide_eq_true_eq] at hv
     split at hv
     ·cases hv
     ·rename_i hb
      cases hv
      exact⟨_,by simp [binOp,Op.shift,hb],.pure (.int _ _)⟩
   ·have hv':(bif Qo k k' then P9 op k a b else none)=some v:=by
     revert hv
     cases op<;>simp_all
    rw [cond_eq_ite] at hv'
    split at hv'
    ·rename_i hk
     have hk':=Dt hk
     subst hk'
     cases op<;>simp only [P9,B1,BV,z_,cond_eq_ite,decide_eq_true_eq] at hv'
     case add|sub|mul=>cases hv';exact⟨_,by simp [binOp,Op.intArith],.pure (.int _ _)⟩
     case and|or|xor|andNot=>cases hv';exact⟨_,by simp [binOp,Op.intBits],.pure (.int _ _)⟩
     case quo|rem=>
      split at hv'
      ·cases hv'
      ·rename_i hb
       cases hv'
       refine⟨.int k _,?_,.pure (.int _ _)⟩
       simp [binOp,Op.intDiv,hb]
     case shl|shr=>cases hv'
     case eql=>cases hv';rw [show decide (a=b)=(a == b) from (Bool.beq_eq_decide_eq a b).symm];exact⟨_,by simp [binOp,Op.intCmp],.pure (.bool _)⟩
     case neq=>cases hv';rw [show (!decide (a=b))=(a != b) from by rw [bne,Bool.beq_eq_decide_eq]];exact⟨_,by simp [binOp,Op.intCmp],.pure (.bool _)⟩
     case lss|gtr=>cases hv';exact⟨_,by simp [binOp,Op.intCmp],.pure (.bool _)⟩
     case leq=>cases hv';rw [show (!decide (b < a))=decide (a<=b) from by rw [Bool.eq_iff_iff];simp];exact⟨_,by simp [binOp,Op.intCmp],.pure (.bool _)⟩
     case geq=>cases hv';rw [show (!decide (a < b))=decide (b<=a) from by rw [Bool.eq_iff_iff];simp];exact⟨_,by simp [binOp,Op.intCmp],.pure (.bool _)⟩
    ·cases hv'
  ·cases hv
 ·rename_i a
  split at hv
  ·rename_i b
   have hX:=vp hx
   have hY:=vp hy
   subst hX hY
   refine(fun (hh:∃V,(binOp op t (.string a) (.string b)).run P w=.ok V w/\ck φ K w v V)=>let ⟨V,h1,h2⟩:=hh;⟨V,h1,h2,.inr (.inl ⟨_,rfl⟩)⟩) ?_
   cases op<;>simp only [XQ,cond_eq_ite,Nat.ble_eq] at hv
   case eql|neq|lss|leq|gtr|geq=>cases hv;exact⟨_,by simp [binOp,Op.stringOp],.pure (.bool _)⟩
   case add=>
    split at hv
    ·rename_i hb
     cases hv
     refine⟨.string (a++b),?_,.pure (.str _)⟩
     have hb':¬(9223372036854775807 < (a.size:Int)+(b.size:Int)):=by unfold most at hb;omega
     simp [binOp,Op.stringOp,IntKind.max,IntKind.signed,IntKind.bits,hb']
    ·cases hv
   all_goals cases hv
  ·cases hv
 ·cases hv
def Ua (o:Oper) (op:BinOp) (x y:ct):Bool:=match o.op with
 |.binOp op' _ x' y' _=>decide (op'=op)&&e8 x' x&&e8 y' y
 |_=>false
theorem Yl (s:gz top φ K h nx w) (hρ:∀x y,e8 x y=true->ck φ K w (ρ y) (ρc x)) {op:BinOp} {x y:ct} (hm:Ua o op x y=true) {p:dg} (hp:lq (Ko op (ρ x) (ρ y))=some p):Sound top P φ K h nx w ρc o p:=by
 unfold Ua at hm
 split at hm
 ·rename_i op' t x' y' t' ho
  simp only [Bool.and_eq_true,decide_eq_true_eq] at hm
  obtain⟨⟨rfl,h1⟩,h2⟩:=hm
  obtain⟨v,hv,rfl⟩:=kz hp
  obtain⟨V,r1,r2,r3⟩:=QI (P:=P) t hv (hρ _ _ h1) (hρ _ _ h2)
  refine cy s (V:=V) ?_ r2
  simp only [execOp,ho]
  refine nk ?_
  simp [D0 op' t x' y' _ _ r3,r1]
 ·cases hm
def mUn (o:Oper) (op:UnOp) (x:ct):Bool:=match o.op with
 |.unOp op' _ x'=>decide (op'=op)&&e8 x' x
 |_=>false
theorem s_un (s:gz top φ K h nx w) (hρ:∀x y,e8 x y=true->ck φ K w (ρ y) (ρc x)) {op:UnOp} {x:ct} (hm:mUn o op x=true) {p:dg} (hp:lq (Th op (ρ x))=some p):Sound top P φ K h nx w ρc o p:=by
 unfold mUn at hm
 split at hm
 ·rename_i op' t x' ho
  simp only [Bool.and_eq_true,decide_eq_true_eq] at hm
  obtain⟨rfl,h1⟩:=hm
  obtain⟨v,hv,rfl⟩:=kz hp
  have hr:=hρ _ _ h1
  unfold Th at hv
  split at hv
  ·split at hv
   ·rename_i k n hx
    cases hv
    rw [hx] at hr
    have hV:=jw hr
    refine cy s (V:=.int k (k.wrap (0 - n))) ?_ (by rw [B1];exact .pure (.int _ _))
    simp [execOp,ho,hV,Op.unary,Op.intArith]
   ·cases hv
  ·split at hv
   ·rename_i b hx
    cases hv
    rw [hx] at hr
    have hV:=lp hr
    refine cy s (V:=.bool !b) ?_ (.pure (.bool _))
    simp [execOp,ho,hV,Op.unary]
   ·cases hv
  ·split at hv
   ·rename_i k n hx
    simp only [P9] at hv
    cases hv
    rw [hx] at hr
    have hV:=jw hr
    refine cy s (V:=_) ?_ (.pure (.int _ _))
    simp [execOp,ho,hV,Op.unary,Op.intBits]
   ·cases hv
  ·cases hv
 ·cases hm
def PU (P:Program) (o:Oper) (k:IntKind) (x:ct):Bool:=match o.op with
 |.convert a b x'=>e8 x' x&&mg P a (fun d=>match d with|.int _=>true|_=>false)&&mg P b (fun d=>match d with|.int k'=>Qo k' k|_=>false)
 |_=>false
theorem TB (s:gz top φ K h nx w) (hρ:∀x y,e8 x y=true->ck φ K w (ρ y) (ρc x)) {k:IntKind} {x:ct} (hm:PU P o k x=true) {p:dg} (hp:DO ρ k x=some p):Sound top P φ K h nx w ρc o p:=by
 unfold PU at hm
 split at hm
 ·rename_i a b x' ho
  simp only [Bool.and_eq_true] at hm
  obtain⟨⟨h1,h2⟩,h3⟩:=hm
  have hr:=hρ _ _ h1
  obtain⟨d,hd,_⟩:=eg h2
  obtain⟨d',hd',hd2⟩:=eg h3
  unfold DO at hp
  split at hp
  ·rename_i k0 n hx
   cases hp
   rw [hx] at hr
   have hV:=jw hr
   split at hd2
   ·rename_i k'
    have:=Dt hd2
    subst this
    refine cy s (V:=.int k' (k'.wrap n)) ?_ (by rw [B1];exact .pure (.int _ _))
    simp [execOp,ho,hV,convert,run_underlying hd,run_underlying hd',Conv.intToInt]
   ·cases hd2
  ·cases hp
 ·cases hm
theorem GK {cs:List AV} {off:Nat} {V:Value} (r:ck φ K w (.oV cs off) V):∃b o,V=.pointer (some ⟨b,o+off,none⟩)/\∀off',lA K w (.oV cs off') (.pointer (some ⟨b,o+off',none⟩)):=by
 cases r with
 |pure r=>cases r with
  |oV cs b o off f hK hone hc hr=>exact⟨b,o,rfl,fun off'=>.oV cs b o off' f hK hone hc hr⟩
def KK (P:Program) (t:TypeId) (i off:Nat) (f:TypeId->Bool):Bool:=mg P t fun d=>match d with
 |.struct fs=>match fs[i]? with
  |some fd=>Nat.beq fd.offset off&&f fd.type
  |none=>false
 |_=>false
theorem DH {t:TypeId} {i off:Nat} {f:TypeId->Bool} (hm:KK P t i off f=true):∃fs fd,P.underlying t=some (.struct fs)/\fs[i]?=some fd/\fd.offset=off/\f fd.type=true:=by
 obtain⟨d,hd,h1⟩:=eg hm
 split at h1
 ·rename_i fs
  split at h1
  ·rename_i fd hfd
   simp only [Bool.and_eq_true,Nat.beq_eq] at h1
   exact⟨fs,fd,hd,hfd,h1.1,h1.2⟩
  ·cases h1
 ·cases h1
def Ll (P:Program) (o:Oper) (off:Nat) (x:ct):Bool:=match o.op with
 |.fieldAddr t x' i=>e8 x' x&&KK P t i off (fun ft=>tInfo P ft fun i=>!(Nat.beq i.size 0))
 |_=>false
theorem RN (s:gz top φ K h nx w) (hρ:∀x y,e8 x y=true->ck φ K w (ρ y) (ρc x)) {off:Nat} {x:ct} (hm:Ll P o off x=true) {p:dg} (hp:rq ρ off x=some p):Sound top P φ K h nx w ρc o p:=by
 unfold Ll at hm
 split at hm
 ·rename_i t x' i ho
  simp only [Bool.and_eq_true] at hm
  obtain⟨h1,h2⟩:=hm
  have hr:=hρ _ _ h1
  obtain⟨fs,fd,hu,hf,hoff,hsz⟩:=DH h2
  obtain⟨ti,hti,hsz⟩:=jk hsz
  have hs0:ti.size≠0:=by
   intro h0
   rw [h0] at hsz
   cases hsz
  have hrun:∀b q,(Instr.fieldAt t (.pointer (some ⟨b,q,none⟩)) i).run P w=.ok (.pointer (some ⟨b,q+off,none⟩)) w:=by
   intro b q
   simp [Instr.fieldAt,run_underlying hu,hf,Instr.sureAddr,fieldPlace,sizeOf,typeInfo,hti,hs0,Addr.add_lit,hoff]
  unfold rq at hp
  split at hp
  ·rename_i id g q hx
   cases hp
   rw [hx] at hr
   obtain⟨b,base,hb,hV⟩:=yg hr
   refine cy s (V:=.pointer (some ⟨b,base+q+off,none⟩)) ?_ (by rw [Nat.add_assoc];exact .ptr id g (q+off) b base hb)
   simp only [execOp,ho,hV]
   exact nk (hrun b (base+q))
  ·rename_i cs q hx
   cases hp
   rw [hx] at hr
   obtain⟨b,o1,hV,hre⟩:=GK hr
   refine cy s (V:=.pointer (some ⟨b,o1+q+off,none⟩)) ?_ (by rw [Nat.add_assoc];exact .pure (hre (q+off)))
   simp only [execOp,ho,hV]
   exact nk (hrun b (o1+q))
  ·cases hp
 ·cases hm
end
end Go.Ax

namespace Go.Ax
section
variable {top:Nat} {P:Program} {φ:pq} {K:Nat->Prop} {h:ef} {nx:Nat} {w:World} {ρ:ct->AV} {ρc:Operand->Value} {o:Oper}
theorem Pn (s:gz top φ K h nx w) {t:TypeId} {sz:Option Nat} (ht:EJ P t sz=true) {cs cs':List AV} {off:Nat} {v:AV} {vs:Array Value} (hcut:cut cs off (gC sz)=some cs') (hv:Lf sz cs'=some v)
  (hl:cs.length=vs.size) (hr:∀(j:Nat) (a:AV),cs[j]?=some a->a.one=true/\∃u,vs[j]?=some u/\ck φ K w a u):∃V,(part t vs off).run P w=.ok V w/\ck φ K w v V:=by
 obtain⟨hl',hat⟩:=It hcut
 have hfit:=(pe hcut).1
 have hget:∀(j:Nat) (a:AV),cs'[j]?=some a->a.one=true/\∃u,vs[off+j]?=some u/\ck φ K w a u:=by
  intro j a ha
  have hj:j < gC sz:=by
   rcases Nat.lt_or_ge j cs'.length with hj|hj
   ·omega
   ·rw [List.getElem?_eq_none hj] at ha;cases ha
  rw [hat j hj] at ha
  exact hr _ a ha
 cases sz with
 |none=>
  obtain⟨d,hd,hag⟩:=eg ht
  unfold Lf at hv
  simp only at hv
  split at hv
  ·rename_i x
   cases hv
   obtain⟨_,u,h1,h2⟩:=hget 0 v rfl
   refine⟨u,?_,h2⟩
   simp only [Nat.add_zero] at h1
   simp at hag
   simp [part,j8 hd,hag,h1]
  ·cases hv
 |some n=>
  simp only [EJ,Bool.and_eq_true] at ht
  obtain⟨d,hd,hag⟩:=eg ht.1
  have hs:=lB ht.2 w
  simp only [gC] at hl' hfit
  cases hv
  refine⟨.agg (vs.extract off (off+n)),by simp [part,j8 hd,hag,hs],.agg _ _ (by simp;omega) (fun j a ha=>(hget j a ha).1) (fun j a u ha hu=>?_)⟩
  obtain⟨_,u',h1,h2⟩:=hget j a ha
  have hj:j < n:=by
   rcases Nat.lt_or_ge j cs'.length with hj|hj
   ·omega
   ·rw [List.getElem?_eq_none hj] at ha;cases ha
  rw [Array.getElem?_extract,if_pos (by omega),h1] at hu
  cases hu
  exact h2
def T5 (P:Program) (o:Oper) (off:Nat) (sz:Option Nat) (x:ct):Bool:=match o.op with
 |.field t x' i=>e8 x' x&&KK P t i off (fun ft=>EJ P ft sz)
 |_=>false
theorem Yg (s:gz top φ K h nx w) (hρ:∀x y,e8 x y=true->ck φ K w (ρ y) (ρc x)) {off:Nat} {sz:Option Nat} {x:ct} (hm:T5 P o off sz x=true) {p:dg} (hp:Jl ρ off sz x=some p):Sound top P φ K h nx w ρc o p:=by
 unfold T5 at hm
 split at hm
 ·rename_i t x' i ho
  simp only [Bool.and_eq_true] at hm
  obtain⟨h1,h2⟩:=hm
  have hr:=hρ _ _ h1
  obtain⟨fs,fd,hu,hf,hoff,hsz⟩:=DH h2
  unfold Jl at hp
  split at hp
  ·rename_i cs hx
   split at hp
   ·rename_i cs' hcut
    obtain⟨v,hv,rfl⟩:=kz hp
    rw [hx] at hr
    obtain⟨vs,hV,hl,hrr⟩:=vt hr
    obtain⟨V,r1,r2⟩:=Pn s hsz hcut hv hl hrr
    refine cy s (V:=V) ?_ r2
    simp only [execOp,ho]
    refine nk ?_
    simp [Instr.field,run_underlying hu,hf,hV,asAgg,hoff,r1]
   ·cases hp
  ·cases hp
 ·cases hm
def Mc (P:Program) (t:TypeId) (es:Nat):Bool:=mg P t fun d=>match d with|.slice e=>w9 P e es|_=>false
theorem BE {t:TypeId} {es:Nat} (hm:Mc P t es=true):∃e,P.underlying t=some (.slice e)/\w9 P e es=true:=by
 obtain⟨d,hd,h1⟩:=eg hm
 split at h1
 ·rename_i e;exact⟨e,hd,h1⟩
 ·cases h1
def Tm (P:Program) (t:TypeId) (n es:Nat):Bool:=mg P t fun d=>match d with|.array m e=>Nat.beq m n&&w9 P e es|_=>false
theorem Gw {t:TypeId} {n es:Nat} (hm:Tm P t n es=true):∃e,P.underlying t=some (.array n e)/\w9 P e es=true:=by
 obtain⟨d,hd,h1⟩:=eg hm
 split at h1
 ·rename_i m e
  simp only [Bool.and_eq_true,Nat.beq_eq] at h1
  obtain⟨rfl,h1⟩:=h1
  exact⟨e,hd,h1⟩
 ·cases h1
theorem Jc {cs:List AV} {n:Nat} {cap:Option Nat} {V:Value} (r:ck φ K w (.jq cs n cap) V):∃ad c',V=.slice (some ad) n c'/\n<=c'/\(∀c,cap=some c->c'=c)/\(cs≠[]->ad.spot=none)/\
  (cs≠[]->∀off',lA K w (.oV cs off') (.pointer (some ⟨ad.block,ad.off+off',none⟩)))/\
  (∀(cs':List AV) (off' n' c1:Nat) (ad':Addr) (cap':Option Nat),(∀j,cs'[j]?=if j < cs'.length then cs[off'+j]? else none)->(cs'≠[]->ad'=⟨ad.block,ad.off+off',none⟩)->(cs'≠[]->cs≠[])->n'<=c1->(∀c,cap'=some c->c1=c)->
   lA K w (.jq cs' n' cap') (.slice (some ad') n' c1)):=by
 cases r with
 |pure r=>cases r with
  |jq cs n cap ad c' f hK hn hcap hone hc hr=>
   refine⟨ad,c',rfl,hn,hcap,fun hne=>(hK hne).1,fun hne off'=>.oV cs ad.block ad.off off' f (hK hne).2 hone hc hr,fun cs' off' n' c1 ad' cap' hat had hne hn' hcap'=>?_⟩
   have hat':∀(j:Nat) (a:AV),cs'[j]?=some a->cs[off'+j]?=some a:=by
    intro j a ha
    have:=hat j
    rw [ha] at this
    split at this
    ·exact this.symm
    ·cases this
   refine .jq cs' n' cap' ad' c1 (fun j=>f (off'+j)) (fun hne'=>?_) hn' hcap' (fun j a ha=>hone _ a (hat' j a ha)) (fun j hj=>?_) (fun j a ha=>hr _ a (hat' j a ha))
   ·rw [had hne']
    exact⟨rfl,(hK (hne hne')).2⟩
   ·have hne':cs'≠[]:=by rintro rfl;simp at hj
    rw [had hne']
    have hlt:off'+j < cs.length:=by
     have:=hat' j _ (List.getElem?_eq_getElem hj)
     rcases Nat.lt_or_ge (off'+j) cs.length with h1|h1
     ·exact h1
     ·rw [List.getElem?_eq_none h1] at this;cases this
    simp only
    rw [Nat.add_assoc]
    exact hc _ hlt
theorem F3 (ad:Addr) (hs:ad.spot=none):ad=⟨ad.block,ad.off,none⟩:=by cases ad;simp at hs;simp [hs]
def Lk (P:Program) (o:Oper) (es:Nat) (x i:ct):Bool:=match o.op with
 |.indexAddr t x' i'=>e8 x' x&&e8 i' i&&Mc P t es
 |_=>false
theorem RM (s:gz top φ K h nx w) (hρ:∀x y,e8 x y=true->ck φ K w (ρ y) (ρc x)) {es:Nat} {x i:ct} (hm:Lk P o es x i=true) {p:dg} (hp:ud ρ es x i=some p):Sound top P φ K h nx w ρc o p:=by
 unfold Lk at hm
 split at hm
 ·rename_i t x' i' ho
  simp only [Bool.and_eq_true] at hm
  obtain⟨⟨h1,h2⟩,h3⟩:=hm
  obtain⟨e,hu,hs⟩:=BE h3
  have hrx:=hρ _ _ h1
  have hri:=hρ _ _ h2
  have hrun:∀(ad:Addr) (len c':Nat) (k:IntKind) (m:Nat),m < len->(Instr.indexAt t (.slice (some ad) len c') (.int k (m:Int))).run P w=.ok (.pointer (some (ad.add (m*es)))) w:=by
   intro ad len c' k m hlt
   simp [Instr.indexAt,run_underlying hu,asIntOf,hlt,lB hs]
  unfold ud at hp
  split at hp
  ·rename_i k iv hi
   rw [hi] at hri
   have hI:=jw hri
   split at hp
   ·rename_i cs n cap hx
    split at hp
    ·rename_i m hix
     obtain⟨rfl,hlt⟩:=CC hix
     split at hp
     ·cases hp
     ·rename_i a0 cs0
      cases hp
      rw [hx] at hrx
      obtain⟨ad,c',hV,_,_,hspot,hip,_⟩:=Jc hrx
      have hne:(a0::cs0)≠[]:=by simp
      refine cy s (V:=.pointer (some ⟨ad.block,ad.off+m*es,none⟩)) ?_ (.pure (hip hne _))
      simp only [execOp,ho,hV,hI]
      refine nk ?_
      rw [hrun ad n c' k m hlt]
      rw [F3 ad (hspot hne),Addr.add_lit]
    ·cases hp
   ·rename_i id g off es' len cap ex hx
    simp only [cond_eq_ite,Nat.beq_eq] at hp
    split at hp
    ·rename_i hes
     subst hes
     split at hp
     ·rename_i m hix
      obtain⟨rfl,hlt⟩:=CC hix
      cases hp
      rw [hx] at hrx
      obtain⟨b,base,ad,c',hV,hb,hl1,hl2,_,had⟩:=lI hrx
      have h0:c'≠0:=by omega
      obtain⟨rfl,_⟩:=had h0
      refine cy s (V:=.pointer (some ⟨b,base+(off+m*es'),none⟩)) ?_ (.ptr id g _ b base hb)
      simp only [execOp,ho,hV,hI]
      refine nk ?_
      rw [hrun _ len c' k m hlt,Addr.add_lit,Nat.add_assoc]
     ·cases hp
    ·cases hp
   ·cases hp
  ·cases hp
 ·cases hm
def PS (P:Program) (o:Oper) (len es:Nat) (x i:ct):Bool:=match o.op with
 |.indexAddr t x' i'=>e8 x' x&&e8 i' i&&Tm P t len es
 |_=>false
theorem TA (s:gz top φ K h nx w) (hρ:∀x y,e8 x y=true->ck φ K w (ρ y) (ρc x)) {len es:Nat} {x i:ct} (hm:PS P o len es x i=true) {p:dg} (hp:z7 ρ len es x i=some p):Sound top P φ K h nx w ρc o p:=by
 unfold PS at hm
 split at hm
 ·rename_i t x' i' ho
  simp only [Bool.and_eq_true] at hm
  obtain⟨⟨h1,h2⟩,h3⟩:=hm
  obtain⟨e,hu,hs⟩:=Gw h3
  have hrx:=hρ _ _ h1
  have hri:=hρ _ _ h2
  have hrun:∀(b q:Nat) (k:IntKind) (m:Nat),m < len->(Instr.indexAt t (.pointer (some ⟨b,q,none⟩)) (.int k (m:Int))).run P w=.ok (.pointer (some ⟨b,q+m*es,none⟩)) w:=by
   intro b q k m hlt
   simp [Instr.indexAt,run_underlying hu,asIntOf,Instr.sureAddr,hlt,lB hs,Addr.add_lit]
  unfold z7 at hp
  split at hp
  ·rename_i k iv hi
   rw [hi] at hri
   have hI:=jw hri
   split at hp
   ·rename_i m hix
    obtain⟨rfl,hlt⟩:=CC hix
    split at hp
    ·rename_i id g q hx
     cases hp
     rw [hx] at hrx
     obtain⟨b,base,hb,hV⟩:=yg hrx
     refine cy s (V:=.pointer (some ⟨b,base+(q+m*es),none⟩)) ?_ (.ptr id g _ b base hb)
     simp only [execOp,ho,hV,hI]
     refine nk ?_
     rw [hrun _ _ k m hlt,Nat.add_assoc]
    ·rename_i cs q hx
     cases hp
     rw [hx] at hrx
     obtain⟨b,o1,hV,hre⟩:=GK hrx
     refine cy s (V:=.pointer (some ⟨b,o1+(q+m*es),none⟩)) ?_ (.pure (hre _))
     simp only [execOp,ho,hV,hI]
     refine nk ?_
     rw [hrun _ _ k m hlt,Nat.add_assoc]
    ·cases hp
   ·cases hp
  ·cases hp
 ·cases hm
def Oz (P:Program) (t:TypeId):Bool:=mg P t fun d=>match d with|.string=>true|_=>false
theorem AL {t:TypeId} (hm:Oz P t=true):P.underlying t=some .string:=by
 obtain⟨d,hd,h1⟩:=eg hm
 split at h1
 ·exact hd
 ·cases h1
def mIdx (P:Program) (o:Oper) (x i:ct):Bool:=match o.op with
 |.index t x' i'=>e8 x' x&&e8 i' i&&Oz P t
 |_=>false
theorem Yf (s:gz top φ K h nx w) (hρ:∀x y,e8 x y=true->ck φ K w (ρ y) (ρc x)) {x i:ct} (hm:mIdx P o x i=true) {p:dg} (hp:Jk ρ x i=some p):Sound top P φ K h nx w ρc o p:=by
 unfold mIdx at hm
 split at hm
 ·rename_i t x' i' ho
  simp only [Bool.and_eq_true] at hm
  obtain⟨⟨h1,h2⟩,h3⟩:=hm
  have hu:=AL h3
  have hrx:=hρ _ _ h1
  have hri:=hρ _ _ h2
  unfold Jk at hp
  split at hp
  ·rename_i q hx
   split at hp
   ·rename_i k m hi
    split at hp
    ·rename_i b hb
     cases hp
     rw [hx] at hrx
     rw [hi] at hri
     have hX:=vp hrx
     have hI:=jw hri
     refine cy s (V:=.int .u8 b.toNat) ?_ (.pure (.int _ _))
     simp only [execOp,ho,hX,hI]
     refine nk ?_
     have h0:(0:Int)<=Int.ofNat m:=Int.natCast_nonneg m
     simp [Instr.index,run_underlying hu,asIntOf,h0,hb]
    ·cases hp
   ·cases hp
  ·cases hp
 ·cases hm
def T6 (o:Oper) (i:Nat) (x:ct):Bool:=match o.op with
 |.extract x' i'=>e8 x' x&&Nat.beq i' i
 |_=>false
theorem Yh (s:gz top φ K h nx w) (hρ:∀x y,e8 x y=true->ck φ K w (ρ y) (ρc x)) {i:Nat} {x:ct} (hm:T6 o i x=true) {p:dg} (hp:Jm ρ i x=some p):Sound top P φ K h nx w ρc o p:=by
 unfold T6 at hm
 split at hm
 ·rename_i x' i' ho
  simp only [Bool.and_eq_true,Nat.beq_eq] at hm
  obtain⟨h1,rfl⟩:=hm
  have hr:=hρ _ _ h1
  unfold Jm at hp
  split at hp
  ·rename_i vs hx
   obtain⟨v,hv,rfl⟩:=kz hp
   rw [hx] at hr
   obtain⟨us,hV,hl,hrr⟩:=HT hr
   obtain⟨u,r1,r2⟩:=hrr _ _ hv
   refine cy s (V:=u) ?_ r2
   simp only [execOp,ho]
   refine nk ?_
   simp [Instr.extract,hV,r1]
  ·cases hp
 ·cases hm
theorem ot {b:Builtin} {args:Array Operand} {tys:Array TypeId} {V:Value} {w':World} {x:Sem Value} (ho:o.op=.call {callee:=.builtin b,args:=args,argTypes:=tys})
  (hb:∀consts,builtin b tys o.type consts (args.map ρc)=(do pure (Next.value (←x)):Sem Next)) (hr:x.run P w=.ok V w'):(execOp ρc o).run P w=.ok (.value V) w':=by
 simp only [execOp,ho,resolve,invoke,hb]
 simp only [Sem.run_bind,Sem.run_pure,Result.andThen_ok,hb,hr]
def T3 (P:Program) (o:Oper) (str:Bool) (x:ct):Bool:=match o.op with
 |.call {callee:=.builtin .len,args:=⟨[x']⟩,argTypes:=⟨t::_⟩}=>e8 x' x&&(match str with|true=>Oz P t|false=>mg P t fun d=>match d with|.slice _=>true|_=>false)
 |_=>false
theorem Ye (s:gz top φ K h nx w) (hρ:∀x y,e8 x y=true->ck φ K w (ρ y) (ρc x)) {str:Bool} {x:ct} (hm:T3 P o str x=true) {p:dg} (hp:wm ρ str x=some p):Sound top P φ K h nx w ρc o p:=by
 unfold T3 at hm
 split at hm
 ·rename_i x' t ts ho
  simp only [Bool.and_eq_true] at hm
  obtain⟨h1,h2⟩:=hm
  have hr:=hρ _ _ h1
  have fin:∀(n:Nat),(Builtin.len_ ⟨t::ts⟩ o.type #[ρc x']).run P w=.ok (.int .i64 n) w->Sound top P φ K h nx w ρc o (kr (.int .i64 n)):=by
   intro n hrun
   exact cy s (V:=.int .i64 n) (ot (x:=Builtin.len_ ⟨t::ts⟩ o.type #[ρc x']) ho (fun _=>by simp [builtin]) hrun) (.pure (.int _ _))
  unfold wm at hp
  cases str with
  |true=>
   have hu:=AL h2
   simp only at hp
   split at hp
   ·rename_i q hx
    cases hp
    rw [hx] at hr
    have hX:=vp hr
    exact fin _ (by simp [Builtin.len_,hX,run_underlying hu,goInt])
   ·cases hp
  |false=>
   obtain⟨d,hd,h3⟩:=eg h2
   split at h3
   ·simp only at hp
    split at hp
    ·rename_i hx
     cases hp
     rw [hx] at hr
     have hX:=jd hr
     exact fin 0 (by simp [Builtin.len_,hX,run_underlying hd,goInt])
    ·rename_i cs n cap hx
     cases hp
     rw [hx] at hr
     obtain⟨ad,c',hV,_⟩:=qp hr
     exact fin n (by simp [Builtin.len_,hV,run_underlying hd,goInt])
    ·rename_i id g off es len cap ex hx
     cases hp
     rw [hx] at hr
     obtain⟨b,base,ad,c',hV,_⟩:=lI hr
     exact fin len (by simp [Builtin.len_,hV,run_underlying hd,goInt])
    ·cases hp
   ·cases h3
 ·cases hm
end
end Go.Ax
