/- Part 2 of the proof: Ax5, Ax6. -/
import Derived.Test.YtamgnhdbeecapaaCa1
import Derived.Laws.StructEq
set_option linter.unusedSimpArgs false
set_option linter.unusedVariables false
namespace Go.Ax
section
variable {top:Nat} {P:Program} {φ:fq} {K:Nat->Prop} {h:aV} {nx:Nat} {w:World} {ρ:aH->AV} {ρc:Operand->Value} {o:Oper}
def y2 (o:Oper) (x:aH):Bool:=match o.op with
 |.nilCheck x'=>bk x' x
 |_=>false
theorem Ez (s:bJ top φ K h nx w) (hρ:∀x y,bk x y=true->aG φ K w (ρ y) (ρc x)) {x:aH} (hm:y2 o x=true) {p:aP} (hp:gM ρ x=some p):Sound top P φ K h nx w ρc o p:=by
 unfold y2 at hm;split at hm
 ·rename_i x' ho;have hr:=hρ _ _ hm;unfold gM at hp;split at hp
  ·rename_i id g off hx;cases hp;rw [hx] at hr;obtain⟨b,base,hb,hV⟩:=jK hr;exact aL s (V:=ρc x') (by simp [execOp,ho,hV]) hr
  ·rename_i cs off hx;cases hp;rw [hx] at hr;obtain⟨b,o1,hK,hV,_⟩:=wH hr;exact aL s (V:=ρc x') (by simp [execOp,ho,hV]) hr
  ·rename_i f hx;cases hp;rw [hx] at hr;have hV:=nc hr;exact aL s (V:=ρc x') (by simp [execOp,ho,hV]) hr
  ·cases hp
 ·cases hm
theorem pP (op:BinOp) (t:TypeId) (x y:Operand) (a b:Value) (hc:(∃k n,a=.int k n)\/(∃q,a=.string q)\/(∃q,a=.bool q)):(eqGuard op t x y a b).run P w=.ok () w:=by unfold eqGuard;rcases hc with ⟨k,n,rfl⟩|⟨q,rfl⟩|⟨q,rfl⟩<;>cases op<;>simp
theorem DR {op:BinOp} {x y v:AV} {X Y:Value} (t:TypeId) (hv:ya op x y=some v) (hx:aG φ K w x X) (hy:aG φ K w y Y) :
  ∃V,(binOp op t X Y).run P w=.ok V w/\aG φ K w v V/\((∃k n,X=.int k n)\/(∃q,X=.string q)\/(∃q,X=.bool q)):=by
 unfold ya at hv;split at hv
 ·rename_i k a;split at hv
  ·rename_i k' b;have hX:=c4 hx;have hY:=c4 hy;subst hX hY;refine(fun (hh:∃V,(binOp op t (.int k a) (.int k' b)).run P w=.ok V w/\aG φ K w v V)=>let ⟨V,h1,h2⟩:=hh;⟨V,h1,h2,.inl ⟨_,_,rfl⟩⟩) ?_;by_cases hsh:op=.shl\/op=.shr
   ·rcases hsh with rfl|rfl <;>
    ·simp only [yE,kG,cond_eq_ite,O3] at hv;split at hv
     ·cases hv
     ·rename_i hb;cases hv;exact⟨_,by simp [binOp,Op.shift,hb],.pure (.int _ _)⟩
   ·have hv':(bif BK k k' then Di op k a b else none)=some v:=by revert hv;cases op<;>simp_all
    rw [cond_eq_ite] at hv';split at hv'
    ·rename_i hk;have hk':=oQ hk;subst hk';cases op<;>simp only [Di,j_,kS,kG,cond_eq_ite,O3] at hv'
     case add|sub|mul=>cases hv';exact⟨_,by simp [binOp,Op.intArith],.pure (.int _ _)⟩
     case and|or|xor|andNot=>cases hv';exact⟨_,by simp [binOp,Op.intBits],.pure (.int _ _)⟩
     case quo|rem=>
      split at hv'
      ·cases hv'
      ·rename_i hb;cases hv';refine⟨.int k _,?_,.pure (.int _ _)⟩;simp [binOp,Op.intDiv,hb]
     case shl|shr=>cases hv'
     case eql=>cases hv';rw [show decide (a=b)=(a == b) from (Bool.beq_eq_decide_eq a b).symm];exact⟨_,by simp [binOp,Op.intCmp],.pure (.bool _)⟩
     case neq=>cases hv';rw [show (!decide (a=b))=(a != b) from by rw [bne,Bool.beq_eq_decide_eq]];exact⟨_,by simp [binOp,Op.intCmp],.pure (.bool _)⟩
     case lss|gtr=>cases hv';exact⟨_,by simp [binOp,Op.intCmp],.pure (.bool _)⟩
     case leq=>cases hv';rw [show (!decide (b < a))=decide (a<=b) from by rw [Bool.eq_iff_iff];simp];exact⟨_,by simp [binOp,Op.intCmp],.pure (.bool _)⟩
     case geq=>cases hv';rw [show (!decide (a < b))=decide (b<=a) from by rw [Bool.eq_iff_iff];simp];exact⟨_,by simp [binOp,Op.intCmp],.pure (.bool _)⟩
    ·cases hv'
  ·cases hv
 ·rename_i a;split at hv
  ·rename_i b;have hX:=iN hx;have hY:=iN hy;subst hX hY;refine(fun (hh:∃V,(binOp op t (.string a) (.string b)).run P w=.ok V w/\aG φ K w v V)=>let ⟨V,h1,h2⟩:=hh;⟨V,h1,h2,.inr (.inl ⟨_,rfl⟩)⟩) ?_;cases op<;>simp only [Ih,cond_eq_ite,OZ] at hv
   case eql|neq|lss|leq|gtr|geq=>cases hv;exact⟨_,by simp [binOp,Op.stringOp],.pure (.bool _)⟩
   case add=>
    split at hv
    ·rename_i hb;cases hv;refine⟨.string (a++b),?_,.pure (.str _)⟩;have hb':¬(9223372036854775807 < (a.size:Int)+(b.size:Int)):=by unfold most at hb;omega
     simp [binOp,Op.stringOp,IntKind.max,IntKind.signed,IntKind.bits,hb']
    ·cases hv
   all_goals cases hv
  ·cases hv
 ·cases hv
def GU (o:Oper) (op:BinOp) (x y:aH):Bool:=match o.op with
 |.binOp op' _ x' y' _=>decide (op'=op)&&bk x' x&&bk y' y
 |_=>false
theorem Ix (s:bJ top φ K h nx w) (hρ:∀x y,bk x y=true->aG φ K w (ρ y) (ρc x)) {op:BinOp} {x y:aH} (hm:GU o op x y=true) {p:aP} (hp:dG (ya op (ρ x) (ρ y))=some p):Sound top P φ K h nx w ρc o p:=by
 unfold GU at hm;split at hm
 ·rename_i op' t x' y' t' ho;simp only [OV,O3] at hm;obtain⟨⟨rfl,h1⟩,h2⟩:=hm;obtain⟨v,hv,rfl⟩:=dm hp;obtain⟨V,r1,r2,r3⟩:=DR (P:=P) t hv (hρ _ _ h1) (hρ _ _ h2);refine aL s (V:=V) ?_ r2;simp only [execOp,ho];refine en ?_;simp [pP op' t x' y' _ _ r3,r1]
 ·cases hm
def Mf (o:Oper) (op:UnOp) (x:aH):Bool:=match o.op with
 |.unOp op' _ x'=>decide (op'=op)&&bk x' x
 |_=>false
theorem KY (s:bJ top φ K h nx w) (hρ:∀x y,bk x y=true->aG φ K w (ρ y) (ρc x)) {op:UnOp} {x:aH} (hm:Mf o op x=true) {p:aP} (hp:dG (F7 op (ρ x))=some p):Sound top P φ K h nx w ρc o p:=by
 unfold Mf at hm;split at hm
 ·rename_i op' t x' ho;simp only [OV,O3] at hm;obtain⟨rfl,h1⟩:=hm;obtain⟨v,hv,rfl⟩:=dm hp;have hr:=hρ _ _ h1;unfold F7 at hv;split at hv
  ·split at hv
   ·rename_i k n hx;cases hv;rw [hx] at hr;have hV:=c4 hr;refine aL s (V:=.int k (k.wrap (0 - n))) ?_ (by rw [j_];exact .pure (.int _ _));simp [execOp,ho,hV,Op.unary,Op.intArith]
   ·cases hv
  ·split at hv
   ·rename_i b hx;cases hv;rw [hx] at hr;have hV:=dz hr;refine aL s (V:=.bool !b) ?_ (.pure (.bool _));simp [execOp,ho,hV,Op.unary]
   ·cases hv
  ·split at hv
   ·rename_i k n hx;simp only [Di] at hv;cases hv;rw [hx] at hr;have hV:=c4 hr;refine aL s (V:=_) ?_ (.pure (.int _ _));simp [execOp,ho,hV,Op.unary,Op.intBits]
   ·cases hv
  ·cases hv
 ·cases hm
def Db (P:Program) (o:Oper) (k:IntKind) (x:aH):Bool:=match o.op with
 |.convert a b x'=>bk x' x&&ej P a (fun d=>match d with|.int _=>true|_=>false)&&ej P b (fun d=>match d with|.int k'=>BK k' k|_=>false)
 |_=>false
theorem Gk (s:bJ top φ K h nx w) (hρ:∀x y,bk x y=true->aG φ K w (ρ y) (ρc x)) {k:IntKind} {x:aH} (hm:Db P o k x=true) {p:aP} (hp:pE ρ k x=some p):Sound top P φ K h nx w ρc o p:=by
 unfold Db at hm;split at hm
 ·rename_i a b x' ho;simp only [OV] at hm;obtain⟨⟨h1,h2⟩,h3⟩:=hm;have hr:=hρ _ _ h1;obtain⟨d,hd,_⟩:=aW h2;obtain⟨d',hd',hd2⟩:=aW h3;unfold pE at hp;split at hp
  ·rename_i k0 n hx;cases hp;rw [hx] at hr;have hV:=c4 hr;split at hd2
   ·rename_i k';have:=oQ hd2;subst this;refine aL s (V:=.int k' (k'.wrap n)) ?_ (by rw [j_];exact .pure (.int _ _));simp [execOp,ho,hV,convert,run_underlying hd,run_underlying hd',Conv.intToInt]
   ·cases hd2
  ·cases hp
 ·cases hm
theorem tH {cs:List AV} {off:Nat} {V:Value} (r:aG φ K w (.fj cs off) V):∃b o,V=.pointer (some ⟨b,o+off,none⟩)/\∀off',dK K w (.fj cs off') (.pointer (some ⟨b,o+off',none⟩)):=by
 cases r with
 |pure r=>cases r with
  |fj cs b o off f hK hone hc hr=>exact⟨b,o,rfl,fun off'=>.fj cs b o off' f hK hone hc hr⟩
def yq (P:Program) (t:TypeId) (i off:Nat) (f:TypeId->Bool):Bool:=ej P t fun d=>match d with
 |.struct fs=>match fs[i]? with
  |some fd=>Nat.beq fd.offset off&&f fd.type
  |none=>false
 |_=>false
theorem pq {t:TypeId} {i off:Nat} {f:TypeId->Bool} (hm:yq P t i off f=true):∃fs fd,P.underlying t=some (.struct fs)/\fs[i]?=some fd/\fd.offset=off/\f fd.type=true:=by
 obtain⟨d,hd,h1⟩:=aW hm;split at h1
 ·rename_i fs;split at h1
  ·rename_i fd hfd;simp only [OV,OY] at h1;exact⟨fs,fd,hd,hfd,h1.1,h1.2⟩
  ·cases h1
 ·cases h1
def y4 (P:Program) (o:Oper) (off:Nat) (x:aH):Bool:=match o.op with
 |.fieldAddr t x' i=>bk x' x&&yq P t i off (fun ft=>tInfo P ft fun i=>!(Nat.beq i.size 0))
 |_=>false
theorem EB (s:bJ top φ K h nx w) (hρ:∀x y,bk x y=true->aG φ K w (ρ y) (ρc x)) {off:Nat} {x:aH} (hm:y4 P o off x=true) {p:aP} (hp:gb ρ off x=some p):Sound top P φ K h nx w ρc o p:=by
 unfold y4 at hm;split at hm
 ·rename_i t x' i ho;simp only [OV] at hm;obtain⟨h1,h2⟩:=hm;have hr:=hρ _ _ h1;obtain⟨fs,fd,hu,hf,hoff,hsz⟩:=pq h2;obtain⟨ti,hti,hsz⟩:=cT hsz;have hs0:ti.size≠0:=by intro h0;rw [h0] at hsz;cases hsz
  have hrun:∀b q,(Instr.fieldAt t (.pointer (some ⟨b,q,none⟩)) i).run P w=.ok (.pointer (some ⟨b,q+off,none⟩)) w:=by intro b q;simp [Instr.fieldAt,run_underlying hu,hf,Instr.sureAddr,fieldPlace,sizeOf,typeInfo,hti,hs0,Addr.add_lit,hoff]
  unfold gb at hp;split at hp
  ·rename_i id g q hx;cases hp;rw [hx] at hr;obtain⟨b,base,hb,hV⟩:=jK hr;refine aL s (V:=.pointer (some ⟨b,base+q+off,none⟩)) ?_ (by rw [Nat.add_assoc];exact .ptr id g (q+off) b base hb);simp only [execOp,ho,hV];exact en (hrun b (base+q))
  ·rename_i cs q hx;cases hp;rw [hx] at hr;obtain⟨b,o1,hV,hre⟩:=tH hr;refine aL s (V:=.pointer (some ⟨b,o1+q+off,none⟩)) ?_ (by rw [Nat.add_assoc];exact .pure (hre (q+off)));simp only [execOp,ho,hV];exact en (hrun b (o1+q))
  ·cases hp
 ·cases hm
end
end Go.Ax
namespace Go.Ax
section
variable {top:Nat} {P:Program} {φ:fq} {K:Nat->Prop} {h:aV} {nx:Nat} {w:World} {ρ:aH->AV} {ρc:Operand->Value} {o:Oper}
theorem CN (s:bJ top φ K h nx w) {t:TypeId} {sz:Option Nat} (ht:qv P t sz=true) {cs cs':List AV} {off:Nat} {v:AV} {vs:Array Value} (qxi:cut cs off (bW sz)=some cs') (hv:z6 sz cs'=some v)
  (hl:cs.length=vs.size) (hr:∀(j:Nat) (a:AV),cs[j]?=some a->a.one=true/\∃u,vs[j]?=some u/\aG φ K w a u):∃V,(part t vs off).run P w=.ok V w/\aG φ K w v V:=by
 obtain⟨hl',hat⟩:=vK qxi;have hfit:=(fl qxi).1;have qq9:∀(j:Nat) (a:AV),cs'[j]?=some a->a.one=true/\∃u,vs[off+j]?=some u/\aG φ K w a u:=by
  intro j a ha;have hj:j < bW sz:=by
   rcases Nat.lt_or_ge j cs'.length with hj|hj
   ·omega
   ·rw [OA hj] at ha;cases ha
  rw [hat j hj] at ha;exact hr _ a ha
 cases sz with
 |none=>
  obtain⟨d,hd,hag⟩:=aW ht;unfold z6 at hv;simp only at hv;split at hv
  ·rename_i x;cases hv;obtain⟨_,u,h1,h2⟩:=qq9 0 v rfl;refine⟨u,?_,h2⟩;simp only [Nat.add_zero] at h1;simp at hag;simp [part,c9 hd,hag,h1]
  ·cases hv
 |some n=>
  simp only [qv,OV] at ht;obtain⟨d,hd,hag⟩:=aW ht.1;have hs:=dM ht.2 w;simp only [bW] at hl' hfit;cases hv;refine⟨.agg (vs.extract off (off+n)),by simp [part,c9 hd,hag,hs],.agg _ _ (by simp;omega) (fun j a ha=>(qq9 j a ha).1) (fun j a u ha hu=>?_)⟩;obtain⟨_,u',h1,h2⟩:=qq9 j a ha;have hj:j < n:=by
   rcases Nat.lt_or_ge j cs'.length with hj|hj
   ·omega
   ·rw [OA hj] at ha;cases ha
  rw [Array.getElem?_extract,if_pos (by omega),h1] at hu;cases hu;exact h2
def GN (P:Program) (o:Oper) (off:Nat) (sz:Option Nat) (x:aH):Bool:=match o.op with
 |.field t x' i=>bk x' x&&yq P t i off (fun ft=>qv P ft sz)
 |_=>false
theorem Ir (s:bJ top φ K h nx w) (hρ:∀x y,bk x y=true->aG φ K w (ρ y) (ρc x)) {off:Nat} {sz:Option Nat} {x:aH} (hm:GN P o off sz x=true) {p:aP} (hp:wS ρ off sz x=some p):Sound top P φ K h nx w ρc o p:=by
 unfold GN at hm;split at hm
 ·rename_i t x' i ho;simp only [OV] at hm;obtain⟨h1,h2⟩:=hm;have hr:=hρ _ _ h1;obtain⟨fs,fd,hu,hf,hoff,hsz⟩:=pq h2;unfold wS at hp;split at hp
  ·rename_i cs hx;split at hp
   ·rename_i cs' qxi;obtain⟨v,hv,rfl⟩:=dm hp;rw [hx] at hr;obtain⟨vs,hV,hl,hrr⟩:=iO hr;obtain⟨V,r1,r2⟩:=CN s hsz qxi hv hl hrr;refine aL s (V:=V) ?_ r2;simp only [execOp,ho];refine en ?_;simp [Instr.field,run_underlying hu,hf,hV,asAgg,hoff,r1]
   ·cases hp
  ·cases hp
 ·cases hm
def zP (P:Program) (t:TypeId) (es:Nat):Bool:=ej P t fun d=>match d with|.slice e=>jh P e es|_=>false
theorem mw {t:TypeId} {es:Nat} (hm:zP P t es=true):∃e,P.underlying t=some (.slice e)/\jh P e es=true:=by
 obtain⟨d,hd,h1⟩:=aW hm;split at h1
 ·rename_i e;exact⟨e,hd,h1⟩
 ·cases h1
def F_ (P:Program) (t:TypeId) (n es:Nat):Bool:=ej P t fun d=>match d with|.array m e=>Nat.beq m n&&jh P e es|_=>false
theorem tn {t:TypeId} {n es:Nat} (hm:F_ P t n es=true):∃e,P.underlying t=some (.array n e)/\jh P e es=true:=by
 obtain⟨d,hd,h1⟩:=aW hm;split at h1
 ·rename_i m e;simp only [OV,OY] at h1;obtain⟨rfl,h1⟩:=h1;exact⟨e,hd,h1⟩
 ·cases h1
theorem wJ {cs:List AV} {n:Nat} {cap:Option Nat} {V:Value} (r:aG φ K w (.b5 cs n cap) V):∃ad c',V=.slice (some ad) n c'/\n<=c'/\(∀c,cap=some c->c'=c)/\(cs≠[]->ad.spot=none)/\
  (cs≠[]->∀off',dK K w (.fj cs off') (.pointer (some ⟨ad.block,ad.off+off',none⟩)))/\
  (∀(cs':List AV) (off' n' c1:Nat) (ad':Addr) (cap':Option Nat),(∀j,cs'[j]?=if j < cs'.length then cs[off'+j]? else none)->(cs'≠[]->ad'=⟨ad.block,ad.off+off',none⟩)->(cs'≠[]->cs≠[])->n'<=c1->(∀c,cap'=some c->c1=c)->
   dK K w (.b5 cs' n' cap') (.slice (some ad') n' c1)):=by
 cases r with
 |pure r=>cases r with
  |b5 cs n cap ad c' f hK hn hcap hone hc hr=>
   refine⟨ad,c',rfl,hn,hcap,fun hne=>(hK hne).1,fun hne off'=>.fj cs ad.block ad.off off' f (hK hne).2 hone hc hr,fun cs' off' n' c1 ad' cap' hat had hne hn' qjh=>?_⟩;have qji:∀(j:Nat) (a:AV),cs'[j]?=some a->cs[off'+j]?=some a:=by
    intro j a ha;have:=hat j;rw [ha] at this;split at this
    ·exact this.symm
    ·cases this
   refine .b5 cs' n' cap' ad' c1 (fun j=>f (off'+j)) (fun qxJ=>?_) hn' qjh (fun j a ha=>hone _ a (qji j a ha)) (fun j hj=>?_) (fun j a ha=>hr _ a (qji j a ha))
   ·rw [had qxJ];exact⟨rfl,(hK (hne qxJ)).2⟩
   ·have qxJ:cs'≠[]:=by rintro rfl;simp at hj
    rw [had qxJ];have hlt:off'+j < cs.length:=by
     have:=qji j _ (Ov hj);rcases Nat.lt_or_ge (off'+j) cs.length with h1|h1
     ·exact h1
     ·rw [OA h1] at this;cases this
    simp only;rw [Nat.add_assoc];exact hc _ hlt
theorem sS (ad:Addr) (hs:ad.spot=none):ad=⟨ad.block,ad.off,none⟩:=by cases ad;simp at hs;simp [hs]
def y3 (P:Program) (o:Oper) (es:Nat) (x i:aH):Bool:=match o.op with
 |.indexAddr t x' i'=>bk x' x&&bk i' i&&zP P t es
 |_=>false
theorem EA (s:bJ top φ K h nx w) (hρ:∀x y,bk x y=true->aG φ K w (ρ y) (ρc x)) {es:Nat} {x i:aH} (hm:y3 P o es x i=true) {p:aP} (hp:gN ρ es x i=some p):Sound top P φ K h nx w ρc o p:=by
 unfold y3 at hm;split at hm
 ·rename_i t x' i' ho;simp only [OV] at hm;obtain⟨⟨h1,h2⟩,h3⟩:=hm;obtain⟨e,hu,hs⟩:=mw h3;have hrx:=hρ _ _ h1;have hri:=hρ _ _ h2;have hrun:∀(ad:Addr) (len c':Nat) (k:IntKind) (m:Nat),m < len->(Instr.indexAt t (.slice (some ad) len c') (.int k (m:Int))).run P w=.ok (.pointer (some (ad.add (m*es)))) w:=by intro ad len c' k m hlt;simp [Instr.indexAt,run_underlying hu,asIntOf,hlt,dM hs]
  unfold gN at hp;split at hp
  ·rename_i k iv hi;rw [hi] at hri;have hI:=c4 hri;split at hp
   ·rename_i cs n cap hx;split at hp
    ·rename_i m hix;obtain⟨rfl,hlt⟩:=nF hix;split at hp
     ·cases hp
     ·rename_i a0 cs0;cases hp;rw [hx] at hrx;obtain⟨ad,c',hV,_,_,qx3,hip,_⟩:=wJ hrx;have hne:(a0::cs0)≠[]:=by simp
      refine aL s (V:=.pointer (some ⟨ad.block,ad.off+m*es,none⟩)) ?_ (.pure (hip hne _));simp only [execOp,ho,hV,hI];refine en ?_;rw [hrun ad n c' k m hlt];rw [sS ad (qx3 hne),Addr.add_lit]
    ·cases hp
   ·rename_i id g off es' len cap ex hx;simp only [cond_eq_ite,OY] at hp;split at hp
    ·rename_i hes;subst hes;split at hp
     ·rename_i m hix;obtain⟨rfl,hlt⟩:=nF hix;cases hp;rw [hx] at hrx;obtain⟨b,base,ad,c',hV,hb,hl1,hl2,_,had⟩:=dP hrx;have h0:c'≠0:=by omega
      obtain⟨rfl,_⟩:=had h0;refine aL s (V:=.pointer (some ⟨b,base+(off+m*es'),none⟩)) ?_ (.ptr id g _ b base hb);simp only [execOp,ho,hV,hI];refine en ?_;rw [hrun _ len c' k m hlt,Addr.add_lit,Nat.add_assoc]
     ·cases hp
    ·cases hp
   ·cases hp
  ·cases hp
 ·cases hm
def C_ (P:Program) (o:Oper) (len es:Nat) (x i:aH):Bool:=match o.op with
 |.indexAddr t x' i'=>bk x' x&&bk i' i&&F_ P t len es
 |_=>false
theorem Gj (s:bJ top φ K h nx w) (hρ:∀x y,bk x y=true->aG φ K w (ρ y) (ρc x)) {len es:Nat} {x i:aH} (hm:C_ P o len es x i=true) {p:aP} (hp:ku ρ len es x i=some p):Sound top P φ K h nx w ρc o p:=by
 unfold C_ at hm;split at hm
 ·rename_i t x' i' ho;simp only [OV] at hm;obtain⟨⟨h1,h2⟩,h3⟩:=hm;obtain⟨e,hu,hs⟩:=tn h3;have hrx:=hρ _ _ h1;have hri:=hρ _ _ h2;have hrun:∀(b q:Nat) (k:IntKind) (m:Nat),m < len->(Instr.indexAt t (.pointer (some ⟨b,q,none⟩)) (.int k (m:Int))).run P w=.ok (.pointer (some ⟨b,q+m*es,none⟩)) w:=by intro b q k m hlt;simp [Instr.indexAt,run_underlying hu,asIntOf,Instr.sureAddr,hlt,dM hs,Addr.add_lit]
  unfold ku at hp;split at hp
  ·rename_i k iv hi;rw [hi] at hri;have hI:=c4 hri;split at hp
   ·rename_i m hix;obtain⟨rfl,hlt⟩:=nF hix;split at hp
    ·rename_i id g q hx;cases hp;rw [hx] at hrx;obtain⟨b,base,hb,hV⟩:=jK hrx;refine aL s (V:=.pointer (some ⟨b,base+(q+m*es),none⟩)) ?_ (.ptr id g _ b base hb);simp only [execOp,ho,hV,hI];refine en ?_;rw [hrun _ _ k m hlt,Nat.add_assoc]
    ·rename_i cs q hx;cases hp;rw [hx] at hrx;obtain⟨b,o1,hV,hre⟩:=tH hrx;refine aL s (V:=.pointer (some ⟨b,o1+(q+m*es),none⟩)) ?_ (.pure (hre _));simp only [execOp,ho,hV,hI];refine en ?_;rw [hrun _ _ k m hlt,Nat.add_assoc]
    ·cases hp
   ·cases hp
  ·cases hp
 ·cases hm
def BZ (P:Program) (t:TypeId):Bool:=ej P t fun d=>match d with|.string=>true|_=>false
theorem lq {t:TypeId} (hm:BZ P t=true):P.underlying t=some .string:=by
 obtain⟨d,hd,h1⟩:=aW hm;split at h1
 ·exact hd
 ·cases h1
def mIdx (P:Program) (o:Oper) (x i:aH):Bool:=match o.op with
 |.index t x' i'=>bk x' x&&bk i' i&&BZ P t
 |_=>false
theorem Iq (s:bJ top φ K h nx w) (hρ:∀x y,bk x y=true->aG φ K w (ρ y) (ρc x)) {x i:aH} (hm:mIdx P o x i=true) {p:aP} (hp:wR ρ x i=some p):Sound top P φ K h nx w ρc o p:=by
 unfold mIdx at hm;split at hm
 ·rename_i t x' i' ho;simp only [OV] at hm;obtain⟨⟨h1,h2⟩,h3⟩:=hm;have hu:=lq h3;have hrx:=hρ _ _ h1;have hri:=hρ _ _ h2;unfold wR at hp;split at hp
  ·rename_i q hx;split at hp
   ·rename_i k m hi;split at hp
    ·rename_i b hb;cases hp;rw [hx] at hrx;rw [hi] at hri;have hX:=iN hrx;have hI:=c4 hri;refine aL s (V:=.int .u8 b.toNat) ?_ (.pure (.int _ _));simp only [execOp,ho,hX,hI];refine en ?_;have h0:(0:Int)<=Int.ofNat m:=Int.natCast_nonneg m;simp [Instr.index,run_underlying hu,asIntOf,h0,hb]
    ·cases hp
   ·cases hp
  ·cases hp
 ·cases hm
def GO (o:Oper) (i:Nat) (x:aH):Bool:=match o.op with
 |.extract x' i'=>bk x' x&&Nat.beq i' i
 |_=>false
theorem It (s:bJ top φ K h nx w) (hρ:∀x y,bk x y=true->aG φ K w (ρ y) (ρc x)) {i:Nat} {x:aH} (hm:GO o i x=true) {p:aP} (hp:wT ρ i x=some p):Sound top P φ K h nx w ρc o p:=by
 unfold GO at hm;split at hm
 ·rename_i x' i' ho;simp only [OV,OY] at hm;obtain⟨h1,rfl⟩:=hm;have hr:=hρ _ _ h1;unfold wT at hp;split at hp
  ·rename_i vs hx;obtain⟨v,hv,rfl⟩:=dm hp;rw [hx] at hr;obtain⟨us,hV,hl,hrr⟩:=va hr;obtain⟨u,r1,r2⟩:=hrr _ _ hv;refine aL s (V:=u) ?_ r2;simp only [execOp,ho];refine en ?_;simp [Instr.extract,hV,r1]
  ·cases hp
 ·cases hm
theorem eT {b:Builtin} {args:Array Operand} {tys:Array TypeId} {V:Value} {w':World} {x:Sem Value} (ho:o.op=.call {callee:=.builtin b,args:=args,argTypes:=tys})
  (hb:∀consts,builtin b tys o.type consts (args.map ρc)=(do pure (Next.value (←x)):Sem Next)) (hr:x.run P w=.ok V w'):(execOp ρc o).run P w=.ok (.value V) w':=by
 simp only [execOp,ho,resolve,invoke,hb];simp only [Sem.run_bind,Sem.run_pure,Result.andThen_ok,hb,hr]
def GM (P:Program) (o:Oper) (str:Bool) (x:aH):Bool:=match o.op with
 |.call {callee:=.builtin .len,args:=⟨[x']⟩,argTypes:=⟨t::_⟩}=>bk x' x&&(match str with|true=>BZ P t|false=>ej P t fun d=>match d with|.slice _=>true|_=>false)
 |_=>false
theorem Ip (s:bJ top φ K h nx w) (hρ:∀x y,bk x y=true->aG φ K w (ρ y) (ρc x)) {str:Bool} {x:aH} (hm:GM P o str x=true) {p:aP} (hp:jb ρ str x=some p):Sound top P φ K h nx w ρc o p:=by
 unfold GM at hm;split at hm
 ·rename_i x' t ts ho;simp only [OV] at hm;obtain⟨h1,h2⟩:=hm;have hr:=hρ _ _ h1;have fin:∀(n:Nat),(Builtin.len_ ⟨t::ts⟩ o.type #[ρc x']).run P w=.ok (.int .i64 n) w->Sound top P φ K h nx w ρc o (di (.int .i64 n)):=by intro n hrun;exact aL s (V:=.int .i64 n) (eT (x:=Builtin.len_ ⟨t::ts⟩ o.type #[ρc x']) ho (fun _=>by simp [builtin]) hrun) (.pure (.int _ _))
  unfold jb at hp;cases str with
  |true=>
   have hu:=lq h2;simp only at hp;split at hp
   ·rename_i q hx;cases hp;rw [hx] at hr;have hX:=iN hr;exact fin _ (by simp [Builtin.len_,hX,run_underlying hu,goInt])
   ·cases hp
  |false=>
   obtain⟨d,hd,h3⟩:=aW h2;split at h3
   ·simp only at hp;split at hp
    ·rename_i hx;cases hp;rw [hx] at hr;have hX:=cH hr;exact fin 0 (by simp [Builtin.len_,hX,run_underlying hd,goInt])
    ·rename_i cs n cap hx;cases hp;rw [hx] at hr;obtain⟨ad,c',hV,_⟩:=fP hr;exact fin n (by simp [Builtin.len_,hV,run_underlying hd,goInt])
    ·rename_i id g off es len cap ex hx;cases hp;rw [hx] at hr;obtain⟨b,base,ad,c',hV,_⟩:=dP hr;exact fin len (by simp [Builtin.len_,hV,run_underlying hd,goInt])
    ·cases hp
   ·cases h3
 ·cases hm
end
end Go.Ax
