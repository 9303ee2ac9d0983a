/- Part 2 of the proof: Ax5, Ax6. -/
import Derived.Test.YtamgnhdbeecapaaCy1
import Derived.Laws.StructEq
set_option linter.unusedSimpArgs false
set_option linter.unusedVariables false
namespace Go.Ax
section
variable {top:Nat} {P:Program} {φ:er} {K:Nat->Prop} {h:aQ} {nx:Nat} {w:World} {ρ:aD->AV} {ρc:Operand->Value} {o:Oper}
def wm (o:Oper) (x:aD):Bool:=match o.op with
 |.nilCheck x'=>aY x' x
 |_=>false
theorem B9 (s:bt top φ K h nx w) (hρ:∀x y,aY x y=true->aC φ K w (ρ y) (ρc x)) {x:aD} (hm:wm o x=true) {p:aJ} (hp:fM ρ x=some p):Sound top P φ K h nx w ρc o p:=by
 unfold wm at hm;split at hm
 ·rename_i x' ho;have hr:=hρ _ _ hm;unfold fM at hp;split at hp
  ·rename_i id g off hx;cases hp;rw [hx] at hr;obtain⟨b,base,hb,hV⟩:=iG hr;exact aH s (V:=ρc x') (by simp [execOp,ho,hV]) hr
  ·rename_i cs off hx;cases hp;rw [hx] at hr;obtain⟨b,o1,hK,hV,_⟩:=ua hr;exact aH s (V:=ρc x') (by simp [execOp,ho,hV]) hr
  ·rename_i f hx;cases hp;rw [hx] at hr;have hV:=lB hr;exact aH s (V:=ρc x') (by simp [execOp,ho,hV]) hr
  ·cases hp
 ·cases hm
theorem nH (op:BinOp) (t:TypeId) (x y:Operand) (a b:Value) (hc:(∃k n,a=.int k n)\/(∃q,a=.string q)\/(∃q,a=.bool q)):(eqGuard op t x y a b).run P w=.ok () w:=by unfold eqGuard;rcases hc with ⟨k,n,rfl⟩|⟨q,rfl⟩|⟨q,rfl⟩<;>cases op<;>simp
theorem BA {op:BinOp} {x y v:AV} {X Y:Value} (t:TypeId) (hv:vo op x y=some v) (hx:aC φ K w x X) (hy:aC φ K w y Y) :
  ∃V,(binOp op t X Y).run P w=.ok V w/\aC φ K w v V/\((∃k n,X=.int k n)\/(∃q,X=.string q)\/(∃q,X=.bool q)):=by
 unfold vo at hv;split at hv
 ·rename_i k a;split at hv
  ·rename_i k' b;have hX:=cE hx;have hY:=cE hy;subst hX hY;refine(fun (hh:∃V,(binOp op t (.int k a) (.int k' b)).run P w=.ok V w/\aC φ K w v V)=>let ⟨V,h1,h2⟩:=hh;⟨V,h1,h2,.inl ⟨_,_,rfl⟩⟩) ?_;by_cases hsh:op=.shl\/op=.shr
   ·rcases hsh with rfl|rfl <;>
    ·simp only [vN,oS,cond_eq_ite,Lt] at hv;split at hv
     ·cases hv
     ·rename_i hb;cases hv;exact⟨_,by simp [binOp,Op.shift,hb],.pure (.int _ _)⟩
   ·have hv':(bif zb k k' then AZ op k a b else none)=some v:=by revert hv;cases op<;>simp_all
    rw [cond_eq_ite] at hv';split at hv'
    ·rename_i hk;have hk':=mZ hk;subst hk';cases op<;>simp only [AZ,je,kZ,oS,cond_eq_ite,Lt] at hv'
     case add|sub|mul=>cases hv';exact⟨_,by simp [binOp,Op.intArith],.pure (.int _ _)⟩
     case and|or|xor|andNot=>cases hv';exact⟨_,by simp [binOp,Op.intBits],.pure (.int _ _)⟩
     case quo|rem=>
      split at hv'
      ·cases hv'
      ·rename_i hb;cases hv';refine⟨.int k _,?_,.pure (.int _ _)⟩;simp [binOp,Op.intDiv,hb]
     case shl|shr=>cases hv'
     case eql=>cases hv';rw [show decide (a=b)=(a == b) from (Bool.beq_eq_decide_eq a b).symm];exact⟨_,by simp [binOp,Op.intCmp],.pure (.bool _)⟩
     case neq=>cases hv';rw [show (!decide (a=b))=(a != b) from by rw [bne,Bool.beq_eq_decide_eq]];exact⟨_,by simp [binOp,Op.intCmp],.pure (.bool _)⟩
     case lss|gtr=>cases hv';exact⟨_,by simp [binOp,Op.intCmp],.pure (.bool _)⟩
     case leq=>cases hv';rw [show (!decide (b < a))=decide (a<=b) from by rw [Bool.eq_iff_iff];simp];exact⟨_,by simp [binOp,Op.intCmp],.pure (.bool _)⟩
     case geq=>cases hv';rw [show (!decide (a < b))=decide (b<=a) from by rw [Bool.eq_iff_iff];simp];exact⟨_,by simp [binOp,Op.intCmp],.pure (.bool _)⟩
    ·cases hv'
  ·cases hv
 ·rename_i a;split at hv
  ·rename_i b;have hX:=gA hx;have hY:=gA hy;subst hX hY;refine(fun (hh:∃V,(binOp op t (.string a) (.string b)).run P w=.ok V w/\aC φ K w v V)=>let ⟨V,h1,h2⟩:=hh;⟨V,h1,h2,.inr (.inl ⟨_,rfl⟩)⟩) ?_;cases op<;>simp only [E2,cond_eq_ite,Lr] at hv
   case eql|neq|lss|leq|gtr|geq=>cases hv;exact⟨_,by simp [binOp,Op.stringOp],.pure (.bool _)⟩
   case add=>
    split at hv
    ·rename_i hb;cases hv;refine⟨.string (a++b),?_,.pure (.str _)⟩;have hb':¬(9223372036854775807 < (a.size:Int)+(b.size:Int)):=by unfold most at hb;omega
     simp [binOp,Op.stringOp,IntKind.max,IntKind.signed,IntKind.bits,hb']
    ·cases hv
   all_goals cases hv
  ·cases hv
 ·cases hv
def Ea (o:Oper) (op:BinOp) (x y:aD):Bool:=match o.op with
 |.binOp op' _ x' y' _=>decide (op'=op)&&aY x' x&&aY y' y
 |_=>false
theorem Fg (s:bt top φ K h nx w) (hρ:∀x y,aY x y=true->aC φ K w (ρ y) (ρc x)) {op:BinOp} {x y:aD} (hm:Ea o op x y=true) {p:aJ} (hp:cV (vo op (ρ x) (ρ y))=some p):Sound top P φ K h nx w ρc o p:=by
 unfold Ea at hm;split at hm
 ·rename_i op' t x' y' t' ho;simp only [Lm,Lt] at hm;obtain⟨⟨rfl,h1⟩,h2⟩:=hm;obtain⟨v,hv,rfl⟩:=cR hp;obtain⟨V,r1,r2,r3⟩:=BA (P:=P) t hv (hρ _ _ h1) (hρ _ _ h2);refine aH s (V:=V) ?_ r2;simp only [execOp,ho];refine dF ?_;simp [nH op' t x' y' _ _ r3,r1]
 ·cases hm
def IQ (o:Oper) (op:UnOp) (x:aD):Bool:=match o.op with
 |.unOp op' _ x'=>decide (op'=op)&&aY x' x
 |_=>false
theorem Hu (s:bt top φ K h nx w) (hρ:∀x y,aY x y=true->aC φ K w (ρ y) (ρc x)) {op:UnOp} {x:aD} (hm:IQ o op x=true) {p:aJ} (hp:cV (Du op (ρ x))=some p):Sound top P φ K h nx w ρc o p:=by
 unfold IQ at hm;split at hm
 ·rename_i op' t x' ho;simp only [Lm,Lt] at hm;obtain⟨rfl,h1⟩:=hm;obtain⟨v,hv,rfl⟩:=cR hp;have hr:=hρ _ _ h1;unfold Du at hv;split at hv
  ·split at hv
   ·rename_i k n hx;cases hv;rw [hx] at hr;have hV:=cE hr;refine aH s (V:=.int k (k.wrap (0 - n))) ?_ (by rw [je];exact .pure (.int _ _));simp [execOp,ho,hV,Op.unary,Op.intArith]
   ·cases hv
  ·split at hv
   ·rename_i b hx;cases hv;rw [hx] at hr;have hV:=cU hr;refine aH s (V:=.bool !b) ?_ (.pure (.bool _));simp [execOp,ho,hV,Op.unary]
   ·cases hv
  ·split at hv
   ·rename_i k n hx;simp only [AZ] at hv;cases hv;rw [hx] at hr;have hV:=cE hr;refine aH s (V:=_) ?_ (.pure (.int _ _));simp [execOp,ho,hV,Op.unary,Op.intBits]
   ·cases hv
  ·cases hv
 ·cases hm
def AO (P:Program) (o:Oper) (k:IntKind) (x:aD):Bool:=match o.op with
 |.convert a b x'=>aY x' x&&dy P a (fun d=>match d with|.int _=>true|_=>false)&&dy P b (fun d=>match d with|.int k'=>zb k' k|_=>false)
 |_=>false
theorem DG (s:bt top φ K h nx w) (hρ:∀x y,aY x y=true->aC φ K w (ρ y) (ρc x)) {k:IntKind} {x:aD} (hm:AO P o k x=true) {p:aJ} (hp:nv ρ k x=some p):Sound top P φ K h nx w ρc o p:=by
 unfold AO at hm;split at hm
 ·rename_i a b x' ho;simp only [Lm] at hm;obtain⟨⟨h1,h2⟩,h3⟩:=hm;have hr:=hρ _ _ h1;obtain⟨d,hd,_⟩:=aR h2;obtain⟨d',hd',hd2⟩:=aR h3;unfold nv at hp;split at hp
  ·rename_i k0 n hx;cases hp;rw [hx] at hr;have hV:=cE hr;split at hd2
   ·rename_i k';have:=mZ hd2;subst this;refine aH s (V:=.int k' (k'.wrap n)) ?_ (by rw [je];exact .pure (.int _ _));simp [execOp,ho,hV,convert,run_underlying hd,run_underlying hd',Conv.intToInt]
   ·cases hd2
  ·cases hp
 ·cases hm
theorem qy {cs:List AV} {off:Nat} {V:Value} (r:aC φ K w (.ej cs off) V):∃b o,V=.pointer (some ⟨b,o+off,none⟩)/\∀off',cZ K w (.ej cs off') (.pointer (some ⟨b,o+off',none⟩)):=by
 cases r with
 |pure r=>cases r with
  |ej cs b o off f hK hone hc hr=>exact⟨b,o,rfl,fun off'=>.ej cs b o off' f hK hone hc hr⟩
def vG (P:Program) (t:TypeId) (i off:Nat) (f:TypeId->Bool):Bool:=dy P t fun d=>match d with
 |.struct fs=>match fs[i]? with
  |some fd=>Nat.beq fd.offset off&&f fd.type
  |none=>false
 |_=>false
theorem nr {t:TypeId} {i off:Nat} {f:TypeId->Bool} (hm:vG P t i off f=true):∃fs fd,P.underlying t=some (.struct fs)/\fs[i]?=some fd/\fd.offset=off/\f fd.type=true:=by
 obtain⟨d,hd,h1⟩:=aR hm;split at h1
 ·rename_i fs;split at h1
  ·rename_i fd hfd;simp only [Lm,Lq] at h1;exact⟨fs,fd,hd,hfd,h1.1,h1.2⟩
  ·cases h1
 ·cases h1
def wq (P:Program) (o:Oper) (off:Nat) (x:aD):Bool:=match o.op with
 |.fieldAddr t x' i=>aY x' x&&vG P t i off (fun ft=>tInfo P ft fun i=>!(Nat.beq i.size 0))
 |_=>false
theorem Ca (s:bt top φ K h nx w) (hρ:∀x y,aY x y=true->aC φ K w (ρ y) (ρc x)) {off:Nat} {x:aD} (hm:wq P o off x=true) {p:aJ} (hp:fe ρ off x=some p):Sound top P φ K h nx w ρc o p:=by
 unfold wq at hm;split at hm
 ·rename_i t x' i ho;simp only [Lm] at hm;obtain⟨h1,h2⟩:=hm;have hr:=hρ _ _ h1;obtain⟨fs,fd,hu,hf,hoff,hsz⟩:=nr h2;obtain⟨ti,hti,hsz⟩:=ct hsz;have hs0:ti.size≠0:=by intro h0;rw [h0] at hsz;cases hsz
  have hrun:∀b q,(Instr.fieldAt t (.pointer (some ⟨b,q,none⟩)) i).run P w=.ok (.pointer (some ⟨b,q+off,none⟩)) w:=by intro b q;simp [Instr.fieldAt,run_underlying hu,hf,Instr.sureAddr,fieldPlace,sizeOf,typeInfo,hti,hs0,Addr.add_lit,hoff]
  unfold fe at hp;split at hp
  ·rename_i id g q hx;cases hp;rw [hx] at hr;obtain⟨b,base,hb,hV⟩:=iG hr;refine aH s (V:=.pointer (some ⟨b,base+q+off,none⟩)) ?_ (by rw [Nat.add_assoc];exact .ptr id g (q+off) b base hb);simp only [execOp,ho,hV];exact dF (hrun b (base+q))
  ·rename_i cs q hx;cases hp;rw [hx] at hr;obtain⟨b,o1,hV,hre⟩:=qy hr;refine aH s (V:=.pointer (some ⟨b,o1+q+off,none⟩)) ?_ (by rw [Nat.add_assoc];exact .pure (hre (q+off)));simp only [execOp,ho,hV];exact dF (hrun b (o1+q))
  ·cases hp
 ·cases hm
end
end Go.Ax
namespace Go.Ax
section
variable {top:Nat} {P:Program} {φ:er} {K:Nat->Prop} {h:aQ} {nx:Nat} {w:World} {ρ:aD->AV} {ρc:Operand->Value} {o:Oper}
theorem Am (s:bt top φ K h nx w) {t:TypeId} {sz:Option Nat} (ht:oc P t sz=true) {cs cs':List AV} {off:Nat} {v:AV} {vs:Array Value} (qxg:cut cs off (bK sz)=some cs') (hv:xB sz cs'=some v)
  (hl:cs.length=vs.size) (hr:∀(j:Nat) (a:AV),cs[j]?=some a->a.one=true/\∃u,vs[j]?=some u/\aC φ K w a u):∃V,(part t vs off).run P w=.ok V w/\aC φ K w v V:=by
 obtain⟨hl',hat⟩:=tg qxg;have hfit:=(ek qxg).1;have qq9:∀(j:Nat) (a:AV),cs'[j]?=some a->a.one=true/\∃u,vs[off+j]?=some u/\aC φ K w a u:=by
  intro j a ha;have hj:j < bK sz:=by
   rcases Nat.lt_or_ge j cs'.length with hj|hj
   ·omega
   ·rw [K5 hj] at ha;cases ha
  rw [hat j hj] at ha;exact hr _ a ha
 cases sz with
 |none=>
  obtain⟨d,hd,hag⟩:=aR ht;unfold xB at hv;simp only at hv;split at hv
  ·rename_i x;cases hv;obtain⟨_,u,h1,h2⟩:=qq9 0 v rfl;refine⟨u,?_,h2⟩;simp only [Nat.add_zero] at h1;simp at hag;simp [part,cJ hd,hag,h1]
  ·cases hv
 |some n=>
  simp only [oc,Lm] at ht;obtain⟨d,hd,hag⟩:=aR ht.1;have hs:=c4 ht.2 w;simp only [bK] at hl' hfit;cases hv;refine⟨.agg (vs.extract off (off+n)),by simp [part,cJ hd,hag,hs],.agg _ _ (by simp;omega) (fun j a ha=>(qq9 j a ha).1) (fun j a u ha hu=>?_)⟩;obtain⟨_,u',h1,h2⟩:=qq9 j a ha;have hj:j < n:=by
   rcases Nat.lt_or_ge j cs'.length with hj|hj
   ·omega
   ·rw [K5 hj] at ha;cases ha
  rw [Array.getElem?_extract,if_pos (by omega),h1] at hu;cases hu;exact h2
def D5 (P:Program) (o:Oper) (off:Nat) (sz:Option Nat) (x:aD):Bool:=match o.op with
 |.field t x' i=>aY x' x&&vG P t i off (fun ft=>oc P ft sz)
 |_=>false
theorem Fa (s:bt top φ K h nx w) (hρ:∀x y,aY x y=true->aC φ K w (ρ y) (ρc x)) {off:Nat} {sz:Option Nat} {x:aD} (hm:D5 P o off sz x=true) {p:aJ} (hp:uo ρ off sz x=some p):Sound top P φ K h nx w ρc o p:=by
 unfold D5 at hm;split at hm
 ·rename_i t x' i ho;simp only [Lm] at hm;obtain⟨h1,h2⟩:=hm;have hr:=hρ _ _ h1;obtain⟨fs,fd,hu,hf,hoff,hsz⟩:=nr h2;unfold uo at hp;split at hp
  ·rename_i cs hx;split at hp
   ·rename_i cs' qxg;obtain⟨v,hv,rfl⟩:=cR hp;rw [hx] at hr;obtain⟨vs,hV,hl,hrr⟩:=gD hr;obtain⟨V,r1,r2⟩:=Am s hsz qxg hv hl hrr;refine aH s (V:=V) ?_ r2;simp only [execOp,ho];refine dF ?_;simp [Instr.field,run_underlying hu,hf,hV,asAgg,hoff,r1]
   ·cases hp
  ·cases hp
 ·cases hm
def xh (P:Program) (t:TypeId) (es:Nat):Bool:=dy P t fun d=>match d with|.slice e=>gY P e es|_=>false
theorem kN {t:TypeId} {es:Nat} (hm:xh P t es=true):∃e,P.underlying t=some (.slice e)/\gY P e es=true:=by
 obtain⟨d,hd,h1⟩:=aR hm;split at h1
 ·rename_i e;exact⟨e,hd,h1⟩
 ·cases h1
def Dx (P:Program) (t:TypeId) (n es:Nat):Bool:=dy P t fun d=>match d with|.array m e=>Nat.beq m n&&gY P e es|_=>false
theorem qq {t:TypeId} {n es:Nat} (hm:Dx P t n es=true):∃e,P.underlying t=some (.array n e)/\gY P e es=true:=by
 obtain⟨d,hd,h1⟩:=aR hm;split at h1
 ·rename_i m e;simp only [Lm,Lq] at h1;obtain⟨rfl,h1⟩:=h1;exact⟨e,hd,h1⟩
 ·cases h1
theorem uc {cs:List AV} {n:Nat} {cap:Option Nat} {V:Value} (r:aC φ K w (.bO cs n cap) V):∃ad c',V=.slice (some ad) n c'/\n<=c'/\(∀c,cap=some c->c'=c)/\(cs≠[]->ad.spot=none)/\
  (cs≠[]->∀off',cZ K w (.ej cs off') (.pointer (some ⟨ad.block,ad.off+off',none⟩)))/\
  (∀(cs':List AV) (off' n' c1:Nat) (ad':Addr) (cap':Option Nat),(∀j,cs'[j]?=if j < cs'.length then cs[off'+j]? else none)->(cs'≠[]->ad'=⟨ad.block,ad.off+off',none⟩)->(cs'≠[]->cs≠[])->n'<=c1->(∀c,cap'=some c->c1=c)->
   cZ K w (.bO cs' n' cap') (.slice (some ad') n' c1)):=by
 cases r with
 |pure r=>cases r with
  |bO cs n cap ad c' f hK hn hcap hone hc hr=>
   refine⟨ad,c',rfl,hn,hcap,fun hne=>(hK hne).1,fun hne off'=>.ej cs ad.block ad.off off' f (hK hne).2 hone hc hr,fun cs' off' n' c1 ad' cap' hat had hne hn' qz2=>?_⟩;have qz3:∀(j:Nat) (a:AV),cs'[j]?=some a->cs[off'+j]?=some a:=by
    intro j a ha;have:=hat j;rw [ha] at this;split at this
    ·exact this.symm
    ·cases this
   refine .bO cs' n' cap' ad' c1 (fun j=>f (off'+j)) (fun qxF=>?_) hn' qz2 (fun j a ha=>hone _ a (qz3 j a ha)) (fun j hj=>?_) (fun j a ha=>hr _ a (qz3 j a ha))
   ·rw [had qxF];exact⟨rfl,(hK (hne qxF)).2⟩
   ·have qxF:cs'≠[]:=by rintro rfl;simp at hj
    rw [had qxF];have hlt:off'+j < cs.length:=by
     have:=qz3 j _ (KX hj);rcases Nat.lt_or_ge (off'+j) cs.length with h1|h1
     ·exact h1
     ·rw [K5 h1] at this;cases this
    simp only;rw [Nat.add_assoc];exact hc _ hlt
theorem pX (ad:Addr) (hs:ad.spot=none):ad=⟨ad.block,ad.off,none⟩:=by cases ad;simp at hs;simp [hs]
def wo (P:Program) (o:Oper) (es:Nat) (x i:aD):Bool:=match o.op with
 |.indexAddr t x' i'=>aY x' x&&aY i' i&&xh P t es
 |_=>false
theorem B_ (s:bt top φ K h nx w) (hρ:∀x y,aY x y=true->aC φ K w (ρ y) (ρc x)) {es:Nat} {x i:aD} (hm:wo P o es x i=true) {p:aJ} (hp:fN ρ es x i=some p):Sound top P φ K h nx w ρc o p:=by
 unfold wo at hm;split at hm
 ·rename_i t x' i' ho;simp only [Lm] at hm;obtain⟨⟨h1,h2⟩,h3⟩:=hm;obtain⟨e,hu,hs⟩:=kN h3;have hrx:=hρ _ _ h1;have hri:=hρ _ _ h2;have hrun:∀(ad:Addr) (len c':Nat) (k:IntKind) (m:Nat),m < len->(Instr.indexAt t (.slice (some ad) len c') (.int k (m:Int))).run P w=.ok (.pointer (some (ad.add (m*es)))) w:=by intro ad len c' k m hlt;simp [Instr.indexAt,run_underlying hu,asIntOf,hlt,c4 hs]
  unfold fN at hp;split at hp
  ·rename_i k iv hi;rw [hi] at hri;have hI:=cE hri;split at hp
   ·rename_i cs n cap hx;split at hp
    ·rename_i m hix;obtain⟨rfl,hlt⟩:=lP hix;split at hp
     ·cases hp
     ·rename_i a0 cs0;cases hp;rw [hx] at hrx;obtain⟨ad,c',hV,_,_,qxX,hip,_⟩:=uc hrx;have hne:(a0::cs0)≠[]:=by simp
      refine aH s (V:=.pointer (some ⟨ad.block,ad.off+m*es,none⟩)) ?_ (.pure (hip hne _));simp only [execOp,ho,hV,hI];refine dF ?_;rw [hrun ad n c' k m hlt];rw [pX ad (qxX hne),Addr.add_lit]
    ·cases hp
   ·rename_i id g off es' len cap ex hx;simp only [cond_eq_ite,Lq] at hp;split at hp
    ·rename_i hes;subst hes;split at hp
     ·rename_i m hix;obtain⟨rfl,hlt⟩:=lP hix;cases hp;rw [hx] at hrx;obtain⟨b,base,ad,c',hV,hb,hl1,hl2,_,had⟩:=c7 hrx;have h0:c'≠0:=by omega
      obtain⟨rfl,_⟩:=had h0;refine aH s (V:=.pointer (some ⟨b,base+(off+m*es'),none⟩)) ?_ (.ptr id g _ b base hb);simp only [execOp,ho,hV,hI];refine dF ?_;rw [hrun _ len c' k m hlt,Addr.add_lit,Nat.add_assoc]
     ·cases hp
    ·cases hp
   ·cases hp
  ·cases hp
 ·cases hm
def AL (P:Program) (o:Oper) (len es:Nat) (x i:aD):Bool:=match o.op with
 |.indexAddr t x' i'=>aY x' x&&aY i' i&&Dx P t len es
 |_=>false
theorem DF (s:bt top φ K h nx w) (hρ:∀x y,aY x y=true->aC φ K w (ρ y) (ρc x)) {len es:Nat} {x i:aD} (hm:AL P o len es x i=true) {p:aJ} (hp:jn ρ len es x i=some p):Sound top P φ K h nx w ρc o p:=by
 unfold AL at hm;split at hm
 ·rename_i t x' i' ho;simp only [Lm] at hm;obtain⟨⟨h1,h2⟩,h3⟩:=hm;obtain⟨e,hu,hs⟩:=qq h3;have hrx:=hρ _ _ h1;have hri:=hρ _ _ h2;have hrun:∀(b q:Nat) (k:IntKind) (m:Nat),m < len->(Instr.indexAt t (.pointer (some ⟨b,q,none⟩)) (.int k (m:Int))).run P w=.ok (.pointer (some ⟨b,q+m*es,none⟩)) w:=by intro b q k m hlt;simp [Instr.indexAt,run_underlying hu,asIntOf,Instr.sureAddr,hlt,c4 hs,Addr.add_lit]
  unfold jn at hp;split at hp
  ·rename_i k iv hi;rw [hi] at hri;have hI:=cE hri;split at hp
   ·rename_i m hix;obtain⟨rfl,hlt⟩:=lP hix;split at hp
    ·rename_i id g q hx;cases hp;rw [hx] at hrx;obtain⟨b,base,hb,hV⟩:=iG hrx;refine aH s (V:=.pointer (some ⟨b,base+(q+m*es),none⟩)) ?_ (.ptr id g _ b base hb);simp only [execOp,ho,hV,hI];refine dF ?_;rw [hrun _ _ k m hlt,Nat.add_assoc]
    ·rename_i cs q hx;cases hp;rw [hx] at hrx;obtain⟨b,o1,hV,hre⟩:=qy hrx;refine aH s (V:=.pointer (some ⟨b,o1+(q+m*es),none⟩)) ?_ (.pure (hre _));simp only [execOp,ho,hV,hI];refine dF ?_;rw [hrun _ _ k m hlt,Nat.add_assoc]
    ·cases hp
   ·cases hp
  ·cases hp
 ·cases hm
def zo (P:Program) (t:TypeId):Bool:=dy P t fun d=>match d with|.string=>true|_=>false
theorem jX {t:TypeId} (hm:zo P t=true):P.underlying t=some .string:=by
 obtain⟨d,hd,h1⟩:=aR hm;split at h1
 ·exact hd
 ·cases h1
def mIdx (P:Program) (o:Oper) (x i:aD):Bool:=match o.op with
 |.index t x' i'=>aY x' x&&aY i' i&&zo P t
 |_=>false
theorem E_ (s:bt top φ K h nx w) (hρ:∀x y,aY x y=true->aC φ K w (ρ y) (ρc x)) {x i:aD} (hm:mIdx P o x i=true) {p:aJ} (hp:um ρ x i=some p):Sound top P φ K h nx w ρc o p:=by
 unfold mIdx at hm;split at hm
 ·rename_i t x' i' ho;simp only [Lm] at hm;obtain⟨⟨h1,h2⟩,h3⟩:=hm;have hu:=jX h3;have hrx:=hρ _ _ h1;have hri:=hρ _ _ h2;unfold um at hp;split at hp
  ·rename_i q hx;split at hp
   ·rename_i k m hi;split at hp
    ·rename_i b hb;cases hp;rw [hx] at hrx;rw [hi] at hri;have hX:=gA hrx;have hI:=cE hri;refine aH s (V:=.int .u8 b.toNat) ?_ (.pure (.int _ _));simp only [execOp,ho,hX,hI];refine dF ?_;have h0:(0:Int)<=Int.ofNat m:=Int.natCast_nonneg m;simp [Instr.index,run_underlying hu,asIntOf,h0,hb]
    ·cases hp
   ·cases hp
  ·cases hp
 ·cases hm
def D6 (o:Oper) (i:Nat) (x:aD):Bool:=match o.op with
 |.extract x' i'=>aY x' x&&Nat.beq i' i
 |_=>false
theorem Fb (s:bt top φ K h nx w) (hρ:∀x y,aY x y=true->aC φ K w (ρ y) (ρc x)) {i:Nat} {x:aD} (hm:D6 o i x=true) {p:aJ} (hp:uq ρ i x=some p):Sound top P φ K h nx w ρc o p:=by
 unfold D6 at hm;split at hm
 ·rename_i x' i' ho;simp only [Lm,Lq] at hm;obtain⟨h1,rfl⟩:=hm;have hr:=hρ _ _ h1;unfold uq at hp;split at hp
  ·rename_i vs hx;obtain⟨v,hv,rfl⟩:=cR hp;rw [hx] at hr;obtain⟨us,hV,hl,hrr⟩:=sL hr;obtain⟨u,r1,r2⟩:=hrr _ _ hv;refine aH s (V:=u) ?_ r2;simp only [execOp,ho];refine dF ?_;simp [Instr.extract,hV,r1]
  ·cases hp
 ·cases hm
theorem dW {b:Builtin} {args:Array Operand} {tys:Array TypeId} {V:Value} {w':World} {x:Sem Value} (ho:o.op=.call {callee:=.builtin b,args:=args,argTypes:=tys})
  (hb:∀consts,builtin b tys o.type consts (args.map ρc)=(do pure (Next.value (←x)):Sem Next)) (hr:x.run P w=.ok V w'):(execOp ρc o).run P w=.ok (.value V) w':=by
 simp only [execOp,ho,resolve,invoke,hb];simp only [Sem.run_bind,Sem.run_pure,Result.andThen_ok,hb,hr]
def D4 (P:Program) (o:Oper) (str:Bool) (x:aD):Bool:=match o.op with
 |.call {callee:=.builtin .len,args:=⟨[x']⟩,argTypes:=⟨t::_⟩}=>aY x' x&&(match str with|true=>zo P t|false=>dy P t fun d=>match d with|.slice _=>true|_=>false)
 |_=>false
theorem E9 (s:bt top φ K h nx w) (hρ:∀x y,aY x y=true->aC φ K w (ρ y) (ρc x)) {str:Bool} {x:aD} (hm:D4 P o str x=true) {p:aJ} (hp:gQ ρ str x=some p):Sound top P φ K h nx w ρc o p:=by
 unfold D4 at hm;split at hm
 ·rename_i x' t ts ho;simp only [Lm] at hm;obtain⟨h1,h2⟩:=hm;have hr:=hρ _ _ h1;have fin:∀(n:Nat),(Builtin.len_ ⟨t::ts⟩ o.type #[ρc x']).run P w=.ok (.int .i64 n) w->Sound top P φ K h nx w ρc o (cQ (.int .i64 n)):=by intro n hrun;exact aH s (V:=.int .i64 n) (dW (x:=Builtin.len_ ⟨t::ts⟩ o.type #[ρc x']) ho (fun _=>by simp [builtin]) hrun) (.pure (.int _ _))
  unfold gQ at hp;cases str with
  |true=>
   have hu:=jX h2;simp only at hp;split at hp
   ·rename_i q hx;cases hp;rw [hx] at hr;have hX:=gA hr;exact fin _ (by simp [Builtin.len_,hX,run_underlying hu,goInt])
   ·cases hp
  |false=>
   obtain⟨d,hd,h3⟩:=aR h2;split at h3
   ·simp only at hp;split at hp
    ·rename_i hx;cases hp;rw [hx] at hr;have hX:=b7 hr;exact fin 0 (by simp [Builtin.len_,hX,run_underlying hd,goInt])
    ·rename_i cs n cap hx;cases hp;rw [hx] at hr;obtain⟨ad,c',hV,_⟩:=eP hr;exact fin n (by simp [Builtin.len_,hV,run_underlying hd,goInt])
    ·rename_i id g off es len cap ex hx;cases hp;rw [hx] at hr;obtain⟨b,base,ad,c',hV,_⟩:=c7 hr;exact fin len (by simp [Builtin.len_,hV,run_underlying hd,goInt])
    ·cases hp
   ·cases h3
 ·cases hm
end
end Go.Ax
