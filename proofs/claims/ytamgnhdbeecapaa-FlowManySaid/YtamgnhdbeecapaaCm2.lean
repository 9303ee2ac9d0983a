/- Part 2 of the proof: Ax5, Ax6. -/
import Derived.Test.YtamgnhdbeecapaaCm1
import Derived.Laws.StructEq
set_option linter.unusedSimpArgs false
set_option linter.unusedVariables false
namespace Go.Ax
section
variable {top:Nat} {P:Program} {φ:gW} {K:Nat->Prop} {h:bz} {nx:Nat} {w:World} {ρ:aR->AV} {ρc:Operand->Value} {o:Oper}
def DX (o:Oper) (x:aR):Bool:=match o.op with
 |.nilCheck x'=>bV x' x
 |_=>false
theorem Js (s:ck top φ K h nx w) (hρ:∀x y,bV x y=true->ax φ K w (ρ y) (ρc x)) {x:aR} (hm:DX o x=true) {p:bg} (hp:j_ ρ x=some p):Sound top P φ K h nx w ρc o p:=by
 unfold DX at hm;split at hm
 ·rename_i x' ho;have hr:=hρ _ _ hm;unfold j_ at hp;split at hp
  ·rename_i id g off hx;cases hp;rw [hx] at hr;obtain⟨b,base,hb,hV⟩:=mV hr;exact aY s (V:=ρc x') (by simp [execOp,ho,hV]) hr
  ·rename_i cs off hx;cases hp;rw [hx] at hr;obtain⟨b,o1,hK,hV,_⟩:=Cf hr;exact aY s (V:=ρc x') (by simp [execOp,ho,hV]) hr
  ·rename_i f hx;cases hp;rw [hx] at hr;have hV:=tg hr;exact aY s (V:=ρc x') (by simp [execOp,ho,hV]) hr
  ·cases hp
 ·cases hm
theorem wO (op:BinOp) (t:TypeId) (x y:Operand) (a b:Value) (hc:(∃k n,a=.int k n)\/(∃q,a=.string q)\/(∃q,a=.bool q)):(eqGuard op t x y a b).run P w=.ok () w:=by unfold eqGuard;rcases hc with ⟨k,n,rfl⟩|⟨q,rfl⟩|⟨q,rfl⟩<;>cases op<;>simp
theorem IK {op:BinOp} {x y v:AV} {X Y:Value} (t:TypeId) (hv:Dc op x y=some v) (hx:ax φ K w x X) (hy:ax φ K w y Y) :
  ∃V,(binOp op t X Y).run P w=.ok V w/\ax φ K w v V/\((∃k n,X=.int k n)\/(∃q,X=.string q)\/(∃q,X=.bool q)):=by
 unfold Dc at hv;split at hv
 ·rename_i k a;split at hv
  ·rename_i k' b;have hX:=eo hx;have hY:=eo hy;subst hX hY;refine(fun (hh:∃V,(binOp op t (.int k a) (.int k' b)).run P w=.ok V w/\ax φ K w v V)=>let ⟨V,h1,h2⟩:=hh;⟨V,h1,h2,.inl ⟨_,_,rfl⟩⟩) ?_;by_cases hsh:op=.shl\/op=.shr
   ·rcases hsh with rfl|rfl <;>
    ·simp only [Dz,oz,cond_eq_ite,UT] at hv;split at hv
     ·cases hv
     ·rename_i hb;cases hv;exact⟨_,by simp [binOp,Op.shift,hb],.pure (.int _ _)⟩
   ·have hv':(bif Jc k k' then Ie op k a b else none)=some v:=by revert hv;cases op<;>simp_all
    rw [cond_eq_ite] at hv';split at hv'
    ·rename_i hk;have hk':=vN hk;subst hk';cases op<;>simp only [Ie,nY,sy,oz,cond_eq_ite,UT] at hv'
     case add|sub|mul=>cases hv';exact⟨_,by simp [binOp,Op.intArith],.pure (.int _ _)⟩
     case and|or|xor|andNot=>cases hv';exact⟨_,by simp [binOp,Op.intBits],.pure (.int _ _)⟩
     case quo|rem=>
      split at hv'
      ·cases hv'
      ·rename_i hb;cases hv';refine⟨.int k _,?_,.pure (.int _ _)⟩;simp [binOp,Op.intDiv,hb]
     case shl|shr=>cases hv'
     case eql=>cases hv';rw [show decide (a=b)=(a == b) from (Bool.beq_eq_decide_eq a b).symm];exact⟨_,by simp [binOp,Op.intCmp],.pure (.bool _)⟩
     case neq=>cases hv';rw [show (!decide (a=b))=(a != b) from by rw [bne,Bool.beq_eq_decide_eq]];exact⟨_,by simp [binOp,Op.intCmp],.pure (.bool _)⟩
     case lss|gtr=>cases hv';exact⟨_,by simp [binOp,Op.intCmp],.pure (.bool _)⟩
     case leq=>cases hv';rw [show (!decide (b < a))=decide (a<=b) from by rw [Bool.eq_iff_iff];simp];exact⟨_,by simp [binOp,Op.intCmp],.pure (.bool _)⟩
     case geq=>cases hv';rw [show (!decide (a < b))=decide (b<=a) from by rw [Bool.eq_iff_iff];simp];exact⟨_,by simp [binOp,Op.intCmp],.pure (.bool _)⟩
    ·cases hv'
  ·cases hv
 ·rename_i a;split at hv
  ·rename_i b;have hX:=ld hx;have hY:=ld hy;subst hX hY;refine(fun (hh:∃V,(binOp op t (.string a) (.string b)).run P w=.ok V w/\ax φ K w v V)=>let ⟨V,h1,h2⟩:=hh;⟨V,h1,h2,.inr (.inl ⟨_,rfl⟩)⟩) ?_;cases op<;>simp only [N6,cond_eq_ite,UR] at hv
   case eql|neq|lss|leq|gtr|geq=>cases hv;exact⟨_,by simp [binOp,Op.stringOp],.pure (.bool _)⟩
   case add=>
    split at hv
    ·rename_i hb;cases hv;refine⟨.string (a++b),?_,.pure (.str _)⟩;have hb':¬(9223372036854775807 < (a.size:Int)+(b.size:Int)):=by unfold most at hb;omega
     simp [binOp,Op.stringOp,IntKind.max,IntKind.signed,IntKind.bits,hb']
    ·cases hv
   all_goals cases hv
  ·cases hv
 ·cases hv
def Ma (o:Oper) (op:BinOp) (x y:aR):Bool:=match o.op with
 |.binOp op' _ x' y' _=>decide (op'=op)&&bV x' x&&bV y' y
 |_=>false
theorem Oo (s:ck top φ K h nx w) (hρ:∀x y,bV x y=true->ax φ K w (ρ y) (ρc x)) {op:BinOp} {x y:aR} (hm:Ma o op x y=true) {p:bg} (hp:fe (Dc op (ρ x) (ρ y))=some p):Sound top P φ K h nx w ρc o p:=by
 unfold Ma at hm;split at hm
 ·rename_i op' t x' y' t' ho;simp only [UN,UT] at hm;obtain⟨⟨rfl,h1⟩,h2⟩:=hm;obtain⟨v,hv,rfl⟩:=eW hp;obtain⟨V,r1,r2,r3⟩:=IK (P:=P) t hv (hρ _ _ h1) (hρ _ _ h2);refine aY s (V:=V) ?_ r2;simp only [execOp,ho];refine gm ?_;simp [wO op' t x' y' _ _ r3,r1]
 ·cases hm
def Sl (o:Oper) (op:UnOp) (x:aR):Bool:=match o.op with
 |.unOp op' _ x'=>decide (op'=op)&&bV x' x
 |_=>false
theorem Ra (s:ck top φ K h nx w) (hρ:∀x y,bV x y=true->ax φ K w (ρ y) (ρc x)) {op:UnOp} {x:aR} (hm:Sl o op x=true) {p:bg} (hp:fe (Lf op (ρ x))=some p):Sound top P φ K h nx w ρc o p:=by
 unfold Sl at hm;split at hm
 ·rename_i op' t x' ho;simp only [UN,UT] at hm;obtain⟨rfl,h1⟩:=hm;obtain⟨v,hv,rfl⟩:=eW hp;have hr:=hρ _ _ h1;unfold Lf at hv;split at hv
  ·split at hv
   ·rename_i k n hx;cases hv;rw [hx] at hr;have hV:=eo hr;refine aY s (V:=.int k (k.wrap (0 - n))) ?_ (by rw [nY];exact .pure (.int _ _));simp [execOp,ho,hV,Op.unary,Op.intArith]
   ·cases hv
  ·split at hv
   ·rename_i b hx;cases hv;rw [hx] at hr;have hV:=fc hr;refine aY s (V:=.bool !b) ?_ (.pure (.bool _));simp [execOp,ho,hV,Op.unary]
   ·cases hv
  ·split at hv
   ·rename_i k n hx;simp only [Ie] at hv;cases hv;rw [hx] at hr;have hV:=eo hr;refine aY s (V:=_) ?_ (.pure (.int _ _));simp [execOp,ho,hV,Op.unary,Op.intBits]
   ·cases hv
  ·cases hv
 ·cases hm
def HZ (P:Program) (o:Oper) (k:IntKind) (x:aR):Bool:=match o.op with
 |.convert a b x'=>bV x' x&&ga P a (fun d=>match d with|.int _=>true|_=>false)&&ga P b (fun d=>match d with|.int k'=>Jc k' k|_=>false)
 |_=>false
theorem LB (s:ck top φ K h nx w) (hρ:∀x y,bV x y=true->ax φ K w (ρ y) (ρc x)) {k:IntKind} {x:aR} (hm:HZ P o k x=true) {p:bg} (hp:wj ρ k x=some p):Sound top P φ K h nx w ρc o p:=by
 unfold HZ at hm;split at hm
 ·rename_i a b x' ho;simp only [UN] at hm;obtain⟨⟨h1,h2⟩,h3⟩:=hm;have hr:=hρ _ _ h1;obtain⟨d,hd,_⟩:=bP h2;obtain⟨d',hd',hd2⟩:=bP h3;unfold wj at hp;split at hp
  ·rename_i k0 n hx;cases hp;rw [hx] at hr;have hV:=eo hr;split at hd2
   ·rename_i k';have:=vN hd2;subst this;refine aY s (V:=.int k' (k'.wrap n)) ?_ (by rw [nY];exact .pure (.int _ _));simp [execOp,ho,hV,convert,run_underlying hd,run_underlying hd',Conv.intToInt]
   ·cases hd2
  ·cases hp
 ·cases hm
theorem zV {cs:List AV} {off:Nat} {V:Value} (r:ax φ K w (.ic cs off) V):∃b o,V=.pointer (some ⟨b,o+off,none⟩)/\∀off',fY K w (.ic cs off') (.pointer (some ⟨b,o+off',none⟩)):=by
 cases r with
 |pure r=>cases r with
  |ic cs b o off f hK hone hc hr=>exact⟨b,o,rfl,fun off'=>.ic cs b o off' f hK hone hc hr⟩
def Dr (P:Program) (t:TypeId) (i off:Nat) (f:TypeId->Bool):Bool:=ga P t fun d=>match d with
 |.struct fs=>match fs[i]? with
  |some fd=>Nat.beq fd.offset off&&f fd.type
  |none=>false
 |_=>false
theorem we {t:TypeId} {i off:Nat} {f:TypeId->Bool} (hm:Dr P t i off f=true):∃fs fd,P.underlying t=some (.struct fs)/\fs[i]?=some fd/\fd.offset=off/\f fd.type=true:=by
 obtain⟨d,hd,h1⟩:=bP hm;split at h1
 ·rename_i fs;split at h1
  ·rename_i fd hfd;simp only [UN,UQ] at h1;exact⟨fs,fd,hd,hfd,h1.1,h1.2⟩
  ·cases h1
 ·cases h1
def DZ (P:Program) (o:Oper) (off:Nat) (x:aR):Bool:=match o.op with
 |.fieldAddr t x' i=>bV x' x&&Dr P t i off (fun ft=>tInfo P ft fun i=>!(Nat.beq i.size 0))
 |_=>false
theorem Ju (s:ck top φ K h nx w) (hρ:∀x y,bV x y=true->ax φ K w (ρ y) (ρc x)) {off:Nat} {x:aR} (hm:DZ P o off x=true) {p:bg} (hp:ju ρ off x=some p):Sound top P φ K h nx w ρc o p:=by
 unfold DZ at hm;split at hm
 ·rename_i t x' i ho;simp only [UN] at hm;obtain⟨h1,h2⟩:=hm;have hr:=hρ _ _ h1;obtain⟨fs,fd,hu,hf,hoff,hsz⟩:=we h2;obtain⟨ti,hti,hsz⟩:=dY hsz;have hs0:ti.size≠0:=by intro h0;rw [h0] at hsz;cases hsz
  have hrun:∀b q,(Instr.fieldAt t (.pointer (some ⟨b,q,none⟩)) i).run P w=.ok (.pointer (some ⟨b,q+off,none⟩)) w:=by intro b q;simp [Instr.fieldAt,run_underlying hu,hf,Instr.sureAddr,fieldPlace,sizeOf,typeInfo,hti,hs0,Addr.add_lit,hoff]
  unfold ju at hp;split at hp
  ·rename_i id g q hx;cases hp;rw [hx] at hr;obtain⟨b,base,hb,hV⟩:=mV hr;refine aY s (V:=.pointer (some ⟨b,base+q+off,none⟩)) ?_ (by rw [Nat.add_assoc];exact .ptr id g (q+off) b base hb);simp only [execOp,ho,hV];exact gm (hrun b (base+q))
  ·rename_i cs q hx;cases hp;rw [hx] at hr;obtain⟨b,o1,hV,hre⟩:=zV hr;refine aY s (V:=.pointer (some ⟨b,o1+q+off,none⟩)) ?_ (by rw [Nat.add_assoc];exact .pure (hre (q+off)));simp only [execOp,ho,hV];exact gm (hrun b (o1+q))
  ·cases hp
 ·cases hm
end
end Go.Ax
namespace Go.Ax
section
variable {top:Nat} {P:Program} {φ:gW} {K:Nat->Prop} {h:bz} {nx:Nat} {w:World} {ρ:aR->AV} {ρc:Operand->Value} {o:Oper}
theorem Hz (s:ck top φ K h nx w) {t:TypeId} {sz:Option Nat} (ht:xy P t sz=true) {cs cs':List AV} {off:Nat} {v:AV} {vs:Array Value} (qxj:cut cs off (cP sz)=some cs') (hv:DS sz cs'=some v)
  (hl:cs.length=vs.size) (hr:∀(j:Nat) (a:AV),cs[j]?=some a->a.one=true/\∃u,vs[j]?=some u/\ax φ K w a u):∃V,(part t vs off).run P w=.ok V w/\ax φ K w v V:=by
 obtain⟨hl',hat⟩:=BB qxj;have hfit:=(iu qxj).1;have qxc:∀(j:Nat) (a:AV),cs'[j]?=some a->a.one=true/\∃u,vs[off+j]?=some u/\ax φ K w a u:=by
  intro j a ha;have hj:j < cP sz:=by
   rcases Nat.lt_or_ge j cs'.length with hj|hj
   ·omega
   ·rw [Ut hj] at ha;cases ha
  rw [hat j hj] at ha;exact hr _ a ha
 cases sz with
 |none=>
  obtain⟨d,hd,hag⟩:=bP ht;unfold DS at hv;simp only at hv;split at hv
  ·rename_i x;cases hv;obtain⟨_,u,h1,h2⟩:=qxc 0 v rfl;refine⟨u,?_,h2⟩;simp only [Nat.add_zero] at h1;simp at hag;simp [part,ew hd,hag,h1]
  ·cases hv
 |some n=>
  simp only [xy,UN] at ht;obtain⟨d,hd,hag⟩:=bP ht.1;have hs:=fk ht.2 w;simp only [cP] at hl' hfit;cases hv;refine⟨.agg (vs.extract off (off+n)),by simp [part,ew hd,hag,hs],.agg _ _ (by simp;omega) (fun j a ha=>(qxc j a ha).1) (fun j a u ha hu=>?_)⟩;obtain⟨_,u',h1,h2⟩:=qxc j a ha;have hj:j < n:=by
   rcases Nat.lt_or_ge j cs'.length with hj|hj
   ·omega
   ·rw [Ut hj] at ha;cases ha
  rw [Array.getElem?_extract,if_pos (by omega),h1] at hu;cases hu;exact h2
def L5 (P:Program) (o:Oper) (off:Nat) (sz:Option Nat) (x:aR):Bool:=match o.op with
 |.field t x' i=>bV x' x&&Dr P t i off (fun ft=>xy P ft sz)
 |_=>false
theorem Oj (s:ck top φ K h nx w) (hρ:∀x y,bV x y=true->ax φ K w (ρ y) (ρc x)) {off:Nat} {sz:Option Nat} {x:aR} (hm:L5 P o off sz x=true) {p:bg} (hp:Ct ρ off sz x=some p):Sound top P φ K h nx w ρc o p:=by
 unfold L5 at hm;split at hm
 ·rename_i t x' i ho;simp only [UN] at hm;obtain⟨h1,h2⟩:=hm;have hr:=hρ _ _ h1;obtain⟨fs,fd,hu,hf,hoff,hsz⟩:=we h2;unfold Ct at hp;split at hp
  ·rename_i cs hx;split at hp
   ·rename_i cs' qxj;obtain⟨v,hv,rfl⟩:=eW hp;rw [hx] at hr;obtain⟨vs,hV,hl,hrr⟩:=lg hr;obtain⟨V,r1,r2⟩:=Hz s hsz qxj hv hl hrr;refine aY s (V:=V) ?_ r2;simp only [execOp,ho];refine gm ?_;simp [Instr.field,run_underlying hu,hf,hV,asAgg,hoff,r1]
   ·cases hp
  ·cases hp
 ·cases hm
def EA (P:Program) (t:TypeId) (es:Nat):Bool:=ga P t fun d=>match d with|.slice e=>lR P e es|_=>false
theorem rU {t:TypeId} {es:Nat} (hm:EA P t es=true):∃e,P.underlying t=some (.slice e)/\lR P e es=true:=by
 obtain⟨d,hd,h1⟩:=bP hm;split at h1
 ·rename_i e;exact⟨e,hd,h1⟩
 ·cases h1
def Lj (P:Program) (t:TypeId) (n es:Nat):Bool:=ga P t fun d=>match d with|.array m e=>Nat.beq m n&&lR P e es|_=>false
theorem zy {t:TypeId} {n es:Nat} (hm:Lj P t n es=true):∃e,P.underlying t=some (.array n e)/\lR P e es=true:=by
 obtain⟨d,hd,h1⟩:=bP hm;split at h1
 ·rename_i m e;simp only [UN,UQ] at h1;obtain⟨rfl,h1⟩:=h1;exact⟨e,hd,h1⟩
 ·cases h1
theorem Ci {cs:List AV} {n:Nat} {cap:Option Nat} {V:Value} (r:ax φ K w (.ei cs n cap) V):∃ad c',V=.slice (some ad) n c'/\n<=c'/\(∀c,cap=some c->c'=c)/\(cs≠[]->ad.spot=none)/\
  (cs≠[]->∀off',fY K w (.ic cs off') (.pointer (some ⟨ad.block,ad.off+off',none⟩)))/\
  (∀(cs':List AV) (off' n' c1:Nat) (ad':Addr) (cap':Option Nat),(∀j,cs'[j]?=if j < cs'.length then cs[off'+j]? else none)->(cs'≠[]->ad'=⟨ad.block,ad.off+off',none⟩)->(cs'≠[]->cs≠[])->n'<=c1->(∀c,cap'=some c->c1=c)->
   fY K w (.ei cs' n' cap') (.slice (some ad') n' c1)):=by
 cases r with
 |pure r=>cases r with
  |ei cs n cap ad c' f hK hn hcap hone hc hr=>
   refine⟨ad,c',rfl,hn,hcap,fun hne=>(hK hne).1,fun hne off'=>.ic cs ad.block ad.off off' f (hK hne).2 hone hc hr,fun cs' off' n' c1 ad' cap' hat had hne hn' qz9=>?_⟩;have qja:∀(j:Nat) (a:AV),cs'[j]?=some a->cs[off'+j]?=some a:=by
    intro j a ha;have:=hat j;rw [ha] at this;split at this
    ·exact this.symm
    ·cases this
   refine .ei cs' n' cap' ad' c1 (fun j=>f (off'+j)) (fun qxK=>?_) hn' qz9 (fun j a ha=>hone _ a (qja j a ha)) (fun j hj=>?_) (fun j a ha=>hr _ a (qja j a ha))
   ·rw [had qxK];exact⟨rfl,(hK (hne qxK)).2⟩
   ·have qxK:cs'≠[]:=by rintro rfl;simp at hj
    rw [had qxK];have hlt:off'+j < cs.length:=by
     have:=qja j _ (Un hj);rcases Nat.lt_or_ge (off'+j) cs.length with h1|h1
     ·exact h1
     ·rw [Ut h1] at this;cases this
    simp only;rw [Nat.add_assoc];exact hc _ hlt
theorem za (ad:Addr) (hs:ad.spot=none):ad=⟨ad.block,ad.off,none⟩:=by cases ad;simp at hs;simp [hs]
def DY (P:Program) (o:Oper) (es:Nat) (x i:aR):Bool:=match o.op with
 |.indexAddr t x' i'=>bV x' x&&bV i' i&&EA P t es
 |_=>false
theorem Jt (s:ck top φ K h nx w) (hρ:∀x y,bV x y=true->ax φ K w (ρ y) (ρc x)) {es:Nat} {x i:aR} (hm:DY P o es x i=true) {p:bg} (hp:ke ρ es x i=some p):Sound top P φ K h nx w ρc o p:=by
 unfold DY at hm;split at hm
 ·rename_i t x' i' ho;simp only [UN] at hm;obtain⟨⟨h1,h2⟩,h3⟩:=hm;obtain⟨e,hu,hs⟩:=rU h3;have hrx:=hρ _ _ h1;have hri:=hρ _ _ h2;have hrun:∀(ad:Addr) (len c':Nat) (k:IntKind) (m:Nat),m < len->(Instr.indexAt t (.slice (some ad) len c') (.int k (m:Int))).run P w=.ok (.pointer (some (ad.add (m*es)))) w:=by intro ad len c' k m hlt;simp [Instr.indexAt,run_underlying hu,asIntOf,hlt,fk hs]
  unfold ke at hp;split at hp
  ·rename_i k iv hi;rw [hi] at hri;have hI:=eo hri;split at hp
   ·rename_i cs n cap hx;split at hp
    ·rename_i m hix;obtain⟨rfl,hlt⟩:=tV hix;split at hp
     ·cases hp
     ·rename_i a0 cs0;cases hp;rw [hx] at hrx;obtain⟨ad,c',hV,_,_,qx0,hip,_⟩:=Ci hrx;have hne:(a0::cs0)≠[]:=by simp
      refine aY s (V:=.pointer (some ⟨ad.block,ad.off+m*es,none⟩)) ?_ (.pure (hip hne _));simp only [execOp,ho,hV,hI];refine gm ?_;rw [hrun ad n c' k m hlt];rw [za ad (qx0 hne),Addr.add_lit]
    ·cases hp
   ·rename_i id g off es' len cap ex hx;simp only [cond_eq_ite,UQ] at hp;split at hp
    ·rename_i hes;subst hes;split at hp
     ·rename_i m hix;obtain⟨rfl,hlt⟩:=tV hix;cases hp;rw [hx] at hrx;obtain⟨b,base,ad,c',hV,hb,hl1,hl2,_,had⟩:=fu hrx;have h0:c'≠0:=by omega
      obtain⟨rfl,_⟩:=had h0;refine aY s (V:=.pointer (some ⟨b,base+(off+m*es'),none⟩)) ?_ (.ptr id g _ b base hb);simp only [execOp,ho,hV,hI];refine gm ?_;rw [hrun _ len c' k m hlt,Addr.add_lit,Nat.add_assoc]
     ·cases hp
    ·cases hp
   ·cases hp
  ·cases hp
 ·cases hm
def HW (P:Program) (o:Oper) (len es:Nat) (x i:aR):Bool:=match o.op with
 |.indexAddr t x' i'=>bV x' x&&bV i' i&&Lj P t len es
 |_=>false
theorem LA (s:ck top φ K h nx w) (hρ:∀x y,bV x y=true->ax φ K w (ρ y) (ρc x)) {len es:Nat} {x i:aR} (hm:HW P o len es x i=true) {p:bg} (hp:om ρ len es x i=some p):Sound top P φ K h nx w ρc o p:=by
 unfold HW at hm;split at hm
 ·rename_i t x' i' ho;simp only [UN] at hm;obtain⟨⟨h1,h2⟩,h3⟩:=hm;obtain⟨e,hu,hs⟩:=zy h3;have hrx:=hρ _ _ h1;have hri:=hρ _ _ h2;have hrun:∀(b q:Nat) (k:IntKind) (m:Nat),m < len->(Instr.indexAt t (.pointer (some ⟨b,q,none⟩)) (.int k (m:Int))).run P w=.ok (.pointer (some ⟨b,q+m*es,none⟩)) w:=by intro b q k m hlt;simp [Instr.indexAt,run_underlying hu,asIntOf,Instr.sureAddr,hlt,fk hs,Addr.add_lit]
  unfold om at hp;split at hp
  ·rename_i k iv hi;rw [hi] at hri;have hI:=eo hri;split at hp
   ·rename_i m hix;obtain⟨rfl,hlt⟩:=tV hix;split at hp
    ·rename_i id g q hx;cases hp;rw [hx] at hrx;obtain⟨b,base,hb,hV⟩:=mV hrx;refine aY s (V:=.pointer (some ⟨b,base+(q+m*es),none⟩)) ?_ (.ptr id g _ b base hb);simp only [execOp,ho,hV,hI];refine gm ?_;rw [hrun _ _ k m hlt,Nat.add_assoc]
    ·rename_i cs q hx;cases hp;rw [hx] at hrx;obtain⟨b,o1,hV,hre⟩:=zV hrx;refine aY s (V:=.pointer (some ⟨b,o1+(q+m*es),none⟩)) ?_ (.pure (hre _));simp only [execOp,ho,hV,hI];refine gm ?_;rw [hrun _ _ k m hlt,Nat.add_assoc]
    ·cases hp
   ·cases hp
  ·cases hp
 ·cases hm
def GF (P:Program) (t:TypeId):Bool:=ga P t fun d=>match d with|.string=>true|_=>false
theorem qb {t:TypeId} (hm:GF P t=true):P.underlying t=some .string:=by
 obtain⟨d,hd,h1⟩:=bP hm;split at h1
 ·exact hd
 ·cases h1
def mIdx (P:Program) (o:Oper) (x i:aR):Bool:=match o.op with
 |.index t x' i'=>bV x' x&&bV i' i&&GF P t
 |_=>false
theorem Oi (s:ck top φ K h nx w) (hρ:∀x y,bV x y=true->ax φ K w (ρ y) (ρc x)) {x i:aR} (hm:mIdx P o x i=true) {p:bg} (hp:Cs ρ x i=some p):Sound top P φ K h nx w ρc o p:=by
 unfold mIdx at hm;split at hm
 ·rename_i t x' i' ho;simp only [UN] at hm;obtain⟨⟨h1,h2⟩,h3⟩:=hm;have hu:=qb h3;have hrx:=hρ _ _ h1;have hri:=hρ _ _ h2;unfold Cs at hp;split at hp
  ·rename_i q hx;split at hp
   ·rename_i k m hi;split at hp
    ·rename_i b hb;cases hp;rw [hx] at hrx;rw [hi] at hri;have hX:=ld hrx;have hI:=eo hri;refine aY s (V:=.int .u8 b.toNat) ?_ (.pure (.int _ _));simp only [execOp,ho,hX,hI];refine gm ?_;have h0:(0:Int)<=Int.ofNat m:=Int.natCast_nonneg m;simp [Instr.index,run_underlying hu,asIntOf,h0,hb]
    ·cases hp
   ·cases hp
  ·cases hp
 ·cases hm
def L6 (o:Oper) (i:Nat) (x:aR):Bool:=match o.op with
 |.extract x' i'=>bV x' x&&Nat.beq i' i
 |_=>false
theorem Ok (s:ck top φ K h nx w) (hρ:∀x y,bV x y=true->ax φ K w (ρ y) (ρc x)) {i:Nat} {x:aR} (hm:L6 o i x=true) {p:bg} (hp:Cu ρ i x=some p):Sound top P φ K h nx w ρc o p:=by
 unfold L6 at hm;split at hm
 ·rename_i x' i' ho;simp only [UN,UQ] at hm;obtain⟨h1,rfl⟩:=hm;have hr:=hρ _ _ h1;unfold Cu at hp;split at hp
  ·rename_i vs hx;obtain⟨v,hv,rfl⟩:=eW hp;rw [hx] at hr;obtain⟨us,hV,hl,hrr⟩:=AX hr;obtain⟨u,r1,r2⟩:=hrr _ _ hv;refine aY s (V:=u) ?_ r2;simp only [execOp,ho];refine gm ?_;simp [Instr.extract,hV,r1]
  ·cases hp
 ·cases hm
theorem gK {b:Builtin} {args:Array Operand} {tys:Array TypeId} {V:Value} {w':World} {x:Sem Value} (ho:o.op=.call {callee:=.builtin b,args:=args,argTypes:=tys})
  (hb:∀consts,builtin b tys o.type consts (args.map ρc)=(do pure (Next.value (←x)):Sem Next)) (hr:x.run P w=.ok V w'):(execOp ρc o).run P w=.ok (.value V) w':=by
 simp only [execOp,ho,resolve,invoke,hb];simp only [Sem.run_bind,Sem.run_pure,Result.andThen_ok,hb,hr]
def L4 (P:Program) (o:Oper) (str:Bool) (x:aR):Bool:=match o.op with
 |.call {callee:=.builtin .len,args:=⟨[x']⟩,argTypes:=⟨t::_⟩}=>bV x' x&&(match str with|true=>GF P t|false=>ga P t fun d=>match d with|.slice _=>true|_=>false)
 |_=>false
theorem Oh (s:ck top φ K h nx w) (hρ:∀x y,bV x y=true->ax φ K w (ρ y) (ρc x)) {str:Bool} {x:aR} (hm:L4 P o str x=true) {p:bg} (hp:lH ρ str x=some p):Sound top P φ K h nx w ρc o p:=by
 unfold L4 at hm;split at hm
 ·rename_i x' t ts ho;simp only [UN] at hm;obtain⟨h1,h2⟩:=hm;have hr:=hρ _ _ h1;have fin:∀(n:Nat),(Builtin.len_ ⟨t::ts⟩ o.type #[ρc x']).run P w=.ok (.int .i64 n) w->Sound top P φ K h nx w ρc o (eV (.int .i64 n)):=by intro n hrun;exact aY s (V:=.int .i64 n) (gK (x:=Builtin.len_ ⟨t::ts⟩ o.type #[ρc x']) ho (fun _=>by simp [builtin]) hrun) (.pure (.int _ _))
  unfold lH at hp;cases str with
  |true=>
   have hu:=qb h2;simp only at hp;split at hp
   ·rename_i q hx;cases hp;rw [hx] at hr;have hX:=ld hr;exact fin _ (by simp [Builtin.len_,hX,run_underlying hu,goInt])
   ·cases hp
  |false=>
   obtain⟨d,hd,h3⟩:=bP h2;split at h3
   ·simp only at hp;split at hp
    ·rename_i hx;cases hp;rw [hx] at hr;have hX:=dw hr;exact fin 0 (by simp [Builtin.len_,hX,run_underlying hd,goInt])
    ·rename_i cs n cap hx;cases hp;rw [hx] at hr;obtain⟨ad,c',hV,_⟩:=jf hr;exact fin n (by simp [Builtin.len_,hV,run_underlying hd,goInt])
    ·rename_i id g off es len cap ex hx;cases hp;rw [hx] at hr;obtain⟨b,base,ad,c',hV,_⟩:=fu hr;exact fin len (by simp [Builtin.len_,hV,run_underlying hd,goInt])
    ·cases hp
   ·cases h3
 ·cases hm
end
end Go.Ax
