/- Part 3 of the proof: Ax5, Ax6. -/
import Derived.Test.YtamgnhdbeecapaaCt2
import Derived.Laws.StructEq
set_option linter.unusedSimpArgs false
set_option linter.unusedVariables false
namespace Go.Ax
section
variable {top:Nat} {P:Program} {φ:qh} {K:Nat->Prop} {h:ek} {nx:Nat} {w:World} {ρ:b_->AV} {ρc:Operand->Value} {o:Oper}
def Mg (o:Oper) (x:b_):Bool:=match o.op with
 |.nilCheck x'=>e_ x' x
 |_=>false
theorem SD (s:gw top φ K h nx w) (hρ:∀x y,e_ x y=true->bz φ K w (ρ y) (ρc x)) {x:b_} (hm:Mg o x=true) {p:c9} (hp:uw ρ x=some p):Sound top P φ K h nx w ρc o p:=by
 unfold Mg at hm;split at hm
 ·rename_i x' ho;have hr:=hρ _ _ hm;unfold uw at hp;split at hp
  ·rename_i id g off hx;cases hp;rw [hx] at hr;obtain⟨b,base,hb,hV⟩:=zo hr;exact cx s (V:=ρc x') (by simp [execOp,ho,hV]) hr
  ·rename_i cs off hx;cases hp;rw [hx] at hr;obtain⟨b,o1,hK,hV,_⟩:=JX hr;exact cx s (V:=ρc x') (by simp [execOp,ho,hV]) hr
  ·rename_i f hx;cases hp;rw [hx] at hr;have hV:=CR hr;exact cx s (V:=ρc x') (by simp [execOp,ho,hV]) hr
  ·cases hp
 ·cases hm
theorem EG (op:BinOp) (t:TypeId) (x y:Operand) (a b:Value) (hc:(∃k n,a=.int k n)\/(∃q,a=.string q)\/(∃q,a=.bool q)):(eqGuard op t x y a b).run P w=.ok () w:=by unfold eqGuard;rcases hc with ⟨k,n,rfl⟩|⟨q,rfl⟩|⟨q,rfl⟩<;>cases op<;>simp
theorem RS {op:BinOp} {x y v:AV} {X Y:Value} (t:TypeId) (hv:Ld op x y=some v) (hx:bz φ K w x X) (hy:bz φ K w y Y) :
  ∃V,(binOp op t X Y).run P w=.ok V w/\bz φ K w v V/\((∃k n,X=.int k n)\/(∃q,X=.string q)\/(∃q,X=.bool q)):=by
 unfold Ld at hv;split at hv
 ·rename_i k a;split at hv
  ·rename_i k' b;have hX:=kn hx;have hY:=kn hy;subst hX hY;refine(fun (hh:∃V,(binOp op t (.int k a) (.int k' b)).run P w=.ok V w/\bz φ K w v V)=>let ⟨V,h1,h2⟩:=hh;⟨V,h1,h2,.inl ⟨_,_,rfl⟩⟩) ?_;by_cases hsh:op=.shl\/op=.shr
   ·rcases hsh with rfl|rfl <;>
    ·simp only [LN,AR,cond_eq_ite,qqH] at hv;split at hv
     ·cases hv
     ·rename_i hb;cases hv;exact⟨_,by simp [binOp,Op.shift,hb],.pure (.int _ _)⟩
   ·have hv':(bif Rq k k' then Q1 op k a b else none)=some v:=by revert hv;cases op<;>simp_all
    rw [cond_eq_ite] at hv';split at hv'
    ·rename_i hk;have hk':=D5 hk;subst hk';cases op<;>simp only [Q1,CC,D6,AR,cond_eq_ite,qqH] at hv'
     case add|sub|mul=>cases hv';exact⟨_,by simp [binOp,Op.intArith],.pure (.int _ _)⟩
     case and|or|xor|andNot=>cases hv';exact⟨_,by simp [binOp,Op.intBits],.pure (.int _ _)⟩
     case quo|rem=>
      split at hv'
      ·cases hv'
      ·rename_i hb;cases hv';refine⟨.int k _,?_,.pure (.int _ _)⟩;simp [binOp,Op.intDiv,hb]
     case shl|shr=>cases hv'
     case eql=>cases hv';rw [show decide (a=b)=(a == b) from (Bool.beq_eq_decide_eq a b).symm];exact⟨_,by simp [binOp,Op.intCmp],.pure (.bool _)⟩
     case neq=>cases hv';rw [show (!decide (a=b))=(a != b) from by rw [bne,Bool.beq_eq_decide_eq]];exact⟨_,by simp [binOp,Op.intCmp],.pure (.bool _)⟩
     case lss|gtr=>cases hv';exact⟨_,by simp [binOp,Op.intCmp],.pure (.bool _)⟩
     case leq=>cases hv';rw [show (!decide (b < a))=decide (a<=b) from by rw [Bool.eq_iff_iff];simp];exact⟨_,by simp [binOp,Op.intCmp],.pure (.bool _)⟩
     case geq=>cases hv';rw [show (!decide (a < b))=decide (b<=a) from by rw [Bool.eq_iff_iff];simp];exact⟨_,by simp [binOp,Op.intCmp],.pure (.bool _)⟩
    ·cases hv'
  ·cases hv
 ·rename_i a;split at hv
  ·rename_i b;have hX:=w9 hx;have hY:=w9 hy;subst hX hY;refine(fun (hh:∃V,(binOp op t (.string a) (.string b)).run P w=.ok V w/\bz φ K w v V)=>let ⟨V,h1,h2⟩:=hh;⟨V,h1,h2,.inr (.inl ⟨_,rfl⟩)⟩) ?_;cases op<;>simp only [YM,cond_eq_ite,qqF] at hv
   case eql|neq|lss|leq|gtr|geq=>cases hv;exact⟨_,by simp [binOp,Op.stringOp],.pure (.bool _)⟩
   case add=>
    split at hv
    ·rename_i hb;cases hv;refine⟨.string (a++b),?_,.pure (.str _)⟩;have hb':¬(9223372036854775807 < (a.size:Int)+(b.size:Int)):=by unfold most at hb;omega
     simp [binOp,Op.stringOp,IntKind.max,IntKind.signed,IntKind.bits,hb']
    ·cases hv
   all_goals cases hv
  ·cases hv
 ·cases hv
def Ve (o:Oper) (op:BinOp) (x y:b_):Bool:=match o.op with
 |.binOp op' _ x' y' _=>decide (op'=op)&&e_ x' x&&e_ y' y
 |_=>false
theorem Y1 (s:gw top φ K h nx w) (hρ:∀x y,e_ x y=true->bz φ K w (ρ y) (ρc x)) {op:BinOp} {x y:b_} (hm:Ve o op x y=true) {p:c9} (hp:lR (Ld op (ρ x) (ρ y))=some p):Sound top P φ K h nx w ρc o p:=by
 unfold Ve at hm;split at hm
 ·rename_i op' t x' y' t' ho;simp only [qqB,qqH] at hm;obtain⟨⟨rfl,h1⟩,h2⟩:=hm;obtain⟨v,hv,rfl⟩:=lH hp;obtain⟨V,r1,r2,r3⟩:=RS (P:=P) t hv (hρ _ _ h1) (hρ _ _ h2);refine cx s (V:=V) ?_ r2;simp only [execOp,ho];refine og ?_;simp [EG op' t x' y' _ _ r3,r1]
 ·cases hm
def mUn (o:Oper) (op:UnOp) (x:b_):Bool:=match o.op with
 |.unOp op' _ x'=>decide (op'=op)&&e_ x' x
 |_=>false
theorem s_un (s:gw top φ K h nx w) (hρ:∀x y,e_ x y=true->bz φ K w (ρ y) (ρc x)) {op:UnOp} {x:b_} (hm:mUn o op x=true) {p:c9} (hp:lR (Um op (ρ x))=some p):Sound top P φ K h nx w ρc o p:=by
 unfold mUn at hm;split at hm
 ·rename_i op' t x' ho;simp only [qqB,qqH] at hm;obtain⟨rfl,h1⟩:=hm;obtain⟨v,hv,rfl⟩:=lH hp;have hr:=hρ _ _ h1;unfold Um at hv;split at hv
  ·split at hv
   ·rename_i k n hx;cases hv;rw [hx] at hr;have hV:=kn hr;refine cx s (V:=.int k (k.wrap (0 - n))) ?_ (by rw [CC];exact .pure (.int _ _));simp [execOp,ho,hV,Op.unary,Op.intArith]
   ·cases hv
  ·split at hv
   ·rename_i b hx;cases hv;rw [hx] at hr;have hV:=lQ hr;refine cx s (V:=.bool !b) ?_ (.pure (.bool _));simp [execOp,ho,hV,Op.unary]
   ·cases hv
  ·split at hv
   ·rename_i k n hx;simp only [Q1] at hv;cases hv;rw [hx] at hr;have hV:=kn hr;refine cx s (V:=_) ?_ (.pure (.int _ _));simp [execOp,ho,hV,Op.unary,Op.intBits]
   ·cases hv
  ·cases hv
 ·cases hm
def QM (P:Program) (o:Oper) (k:IntKind) (x:b_):Bool:=match o.op with
 |.convert a b x'=>e_ x' x&&nv P a (fun d=>match d with|.int _=>true|_=>false)&&nv P b (fun d=>match d with|.int k'=>Rq k' k|_=>false)
 |_=>false
theorem UH (s:gw top φ K h nx w) (hρ:∀x y,e_ x y=true->bz φ K w (ρ y) (ρc x)) {k:IntKind} {x:b_} (hm:QM P o k x=true) {p:c9} (hp:Er ρ k x=some p):Sound top P φ K h nx w ρc o p:=by
 unfold QM at hm;split at hm
 ·rename_i a b x' ho;simp only [qqB] at hm;obtain⟨⟨h1,h2⟩,h3⟩:=hm;have hr:=hρ _ _ h1;obtain⟨d,hd,_⟩:=en h2;obtain⟨d',hd',hd2⟩:=en h3;unfold Er at hp;split at hp
  ·rename_i k0 n hx;cases hp;rw [hx] at hr;have hV:=kn hr;split at hd2
   ·rename_i k';have:=D5 hd2;subst this;refine cx s (V:=.int k' (k'.wrap n)) ?_ (by rw [CC];exact .pure (.int _ _));simp [execOp,ho,hV,convert,run_underlying hd,run_underlying hd',Conv.intToInt]
   ·cases hd2
  ·cases hp
 ·cases hm
theorem Ho {cs:List AV} {off:Nat} {V:Value} (r:bz φ K w (.qc cs off) V):∃b o,V=.pointer (some ⟨b,o+off,none⟩)/\∀off',lU K w (.qc cs off') (.pointer (some ⟨b,o+off',none⟩)):=by
 cases r with
 |pure r=>cases r with
  |qc cs b o off f hK hone hc hr=>exact⟨b,o,rfl,fun off'=>.qc cs b o off' f hK hone hc hr⟩
def LD (P:Program) (t:TypeId) (i off:Nat) (f:TypeId->Bool):Bool:=nv P t fun d=>match d with
 |.struct fs=>match fs[i]? with
  |some fd=>Nat.beq fd.offset off&&f fd.type
  |none=>false
 |_=>false
theorem Ek {t:TypeId} {i off:Nat} {f:TypeId->Bool} (hm:LD P t i off f=true):∃fs fd,P.underlying t=some (.struct fs)/\fs[i]?=some fd/\fd.offset=off/\f fd.type=true:=by
 obtain⟨d,hd,h1⟩:=en hm;split at h1
 ·rename_i fs;split at h1
  ·rename_i fd hfd;simp only [qqB,qqE] at h1;exact⟨fs,fd,hd,hfd,h1.1,h1.2⟩
  ·cases h1
 ·cases h1
def Mi (P:Program) (o:Oper) (off:Nat) (x:b_):Bool:=match o.op with
 |.fieldAddr t x' i=>e_ x' x&&LD P t i off (fun ft=>tInfo P ft fun i=>!(Nat.beq i.size 0))
 |_=>false
theorem SF (s:gw top φ K h nx w) (hρ:∀x y,e_ x y=true->bz φ K w (ρ y) (ρc x)) {off:Nat} {x:b_} (hm:Mi P o off x=true) {p:c9} (hp:s6 ρ off x=some p):Sound top P φ K h nx w ρc o p:=by
 unfold Mi at hm;split at hm
 ·rename_i t x' i ho;simp only [qqB] at hm;obtain⟨h1,h2⟩:=hm;have hr:=hρ _ _ h1;obtain⟨fs,fd,hu,hf,hoff,hsz⟩:=Ek h2;obtain⟨ti,hti,hsz⟩:=jy hsz;have hs0:ti.size≠0:=by intro h0;rw [h0] at hsz;cases hsz
  have hrun:∀b q,(Instr.fieldAt t (.pointer (some ⟨b,q,none⟩)) i).run P w=.ok (.pointer (some ⟨b,q+off,none⟩)) w:=by intro b q;simp [Instr.fieldAt,run_underlying hu,hf,Instr.sureAddr,fieldPlace,sizeOf,typeInfo,hti,hs0,Addr.add_lit,hoff]
  unfold s6 at hp;split at hp
  ·rename_i id g q hx;cases hp;rw [hx] at hr;obtain⟨b,base,hb,hV⟩:=zo hr;refine cx s (V:=.pointer (some ⟨b,base+q+off,none⟩)) ?_ (by rw [Nat.add_assoc];exact .ptr id g (q+off) b base hb);simp only [execOp,ho,hV];exact og (hrun b (base+q))
  ·rename_i cs q hx;cases hp;rw [hx] at hr;obtain⟨b,o1,hV,hre⟩:=Ho hr;refine cx s (V:=.pointer (some ⟨b,o1+q+off,none⟩)) ?_ (by rw [Nat.add_assoc];exact .pure (hre (q+off)));simp only [execOp,ho,hV];exact og (hrun b (o1+q))
  ·cases hp
 ·cases hm
end
end Go.Ax
namespace Go.Ax
section
variable {top:Nat} {P:Program} {φ:qh} {K:Nat->Prop} {h:ek} {nx:Nat} {w:World} {ρ:b_->AV} {ρc:Operand->Value} {o:Oper}
theorem Qp (s:gw top φ K h nx w) {t:TypeId} {sz:Option Nat} (ht:Fv P t sz=true) {cs cs':List AV} {off:Nat} {v:AV} {vs:Array Value} (qxl:cut cs off (gH sz)=some cs') (hv:Mb sz cs'=some v)
  (hl:cs.length=vs.size) (hr:∀(j:Nat) (a:AV),cs[j]?=some a->a.one=true/\∃u,vs[j]?=some u/\bz φ K w a u):∃V,(part t vs off).run P w=.ok V w/\bz φ K w v V:=by
 obtain⟨hl',hat⟩:=Ja qxl;have hfit:=(qg qxl).1;have qq9:∀(j:Nat) (a:AV),cs'[j]?=some a->a.one=true/\∃u,vs[off+j]?=some u/\bz φ K w a u:=by
  intro j a ha;have hj:j < gH sz:=by
   rcases Nat.lt_or_ge j cs'.length with hj|hj
   ·omega
   ·rw [qqf hj] at ha;cases ha
  rw [hat j hj] at ha;exact hr _ a ha
 cases sz with
 |none=>
  obtain⟨d,hd,hag⟩:=en ht;unfold Mb at hv;simp only at hv;split at hv
  ·rename_i x;cases hv;obtain⟨_,u,h1,h2⟩:=qq9 0 v rfl;refine⟨u,?_,h2⟩;simp only [Nat.add_zero] at h1;simp at hag;simp [part,k8 hd,hag,h1]
  ·cases hv
 |some n=>
  simp only [Fv,qqB] at ht;obtain⟨d,hd,hag⟩:=en ht.1;have hs:=lV ht.2 w;simp only [gH] at hl' hfit;cases hv;refine⟨.agg (vs.extract off (off+n)),by simp [part,k8 hd,hag,hs],.agg _ _ (by simp;omega) (fun j a ha=>(qq9 j a ha).1) (fun j a u ha hu=>?_)⟩;obtain⟨_,u',h1,h2⟩:=qq9 j a ha;have hj:j < n:=by
   rcases Nat.lt_or_ge j cs'.length with hj|hj
   ·omega
   ·rw [qqf hj] at ha;cases ha
  rw [Array.getElem?_extract,if_pos (by omega),h1] at hu;cases hu;exact h2
def U8 (P:Program) (o:Oper) (off:Nat) (sz:Option Nat) (x:b_):Bool:=match o.op with
 |.field t x' i=>e_ x' x&&LD P t i off (fun ft=>Fv P ft sz)
 |_=>false
theorem YW (s:gw top φ K h nx w) (hρ:∀x y,e_ x y=true->bz φ K w (ρ y) (ρc x)) {off:Nat} {sz:Option Nat} {x:b_} (hm:U8 P o off sz x=true) {p:c9} (hp:J7 ρ off sz x=some p):Sound top P φ K h nx w ρc o p:=by
 unfold U8 at hm;split at hm
 ·rename_i t x' i ho;simp only [qqB] at hm;obtain⟨h1,h2⟩:=hm;have hr:=hρ _ _ h1;obtain⟨fs,fd,hu,hf,hoff,hsz⟩:=Ek h2;unfold J7 at hp;split at hp
  ·rename_i cs hx;split at hp
   ·rename_i cs' qxl;obtain⟨v,hv,rfl⟩:=lH hp;rw [hx] at hr;obtain⟨vs,hV,hl,hrr⟩:=w_ hr;obtain⟨V,r1,r2⟩:=Qp s hsz qxl hv hl hrr;refine cx s (V:=V) ?_ r2;simp only [execOp,ho];refine og ?_;simp [Instr.field,run_underlying hu,hf,hV,asAgg,hoff,r1]
   ·cases hp
  ·cases hp
 ·cases hm
def M0 (P:Program) (t:TypeId) (es:Nat):Bool:=nv P t fun d=>match d with|.slice e=>xz P e es|_=>false
theorem Cj {t:TypeId} {es:Nat} (hm:M0 P t es=true):∃e,P.underlying t=some (.slice e)/\xz P e es=true:=by
 obtain⟨d,hd,h1⟩:=en hm;split at h1
 ·rename_i e;exact⟨e,hd,h1⟩
 ·cases h1
def Ur (P:Program) (t:TypeId) (n es:Nat):Bool:=nv P t fun d=>match d with|.array m e=>Nat.beq m n&&xz P e es|_=>false
theorem G8 {t:TypeId} {n es:Nat} (hm:Ur P t n es=true):∃e,P.underlying t=some (.array n e)/\xz P e es=true:=by
 obtain⟨d,hd,h1⟩:=en hm;split at h1
 ·rename_i m e;simp only [qqB,qqE] at h1;obtain⟨rfl,h1⟩:=h1;exact⟨e,hd,h1⟩
 ·cases h1
theorem JY {cs:List AV} {n:Nat} {cap:Option Nat} {V:Value} (r:bz φ K w (.ju cs n cap) V):∃ad c',V=.slice (some ad) n c'/\n<=c'/\(∀c,cap=some c->c'=c)/\(cs≠[]->ad.spot=none)/\
  (cs≠[]->∀off',lU K w (.qc cs off') (.pointer (some ⟨ad.block,ad.off+off',none⟩)))/\
  (∀(cs':List AV) (off' n' c1:Nat) (ad':Addr) (cap':Option Nat),(∀j,cs'[j]?=if j < cs'.length then cs[off'+j]? else none)->(cs'≠[]->ad'=⟨ad.block,ad.off+off',none⟩)->(cs'≠[]->cs≠[])->n'<=c1->(∀c,cap'=some c->c1=c)->
   lU K w (.ju cs' n' cap') (.slice (some ad') n' c1)):=by
 cases r with
 |pure r=>cases r with
  |ju cs n cap ad c' f hK hn hcap hone hc hr=>
   refine⟨ad,c',rfl,hn,hcap,fun hne=>(hK hne).1,fun hne off'=>.qc cs ad.block ad.off off' f (hK hne).2 hone hc hr,fun cs' off' n' c1 ad' cap' hat had hne hn' qv9=>?_⟩;have qya:∀(j:Nat) (a:AV),cs'[j]?=some a->cs[off'+j]?=some a:=by
    intro j a ha;have:=hat j;rw [ha] at this;split at this
    ·exact this.symm
    ·cases this
   refine .ju cs' n' cap' ad' c1 (fun j=>f (off'+j)) (fun qx5=>?_) hn' qv9 (fun j a ha=>hone _ a (qya j a ha)) (fun j hj=>?_) (fun j a ha=>hr _ a (qya j a ha))
   ·rw [had qx5];exact⟨rfl,(hK (hne qx5)).2⟩
   ·have qx5:cs'≠[]:=by rintro rfl;simp at hj
    rw [had qx5];have hlt:off'+j < cs.length:=by
     have:=qya j _ (qqa hj);rcases Nat.lt_or_ge (off'+j) cs.length with h1|h1
     ·exact h1
     ·rw [qqf h1] at this;cases this
    simp only;rw [Nat.add_assoc];exact hc _ hlt
theorem GD (ad:Addr) (hs:ad.spot=none):ad=⟨ad.block,ad.off,none⟩:=by cases ad;simp at hs;simp [hs]
def Mh (P:Program) (o:Oper) (es:Nat) (x i:b_):Bool:=match o.op with
 |.indexAddr t x' i'=>e_ x' x&&e_ i' i&&M0 P t es
 |_=>false
theorem SE (s:gw top φ K h nx w) (hρ:∀x y,e_ x y=true->bz φ K w (ρ y) (ρc x)) {es:Nat} {x i:b_} (hm:Mh P o es x i=true) {p:c9} (hp:ux ρ es x i=some p):Sound top P φ K h nx w ρc o p:=by
 unfold Mh at hm;split at hm
 ·rename_i t x' i' ho;simp only [qqB] at hm;obtain⟨⟨h1,h2⟩,h3⟩:=hm;obtain⟨e,hu,hs⟩:=Cj h3;have hrx:=hρ _ _ h1;have hri:=hρ _ _ h2;have hrun:∀(ad:Addr) (len c':Nat) (k:IntKind) (m:Nat),m < len->(Instr.indexAt t (.slice (some ad) len c') (.int k (m:Int))).run P w=.ok (.pointer (some (ad.add (m*es)))) w:=by intro ad len c' k m hlt;simp [Instr.indexAt,run_underlying hu,asIntOf,hlt,lV hs]
  unfold ux at hp;split at hp
  ·rename_i k iv hi;rw [hi] at hri;have hI:=kn hri;split at hp
   ·rename_i cs n cap hx;split at hp
    ·rename_i m hix;obtain⟨rfl,hlt⟩:=C8 hix;split at hp
     ·cases hp
     ·rename_i a0 cs0;cases hp;rw [hx] at hrx;obtain⟨ad,c',hV,_,_,qjg,hip,_⟩:=JY hrx;have hne:(a0::cs0)≠[]:=by simp
      refine cx s (V:=.pointer (some ⟨ad.block,ad.off+m*es,none⟩)) ?_ (.pure (hip hne _));simp only [execOp,ho,hV,hI];refine og ?_;rw [hrun ad n c' k m hlt];rw [GD ad (qjg hne),Addr.add_lit]
    ·cases hp
   ·rename_i id g off es' len cap ex hx;simp only [cond_eq_ite,qqE] at hp;split at hp
    ·rename_i hes;subst hes;split at hp
     ·rename_i m hix;obtain⟨rfl,hlt⟩:=C8 hix;cases hp;rw [hx] at hrx;obtain⟨b,base,ad,c',hV,hb,hl1,hl2,_,had⟩:=lZ hrx;have h0:c'≠0:=by omega
      obtain⟨rfl,_⟩:=had h0;refine cx s (V:=.pointer (some ⟨b,base+(off+m*es'),none⟩)) ?_ (.ptr id g _ b base hb);simp only [execOp,ho,hV,hI];refine og ?_;rw [hrun _ len c' k m hlt,Addr.add_lit,Nat.add_assoc]
     ·cases hp
    ·cases hp
   ·cases hp
  ·cases hp
 ·cases hm
def QK (P:Program) (o:Oper) (len es:Nat) (x i:b_):Bool:=match o.op with
 |.indexAddr t x' i'=>e_ x' x&&e_ i' i&&Ur P t len es
 |_=>false
theorem UG (s:gw top φ K h nx w) (hρ:∀x y,e_ x y=true->bz φ K w (ρ y) (ρc x)) {len es:Nat} {x i:b_} (hm:QK P o len es x i=true) {p:c9} (hp:AO ρ len es x i=some p):Sound top P φ K h nx w ρc o p:=by
 unfold QK at hm;split at hm
 ·rename_i t x' i' ho;simp only [qqB] at hm;obtain⟨⟨h1,h2⟩,h3⟩:=hm;obtain⟨e,hu,hs⟩:=G8 h3;have hrx:=hρ _ _ h1;have hri:=hρ _ _ h2;have hrun:∀(b q:Nat) (k:IntKind) (m:Nat),m < len->(Instr.indexAt t (.pointer (some ⟨b,q,none⟩)) (.int k (m:Int))).run P w=.ok (.pointer (some ⟨b,q+m*es,none⟩)) w:=by intro b q k m hlt;simp [Instr.indexAt,run_underlying hu,asIntOf,Instr.sureAddr,hlt,lV hs,Addr.add_lit]
  unfold AO at hp;split at hp
  ·rename_i k iv hi;rw [hi] at hri;have hI:=kn hri;split at hp
   ·rename_i m hix;obtain⟨rfl,hlt⟩:=C8 hix;split at hp
    ·rename_i id g q hx;cases hp;rw [hx] at hrx;obtain⟨b,base,hb,hV⟩:=zo hrx;refine cx s (V:=.pointer (some ⟨b,base+(q+m*es),none⟩)) ?_ (.ptr id g _ b base hb);simp only [execOp,ho,hV,hI];refine og ?_;rw [hrun _ _ k m hlt,Nat.add_assoc]
    ·rename_i cs q hx;cases hp;rw [hx] at hrx;obtain⟨b,o1,hV,hre⟩:=Ho hrx;refine cx s (V:=.pointer (some ⟨b,o1+(q+m*es),none⟩)) ?_ (.pure (hre _));simp only [execOp,ho,hV,hI];refine og ?_;rw [hrun _ _ k m hlt,Nat.add_assoc]
    ·cases hp
   ·cases hp
  ·cases hp
 ·cases hm
def Pq (P:Program) (t:TypeId):Bool:=nv P t fun d=>match d with|.string=>true|_=>false
theorem Bs {t:TypeId} (hm:Pq P t=true):P.underlying t=some .string:=by
 obtain⟨d,hd,h1⟩:=en hm;split at h1
 ·exact hd
 ·cases h1
def mIdx (P:Program) (o:Oper) (x i:b_):Bool:=match o.op with
 |.index t x' i'=>e_ x' x&&e_ i' i&&Pq P t
 |_=>false
theorem YV (s:gw top φ K h nx w) (hρ:∀x y,e_ x y=true->bz φ K w (ρ y) (ρc x)) {x i:b_} (hm:mIdx P o x i=true) {p:c9} (hp:J6 ρ x i=some p):Sound top P φ K h nx w ρc o p:=by
 unfold mIdx at hm;split at hm
 ·rename_i t x' i' ho;simp only [qqB] at hm;obtain⟨⟨h1,h2⟩,h3⟩:=hm;have hu:=Bs h3;have hrx:=hρ _ _ h1;have hri:=hρ _ _ h2;unfold J6 at hp;split at hp
  ·rename_i q hx;split at hp
   ·rename_i k m hi;split at hp
    ·rename_i b hb;cases hp;rw [hx] at hrx;rw [hi] at hri;have hX:=w9 hrx;have hI:=kn hri;refine cx s (V:=.int .u8 b.toNat) ?_ (.pure (.int _ _));simp only [execOp,ho,hX,hI];refine og ?_;have h0:(0:Int)<=Int.ofNat m:=Int.natCast_nonneg m;simp [Instr.index,run_underlying hu,asIntOf,h0,hb]
    ·cases hp
   ·cases hp
  ·cases hp
 ·cases hm
def U9 (o:Oper) (i:Nat) (x:b_):Bool:=match o.op with
 |.extract x' i'=>e_ x' x&&Nat.beq i' i
 |_=>false
theorem YX (s:gw top φ K h nx w) (hρ:∀x y,e_ x y=true->bz φ K w (ρ y) (ρc x)) {i:Nat} {x:b_} (hm:U9 o i x=true) {p:c9} (hp:J8 ρ i x=some p):Sound top P φ K h nx w ρc o p:=by
 unfold U9 at hm;split at hm
 ·rename_i x' i' ho;simp only [qqB,qqE] at hm;obtain⟨h1,rfl⟩:=hm;have hr:=hρ _ _ h1;unfold J8 at hp;split at hp
  ·rename_i vs hx;obtain⟨v,hv,rfl⟩:=lH hp;rw [hx] at hr;obtain⟨us,hV,hl,hrr⟩:=IB hr;obtain⟨u,r1,r2⟩:=hrr _ _ hv;refine cx s (V:=u) ?_ r2;simp only [execOp,ho];refine og ?_;simp [Instr.extract,hV,r1]
  ·cases hp
 ·cases hm
theorem oL {b:Builtin} {args:Array Operand} {tys:Array TypeId} {V:Value} {w':World} {x:Sem Value} (ho:o.op=.call {callee:=.builtin b,args:=args,argTypes:=tys})
  (hb:∀consts,builtin b tys o.type consts (args.map ρc)=(do pure (Next.value (←x)):Sem Next)) (hr:x.run P w=.ok V w'):(execOp ρc o).run P w=.ok (.value V) w':=by
 simp only [execOp,ho,resolve,invoke,hb];simp only [Sem.run_bind,Sem.run_pure,Result.andThen_ok,hb,hr]
def U7 (P:Program) (o:Oper) (str:Bool) (x:b_):Bool:=match o.op with
 |.call {callee:=.builtin .len,args:=⟨[x']⟩,argTypes:=⟨t::_⟩}=>e_ x' x&&(match str with|true=>Pq P t|false=>nv P t fun d=>match d with|.slice _=>true|_=>false)
 |_=>false
theorem YU (s:gw top φ K h nx w) (hρ:∀x y,e_ x y=true->bz φ K w (ρ y) (ρc x)) {str:Bool} {x:b_} (hm:U7 P o str x=true) {p:c9} (hp:xq ρ str x=some p):Sound top P φ K h nx w ρc o p:=by
 unfold U7 at hm;split at hm
 ·rename_i x' t ts ho;simp only [qqB] at hm;obtain⟨h1,h2⟩:=hm;have hr:=hρ _ _ h1;have fin:∀(n:Nat),(Builtin.len_ ⟨t::ts⟩ o.type #[ρc x']).run P w=.ok (.int .i64 n) w->Sound top P φ K h nx w ρc o (lE (.int .i64 n)):=by intro n hrun;exact cx s (V:=.int .i64 n) (oL (x:=Builtin.len_ ⟨t::ts⟩ o.type #[ρc x']) ho (fun _=>by simp [builtin]) hrun) (.pure (.int _ _))
  unfold xq at hp;cases str with
  |true=>
   have hu:=Bs h2;simp only at hp;split at hp
   ·rename_i q hx;cases hp;rw [hx] at hr;have hX:=w9 hr;exact fin _ (by simp [Builtin.len_,hX,run_underlying hu,goInt])
   ·cases hp
  |false=>
   obtain⟨d,hd,h3⟩:=en h2;split at h3
   ·simp only at hp;split at hp
    ·rename_i hx;cases hp;rw [hx] at hr;have hX:=ji hr;exact fin 0 (by simp [Builtin.len_,hX,run_underlying hd,goInt])
    ·rename_i cs n cap hx;cases hp;rw [hx] at hr;obtain⟨ad,c',hV,_⟩:=ri hr;exact fin n (by simp [Builtin.len_,hV,run_underlying hd,goInt])
    ·rename_i id g off es len cap ex hx;cases hp;rw [hx] at hr;obtain⟨b,base,ad,c',hV,_⟩:=lZ hr;exact fin len (by simp [Builtin.len_,hV,run_underlying hd,goInt])
    ·cases hp
   ·cases h3
 ·cases hm
end
end Go.Ax
