/- Part 2 of the proof: Ax5, Ax6. -/
import Derived.Test.YtamgnhdbeecapaaCq1
import Derived.Laws.StructEq
set_option linter.unusedSimpArgs false
set_option linter.unusedVariables false
namespace Go.Ax
section
variable {top:Nat} {P:Program} {φ:fm} {K:Nat->Prop} {h:aW} {nx:Nat} {w:World} {ρ:aH->AV} {ρc:Operand->Value} {o:Oper}
def zd (o:Oper) (x:aH):Bool:=match o.op with
 |.nilCheck x'=>bn x' x
 |_=>false
theorem Fc (s:bM top φ K h nx w) (hρ:∀x y,bn x y=true->aG φ K w (ρ y) (ρc x)) {x:aH} (hm:zd o x=true) {p:aO} (hp:gG ρ x=some p):Sound top P φ K h nx w ρc o p:=by
 unfold zd at hm;split at hm
 ·rename_i x' ho;have hr:=hρ _ _ hm;unfold gG at hp;split at hp
  ·rename_i id g off hx;cases hp;rw [hx] at hr;obtain⟨b,base,hb,hV⟩:=jG hr;exact aL s (V:=ρc x') (by simp [execOp,ho,hV]) hr
  ·rename_i cs off hx;cases hp;rw [hx] at hr;obtain⟨b,o1,hK,hV,_⟩:=wR hr;exact aL s (V:=ρc x') (by simp [execOp,ho,hV]) hr
  ·rename_i f hx;cases hp;rw [hx] at hr;have hV:=ni hr;exact aL s (V:=ρc x') (by simp [execOp,ho,hV]) hr
  ·cases hp
 ·cases hm
theorem pS (op:BinOp) (t:TypeId) (x y:Operand) (a b:Value) (hc:(∃k n,a=.int k n)\/(∃q,a=.string q)\/(∃q,a=.bool q)):(eqGuard op t x y a b).run P w=.ok () w:=by unfold eqGuard;rcases hc with ⟨k,n,rfl⟩|⟨q,rfl⟩|⟨q,rfl⟩<;>cases op<;>simp
theorem Et {op:BinOp} {x y v:AV} {X Y:Value} (t:TypeId) (hv:yj op x y=some v) (hx:aG φ K w x X) (hy:aG φ K w y Y) :
  ∃V,(binOp op t X Y).run P w=.ok V w/\aG φ K w v V/\((∃k n,X=.int k n)\/(∃q,X=.string q)\/(∃q,X=.bool q)):=by
 unfold yj at hv;split at hv
 ·rename_i k a;split at hv
  ·rename_i k' b;have hX:=c4 hx;have hY:=c4 hy;subst hX hY;refine(fun (hh:∃V,(binOp op t (.int k a) (.int k' b)).run P w=.ok V w/\aG φ K w v V)=>let ⟨V,h1,h2⟩:=hh;⟨V,h1,h2,.inl ⟨_,_,rfl⟩⟩) ?_;by_cases hsh:op=.shl\/op=.shr
   ·rcases hsh with rfl|rfl <;>
    ·simp only [yO,iZ,cond_eq_ite,Qq] at hv;split at hv
     ·cases hv
     ·rename_i hb;cases hv;exact⟨_,by simp [binOp,Op.shift,hb],.pure (.int _ _)⟩
   ·have hv':(bif ET k k' then DT op k a b else none)=some v:=by revert hv;cases op<;>simp_all
    rw [cond_eq_ite] at hv';split at hv'
    ·rename_i hk;have hk':=oU hk;subst hk';cases op<;>simp only [DT,je,mS,iZ,cond_eq_ite,Qq] at hv'
     case add|sub|mul=>cases hv';exact⟨_,by simp [binOp,Op.intArith],.pure (.int _ _)⟩
     case and|or|xor|andNot=>cases hv';exact⟨_,by simp [binOp,Op.intBits],.pure (.int _ _)⟩
     case quo|rem=>
      split at hv'
      ·cases hv'
      ·rename_i hb;cases hv';refine⟨.int k _,?_,.pure (.int _ _)⟩;simp [binOp,Op.intDiv,hb]
     case shl|shr=>cases hv'
     case eql=>cases hv';rw [show decide (a=b)=(a == b) from (Bool.beq_eq_decide_eq a b).symm];exact⟨_,by simp [binOp,Op.intCmp],.pure (.bool _)⟩
     case neq=>cases hv';rw [show (!decide (a=b))=(a != b) from by rw [bne,Bool.beq_eq_decide_eq]];exact⟨_,by simp [binOp,Op.intCmp],.pure (.bool _)⟩
     case lss|gtr=>cases hv';exact⟨_,by simp [binOp,Op.intCmp],.pure (.bool _)⟩
     case leq=>cases hv';rw [show (!decide (b < a))=decide (a<=b) from by rw [Bool.eq_iff_iff];simp];exact⟨_,by simp [binOp,Op.intCmp],.pure (.bool _)⟩
     case geq=>cases hv';rw [show (!decide (a < b))=decide (b<=a) from by rw [Bool.eq_iff_iff];simp];exact⟨_,by simp [binOp,Op.intCmp],.pure (.bool _)⟩
    ·cases hv'
  ·cases hv
 ·rename_i a;split at hv
  ·rename_i b;have hX:=iG hx;have hY:=iG hy;subst hX hY;refine(fun (hh:∃V,(binOp op t (.string a) (.string b)).run P w=.ok V w/\aG φ K w v V)=>let ⟨V,h1,h2⟩:=hh;⟨V,h1,h2,.inr (.inl ⟨_,rfl⟩)⟩) ?_;cases op<;>simp only [IY,cond_eq_ite,Qo] at hv
   case eql|neq|lss|leq|gtr|geq=>cases hv;exact⟨_,by simp [binOp,Op.stringOp],.pure (.bool _)⟩
   case add=>
    split at hv
    ·rename_i hb;cases hv;refine⟨.string (a++b),?_,.pure (.str _)⟩;have hb':¬(9223372036854775807 < (a.size:Int)+(b.size:Int)):=by unfold most at hb;omega
     simp [binOp,Op.stringOp,IntKind.max,IntKind.signed,IntKind.bits,hb']
    ·cases hv
   all_goals cases hv
  ·cases hv
 ·cases hv
def HM (o:Oper) (op:BinOp) (x y:aH):Bool:=match o.op with
 |.binOp op' _ x' y' _=>decide (op'=op)&&bn x' x&&bn y' y
 |_=>false
theorem Jd (s:bM top φ K h nx w) (hρ:∀x y,bn x y=true->aG φ K w (ρ y) (ρc x)) {op:BinOp} {x y:aH} (hm:HM o op x y=true) {p:aO} (hp:dI (yj op (ρ x) (ρ y))=some p):Sound top P φ K h nx w ρc o p:=by
 unfold HM at hm;split at hm
 ·rename_i op' t x' y' t' ho;simp only [Qk,Qq] at hm;obtain⟨⟨rfl,h1⟩,h2⟩:=hm;obtain⟨v,hv,rfl⟩:=dw hp;obtain⟨V,r1,r2,r3⟩:=Et (P:=P) t hv (hρ _ _ h1) (hρ _ _ h2);refine aL s (V:=V) ?_ r2;simp only [execOp,ho];refine ep ?_;simp [pS op' t x' y' _ _ r3,r1]
 ·cases hm
def M5 (o:Oper) (op:UnOp) (x:aH):Bool:=match o.op with
 |.unOp op' _ x'=>decide (op'=op)&&bn x' x
 |_=>false
theorem LP (s:bM top φ K h nx w) (hρ:∀x y,bn x y=true->aG φ K w (ρ y) (ρc x)) {op:UnOp} {x:aH} (hm:M5 o op x=true) {p:aO} (hp:dI (GO op (ρ x))=some p):Sound top P φ K h nx w ρc o p:=by
 unfold M5 at hm;split at hm
 ·rename_i op' t x' ho;simp only [Qk,Qq] at hm;obtain⟨rfl,h1⟩:=hm;obtain⟨v,hv,rfl⟩:=dw hp;have hr:=hρ _ _ h1;unfold GO at hv;split at hv
  ·split at hv
   ·rename_i k n hx;cases hv;rw [hx] at hr;have hV:=c4 hr;refine aL s (V:=.int k (k.wrap (0 - n))) ?_ (by rw [je];exact .pure (.int _ _));simp [execOp,ho,hV,Op.unary,Op.intArith]
   ·cases hv
  ·split at hv
   ·rename_i b hx;cases hv;rw [hx] at hr;have hV:=dH hr;refine aL s (V:=.bool !b) ?_ (.pure (.bool _));simp [execOp,ho,hV,Op.unary]
   ·cases hv
  ·split at hv
   ·rename_i k n hx;simp only [DT] at hv;cases hv;rw [hx] at hr;have hV:=c4 hr;refine aL s (V:=_) ?_ (.pure (.int _ _));simp [execOp,ho,hV,Op.unary,Op.intBits]
   ·cases hv
  ·cases hv
 ·cases hm
def DL (P:Program) (o:Oper) (k:IntKind) (x:aH):Bool:=match o.op with
 |.convert a b x'=>bn x' x&&ek P a (fun d=>match d with|.int _=>true|_=>false)&&ek P b (fun d=>match d with|.int k'=>ET k' k|_=>false)
 |_=>false
theorem G6 (s:bM top φ K h nx w) (hρ:∀x y,bn x y=true->aG φ K w (ρ y) (ρc x)) {k:IntKind} {x:aH} (hm:DL P o k x=true) {p:aO} (hp:pG ρ k x=some p):Sound top P φ K h nx w ρc o p:=by
 unfold DL at hm;split at hm
 ·rename_i a b x' ho;simp only [Qk] at hm;obtain⟨⟨h1,h2⟩,h3⟩:=hm;have hr:=hρ _ _ h1;obtain⟨d,hd,_⟩:=aX h2;obtain⟨d',hd',hd2⟩:=aX h3;unfold pG at hp;split at hp
  ·rename_i k0 n hx;cases hp;rw [hx] at hr;have hV:=c4 hr;split at hd2
   ·rename_i k';have:=oU hd2;subst this;refine aL s (V:=.int k' (k'.wrap n)) ?_ (by rw [je];exact .pure (.int _ _));simp [execOp,ho,hV,convert,run_underlying hd,run_underlying hd',Conv.intToInt]
   ·cases hd2
  ·cases hp
 ·cases hm
theorem tR {cs:List AV} {off:Nat} {V:Value} (r:aG φ K w (.fh cs off) V):∃b o,V=.pointer (some ⟨b,o+off,none⟩)/\∀off',dL K w (.fh cs off') (.pointer (some ⟨b,o+off',none⟩)):=by
 cases r with
 |pure r=>cases r with
  |fh cs b o off f hK hone hc hr=>exact⟨b,o,rfl,fun off'=>.fh cs b o off' f hK hone hc hr⟩
def yH (P:Program) (t:TypeId) (i off:Nat) (f:TypeId->Bool):Bool:=ek P t fun d=>match d with
 |.struct fs=>match fs[i]? with
  |some fd=>Nat.beq fd.offset off&&f fd.type
  |none=>false
 |_=>false
theorem pz {t:TypeId} {i off:Nat} {f:TypeId->Bool} (hm:yH P t i off f=true):∃fs fd,P.underlying t=some (.struct fs)/\fs[i]?=some fd/\fd.offset=off/\f fd.type=true:=by
 obtain⟨d,hd,h1⟩:=aX hm;split at h1
 ·rename_i fs;split at h1
  ·rename_i fd hfd;simp only [Qk,Qn] at h1;exact⟨fs,fd,hd,hfd,h1.1,h1.2⟩
  ·cases h1
 ·cases h1
def zf (P:Program) (o:Oper) (off:Nat) (x:aH):Bool:=match o.op with
 |.fieldAddr t x' i=>bn x' x&&yH P t i off (fun ft=>tInfo P ft fun i=>!(Nat.beq i.size 0))
 |_=>false
theorem Ff (s:bM top φ K h nx w) (hρ:∀x y,bn x y=true->aG φ K w (ρ y) (ρc x)) {off:Nat} {x:aH} (hm:zf P o off x=true) {p:aO} (hp:fY ρ off x=some p):Sound top P φ K h nx w ρc o p:=by
 unfold zf at hm;split at hm
 ·rename_i t x' i ho;simp only [Qk] at hm;obtain⟨h1,h2⟩:=hm;have hr:=hρ _ _ h1;obtain⟨fs,fd,hu,hf,hoff,hsz⟩:=pz h2;obtain⟨ti,hti,hsz⟩:=cS hsz;have hs0:ti.size≠0:=by intro h0;rw [h0] at hsz;cases hsz
  have hrun:∀b q,(Instr.fieldAt t (.pointer (some ⟨b,q,none⟩)) i).run P w=.ok (.pointer (some ⟨b,q+off,none⟩)) w:=by intro b q;simp [Instr.fieldAt,run_underlying hu,hf,Instr.sureAddr,fieldPlace,sizeOf,typeInfo,hti,hs0,Addr.add_lit,hoff]
  unfold fY at hp;split at hp
  ·rename_i id g q hx;cases hp;rw [hx] at hr;obtain⟨b,base,hb,hV⟩:=jG hr;refine aL s (V:=.pointer (some ⟨b,base+q+off,none⟩)) ?_ (by rw [Nat.add_assoc];exact .ptr id g (q+off) b base hb);simp only [execOp,ho,hV];exact ep (hrun b (base+q))
  ·rename_i cs q hx;cases hp;rw [hx] at hr;obtain⟨b,o1,hV,hre⟩:=tR hr;refine aL s (V:=.pointer (some ⟨b,o1+q+off,none⟩)) ?_ (by rw [Nat.add_assoc];exact .pure (hre (q+off)));simp only [execOp,ho,hV];exact ep (hrun b (o1+q))
  ·cases hp
 ·cases hm
end
end Go.Ax
namespace Go.Ax
section
variable {top:Nat} {P:Program} {φ:fm} {K:Nat->Prop} {h:aW} {nx:Nat} {w:World} {ρ:aH->AV} {ρc:Operand->Value} {o:Oper}
theorem Dl (s:bM top φ K h nx w) {t:TypeId} {sz:Option Nat} (ht:qy P t sz=true) {cs cs':List AV} {off:Nat} {v:AV} {vs:Array Value} (qxi:cut cs off (bZ sz)=some cs') (hv:Ak sz cs'=some v)
  (hl:cs.length=vs.size) (hr:∀(j:Nat) (a:AV),cs[j]?=some a->a.one=true/\∃u,vs[j]?=some u/\aG φ K w a u):∃V,(part t vs off).run P w=.ok V w/\aG φ K w v V:=by
 obtain⟨hl',hat⟩:=vR qxi;have hfit:=(fk qxi).1;have qq9:∀(j:Nat) (a:AV),cs'[j]?=some a->a.one=true/\∃u,vs[off+j]?=some u/\aG φ K w a u:=by
  intro j a ha;have hj:j < bZ sz:=by
   rcases Nat.lt_or_ge j cs'.length with hj|hj
   ·omega
   ·rw [PZ hj] at ha;cases ha
  rw [hat j hj] at ha;exact hr _ a ha
 cases sz with
 |none=>
  obtain⟨d,hd,hag⟩:=aX ht;unfold Ak at hv;simp only at hv;split at hv
  ·rename_i x;cases hv;obtain⟨_,u,h1,h2⟩:=qq9 0 v rfl;refine⟨u,?_,h2⟩;simp only [Nat.add_zero] at h1;simp at hag;simp [part,dc hd,hag,h1]
  ·cases hv
 |some n=>
  simp only [qy,Qk] at ht;obtain⟨d,hd,hag⟩:=aX ht.1;have hs:=dN ht.2 w;simp only [bZ] at hl' hfit;cases hv;refine⟨.agg (vs.extract off (off+n)),by simp [part,dc hd,hag,hs],.agg _ _ (by simp;omega) (fun j a ha=>(qq9 j a ha).1) (fun j a u ha hu=>?_)⟩;obtain⟨_,u',h1,h2⟩:=qq9 j a ha;have hj:j < n:=by
   rcases Nat.lt_or_ge j cs'.length with hj|hj
   ·omega
   ·rw [PZ hj] at ha;cases ha
  rw [Array.getElem?_extract,if_pos (by omega),h1] at hu;cases hu;exact h2
def HG (P:Program) (o:Oper) (off:Nat) (sz:Option Nat) (x:aH):Bool:=match o.op with
 |.field t x' i=>bn x' x&&yH P t i off (fun ft=>qy P ft sz)
 |_=>false
theorem I9 (s:bM top φ K h nx w) (hρ:∀x y,bn x y=true->aG φ K w (ρ y) (ρc x)) {off:Nat} {sz:Option Nat} {x:aH} (hm:HG P o off sz x=true) {p:aO} (hp:w9 ρ off sz x=some p):Sound top P φ K h nx w ρc o p:=by
 unfold HG at hm;split at hm
 ·rename_i t x' i ho;simp only [Qk] at hm;obtain⟨h1,h2⟩:=hm;have hr:=hρ _ _ h1;obtain⟨fs,fd,hu,hf,hoff,hsz⟩:=pz h2;unfold w9 at hp;split at hp
  ·rename_i cs hx;split at hp
   ·rename_i cs' qxi;obtain⟨v,hv,rfl⟩:=dw hp;rw [hx] at hr;obtain⟨vs,hV,hl,hrr⟩:=iH hr;obtain⟨V,r1,r2⟩:=Dl s hsz qxi hv hl hrr;refine aL s (V:=V) ?_ r2;simp only [execOp,ho];refine ep ?_;simp [Instr.field,run_underlying hu,hf,hV,asAgg,hoff,r1]
   ·cases hp
  ·cases hp
 ·cases hm
def z8 (P:Program) (t:TypeId) (es:Nat):Bool:=ek P t fun d=>match d with|.slice e=>jf P e es|_=>false
theorem mE {t:TypeId} {es:Nat} (hm:z8 P t es=true):∃e,P.underlying t=some (.slice e)/\jf P e es=true:=by
 obtain⟨d,hd,h1⟩:=aX hm;split at h1
 ·rename_i e;exact⟨e,hd,h1⟩
 ·cases h1
def GR (P:Program) (t:TypeId) (n es:Nat):Bool:=ek P t fun d=>match d with|.array m e=>Nat.beq m n&&jf P e es|_=>false
theorem tJ {t:TypeId} {n es:Nat} (hm:GR P t n es=true):∃e,P.underlying t=some (.array n e)/\jf P e es=true:=by
 obtain⟨d,hd,h1⟩:=aX hm;split at h1
 ·rename_i m e;simp only [Qk,Qn] at h1;obtain⟨rfl,h1⟩:=h1;exact⟨e,hd,h1⟩
 ·cases h1
theorem wS {cs:List AV} {n:Nat} {cap:Option Nat} {V:Value} (r:aG φ K w (.b6 cs n cap) V):∃ad c',V=.slice (some ad) n c'/\n<=c'/\(∀c,cap=some c->c'=c)/\(cs≠[]->ad.spot=none)/\
  (cs≠[]->∀off',dL K w (.fh cs off') (.pointer (some ⟨ad.block,ad.off+off',none⟩)))/\
  (∀(cs':List AV) (off' n' c1:Nat) (ad':Addr) (cap':Option Nat),(∀j,cs'[j]?=if j < cs'.length then cs[off'+j]? else none)->(cs'≠[]->ad'=⟨ad.block,ad.off+off',none⟩)->(cs'≠[]->cs≠[])->n'<=c1->(∀c,cap'=some c->c1=c)->
   dL K w (.b6 cs' n' cap') (.slice (some ad') n' c1)):=by
 cases r with
 |pure r=>cases r with
  |b6 cs n cap ad c' f hK hn hcap hone hc hr=>
   refine⟨ad,c',rfl,hn,hcap,fun hne=>(hK hne).1,fun hne off'=>.fh cs ad.block ad.off off' f (hK hne).2 hone hc hr,fun cs' off' n' c1 ad' cap' hat had hne hn' qkb=>?_⟩;have qkc:∀(j:Nat) (a:AV),cs'[j]?=some a->cs[off'+j]?=some a:=by
    intro j a ha;have:=hat j;rw [ha] at this;split at this
    ·exact this.symm
    ·cases this
   refine .b6 cs' n' cap' ad' c1 (fun j=>f (off'+j)) (fun qxP=>?_) hn' qkb (fun j a ha=>hone _ a (qkc j a ha)) (fun j hj=>?_) (fun j a ha=>hr _ a (qkc j a ha))
   ·rw [had qxP];exact⟨rfl,(hK (hne qxP)).2⟩
   ·have qxP:cs'≠[]:=by rintro rfl;simp at hj
    rw [had qxP];have hlt:off'+j < cs.length:=by
     have:=qkc j _ (PU hj);rcases Nat.lt_or_ge (off'+j) cs.length with h1|h1
     ·exact h1
     ·rw [PZ h1] at this;cases this
    simp only;rw [Nat.add_assoc];exact hc _ hlt
theorem s8 (ad:Addr) (hs:ad.spot=none):ad=⟨ad.block,ad.off,none⟩:=by cases ad;simp at hs;simp [hs]
def ze (P:Program) (o:Oper) (es:Nat) (x i:aH):Bool:=match o.op with
 |.indexAddr t x' i'=>bn x' x&&bn i' i&&z8 P t es
 |_=>false
theorem Fe (s:bM top φ K h nx w) (hρ:∀x y,bn x y=true->aG φ K w (ρ y) (ρc x)) {es:Nat} {x i:aH} (hm:ze P o es x i=true) {p:aO} (hp:gH ρ es x i=some p):Sound top P φ K h nx w ρc o p:=by
 unfold ze at hm;split at hm
 ·rename_i t x' i' ho;simp only [Qk] at hm;obtain⟨⟨h1,h2⟩,h3⟩:=hm;obtain⟨e,hu,hs⟩:=mE h3;have hrx:=hρ _ _ h1;have hri:=hρ _ _ h2;have hrun:∀(ad:Addr) (len c':Nat) (k:IntKind) (m:Nat),m < len->(Instr.indexAt t (.slice (some ad) len c') (.int k (m:Int))).run P w=.ok (.pointer (some (ad.add (m*es)))) w:=by intro ad len c' k m hlt;simp [Instr.indexAt,run_underlying hu,asIntOf,hlt,dN hs]
  unfold gH at hp;split at hp
  ·rename_i k iv hi;rw [hi] at hri;have hI:=c4 hri;split at hp
   ·rename_i cs n cap hx;split at hp
    ·rename_i m hix;obtain⟨rfl,hlt⟩:=nJ hix;split at hp
     ·cases hp
     ·rename_i a0 cs0;cases hp;rw [hx] at hrx;obtain⟨ad,c',hV,_,_,qzd,hip,_⟩:=wS hrx;have hne:(a0::cs0)≠[]:=by simp
      refine aL s (V:=.pointer (some ⟨ad.block,ad.off+m*es,none⟩)) ?_ (.pure (hip hne _));simp only [execOp,ho,hV,hI];refine ep ?_;rw [hrun ad n c' k m hlt];rw [s8 ad (qzd hne),Addr.add_lit]
    ·cases hp
   ·rename_i id g off es' len cap ex hx;simp only [cond_eq_ite,Qn] at hp;split at hp
    ·rename_i hes;subst hes;split at hp
     ·rename_i m hix;obtain⟨rfl,hlt⟩:=nJ hix;cases hp;rw [hx] at hrx;obtain⟨b,base,ad,c',hV,hb,hl1,hl2,_,had⟩:=dP hrx;have h0:c'≠0:=by omega
      obtain⟨rfl,_⟩:=had h0;refine aL s (V:=.pointer (some ⟨b,base+(off+m*es'),none⟩)) ?_ (.ptr id g _ b base hb);simp only [execOp,ho,hV,hI];refine ep ?_;rw [hrun _ len c' k m hlt,Addr.add_lit,Nat.add_assoc]
     ·cases hp
    ·cases hp
   ·cases hp
  ·cases hp
 ·cases hm
def DJ (P:Program) (o:Oper) (len es:Nat) (x i:aH):Bool:=match o.op with
 |.indexAddr t x' i'=>bn x' x&&bn i' i&&GR P t len es
 |_=>false
theorem G5 (s:bM top φ K h nx w) (hρ:∀x y,bn x y=true->aG φ K w (ρ y) (ρc x)) {len es:Nat} {x i:aH} (hm:DJ P o len es x i=true) {p:aO} (hp:kz ρ len es x i=some p):Sound top P φ K h nx w ρc o p:=by
 unfold DJ at hm;split at hm
 ·rename_i t x' i' ho;simp only [Qk] at hm;obtain⟨⟨h1,h2⟩,h3⟩:=hm;obtain⟨e,hu,hs⟩:=tJ h3;have hrx:=hρ _ _ h1;have hri:=hρ _ _ h2;have hrun:∀(b q:Nat) (k:IntKind) (m:Nat),m < len->(Instr.indexAt t (.pointer (some ⟨b,q,none⟩)) (.int k (m:Int))).run P w=.ok (.pointer (some ⟨b,q+m*es,none⟩)) w:=by intro b q k m hlt;simp [Instr.indexAt,run_underlying hu,asIntOf,Instr.sureAddr,hlt,dN hs,Addr.add_lit]
  unfold kz at hp;split at hp
  ·rename_i k iv hi;rw [hi] at hri;have hI:=c4 hri;split at hp
   ·rename_i m hix;obtain⟨rfl,hlt⟩:=nJ hix;split at hp
    ·rename_i id g q hx;cases hp;rw [hx] at hrx;obtain⟨b,base,hb,hV⟩:=jG hrx;refine aL s (V:=.pointer (some ⟨b,base+(q+m*es),none⟩)) ?_ (.ptr id g _ b base hb);simp only [execOp,ho,hV,hI];refine ep ?_;rw [hrun _ _ k m hlt,Nat.add_assoc]
    ·rename_i cs q hx;cases hp;rw [hx] at hrx;obtain⟨b,o1,hV,hre⟩:=tR hrx;refine aL s (V:=.pointer (some ⟨b,o1+(q+m*es),none⟩)) ?_ (.pure (hre _));simp only [execOp,ho,hV,hI];refine ep ?_;rw [hrun _ _ k m hlt,Nat.add_assoc]
    ·cases hp
   ·cases hp
  ·cases hp
 ·cases hm
def Cb (P:Program) (t:TypeId):Bool:=ek P t fun d=>match d with|.string=>true|_=>false
theorem lz {t:TypeId} (hm:Cb P t=true):P.underlying t=some .string:=by
 obtain⟨d,hd,h1⟩:=aX hm;split at h1
 ·exact hd
 ·cases h1
def mIdx (P:Program) (o:Oper) (x i:aH):Bool:=match o.op with
 |.index t x' i'=>bn x' x&&bn i' i&&Cb P t
 |_=>false
theorem I8 (s:bM top φ K h nx w) (hρ:∀x y,bn x y=true->aG φ K w (ρ y) (ρc x)) {x i:aH} (hm:mIdx P o x i=true) {p:aO} (hp:w8 ρ x i=some p):Sound top P φ K h nx w ρc o p:=by
 unfold mIdx at hm;split at hm
 ·rename_i t x' i' ho;simp only [Qk] at hm;obtain⟨⟨h1,h2⟩,h3⟩:=hm;have hu:=lz h3;have hrx:=hρ _ _ h1;have hri:=hρ _ _ h2;unfold w8 at hp;split at hp
  ·rename_i q hx;split at hp
   ·rename_i k m hi;split at hp
    ·rename_i b hb;cases hp;rw [hx] at hrx;rw [hi] at hri;have hX:=iG hrx;have hI:=c4 hri;refine aL s (V:=.int .u8 b.toNat) ?_ (.pure (.int _ _));simp only [execOp,ho,hX,hI];refine ep ?_;have h0:(0:Int)<=Int.ofNat m:=Int.natCast_nonneg m;simp [Instr.index,run_underlying hu,asIntOf,h0,hb]
    ·cases hp
   ·cases hp
  ·cases hp
 ·cases hm
def HH (o:Oper) (i:Nat) (x:aH):Bool:=match o.op with
 |.extract x' i'=>bn x' x&&Nat.beq i' i
 |_=>false
theorem I_ (s:bM top φ K h nx w) (hρ:∀x y,bn x y=true->aG φ K w (ρ y) (ρc x)) {i:Nat} {x:aH} (hm:HH o i x=true) {p:aO} (hp:w_ ρ i x=some p):Sound top P φ K h nx w ρc o p:=by
 unfold HH at hm;split at hm
 ·rename_i x' i' ho;simp only [Qk,Qn] at hm;obtain⟨h1,rfl⟩:=hm;have hr:=hρ _ _ h1;unfold w_ at hp;split at hp
  ·rename_i vs hx;obtain⟨v,hv,rfl⟩:=dw hp;rw [hx] at hr;obtain⟨us,hV,hl,hrr⟩:=vg hr;obtain⟨u,r1,r2⟩:=hrr _ _ hv;refine aL s (V:=u) ?_ r2;simp only [execOp,ho];refine ep ?_;simp [Instr.extract,hV,r1]
  ·cases hp
 ·cases hm
theorem eW {b:Builtin} {args:Array Operand} {tys:Array TypeId} {V:Value} {w':World} {x:Sem Value} (ho:o.op=.call {callee:=.builtin b,args:=args,argTypes:=tys})
  (hb:∀consts,builtin b tys o.type consts (args.map ρc)=(do pure (Next.value (←x)):Sem Next)) (hr:x.run P w=.ok V w'):(execOp ρc o).run P w=.ok (.value V) w':=by
 simp only [execOp,ho,resolve,invoke,hb];simp only [Sem.run_bind,Sem.run_pure,Result.andThen_ok,hb,hr]
def HF (P:Program) (o:Oper) (str:Bool) (x:aH):Bool:=match o.op with
 |.call {callee:=.builtin .len,args:=⟨[x']⟩,argTypes:=⟨t::_⟩}=>bn x' x&&(match str with|true=>Cb P t|false=>ek P t fun d=>match d with|.slice _=>true|_=>false)
 |_=>false
theorem I7 (s:bM top φ K h nx w) (hρ:∀x y,bn x y=true->aG φ K w (ρ y) (ρc x)) {str:Bool} {x:aH} (hm:HF P o str x=true) {p:aO} (hp:iX ρ str x=some p):Sound top P φ K h nx w ρc o p:=by
 unfold HF at hm;split at hm
 ·rename_i x' t ts ho;simp only [Qk] at hm;obtain⟨h1,h2⟩:=hm;have hr:=hρ _ _ h1;have fin:∀(n:Nat),(Builtin.len_ ⟨t::ts⟩ o.type #[ρc x']).run P w=.ok (.int .i64 n) w->Sound top P φ K h nx w ρc o (dj (.int .i64 n)):=by intro n hrun;exact aL s (V:=.int .i64 n) (eW (x:=Builtin.len_ ⟨t::ts⟩ o.type #[ρc x']) ho (fun _=>by simp [builtin]) hrun) (.pure (.int _ _))
  unfold iX at hp;cases str with
  |true=>
   have hu:=lz h2;simp only at hp;split at hp
   ·rename_i q hx;cases hp;rw [hx] at hr;have hX:=iG hr;exact fin _ (by simp [Builtin.len_,hX,run_underlying hu,goInt])
   ·cases hp
  |false=>
   obtain⟨d,hd,h3⟩:=aX h2;split at h3
   ·simp only at hp;split at hp
    ·rename_i hx;cases hp;rw [hx] at hr;have hX:=cH hr;exact fin 0 (by simp [Builtin.len_,hX,run_underlying hd,goInt])
    ·rename_i cs n cap hx;cases hp;rw [hx] at hr;obtain⟨ad,c',hV,_⟩:=fM hr;exact fin n (by simp [Builtin.len_,hV,run_underlying hd,goInt])
    ·rename_i id g off es len cap ex hx;cases hp;rw [hx] at hr;obtain⟨b,base,ad,c',hV,_⟩:=dP hr;exact fin len (by simp [Builtin.len_,hV,run_underlying hd,goInt])
    ·cases hp
   ·cases h3
 ·cases hm
end
end Go.Ax
